/- The law's helpers: numbers, sameStep, same, beyond. Conditions: none. -/
import Derived.Test.YtdnnamaimgijpaaDoorS17
import Derived.Laws.StructEq
set_option linter.unusedVariables false
set_option linter.unusedSectionVars false
set_option maxRecDepth 10000
namespace Go.Proofs.YtdnnamaimgijpaaDoor
open Go Go.Sx Go.Proofs Go.Lib Go.RowKit

theorem StepAt.reads {c : Array Value} {s : StepV} {I L : List (Nat × Obj)} {w0 w : World} (h : StepAt c s I) (H : Has w0 w (I ++ L)) : StepIn w c s := by
  obtain ⟨d, k, Id, Ik, rfl, hd, hk, rfl⟩ := h
  have H1 : Has w0 w (Id ++ (Ik ++ L)) := by rw [← List.append_assoc]; exact H
  exact ⟨d, k, rfl, Row.reads hd H1, by have := Row.reads hk H1.swap3; simpa using this⟩
theorem StepsAt.reads {ss : List StepV} {xs : List Value} {I : List (Nat × Obj)} (h : StepsAt ss xs I) {w0 w : World} : ∀ {L : List (Nat × Obj)}, Has w0 w (I ++ L) → StepsIn w ss xs := by
  induction h with
  | nil => intro L H; exact .nil
  | @snoc ss xs I J c s h hs ih =>
    intro L H
    have H1 : Has w0 w (J ++ (I ++ L)) := by rw [← List.append_assoc]; exact H
    exact .snoc (ih H1.swap3) (hs.reads H1)
theorem PlayAt.reads {cs : Array Value} {c : Cfg} {ss : List StepV} {I L : List (Nat × Obj)} {w0 w : World} (h : PlayAt cs c ss I) (H : Has w0 w (I ++ L)) : PlayIn w cs c ss := by
  obtain ⟨v, xs, Iv, Is, rfl, hv, hs, rfl⟩ := h
  have H1 : Has w0 w (Iv ++ (Is ++ L)) := by rw [← List.append_assoc]; exact H
  exact ⟨v, xs, rfl, Row.reads hv H1, hs.reads H1.swap3⟩

abbrev ints (l : List Int) : List Value := l.map (Value.int .i64)
theorem SlAt.int {w : World} {v : Value} {l : List Int} (h : SlAt 3 1 w v l.length (ints l)) {i : Nat} (hi : i < l.length) : ∃ (b o : Nat) (cs : Array Value) (fz : Nat × Nat × Nat), w.heap[b]? = some (.cells cs fz.1 fz.2) ∧ (∀ w', (Instr.indexAt 42 v (.int .i64 (i : Int))).run P w' = .ok (.pointer (some ⟨b, o, none⟩)) w') ∧ cs[o]? = some (.int .i64 l[i]) := by
  obtain ⟨b, o, cs, fz, h1, h2, h3⟩ := h.idx (t := 42) (e := 3) hi
  refine ⟨b, o, cs, fz, h1, h2, ?_⟩
  have := h3 0 (by omega)
  simpa [hi] using this
theorem fiff {p : Prop} (h : ¬ p) : (false = true ↔ p) := ⟨fun h' => (by cases h'), fun hp => absurd hp h⟩
theorem numbers_ret (w : World) {v v' : Value} {l l' : List Int} (h : SlAt 3 1 w v l.length (ints l)) (h' : SlAt 3 1 w v' l'.length (ints l')) (hb : l.length ≤ 4611686018427387904) :
    Ret P 64 #[v, v'] w (fun r w' => ∃ b : Bool, r = .bool b ∧ (b = true ↔ l = l') ∧ Below w.heap.size w w') := by
  refine f64.calls ?_
  unfold f64.f
  refine Do.ok h.len (Do.ok h'.len (Do.dec run_nei (fun hne => If.t ?_) (fun heq => If.f ?_)))
  · exact ⟨false, rfl, fiff fun e => by rw [e] at hne; exact absurd rfl hne, Below.refl _ _⟩
  have hlen : l.length = l'.length := by omega
  refine ⟨fun k x w' => ∃ i : Nat, k + i = l.length ∧ x = .int .i64 i ∧ (∀ j (h1 : j < l.length) (h2 : j < l'.length), j < i → l[j] = l'[j]) ∧ Has w w' [], ⟨l.length, 0, by omega, rfl, fun j _ _ h => absurd h (by omega), Has.init w⟩, ?_⟩
  rintro k σ w2 ⟨i, hk, hx, hall, H⟩
  rw [hx]
  unfold f64.l0
  refine Do.ok h.len (Do.dec run_lss (fun hlt => If.t ?_) (fun hge => If.f ?_))
  case refine_2 =>
    exact ⟨true, rfl, ⟨fun _ => List.ext_getElem hlen fun j h1 h2 => hall j h1 h2 (by omega), fun _ => rfl⟩, H.toBelow⟩
  have hi : i < l.length := by omega
  have hi' : i < l'.length := by omega
  obtain ⟨b1, o1, c1, fz1, e1, x1, g1⟩ := h.int hi
  obtain ⟨b2, o2, c2, fz2, e2, x2, g2⟩ := h'.int hi'
  have Hd := H.drew
  refine ⟨fun w' => w' = drewW w2, rfl, ?_⟩
  refine Take.ok (fun w _ => x1 w) (Take.ok (v := .int .i64 l[i]) (fun w hS => by rw [hS]; exact run_loadBase Hd e1 g1) (Take.ok (fun w _ => x2 w) (Take.ok (v := .int .i64 l'[i]) (fun w hS => by rw [hS]; exact run_loadBase Hd e2 g2) ?_)))
  refine Take.dec (fun _ => run_nei) (fun hne => If.t ?_) (fun he => If.f ?_)
  · exact ⟨false, rfl, fiff fun e => by subst e; exact absurd rfl hne, Hd.toBelow⟩
  · refine Do.ok (run_addi (a := (i : Int)) (b := 1) (by omega)) ⟨k - 1, by omega, i + 1, by omega, rfl, fun j h1 h2 hj => ?_, Hd⟩
    by_cases hji : j = i
    · subst hji; exact Decidable.not_not.1 he
    · exact hall j h1 h2 (by omega)
theorem run_toStrSl {w0 w : World} {L : List (Nat × Obj)} (H : Has w0 w L) {v : Value} {l : List UInt8} (h : SlAt 5 1 w0 v l.length (byteCells l)) : (convert 41 9 v).run P w = .ok (.string ⟨l.toArray⟩) w := by
  obtain ⟨x, c, rfl, hc, hl, hp⟩ := h
  rcases Nat.eq_zero_or_pos l.length with h0 | h0
  · have : l = [] := List.eq_nil_of_length_eq_zero h0
    subst this
    cases x with
    | none => exact run_toStr_nil (P := P) (src := 41) (dst := 9)
    | some a =>
      have := run_convert_bytes_back (P := P) w 41 9 5 a c [] (by kernel_rfl) (by kernel_rfl) (by kernel_rfl) (fun j hj => by simp at hj)
      exact this
  · obtain ⟨b, o, cs, fz, rfl, hw, hcs⟩ := hp h0
    exact run_toStr (P := P) (src := 41) (dst := 9) (H.baseBlk hw) (fun j hj => by
      have hlt : j < (byteCells l).length := by simp [byteCells]; exact hj
      rw [hcs j hlt]
      simp [byteCells])
theorem StepV.ext' {s t : StepV} (h1 : s.kind = t.kind) (h2 : s.conn = t.conn) (h3 : s.data = t.data) (h4 : s.brk = t.brk) (h5 : s.keep = t.keep) : s = t := by
  cases s; cases t; simp_all
theorem sameStep_ret (w : World) {c c' : Array Value} {s s' : StepV} (h : StepIn w c s) (h' : StepIn w c' s') (hb : s.keep.length ≤ 4611686018427387904) :
    Ret P 35 #[.agg c, .agg c'] w (fun r w' => ∃ b : Bool, r = .bool b ∧ (b = true ↔ s = s') ∧ Below w.heap.size w w') := by
  obtain ⟨d, k, rfl, hd, hk⟩ := h
  obtain ⟨d', k', rfl, hd', hk'⟩ := h'
  refine f35.calls ?_
  unfold f35.f
  refine Do.box (Has.init w) ?_
  intro b2 w2 H2
  refine Do.box H2 ?_
  intro b3 w3 H3
  have H3 : Has w w3 [(b3, .cells (cells5 s'.kind s'.conn d' s'.brk k') 44 (0, 0)), (b2, .cells (cells5 s.kind s.conn d s.brk k) 44 (0, 0))] := H3
  refine Do.ok run_fld (Do.ld H3 1 rfl rfl (Do.ok run_fld (Do.ld H3 0 rfl rfl ?_)))
  refine CallF.ret (f64.enters _ _) (numbers_ret w3 (hk.below H3.toBelow) (hk'.below H3.toBelow) hb) ?_
  rintro _ w4 ⟨b, rfl, hbk, hbel⟩
  have H4 := H3.below hbel
  cases b with
  | false =>
    have hne : ¬ s.keep = s'.keep := fun e => by have := hbk.2 e; cases this
    (repeat' (with_reducible first | refine Do.dec run_lss (fun _ => ?_) (fun _ => ?_) | refine Do.dec run_gtr (fun _ => ?_) (fun _ => ?_) | refine Do.dec run_leq (fun _ => ?_) (fun _ => ?_) | refine Do.dec run_geq (fun _ => ?_) (fun _ => ?_) | refine Do.dec run_eqi (fun _ => ?_) (fun _ => ?_) | refine Do.dec run_nei (fun _ => ?_) (fun _ => ?_) | refine Do.dec run_eqs (fun _ => ?_) (fun _ => ?_) | refine Do.dec run_nes (fun _ => ?_) (fun _ => ?_) | refine Do.ok run_pickT ?_ | refine Do.ok run_pickF ?_ | refine Do.ok run_notT ?_ | refine Do.ok run_notF ?_ | refine GuardK.tt ?_ | refine GuardK.ff ?_ | refine GuardK.tf ?_ | refine GuardK.ft ?_ | refine GuardK.un ?_ | refine If.t ?_ | refine If.f ?_ | refine Do.ok run_lenS ?_ | refine Do.ok run_lenStr ?_ | refine Do.ok run_nilp ?_ | refine Do.ok run_fld ?_ | refine Do.ok (run_ext rfl) ?_ | refine GuardT.tt ?_ | refine GuardT.ff ?_ | refine GuardT.tf ?_ | refine GuardT.ft ?_ | refine GuardT.un ?_ | refine Take.ok (fun _ _ => run_fld) ?_ | refine Take.ok (fun _ _ => run_pickT) ?_ | refine Take.ok (fun _ _ => run_pickF) ?_ | refine Take.ok (fun _ _ => run_notT) ?_ | refine Take.ok (fun _ _ => run_notF) ?_ | refine Take.dec (fun _ => run_lss) (fun _ => ?_) (fun _ => ?_) | refine Take.dec (fun _ => run_gtr) (fun _ => ?_) (fun _ => ?_) | refine Take.dec (fun _ => run_leq) (fun _ => ?_) (fun _ => ?_) | refine Take.dec (fun _ => run_eqi) (fun _ => ?_) (fun _ => ?_) | refine Take.dec (fun _ => run_nei) (fun _ => ?_) (fun _ => ?_) | refine Take.dec (fun _ => run_eqs) (fun _ => ?_) (fun _ => ?_)))
    exact ⟨false, rfl, fiff fun e => absurd (by rw [e]) hne, H4.toBelow⟩
  | true =>
  have hkeep := hbk.1 rfl
  refine GuardK.tt (Do.ok run_fld (GuardK.tt (Do.ld H4 1 rfl rfl (GuardK.tt (Do.ok run_fld (GuardK.tt (Do.ld H4 0 rfl rfl (GuardK.tt (Do.dec run_eqi (fun e1 => ?_) (fun e1 => ?_))))))))))
  case refine_2 =>
    (repeat' (with_reducible first | refine Do.dec run_lss (fun _ => ?_) (fun _ => ?_) | refine Do.dec run_gtr (fun _ => ?_) (fun _ => ?_) | refine Do.dec run_leq (fun _ => ?_) (fun _ => ?_) | refine Do.dec run_geq (fun _ => ?_) (fun _ => ?_) | refine Do.dec run_eqi (fun _ => ?_) (fun _ => ?_) | refine Do.dec run_nei (fun _ => ?_) (fun _ => ?_) | refine Do.dec run_eqs (fun _ => ?_) (fun _ => ?_) | refine Do.dec run_nes (fun _ => ?_) (fun _ => ?_) | refine Do.ok run_pickT ?_ | refine Do.ok run_pickF ?_ | refine Do.ok run_notT ?_ | refine Do.ok run_notF ?_ | refine GuardK.tt ?_ | refine GuardK.ff ?_ | refine GuardK.tf ?_ | refine GuardK.ft ?_ | refine GuardK.un ?_ | refine If.t ?_ | refine If.f ?_ | refine Do.ok run_lenS ?_ | refine Do.ok run_lenStr ?_ | refine Do.ok run_nilp ?_ | refine Do.ok run_fld ?_ | refine Do.ok (run_ext rfl) ?_ | refine GuardT.tt ?_ | refine GuardT.ff ?_ | refine GuardT.tf ?_ | refine GuardT.ft ?_ | refine GuardT.un ?_ | refine Take.ok (fun _ _ => run_fld) ?_ | refine Take.ok (fun _ _ => run_pickT) ?_ | refine Take.ok (fun _ _ => run_pickF) ?_ | refine Take.ok (fun _ _ => run_notT) ?_ | refine Take.ok (fun _ _ => run_notF) ?_ | refine Take.dec (fun _ => run_lss) (fun _ => ?_) (fun _ => ?_) | refine Take.dec (fun _ => run_gtr) (fun _ => ?_) (fun _ => ?_) | refine Take.dec (fun _ => run_leq) (fun _ => ?_) (fun _ => ?_) | refine Take.dec (fun _ => run_eqi) (fun _ => ?_) (fun _ => ?_) | refine Take.dec (fun _ => run_nei) (fun _ => ?_) (fun _ => ?_) | refine Take.dec (fun _ => run_eqs) (fun _ => ?_) (fun _ => ?_)))
    exact ⟨false, rfl, fiff fun e => absurd (by rw [e]) e1, H4.toBelow⟩
  refine Do.ok run_pickT (GuardK.tt (Do.ok run_fld (GuardK.tt (Do.ld H4 1 rfl rfl (GuardK.tt (Do.ok run_fld (GuardK.tt (Do.ld H4 0 rfl rfl (GuardK.tt (Do.dec run_eqi (fun e2 => ?_) (fun e2 => ?_)))))))))))
  case refine_2 =>
    (repeat' (with_reducible first | refine Do.dec run_lss (fun _ => ?_) (fun _ => ?_) | refine Do.dec run_gtr (fun _ => ?_) (fun _ => ?_) | refine Do.dec run_leq (fun _ => ?_) (fun _ => ?_) | refine Do.dec run_geq (fun _ => ?_) (fun _ => ?_) | refine Do.dec run_eqi (fun _ => ?_) (fun _ => ?_) | refine Do.dec run_nei (fun _ => ?_) (fun _ => ?_) | refine Do.dec run_eqs (fun _ => ?_) (fun _ => ?_) | refine Do.dec run_nes (fun _ => ?_) (fun _ => ?_) | refine Do.ok run_pickT ?_ | refine Do.ok run_pickF ?_ | refine Do.ok run_notT ?_ | refine Do.ok run_notF ?_ | refine GuardK.tt ?_ | refine GuardK.ff ?_ | refine GuardK.tf ?_ | refine GuardK.ft ?_ | refine GuardK.un ?_ | refine If.t ?_ | refine If.f ?_ | refine Do.ok run_lenS ?_ | refine Do.ok run_lenStr ?_ | refine Do.ok run_nilp ?_ | refine Do.ok run_fld ?_ | refine Do.ok (run_ext rfl) ?_ | refine GuardT.tt ?_ | refine GuardT.ff ?_ | refine GuardT.tf ?_ | refine GuardT.ft ?_ | refine GuardT.un ?_ | refine Take.ok (fun _ _ => run_fld) ?_ | refine Take.ok (fun _ _ => run_pickT) ?_ | refine Take.ok (fun _ _ => run_pickF) ?_ | refine Take.ok (fun _ _ => run_notT) ?_ | refine Take.ok (fun _ _ => run_notF) ?_ | refine Take.dec (fun _ => run_lss) (fun _ => ?_) (fun _ => ?_) | refine Take.dec (fun _ => run_gtr) (fun _ => ?_) (fun _ => ?_) | refine Take.dec (fun _ => run_leq) (fun _ => ?_) (fun _ => ?_) | refine Take.dec (fun _ => run_eqi) (fun _ => ?_) (fun _ => ?_) | refine Take.dec (fun _ => run_nei) (fun _ => ?_) (fun _ => ?_) | refine Take.dec (fun _ => run_eqs) (fun _ => ?_) (fun _ => ?_)))
    exact ⟨false, rfl, fiff fun e => absurd (by rw [e]) e2, H4.toBelow⟩
  refine Do.ok run_pickT (GuardK.tt (Do.ok run_fld (GuardK.tt (Do.ld H4 1 rfl rfl (GuardK.tt (Do.ok run_fld (GuardK.tt (Do.ld H4 0 rfl rfl (GuardK.tt (Do.dec run_eqi (fun e3 => ?_) (fun e3 => ?_)))))))))))
  case refine_2 =>
    (repeat' (with_reducible first | refine Do.dec run_lss (fun _ => ?_) (fun _ => ?_) | refine Do.dec run_gtr (fun _ => ?_) (fun _ => ?_) | refine Do.dec run_leq (fun _ => ?_) (fun _ => ?_) | refine Do.dec run_geq (fun _ => ?_) (fun _ => ?_) | refine Do.dec run_eqi (fun _ => ?_) (fun _ => ?_) | refine Do.dec run_nei (fun _ => ?_) (fun _ => ?_) | refine Do.dec run_eqs (fun _ => ?_) (fun _ => ?_) | refine Do.dec run_nes (fun _ => ?_) (fun _ => ?_) | refine Do.ok run_pickT ?_ | refine Do.ok run_pickF ?_ | refine Do.ok run_notT ?_ | refine Do.ok run_notF ?_ | refine GuardK.tt ?_ | refine GuardK.ff ?_ | refine GuardK.tf ?_ | refine GuardK.ft ?_ | refine GuardK.un ?_ | refine If.t ?_ | refine If.f ?_ | refine Do.ok run_lenS ?_ | refine Do.ok run_lenStr ?_ | refine Do.ok run_nilp ?_ | refine Do.ok run_fld ?_ | refine Do.ok (run_ext rfl) ?_ | refine GuardT.tt ?_ | refine GuardT.ff ?_ | refine GuardT.tf ?_ | refine GuardT.ft ?_ | refine GuardT.un ?_ | refine Take.ok (fun _ _ => run_fld) ?_ | refine Take.ok (fun _ _ => run_pickT) ?_ | refine Take.ok (fun _ _ => run_pickF) ?_ | refine Take.ok (fun _ _ => run_notT) ?_ | refine Take.ok (fun _ _ => run_notF) ?_ | refine Take.dec (fun _ => run_lss) (fun _ => ?_) (fun _ => ?_) | refine Take.dec (fun _ => run_gtr) (fun _ => ?_) (fun _ => ?_) | refine Take.dec (fun _ => run_leq) (fun _ => ?_) (fun _ => ?_) | refine Take.dec (fun _ => run_eqi) (fun _ => ?_) (fun _ => ?_) | refine Take.dec (fun _ => run_nei) (fun _ => ?_) (fun _ => ?_) | refine Take.dec (fun _ => run_eqs) (fun _ => ?_) (fun _ => ?_)))
    exact ⟨false, rfl, fiff fun e => absurd (by rw [e]) e3, H4.toBelow⟩
  refine Do.ok run_pickT (GuardK.tt (Do.ok run_fld (GuardK.tt (Do.ld H4 1 rfl rfl (GuardK.tt (Do.ok (run_toStrSl H4 hd) (GuardK.tt (Do.ok run_fld (GuardK.tt (Do.ld H4 0 rfl rfl (GuardK.tt (Do.ok (run_toStrSl H4 hd') (GuardK.tt (Do.dec run_eqs (fun e4 => ?_) (fun e4 => ?_)))))))))))))))
  · exact Do.ok run_pickT ⟨true, rfl, ⟨fun _ => StepV.ext' e1 e2 (by simpa using e4) e3 hkeep, fun _ => rfl⟩, H4.toBelow⟩
  · exact Do.ok run_pickT ⟨false, rfl, fiff fun e => absurd (by rw [e]) e4, H4.toBelow⟩
theorem Cfg.ext' {c d : Cfg} (h1 : c.jobMax = d.jobMax) (h2 : c.segment = d.segment) (h3 : c.quota = d.quota) : c = d := by cases c; cases d; simp_all
theorem ne28 (c d : Cfg) (x y : Operand) (w : World) : ∃ b : Bool, (binS .neq 28 x y (.agg c.cells) (.agg d.cells)).run P w = .ok (.bool b) w ∧ (b = false ↔ c = d) := by
  have hg := run_eqGuard_agg (P := P) w .neq 28 x y c.cells d.cells (by kernel_rfl)
  have he := run_equalIn_struct (P := P) w 9999 28 c.cells d.cells (by kernel_rfl) (by kernel_rfl)
  have hf : (P.fieldsOf 28).toList = [Field.mk "JobMax" 3 0 false "" "" 0, Field.mk "Segment" 3 1 false "" "" 8, Field.mk "Quota" 3 2 false "" "" 16] := by kernel_rfl
  have hp : ∀ (c : Cfg) w, (part 3 c.cells 0).run P w = .ok (.int .i64 c.jobMax) w ∧ (part 3 c.cells 1).run P w = .ok (.int .i64 c.segment) w ∧ (part 3 c.cells 2).run P w = .ok (.int .i64 c.quota) w := fun c w => ⟨by kernel_rfl, by kernel_rfl, by kernel_rfl⟩
  have hi : ∀ (a b : Int) w, (Op.equalIn 9999 3 (.int .i64 a) (.int .i64 b)).run P w = .ok (a == b) w := fun a b w => run_equalIn_int w 9998 3 .i64 .i64 a b (by kernel_rfl)
  rw [hf] at he
  have hr := run_neq_struct (P := P) w 28 c.cells d.cells
  rw [he] at hr
  simp only [Op.eqFields, Sem.run_bind, (hp c w).1, (hp d w).1, (hp c w).2.1, (hp d w).2.1, (hp c w).2.2, (hp d w).2.2, hi, Result.andThen_ok, Sem.run_ite, Sem.run_pure] at hr
  have hb : (binS .neq 28 x y (.agg c.cells) (.agg d.cells)).run P w = (binOp .neq 28 (.agg c.cells) (.agg d.cells)).run P w := by
    unfold binS
    rw [Sem.run_bind, hg]
    rfl
  rw [hb, hr]
  by_cases h1 : c.jobMax = d.jobMax <;> by_cases h2 : c.segment = d.segment <;> by_cases h3 : c.quota = d.quota
  all_goals simp [h1, h2, h3]
  · exact Cfg.ext' h1 h2 h3
  all_goals (intro e; first | exact h1 (by rw [e]) | exact h2 (by rw [e]) | exact h3 (by rw [e]))
theorem same_ret (w : World) {cs cs' : Array Value} {c c' : Cfg} {ss ss' : List StepV} (h : PlayIn w cs c ss) (h' : PlayIn w cs' c' ss') (hb : ∀ s ∈ ss, s.keep.length ≤ 4611686018427387904) (hb2 : ss.length ≤ 4611686018427387904) :
    Ret P 13 #[.agg cs, .agg cs'] w (fun r w' => ∃ b : Bool, r = .bool b ∧ (b = true ↔ c = c' ∧ ss = ss') ∧ Below w.heap.size w w') := by
  obtain ⟨v, xs, rfl, hv, hs⟩ := h
  obtain ⟨v', xs', rfl, hv', hs'⟩ := h'
  refine f13.calls ?_
  unfold f13.f
  refine Do.box (Has.init w) ?_
  intro b2 w2 H2
  refine Do.box H2 ?_
  intro b3 w3 H3
  have H3 : Has w w3 [(b3, .cells (playCells c' v') 31 (0, 0)), (b2, .cells (playCells c v) 31 (0, 0))] := H3
  refine Do.ok run_fld (Do.ldN H3 1 rfl (Nat.le_of_ble_eq_true rfl) (Do.ok run_fld (Do.ldN H3 0 rfl (Nat.le_of_ble_eq_true rfl) ?_)))
  obtain ⟨b, hne, hbc⟩ := ne28 c c' (.tmp 8) (.tmp 10) w3
  refine Do.ok hne ?_
  cases b with
  | true =>
    have hcc : ¬ c = c' := fun e => by have := hbc.2 e; cases this
    refine GuardK.tf (GuardK.tf (GuardK.tf (GuardK.tf (GuardK.tf (GuardK.tf (GuardK.tf (Do.ok run_pickT (If.t ?_))))))))
    exact ⟨false, rfl, fiff fun e => absurd e.1 hcc, H3.toBelow⟩
  | false =>
  have hcc := hbc.1 rfl
  refine GuardK.ff (Do.ok run_fld (GuardK.ff (Do.ld H3 1 rfl rfl (GuardK.ff (Do.ok hv.len (GuardK.ff (Do.ok run_fld (GuardK.ff (Do.ld H3 0 rfl rfl (GuardK.ff (Do.ok hv'.len (GuardK.ff (Do.dec run_nei (fun hne => ?_) (fun heq => ?_))))))))))))))
  · refine Do.ok run_pickF (If.t ⟨false, rfl, fiff fun e => absurd (by rw [e.2]) hne, H3.toBelow⟩)
  have hlen : ss.length = ss'.length := by omega
  refine Do.ok run_pickF (If.f ?_)
  refine ⟨fun k x w' => ∃ i : Nat, k + i = ss.length ∧ x = .int .i64 i ∧ (∀ j (h1 : j < ss.length) (h2 : j < ss'.length), j < i → ss[j] = ss'[j]) ∧ Has w w' [(b3, .cells (playCells c' v') 31 (0, 0)), (b2, .cells (playCells c v) 31 (0, 0))],
    ⟨ss.length, 0, by omega, rfl, fun j _ _ h => absurd h (by omega), H3⟩, ?_⟩
  rintro k σ w4 ⟨i, hk, hx, hall, H⟩
  rw [hx]
  unfold f13.l0
  refine Do.ok run_fld (Do.ld H 1 rfl rfl (Do.ok hv.len (Do.dec run_lss (fun hlt => If.t ?_) (fun hge => If.f ?_))))
  case refine_2 =>
    exact ⟨true, rfl, ⟨fun _ => ⟨hcc, List.ext_getElem hlen fun j h1 h2 => hall j h1 h2 (by omega)⟩, fun _ => rfl⟩, H.toBelow⟩
  have hi : i < ss.length := by omega
  have hi' : i < ss'.length := by omega
  obtain ⟨b1, o1, c1, fz1, e1, x1, g1⟩ := hv.idx (t := 29) (e := 44) hi
  obtain ⟨sc, q1, q2⟩ := hs.get i hi
  obtain ⟨b4, o4, c4, fz4, e4, x4, g4⟩ := hv'.idx (t := 29) (e := 44) hi'
  obtain ⟨sc', r1, r2⟩ := hs'.get i hi'
  have Hd := H.drew
  refine ⟨fun w' => Has w w' [(b3, .cells (playCells c' v') 31 (0, 0)), (b2, .cells (playCells c v) 31 (0, 0))], Hd, ?_⟩
  refine Take.ok (fun w _ => run_fld) (Take.ok (v := v) (fun w hS => run_load1 ((cell_of_blk (hS.get 1 rfl) _).trans rfl)) (Take.ok (fun w _ => x1 w) (Take.ok (v := .agg sc) (fun w hS => load5 hS e1 q1.size (fun j hj => (g1 j hj).trans (q2 j hj))) ?_)))
  refine Take.ok (fun w _ => run_fld) (Take.ok (v := v') (fun w hS => run_load1 ((cell_of_blk (hS.get 0 rfl) _).trans rfl)) (Take.ok (fun w _ => x4 w) (Take.ok (v := .agg sc') (fun w hS => load5 hS e4 r1.size (fun j hj => (g4 j hj).trans (r2 j hj))) ?_)))
  refine CallF.ret (f35.enters _ _) (sameStep_ret _ (q1.below Hd.toBelow) (r1.below Hd.toBelow) (hb _ (List.getElem_mem hi))) ?_
  rintro _ w5 ⟨b, rfl, hbs, hbel⟩
  have H5 := Hd.below hbel
  refine ⟨H5, ?_⟩
  cases b with
  | false =>
    have hne : ¬ ss[i] = ss'[i] := fun e => by have := hbs.2 e; cases this
    exact Do.ok run_notF (If.t ⟨false, rfl, fiff fun e => absurd (by simp only [e.2]) hne, H5.toBelow⟩)
  | true =>
    refine Do.ok run_notT (If.f (Do.ok (run_addi (a := (i : Int)) (b := 1) (by omega)) ⟨k - 1, by omega, i + 1, by omega, rfl, fun j h1 h2 hj => ?_, H5⟩))
    by_cases hji : j = i
    · subst hji; exact hbs.1 rfl
    · exact hall j h1 h2 (by omega)
end Go.Proofs.YtdnnamaimgijpaaDoor
