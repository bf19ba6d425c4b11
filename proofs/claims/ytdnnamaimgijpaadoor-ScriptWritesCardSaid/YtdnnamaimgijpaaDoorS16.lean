/- The walk of written. Conditions: none. -/
import Derived.Test.YtdnnamaimgijpaaDoorS15
set_option linter.unusedVariables false
set_option linter.unusedSectionVars false
set_option maxRecDepth 10000
namespace Go.Proofs.YtdnnamaimgijpaaDoor
open Go Go.Sx Go.Proofs Go.Lib Go.RowKit

theorem cat10 (l : List UInt8) : (⟨l.toArray⟩ : ByteArray) ++ (⟨#[10]⟩ : ByteArray) = ⟨(l ++ [10]).toArray⟩ := by
  apply ByteArray.ext
  apply Array.ext'
  simp
theorem wordV_size (n : Int) : (wordV n).size ≤ 5 := by
  unfold wordV
  repeat' split
  all_goals decide
section
variable {w0 : World} {b1 : Nat} {s : StepV} {d k : Value} {R : Value → World → Prop} {X : List PanicEntry → World → Prop} {o : Option (List UInt8)} (hg : Glb w0)
  (hd : SlAt 5 1 w0 d s.data.length (byteCells s.data)) (hk : SlAt 3 1 w0 k s.keep.length (s.keep.map (Value.int .i64))) (hdl : s.data.length ≤ 2147483647) (hkl : s.keep.length ≤ 2147483647)
  (hR : ∀ l w', o = some l → l.length ≤ 1000000000000 → Below w0.heap.size w0 w' → R (.string ⟨l.toArray⟩) w')
  (hX : ∀ w', o = none → Below w0.heap.size w0 w' → X (wrongE 192) w')
include hg hd hk hdl hkl hR hX
abbrev boxB (b1 : Nat) (s : StepV) (d k : Value) : Nat × Obj := (b1, .cells (cells5 s.kind s.conn d s.brk k) 44 (0, 0))
/-- The words so far. -/
def Wr (w0 : World) (b1 : Nat) (s : StepV) (d k : Value) (n t : Nat) (l : List ByteArray) (v : Value) (w : World) : Prop := ∃ I, WRow v l I ∧ l ≠ [] ∧ l.length ≤ n ∧ tot l ≤ t ∧ Has w0 w (I ++ [boxB b1 s d k])
theorem w_num {w : World} {n : Int} {L : List (Nat × Obj)} (H : Has w0 w L) (hn : wnum n = none → o = none) {K : Value → World → Prop} (kk : ∀ x w', wnum n = some x → x.size ≤ 32 → Has w0 w' L → K (.string x) w') : CallF P 71 [.int .i64 n] w K X := by
  refine CallF.tries (f71.enters _ _) (wordOf_try n w (hg.has H)) ?_ ?_
  · rintro _ w2 ⟨x, hx, rfl, hb⟩
    exact kk x w2 hx (wnum_size hx) (H.below hb)
  · rintro _ w2 ⟨rfl, hx, hb⟩
    exact hX _ (hn hx) (H.below hb).toBelow
theorem w_j5 {w : World} {v : Value} {l : List ByteArray} (h : Wr w0 b1 s d k 7 8589944000 l v w) (ho : o = (keepsA s.keep l).map joinW) : f41.j5 R X (pt b1) v w := by
  unfold f41.j5
  obtain ⟨I, hr, hne, hn, ht, H⟩ := h
  refine Do.ok run_fld (Do.ld H.swap 0 rfl rfl (Do.ok hk.len ?_))
  refine ⟨fun kk y x w' => ∃ (i : Nat) (l' : List ByteArray), kk + i = s.keep.length ∧ x = .int .i64 i ∧ Wr w0 b1 s d k (7 + i) (8589944000 + 32 * i) l' y w' ∧ o = (keepsA (s.keep.drop i) l').map joinW, ⟨s.keep.length, 0, l, by omega, rfl, ⟨I, hr, hne, hn, ht, H⟩, ho⟩, ?_⟩
  rintro kk σ w2 ⟨i, l', hkk, hx, ⟨I2, hr2, hne2, hn2, ht2, H2⟩, ho2⟩
  rw [hx]
  unfold f41.l6
  refine Do.dec run_lss (fun hlt => If.t ?_) (fun hge => If.f ?_)
  · have hi : i < s.keep.length := by omega
    obtain ⟨bb, oo, cs, fz, hw, hidx, hcs⟩ := hk.idx (t := 42) (e := 3) hi
    have hc := hcs 0 (by omega)
    simp only [Nat.add_zero, Nat.mul_one, List.getElem?_map, List.getElem?_eq_getElem hi, Option.map_some] at hc
    rw [List.drop_eq_getElem_cons hi] at ho2
    generalize s.keep[i] = m at *
    refine Do.ok (hidx w2) (Do.ok (run_loadBase H2 hw hc) (w_num hg hd hk hdl hkl hR hX H2 (fun h => by rw [ho2, keepsA, h]; rfl) ?_))
    intro x w3 hx hxs H3
    refine appW H3 hr2 x (by omega) ?_
    intro v' I' w4 hr4 H4
    refine Do.ok (run_addi (a := (i : Int)) (b := 1) (by omega)) ⟨kk - 1, by omega, i + 1, l' ++ [x], by omega, rfl, ⟨I', hr4, by simp, by simp; omega, ?_, H4⟩, ?_⟩
    · rw [tot_append]; simp [tot] at ht2 ⊢; omega
    · rw [ho2, keepsA, hx]
  · rw [List.drop_eq_nil_of_le (by omega), keepsA] at ho2
    refine joinC H2 hr2 hne2 (by omega) (by omega) ?_
    intro w3 H3
    have hjl := join_len l'
    refine Do.ok (run_cat (by
      have h1 : (⟨(Lib.join (l'.map (·.data.toList)) [32]).toArray⟩ : ByteArray).size = (Lib.join (l'.map (·.data.toList)) [32]).length := by show (Lib.join _ [32]).toArray.size = _; simp
      have h2 : (⟨#[10]⟩ : ByteArray).size = 1 := rfl
      rw [h1, h2]; omega)) ?_
    rw [cat10]
    have hjw : (joinW l').length = (Lib.join (l'.map (·.data.toList)) [32]).length + 1 := by unfold joinW; rw [List.length_append]; rfl
    exact hR (joinW l') _ ho2 (by omega) H3.toBelow
theorem w_j4 {w : World} {v : Value} {l : List ByteArray} (h : Wr w0 b1 s d k 6 8589943000 l v w) (ho : o = wKeep s l) : f41.j4 R X (pt b1) v w := by
  unfold f41.j4
  refine ⟨fun x w' => ∃ l', Wr w0 b1 s d k 7 8589944000 l' x w' ∧ o = (keepsA s.keep l').map joinW, ?_, ?_⟩
  · rintro σ w2 ⟨l', h2, ho2⟩
    exact w_j5 hg hd hk hdl hkl hR hX h2 ho2
  obtain ⟨I, hr, hne, hn, ht, H⟩ := h
  refine Do.ok run_fld (Do.ld H.swap 0 rfl rfl (Do.ok hk.len (Do.dec run_gtr (fun h => If.t ?_) (fun h => If.f ?_))))
  · refine appW H hr keepW (by omega) ?_
    intro v' I' w4 hr4 H4
    refine ⟨l ++ [keepW], ⟨I', hr4, by simp, by simp; omega, ?_, H4⟩, ?_⟩
    · rw [tot_append]
      have : tot [keepW] = 4 := rfl
      omega
    · rw [ho, wKeep, if_neg]
      intro e; rw [e] at h; simp at h
  · refine ⟨l, ⟨I, hr, hne, by omega, by omega, H⟩, ?_⟩
    rw [ho, wKeep, if_pos (List.eq_nil_of_length_eq_zero (by omega))]
theorem w_j3 {w : World} {v : Value} {l : List ByteArray} (h : Wr w0 b1 s d k 4 8589942000 l v w) (ho : o = wBrk s l) : f41.j3 R X (pt b1) v w := by
  unfold f41.j3
  refine ⟨fun x w' => ∃ l', Wr w0 b1 s d k 6 8589943000 l' x w' ∧ o = wKeep s l', ?_, ?_⟩
  · rintro σ w2 ⟨l', h2, ho2⟩
    exact w_j4 hg hd hk hdl hkl hR hX h2 ho2
  obtain ⟨I, hr, hne, hn, ht, H⟩ := h
  refine Do.ok run_fld (Do.ld H.swap 0 rfl rfl (Do.dec run_nei (fun h => If.t ?_) (fun h => If.f ?_)))
  · unfold wBrk at ho
    rw [if_neg h] at ho
    refine Do.ok run_fld (Do.ld H.swap 0 rfl rfl (w_num hg hd hk hdl hkl hR hX H (fun h => by rw [ho, h]) ?_))
    intro x w3 hx hxs H3
    rw [hx] at ho
    refine appW2 H3 hr breakW x (by omega) ?_
    intro v' I' w4 hr4 H4
    refine ⟨l ++ [breakW, x], ⟨I', hr4, by simp, by simp; omega, ?_, H4⟩, ho⟩
    rw [tot_append]
    have : tot [breakW, x] = 5 + x.size := by simp [tot]; rfl
    omega
  · exact ⟨l, ⟨I, hr, hne, by omega, by omega, H⟩, by rw [ho, wBrk, if_pos (by omega)]⟩
theorem w_j2 {w : World} {v : Value} {l : List ByteArray} (h : Wr w0 b1 s d k 3 2000 l v w) (ho : o = wData s l) : f41.j2 R X (pt b1) v w := by
  unfold f41.j2
  refine ⟨fun x w' => ∃ l', Wr w0 b1 s d k 4 8589942000 l' x w' ∧ o = wBrk s l', ?_, ?_⟩
  · rintro σ w2 ⟨l', h2, ho2⟩
    exact w_j3 hg hd hk hdl hkl hR hX h2 ho2
  obtain ⟨I, hr, hne, hn, ht, H⟩ := h
  refine Do.ok run_fld (Do.ld H.swap 0 rfl rfl (Do.dec run_eqi (fun h => If.t ?_) (fun h => If.f ?_)))
  · rw [wData, if_pos h] at ho
    refine Do.ok run_fld (Do.ld H.swap 0 rfl rfl ?_)
    refine CallF.ret (f72.enters _ _) (data_ret d s.data (by omega) w (hd.below H.toBelow)) ?_
    rintro _ w3 ⟨rfl, hb⟩
    refine appW (H.below hb) hr _ (by omega) ?_
    intro v' I' w4 hr4 H4
    refine ⟨_, ⟨I', hr4, by simp, by simp; omega, ?_, H4⟩, ho⟩
    rw [tot_append]
    have h1 := flat_len s.data
    have : tot [(⟨(dataV s.data).toArray⟩ : ByteArray)] = (dataV s.data).length := by simp [tot]; show (dataV s.data).toArray.size = _; simp
    rw [this, dataV, List.length_cons]
    omega
  · exact ⟨l, ⟨I, hr, hne, by omega, by omega, H⟩, by rw [ho, wData, if_neg h]⟩
theorem w_j1 {w : World} (H : Has w0 w [boxB b1 s d k]) (ho : o = wConn s [wordV s.kind]) : f41.j1 R X (pt b1) w := by
  unfold f41.j1
  refine Do.ok run_fld (Do.ld H 0 rfl rfl (CallF.ret (f69.enters _ _) (word_ret s.kind w) ?_))
  rintro _ w1 ⟨rfl, rfl⟩
  refine Do.bs H (bs50 _) ?_
  intro b w2 H2
  have hws := wordV_size s.kind
  have hr : WRow (.slice (some ⟨b, 0, none⟩) 1 1) [wordV s.kind] [(b, .cells (([wordV s.kind].map Value.string) ++ []).toArray 9 (0, 0))] := Row.row (by simp) (by simp) (by simp) (by simp [maxLen])
  refine ⟨fun x w' => ∃ l', Wr w0 b1 s d k 3 2000 l' x w' ∧ o = wData s l', ?_, ?_⟩
  · rintro σ w3 ⟨l', h2, ho2⟩
    exact w_j2 hg hd hk hdl hkl hR hX h2 ho2
  refine Do.ok run_fld (Do.ld H2 1 rfl rfl (CallF.ret (f55.enters _ _) (hasConn_ret s.kind w2) ?_))
  rintro _ w3 ⟨rfl, rfl⟩
  have ht1 : tot [wordV s.kind] ≤ 5 := by simp [tot]; exact hws
  unfold wConn at ho
  cases hc : hasConnB s.kind with
  | false =>
    rw [hc, if_neg (by simp)] at ho
    exact If.f ⟨_, ⟨_, hr, by simp, by simp, by omega, H2⟩, ho⟩
  | true =>
    rw [hc, if_pos rfl] at ho
    refine If.t (Do.ok run_fld (Do.ld H2 1 rfl rfl (w_num hg hd hk hdl hkl hR hX H2 (fun h => by rw [ho, h]) ?_)))
    intro x w4 hx hxs H4
    rw [hx] at ho
    refine appW H4 hr x (by simp) ?_
    intro v' I' w5 hr5 H5
    refine ⟨_, ⟨I', hr5, by simp, by simp, ?_, H5⟩, ho⟩
    rw [tot_append]
    have : tot [x] = x.size := by simp [tot]
    omega
theorem segA {w : World} (H : Has w0 w [boxB b1 s d k]) {p : Bool} {KK : Value → World → Prop} (h : KK (.bool (p && decide (s.conn ≠ 0))) w) :
GuardK (.bool p) true (fun K => Do P (Instr.fieldAt 44 (pt b1) 1) w K X) w fun t17 w =>
GuardK (.bool p) true (fun K => Do P (Instr.loadAt 3 t17) w K X) w fun t18 w =>
GuardK (.bool p) true (fun K => Do P (binS BinOp.neq 3 (Operand.tmp 18) (Operand.const (Value.int IntKind.i64 0)) t18 (Value.int IntKind.i64 0)) w K X) w fun t19 w =>
Do P (pickS (.bool p) t19 (Value.bool false)) w (fun t20 w => KK t20 w) X := by
  have ldK : ∀ {K : Value → World → Prop}, K (.int .i64 s.kind) w → Do P (Instr.loadAt 3 (.pointer (some ⟨b1, 0 + 0, none⟩))) w K X := fun h => Do.ld H 0 rfl rfl h
  have ldC : ∀ {K : Value → World → Prop}, K (.int .i64 s.conn) w → Do P (Instr.loadAt 3 (.pointer (some ⟨b1, 0 + 1, none⟩))) w K X := fun h => Do.ld H 0 rfl rfl h
  have ldD : ∀ {K : Value → World → Prop}, K d w → Do P (Instr.loadAt 41 (.pointer (some ⟨b1, 0 + 2, none⟩))) w K X := fun h => Do.ld H 0 rfl rfl h
  have ldB : ∀ {K : Value → World → Prop}, K (.int .i64 s.brk) w → Do P (Instr.loadAt 3 (.pointer (some ⟨b1, 0 + 3, none⟩))) w K X := fun h => Do.ld H 0 rfl rfl h
  have ldP : ∀ {K : Value → World → Prop}, K k w → Do P (Instr.loadAt 42 (.pointer (some ⟨b1, 0 + 4, none⟩))) w K X := fun h => Do.ld H 0 rfl rfl h
  have lnD : ∀ {K : Value → World → Prop}, K (.int .i64 s.data.length) w → Do P (Builtin.len_ #[41] 3 #[d]) w K X := fun h => Do.ok hd.len h
  have lnP : ∀ {K : Value → World → Prop}, K (.int .i64 s.keep.length) w → Do P (Builtin.len_ #[42] 3 #[k]) w K X := fun h => Do.ok hk.len h
  have brkC : ∀ {K : Value → World → Prop}, K (.bool (hasBreakB s.kind)) w → CallF P 58 [.int .i64 s.kind] w K X := fun h => CallF.ret (f58.enters _ _) (hasBreak_ret s.kind w) (by rintro _ _ ⟨rfl, rfl⟩; exact h)
  have keepC : ∀ {K : Value → World → Prop}, K (.bool (hasKeepB s.kind)) w → CallF P 70 [.int .i64 s.kind] w K X := fun h => CallF.ret (f70.enters _ _) (hasKeep_ret s.kind w) (by rintro _ _ ⟨rfl, rfl⟩; exact h)
  cases p
  all_goals (repeat' (with_reducible first | refine brkC ?_ | refine keepC ?_ | refine ldK ?_ | refine ldC ?_ | refine ldD ?_ | refine ldB ?_ | refine ldP ?_ | refine lnD ?_ | refine lnP ?_ | refine Do.dec run_gtr (fun _ => ?_) (fun _ => ?_) | refine Do.dec run_eqi (fun _ => ?_) (fun _ => ?_) | refine Do.dec run_nei (fun _ => ?_) (fun _ => ?_) | refine Do.ok run_pickT ?_ | refine Do.ok run_pickF ?_ | refine Do.ok run_notT ?_ | refine Do.ok run_notF ?_ | refine GuardK.tt ?_ | refine GuardK.ff ?_ | refine GuardK.tf ?_ | refine GuardK.ft ?_ | refine GuardK.un ?_ | refine Do.ok run_fld ?_))
  all_goals first | (simpa [*] using h) | (rename_i q; simp at q; simpa [*] using h)
theorem segB {w : World} (H : Has w0 w [boxB b1 s d k]) {p : Bool} {KK : Value → World → Prop} (h : KK (.bool (p || (decide (s.kind ≠ 2) && decide (0 < s.data.length)))) w) :
GuardK (.bool p) false (fun K => Do P (Instr.fieldAt 44 (pt b1) 0) w K X) w fun t22 w =>
GuardK (.bool p) false (fun K => Do P (Instr.loadAt 3 t22) w K X) w fun t23 w =>
GuardK (.bool p) false (fun K => Do P (binS BinOp.neq 3 (Operand.tmp 23) (Operand.const (Value.int IntKind.i64 2)) t23 (Value.int IntKind.i64 2)) w K X) w fun t24 w =>
GuardK (.bool p) false (fun K => K t24 w) w fun t25 w =>
GuardK t25 true (fun K => Do P (Instr.fieldAt 44 (pt b1) 2) w K X) w fun t26 w =>
GuardK t25 true (fun K => Do P (Instr.loadAt 41 t26) w K X) w fun t27 w =>
GuardK t25 true (fun K => Do P (Builtin.len_ #[41] 3 #[t27]) w K X) w fun t28 w =>
GuardK t25 true (fun K => Do P (binOp BinOp.gtr 3 t28 (Value.int IntKind.i64 0)) w K X) w fun t29 w =>
GuardK (.bool p) false (fun K => Do P (pickS t25 t29 (Value.bool false)) w K X) w fun t30 w =>
Do P (pickS (.bool p) (Value.bool true) t30) w (fun t31 w => KK t31 w) X := by
  have ldK : ∀ {K : Value → World → Prop}, K (.int .i64 s.kind) w → Do P (Instr.loadAt 3 (.pointer (some ⟨b1, 0 + 0, none⟩))) w K X := fun h => Do.ld H 0 rfl rfl h
  have ldC : ∀ {K : Value → World → Prop}, K (.int .i64 s.conn) w → Do P (Instr.loadAt 3 (.pointer (some ⟨b1, 0 + 1, none⟩))) w K X := fun h => Do.ld H 0 rfl rfl h
  have ldD : ∀ {K : Value → World → Prop}, K d w → Do P (Instr.loadAt 41 (.pointer (some ⟨b1, 0 + 2, none⟩))) w K X := fun h => Do.ld H 0 rfl rfl h
  have ldB : ∀ {K : Value → World → Prop}, K (.int .i64 s.brk) w → Do P (Instr.loadAt 3 (.pointer (some ⟨b1, 0 + 3, none⟩))) w K X := fun h => Do.ld H 0 rfl rfl h
  have ldP : ∀ {K : Value → World → Prop}, K k w → Do P (Instr.loadAt 42 (.pointer (some ⟨b1, 0 + 4, none⟩))) w K X := fun h => Do.ld H 0 rfl rfl h
  have lnD : ∀ {K : Value → World → Prop}, K (.int .i64 s.data.length) w → Do P (Builtin.len_ #[41] 3 #[d]) w K X := fun h => Do.ok hd.len h
  have lnP : ∀ {K : Value → World → Prop}, K (.int .i64 s.keep.length) w → Do P (Builtin.len_ #[42] 3 #[k]) w K X := fun h => Do.ok hk.len h
  have brkC : ∀ {K : Value → World → Prop}, K (.bool (hasBreakB s.kind)) w → CallF P 58 [.int .i64 s.kind] w K X := fun h => CallF.ret (f58.enters _ _) (hasBreak_ret s.kind w) (by rintro _ _ ⟨rfl, rfl⟩; exact h)
  have keepC : ∀ {K : Value → World → Prop}, K (.bool (hasKeepB s.kind)) w → CallF P 70 [.int .i64 s.kind] w K X := fun h => CallF.ret (f70.enters _ _) (hasKeep_ret s.kind w) (by rintro _ _ ⟨rfl, rfl⟩; exact h)
  cases p
  all_goals (repeat' (with_reducible first | refine brkC ?_ | refine keepC ?_ | refine ldK ?_ | refine ldC ?_ | refine ldD ?_ | refine ldB ?_ | refine ldP ?_ | refine lnD ?_ | refine lnP ?_ | refine Do.dec run_gtr (fun _ => ?_) (fun _ => ?_) | refine Do.dec run_eqi (fun _ => ?_) (fun _ => ?_) | refine Do.dec run_nei (fun _ => ?_) (fun _ => ?_) | refine Do.ok run_pickT ?_ | refine Do.ok run_pickF ?_ | refine Do.ok run_notT ?_ | refine Do.ok run_notF ?_ | refine GuardK.tt ?_ | refine GuardK.ff ?_ | refine GuardK.tf ?_ | refine GuardK.ft ?_ | refine GuardK.un ?_ | refine Do.ok run_fld ?_))
  all_goals first | (simpa [*] using h) | (rename_i q; simp at q; simpa [*] using h)
theorem segC {w : World} (H : Has w0 w [boxB b1 s d k]) {p : Bool} {KK : Value → World → Prop} (h : KK (.bool (p || (!hasBreakB s.kind && decide (s.brk ≠ 0)))) w) :
GuardK (.bool p) false (fun K => Do P (Instr.fieldAt 44 (pt b1) 0) w K X) w fun t33 w =>
GuardK (.bool p) false (fun K => Do P (Instr.loadAt 3 t33) w K X) w fun t34 w =>
GuardK (.bool p) false (fun K => CallF P 58 [t34] w K X) w fun t35 w =>
GuardK (.bool p) false (fun K => Do P (Op.unary UnOp.not t35) w K X) w fun t36 w =>
GuardK (.bool p) false (fun K => K t36 w) w fun t37 w =>
GuardK t37 true (fun K => Do P (Instr.fieldAt 44 (pt b1) 3) w K X) w fun t38 w =>
GuardK t37 true (fun K => Do P (Instr.loadAt 3 t38) w K X) w fun t39 w =>
GuardK t37 true (fun K => Do P (binS BinOp.neq 3 (Operand.tmp 39) (Operand.const (Value.int IntKind.i64 0)) t39 (Value.int IntKind.i64 0)) w K X) w fun t40 w =>
GuardK (.bool p) false (fun K => Do P (pickS t37 t40 (Value.bool false)) w K X) w fun t41 w =>
Do P (pickS (.bool p) (Value.bool true) t41) w (fun t42 w => KK t42 w) X := by
  have ldK : ∀ {K : Value → World → Prop}, K (.int .i64 s.kind) w → Do P (Instr.loadAt 3 (.pointer (some ⟨b1, 0 + 0, none⟩))) w K X := fun h => Do.ld H 0 rfl rfl h
  have ldC : ∀ {K : Value → World → Prop}, K (.int .i64 s.conn) w → Do P (Instr.loadAt 3 (.pointer (some ⟨b1, 0 + 1, none⟩))) w K X := fun h => Do.ld H 0 rfl rfl h
  have ldD : ∀ {K : Value → World → Prop}, K d w → Do P (Instr.loadAt 41 (.pointer (some ⟨b1, 0 + 2, none⟩))) w K X := fun h => Do.ld H 0 rfl rfl h
  have ldB : ∀ {K : Value → World → Prop}, K (.int .i64 s.brk) w → Do P (Instr.loadAt 3 (.pointer (some ⟨b1, 0 + 3, none⟩))) w K X := fun h => Do.ld H 0 rfl rfl h
  have ldP : ∀ {K : Value → World → Prop}, K k w → Do P (Instr.loadAt 42 (.pointer (some ⟨b1, 0 + 4, none⟩))) w K X := fun h => Do.ld H 0 rfl rfl h
  have lnD : ∀ {K : Value → World → Prop}, K (.int .i64 s.data.length) w → Do P (Builtin.len_ #[41] 3 #[d]) w K X := fun h => Do.ok hd.len h
  have lnP : ∀ {K : Value → World → Prop}, K (.int .i64 s.keep.length) w → Do P (Builtin.len_ #[42] 3 #[k]) w K X := fun h => Do.ok hk.len h
  have brkC : ∀ {K : Value → World → Prop}, K (.bool (hasBreakB s.kind)) w → CallF P 58 [.int .i64 s.kind] w K X := fun h => CallF.ret (f58.enters _ _) (hasBreak_ret s.kind w) (by rintro _ _ ⟨rfl, rfl⟩; exact h)
  have keepC : ∀ {K : Value → World → Prop}, K (.bool (hasKeepB s.kind)) w → CallF P 70 [.int .i64 s.kind] w K X := fun h => CallF.ret (f70.enters _ _) (hasKeep_ret s.kind w) (by rintro _ _ ⟨rfl, rfl⟩; exact h)
  generalize hasBreakB s.kind = c at brkC h
  cases c <;> cases p
  all_goals (repeat' (with_reducible first | refine brkC ?_ | refine keepC ?_ | refine ldK ?_ | refine ldC ?_ | refine ldD ?_ | refine ldB ?_ | refine ldP ?_ | refine lnD ?_ | refine lnP ?_ | refine Do.dec run_gtr (fun _ => ?_) (fun _ => ?_) | refine Do.dec run_eqi (fun _ => ?_) (fun _ => ?_) | refine Do.dec run_nei (fun _ => ?_) (fun _ => ?_) | refine Do.ok run_pickT ?_ | refine Do.ok run_pickF ?_ | refine Do.ok run_notT ?_ | refine Do.ok run_notF ?_ | refine GuardK.tt ?_ | refine GuardK.ff ?_ | refine GuardK.tf ?_ | refine GuardK.ft ?_ | refine GuardK.un ?_ | refine Do.ok run_fld ?_))
  all_goals first | (simpa [*] using h) | (rename_i q; simp at q; simpa [*] using h)
theorem segD {w : World} (H : Has w0 w [boxB b1 s d k]) {p : Bool} {KK : Value → World → Prop} (h : KK (.bool (p || (!hasKeepB s.kind && decide (0 < s.keep.length)))) w) :
GuardK (.bool p) false (fun K => Do P (Instr.fieldAt 44 (pt b1) 0) w K X) w fun t44 w =>
GuardK (.bool p) false (fun K => Do P (Instr.loadAt 3 t44) w K X) w fun t45 w =>
GuardK (.bool p) false (fun K => CallF P 70 [t45] w K X) w fun t46 w =>
GuardK (.bool p) false (fun K => Do P (Op.unary UnOp.not t46) w K X) w fun t47 w =>
GuardK (.bool p) false (fun K => K t47 w) w fun t48 w =>
GuardK t48 true (fun K => Do P (Instr.fieldAt 44 (pt b1) 4) w K X) w fun t49 w =>
GuardK t48 true (fun K => Do P (Instr.loadAt 42 t49) w K X) w fun t50 w =>
GuardK t48 true (fun K => Do P (Builtin.len_ #[42] 3 #[t50]) w K X) w fun t51 w =>
GuardK t48 true (fun K => Do P (binOp BinOp.gtr 3 t51 (Value.int IntKind.i64 0)) w K X) w fun t52 w =>
GuardK (.bool p) false (fun K => Do P (pickS t48 t52 (Value.bool false)) w K X) w fun t53 w =>
Do P (pickS (.bool p) (Value.bool true) t53) w (fun t54 w => KK t54 w) X := by
  have ldK : ∀ {K : Value → World → Prop}, K (.int .i64 s.kind) w → Do P (Instr.loadAt 3 (.pointer (some ⟨b1, 0 + 0, none⟩))) w K X := fun h => Do.ld H 0 rfl rfl h
  have ldC : ∀ {K : Value → World → Prop}, K (.int .i64 s.conn) w → Do P (Instr.loadAt 3 (.pointer (some ⟨b1, 0 + 1, none⟩))) w K X := fun h => Do.ld H 0 rfl rfl h
  have ldD : ∀ {K : Value → World → Prop}, K d w → Do P (Instr.loadAt 41 (.pointer (some ⟨b1, 0 + 2, none⟩))) w K X := fun h => Do.ld H 0 rfl rfl h
  have ldB : ∀ {K : Value → World → Prop}, K (.int .i64 s.brk) w → Do P (Instr.loadAt 3 (.pointer (some ⟨b1, 0 + 3, none⟩))) w K X := fun h => Do.ld H 0 rfl rfl h
  have ldP : ∀ {K : Value → World → Prop}, K k w → Do P (Instr.loadAt 42 (.pointer (some ⟨b1, 0 + 4, none⟩))) w K X := fun h => Do.ld H 0 rfl rfl h
  have lnD : ∀ {K : Value → World → Prop}, K (.int .i64 s.data.length) w → Do P (Builtin.len_ #[41] 3 #[d]) w K X := fun h => Do.ok hd.len h
  have lnP : ∀ {K : Value → World → Prop}, K (.int .i64 s.keep.length) w → Do P (Builtin.len_ #[42] 3 #[k]) w K X := fun h => Do.ok hk.len h
  have brkC : ∀ {K : Value → World → Prop}, K (.bool (hasBreakB s.kind)) w → CallF P 58 [.int .i64 s.kind] w K X := fun h => CallF.ret (f58.enters _ _) (hasBreak_ret s.kind w) (by rintro _ _ ⟨rfl, rfl⟩; exact h)
  have keepC : ∀ {K : Value → World → Prop}, K (.bool (hasKeepB s.kind)) w → CallF P 70 [.int .i64 s.kind] w K X := fun h => CallF.ret (f70.enters _ _) (hasKeep_ret s.kind w) (by rintro _ _ ⟨rfl, rfl⟩; exact h)
  generalize hasKeepB s.kind = c at keepC h
  cases c <;> cases p
  all_goals (repeat' (with_reducible first | refine brkC ?_ | refine keepC ?_ | refine ldK ?_ | refine ldC ?_ | refine ldD ?_ | refine ldB ?_ | refine ldP ?_ | refine lnD ?_ | refine lnP ?_ | refine Do.dec run_gtr (fun _ => ?_) (fun _ => ?_) | refine Do.dec run_eqi (fun _ => ?_) (fun _ => ?_) | refine Do.dec run_nei (fun _ => ?_) (fun _ => ?_) | refine Do.ok run_pickT ?_ | refine Do.ok run_pickF ?_ | refine Do.ok run_notT ?_ | refine Do.ok run_notF ?_ | refine GuardK.tt ?_ | refine GuardK.ff ?_ | refine GuardK.tf ?_ | refine GuardK.ft ?_ | refine GuardK.un ?_ | refine Do.ok run_fld ?_))
  all_goals first | (simpa [*] using h) | (rename_i q; simp at q; simpa [*] using h)
theorem segE {w : World} (H : Has w0 w [boxB b1 s d k]) {p : Bool} {KK : Value → World → Prop} (h : KK (.bool (p || (decide (s.kind ≠ 6) && decide (s.brk = 0) && decide (0 < s.keep.length)))) w) :
GuardK (.bool p) false (fun K => Do P (Instr.fieldAt 44 (pt b1) 0) w K X) w fun t57 w =>
GuardK (.bool p) false (fun K => Do P (Instr.loadAt 3 t57) w K X) w fun t58 w =>
GuardK (.bool p) false (fun K => Do P (binS BinOp.neq 3 (Operand.tmp 58) (Operand.const (Value.int IntKind.i64 6)) t58 (Value.int IntKind.i64 6)) w K X) w fun t59 w =>
GuardK (.bool p) false (fun K => K t59 w) w fun t60 w =>
GuardK t60 true (fun K => Do P (Instr.fieldAt 44 (pt b1) 3) w K X) w fun t61 w =>
GuardK t60 true (fun K => Do P (Instr.loadAt 3 t61) w K X) w fun t62 w =>
GuardK t60 true (fun K => Do P (binS BinOp.eql 3 (Operand.tmp 62) (Operand.const (Value.int IntKind.i64 0)) t62 (Value.int IntKind.i64 0)) w K X) w fun t63 w =>
GuardK (.bool p) false (fun K => Do P (pickS t60 t63 (Value.bool false)) w K X) w fun t64 w =>
GuardK (.bool p) false (fun K => K t64 w) w fun t65 w =>
GuardK t65 true (fun K => Do P (Instr.fieldAt 44 (pt b1) 4) w K X) w fun t66 w =>
GuardK t65 true (fun K => Do P (Instr.loadAt 42 t66) w K X) w fun t67 w =>
GuardK t65 true (fun K => Do P (Builtin.len_ #[42] 3 #[t67]) w K X) w fun t68 w =>
GuardK t65 true (fun K => Do P (binOp BinOp.gtr 3 t68 (Value.int IntKind.i64 0)) w K X) w fun t69 w =>
GuardK (.bool p) false (fun K => Do P (pickS t65 t69 (Value.bool false)) w K X) w fun t70 w =>
Do P (pickS (.bool p) (Value.bool true) t70) w (fun t71 w => KK t71 w) X := by
  have ldK : ∀ {K : Value → World → Prop}, K (.int .i64 s.kind) w → Do P (Instr.loadAt 3 (.pointer (some ⟨b1, 0 + 0, none⟩))) w K X := fun h => Do.ld H 0 rfl rfl h
  have ldC : ∀ {K : Value → World → Prop}, K (.int .i64 s.conn) w → Do P (Instr.loadAt 3 (.pointer (some ⟨b1, 0 + 1, none⟩))) w K X := fun h => Do.ld H 0 rfl rfl h
  have ldD : ∀ {K : Value → World → Prop}, K d w → Do P (Instr.loadAt 41 (.pointer (some ⟨b1, 0 + 2, none⟩))) w K X := fun h => Do.ld H 0 rfl rfl h
  have ldB : ∀ {K : Value → World → Prop}, K (.int .i64 s.brk) w → Do P (Instr.loadAt 3 (.pointer (some ⟨b1, 0 + 3, none⟩))) w K X := fun h => Do.ld H 0 rfl rfl h
  have ldP : ∀ {K : Value → World → Prop}, K k w → Do P (Instr.loadAt 42 (.pointer (some ⟨b1, 0 + 4, none⟩))) w K X := fun h => Do.ld H 0 rfl rfl h
  have lnD : ∀ {K : Value → World → Prop}, K (.int .i64 s.data.length) w → Do P (Builtin.len_ #[41] 3 #[d]) w K X := fun h => Do.ok hd.len h
  have lnP : ∀ {K : Value → World → Prop}, K (.int .i64 s.keep.length) w → Do P (Builtin.len_ #[42] 3 #[k]) w K X := fun h => Do.ok hk.len h
  have brkC : ∀ {K : Value → World → Prop}, K (.bool (hasBreakB s.kind)) w → CallF P 58 [.int .i64 s.kind] w K X := fun h => CallF.ret (f58.enters _ _) (hasBreak_ret s.kind w) (by rintro _ _ ⟨rfl, rfl⟩; exact h)
  have keepC : ∀ {K : Value → World → Prop}, K (.bool (hasKeepB s.kind)) w → CallF P 70 [.int .i64 s.kind] w K X := fun h => CallF.ret (f70.enters _ _) (hasKeep_ret s.kind w) (by rintro _ _ ⟨rfl, rfl⟩; exact h)
  cases p
  all_goals (repeat' (with_reducible first | refine brkC ?_ | refine keepC ?_ | refine ldK ?_ | refine ldC ?_ | refine ldD ?_ | refine ldB ?_ | refine ldP ?_ | refine lnD ?_ | refine lnP ?_ | refine Do.dec run_gtr (fun _ => ?_) (fun _ => ?_) | refine Do.dec run_eqi (fun _ => ?_) (fun _ => ?_) | refine Do.dec run_nei (fun _ => ?_) (fun _ => ?_) | refine Do.ok run_pickT ?_ | refine Do.ok run_pickF ?_ | refine Do.ok run_notT ?_ | refine Do.ok run_notF ?_ | refine GuardK.tt ?_ | refine GuardK.ff ?_ | refine GuardK.tf ?_ | refine GuardK.ft ?_ | refine GuardK.un ?_ | refine Do.ok run_fld ?_))
  all_goals first | (simpa [*] using h) | (rename_i q; simp at q; simpa [*] using h)
theorem w_j0 {w : World} (H : Has w0 w [boxB b1 s d k]) (ho : o = if bareB s = true then none else wConn s [wordV s.kind]) : f41.j0 R X (pt b1) w := by
  unfold f41.j0
  refine Do.ok run_fld (Do.ld H 0 rfl rfl (CallF.ret (f55.enters _ _) (hasConn_ret s.kind w) ?_))
  rintro _ w1 ⟨rfl, rfl⟩
  refine Do.ok run_not (segA hg hd hk hdl hkl hR hX H (segB hg hd hk hdl hkl hR hX H (segC hg hd hk hdl hkl hR hX H (segD hg hd hk hdl hkl hR hX H ?_))))
  refine ⟨fun w' => w' = w1 ∧ bareB s = false, ?_, ?_⟩
  · rintro σ w' ⟨rfl, hb⟩
    rw [hb, if_neg (by simp)] at ho
    exact w_j1 hg hd hk hdl hkl hR hX H ho
  refine segE hg hd hk hdl hkl hR hX H ?_
  show If (.bool (bareB s)) _ _
  cases hb : bareB s with
  | true => exact If.t (CallF.fail (hX _ (by rw [ho, if_pos hb]) H.toBelow))
  | false => exact If.f ⟨rfl, rfl⟩
end
theorem written_try (c : Array Value) (s : StepV) (w : World) (hg : Glb w) (hs : StepIn w c s) (hdl : s.data.length ≤ 2147483647) (hkl : s.keep.length ≤ 2147483647) : Try 41 #[.agg c] w
    (fun v w' => ∃ l, writtenO s = some l ∧ l.length ≤ 1000000000000 ∧ v = .string ⟨l.toArray⟩ ∧ Below w.heap.size w w') (fun e w' => e = 192 ∧ writtenO s = none ∧ Below w.heap.size w w') := by
  obtain ⟨d, k, rfl, hd, hk⟩ := hs
  refine f41.calls ?_
  unfold f41.f
  refine Do.box (Has.init w) ?_
  intro b1 w1 H
  have H : Has w w1 [boxB b1 s d k] := H
  refine ⟨fun w' => w' = w1 ∧ (wordV s.kind).data.toList ≠ [], ?_, ?_⟩
  · rintro σ w2 ⟨rfl, hne⟩
    refine w_j0 (o := writtenO s) hg hd hk hdl hkl (fun l w' ho hl hb => ⟨l, ho, hl, rfl, hb⟩) (fun w' ho hb => ⟨192, rfl, rfl, ho, hb⟩) H ?_
    rw [writtenO, if_neg hne]
  · refine Do.ok run_fld (Do.ld H 0 rfl rfl (CallF.ret (f69.enters _ _) (word_ret s.kind w1) ?_))
    rintro _ w2 ⟨rfl, rfl⟩
    refine Do.dec run_eqs (fun h => If.t (CallF.fail ⟨192, rfl, rfl, ?_, H.toBelow⟩)) (fun h => If.f ⟨rfl, h⟩)
    rw [writtenO, if_pos h]
end Go.Proofs.YtdnnamaimgijpaaDoor
