/- Contract: Print. Conditions: none. -/
import Derived.Test.YtdnnamaimgijpaaDoorS16
set_option linter.unusedVariables false
set_option linter.unusedSectionVars false
set_option maxRecDepth 10000
namespace Go.Proofs.YtdnnamaimgijpaaDoor
open Go Go.Sx Go.Proofs Go.Lib Go.RowKit

def printStep (acc : List UInt8) (s : StepV) : Except Int (List UInt8) :=
  match writtenO s with
  | none => .error 192
  | some l => if 1048576 < acc.length + l.length then .error 193 else .ok (acc ++ l)
def printLoop : List StepV → List UInt8 → List UInt8 × Int
  | [], acc => (acc, 0)
  | s :: r, acc => match printStep acc s with
    | .error e => ([], e)
    | .ok acc => printLoop r acc
def printHead (c : Cfg) : List UInt8 := joinW [stintW, dec c.jobMax, dec c.segment, dec c.quota]
def printP (c : Cfg) (ss : List StepV) : List UInt8 × Int :=
  if c.right = false then ([], 190) else if 4000 < ss.length then ([], 194) else printLoop ss (printHead c)
inductive StepsIn (w : World) : List StepV → List Value → Prop
  | nil : StepsIn w [] []
  | snoc {ss : List StepV} {xs : List Value} {c : Array Value} {s : StepV} (h : StepsIn w ss xs) (hs : StepIn w c s) : StepsIn w (ss ++ [s]) (xs ++ c.toList)
def PlayIn (w : World) (cs : Array Value) (c : Cfg) (ss : List StepV) : Prop :=
  ∃ v xs, cs = playCells c v ∧ SlAt 44 5 w v ss.length xs ∧ StepsIn w ss xs
theorem StepIn.size {w : World} {c : Array Value} {s : StepV} (h : StepIn w c s) : c.size = 5 := by
  obtain ⟨d, k, rfl, _⟩ := h; rfl
theorem StepIn.flat {w : World} {c : Array Value} {s : StepV} (h : StepIn w c s) : ∀ x ∈ c.toList, ∀ q, x ≠ .agg q ∧ x ≠ .tuple q := by
  obtain ⟨d, k, rfl, ⟨_, _, rfl, _⟩, ⟨_, _, rfl, _⟩⟩ := h
  exact cells5_flat slice_flat slice_flat
theorem StepsIn.len {w : World} {ss : List StepV} {xs : List Value} (h : StepsIn w ss xs) : xs.length = ss.length * 5 := by
  induction h with
  | nil => rfl
  | snoc h hs ih => have h5 := hs.size; simp [ih]; omega
theorem StepsIn.get {w : World} {ss : List StepV} {xs : List Value} (h : StepsIn w ss xs) : ∀ (i : Nat) (hi : i < ss.length), ∃ c, StepIn w c ss[i] ∧ ∀ j, j < 5 → xs[i * 5 + j]? = c[j]? := by
  induction h with
  | nil => intro i hi; simp at hi
  | @snoc ss xs c s h hs ih =>
    intro i hi
    have hl := h.len
    by_cases hlt : i < ss.length
    · obtain ⟨c', h1, h2⟩ := ih i hlt
      refine ⟨c', by rw [List.getElem_append_left hlt]; exact h1, fun j hj => ?_⟩
      rw [List.getElem?_append_left (by omega)]; exact h2 j hj
    · have he : i = ss.length := by simp at hi; omega
      subst he
      refine ⟨c, by simpa using hs, fun j hj => ?_⟩
      rw [List.getElem?_append_right (by omega)]
      have : ss.length * 5 + j - xs.length = j := by omega
      rw [this]; simp
theorem StepsIn.sunk {w w' : World} {ss : List StepV} {xs : List Value} (h : StepsIn w ss xs) (hb : Below w.heap.size w w') : StepsIn w' ss xs := by
  induction h with
  | nil => exact .nil
  | snoc h hs ih => exact .snoc ih (hs.below hb)
theorem PlayIn.below {w w' : World} {cs : Array Value} {c : Cfg} {ss : List StepV} (h : PlayIn w cs c ss) (hb : Below w.heap.size w w') : PlayIn w' cs c ss := by
  obtain ⟨v, xs, h0, h1, h2⟩ := h
  exact ⟨v, xs, h0, h1.below hb, h2.sunk hb⟩
/-- A step of the play, read as a whole. -/
theorem load5 {w0 w : World} {L : List (Nat × Obj)} (H : Has w0 w L) {b o : Nat} {cs c : Array Value} {T : TypeId} {fz : Nat × Nat} (hb : w0.heap[b]? = some (.cells cs T fz)) (hc : c.size = 5) (h : ∀ j, j < 5 → cs[o + j]? = c[j]?) :
    (Instr.loadAt 44 (.pointer (some ⟨b, o, none⟩))).run P w = .ok (.agg c) w := by
  have hsz : o + 5 ≤ cs.size := by
    have h4 := h 4 (by omega)
    rw [Array.getElem?_eq_getElem (by omega : 4 < c.size)] at h4
    have := (Array.getElem?_eq_some_iff.1 h4).1
    omega
  rw [run_loadBaseN (t := 44) H hb hsz]
  congr 2
  apply Array.ext_getElem?
  intro j
  rw [Array.getElem?_extract]
  by_cases hj : j < 5
  · rw [if_pos (by omega)]; exact h j hj
  · rw [if_neg (by omega), Array.getElem?_eq_none (by omega)]
theorem print1 {w0 w : World} {L L0 : List (Nat × Obj)} {b7 b5 : Nat} {c : Array Value} {s : StepV} {acc : List UInt8} (hg : Glb w0) (hs : StepIn w0 c s) (hdl : s.data.length ≤ 2147483647) (hkl : s.keep.length ≤ 2147483647)
    (hb : Bld b5 acc L0) (hacc : acc.length ≤ 1048576) (H : Has w0 w ((b7, .cells c 44 (0, 0)) :: (L0 ++ L))) :
    Calls P 40 #[pt b7, pt b5] w (retd (fun _ w' => ∃ acc' L0', printStep acc s = .ok acc' ∧ Bld b5 acc' L0' ∧ acc'.length ≤ 1048576 ∧ Has w0 w' ((b7, .cells c 44 (0, 0)) :: (L0' ++ L)))
      (fun e w' => ∃ n, e = wrongE n ∧ printStep acc s = .error n ∧ Has w0 w' ((b7, .cells c 44 (0, 0)) :: (L0 ++ L)))) := by
  refine f40.calls ?_
  unfold f40.f
  refine Do.ldAll H 0 rfl hs.size ?_
  refine CallF.tries (f41.enters _ _) (written_try c s w (hg.has H) (hs.below H.toBelow) hdl hkl) ?_ ?_
  case refine_2 =>
    rintro _ w2 ⟨rfl, hn, hbl⟩
    exact ⟨192, rfl, by rw [printStep, hn], H.below hbl⟩
  rintro _ w2 ⟨l, hl, hll, rfl, hbl⟩
  have H2 := H.below hbl
  have H2' : Has w0 w2 (L0 ++ ((b7, .cells c 44 (0, 0)) :: L)) := H2.perm (by classical exact List.perm_iff_count.2 (fun a => by simp only [List.count_append, List.count_cons, List.count_nil, List.set_cons_zero, List.set_cons_succ, List.setIfInBounds_toArray, List.cons_append, List.nil_append, List.append_assoc]; omega))
  refine bldLen H2' hb ?_
  have hsz : (⟨l.toArray⟩ : ByteArray).size = l.length := by show l.toArray.size = _; simp
  refine Do.ok run_lenStr ?_
  rw [hsz]
  refine Do.ok (run_addi (a := (acc.length : Int)) (b := (l.length : Int)) (by omega)) (Do.dec run_gtr (fun h => If.t (CallF.fail ⟨193, rfl, ?_, H2⟩)) (fun h => If.f ?_))
  · rw [printStep, hl]; exact if_pos (by omega)
  · refine writeString H2' hb _ (by rw [hsz]; omega) ?_
    intro _ w3 L3 hb3 H3
    refine ⟨acc ++ l, L3, by rw [printStep, hl]; exact if_neg (by omega), by simpa using hb3, by rw [List.length_append]; omega, H3.perm (by classical exact List.perm_iff_count.2 (fun a => by simp only [List.count_append, List.count_cons, List.count_nil, List.set_cons_zero, List.set_cons_succ, List.setIfInBounds_toArray, List.cons_append, List.nil_append, List.append_assoc]; omega))⟩

theorem bs50d (a b c d : ByteArray) (w : World) : (Instr.buildSlice 50 4 #[(0, .string a), (1, .string b), (2, .string c), (3, .string d)]).run P w = .ok (.slice (some ⟨w.heap.size, 0, none⟩) 4 4) (w.alloc (.cells #[.string a, .string b, .string c, .string d] 9)) := by kernel_rfl
theorem dec_size {n : Int} (h0 : 0 ≤ n) (h : n ≤ 9223372036854775807) : (dec n).size ≤ 32 := by
  rw [dec_itoa (by omega) (by omega)]
  have := itoa_length_le n (by omega) (by omega)
  show (itoa n).toArray.size ≤ 32
  simpa using (by omega : (itoa n).length ≤ 32)
theorem right_range {c : Cfg} (h : c.right = true) : (1 ≤ c.jobMax ∧ c.jobMax ≤ 65535) ∧ (128 ≤ c.segment ∧ c.segment ≤ 1048576) ∧ (1024 ≤ c.quota ∧ c.quota ≤ 67108864) := by
  unfold Cfg.right withinB at h
  simp only [Bool.and_eq_true, decide_eq_true_eq] at h
  omega
theorem print_ret' (cs : Array Value) (c : Cfg) (ss : List StepV) (w : World) (hg : Glb w) (hp : PlayIn w cs c ss) (hsm : ∀ s ∈ ss, s.data.length ≤ 2147483647 ∧ s.keep.length ≤ 2147483647) :
    Ret P 16 #[.agg cs] w (fun v w' => v = .tuple #[.string ⟨(printP c ss).1.toArray⟩, .int .i64 (printP c ss).2] ∧ Below w.heap.size w w') := by
  obtain ⟨v, xs, rfl, hv, hst⟩ := hp
  refine f16.calls ?_
  unfold f16.f
  refine Do.box (Has.init w) ?_
  intro b1 w1 H1
  have H1 : Has w w1 [(b1, .cells (playCells c v) 31 (0, 0))] := H1
  refine Do.ok run_fld (Do.ldN H1 0 rfl (Nat.le_of_ble_eq_true rfl) (Do.alloc H1 ?_))
  intro b4 w2 H2
  refine DoU.stAll H2 0 rfl rfl rfl c.flat (fun j _ => open0 _) ?_
  intro w3 H3
  have H3 : Has w w3 [(b4, .cells c.cells 28 (0, 0)), (b1, .cells (playCells c v) 31 (0, 0))] := H3
  refine Do.ldAll H3 0 rfl rfl ?_
  refine CallF.ret (f36.enters _ _) (checkConfig_ret c w3) ?_
  rintro _ w4 ⟨rfl, hb⟩
  have H4 := H3.below hb
  cases hc : c.right with
  | false =>
    refine Do.dec run_nei (fun _ => If.t ⟨?_, H4.toBelow⟩) (fun h => absurd (by decide) h)
    rw [printP, if_pos hc]
  | true =>
  refine Do.dec run_nei (fun h => absurd rfl h) (fun _ => If.f ?_)
  have hv4 := hv.below H4.toBelow
  refine Do.ok run_fld (Do.ld H4 1 rfl rfl (Do.ok hv.len (Do.dec run_gtr (fun h => If.t ⟨?_, H4.toBelow⟩) (fun h => If.f ?_))))
  · rw [printP, if_neg (by simp [hc]), if_pos (by omega)]
  have ep : printP c ss = printLoop ss (printHead c) := by rw [printP, if_neg (by simp [hc]), if_neg (by omega)]
  rw [ep]
  obtain ⟨r1, r2, r3⟩ := right_range hc
  refine Do.alloc H4 ?_
  intro b5 w5 H5
  have H5 := H5.drew
  refine ⟨fun w => w.heap[b4]? = some (.cells c.cells 28 (0, 0)), H5.get 1 rfl, ?_⟩
  refine Take.ok (fun w _ => run_fld) (Take.ok (v := .int .i64 c.jobMax) (fun w hS => run_load1 ((cell_of_blk hS _).trans rfl)) ?_)
  refine Take.ok (fun w _ => run_fld) (Take.ok (v := .int .i64 c.segment) (fun w hS => run_load1 ((cell_of_blk hS _).trans rfl)) ?_)
  refine Take.ok (fun w _ => run_fld) (Take.ok (v := .int .i64 c.quota) (fun w hS => run_load1 ((cell_of_blk hS _).trans rfl)) ?_)
  refine CallF.ret (f39.enters _ _) (print_ret c.jobMax ⟨by omega, by omega⟩ _ (hg.has H5)) ?_
  rintro _ w6 ⟨rfl, hb6⟩
  have H6 := H5.below hb6
  refine ⟨H6.get 1 rfl, CallF.ret (f39.enters _ _) (print_ret c.segment ⟨by omega, by omega⟩ _ (hg.has H6)) ?_⟩
  rintro _ w7 ⟨rfl, hb7⟩
  have H7 := H6.below hb7
  refine ⟨H7.get 1 rfl, CallF.ret (f39.enters _ _) (print_ret c.quota ⟨by omega, by omega⟩ _ (hg.has H7)) ?_⟩
  rintro _ w8 ⟨rfl, hb8⟩
  have H8 := H7.below hb8
  refine ⟨H8.get 1 rfl, Do.bs H8 (bs50d _ _ _ _) ?_⟩
  intro bq w9 H9
  have hrow : WRow (.slice (some ⟨bq, 0, none⟩) 4 4) [stintW, dec c.jobMax, dec c.segment, dec c.quota] [(bq, .cells (([stintW, dec c.jobMax, dec c.segment, dec c.quota].map Value.string) ++ []).toArray 9 (0, 0))] := Row.row (by simp) (by simp) (by simp) (by simp [maxLen])
  have htot : tot [stintW, dec c.jobMax, dec c.segment, dec c.quota] ≤ 200 := by
    have h1 := dec_size (n := c.jobMax) (by omega) (by omega)
    have h2 := dec_size (n := c.segment) (by omega) (by omega)
    have h3 := dec_size (n := c.quota) (by omega) (by omega)
    have h4 : stintW.size = 5 := rfl
    simp only [tot, List.map_cons, List.map_nil, List.sum_cons, List.sum_nil]
    omega
  refine ⟨H9.get 2 rfl, joinC (L := [(b5, .cells #[.pointer none, .slice none 0 0] 73 (0, 0)), (b4, .cells c.cells 28 (0, 0)), (b1, .cells (playCells c v) 31 (0, 0))]) H9 hrow (by simp) (by simp) (by simp; omega) ?_⟩
  intro w10 H10
  have hjl := join_len [stintW, dec c.jobMax, dec c.segment, dec c.quota]
  have hhl : (printHead c).length ≤ 300 := by
    unfold printHead joinW
    rw [List.length_append]
    simp only [List.length_cons, List.length_nil] at hjl ⊢
    omega
  have hcat : ∀ w, (binOp .add 9 (.string ⟨(Lib.join ([stintW, dec c.jobMax, dec c.segment, dec c.quota].map (·.data.toList)) [32]).toArray⟩) (.string ⟨#[10]⟩)).run P w = .ok (.string ⟨(printHead c).toArray⟩) w := fun w => by
    rw [run_cat (by
      have h1 : ∀ l : List UInt8, (⟨l.toArray⟩ : ByteArray).size = l.length := fun l => by show l.toArray.size = _; simp
      have h2 : (⟨#[10]⟩ : ByteArray).size = 1 := rfl
      rw [h1, h2]
      simp only [List.length_cons, List.length_nil] at hjl
      omega), cat10]
    rfl
  refine ⟨H10.get 2 rfl, Take.ok (fun w _ => hcat w) ?_⟩
  have hph : (⟨(printHead c).toArray⟩ : ByteArray).size = (printHead c).length := by show (printHead c).toArray.size = _; simp
  have H10' : Has w w10 ([(b5, .cells #[.pointer none, .slice none 0 0] 73 (0, 0))] ++ [(b4, .cells c.cells 28 (0, 0)), (b1, .cells (playCells c v) 31 (0, 0)), (bq, .cells (([stintW, dec c.jobMax, dec c.segment, dec c.quota].map Value.string) ++ []).toArray 9 (0, 0))]) := H10.perm (by classical exact List.perm_iff_count.2 (fun a => by simp only [List.count_append, List.count_cons, List.count_nil, List.set_cons_zero, List.set_cons_succ, List.setIfInBounds_toArray, List.cons_append, List.nil_append, List.append_assoc]; omega))
  refine writeString H10' (.new b5) _ (by rw [hph]; simp; omega) ?_
  intro _ w11 L0 hb11 H11
  have H11' : Has w w11 ((b4, .cells c.cells 28 (0, 0)) :: (b1, .cells (playCells c v) 31 (0, 0)) :: (bq, .cells (([stintW, dec c.jobMax, dec c.segment, dec c.quota].map Value.string) ++ []).toArray 9 (0, 0)) :: L0) := H11.perm (by classical exact List.perm_iff_count.2 (fun a => by simp only [List.count_append, List.count_cons, List.count_nil, List.set_cons_zero, List.set_cons_succ, List.setIfInBounds_toArray, List.cons_append, List.nil_append, List.append_assoc]; omega))
  refine ⟨H11'.get 0 rfl, Do.ok run_fld (Do.ld H11' 1 rfl rfl (Do.ok hv.len ?_))⟩
  refine ⟨fun k x w' => ∃ (i : Nat) (acc : List UInt8) (L0 L : List (Nat × Obj)), k + i = ss.length ∧ x = .int .i64 i ∧ Bld b5 acc L0 ∧ acc.length ≤ 1048576 ∧ Has w w' (L0 ++ L) ∧ printLoop ss (printHead c) = printLoop (ss.drop i) acc,
    ⟨ss.length, 0, printHead c, L0, _, by omega, rfl, hb11, by omega, H11, rfl⟩, ?_⟩
  rintro k σ w12 ⟨i, acc, L0, L, hk, hx, hbb, hacc, H, hpl⟩
  rw [hx, hpl]
  unfold f16.l0
  refine Do.dec run_lss (fun hlt => If.t ?_) (fun hge => If.f ?_)
  case refine_2 =>
    rw [List.drop_eq_nil_of_le (by omega)]
    exact bldString H hbb fun w' hw' => ⟨rfl, hw'⟩
  have hi : i < ss.length := by omega
  rw [List.drop_eq_getElem_cons hi]
  have hmem := hsm _ (List.getElem_mem hi)
  obtain ⟨bb, o, cs, fz, hw, hidx, hcs⟩ := hv.idx (t := 29) (e := 44) hi
  obtain ⟨sc, hsi, hsc⟩ := hst.get i hi
  generalize ss[i] = s at *
  refine Do.ok (hidx w12) (Do.ok (load5 H hw hsi.size (fun j hj => (hcs j hj).trans (hsc j hj))) (Do.alloc H ?_))
  intro b7 w13 H13
  refine DoU.stAll H13 0 rfl rfl hsi.size hsi.flat (fun j _ => open0 _) ?_
  intro w14 H14
  have H14 : Has w w14 ((b7, .cells sc 44 (0, 0)) :: (L0 ++ L)) := H14
  have hloop : printLoop (s :: ss.drop (i + 1)) acc = match printStep acc s with
    | .error e => ([], e)
    | .ok acc => printLoop (ss.drop (i + 1)) acc := by rw [printLoop]
  rw [hloop]
  refine CallF.ret (enters22 _ _) (try_ret (caps := #[pt b7, pt b5]) (g := 40)
    (R := fun L' => ∃ acc' L0', printStep acc s = .ok acc' ∧ Bld b5 acc' L0' ∧ acc'.length ≤ 1048576 ∧ L' = (b7, .cells sc 44 (0, 0)) :: (L0' ++ L))
    (X := fun n L' => printStep acc s = .error n ∧ L' = (b7, .cells sc 44 (0, 0)) :: (L0 ++ L))
    H14 (fun w => f40.enters _ w) ?_) ?_
  · intro b w' H'
    have H'' : Has w w' ((b7, .cells sc 44 (0, 0)) :: (L0 ++ ((b, .cells #[.int .i64 0] 32 (0, 0)) :: L))) := H'.perm (by classical exact List.perm_iff_count.2 (fun a => by simp only [List.count_append, List.count_cons, List.count_nil, List.set_cons_zero, List.set_cons_succ, List.setIfInBounds_toArray, List.cons_append, List.nil_append, List.append_assoc]; omega))
    refine Calls.mono (print1 hg hsi hmem.1 hmem.2 hbb hacc H'') ?_
    intro e w2 he
    cases e with
    | outgrown => exact he
    | returned _ =>
      obtain ⟨acc', L0', h1, h2, h3, h4⟩ := he
      exact ⟨_, ⟨acc', L0', h1, h2, h3, rfl⟩, h4.perm (by classical exact List.perm_iff_count.2 (fun a => by simp only [List.count_append, List.count_cons, List.count_nil, List.set_cons_zero, List.set_cons_succ, List.setIfInBounds_toArray, List.cons_append, List.nil_append, List.append_assoc]; omega))⟩
    | panicked _ =>
      obtain ⟨n, h0, h1, h2⟩ := he
      exact ⟨n, _, h0, ⟨h1, rfl⟩, h2.perm (by classical exact List.perm_iff_count.2 (fun a => by simp only [List.count_append, List.count_cons, List.count_nil, List.set_cons_zero, List.set_cons_succ, List.setIfInBounds_toArray, List.cons_append, List.nil_append, List.append_assoc]; omega))⟩
  rintro _ w15 (⟨_, rfl, ⟨acc', L0', h1, hb', hl', rfl⟩, H15⟩ | ⟨n, _, rfl, ⟨h1, rfl⟩, H15⟩)
  · refine Do.dec run_nei (fun h => absurd rfl h) (fun _ => If.f (Do.ok (run_addi (a := (i : Int)) (b := 1) (by omega)) ?_))
    exact ⟨k - 1, by omega, i + 1, acc', L0', L, by omega, rfl, hb', hl', H15.tail, by rw [h1]⟩
  · refine Do.dec run_nei (fun _ => If.t ⟨?_, H15.toBelow⟩) (fun h => absurd ?_ h)
    · rw [h1]
    · unfold printStep at h1
      split at h1
      · cases h1; decide
      · split at h1
        · cases h1; decide
        · cases h1
end Go.Proofs.YtdnnamaimgijpaaDoor
