/- For the walk of ScriptWrites: steps by their numbers, steps that are set. Conditions: none. -/
import Derived.Test.YtdnnamaimgijpaaDoorS42
set_option linter.unusedVariables false
set_option linter.unusedSectionVars false
set_option maxRecDepth 10000
namespace Go.Proofs.YtdnnamaimgijpaaDoor
open Go Go.Sx Go.Proofs Go.Lib Go.RowKit

theorem StepsR.get {Q : Array Value → StepV → List (Nat × Obj) → Prop} (hQ : ∀ c s I, Q c s I → c.size = 5) {ss : List StepV} {xs : List Value} {I : List (Nat × Obj)} (h : StepsR Q ss xs I) :
    ∀ (i : Nat) (hi : i < ss.length), ∃ c J A B, Q c ss[i] J ∧ (∀ j, j < 5 → xs[i * 5 + j]? = c[j]?) ∧ I = A ++ (J ++ B) := by
  induction h with
  | nil => intro i hi; simp at hi
  | @cons s ss c xs J I hs h ih =>
    intro i hi
    have h5 := hQ _ _ _ hs
    have h5' : c.toList.length = 5 := by simpa using h5
    cases i with
    | zero => exact ⟨c, J, [], I, hs, fun j hj => by rw [List.getElem?_append_left (by omega)]; simp, rfl⟩
    | succ i =>
      obtain ⟨c', J', A, B, h1, h2, h3⟩ := ih i (by simpa using hi)
      refine ⟨c', J', J ++ A, B, h1, fun j hj => ?_, by rw [h3, List.append_assoc]⟩
      rw [List.getElem?_append_right (by omega), h5', show (i + 1) * 5 + j - 5 = i * 5 + j by omega]
      exact h2 j hj
theorem StepsIn.of_get {w : World} {ss : List StepV} : ∀ {xs : List Value}, xs.length = ss.length * 5 → (∀ i (hi : i < ss.length), ∃ c, StepIn w c ss[i] ∧ ∀ j, j < 5 → xs[i * 5 + j]? = c[j]?) → StepsIn w ss xs := by
  obtain ⟨n, hn⟩ : ∃ n, ss.length = n := ⟨_, rfl⟩
  induction n generalizing ss with
  | zero =>
    intro xs hl h
    obtain rfl := List.eq_nil_of_length_eq_zero hn
    obtain rfl : xs = [] := List.eq_nil_of_length_eq_zero (by omega)
    exact .nil
  | succ n ih =>
    intro xs hl h
    have hss : ss = ss.take n ++ [ss[n]] := by
      have := (List.take_length (l := ss)).symm
      rw [hn, List.take_add_one, List.getElem?_eq_getElem (by omega)] at this
      exact this
    obtain ⟨c, hc, hcx⟩ := h n (by omega)
    have hc5 := hc.size
    have hxs : xs = xs.take (n * 5) ++ c.toList := by
      apply List.ext_getElem?
      intro k
      by_cases hk : k < n * 5
      · rw [List.getElem?_append_left (by rw [List.length_take]; omega), List.getElem?_take_of_lt hk]
      · rw [List.getElem?_append_right (by rw [List.length_take]; omega), List.length_take, show min (n * 5) xs.length = n * 5 by omega]
        by_cases hk2 : k < n * 5 + 5
        · have := hcx (k - n * 5) (by omega)
          rw [show n * 5 + (k - n * 5) = k by omega] at this
          rw [this]; simp
        · rw [List.getElem?_eq_none (by omega), List.getElem?_eq_none (by simp; omega)]
    rw [hss, hxs]
    refine .snoc (ih (by simp only [List.length_take]; omega) (by simp only [List.length_take]; omega) fun i hi => ?_) hc
    have hi : i < n := by rw [List.length_take] at hi; omega
    obtain ⟨c', h1, h2⟩ := h i (by omega)
    refine ⟨c', by rw [List.getElem_take]; exact h1, fun j hj => ?_⟩
    rw [List.getElem?_take_of_lt (by omega)]
    exact h2 j hj
theorem StepL.reads {c : Array Value} {s : StepV} {I L : List (Nat × Obj)} {w0 w : World} (h : StepL c s I) (H : Has w0 w (I ++ L)) : StepIn w c s := h.at.reads H
theorem StepL.size {c : Array Value} {s : StepV} {I : List (Nat × Obj)} (h : StepL c s I) : c.size = 5 := h.at.flat.1
theorem StepsR.readsL {ss : List StepV} {xs : List Value} {I L : List (Nat × Obj)} {w0 w : World} (h : StepsR StepL ss xs I) (H : Has w0 w (I ++ L)) : StepsIn w ss xs := by
  refine StepsIn.of_get (h.len fun _ _ _ => StepL.size) fun i hi => ?_
  obtain ⟨c, J, A, B, h1, h2, rfl⟩ := h.get (fun _ _ _ => StepL.size) i hi
  have H' : Has w0 w (J ++ (A ++ (B ++ L))) := H.perm (by classical exact List.perm_iff_count.2 (fun a => by simp only [List.count_append, List.count_cons, List.count_nil, List.set_cons_zero, List.set_cons_succ, List.setIfInBounds_toArray, List.cons_append, List.nil_append, List.append_assoc]; omega))
  exact ⟨c, h1.reads H', h2⟩
/-- Step i is set. -/
def put5 (xs : List Value) (i : Nat) (c : Array Value) : List Value := xs.take (i * 5) ++ c.toList ++ xs.drop (i * 5 + 5)
theorem put5_len {xs : List Value} {n i : Nat} {c : Array Value} (hx : xs.length = n * 5) (hi : i < n) (hc : c.size = 5) : (put5 xs i c).length = n * 5 := by
  unfold put5; simp [hx, hc]; omega
theorem put5_at {xs : List Value} {n i : Nat} {c : Array Value} (hx : xs.length = n * 5) (hi : i < n) (hc : c.size = 5) {j : Nat} (hj : j < 5) : (put5 xs i c)[i * 5 + j]? = c[j]? := by
  unfold put5
  rw [List.append_assoc, List.getElem?_append_right (by rw [List.length_take]; omega), List.length_take, show i * 5 + j - min (i * 5) xs.length = j by omega, List.getElem?_append_left (by simp; omega)]
  simp
theorem put5_lt {xs : List Value} {n i : Nat} {c : Array Value} (hx : xs.length = n * 5) (hi : i < n) {k : Nat} (hk : k < i * 5) : (put5 xs i c)[k]? = xs[k]? := by
  unfold put5
  rw [List.append_assoc, List.getElem?_append_left (by rw [List.length_take]; omega), List.getElem?_take_of_lt hk]
theorem DoU.st5 {n i : Nat} {v : Value} {xs : List Value} {I : List (Nat × Obj)} (hr : SRow v n xs I) (hi : i < n) : ∃ b, (∀ w', (Instr.indexAt 29 v (.int .i64 (i : Int))).run P w' = .ok (.pointer (some ⟨b, i * 5, none⟩)) w') ∧
    ∀ {L : List (Nat × Obj)} {w0 w : World} {c : Array Value} {K : Value → World → Prop} {X : List PanicEntry → World → Prop}, Has w0 w (I ++ L) → c.size = 5 → (∀ x ∈ c.toList, ∀ q, x ≠ .agg q ∧ x ≠ .tuple q) →
      (∀ I' w', SRow v n (put5 xs i c) I' → Has w0 w' (I' ++ L) → K undef w') → DoU P (Instr.storeAt 44 (.pointer (some ⟨b, i * 5, none⟩)) (.agg c)) w K X := by
  obtain ⟨b, cp, sp, rfl, hn, hcap, hnc, hcm, rfl⟩ := Row.blk hr (by omega)
  refine ⟨b, run_idx5 hi, fun {L w0 w c K X} H hc hfl k => ?_⟩
  refine DoU.stN H 0 rfl hc hfl (by simp; omega) (fun j _ => open0 _) ?_
  intro w' H'
  have e := fold_set c.toList 0 (i * 5) (xs ++ sp).toArray (by simp; omega)
  have e2 : ((xs ++ sp).toArray.toList.take (i * 5 + 0) ++ c.toList ++ (xs ++ sp).toArray.toList.drop (i * 5 + 0 + c.toList.length)).toArray = (put5 xs i c ++ sp).toArray := by
    have h5 : c.toList.length = 5 := by simpa using hc
    rw [h5, Nat.add_zero]
    show ((xs ++ sp).take (i * 5) ++ c.toList ++ (xs ++ sp).drop (i * 5 + 5)).toArray = _
    unfold put5
    rw [List.take_append_of_le_length (by omega), List.drop_append_of_le_length (by omega)]
    simp
  rw [e, e2] at H'
  exact k [(b, .cells (put5 xs i c ++ sp).toArray 44 (0, 0))] w' (Row.row (put5_len hn hi hc) (by rw [put5_len hn hi hc, ← hn]; exact hcap) hnc hcm) H'
theorem ldBase4 {w5 w' : World} {L : List (Nat × Obj)} {b : Nat} {cs : Array Value} {fz : Nat × Nat} (H : Has w5 w' L) (hb : w5.heap[b]? = some (.cells cs 31 fz)) (hc : cs.size = 4) : (Instr.loadAt 31 (pt b)).run P w' = .ok (.agg cs) w' := by
  have := run_loadBaseN (P := P) (t := 31) (o := 0) H hb (by omega)
  rw [this, Nat.zero_add, ← hc, Array.extract_size]
theorem bs39_0 (w : World) : (Instr.buildSlice 39 0 #[]).run P w = .ok (.slice (some ⟨w.heap.size, 0, none⟩) 0 0) (w.alloc (.cells #[] 41)) := by kernel_rfl
theorem bs40_0 (w : World) : (Instr.buildSlice 40 0 #[]).run P w = .ok (.slice (some ⟨w.heap.size, 0, none⟩) 0 0) (w.alloc (.cells #[] 42)) := by kernel_rfl
theorem bs39_1 (x : Option Addr) (n c : Nat) (w : World) : (Instr.buildSlice 39 1 #[(0, .slice x n c)]).run P w = .ok (.slice (some ⟨w.heap.size, 0, none⟩) 1 1) (w.alloc (.cells #[.slice x n c] 41)) := by kernel_rfl
theorem bs40_1 (x : Option Addr) (n c : Nat) (w : World) : (Instr.buildSlice 40 1 #[(0, .slice x n c)]).run P w = .ok (.slice (some ⟨w.heap.size, 0, none⟩) 1 1) (w.alloc (.cells #[.slice x n c] 42)) := by kernel_rfl
end Go.Proofs.YtdnnamaimgijpaaDoor
