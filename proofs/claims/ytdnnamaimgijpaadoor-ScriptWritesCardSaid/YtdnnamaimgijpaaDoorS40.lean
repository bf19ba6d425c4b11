/- Contract: lent. Conditions: none. -/
import Derived.Test.YtdnnamaimgijpaaDoorS39
set_option linter.unusedVariables false
set_option linter.unusedSectionVars false
set_option maxRecDepth 10000
namespace Go.Proofs.YtdnnamaimgijpaaDoor
open Go Go.Sx Go.Proofs Go.Lib Go.RowKit

/-- A slice of ours with one element of marks behind it. -/
def LRow (T sz : Nat) (v : Value) (n : Nat) (xs ms : List Value) (I : List (Nat × Obj)) : Prop :=
  ∃ b c sp, v = .slice (some ⟨b, 0, none⟩) n c ∧ xs.length = n * sz ∧ ms.length = sz ∧ xs.length + (ms ++ sp).length = c * sz ∧ n + 1 ≤ c ∧ c ≤ maxLen ∧ I = [(b, .cells (xs ++ (ms ++ sp)).toArray T (0, 0))]
theorem Row.blk {T sz : Nat} {v : Value} {n : Nat} {xs : List Value} {I : List (Nat × Obj)} (h : Row T sz v n xs I) (hn : 0 < n) :
    ∃ b c sp, v = .slice (some ⟨b, 0, none⟩) n c ∧ xs.length = n * sz ∧ xs.length + sp.length = c * sz ∧ n ≤ c ∧ c ≤ maxLen ∧ I = [(b, .cells (xs ++ sp).toArray T (0, 0))] := by
  cases h with
  | nil => exact absurd hn (by omega)
  | @row b _ c xs sp h1 h2 h3 h4 => exact ⟨b, c, sp, rfl, h1, h2, h3, h4, rfl⟩
theorem LRow.row {T sz : Nat} {v : Value} {n : Nat} {xs ms : List Value} {I : List (Nat × Obj)} (h : LRow T sz v n xs ms I) : Row T sz v n xs I := by
  obtain ⟨b, c, sp, rfl, h1, h2, h3, h4, h5, rfl⟩ := h
  exact Row.row h1 h3 (by omega) h5
theorem Row.lend {t T : TypeId} [u : Und P t (.slice T)] {agg : Bool} {sz : Nat} {z : Value} {by_ : Nat} [ty : Ty P T agg sz z by_] {v : Value} {n : Nat} {xs ms : List Value} {I : List (Nat × Obj)}
    (h : Row T sz v (n + 1) (xs ++ ms) I) (hx : xs.length = n * sz) (hm : ms.length = sz) :
    ∃ v2, (∀ w, (Instr.sliceAt t v none (some (.int .i64 (n : Int))) none).run P w = .ok v2 w) ∧ LRow T sz v2 n xs ms I := by
  obtain ⟨b, c, sp, rfl, h1, h2, h3, h4, rfl⟩ := Row.blk h (by omega)
  refine ⟨.slice (some ⟨b, 0, none⟩) n c, fun w => ?_, b, c, sp, rfl, hx, hm, ?_, h3, h4, ?_⟩
  · have := run_slice (P := P) (w := w) (t := t) (T := T) (x := some ⟨b, 0, none⟩) (n := n + 1) (c := c) (lo := none) (hi := some (.int .i64 (n : Int))) (a := 0) (b := n) (.inr ⟨rfl, rfl⟩) (.inl rfl) (by omega) (by omega)
    rw [this, if_neg (by omega)]
    simp [Addr.add]
  · simp only [List.length_append] at h2 ⊢; omega
  · rw [List.append_assoc]
/-- One element more. -/
theorem LRow.more {t T : TypeId} [u : Und P t (.slice T)] {agg : Bool} {sz : Nat} {z : Value} {by_ : Nat} [ty : Ty P T agg sz z by_] {v : Value} {n : Nat} {xs ms : List Value} {I L : List (Nat × Obj)} {w0 w : World}
    (h : LRow T sz v n xs ms I) (H : Has w0 w (I ++ L)) :
    ∃ v2, (∀ w, (Instr.sliceAt t v none (some (.int .i64 ((n : Int) + 1))) none).run P w = .ok v2 w) ∧ SlAt T sz w v2 (n + 1) (xs ++ ms) ∧ ∃ x m c, v2 = .slice x m c := by
  obtain ⟨b, c, sp, rfl, h1, h2, h3, h4, h5, rfl⟩ := h
  refine ⟨.slice (some ⟨b, 0, none⟩) (n + 1) c, fun w => ?_, ⟨_, _, rfl, ⟨h4, h5⟩, by rw [List.length_append, h1, h2, Nat.add_mul, Nat.one_mul], fun _ => ⟨b, 0, _, (T, (0, 0)), rfl, H.get 0 rfl, fun j hj => ?_⟩⟩, _, _, _, rfl⟩
  · have := run_slice (P := P) (w := w) (t := t) (T := T) (x := some ⟨b, 0, none⟩) (n := n) (c := c) (lo := none) (hi := some (.int .i64 ((n : Int) + 1))) (a := 0) (b := n + 1) (.inr ⟨rfl, rfl⟩) (.inl (by simp)) (by omega) (by omega)
    rw [this, if_neg (by omega)]
    simp [Addr.add]
  · rw [List.getElem?_toArray, Nat.zero_add, ← List.append_assoc, List.getElem?_append_left hj, List.getElem?_eq_getElem hj]

/-- Steps one behind the other, each with blocks as 'Q' says. -/
inductive StepsR (Q : Array Value → StepV → List (Nat × Obj) → Prop) : List StepV → List Value → List (Nat × Obj) → Prop
  | nil : StepsR Q [] [] []
  | cons {s : StepV} {ss : List StepV} {c : Array Value} {xs : List Value} {J I : List (Nat × Obj)} (hs : Q c s J) (h : StepsR Q ss xs I) : StepsR Q (s :: ss) (c.toList ++ xs) (J ++ I)
theorem StepsR.append {Q : Array Value → StepV → List (Nat × Obj) → Prop} {a b : List StepV} {xs ys : List Value} {I J : List (Nat × Obj)} (h : StepsR Q a xs I) (h2 : StepsR Q b ys J) : StepsR Q (a ++ b) (xs ++ ys) (I ++ J) := by
  induction h with
  | nil => exact h2
  | @cons s ss c xs J' I hs h ih => rw [List.append_assoc, List.append_assoc]; exact .cons hs ih
theorem StepsAt.toR {ss : List StepV} {xs : List Value} {I : List (Nat × Obj)} (h : StepsAt ss xs I) : ∃ I', StepsR StepAt ss xs I' ∧ I.Perm I' := by
  induction h with
  | nil => exact ⟨[], .nil, .nil⟩
  | @snoc ss xs I J c s h hs ih =>
    obtain ⟨I', h1, h2⟩ := ih
    refine ⟨I' ++ (J ++ []), h1.append (by have := StepsR.cons hs StepsR.nil; simpa using this), ?_⟩
    rw [List.append_nil]
    exact (List.perm_append_comm).trans (h2.append_right J)
def StepL (c : Array Value) (s : StepV) (I : List (Nat × Obj)) : Prop :=
  ∃ d k Id Ik, c = cells5 s.kind s.conn d s.brk k ∧ LRow 5 1 d s.data.length (byteCells s.data) [.int .u8 165] Id ∧ LRow 3 1 k s.keep.length (ints s.keep) [.int .i64 (-99)] Ik ∧ I = Id ++ Ik
theorem StepL.at {c : Array Value} {s : StepV} {I : List (Nat × Obj)} (h : StepL c s I) : StepAt c s I := by
  obtain ⟨d, k, Id, Ik, rfl, hd, hk, rfl⟩ := h
  exact ⟨d, k, Id, Ik, rfl, hd.row, hk.row, rfl⟩
theorem StepsR.len {Q : Array Value → StepV → List (Nat × Obj) → Prop} (hQ : ∀ c s I, Q c s I → c.size = 5) {ss : List StepV} {xs : List Value} {I : List (Nat × Obj)} (h : StepsR Q ss xs I) : xs.length = ss.length * 5 := by
  induction h with
  | nil => rfl
  | @cons s ss c xs J I hs h ih => rw [List.length_append, ih, List.length_cons, Array.length_toList, hQ _ _ _ hs]; omega
def lentM : Array Value := cells5 (-99) 0 (.slice none 0 0) 0 (.slice none 0 0)
def PlayL (cs : Array Value) (c : Cfg) (ss : List StepV) (I : List (Nat × Obj)) : Prop :=
  ∃ v xs Iv Is, cs = playCells c v ∧ LRow 44 5 v ss.length xs lentM.toList Iv ∧ StepsR StepL ss xs Is ∧ I = Iv ++ Is
theorem cellM {a c r : List Value} {m j : Nat} (h : a.length = m) (hj : j < c.length) : (a ++ (c ++ r)).toArray[m + j]? = c[j]? := by
  subst h
  rw [List.getElem?_toArray, List.getElem?_append_right (by omega), List.getElem?_append_left (by omega)]
  congr 1; omega
theorem setM {a c r : List Value} {m j : Nat} {x : Value} (h : a.length = m) (hj : j < c.length) : (a ++ (c ++ r)).toArray.setIfInBounds (m + j) x = (a ++ (c.set j x ++ r)).toArray := by
  subst h
  apply Array.ext'
  rw [Array.toList_setIfInBounds]
  show (a ++ (c ++ r)).set _ _ = _
  rw [List.set_append_right _ _ (by omega), List.set_append_left _ _ (by omega)]
  congr 3; omega
theorem bs41m (w : World) : (Instr.buildSlice 41 1 #[(0, .int .u8 165)]).run P w = .ok (.slice (some ⟨w.heap.size, 0, none⟩) 1 1) (w.alloc (.cells #[.int .u8 165] 5)) := by kernel_rfl
theorem bs29m (w : World) : (Instr.buildSlice 29 1 #[(0, .agg lentM)]).run P w = .ok (.slice (some ⟨w.heap.size, 0, none⟩) 1 1) (w.alloc (.cells lentM 44)) := bs29 _ _ _ _ _ ⟨_, _, _, rfl⟩ ⟨_, _, _, rfl⟩ w
theorem build44m (w : World) : (Instr.build 44 #[(0, .int .i64 (-99))]).run P w = .ok (.agg lentM) w := by kernel_rfl
end Go.Proofs.YtdnnamaimgijpaaDoor
