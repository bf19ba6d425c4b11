/- Contracts of the small functions of figures. Conditions: none. -/
import Derived.Test.YtggdogncmkffpaaDoorSxP
set_option linter.unusedVariables false
set_option maxRecDepth 10000
namespace Go.Proofs.YtggdogncmkffpaaDoor
open Go Go.Sx Go.Proofs Go.Lib Go.RowKit

/-! ### less -/
def lessV (a b : Int) : Int := if b < a then IntKind.i64.wrap (a - b) else 0
theorem less_ret (a b : Int) (w : World) : Ret P 13 #[.int .i64 a, .int .i64 b] w (fun v w' => v = .int .i64 (lessV a b) ∧ w' = w) := by
  refine f13.calls ?_
  unfold f13.f
  refine Do.ok run_gtr (If.dec (fun h => ?_) (fun h => ?_))
  · refine Do.ok run_sub ?_
    exact ⟨by rw [lessV, if_pos h], rfl⟩
  · exact ⟨by rw [lessV, if_neg h], rfl⟩

/-! ### state -/
def stateV (n : Int) : ByteArray := if n = 1 then ⟨#[114, 101, 97, 100, 121]⟩ else if n = 2 then ⟨#[100, 101, 108, 97, 121, 101, 100]⟩ else if n = 3 then ⟨#[114, 101, 115, 101, 114, 118, 101, 100]⟩ else if n = 4 then ⟨#[98, 117, 114, 105, 101, 100]⟩ else ⟨#[]⟩
theorem state_ret (n : Int) (w : World) : Ret P 14 #[.int .i64 n] w (fun v w' => v = .string (stateV n) ∧ w' = w) := by
  refine f14.calls ?_
  unfold f14.f
  refine Do.ok run_eqi (If.dec (fun h => ?_) (fun h1 => ?_))
  · exact ⟨by rw [stateV, if_pos h], rfl⟩
  refine Do.ok run_eqi (If.dec (fun h => ?_) (fun h2 => ?_))
  · exact ⟨by rw [stateV, if_neg h1, if_pos h], rfl⟩
  refine Do.ok run_eqi (If.dec (fun h => ?_) (fun h3 => ?_))
  · exact ⟨by rw [stateV, if_neg h1, if_neg h2, if_pos h], rfl⟩
  refine Do.ok run_eqi (If.dec (fun h => ?_) (fun h4 => ?_))
  · exact ⟨by rw [stateV, if_neg h1, if_neg h2, if_neg h3, if_pos h], rfl⟩
  · exact ⟨by rw [stateV, if_neg h1, if_neg h2, if_neg h3, if_neg h4], rfl⟩

/-! ### told's text -/
def pairCells (p : ByteArray × ByteArray) : List Value := [.string p.1, .string p.2]
theorem build44 (s t : ByteArray) (w : World) : (Instr.build 44 #[(0, .string s), (1, .string t)]).run P w = .ok (.agg #[.string s, .string t]) w := by kernel_rfl
theorem bs38 (s t : ByteArray) (w : World) : (Instr.buildSlice 38 1 #[(0, .agg #[.string s, .string t])]).run P w = .ok (.slice (some ⟨w.heap.size, 0, none⟩) 1 1) (w.alloc (.cells #[.string s, .string t] 44)) := by kernel_rfl
theorem text_ret {w0 w : World} {L : List (Nat × Obj)} {b n : Nat} {v : Value} {xs : List Value} {I : List (Nat × Obj)} (H : Has w0 w ((b, .cells #[v] 38) :: (I ++ L))) (hr : Row 44 2 v n xs I) (hn : n ≤ 1000) (k s : ByteArray) :
    Ret P 23 #[.string k, .string s, .pointer (some ⟨b, 0, none⟩)] w (fun _ w' => ∃ v' I', Row 44 2 v' (n + 1) (xs ++ pairCells (k, s)) I' ∧ Has w0 w' ((b, .cells #[v'] 38) :: (I' ++ L))) := by
  refine f23.calls ?_
  unfold f23.f
  refine Do.ld H 0 rfl rfl ?_
  refine Do.ok (build44 k s w) (Do.ok (bs38 k s w) ?_)
  have H1 := H.alloc (.cells #[.string k, .string s] 44)
  have H2 : Has w0 (w.alloc (.cells #[.string k, .string s] 44)) (I ++ ((b, .cells #[v] 38) :: (w.heap.size, .cells #[.string k, .string s] 44) :: L)) := H1.perm (by classical exact List.perm_iff_count.2 (fun a => by simp only [List.count_append, List.count_cons, List.count_nil, List.set_cons_zero, List.set_cons_succ, List.setIfInBounds_toArray, List.cons_append, List.nil_append, List.append_assoc]; omega))
  refine Do.append (t := 38) (t2 := 38) (.inr ⟨_, rfl⟩) H2 hr (Src.blk (ys := pairCells (k, s)) (H2.own (w.heap.size, .cells #[.string k, .string s] 44) (by simp)).2 rfl
    (fun j y hj => by simpa [pairCells] using hj) (by simp [pairCells, Value.oneCell'])) (by omega) (by omega) ?_
  intro v' I' w' hr' H' _
  have H3 : Has w0 w' ((b, .cells #[v] 38) :: (w.heap.size, .cells #[.string k, .string s] 44) :: (I' ++ L)) := H'.perm (by classical exact List.perm_iff_count.2 (fun a => by simp only [List.count_append, List.count_cons, List.count_nil, List.set_cons_zero, List.set_cons_succ, List.setIfInBounds_toArray, List.cons_append, List.nil_append, List.append_assoc]; omega))
  refine DoU.st H3 0 rfl (by cases hr' <;> rfl) (by cases hr' <;> simp) (by simp) (by simp [open_]) ?_
  intro w'' H4
  have H5 : Has w0 w'' ([(w.heap.size, .cells #[.string k, .string s] 44)] ++ ((b, .cells #[v'] 38) :: (I' ++ L))) := H4.perm (by classical exact List.perm_iff_count.2 (fun a => by simp only [List.count_append, List.count_cons, List.count_nil, List.set_cons_zero, List.set_cons_succ, List.setIfInBounds_toArray, List.cons_append, List.nil_append, List.append_assoc]; omega))
  exact ⟨v', I', hr', H5.right⟩
end Go.Proofs.YtggdogncmkffpaaDoor
