/- Arguments out of the row's conditions. Conditions: none. -/
import Derived.Test.YtdnnamaimgijpaaDoorS28
import GoSem.ClaimWide
set_option linter.unusedVariables false
set_option maxRecDepth 100000
namespace Go.Proofs.YtdnnamaimgijpaaDoor
open Go Go.Sx Go.Proofs Go.Lib Go.RowKit
section
variable {W : World} {base : Nat} {v : Value}
theorem cell_int (h : Cell.okWide P W .any base 3 v) : ∃ n, v = .int .i64 n ∧ i64 n := by
  have hu : P.underlying 3 = some (.int .i64) := by kernel_rfl
  cases v <;> simp only [Cell.okWide, Cell.ok, hu] at h <;> try exact h.elim
  obtain ⟨rfl, h⟩ := h
  refine ⟨_, rfl, ?_⟩
  simp only [IntKind.has, IntKind.min, IntKind.max, IntKind.signed, IntKind.bits] at h
  unfold i64
  simp at h
  omega
theorem cell_str (h : Cell.okWide P W .any base 9 v) : ∃ s, v = .string s ∧ s.size ≤ 9223372036854775807 := by
  have hu : P.underlying 9 = some .string := by kernel_rfl
  cases v <;> simp only [Cell.okWide, Cell.ok, hu] at h <;> try exact h.elim
  refine ⟨_, rfl, ?_⟩
  simp only [IntKind.max, IntKind.signed, IntKind.bits] at h
  simp at h
  omega
theorem play_arg {H : Type} {enc : TypeId × Value → H} {sp : Nat → Bool} {held : Bool} {d : DataW H} {ps : List MemPlace} (h : DataW.Trod enc P W base sp held 31 v d ps) : ∃ (cs : Array Value) (c : Cfg) (ss : List StepV), v = .agg cs ∧ PlayIn W cs c ss := by
  obtain ⟨fuel, h⟩ := h
  obtain ⟨c, ss, hp⟩ := play_reads h
  have h4 : v.cells.size = 4 := by obtain ⟨_, _, e, _⟩ := hp; rw [e]; rfl
  cases v with
  | agg cs => exact ⟨cs, c, ss, rfl, hp⟩
  | _ => simp [Value.cells] at h4
end
end Go.Proofs.YtdnnamaimgijpaaDoor
