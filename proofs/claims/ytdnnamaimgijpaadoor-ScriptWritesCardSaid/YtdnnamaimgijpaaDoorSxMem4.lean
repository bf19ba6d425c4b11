/- Sx: rules for ranging over a string. Conditions: none. -/
import Derived.Test.YtdnnamaimgijpaaDoorSxMem3
import Derived.Laws.RangeString
import Derived.Laws.RangeAny
set_option linter.unusedVariables false
namespace Go.Sx
open Go Go.RowKit Go.Lib
section
variable {P : Program} {K : Value → World → Prop} {X : List PanicEntry → World → Prop} {w0 w : World} {L : List (Nat × Obj)}
theorem Do.rangeS (H : Has w0 w L) {t : TypeId} [u : Und P t .string] {s : ByteArray} (k : ∀ b w', Has w0 w' ((b, .stringIter s 0) :: L) → K (.pointer (some ⟨b, 0, none⟩)) w') : Do P (Instr.range t (.string s)) w K X := by
  refine Do.ok (v := .pointer (some ⟨w.heap.size, 0, none⟩)) (w' := w.alloc (.stringIter s 0)) ?_ (k _ _ (H.alloc _))
  simp only [Instr.range, Sem.run_bind, run_und, Result.andThen]
  rfl
theorem Do.nextS (H : Has w0 w L) (i : Nat) {b : Nat} {s : ByteArray} {pos : Nat} {ty : TypeId} (hL : L[i]? = some (b, .stringIter s pos))
    (k : ∀ (h : pos < s.size) w', Has w0 w' (L.set i (b, .stringIter s (pos + (Utf8.decode s pos).2))) → K (.tuple #[.bool true, .int .i64 pos, .int .i32 (Utf8.decode s pos).1]) w')
    (k' : s.size ≤ pos → K (.tuple #[.bool false]) w) : Do P (Instr.next (.pointer (some ⟨b, 0, none⟩)) true ty) w K X := by
  have hb := H.get i hL
  by_cases h : pos < s.size
  · refine Do.ok (v := .tuple #[.bool true, .int .i64 pos, .int .i32 (Utf8.decode s pos).1]) (w' := putW w b (.stringIter s (pos + (Utf8.decode s pos).2))) ?_ (k h _ (H.putAt i hL _))
    simp [Instr.next, getObj, Sem.run, hb, h, setObj, putW, goInt]
  · refine Do.ok (v := .tuple #[.bool false]) (w' := w) ?_ (k' (by omega))
    simp [Instr.next, getObj, Sem.run, hb, h]
end
end Go.Sx
