/- Sx: further rules of memory. Conditions: none. -/
import Derived.Test.YtdnnamaimgijpaaDoorSxMem2
import Derived.Lib.SlBytesConst
set_option linter.unusedVariables false
namespace Go.Sx
open Go Go.RowKit Go.Lib
section
variable {P : Program} {K : Value → World → Prop} {X : List PanicEntry → World → Prop} {w0 w : World} {L : List (Nat × Obj)}
/-- 'append(v, x...)' where v's block is full (and may be marked). -/
theorem Do.appendFull {t t2 T : TypeId} {d2 : TypeDesc} [u : Und P t (.slice T)] [u2 : Und P t2 d2] (hd2 : d2 = .string ∨ ∃ e, d2 = .slice e) {agg : Bool} {sz : Nat} {z : Value} {bytes : Nat} [ty : Ty P T agg sz z bytes]
    {b n : Nat} {xs : List Value} {fz : Nat × Nat} (H : Has w0 w L) (hblk : w.heap[b]? = some (.cells xs.toArray T fz)) (hn : xs.length = n * sz) {x : Value} {m : Nat} {ys : List Value} (hs : Src P w sz x m ys) (hm : 0 < m)
    (h63 : n + m ≤ 9223372036854775807) (hb : (n + m) * bytes ≤ 140737488355328) {rt : TypeId}
    (k : ∀ v' I' w', Row T sz v' (n + m) (xs ++ ys) I' → Has w0 w' (I' ++ L) → K v' w') : Do P (Builtin.append_ #[t, t2] rt #[.slice (some ⟨b, 0, none⟩) n n, x]) w K X := by
  obtain ⟨i, hi, his, hiz, hib⟩ := ty.info
  have hz := ty.zs
  have hlen : (xs ++ ys).length = (n + m) * sz := by rw [List.length_append, hn, hs.n, Nat.add_mul]
  subst his
  subst hib
  have hsl := hs.len
  have eZ : ∀ (l : List Value) (Z : Array Value), (l ++ Z.toList).toArray = l.toArray ++ Z := fun l Z => by apply Array.ext'; simp
  have hc1 : (Builtin.firstCells i.size m x).run P w.drew = .ok ys.toArray w.drew := hs.cells (w.drawn + 1)
  have hge := grownCap_ge w (n + m) n T
  have hroom : ¬ (n + m ≤ n) := by omega
  have h63' : ¬ (9223372036854775807 < ((n : Int) + (m : Int))) := by omega
  have hfit : Builtin.nextslicecap (n + m) n * i.bytes ≤ 281474976710656 := growslice_fits (by omega) hb
  have h48' : ¬ (281474976710656 < Builtin.nextslicecap (n + m) n * i.bytes) := by omega
  have hold : (Builtin.firstCells i.size n (.slice (some ⟨b, 0, none⟩) n n)).run P w.drew = .ok xs.toArray w.drew :=
    run_firstCells_some (P := P) w.drew i.size n ⟨b, 0, none⟩ n n xs hn (fun j y hj => by
      rw [add_blk]
      refine (cell_of_blk (w := w.drew) hblk _).trans ?_
      simp only [Nat.zero_add, List.getElem?_toArray]
      exact hj)
  refine Do.ok (v := .slice (some ⟨w.heap.size, 0, none⟩) (n + m) (grownCap w (n + m) n T)) (w' := w.drew.alloc (.cells ((xs ++ ys) ++ (Builtin.zeroCells z.cells (grownCap w (n + m) n T - (n + m))).toList).toArray T (0, 0))) ?_
    (k _ [(w.heap.size, .cells ((xs ++ ys) ++ (Builtin.zeroCells z.cells (grownCap w (n + m) n T - (n + m))).toList).toArray T (0, 0))] _ ?_ (H.drew.alloc _))
  · rcases hd2 with rfl | ⟨e, rfl⟩ <;>
      simp [Builtin.append_, run_underlying u.h, run_underlying u2.h, sizeOf, typeInfo, zeroValue, hi, hiz, hsl, hc1, hroom, h63', h48', Question.forced, hold, newRow, grownCap, eZ]
  · exact Row.row hlen (by rw [hlen, Array.length_toList, size_zeroCells, hz, ← Nat.add_mul]; congr 1; omega) hge (grownCap_le_maxLen w (n + m) n T (by simp only [maxLen]; omega))
end
end Go.Sx
