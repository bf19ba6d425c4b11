/- Contract: written. Conditions: none. -/
import Derived.Test.YtdnnamaimgijpaaDoorS14
import Derived.Lib.ItoaLen
set_option linter.unusedVariables false
set_option linter.unusedSectionVars false
set_option maxRecDepth 10000
namespace Go.Proofs.YtdnnamaimgijpaaDoor
open Go Go.Sx Go.Proofs Go.Lib Go.RowKit

def joinW (l : List ByteArray) : List UInt8 := Lib.join (l.map (·.data.toList)) [32] ++ [10]
def keepsA : List Int → List ByteArray → Option (List ByteArray)
  | [], acc => some acc
  | n :: r, acc => match wnum n with
    | none => none
    | some s => keepsA r (acc ++ [s])
def wKeep (s : StepV) (l : List ByteArray) : Option (List UInt8) := (keepsA s.keep (if s.keep = [] then l else l ++ [keepW])).map joinW
def wBrk (s : StepV) (l : List ByteArray) : Option (List UInt8) :=
  if s.brk = 0 then wKeep s l else
  match wnum s.brk with
  | none => none
  | some x => wKeep s (l ++ [breakW, x])
def wData (s : StepV) (l : List ByteArray) : Option (List UInt8) := if s.kind = 2 then wBrk s (l ++ [⟨(dataV s.data).toArray⟩]) else wBrk s l
def wConn (s : StepV) (l : List ByteArray) : Option (List UInt8) :=
  if hasConnB s.kind = true then
    match wnum s.conn with
    | none => none
    | some x => wData s (l ++ [x])
  else wData s l
def bareB (s : StepV) : Bool := (!hasConnB s.kind && decide (s.conn ≠ 0)) || (decide (s.kind ≠ 2) && decide (0 < s.data.length)) || (!hasBreakB s.kind && decide (s.brk ≠ 0)) || (!hasKeepB s.kind && decide (0 < s.keep.length)) ||
  (decide (s.kind ≠ 6) && decide (s.brk = 0) && decide (0 < s.keep.length))
def writtenO (s : StepV) : Option (List UInt8) := if (wordV s.kind).data.toList = [] then none else if bareB s = true then none else wConn s [wordV s.kind]

def StepIn (w : World) (c : Array Value) (s : StepV) : Prop :=
  ∃ d k, c = cells5 s.kind s.conn d s.brk k ∧ SlAt 5 1 w d s.data.length (byteCells s.data) ∧ SlAt 3 1 w k s.keep.length (s.keep.map (Value.int .i64))
theorem StepIn.below {w w' : World} {c : Array Value} {s : StepV} (h : StepIn w c s) (hb : Below w.heap.size w w') : StepIn w' c s := by
  obtain ⟨d, k, h0, h1, h2⟩ := h
  exact ⟨d, k, h0, h1.below hb, h2.below hb⟩
def tot (l : List ByteArray) : Nat := (l.map (·.size)).sum
theorem tot_append (l m : List ByteArray) : tot (l ++ m) = tot l + tot m := by simp [tot]
theorem join_len (l : List ByteArray) : (Lib.join (l.map (·.data.toList)) [32]).length ≤ tot l + l.length := by
  cases l with
  | nil => simp [Lib.join_nil]
  | cons x r =>
    rw [List.map_cons, Lib.join_cons, List.length_append]
    have : ∀ r : List ByteArray, (Lib.joinTail [32] (r.map (·.data.toList))).length = tot r + r.length := by
      intro r
      induction r with
      | nil => rfl
      | cons y r ih =>
        simp only [List.map_cons, Lib.joinTail, List.flatten_cons, List.length_append, List.length_cons, tot, List.sum_cons, List.length_nil] at ih ⊢
        have e : y.data.toList.length = y.size := by simp
        rw [e]
        omega
    rw [this]
    have e : x.data.toList.length = x.size := by simp
    rw [e]
    simp only [tot, List.map_cons, List.sum_cons, List.length_cons]
    omega
theorem wnum_size {n : Int} {s : ByteArray} (h : wnum n = some s) : s.size ≤ 32 := by
  unfold wnum at h
  split at h
  · cases h
  · cases h
    rw [dec_itoa (by omega) (by omega)]
    have := itoa_length_le n (by omega) (by omega)
    show (itoa n).toArray.size ≤ 32
    simpa using (by omega : (itoa n).length ≤ 32)
abbrev WRow (v : Value) (l : List ByteArray) (I : List (Nat × Obj)) : Prop := Row 9 1 v l.length (l.map Value.string) I
theorem bs50 (s : ByteArray) (w : World) : (Instr.buildSlice 50 1 #[(0, .string s)]).run P w = .ok (.slice (some ⟨w.heap.size, 0, none⟩) 1 1) (w.alloc (.cells #[.string s] 9)) := by kernel_rfl
theorem bs50b (s t : ByteArray) (w : World) : (Instr.buildSlice 50 2 #[(0, .string s), (1, .string t)]).run P w = .ok (.slice (some ⟨w.heap.size, 0, none⟩) 2 2) (w.alloc (.cells #[.string s, .string t] 9)) := by kernel_rfl
section
variable {w0 w : World} {L I : List (Nat × Obj)} {v : Value} {l : List ByteArray} {K : Value → World → Prop} {X : List PanicEntry → World → Prop}
theorem appW (H : Has w0 w (I ++ L)) (hr : WRow v l I) (s : ByteArray) (hlen : l.length ≤ 8589934592) {rt : TypeId} (k : ∀ v' I' w', WRow v' (l ++ [s]) I' → Has w0 w' (I' ++ L) → K v' w') :
    Do P (Instr.buildSlice 50 1 #[(0, .string s)]) w (fun t w => Do P (Builtin.append_ #[50, 50] rt #[v, t]) w K X) X := by
  refine Do.bs H (bs50 s) ?_
  intro b w1 H1
  refine Do.append2 (t := 50) H1 hr rfl (by simp [Value.oneCell']) (by omega) (by omega) ?_
  intro v' I' w' hr' H' _
  refine k v' I' w' ?_ H'
  unfold WRow
  rw [List.map_append, List.length_append]
  exact hr'
theorem appW2 (H : Has w0 w (I ++ L)) (hr : WRow v l I) (s t : ByteArray) (hlen : l.length ≤ 8589934592) {rt : TypeId} (k : ∀ v' I' w', WRow v' (l ++ [s, t]) I' → Has w0 w' (I' ++ L) → K v' w') :
    Do P (Instr.buildSlice 50 2 #[(0, .string s), (1, .string t)]) w (fun t w => Do P (Builtin.append_ #[50, 50] rt #[v, t]) w K X) X := by
  refine Do.bs H (bs50b s t) ?_
  intro b w1 H1
  refine Do.append2 (t := 50) H1 hr rfl (by simp [Value.oneCell']) (by omega) (by omega) ?_
  intro v' I' w' hr' H' _
  refine k v' I' w' ?_ H'
  unfold WRow
  rw [List.map_append, List.length_append]
  exact hr'
/-- strings.Join at ' '. -/
theorem joinC (H : Has w0 w (I ++ L)) (hr : WRow v l I) (h0 : l ≠ []) (hl : l.length ≤ 8589934592) (ht : tot l + l.length ≤ 140737488355328) (k : ∀ w', Has w0 w' (I ++ L) → K (.string ⟨(Lib.join (l.map (·.data.toList)) [32]).toArray⟩) w') : CallF P 38 [v, .string ⟨#[32]⟩] w K X := by
  have hjl := join_len l
  have hr2 : Row 9 1 v l.length (l.map Value.string) I := hr
  generalize hn : l.length = n at hr2
  generalize hx : l.map Value.string = xs at hr2
  cases hr2 with
  | nil => exact absurd (List.eq_nil_of_length_eq_zero hn) h0
  | @row b _ c _ sp hxn hc hnc hcm =>
    subst hn hx
    have hb := H.get 0 rfl
    refine CallF.ret (enters38 _ _) (Ret.ofCalls (Tryd.strings_Join b 0 c l ⟨#[32]⟩ w (fun j x hj => ?_) (Array.getElem?_eq_some_iff.1 hb).1 (by omega) hnc (by show (Lib.join _ [32]).length ≤ _; omega))) ?_
    · refine (cell_of_blk hb _).trans ?_
      obtain ⟨hlt, rfl⟩ := List.getElem?_eq_some_iff.1 hj
      simp [List.getElem?_append_left, hlt]
    · rintro _ w' ⟨rfl, hb'⟩
      exact k w' (H.below hb')
end
end Go.Proofs.YtdnnamaimgijpaaDoor
