/- What an argument of the three struct types is, cell by cell. Conditions: none. -/
import Derived.Test.YtggdogncmkffpaaDoorA18
import GoSem.ClaimWide
set_option linter.unusedVariables false
set_option maxRecDepth 100000
namespace Go.Proofs.YtggdogncmkffpaaDoor
open Go Go.Sx Go.Proofs Go.Lib Go.RowKit

def intAt (cs : Array Value) (i : Nat) : Int := match cs[i]? with | some (.int _ n) => n | _ => 0
def strAt (cs : Array Value) (i : Nat) : ByteArray := match cs[i]? with | some (.string s) => s | _ => ByteArray.empty
def boolAt (cs : Array Value) (i : Nat) : Bool := match cs[i]? with | some (.bool b) => b | _ => false
def anyAt (cs : Array Value) (i : Nat) : Value := cs.getD i (.bool false)
section
variable {W : World} {base : Nat} {v : Value} {cs : Array Value}
theorem cell_int (h : Cell.okWide P W .any base 3 v) : ∃ n, v = .int .i64 n ∧ i64 n := by
  have hu : P.underlying 3 = some (.int .i64) := by kernel_rfl
  cases v <;> simp only [Cell.okWide, Cell.ok, hu] at h <;> try exact h.elim
  obtain ⟨rfl, h⟩ := h
  refine ⟨_, rfl, ?_⟩
  simp only [IntKind.has, IntKind.min, IntKind.max, IntKind.signed, IntKind.bits] at h
  unfold i64
  simp at h
  omega
theorem cell_str (h : Cell.okWide P W .any base 9 v) : ∃ s, v = .string s ∧ s.size ≤ 9223372036854775807 := by
  have hu : P.underlying 9 = some .string := by kernel_rfl
  cases v <;> simp only [Cell.okWide, Cell.ok, hu] at h <;> try exact h.elim
  refine ⟨_, rfl, ?_⟩
  simp only [IntKind.max, IntKind.signed, IntKind.bits] at h
  simp at h
  omega
theorem cell_bool (h : Cell.okWide P W .any base 4 v) : ∃ b, v = .bool b := by
  have hu : P.underlying 4 = some .bool := by kernel_rfl
  cases v <;> simp only [Cell.okWide, Cell.ok, hu] at h <;> try exact h.elim
  exact ⟨_, rfl⟩
theorem row_cell {t : TypeId} {ts : List TypeId} (h : Row.okWide P W .any base t cs) (hts : P.cellTypes P.depth t = some ts) (hn : cs.size = ts.length) {i u : Nat} (hi : ts[i]? = some u) : ∃ v, cs[i]? = some v ∧ Cell.okWide P W .any base u v := by
  obtain ⟨ts', h1, _, h2⟩ := h
  obtain rfl := Option.some.inj (h1.symm.trans hts)
  have hlt : i < ts'.length := (List.getElem?_eq_some_iff.1 hi).1
  have hv : cs[i]? = some (cs[i]'(by omega)) := Array.getElem?_eq_getElem (by omega)
  obtain ⟨u', h3, h4⟩ := h2 i _ hv
  rw [Nat.mod_eq_of_lt hlt] at h3
  obtain rfl := Option.some.inj (h3.symm.trans hi)
  exact ⟨_, hv, h4⟩
theorem row_int {t : TypeId} {ts : List TypeId} (h : Row.okWide P W .any base t cs) (hts : P.cellTypes P.depth t = some ts) (hn : cs.size = ts.length) (i : Nat) (hi : ts[i]? = some 3) : cs[i]? = some (.int .i64 (intAt cs i)) ∧ i64 (intAt cs i) := by
  obtain ⟨v, h1, h2⟩ := row_cell h hts hn hi
  obtain ⟨n, rfl, h3⟩ := cell_int h2
  have : intAt cs i = n := by simp only [intAt, h1]
  rw [this]; exact ⟨h1, h3⟩
theorem row_str {t : TypeId} {ts : List TypeId} (h : Row.okWide P W .any base t cs) (hts : P.cellTypes P.depth t = some ts) (hn : cs.size = ts.length) (i : Nat) (hi : ts[i]? = some 9) : cs[i]? = some (.string (strAt cs i)) ∧ (strAt cs i).size ≤ 9223372036854775807 := by
  obtain ⟨v, h1, h2⟩ := row_cell h hts hn hi
  obtain ⟨n, rfl, h3⟩ := cell_str h2
  have : strAt cs i = n := by simp only [strAt, h1]
  rw [this]; exact ⟨h1, h3⟩
theorem row_bool {t : TypeId} {ts : List TypeId} (h : Row.okWide P W .any base t cs) (hts : P.cellTypes P.depth t = some ts) (hn : cs.size = ts.length) (i : Nat) (hi : ts[i]? = some 4) : cs[i]? = some (.bool (boolAt cs i)) := by
  obtain ⟨v, h1, h2⟩ := row_cell h hts hn hi
  obtain ⟨n, rfl⟩ := cell_bool h2
  have : boolAt cs i = n := by simp only [boolAt, h1]
  rw [this]; exact h1
theorem row_any (i : Nat) (hi : i < cs.size) : cs[i]? = some (anyAt cs i) := by simp [anyAt, Array.getElem?_eq_getElem hi, hi]
theorem agg_of {t : TypeId} {d : TypeDesc} (hu : P.underlying t = some d) (hd : (∃ fs, d = .struct fs) ∨ ∃ n e, d = .array n e) (h : Value.okWide P W .any base t v) : ∃ cs, v = .agg cs ∧ cs.size = P.cellsOf t ∧ Row.okWide P W .any base t cs := by
  unfold Value.okWide at h
  rw [hu] at h
  rcases hd with ⟨fs, rfl⟩ | ⟨n, e, rfl⟩ <;> exact h
theorem under_of {t : TypeId} (h : (match P.underlying t with | some (.struct _) => true | _ => false) = true) : ∃ fs, P.underlying t = some (.struct fs) := by
  split at h
  · exact ⟨_, by assumption⟩
  · cases h
theorem under26 : ∃ fs, P.underlying 26 = some (.struct fs) := under_of (by kernel_rfl)
theorem under30 : ∃ fs, P.underlying 30 = some (.struct fs) := under_of (by kernel_rfl)
theorem under33 : ∃ fs, P.underlying 33 = some (.struct fs) := under_of (by kernel_rfl)
def jobOf (cs : Array Value) : JobD := { id := intAt cs 0, pri := intAt cs 1, delay := intAt cs 2, ttr := intAt cs 3, born := intAt cs 4, state := intAt cs 5, due := intAt cs 6, order := intAt cs 7, holder := intAt cs 8, c0 := intAt cs 9, c1 := intAt cs 10, c2 := intAt cs 11, c3 := intAt cs 12, c4 := intAt cs 13, tube := strAt cs 14, body := anyAt cs 15 }
theorem job_arg (h : Value.okWide P W .any base 26 v) : ∃ j : JobD, v = .agg j.cells ∧ j.ok := by
  obtain ⟨fs, hu⟩ := under26
  obtain ⟨cs, rfl, hn, hr⟩ := agg_of hu (.inl ⟨_, rfl⟩) h
  have hts : P.cellTypes P.depth 26 = some ((List.replicate 14 3) ++ [9, 24]) := by kernel_rfl
  have hn' : cs.size = 16 := hn.trans (by kernel_rfl)
  have hint := row_int hr hts (by rw [hn']; rfl)
  have hstr := row_str hr hts (by rw [hn']; rfl)
  have e : cs = (jobOf cs).cells := by
    apply Array.ext_getElem?
    intro i
    rcases Nat.lt_or_ge i 16 with hi | hi
    · have hor : i = 0 ∨ i = 1 ∨ i = 2 ∨ i = 3 ∨ i = 4 ∨ i = 5 ∨ i = 6 ∨ i = 7 ∨ i = 8 ∨ i = 9 ∨ i = 10 ∨ i = 11 ∨ i = 12 ∨ i = 13 ∨ i = 14 ∨ i = 15 := by omega
      rcases hor with rfl | rfl | rfl | rfl | rfl | rfl | rfl | rfl | rfl | rfl | rfl | rfl | rfl | rfl | rfl | rfl
      all_goals first | exact (hint _ rfl).1 | exact (hstr _ rfl).1 | exact row_any _ (by omega)
    · rw [Array.getElem?_eq_none (by omega), Array.getElem?_eq_none (by exact hi)]
  refine ⟨jobOf cs, by rw [← e], ?_⟩
  exact { id := (hint 0 rfl).2, pri := (hint 1 rfl).2, delay := (hint 2 rfl).2, ttr := (hint 3 rfl).2, born := (hint 4 rfl).2, state := (hint 5 rfl).2, due := (hint 6 rfl).2, order := (hint 7 rfl).2, holder := (hint 8 rfl).2, c0 := (hint 9 rfl).2, c1 := (hint 10 rfl).2, c2 := (hint 11 rfl).2, c3 := (hint 12 rfl).2, c4 := (hint 13 rfl).2, tube := (hstr 14 rfl).2 }
def tubeOf (cs : Array Value) : TubeD := { name := strAt cs 0, sums := ⟨intAt cs 1, intAt cs 2, intAt cs 3, intAt cs 4, intAt cs 5⟩, inUse := intAt cs 6, watching := intAt cs 7, waiting := intAt cs 8, total := intAt cs 9, deletes := intAt cs 10, pauses := intAt cs 11, pause := intAt cs 12, until_ := intAt cs 13 }
theorem tube_arg (h : Value.okWide P W .any base 30 v) : ∃ j : TubeD, v = .agg j.cells ∧ j.ok := by
  obtain ⟨fs, hu⟩ := under30
  obtain ⟨cs, rfl, hn, hr⟩ := agg_of hu (.inl ⟨_, rfl⟩) h
  have hts : P.cellTypes P.depth 30 = some (9 :: (List.replicate 13 3)) := by kernel_rfl
  have hn' : cs.size = 14 := hn.trans (by kernel_rfl)
  have hint := row_int hr hts (by rw [hn']; rfl)
  have hstr := row_str hr hts (by rw [hn']; rfl)
  have e : cs = (tubeOf cs).cells := by
    apply Array.ext_getElem?
    intro i
    rcases Nat.lt_or_ge i 14 with hi | hi
    · have hor : i = 0 ∨ i = 1 ∨ i = 2 ∨ i = 3 ∨ i = 4 ∨ i = 5 ∨ i = 6 ∨ i = 7 ∨ i = 8 ∨ i = 9 ∨ i = 10 ∨ i = 11 ∨ i = 12 ∨ i = 13 := by omega
      rcases hor with rfl | rfl | rfl | rfl | rfl | rfl | rfl | rfl | rfl | rfl | rfl | rfl | rfl | rfl
      all_goals first | exact (hint _ rfl).1 | exact (hstr _ rfl).1
    · rw [Array.getElem?_eq_none (by omega), Array.getElem?_eq_none (by exact hi)]
  refine ⟨tubeOf cs, by rw [← e], ?_⟩
  exact { name := (hstr 0 rfl).2, sums := ⟨(hint 1 rfl).2, (hint 2 rfl).2, (hint 3 rfl).2, (hint 4 rfl).2, (hint 5 rfl).2⟩, inUse := (hint 6 rfl).2, watching := (hint 7 rfl).2, waiting := (hint 8 rfl).2, total := (hint 9 rfl).2, deletes := (hint 10 rfl).2, pauses := (hint 11 rfl).2, pause := (hint 12 rfl).2, until_ := (hint 13 rfl).2 }
def shopOf (cs : Array Value) : ShopD := { now := intAt cs 0, start := intAt cs 1, sums := ⟨intAt cs 2, intAt cs 3, intAt cs 4, intAt cs 5, intAt cs 6⟩, done_ := fun k => if k < 26 then intAt cs (7 + k) else 0, timeouts := intAt cs 33, total := intAt cs 34, opened := intAt cs 35, tubes := intAt cs 36, seats := intAt cs 37, producers := intAt cs 38, workers := intAt cs 39, waiting := intAt cs 40, jobMax := intAt cs 41, oldest := intAt cs 42, newest := intAt cs 43, moved := intAt cs 44, written := intAt cs 45, room := intAt cs 46, segment := intAt cs 47, draining := boolAt cs 48 }
theorem shop_arg (h : Value.okWide P W .any base 33 v) : ∃ j : ShopD, v = .agg j.cells ∧ j.ok := by
  obtain ⟨fs, hu⟩ := under33
  obtain ⟨cs, rfl, hn, hr⟩ := agg_of hu (.inl ⟨_, rfl⟩) h
  have hts : P.cellTypes P.depth 33 = some ((List.replicate 48 3) ++ [4]) := by kernel_rfl
  have hn' : cs.size = 49 := hn.trans (by kernel_rfl)
  have hint := row_int hr hts (by rw [hn']; rfl)
  have hbool := row_bool hr hts (by rw [hn']; rfl)
  have e : cs = (shopOf cs).cells := by
    apply Array.ext_getElem?
    intro i
    rcases Nat.lt_or_ge i 49 with hi | hi
    · have hor : i = 0 ∨ i = 1 ∨ i = 2 ∨ i = 3 ∨ i = 4 ∨ i = 5 ∨ i = 6 ∨ i = 7 ∨ i = 8 ∨ i = 9 ∨ i = 10 ∨ i = 11 ∨ i = 12 ∨ i = 13 ∨ i = 14 ∨ i = 15 ∨ i = 16 ∨ i = 17 ∨ i = 18 ∨ i = 19 ∨ i = 20 ∨ i = 21 ∨ i = 22 ∨ i = 23 ∨ i = 24 ∨ i = 25 ∨ i = 26 ∨ i = 27 ∨ i = 28 ∨ i = 29 ∨ i = 30 ∨ i = 31 ∨ i = 32 ∨ i = 33 ∨ i = 34 ∨ i = 35 ∨ i = 36 ∨ i = 37 ∨ i = 38 ∨ i = 39 ∨ i = 40 ∨ i = 41 ∨ i = 42 ∨ i = 43 ∨ i = 44 ∨ i = 45 ∨ i = 46 ∨ i = 47 ∨ i = 48 := by omega
      rcases hor with rfl | rfl | rfl | rfl | rfl | rfl | rfl | rfl | rfl | rfl | rfl | rfl | rfl | rfl | rfl | rfl | rfl | rfl | rfl | rfl | rfl | rfl | rfl | rfl | rfl | rfl | rfl | rfl | rfl | rfl | rfl | rfl | rfl | rfl | rfl | rfl | rfl | rfl | rfl | rfl | rfl | rfl | rfl | rfl | rfl | rfl | rfl | rfl | rfl
      all_goals first | exact (hint _ rfl).1 | exact (hbool _ rfl)
    · rw [Array.getElem?_eq_none (by omega), Array.getElem?_eq_none (by exact hi)]
  refine ⟨shopOf cs, by rw [← e], ?_⟩
  refine { now := (hint 0 rfl).2, start := (hint 1 rfl).2, sums := ⟨(hint 2 rfl).2, (hint 3 rfl).2, (hint 4 rfl).2, (hint 5 rfl).2, (hint 6 rfl).2⟩, done_ := ?_, timeouts := (hint 33 rfl).2, total := (hint 34 rfl).2, opened := (hint 35 rfl).2, tubes := (hint 36 rfl).2, seats := (hint 37 rfl).2, producers := (hint 38 rfl).2, workers := (hint 39 rfl).2, waiting := (hint 40 rfl).2, jobMax := (hint 41 rfl).2, oldest := (hint 42 rfl).2, newest := (hint 43 rfl).2, moved := (hint 44 rfl).2, written := (hint 45 rfl).2, room := (hint 46 rfl).2, segment := (hint 47 rfl).2 }
  intro k
  show i64 (if k < 26 then intAt cs (7 + k) else 0)
  split
  · refine (hint (7 + k) ?_).2
    rw [List.getElem?_append_left (by simp; omega), List.getElem?_replicate, if_pos (by omega)]
  · unfold i64; omega
end
end Go.Proofs.YtggdogncmkffpaaDoor
