/- Plain law: lines that are passed over change nothing but the numbers of lines. Conditions: none. -/
import Derived.Test.YtdnnamaimgijpaaDoorS29
set_option linter.unusedVariables false
set_option linter.unusedSectionVars false
set_option maxRecDepth 10000
namespace Go.Proofs.YtdnnamaimgijpaaDoor
open Go Go.Sx Go.Proofs Go.Lib Go.RowKit

section
variable (E : Nat) (pass : List UInt8)
/-- The text with the remarks put in, behind m lines' ends. -/
def insT : Nat → List UInt8 → List UInt8
  | _, [] => []
  | m, b :: l => if b = 10 then (if (m + 1) % E = 0 then b :: 10 :: (pass ++ 10 :: insT (m + 1) l) else b :: insT (m + 1) l) else b :: insT m l
def insR : Nat → List (List UInt8) → List (List UInt8)
  | _, [] => []
  | m, y :: r => if (m + 1) % E = 0 then [] :: pass :: y :: insR (m + 1) r else y :: insR (m + 1) r
theorem cut_insT (hp : ∀ b ∈ pass, b ≠ 10) : ∀ (l : List UInt8) (m : Nat), ∃ h t, cut 10 l = h :: t ∧ cut 10 (insT E pass m l) = h :: insR E pass m t
  | [], m => ⟨[], [], rfl, rfl⟩
  | b :: l, m => by
    by_cases hb : b = 10
    · subst hb
      obtain ⟨h, t, e1, e2⟩ := cut_insT hp l (m + 1)
      refine ⟨[], h :: t, by rw [cut, if_pos rfl, e1], ?_⟩
      rw [insT, if_pos rfl, insR]
      by_cases hm : (m + 1) % E = 0
      · rw [if_pos hm, if_pos hm, cut, if_pos rfl, cut, if_pos rfl, cut_app hp, e2]
      · rw [if_neg hm, if_neg hm, cut, if_pos rfl, e2]
    · obtain ⟨h, t, e1, e2⟩ := cut_insT hp l m
      refine ⟨b :: h, t, by rw [cut, if_neg hb, e1], ?_⟩
      rw [insT, if_neg hb, cut, if_neg hb, e2]
/-- How many of the next k lines have a remark put in ahead of them. -/
def cnt : Nat → Nat → Nat
  | _, 0 => 0
  | m, k + 1 => (if (m + 1) % E = 0 then 1 else 0) + cnt (m + 1) k
theorem cnt_snoc : ∀ (k m : Nat), cnt E m (k + 1) = cnt E m k + (if (m + k + 1) % E = 0 then 1 else 0)
  | 0, m => by simp [cnt]
  | k + 1, m => by
    rw [cnt, cnt_snoc k (m + 1), cnt]
    have : m + 1 + k + 1 = m + (k + 1) + 1 := by omega
    rw [this]; omega
end
def mkB (l : List UInt8) : ByteArray := ⟨l.toArray⟩
theorem pass_hash (l : List UInt8) : passB (mkB (35 :: l)) = true := by
  rw [passB]
  show (decide (35 :: l = []) || decide ((35 :: l).head? = some 35)) = true
  simp
/-- What two readings have in common: all but the line's number. -/
def Alike (o o' : Out) : Prop := o'.cfg = o.cfg ∧ o'.steps = o.steps ∧ o'.err = o.err
theorem ins_lines (E : Nat) (q : List UInt8) : ∀ (t : List (List UInt8)) (m i i' : Nat) (b : Bool) (c : Cfg) (ss : List StepV),
    Alike (parseLines (t.map mkB) i b c ss) (parseLines ((insR E (35 :: q) m t).map mkB) i' b c ss) ∧
    (((parseLines (t.map mkB) i b c ss).line = 0 ∧ (parseLines ((insR E (35 :: q) m t).map mkB) i' b c ss).line = 0) ∨
      ∃ k, k < t.length ∧ (parseLines (t.map mkB) i b c ss).line = (i + k + 1 : Nat) ∧ (parseLines ((insR E (35 :: q) m t).map mkB) i' b c ss).line = (i' + k + 1 + 2 * cnt E m (k + 1) : Nat))
  | [], m, i, i', b, c, ss => by
    rw [insR]
    simp only [List.map_nil, parseLines]
    cases b with
    | true => exact ⟨⟨rfl, rfl, rfl⟩, .inl ⟨rfl, rfl⟩⟩
    | false => exact ⟨⟨rfl, rfl, rfl⟩, .inl ⟨rfl, rfl⟩⟩
  | y :: r, m, i, i', b, c, ss => by
    have main : ∀ i', Alike (parseLines ((y :: r).map mkB) i b c ss) (parseLines ((y :: insR E (35 :: q) (m + 1) r).map mkB) i' b c ss) ∧
        (((parseLines ((y :: r).map mkB) i b c ss).line = 0 ∧ (parseLines ((y :: insR E (35 :: q) (m + 1) r).map mkB) i' b c ss).line = 0) ∨
          ∃ k, k < (y :: r).length ∧ (parseLines ((y :: r).map mkB) i b c ss).line = (i + k + 1 : Nat) ∧ (parseLines ((y :: insR E (35 :: q) (m + 1) r).map mkB) i' b c ss).line = (i' + k + 1 + 2 * cnt E (m + 1) k : Nat)) := by
      intro i'
      rw [List.map_cons, List.map_cons, parseLines, parseLines]
      have up : ∀ (b' : Bool) (c' : Cfg) (ss' : List StepV),
          Alike (parseLines (r.map mkB) (i + 1) b' c' ss') (parseLines ((insR E (35 :: q) (m + 1) r).map mkB) (i' + 1) b' c' ss') ∧
          (((parseLines (r.map mkB) (i + 1) b' c' ss').line = 0 ∧ (parseLines ((insR E (35 :: q) (m + 1) r).map mkB) (i' + 1) b' c' ss').line = 0) ∨
          ∃ k, k < (y :: r).length ∧ (parseLines (r.map mkB) (i + 1) b' c' ss').line = (i + k + 1 : Nat) ∧ (parseLines ((insR E (35 :: q) (m + 1) r).map mkB) (i' + 1) b' c' ss').line = (i' + k + 1 + 2 * cnt E (m + 1) k : Nat)) := by
        intro b' c' ss'
        obtain ⟨h1, h2⟩ := ins_lines E q r (m + 1) (i + 1) (i' + 1) b' c' ss'
        refine ⟨h1, h2.imp id ?_⟩
        rintro ⟨k, hk, e1, e2⟩
        exact ⟨k + 1, by simp; omega, by rw [e1]; congr 1; omega, by rw [e2]; congr 1; omega⟩
      split
      · exact up b c ss
      · split
        · exact ⟨⟨rfl, rfl, rfl⟩, .inr ⟨0, by simp, rfl, rfl⟩⟩
        · exact up _ _ _
    by_cases hm : (m + 1) % E = 0
    · have e : parseLines ((insR E (35 :: q) m (y :: r)).map mkB) i' b c ss = parseLines ((y :: insR E (35 :: q) (m + 1) r).map mkB) (i' + 1 + 1) b c ss := by
        rw [insR, if_pos hm, List.map_cons, parseLines, if_pos (show passB (mkB []) = true from rfl), List.map_cons, parseLines, if_pos (pass_hash q)]
      rw [e]
      obtain ⟨h1, h2⟩ := main (i' + 1 + 1)
      refine ⟨h1, h2.imp id ?_⟩
      rintro ⟨k, hk, e1, e2⟩
      exact ⟨k, hk, e1, by rw [e2, cnt, if_pos hm]; congr 1; omega⟩
    · have e : insR E (35 :: q) m (y :: r) = y :: insR E (35 :: q) (m + 1) r := by rw [insR, if_neg hm]
      rw [e]
      obtain ⟨h1, h2⟩ := main i'
      refine ⟨h1, h2.imp id ?_⟩
      rintro ⟨k, hk, e1, e2⟩
      exact ⟨k, hk, e1, by rw [e2, cnt, if_neg hm]; congr 1; omega⟩
def outT (E : Nat) (q text : List UInt8) : List UInt8 := (35 :: q) ++ 10 :: 10 :: insT E (35 :: q) 0 text
theorem remarks_law (E : Nat) (q : List UInt8) (hq : ∀ b ∈ q, b ≠ 10) (text : ByteArray) (h1 : text.size ≤ 1048576) (h2 : (outT E q text.data.toList).length ≤ 1048576) :
    Alike (parseP text) (parseP (mkB (outT E q text.data.toList))) ∧
    (((parseP text).line = 0 ∧ (parseP (mkB (outT E q text.data.toList))).line = 0) ∨
      ∃ k, k < (cut 10 text.data.toList).length ∧ (parseP text).line = (k + 1 : Nat) ∧ (parseP (mkB (outT E q text.data.toList))).line = (k + 1 + 2 + 2 * cnt E 0 k : Nat)) := by
  have hs : (mkB (outT E q text.data.toList)).size = (outT E q text.data.toList).length := by show (outT E q text.data.toList).toArray.size = _; simp
  rw [parse_cut h1, parse_cut (by rw [hs]; exact h2)]
  have hp : ∀ b ∈ (35 :: q), b ≠ 10 := by
    intro b hb
    rcases List.mem_cons.1 hb with rfl | hb
    · decide
    · exact hq b hb
  obtain ⟨h, t, e1, e2⟩ := cut_insT E (35 :: q) hp text.data.toList 0
  have ep : pieces 10 text = (h :: t).map mkB := by unfold pieces; rw [e1]; rfl
  have eq' : pieces 10 (mkB (outT E q text.data.toList)) = ((35 :: q) :: [] :: h :: insR E (35 :: q) 0 t).map mkB := by
    unfold pieces
    show List.map _ (cut 10 (outT E q text.data.toList)) = _
    rw [outT, cut_app hp, cut, if_pos rfl, e2]
    rfl
  have e : ∀ rest, parseLines (mkB (35 :: q) :: mkB [] :: rest) 0 false cfg0 [] = parseLines rest (0 + 1 + 1) false cfg0 [] := fun rest => by
    rw [parseLines, if_pos (pass_hash q), parseLines, if_pos (show passB (mkB []) = true from rfl)]
  rw [ep, eq', e1, List.map_cons, List.map_cons, List.map_cons, e]
  rw [List.map_cons, parseLines, parseLines]
  have up : ∀ (b' : Bool) (c' : Cfg) (ss' : List StepV),
      Alike (parseLines (t.map mkB) (0 + 1) b' c' ss') (parseLines ((insR E (35 :: q) 0 t).map mkB) (0 + 1 + 1 + 1) b' c' ss') ∧
      (((parseLines (t.map mkB) (0 + 1) b' c' ss').line = 0 ∧ (parseLines ((insR E (35 :: q) 0 t).map mkB) (0 + 1 + 1 + 1) b' c' ss').line = 0) ∨
      ∃ k, k < (h :: t).length ∧ (parseLines (t.map mkB) (0 + 1) b' c' ss').line = (k + 1 : Nat) ∧ (parseLines ((insR E (35 :: q) 0 t).map mkB) (0 + 1 + 1 + 1) b' c' ss').line = (k + 1 + 2 + 2 * cnt E 0 k : Nat)) := by
    intro b' c' ss'
    obtain ⟨g1, g2⟩ := ins_lines E q t 0 (0 + 1) (0 + 1 + 1 + 1) b' c' ss'
    refine ⟨g1, g2.imp id ?_⟩
    rintro ⟨k, hk, e1, e2⟩
    exact ⟨k + 1, by simp; omega, by rw [e1]; congr 1; omega, by rw [e2]; congr 1; omega⟩
  split
  · exact up _ _ _
  · split
    · exact ⟨⟨rfl, rfl, rfl⟩, .inr ⟨0, by simp, rfl, rfl⟩⟩
    · exact up _ _ _
/-! ### what the loop counts -/
def tens (l : List UInt8) : Nat := l.count 10
theorem insT_snoc (E : Nat) (pass : List UInt8) (b : UInt8) : ∀ (l : List UInt8) (m : Nat), insT E pass m (l ++ [b]) = insT E pass m l ++ (if b = 10 then (if (m + tens l + 1) % E = 0 then 10 :: 10 :: (pass ++ [10]) else [10]) else [b])
  | [], m => by
    rw [List.nil_append, insT, insT]
    have : tens [] = 0 := rfl
    rw [this, Nat.add_zero]
    by_cases hb : b = 10
    · subst hb
      rw [if_pos rfl, if_pos rfl]
      split <;> simp [insT]
    · rw [if_neg hb, if_neg hb]; simp [insT]
  | a :: l, m => by
    rw [List.cons_append, insT, insT]
    by_cases ha : a = 10
    · subst ha
      have ht : tens (10 :: l) = tens l + 1 := by simp [tens]
      rw [if_pos rfl, if_pos rfl, insT_snoc E pass b l (m + 1), ht]
      have e : m + 1 + tens l + 1 = m + (tens l + 1) + 1 := by omega
      rw [e]
      split <;> simp
    · have ht : tens (a :: l) = tens l := by simp [tens, ha]
      rw [if_neg ha, if_neg ha, insT_snoc E pass b l m, ht]
      simp
theorem cut_tens : ∀ l : List UInt8, (cut 10 l).length = tens l + 1
  | [] => rfl
  | b :: l => by
    have ih := cut_tens l
    by_cases hb : b = 10
    · subst hb
      have ht : tens (10 :: l) = tens l + 1 := by simp [tens]
      rw [cut, if_pos rfl, List.length_cons, ih, ht]
    · have ht : tens (b :: l) = tens l := by simp [tens, hb]
      rw [cut, if_neg hb, ht]
      cases hc : cut 10 l with
      | nil => exact absurd hc (cut_ne 10 l)
      | cons h t => rw [hc] at ih; simpa using ih
/-- The remarks put in ahead of the line that is wrong, as the loop counts them. -/
def cl (E : Nat) (line : Int) : Nat → Nat
  | 0 => 0
  | n + 1 => cl E line n + (if (n + 1) % E = 0 ∧ ((n + 1 : Nat) : Int) < line then 1 else 0)
theorem cl_eq (E k : Nat) : ∀ n, cl E (k + 1 : Nat) n = cnt E 0 (min n k)
  | 0 => by simp [cl, cnt]
  | n + 1 => by
    rw [cl, cl_eq E k n]
    by_cases hn : n < k
    · have e1 : min n k = n := by omega
      have e2 : min (n + 1) k = n + 1 := by omega
      rw [e1, e2, cnt_snoc]
      have hlt : ((n + 1 : Nat) : Int) < ((k + 1 : Nat) : Int) := by omega
      simp only [hlt, and_true, Nat.zero_add]
    · have e1 : min n k = k := by omega
      have e2 : min (n + 1) k = k := by omega
      rw [e1, e2, if_neg (by omega)]
      rfl
end Go.Proofs.YtdnnamaimgijpaaDoor
