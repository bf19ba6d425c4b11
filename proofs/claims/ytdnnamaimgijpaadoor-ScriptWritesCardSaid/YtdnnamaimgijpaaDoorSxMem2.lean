/-
  Sx: more rules: tests that part at once, bytes and strings, blocks that other contracts leave.
  Conditions: none. Own work; nothing in it is trusted.
-/
import Derived.Test.YtdnnamaimgijpaaDoorSxMem
import Derived.Laws.IdiomStrings
import Derived.Lib.OthersKept
import Derived.Lib.Buffer
set_option linter.unusedVariables false
namespace Go.Sx
open Go.RowKit Go.Lib
section
variable {P : Program} {w0 w : World} {L : List (Nat × Obj)} {K : Value → World → Prop} {X : List PanicEntry → World → Prop}
theorem Do.dec {s : Sem Value} {p : Prop} {_ : Decidable p} (h : s.run P w = .ok (.bool (decide p)) w) (ht : p → K (.bool true) w) (hf : ¬ p → K (.bool false) w) : Do P s w K X := by
  refine Do.ok h ?_
  by_cases hp : p
  · rw [decide_eq_true hp]; exact ht hp
  · rw [decide_eq_false hp]; exact hf hp
theorem Take.dec {S : World → Prop} {s : Sem Value} {p : Prop} {_ : Decidable p} {K : Value → Prop} (h : ∀ w, s.run P w = .ok (.bool (decide p)) w) (ht : p → K (.bool true)) (hf : ¬ p → K (.bool false)) : Take P S s K := by
  refine Take.ok (fun w _ => h w) ?_
  by_cases hp : p
  · rw [decide_eq_true hp]; exact ht hp
  · rw [decide_eq_false hp]; exact hf hp
theorem run_pickT {a b : Value} : (pickS (.bool true) a b).run P w = .ok a w := rfl
theorem run_pickF {a b : Value} : (pickS (.bool false) a b).run P w = .ok b w := rfl
theorem run_notT : (Op.unary .not (.bool true)).run P w = .ok (.bool false) w := rfl
theorem run_notF : (Op.unary .not (.bool false)).run P w = .ok (.bool true) w := rfl
theorem GuardK.tt {A : (Value → World → Prop) → Prop} (h : A K) : GuardK (.bool true) true A w K := h
theorem GuardK.ff {A : (Value → World → Prop) → Prop} (h : A K) : GuardK (.bool false) false A w K := h
theorem GuardK.tf {A : (Value → World → Prop) → Prop} (h : K undef w) : GuardK (.bool true) false A w K := h
theorem GuardK.ft {A : (Value → World → Prop) → Prop} (h : K undef w) : GuardK (.bool false) true A w K := h
theorem GuardK.un {b : Bool} {A : (Value → World → Prop) → Prop} (h : K undef w) : GuardK undef b A w K := h
theorem GuardT.tt {A : (Value → Prop) → Prop} {K : Value → Prop} (h : A K) : GuardT (.bool true) true A K := h
theorem GuardT.ff {A : (Value → Prop) → Prop} {K : Value → Prop} (h : A K) : GuardT (.bool false) false A K := h
theorem GuardT.tf {A : (Value → Prop) → Prop} {K : Value → Prop} (h : K undef) : GuardT (.bool true) false A K := h
theorem GuardT.ft {A : (Value → Prop) → Prop} {K : Value → Prop} (h : K undef) : GuardT (.bool false) true A K := h
theorem GuardT.un {b : Bool} {A : (Value → Prop) → Prop} {K : Value → Prop} (h : K undef) : GuardT undef b A K := h

/-! bytes and strings -/
theorem strCells_eq (s : ByteArray) : strCells s = byteCells s.data.toList := rfl
theorem byteCells_get (l : List UInt8) (i : Nat) (h : i < l.length) : (byteCells l)[i]? = some (.int .u8 (l[i].toNat : Int)) := by simp [byteCells, h]
theorem u8_range (c : UInt8) : (0 : Int) ≤ (c.toNat : Int) ∧ (c.toNat : Int) ≤ 255 := by have := c.toNat_lt; omega
/-- '[]byte(s)'. -/
theorem Do.toBytes (H : Has w0 w L) {src dst T : TypeId} [u1 : Und P src .string] [u2 : Und P dst (.slice T)] [u3 : Und P T (.int .u8)] {s : ByteArray}
    (k : ∀ b c sp fz w', Has w0 w' ((b, .cells (byteCells s.data.toList ++ sp).toArray T fz) :: L) → s.size ≤ c → K (.slice (some ⟨b, 0, none⟩) s.size c) w') : Do P (convert src dst (.string s)) w K X := by
  have hrun := run_bytes_of_string w src dst T s u1.h u2.h u3.h
  have e : bytesRow s (grownCap w s.size 0 T) = (byteCells s.data.toList ++ List.replicate (grownCap w s.size 0 T - s.size) (Value.int .u8 0)).toArray := by
    apply Array.ext'
    simp [bytesRow, byteCells]
  rw [e] at hrun
  exact Do.ok hrun (k _ _ _ _ _ ((H.drew).alloc _) (grownCap_ge w s.size 0 T))
/-- 'string(b)'. -/
theorem run_toStr {src dst T : TypeId} [u1 : Und P src (.slice T)] [u2 : Und P dst .string] [u3 : Und P T (.int .u8)] {b o c : Nat} {l : List UInt8} {cs : Array Value} {T' : TypeId} {fz : Nat × Nat}
    (hb : w.heap[b]? = some (.cells cs T' fz)) (hc : ∀ j (h : j < l.length), cs[o + j]? = some (.int .u8 (l[j].toNat : Int))) :
    (convert src dst (.slice (some ⟨b, o, none⟩) l.length c)).run P w = .ok (.string ⟨l.toArray⟩) w :=
  run_convert_bytes_back w src dst T ⟨b, o, none⟩ c l u1.h u3.h u2.h (fun j hj => by rw [add_blk]; exact (cell_of_blk hb _).trans (hc j hj))
theorem run_toStr_nil {src dst T : TypeId} [u1 : Und P src (.slice T)] [u2 : Und P dst .string] [u3 : Und P T (.int .u8)] {n c : Nat} :
    (convert src dst (.slice none n c)).run P w = .ok (.string ByteArray.empty) w := by
  rw [run_convert_bytes_string w src dst T none n c u1.h u3.h u2.h]
  rfl
theorem run_idxS {t : TypeId} [u : Und P t .string] {s : ByteArray} {i : Int} (h0 : 0 ≤ i) (h1 : i < s.size) : (Instr.index t (.string s) (.int .i64 i)).run P w = .ok (.int .u8 ((s.data.toList[i.toNat]'(by simp; omega)).toNat : Int)) w := by
  have hlt : i.toNat < s.size := by omega
  simp only [Instr.index, asIntOf, Sem.run_bind, Sem.run_pure, Result.andThen, run_und]
  rw [if_pos h0]
  have : s[i.toNat]? = some (s[i.toNat]'hlt) := by simp [getElem?_def, hlt]
  rw [this]
  simp only [Sem.run_pure]
  rfl
theorem run_sliceStr {t : TypeId} [u : Und P t .string] {s : ByteArray} {lo hi : Option Value} {a b : Nat} (hlo : lo = some (.int .i64 a) ∨ (lo = none ∧ a = 0)) (hhi : hi = some (.int .i64 b) ∨ (hi = none ∧ b = s.size)) (hab : a ≤ b) (hb : b ≤ s.size) :
    (Instr.sliceAt t (.string s) lo hi none).run P w = .ok (.string (s.extract a b)) w := by
  have hb' : (b : Int) ≤ (s.size : Int) := by omega
  have hab' : (a : Int) ≤ (b : Int) := by omega
  rcases hlo with rfl | ⟨rfl, rfl⟩ <;> rcases hhi with rfl | ⟨rfl, rfl⟩ <;>
    simp [Instr.sliceAt, Instr.slice, run_und, Instr.sliceBounds, Instr.sliceBound, asIntOf, hab, hb]
theorem run_slice {t T : TypeId} [u : Und P t (.slice T)] {agg : Bool} {sz : Nat} {z : Value} {by_ : Nat} [ty : Ty P T agg sz z by_] {x : Option Addr} {n c : Nat} {lo hi : Option Value} {a b : Nat}
    (hlo : lo = some (.int .i64 a) ∨ (lo = none ∧ a = 0)) (hhi : hi = some (.int .i64 b) ∨ (hi = none ∧ b = n)) (hab : a ≤ b) (hb : b ≤ c) :
    (Instr.sliceAt t (.slice x n c) lo hi none).run P w = .ok (.slice (if c = a then x else x.map (·.add (a * sz))) (b - a) (c - a)) w := by
  have hb' : (b : Int) ≤ (c : Int) := by omega
  have hab' : (a : Int) ≤ (b : Int) := by omega
  rcases hlo with rfl | ⟨rfl, rfl⟩ <;> rcases hhi with rfl | ⟨rfl, rfl⟩ <;>
    simp [Instr.sliceAt, Instr.slice, run_und, Instr.sliceBounds, Instr.sliceBound, asIntOf, hab, hb, ty.size]

/-! what others leave -/
theorem Has.kept {w' : World} {e B : Nat} {b : Option Nat} (H : Has w0 w L) (hb : Below B w w') (hk : OthersKept e b w w') (hB : w0.heap.size ≤ B)
    (hL : ∀ p ∈ L, p.1 < B ∨ (some p.1 ≠ b ∧ ∀ c fz, p.2 ≠ .cells c e fz)) : Has w0 w' L :=
  ⟨hb.os.trans H.os, hb.tape.trans H.tape, hb.output.trans H.output, Nat.le_trans H.size hb.size, fun c hc => (hb.block c (Nat.lt_of_lt_of_le hc hB)).trans (H.base c hc),
    fun p hp => ⟨(H.own p hp).1, by
      rcases hL p hp with h | ⟨h1, h2⟩
      · exact (hb.block _ h).trans (H.own p hp).2
      · exact hk _ _ (H.own p hp).2 h1 h2⟩, H.nd⟩
theorem run_loadBase (H : Has w0 w L) {t : TypeId} {sz : Nat} {z : Value} {by_ : Nat} [ty : Ty P t false sz z by_] {b o : Nat} {cs : Array Value} {T : TypeId} {fz : Nat × Nat} {v : Value}
    (hb : w0.heap[b]? = some (.cells cs T fz)) (hv : cs[o]? = some v) : (Instr.loadAt t (.pointer (some ⟨b, o, none⟩))).run P w = .ok v w :=
  run_load1 ((cell_of_blk ((H.base b (Array.getElem?_eq_some_iff.1 hb).1).trans hb) o).trans hv)
theorem run_loadBaseN (H : Has w0 w L) {t : TypeId} {sz : Nat} {z : Value} {by_ : Nat} [ty : Ty P t true sz z by_] {b o : Nat} {cs : Array Value} {T : TypeId} {fz : Nat × Nat}
    (hb : w0.heap[b]? = some (.cells cs T fz)) (ho : o + sz ≤ cs.size) : (Instr.loadAt t (.pointer (some ⟨b, o, none⟩))).run P w = .ok (.agg (cs.extract o (o + sz))) w :=
  run_loadN ((H.base b (Array.getElem?_eq_some_iff.1 hb).1).trans hb) ho
theorem Has.baseBlk (H : Has w0 w L) {b : Nat} {o : Obj} (hb : w0.heap[b]? = some o) : w.heap[b]? = some o := (H.base b (Array.getElem?_eq_some_iff.1 hb).1).trans hb
/-- A slice of ours as the kit tells it, and back. -/
theorem Row.owns {T sz : Nat} {v : Value} {n : Nat} {xs : List Value} {I : List (Nat × Obj)} (hr : Row T sz v n xs I) (H : Has w0 w (I ++ L)) : w.ownsRow w0.heap.size T sz v n xs := by
  cases hr with
  | nil => exact World.ownsRow_nil _ _ _ _
  | @row b _ c xs sp hn hc hnc hcm =>
    have h := H.own (b, .cells (xs ++ sp).toArray T (0, 0)) (by simp)
    exact ⟨hn, .inr ⟨b, c, _, rfl, h.1, h.2, hnc, hcm, by simp [hc], by rw [← hn]; simp⟩⟩
theorem Row.of_owns {B T sz : Nat} {v : Value} {n : Nat} {xs : List Value} (h : w.ownsRow B T sz v n xs) : ∃ I, Row T sz v n xs I ∧ ∀ p ∈ I, v.ownBlock = some p.1 ∧ B ≤ p.1 ∧ w.heap[p.1]? = some p.2 ∧ (∃ c, p.2 = .cells c T (0, 0)) ∧ I = [p] := by
  obtain ⟨hn, ⟨rfl, rfl⟩ | ⟨g, c, cur, rfl, hB, hg, hnc, hcm, hcs, ht⟩⟩ := h
  · have : xs = [] := List.eq_nil_of_length_eq_zero (by simpa using hn)
    subst this
    exact ⟨[], .nil, by simp⟩
  · have e : cur = (xs ++ cur.toList.drop (n * sz)).toArray := by
      apply Array.ext'
      rw [← ht]; simp
    refine ⟨[(g, .cells (xs ++ cur.toList.drop (n * sz)).toArray T (0, 0))], Row.row hn ?_ hnc hcm, ?_⟩
    · have := congrArg Array.size e
      rw [hcs] at this
      simpa using this.symm
    · intro p hp
      simp only [List.mem_singleton] at hp
      subst hp
      exact ⟨rfl, hB, by rw [← e]; exact hg, ⟨_, rfl⟩, rfl⟩
end
end Go.Sx
