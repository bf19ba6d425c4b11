/- What is read of slices; data, wordOf. Conditions: none. -/
import Derived.Test.YtdnnamaimgijpaaDoorS13
set_option linter.unusedVariables false
set_option linter.unusedSectionVars false
set_option maxRecDepth 10000
namespace Go.Proofs.YtdnnamaimgijpaaDoor
open Go Go.Sx Go.Proofs Go.Lib Go.RowKit

/-- 'v' reads as a slice of n elements of type T (sz cells each) with the cells 'xs'. -/
def SlAt (T sz : Nat) (w : World) (v : Value) (n : Nat) (xs : List Value) : Prop :=
  ∃ x c, v = .slice x n c ∧ (n ≤ c ∧ c ≤ maxLen) ∧ xs.length = n * sz ∧ (0 < n → ∃ (b o : Nat) (cs : Array Value) (fz : Nat × Nat × Nat), x = some ⟨b, o, none⟩ ∧ w.heap[b]? = some (.cells cs fz.1 fz.2) ∧ ∀ j (h : j < xs.length), cs[o + j]? = some xs[j])
theorem SlAt.below {T sz : Nat} {w w' : World} {v : Value} {n : Nat} {xs : List Value} (h : SlAt T sz w v n xs) (hb : Below w.heap.size w w') : SlAt T sz w' v n xs := by
  obtain ⟨x, c, he, hc, hl, hp⟩ := h
  refine ⟨x, c, he, hc, hl, fun h0 => ?_⟩
  obtain ⟨b, o, cs, fz, hx, hw, hcs⟩ := hp h0
  exact ⟨b, o, cs, fz, hx, (hb.block b (Array.getElem?_eq_some_iff.1 hw).1).trans hw, hcs⟩
theorem SlAt.len {t e : TypeId} [u : Und P t (.slice e)] {ty : TypeId} {T sz : Nat} {w w' : World} {v : Value} {n : Nat} {xs : List Value} (h : SlAt T sz w v n xs) : (Builtin.len_ #[t] ty #[v]).run P w' = .ok (.int .i64 n) w' := by
  obtain ⟨x, c, rfl, _⟩ := h
  exact run_lenS
theorem SlAt.le {T sz : Nat} {w : World} {v : Value} {n : Nat} {xs : List Value} (h : SlAt T sz w v n xs) : n ≤ maxLen := by
  obtain ⟨x, c, _, hc, _⟩ := h
  exact Nat.le_trans hc.1 hc.2
/-- Element i: where it lies. -/
theorem SlAt.idx {t e : TypeId} [u : Und P t (.slice e)] {agg : Bool} {sz : Nat} {z : Value} {by_ : Nat} [ty : Ty P e agg sz z by_] {T : Nat} {w : World} {v : Value} {n : Nat} {xs : List Value} (h : SlAt T sz w v n xs) {i : Nat} (hi : i < n) :
    ∃ (b o : Nat) (cs : Array Value) (fz : Nat × Nat × Nat), w.heap[b]? = some (.cells cs fz.1 fz.2) ∧ (∀ w', (Instr.indexAt t v (.int .i64 (i : Int))).run P w' = .ok (.pointer (some ⟨b, o, none⟩)) w') ∧ ∀ j, j < sz → cs[o + j]? = xs[i * sz + j]? := by
  obtain ⟨x, c, rfl, hc, hl, hp⟩ := h
  obtain ⟨b, o, cs, fz, rfl, hw, hcs⟩ := hp (by omega)
  refine ⟨b, o + i * sz, cs, fz, hw, fun w' => ?_, fun j hj => ?_⟩
  · have := run_idx (P := P) (w := w') (t := t) (b := b) (o := o) (n := n) (c := c) (i := (i : Int)) (by omega) (by omega)
    rw [this]
    simp
  · have h1 : (i + 1) * sz ≤ n * sz := Nat.mul_le_mul_right _ hi
    have h2 : (i + 1) * sz = i * sz + sz := by rw [Nat.add_mul, Nat.one_mul]
    have hlt : i * sz + j < xs.length := by omega
    rw [Nat.add_assoc, hcs _ hlt, List.getElem?_eq_getElem hlt]
theorem Row.reads {T sz : Nat} {v : Value} {n : Nat} {xs : List Value} {I L : List (Nat × Obj)} {w0 w : World} (h : Row T sz v n xs I) (H : Has w0 w (I ++ L)) : SlAt T sz w v n xs := by
  cases h with
  | nil => exact ⟨_, _, rfl, ⟨Nat.le_refl _, Nat.zero_le _⟩, by simp, fun h => absurd h (by omega)⟩
  | @row b _ c xs sp hn hc hnc hcm =>
    exact ⟨_, _, rfl, ⟨hnc, hcm⟩, hn, fun _ => ⟨b, 0, _, (T, (0, 0)), rfl, H.get 0 rfl, fun j hj => by simp [List.getElem?_append_left hj, hj]⟩⟩

def hexD (n : Nat) : UInt8 := hexL.getD n 0
def esc (c : UInt8) : List UInt8 :=
  if c = 32 then [92, 115] else if c = 13 then [92, 114] else if c = 10 then [92, 110] else if c = 92 then [92, 92] else
  if 33 ≤ c.toNat ∧ c.toNat ≤ 126 then [c] else [92, 120, hexD (c.toNat / 16), hexD (c.toNat % 16)]
def dataV (l : List UInt8) : List UInt8 := 61 :: l.flatMap esc
theorem esc_len (c : UInt8) : (esc c).length ≤ 4 := by
  unfold esc
  repeat' split
  all_goals simp
theorem flat_len (l : List UInt8) : (l.flatMap esc).length ≤ 4 * l.length := by
  induction l with
  | nil => simp
  | cons c l ih =>
    have := esc_len c
    rw [List.flatMap_cons, List.length_append, List.length_cons]; omega
theorem run_idxS8 {t : TypeId} [u : Und P t .string] {s : ByteArray} {i : Int} {w : World} (h0 : 0 ≤ i) (h1 : i < s.size) : (Instr.index t (.string s) (.int .u8 i)).run P w = .ok (.int .u8 ((s.data.toList[i.toNat]'(by simp; omega)).toNat : Int)) w := by
  have hlt : i.toNat < s.size := by omega
  simp only [Instr.index, asIntOf, Sem.run_bind, Sem.run_pure, Result.andThen, run_und]
  rw [if_pos h0]
  have : s[i.toNat]? = some (s[i.toNat]'hlt) := by simp [getElem?_def, hlt]
  rw [this]
  simp only [Sem.run_pure]
  rfl
theorem hex_idx {n : Nat} (h : n < 16) (w : World) : (Instr.index 9 (.string ⟨#[48, 49, 50, 51, 52, 53, 54, 55, 56, 57, 97, 98, 99, 100, 101, 102]⟩) (.int .u8 (n : Int))).run P w = .ok (.int .u8 ((hexD n).toNat : Int)) w := by
  have := run_idxS8 (t := 9) (s := ⟨#[48, 49, 50, 51, 52, 53, 54, 55, 56, 57, 97, 98, 99, 100, 101, 102]⟩) (i := (n : Int)) (w := w) (by omega) (by simp [ByteArray.size]; omega)
  rw [this]
  congr 3
  simp only [Int.toNat_natCast, hexD, hexL]
  rw [List.getD_eq_getElem?_getD, List.getElem?_eq_getElem (by simp; omega)]
  rfl
theorem shr_pure (c : UInt8) (w : World) : (binOp .shr 5 (.int .u8 (c.toNat : Int)) (.int .u64 4)).run P w = .ok (.int .u8 ((c.toNat / 16 : Nat) : Int)) w := by
  show (Op.shift .shr .u8 (c.toNat : Int) .u64 4).run P w = _
  simp only [Op.shift]
  rw [if_neg (by omega)]
  have e2 : min (Int.toNat 4) IntKind.u8.bits = 4 := rfl
  rw [e2]
  simp only [Sem.run_pure]
  have e : ((c.toNat : Nat) : Int).fdiv (2 ^ 4) = ((c.toNat / 16 : Nat) : Int) := by rw [Int.fdiv_eq_ediv_of_nonneg _ (by decide)]; omega
  rw [e]
theorem and_pure' : ∀ x : Fin 256, IntKind.u8.wrap ((BitVec.ofInt 8 (x.1 : Int) &&& BitVec.ofInt 8 15).toNat : Int) = ((x.1 % 16 : Nat) : Int) := by decide +kernel
theorem and_pure (c : UInt8) (w : World) : (binOp .and 5 (.int .u8 (c.toNat : Int)) (.int .u8 15)).run P w = .ok (.int .u8 ((c.toNat % 16 : Nat) : Int)) w := by
  have := and_pure' ⟨c.toNat, c.toNat_lt⟩
  show (Op.intBits .and .u8 (c.toNat : Int) 15).run P w = _
  simp only [Op.intBits, Sem.run_pure]
  congr 2
theorem data_ret (v : Value) (l : List UInt8) (hl : l.length ≤ 4294967296) (w : World) (hv : SlAt 5 1 w v l.length (byteCells l)) : Ret P 72 #[v] w (fun r w' => r = .string ⟨(dataV l).toArray⟩ ∧ Below w.heap.size w w') := by
  refine f72.calls ?_
  unfold f72.f
  refine Do.alloc (Has.init w) ?_
  intro b w1 H1
  refine writeByte (L := []) (l := []) (L0 := [(b, .cells #[.pointer none, .slice none 0 0] 73 (0, 0))]) H1 (.new b) 61 (by simp) ?_
  intro _ w2 L2 hb2 H2
  refine Do.ok hv.len ?_
  refine ⟨fun k x w' => ∃ (i : Nat) (L0 : List (Nat × Obj)), k + i = l.length ∧ x = .int .i64 i ∧ Bld b (61 :: (l.take i).flatMap esc) L0 ∧ Has w w' (L0 ++ []), ⟨l.length, 0, L2, by omega, rfl, hb2, H2⟩, ?_⟩
  rintro k σ w3 ⟨i, L0, hk, hx, hb, H⟩
  rw [hx]
  unfold f72.l0
  refine Do.dec run_lss (fun hlt => If.t ?_) (fun hge => If.f ?_)
  case refine_2 =>
    refine bldString H hb fun w' h => ⟨?_, h⟩
    rw [List.take_of_length_le (by omega)]
    rfl
  have hi : i < l.length := by omega
  obtain ⟨bb, o, cs, fz, hw, hidx, hcs⟩ := hv.idx (t := 41) (e := 5) hi
  have hc := hcs 0 (by omega)
  simp only [Nat.add_zero, Nat.mul_one] at hc
  rw [byteCells_get l i hi] at hc
  refine Do.ok (hidx w3) (Do.ok (run_loadBase H hw hc) ?_)
  have htk : l.take (i + 1) = l.take i ++ [l[i]] := by rw [List.take_add_one, List.getElem?_eq_getElem hi]; rfl
  have hfl : (61 :: (l.take (i + 1)).flatMap esc) = (61 :: (l.take i).flatMap esc) ++ esc l[i] := by rw [htk, List.flatMap_append]; simp
  have hle : (61 :: (l.take i).flatMap esc).length ≤ 1 + 4 * l.length := by
    have := flat_len (l.take i)
    simp only [List.length_cons, List.length_take] at this ⊢
    omega
  have hadd : ∀ w, (binOp .add 3 (.int .i64 (i : Int)) (.int .i64 1)).run P w = .ok (.int .i64 ((i : Int) + 1)) w := fun w => run_addi (by omega)
  generalize hcc : l[i] = c at *
  generalize hacc : (61 :: (l.take i).flatMap esc) = acc at *
  have next : ∀ {w' : World} {L0' : List (Nat × Obj)}, Bld b (acc ++ esc c) L0' → Has w w' (L0' ++ []) → ∃ k', k' < k ∧ ∃ (i' : Nat) (L0 : List (Nat × Obj)), k' + i' = l.length ∧ Value.int .i64 ((i : Int) + 1) = .int .i64 i' ∧ Bld b (61 :: (l.take i').flatMap esc) L0 ∧ Has w w' (L0 ++ []) := by
    intro w' L0' h1 h2
    exact ⟨k - 1, by omega, i + 1, L0', by omega, rfl, by rw [hfl]; exact h1, h2⟩
  have str : ∀ (s : ByteArray), s.size ≤ 4 → esc c = s.data.toList → CallF P 37 [pt b, .string s] w3 (fun _ w' => Do P (binOp .add 3 (.int .i64 (i : Int)) (.int .i64 1)) w' (fun y w'' => ∃ k', k' < k ∧ ∃ (i' : Nat) (L0 : List (Nat × Obj)), k' + i' = l.length ∧ y = .int .i64 i' ∧ Bld b (61 :: (l.take i').flatMap esc) L0 ∧ Has w w'' (L0 ++ [])) (fun _ _ => False)) (fun _ _ => False) := by
    intro s hs he
    refine writeString H hb s (by omega) ?_
    intro _ w4 L4 hb4 H4
    exact Do.ok (hadd _) (next (by rw [he]; exact hb4) H4)
  refine Do.dec run_eqi (fun h => If.t (str _ (by decide) ?_)) (fun h1 => If.f ?_)
  · rw [u8_of (d := 32) h]; rfl
  refine Do.dec run_eqi (fun h => If.t (str _ (by decide) ?_)) (fun h2 => If.f ?_)
  · rw [u8_of (d := 13) h]; rfl
  refine Do.dec run_eqi (fun h => If.t (str _ (by decide) ?_)) (fun h3 => If.f ?_)
  · rw [u8_of (d := 10) h]; rfl
  refine Do.dec run_eqi (fun h => If.t (str _ (by decide) ?_)) (fun h4 => If.f ?_)
  · rw [u8_of (d := 92) h]; rfl
  have n1 : c ≠ 32 := fun e => h1 (by rw [e]; rfl)
  have n2 : c ≠ 13 := fun e => h2 (by rw [e]; rfl)
  have n3 : c ≠ 10 := fun e => h3 (by rw [e]; rfl)
  have n4 : c ≠ 92 := fun e => h4 (by rw [e]; rfl)
  have he : esc c = if 33 ≤ c.toNat ∧ c.toNat ≤ 126 then [c] else [92, 120, hexD (c.toNat / 16), hexD (c.toNat % 16)] := by
    rw [esc, if_neg n1, if_neg n2, if_neg n3, if_neg n4]
  have hr := c.toNat_lt
  have esc4 : ¬ (33 ≤ c.toNat ∧ c.toNat ≤ 126) → acc ++ esc c = ((acc ++ [92, 120]) ++ [hexD (c.toNat / 16)]) ++ [hexD (c.toNat % 16)] := fun h => by rw [he, if_neg h]; simp
  refine Do.dec run_geq (fun h5 => GuardK.tt (GuardK.tt (Do.dec run_leq (fun h6 => Do.ok run_pickT (If.t ?_)) (fun h6 => Do.ok run_pickT (If.f ?_))))) (fun h5 => GuardK.ft (GuardK.ft (Do.ok run_pickF (If.f ?_))))
  · refine writeByte H hb c (by omega) ?_
    intro _ w4 L4 hb4 H4
    exact Do.ok (hadd _) (next (by rw [he, if_pos (by omega)]; exact hb4) H4)
  all_goals
    refine writeString H hb ⟨#[92, 120]⟩ (by have : (ByteArray.mk #[92, 120]).size = 2 := rfl; omega) ?_
    intro _ w4 L4 hb4 H4
    refine Do.ok (shr_pure c w4) (Do.ok (hex_idx (by omega) w4) ?_)
    refine writeByte H4 hb4 _ (by simp; omega) ?_
    intro _ w5 L5 hb5 H5
    refine Do.ok (and_pure c w5) (Do.ok (hex_idx (by omega) w5) ?_)
    refine writeByte H5 hb5 _ (by simp; omega) ?_
    intro _ w6 L6 hb6 H6
    exact Do.ok (hadd _) (next (by rw [esc4 (by omega)]; exact hb6) H6)
def wnum (n : Int) : Option ByteArray := if n < 0 ∨ 4611686018427387903 < n then none else some (dec n)
theorem wordOf_try (n : Int) (w : World) (hg : Glb w) : Try 71 #[.int .i64 n] w (fun v w' => ∃ s, wnum n = some s ∧ v = .string s ∧ Below w.heap.size w w') (fun c w' => c = 192 ∧ wnum n = none ∧ Below w.heap.size w w') := by
  refine f71.calls ?_
  unfold f71.f
  refine Do.dec run_lss (fun h => ?_) (fun h => ?_)
  · exact GuardK.tf (GuardK.tf (Do.ok run_pickT (If.t (CallF.fail ⟨192, rfl, rfl, by rw [wnum, if_pos (.inl h)], Below.refl _ _⟩))))
  · refine GuardK.ff (GuardK.ff (Do.dec run_gtr (fun h2 => ?_) (fun h2 => ?_)))
    · exact Do.ok run_pickF (If.t (CallF.fail ⟨192, rfl, rfl, by rw [wnum, if_pos (.inr h2)], Below.refl _ _⟩))
    · refine Do.ok run_pickF (If.f (CallF.ret (f39.enters _ _) (print_ret n ⟨by omega, by omega⟩ w hg) ?_))
      rintro _ w' ⟨rfl, hb⟩
      exact ⟨_, by rw [wnum, if_neg (by omega)], rfl, hb⟩
end Go.Proofs.YtdnnamaimgijpaaDoor
