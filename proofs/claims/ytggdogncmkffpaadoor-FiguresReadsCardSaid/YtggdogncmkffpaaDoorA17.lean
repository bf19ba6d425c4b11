/- The law's own example, and what a key of a dictionary reads as. Conditions: none. -/
import Derived.Test.YtggdogncmkffpaaDoorA16
set_option linter.unusedVariables false
set_option maxRecDepth 100000
namespace Go.Proofs.YtggdogncmkffpaaDoor
open Go Go.Sx Go.Proofs Go.Lib Go.RowKit

/-! ### bytes that a figure handed out -/
theorem BytesAt.ofOwns {w : World} {B : Nat} {v : Value} {bs : List UInt8} (hl : bs.length ≤ 4611686018427387904) (h : w.ownsRow B 5 1 v bs.length (byteCells bs)) : BytesAt w v bs := by
  obtain ⟨I, hr, hI⟩ := Row.of_owns h
  generalize hn : bs.length = n at hr
  generalize hx : byteCells bs = xs at hr
  cases hr with
  | nil => exact ⟨none, 0, by rw [hn], by omega, by omega, fun h => absurd h (by omega)⟩
  | @row b _ c _ sp e1 e2 e3 e4 =>
    subst hn hx
    refine ⟨some ⟨b, 0, none⟩, c, rfl, e3, hl, fun _ => ⟨b, _, _, rfl, (hI _ (List.mem_singleton.2 rfl)).2.2.1, fun j hj => ?_⟩⟩
    simp only [List.getElem?_toArray]
    rw [List.getElem?_append_left (by rw [byteCells_length]; exact hj)]
    exact byteCells_get _ j hj
theorem run_toStrB {w : World} {v : Value} {bs : List UInt8} (h : BytesAt w v bs) (h0 : 0 < bs.length) : (convert 24 9 v).run P w = .ok (.string ⟨bs.toArray⟩) w := by
  obtain ⟨x, c, rfl, _, _, hp⟩ := h
  obtain ⟨b, cs, fz, rfl, hb, hcs⟩ := hp h0
  exact run_toStr hb (fun j hj => by rw [Nat.zero_add]; exact hcs j hj)
theorem dictBytes_pos (ps : List Pr) : 0 < (dictBytes ps).length := by simp [dictBytes, first4]
/-- A figure's answer, where it stays. -/
def Figure (ps : List Pr) (w : World) (u : Value) : Prop := (dictOk ps ∧ BytesAt w u (dictBytes ps)) ∨ u = .slice none 0 0
theorem Figure.below {ps : List Pr} {w w' : World} {u : Value} (h : Figure ps w u) (hb : Below w.heap.size w w') : Figure ps w' u := h.imp (fun h => ⟨h.1, h.2.below hb⟩) id
theorem Told.figure {ps : List Pr} {w0 w : World} {u : Value} (h : Told ps w0 u w) : Figure ps w u := by
  rcases h.2 with ⟨hd, ho⟩ | ⟨_, h⟩
  · have := dictBytes_len (i := ps.length) (by omega) hd.1 hd.2
    rw [List.take_length] at this
    exact .inl ⟨hd, BytesAt.ofOwns (by omega) ho⟩
  · exact .inr h

/-! ### the example -/
def T0 : TubeD := { name := ⟨#[97]⟩, sums := ⟨0, 0, 0, 0, 0⟩, inUse := 0, watching := 0, waiting := 0, total := 0, deletes := 0, pauses := 0, pause := 5, until_ := 12 }
theorem T0_ok : T0.ok := by
  refine ⟨by decide, ⟨?_, ?_, ?_, ?_, ?_⟩, ?_, ?_, ?_, ?_, ?_, ?_, ?_, ?_⟩ <;> (unfold i64; decide)
theorem dec_one {n : Nat} (h : n < 10) : dec (n : Int) = ⟨#[UInt8.ofNat (48 + n)]⟩ := by
  rw [dec, if_neg (by omega), itoa, if_neg (by omega), Int.toNat_natCast, decDigits_one h]
def L0 : List Pr := [(⟨#[110, 97, 109, 101]⟩, ⟨#[97]⟩), (K_urgent, ⟨#[48]⟩), (K_ready, ⟨#[48]⟩), (K_reserved, ⟨#[48]⟩), (K_delayed, ⟨#[48]⟩), (K_buried, ⟨#[48]⟩),
  (⟨#[116, 111, 116, 97, 108, 45, 106, 111, 98, 115]⟩, ⟨#[48]⟩), (⟨#[99, 117, 114, 114, 101, 110, 116, 45, 117, 115, 105, 110, 103]⟩, ⟨#[48]⟩), (⟨#[99, 117, 114, 114, 101, 110, 116, 45, 119, 97, 105, 116, 105, 110, 103]⟩, ⟨#[48]⟩),
  (⟨#[99, 117, 114, 114, 101, 110, 116, 45, 119, 97, 116, 99, 104, 105, 110, 103]⟩, ⟨#[48]⟩), (⟨#[112, 97, 117, 115, 101]⟩, ⟨#[53]⟩), (⟨#[99, 109, 100, 45, 100, 101, 108, 101, 116, 101]⟩, ⟨#[48]⟩),
  (⟨#[99, 109, 100, 45, 112, 97, 117, 115, 101, 45, 116, 117, 98, 101]⟩, ⟨#[48]⟩), (⟨#[112, 97, 117, 115, 101, 45, 116, 105, 109, 101, 45, 108, 101, 102, 116]⟩, ⟨#[50]⟩)]
theorem T0_pairs : tubePairs T0 10 = L0 := by
  have h0 : dec 0 = ⟨#[48]⟩ := dec_one (n := 0) (by omega)
  have h5 : dec 5 = ⟨#[53]⟩ := dec_one (n := 5) (by omega)
  have h2 : dec (tubeLeft T0 10) = ⟨#[50]⟩ := by
    have : tubeLeft T0 10 = ((2 : Nat) : Int) := by kernel_rfl
    rw [this, dec_one (by omega)]
    rfl
  unfold tubePairs sumsPairs
  rw [h2]
  simp only [T0, h0, h5]
  rfl
def okB (ps : List Pr) : Bool := (List.range ps.length).all fun j => match ps[j]? with
  | some p => rightB p.1.data.toList && !hasB (ps.take j) p.1 && plainB p.2.data.toList
  | none => true
theorem okTo_of {ps : List Pr} (h : okB ps = true) : okTo ps ps.length := by
  intro j hj _
  have := List.all_eq_true.1 h j (List.mem_range.2 hj)
  rw [List.getElem?_eq_getElem hj] at this
  simp only [Bool.and_eq_true, Bool.not_eq_true'] at this
  exact ⟨this.1.1, this.1.2, this.2⟩
theorem L0_ok : dictOk L0 := ⟨by decide, okTo_of (by kernel_rfl)⟩
theorem build30 (w : World) : (Instr.build 30 #[(0, .string ⟨#[97]⟩), (8, .int .i64 5), (9, .int .i64 12)]).run P w = .ok (.agg T0.cells) w := by kernel_rfl
theorem shown_ret (w : World) (ht : Tab w) : Ret P 4 #[] w (fun r w' => r = .bool true ∧ Below w.heap.size w w') := by
  refine f4.calls ?_
  unfold f4.f
  refine Do.ok (build30 w) ?_
  refine CallF.ret (f6.enters _ _) (tube_fn ht T0_ok (now := 10) (by unfold i64; omega)) ?_
  intro u w1 h
  have hb := h.1
  rcases h.2 with ⟨_, ho⟩ | ⟨hd, _⟩
  · rw [T0_pairs] at ho
    have hB := BytesAt.ofOwns (by have := dictBytes_len (i := L0.length) (by omega) L0_ok.1 L0_ok.2; rw [List.take_length] at this; omega) ho
    refine Do.ok (run_toStrB hB (dictBytes_pos _)) ?_
    refine Do.dec run_eqs (fun _ => ⟨rfl, hb⟩) (fun h => absurd ?_ h)
    decide +kernel
  · rw [T0_pairs] at hd
    exact absurd L0_ok hd

/-! ### keys -/
theorem keyAt_of {ps : List Pr} {key v : ByteArray} {m : Nat} (hd : dictOk ps) (hm : ps[m]? = some (key, v)) : keyAt ps key m := by
  obtain ⟨hml, he⟩ := List.getElem?_eq_some_iff.1 hm
  intro j hj
  constructor
  · intro h
    rcases Nat.lt_trichotomy j m with hlt | h' | hlt
    · exfalso
      have := (hd.2 m hml hml).2.1
      rw [hasB, List.any_eq_false] at this
      have := this ps[j] (List.mem_take_iff_getElem.2 ⟨j, by omega, rfl⟩)
      rw [he] at this
      simp [h] at this
    · exact h'
    · exfalso
      have := (hd.2 j hj hj).2.1
      rw [hasB, List.any_eq_false] at this
      have := this ps[m] (List.mem_take_iff_getElem.2 ⟨m, by omega, rfl⟩)
      rw [he] at this
      simp [h] at this
  · rintro rfl
    rw [he]
theorem dec_at {ps : List Pr} {key : ByteArray} {n : Int} {m : Nat} (hd : dictOk ps) (hm : ps[m]? = some (key, dec n)) (hi : i64 n) :
    ∃ k : Nat, n = k ∧ k ≤ 9223372036854775807 ∧ m < ps.length ∧ ps[m]?.map (·.2) = some (⟨(decDigits k).toArray⟩ : ByteArray) := by
  have hp := hd.at (List.mem_of_getElem? hm)
  obtain ⟨h0, he⟩ := dec_plain hp.2
  have := hi.2
  exact ⟨n.toNat, by omega, by omega, (List.getElem?_eq_some_iff.1 hm).1, by rw [hm, Option.map_some, he]⟩
theorem is_ok {v : Value} {ps : List Pr} {key : ByteArray} {n : Int} (m : Nat) {w : World} (hv : PairsAt w v ps) (hd : dictOk ps) (hm : ps[m]? = some (key, dec n)) (hi : i64 n) :
    Ret P 9 #[v, .string key, .int .i64 n] w (fun r w' => r = .bool true ∧ Below w.heap.size w w') := by
  obtain ⟨k, rfl, h1, h2, h3⟩ := dec_at hd hm hi
  exact is_ret v ps key m k w hv (keyAt_of hd hm) h2 h3 h1
theorem value_ok {v : Value} {ps : List Pr} {key : ByteArray} {n : Int} (m : Nat) {w : World} (hv : PairsAt w v ps) (hd : dictOk ps) (hm : ps[m]? = some (key, dec n)) (hi : i64 n) :
    Ret P 10 #[v, .string key] w (fun r w' => r = .tuple #[.int .i64 n, .bool true] ∧ Below w.heap.size w w') := by
  obtain ⟨k, rfl, h1, h2, h3⟩ := dec_at hd hm hi
  exact (value_ret v ps key m k w hv (keyAt_of hd hm) (fun _ => h3) h1).mono fun r w' h => ⟨h.1 h2, h.2.2⟩
theorem value_no {v : Value} {ps : List Pr} {key : ByteArray} {w : World} (hv : PairsAt w v ps) (hm : ∀ p ∈ ps, p.1.data.toList ≠ key.data.toList) :
    Ret P 10 #[v, .string key] w (fun r w' => r = .tuple #[.int .i64 0, .bool false] ∧ Below w.heap.size w w') :=
  (value_ret v ps key ps.length 0 w hv (fun j hj => ⟨fun h => absurd h (hm _ (List.getElem_mem _)), fun h => by omega⟩) (fun h => by omega) (by omega)).mono fun r w' h => ⟨h.2.1 (Nat.le_refl _), h.2.2⟩
end Go.Proofs.YtggdogncmkffpaaDoor
