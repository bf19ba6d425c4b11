/- Contracts: the reference's Parse of a numeral; the law's value and is. Conditions: none. -/
import Derived.Test.YtggdogncmkffpaaDoorA15
set_option linter.unusedVariables false
set_option maxRecDepth 10000
namespace Go.Proofs.YtggdogncmkffpaaDoor
open Go Go.Sx Go.Proofs Go.Lib Go.RowKit

theorem run_quo10 {a : Int} {w : World} (h0 : 0 ≤ a) (h1 : a ≤ 9223372036854775807) : (binOp .quo 3 (.int .i64 a) (.int .i64 10)).run P w = .ok (.int .i64 (a / 10)) w := by
  have e : a.tdiv 10 = a / 10 := Int.tdiv_eq_ediv_of_nonneg h0
  simp [binOp, Op.intDiv, e]
  exact wrap_id (by omega)
theorem run_sub8 {a b : Int} {w : World} (h : 0 ≤ a - b ∧ a - b ≤ 255) : (binOp .sub 5 (.int .u8 a) (.int .u8 b)).run P w = .ok (.int .u8 (a - b)) w := by
  rw [run_sub]
  congr 2
  have hb : (2 : Int) ^ IntKind.u8.bits = 256 := rfl
  have hs : IntKind.u8.signed = false := rfl
  simp only [IntKind.wrap, hb, hs]
  simp
  omega
theorem run_conv53 {a : Int} {w : World} (h : 0 ≤ a ∧ a ≤ 255) : (convert 5 3 (.int .u8 a)).run P w = .ok (.int .i64 a) w := by
  have := run_convert_int (P := P) w 5 3 .u8 a (by kernel_rfl) (by kernel_rfl)
  rw [this]
  show Result.ok (Value.int .i64 (IntKind.i64.wrap a)) w = _
  rw [wrap_id (by omega)]

theorem dg_toNat (u j : Nat) : (dg u j).toNat = 48 + u / 10 ^ j % 10 := by
  unfold dg
  have : u / 10 ^ j % 10 < 10 := Nat.mod_lt _ (by omega)
  simp only [UInt8.toNat_ofNat']
  omega
theorem parse_ret (u : Nat) (hu : u ≤ 9223372036854775807) (w : World) :
    Ret P 22 #[.string ⟨(decDigits u).toArray⟩, .int .i64 9223372036854775807] w (fun r w' => r = .tuple #[.int .i64 u, .bool true] ∧ w' = w) := by
  refine f22.calls ?_
  unfold f22.f
  have hsz : (⟨(decDigits u).toArray⟩ : ByteArray).size = nDigits u := by
    show (decDigits u).toArray.size = _
    rw [List.size_toArray, decDigits_length]
  have hpos := nDigits_pos u
  have hle := nDigits_le20 u (by omega)
  refine Do.ok run_lenStr (Do.dec run_eqi (fun h => by omega) (fun _ => ?_))
  refine GuardK.ff (GuardK.ff (Do.dec run_lss (fun h => by omega) (fun _ => Do.ok run_pickF (If.f ?_))))
  refine ⟨fun k x6 x7 w' => ∃ i : Nat, k + i = nDigits u ∧ x7 = .int .i64 i ∧ x6 = .int .i64 (u / 10 ^ (nDigits u - i) : Nat) ∧ w' = w,
    ⟨nDigits u, 0, by simp, rfl, by rw [Nat.sub_zero, Nat.div_eq_of_lt (lt_pow_nDigits u)]; rfl, rfl⟩, ?_⟩
  rintro k σ w2 ⟨i, hk, hx7, hx6, rfl⟩
  rw [hx7, hx6]
  unfold f22.l0
  refine Do.ok run_lenStr (Do.dec run_lss (fun hlt => If.t ?_) (fun hge => If.f ?_))
  · have hi : i < nDigits u := by omega
    have hget : (⟨(decDigits u).toArray⟩ : ByteArray).data.toList[(i : Int).toNat]'(by simp [decDigits_length]; omega) = dg u (nDigits u - 1 - i) := by
      simp only [Int.toNat_natCast, List.getElem_toArray, Array.getElem_toList]
      have : ∀ l (h : l = decDigits u) (hi' : i < l.length), l[i] = dg u (nDigits u - 1 - i) := by
        intro l h hi'
        subst h
        simp [decDigits_eq]
      exact this _ rfl _
    have hd := dg_toNat u (nDigits u - 1 - i)
    generalize hD : u / 10 ^ (nDigits u - 1 - i) = D at hd
    have hP : u / 10 ^ (nDigits u - i) = D / 10 := by
      rw [show nDigits u - i = (nDigits u - 1 - i) + 1 by omega, Nat.pow_succ, ← Nat.div_div_eq_div_mul, hD]
    have hDu : D ≤ u := by rw [← hD]; exact Nat.div_le_self _ _
    rw [hP]
    have hidx : (Instr.index 9 (.string ⟨(decDigits u).toArray⟩) (.int .i64 i)).run P w2 = .ok (.int .u8 ((48 + D % 10 : Nat) : Int)) w2 := by
      rw [run_idxS (by omega) (by omega), hget, hd]
    refine Do.ok hidx (Do.dec run_lss (fun h => by omega) (fun _ => ?_))
    refine GuardK.ff (GuardK.ff (GuardK.ff (Do.ok hidx (GuardK.ff (Do.dec run_gtr (fun h => by omega) (fun _ => Do.ok run_pickF (If.f ?_)))))))
    refine Do.ok hidx (Do.ok (run_sub8 (a := ((48 + D % 10 : Nat) : Int)) (b := 48) (by omega)) ?_)
    rw [show ((48 + D % 10 : Nat) : Int) - 48 = ((D % 10 : Nat) : Int) by omega]
    refine Do.ok (run_conv53 (by omega)) (Do.dec run_gtr (fun h => by omega) (fun _ => ?_))
    refine GuardK.ff (GuardK.ff (GuardK.ff (GuardK.ff (Do.ok (run_subi (a := 9223372036854775807) (b := ((D % 10 : Nat) : Int)) (by omega)) (GuardK.ff (Do.ok (run_quo10 (by omega) (by omega)) (GuardK.ff (Do.dec run_gtr (fun h => by omega) (fun _ => Do.ok run_pickF (If.f ?_))))))))))
    refine Do.ok (run_muli (a := 10) (b := ((D / 10 : Nat) : Int)) (by omega)) (Do.ok (run_addi (a := 10 * ((D / 10 : Nat) : Int)) (b := ((D % 10 : Nat) : Int)) (by omega)) (Do.ok (run_addi (a := (i : Int)) (b := 1) (by omega)) ?_))
    refine ⟨k - 1, by omega, i + 1, by omega, rfl, ?_, rfl⟩
    rw [show nDigits u - (i + 1) = nDigits u - 1 - i by omega, hD]
    congr 1
    omega
  · have hi : i = nDigits u := by omega
    subst hi
    refine ⟨?_, rfl⟩
    simp
theorem dec_plain {n : Int} (h : plainB (dec n).data.toList = true) : 0 ≤ n ∧ dec n = ⟨(decDigits n.toNat).toArray⟩ := by
  unfold dec at *
  by_cases hn : n < 0
  · rw [if_pos hn] at h; exact absurd h (by decide)
  · exact ⟨by omega, by rw [if_neg hn, itoa, if_neg hn]⟩

/-- The pairs have the key just once, at the number m. -/
def keyAt (ps : List Pr) (key : ByteArray) (m : Nat) : Prop := ∀ j (h : j < ps.length), ps[j].1.data.toList = key.data.toList ↔ j = m
theorem value_ret (v : Value) (ps : List Pr) (key : ByteArray) (m : Nat) (n : Nat) (w : World) (hv : PairsAt w v ps) (hkey : keyAt ps key m) (hm : m < ps.length → ps[m]?.map (·.2) = some (⟨(decDigits n).toArray⟩ : ByteArray)) (hn : n ≤ 9223372036854775807) :
    Ret P 10 #[v, .string key] w (fun r w' => (m < ps.length → r = .tuple #[.int .i64 n, .bool true]) ∧ (ps.length ≤ m → r = .tuple #[.int .i64 0, .bool false]) ∧ Below w.heap.size w w') := by
  obtain ⟨x, c, rfl, hc, hml, hp⟩ := hv
  refine f10.calls ?_
  unfold f10.f
  refine ⟨fun k x6 x7 x8 x9 w' => ∃ i : Nat, k + i = ps.length ∧ x9 = .int .i64 i ∧ x6 = .int .i64 (if m < i then 1 else 0) ∧ x7 = .int .i64 (if m < i then n else 0) ∧ x8 = .bool (decide (m < i)) ∧ Has w w' [],
    ⟨ps.length, 0, by simp, rfl, by simp, by simp, by simp, Has.init w⟩, ?_⟩
  rintro k σ w2 ⟨i, hk, hx9, hx6, hx7, hx8, H⟩
  rw [hx9, hx6, hx7, hx8]
  unfold f10.l0
  refine Do.ok run_lenS (Do.dec run_lss (fun hlt => If.t ?_) (fun hge => If.f ?_))
  · have hi : i < ps.length := by omega
    obtain ⟨b, cs, fz, rfl, hb, hcs⟩ := hp (by omega)
    obtain ⟨h0, h1⟩ := hcs i hi
    refine Do.ok (run_idx (by omega) (by omega)) ?_
    have ei : 0 + (i : Int).toNat * 2 = 2 * i := by omega
    rw [ei]
    refine Do.ok run_fld (Do.ok (run_loadBase H hb (v := .string ps[i].1) h0) ?_)
    refine Do.dec run_eqs (fun h => If.t ?_) (fun h => If.f ?_)
    · have him : i = m := (hkey i hi).1 h
      subst him
      have hmv := hm hi
      rw [List.getElem?_eq_getElem hi, Option.map_some, Option.some.injEq] at hmv
      rw [if_neg (by omega)]
      refine Do.ok (run_addi (a := 0) (b := 1) (by omega)) (Do.ok (run_idx (by omega) (by omega)) ?_)
      rw [ei]
      refine Do.ok run_fld (Do.ok (run_loadBase H hb (v := .string ps[i].2) h1) ?_)
      rw [hmv]
      refine CallF.ret (f22.enters _ _) (parse_ret n hn w2) ?_
      rintro _ w3 ⟨rfl, rfl⟩
      refine Do.ok (run_ext rfl) (Do.ok (run_ext rfl) (Do.ok (run_addi (a := (i : Int)) (b := 1) (by omega)) ?_))
      exact ⟨k - 1, by omega, i + 1, by omega, rfl, by rw [if_pos (by omega)]; rfl, by rw [if_pos (by omega)]; rfl, by rw [decide_eq_true (by omega)]; rfl, H⟩
    · have him : i ≠ m := fun e => h ((hkey i hi).2 e)
      refine Do.ok (run_addi (a := (i : Int)) (b := 1) (by omega)) ?_
      have e : (m < i + 1) ↔ (m < i) := by omega
      exact ⟨k - 1, by omega, i + 1, by omega, rfl, by simp only [e], by simp only [e], by simp only [e], H⟩
  · have hi : i = ps.length := by omega
    subst hi
    by_cases hmi : m < ps.length
    · rw [if_pos hmi, if_pos hmi, decide_eq_true hmi]
      refine Do.dec run_eqi (fun _ => ?_) (fun h => absurd rfl h)
      exact GuardK.tt (Do.ok run_pickT ⟨fun _ => rfl, fun h => absurd h (by omega), H.toBelow⟩)
    · rw [if_neg hmi, if_neg hmi, decide_eq_false hmi]
      refine Do.dec run_eqi (fun h => by omega) (fun h => ?_)
      exact GuardK.ft (Do.ok run_pickF ⟨fun h => absurd h hmi, fun _ => rfl, H.toBelow⟩)
theorem is_ret (v : Value) (ps : List Pr) (key : ByteArray) (m : Nat) (n : Nat) (w : World) (hv : PairsAt w v ps) (hkey : keyAt ps key m) (hl : m < ps.length) (hm : ps[m]?.map (·.2) = some (⟨(decDigits n).toArray⟩ : ByteArray)) (hn : n ≤ 9223372036854775807) :
    Ret P 9 #[v, .string key, .int .i64 n] w (fun r w' => r = .bool true ∧ Below w.heap.size w w') := by
  refine f9.calls ?_
  unfold f9.f
  refine CallF.ret (f10.enters _ _) (value_ret v ps key m n w hv hkey (fun _ => hm) hn) ?_
  rintro r w1 ⟨h1, _, hb⟩
  rw [h1 hl]
  refine Do.ok (run_ext rfl) (Do.ok (run_ext rfl) (GuardK.tt (GuardK.tt (GuardK.tt (Do.dec run_eqi (fun _ => Do.ok run_pickT ⟨rfl, hb⟩) (fun h => absurd rfl h))))))
end Go.Proofs.YtggdogncmkffpaaDoor
