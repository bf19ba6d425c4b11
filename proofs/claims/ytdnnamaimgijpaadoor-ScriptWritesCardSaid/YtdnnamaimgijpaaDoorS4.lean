/- Contracts: digits.words, digits.Parse. Conditions: none. -/
import Derived.Test.YtdnnamaimgijpaaDoorS3
set_option linter.unusedVariables false
set_option maxRecDepth 10000
namespace Go.Proofs.YtdnnamaimgijpaaDoor
open Go Go.Sx Go.Proofs Go.Lib Go.RowKit

def StrsAt (w : World) (v : Value) (ss : List ByteArray) : Prop :=
  ∃ x c, v = .slice x ss.length c ∧ ss.length ≤ c ∧ ss.length ≤ 4611686018427387904 ∧ (0 < ss.length → ∃ b o cs fz, x = some ⟨b, o, none⟩ ∧ w.heap[b]? = some (.cells cs 9 fz) ∧ ∀ j (h : j < ss.length), cs[o + j]? = some (.string ss[j]))
theorem StrsAt.below {w w' : World} {v : Value} {bs : List ByteArray} (h : StrsAt w v bs) (hb : Below w.heap.size w w') : StrsAt w' v bs := by
  obtain ⟨x, c, he, hc, hm, hp⟩ := h
  refine ⟨x, c, he, hc, hm, fun h0 => ?_⟩
  obtain ⟨b, o, cs, fz, hx, hw, hcs⟩ := hp h0
  exact ⟨b, o, cs, fz, hx, (hb.block b (Array.getElem?_eq_some_iff.1 hw).1).trans hw, hcs⟩
def wordsB (ss : List ByteArray) : Bool := ss.all (fun s => wordB s.data.toList) && decide (0 < ss.length)
theorem words_ret (v : Value) (ss : List ByteArray) (w : World) (hv : StrsAt w v ss) : Ret P 92 #[v] w (fun r w' => r = .bool (wordsB ss) ∧ Below w.heap.size w w') := by
  obtain ⟨x, c, rfl, hc, hm, hp⟩ := hv
  refine f92.calls ?_
  unfold f92.f
  refine Do.ok run_lenS ?_
  refine ⟨fun k x w' => ∃ i : Nat, k + i = ss.length ∧ x = .int .i64 i ∧ (∀ j (h : j < ss.length), j < i → wordB ss[j].data.toList = true) ∧ Has w w' [], ⟨ss.length, 0, by omega, rfl, fun j h hj => absurd hj (by omega), Has.init w⟩, ?_⟩
  rintro k σ w2 ⟨i, hk, hx, hall, H⟩
  rw [hx]
  unfold f92.l0
  refine Do.dec run_lss (fun hlt => If.t ?_) (fun hge => If.f ?_)
  · have hi : i < ss.length := by omega
    obtain ⟨b, o, cs, fz, rfl, hb, hcs⟩ := hp (by omega)
    refine Do.ok (run_idx (by omega) (by omega)) (Do.ok (run_loadBase H hb (v := .string ss[i]) (by rw [show o + (i : Int).toNat * 1 = o + i by omega]; exact hcs i hi)) ?_)
    refine CallF.ret (f100.enters _ _) (Word_ret ss[i] w2) ?_
    rintro _ w3 ⟨rfl, hb3⟩
    have H3 := H.below hb3
    cases hw : wordB ss[i].data.toList with
    | false =>
      refine Do.ok run_notF (If.t ⟨?_, H3.toBelow⟩)
      have : ss.all (fun s => wordB s.data.toList) = false := by
        rw [List.all_eq_false]
        exact ⟨ss[i], List.getElem_mem _, by simp [hw]⟩
      rw [wordsB, this]; rfl
    | true =>
      refine Do.ok run_notT (If.f (Do.ok (run_addi (a := (i : Int)) (b := 1) (by omega)) ⟨k - 1, by omega, i + 1, by omega, rfl, fun j h hj => ?_, H3⟩))
      by_cases hji : j = i
      · subst hji; exact hw
      · exact hall j h (by omega)
  · refine Do.ok run_lenS (Do.ok run_gtr ⟨?_, H.toBelow⟩)
    have : ss.all (fun s => wordB s.data.toList) = true := by
      rw [List.all_eq_true]
      intro s hs
      obtain ⟨j, hj, rfl⟩ := List.getElem_of_mem hs
      exact hall j hj (by omega)
    rw [wordsB, this, Bool.true_and]
    congr 1
    simp

/-- What digits.Parse reads behind the number n. -/
def parseN (most : Int) : List UInt8 → Int → Option Int
  | [], n => some n
  | c :: r, n => if c.toNat < 48 ∨ 57 < c.toNat then none else if most / 10 < n ∨ most - (c.toNat - 48 : Int) < n * 10 then none else parseN most r (n * 10 + (c.toNat - 48))
def parseV (most : Int) (l : List UInt8) : Option Int := if l = [] then none else parseN most l 0
def parseR : Option Int → Value
  | some n => .tuple #[.int .i64 n, .bool true]
  | none => .tuple #[.int .i64 0, .bool false]
theorem run_quo10 {a : Int} {w : World} (h0 : 0 ≤ a) (h1 : a ≤ 9223372036854775807) : (binOp .quo 3 (.int .i64 a) (.int .i64 10)).run P w = .ok (.int .i64 (a / 10)) w := by
  have e : a.tdiv 10 = a / 10 := Int.tdiv_eq_ediv_of_nonneg h0
  simp [binOp, Op.intDiv, e]
  exact wrap_id (by omega)
theorem run_subR {a b : Int} {w : World} (h : -2147483648 ≤ a - b ∧ a - b ≤ 2147483647) : (binOp .sub 21 (.int .i32 a) (.int .i32 b)).run P w = .ok (.int .i32 (a - b)) w := by
  rw [run_sub]
  congr 2
  rw [IntKind.wrap_i32]
  omega
theorem run_convR {a : Int} {w : World} (h : -2147483648 ≤ a ∧ a ≤ 2147483647) : (convert 21 3 (.int .i32 a)).run P w = .ok (.int .i64 a) w := by
  have := run_convert_int (P := P) w 21 3 .i32 a (by kernel_rfl) (by kernel_rfl)
  rw [this]
  show Result.ok (Value.int .i64 (IntKind.i64.wrap a)) w = _
  rw [wrap_id (by omega)]
theorem parse_ret (s : ByteArray) (most : Int) (h0 : 0 ≤ most) (hm : most ≤ 9223372036854775807) (w : World) :
    Ret P 81 #[.string s, .int .i64 most] w (fun r w' => r = parseR (parseV most s.data.toList) ∧ Below w.heap.size w w') := by
  refine f81.calls ?_
  unfold f81.f
  have hl : s.data.toList.length = s.size := by simp
  refine Do.dec run_eqs (fun h => ?_) (fun hne => ?_)
  · (repeat' (with_reducible first | refine Do.dec run_lss (fun _ => ?_) (fun _ => ?_) | refine Do.dec run_gtr (fun _ => ?_) (fun _ => ?_) | refine Do.dec run_leq (fun _ => ?_) (fun _ => ?_) | refine Do.dec run_geq (fun _ => ?_) (fun _ => ?_) | refine Do.dec run_eqi (fun _ => ?_) (fun _ => ?_) | refine Do.dec run_nei (fun _ => ?_) (fun _ => ?_) | refine Do.dec run_eqs (fun _ => ?_) (fun _ => ?_) | refine Do.dec run_nes (fun _ => ?_) (fun _ => ?_) | refine Do.ok run_pickT ?_ | refine Do.ok run_pickF ?_ | refine Do.ok run_notT ?_ | refine Do.ok run_notF ?_ | refine GuardK.tt ?_ | refine GuardK.ff ?_ | refine GuardK.tf ?_ | refine GuardK.ft ?_ | refine GuardK.un ?_ | refine If.t ?_ | refine If.f ?_ | refine Do.ok run_lenS ?_ | refine Do.ok run_lenStr ?_ | refine Do.ok run_nilp ?_ | refine Do.ok run_fld ?_ | refine Do.ok (run_ext rfl) ?_ | refine GuardT.tt ?_ | refine GuardT.ff ?_ | refine GuardT.tf ?_ | refine GuardT.ft ?_ | refine GuardT.un ?_ | refine Take.ok (fun _ _ => run_fld) ?_ | refine Take.ok (fun _ _ => run_pickT) ?_ | refine Take.ok (fun _ _ => run_pickF) ?_ | refine Take.ok (fun _ _ => run_notT) ?_ | refine Take.ok (fun _ _ => run_notF) ?_ | refine Take.dec (fun _ => run_lss) (fun _ => ?_) (fun _ => ?_) | refine Take.dec (fun _ => run_gtr) (fun _ => ?_) (fun _ => ?_) | refine Take.dec (fun _ => run_leq) (fun _ => ?_) (fun _ => ?_) | refine Take.dec (fun _ => run_eqi) (fun _ => ?_) (fun _ => ?_) | refine Take.dec (fun _ => run_nei) (fun _ => ?_) (fun _ => ?_) | refine Take.dec (fun _ => run_eqs) (fun _ => ?_) (fun _ => ?_)))
    have h : s.data.toList = [] := h
    exact ⟨by rw [parseV, if_pos h]; rfl, Below.refl _ _⟩
  have hne : s.data.toList ≠ [] := hne
  refine GuardK.ff (GuardK.ff (Do.dec run_lss (fun h => by omega) (fun _ => Do.ok run_pickF (If.f ?_))))
  rw [parseV, if_neg hne]
  refine Do.rangeS (Has.init w) ?_
  intro b w1 H
  refine ⟨fun k x w' => ∃ (i : Nat) (n : Int), k + i = s.size ∧ x = .int .i64 n ∧ 0 ≤ n ∧ n ≤ most ∧ parseN most s.data.toList 0 = parseN most (s.data.toList.drop i) n ∧ Has w w' [(b, .stringIter s i)], ⟨s.size, 0, 0, by omega, rfl, by omega, h0, rfl, H⟩, ?_⟩
  rintro k σ w2 ⟨i, n, hk, hx, hn0, hn1, hp, H2⟩
  rw [hx, hp]
  unfold f81.l0
  refine Do.nextS H2 0 rfl (fun h w3 H3 => ?_) (fun h => ?_)
  · refine Do.ok (run_ext rfl) (If.t (Do.ok (run_ext rfl) ?_))
    have hi : i < s.data.toList.length := by omega
    have hb := byte_at s i h
    rw [List.drop_eq_getElem_cons hi, parseN]
    rcases Nat.lt_or_ge (s[i]'h).toNat 128 with ha | ha
    · rw [decode_ascii s i h ha] at H3 ⊢
      dsimp only at H3 ⊢
      have H3 : Has w w3 [(b, .stringIter s (i + 1))] := H3
      rw [hb]
      have hr := u8_range s.data.toList[i]
      generalize hc : s.data.toList[i] = c at hr
      refine Do.dec run_lss (fun h1 => ?_) (fun h1 => ?_)
      · rw [if_pos (by omega)]
        (repeat' (with_reducible first | refine Do.dec run_lss (fun _ => ?_) (fun _ => ?_) | refine Do.dec run_gtr (fun _ => ?_) (fun _ => ?_) | refine Do.dec run_leq (fun _ => ?_) (fun _ => ?_) | refine Do.dec run_geq (fun _ => ?_) (fun _ => ?_) | refine Do.dec run_eqi (fun _ => ?_) (fun _ => ?_) | refine Do.dec run_nei (fun _ => ?_) (fun _ => ?_) | refine Do.dec run_eqs (fun _ => ?_) (fun _ => ?_) | refine Do.dec run_nes (fun _ => ?_) (fun _ => ?_) | refine Do.ok run_pickT ?_ | refine Do.ok run_pickF ?_ | refine Do.ok run_notT ?_ | refine Do.ok run_notF ?_ | refine GuardK.tt ?_ | refine GuardK.ff ?_ | refine GuardK.tf ?_ | refine GuardK.ft ?_ | refine GuardK.un ?_ | refine If.t ?_ | refine If.f ?_ | refine Do.ok run_lenS ?_ | refine Do.ok run_lenStr ?_ | refine Do.ok run_nilp ?_ | refine Do.ok run_fld ?_ | refine Do.ok (run_ext rfl) ?_ | refine GuardT.tt ?_ | refine GuardT.ff ?_ | refine GuardT.tf ?_ | refine GuardT.ft ?_ | refine GuardT.un ?_ | refine Take.ok (fun _ _ => run_fld) ?_ | refine Take.ok (fun _ _ => run_pickT) ?_ | refine Take.ok (fun _ _ => run_pickF) ?_ | refine Take.ok (fun _ _ => run_notT) ?_ | refine Take.ok (fun _ _ => run_notF) ?_ | refine Take.dec (fun _ => run_lss) (fun _ => ?_) (fun _ => ?_) | refine Take.dec (fun _ => run_gtr) (fun _ => ?_) (fun _ => ?_) | refine Take.dec (fun _ => run_leq) (fun _ => ?_) (fun _ => ?_) | refine Take.dec (fun _ => run_eqi) (fun _ => ?_) (fun _ => ?_) | refine Take.dec (fun _ => run_nei) (fun _ => ?_) (fun _ => ?_) | refine Take.dec (fun _ => run_eqs) (fun _ => ?_) (fun _ => ?_)))
        exact ⟨rfl, H3.toBelow⟩
      refine GuardK.ff (GuardK.ff (Do.dec run_gtr (fun h2 => ?_) (fun h2 => ?_)))
      · rw [if_pos (by omega)]
        (repeat' (with_reducible first | refine Do.dec run_lss (fun _ => ?_) (fun _ => ?_) | refine Do.dec run_gtr (fun _ => ?_) (fun _ => ?_) | refine Do.dec run_leq (fun _ => ?_) (fun _ => ?_) | refine Do.dec run_geq (fun _ => ?_) (fun _ => ?_) | refine Do.dec run_eqi (fun _ => ?_) (fun _ => ?_) | refine Do.dec run_nei (fun _ => ?_) (fun _ => ?_) | refine Do.dec run_eqs (fun _ => ?_) (fun _ => ?_) | refine Do.dec run_nes (fun _ => ?_) (fun _ => ?_) | refine Do.ok run_pickT ?_ | refine Do.ok run_pickF ?_ | refine Do.ok run_notT ?_ | refine Do.ok run_notF ?_ | refine GuardK.tt ?_ | refine GuardK.ff ?_ | refine GuardK.tf ?_ | refine GuardK.ft ?_ | refine GuardK.un ?_ | refine If.t ?_ | refine If.f ?_ | refine Do.ok run_lenS ?_ | refine Do.ok run_lenStr ?_ | refine Do.ok run_nilp ?_ | refine Do.ok run_fld ?_ | refine Do.ok (run_ext rfl) ?_ | refine GuardT.tt ?_ | refine GuardT.ff ?_ | refine GuardT.tf ?_ | refine GuardT.ft ?_ | refine GuardT.un ?_ | refine Take.ok (fun _ _ => run_fld) ?_ | refine Take.ok (fun _ _ => run_pickT) ?_ | refine Take.ok (fun _ _ => run_pickF) ?_ | refine Take.ok (fun _ _ => run_notT) ?_ | refine Take.ok (fun _ _ => run_notF) ?_ | refine Take.dec (fun _ => run_lss) (fun _ => ?_) (fun _ => ?_) | refine Take.dec (fun _ => run_gtr) (fun _ => ?_) (fun _ => ?_) | refine Take.dec (fun _ => run_leq) (fun _ => ?_) (fun _ => ?_) | refine Take.dec (fun _ => run_eqi) (fun _ => ?_) (fun _ => ?_) | refine Take.dec (fun _ => run_nei) (fun _ => ?_) (fun _ => ?_) | refine Take.dec (fun _ => run_eqs) (fun _ => ?_) (fun _ => ?_)))
        exact ⟨rfl, H3.toBelow⟩
      rw [if_neg (by omega)]
      refine Do.ok run_pickF (If.f (Do.ok (run_subR (a := (c.toNat : Int)) (b := 48) (by omega)) (Do.ok (run_convR (by omega)) (Do.ok (run_quo10 h0 hm) ?_))))
      refine Do.dec run_gtr (fun h3 => ?_) (fun h3 => ?_)
      · rw [if_pos (.inl h3)]
        (repeat' (with_reducible first | refine Do.dec run_lss (fun _ => ?_) (fun _ => ?_) | refine Do.dec run_gtr (fun _ => ?_) (fun _ => ?_) | refine Do.dec run_leq (fun _ => ?_) (fun _ => ?_) | refine Do.dec run_geq (fun _ => ?_) (fun _ => ?_) | refine Do.dec run_eqi (fun _ => ?_) (fun _ => ?_) | refine Do.dec run_nei (fun _ => ?_) (fun _ => ?_) | refine Do.dec run_eqs (fun _ => ?_) (fun _ => ?_) | refine Do.dec run_nes (fun _ => ?_) (fun _ => ?_) | refine Do.ok run_pickT ?_ | refine Do.ok run_pickF ?_ | refine Do.ok run_notT ?_ | refine Do.ok run_notF ?_ | refine GuardK.tt ?_ | refine GuardK.ff ?_ | refine GuardK.tf ?_ | refine GuardK.ft ?_ | refine GuardK.un ?_ | refine If.t ?_ | refine If.f ?_ | refine Do.ok run_lenS ?_ | refine Do.ok run_lenStr ?_ | refine Do.ok run_nilp ?_ | refine Do.ok run_fld ?_ | refine Do.ok (run_ext rfl) ?_ | refine GuardT.tt ?_ | refine GuardT.ff ?_ | refine GuardT.tf ?_ | refine GuardT.ft ?_ | refine GuardT.un ?_ | refine Take.ok (fun _ _ => run_fld) ?_ | refine Take.ok (fun _ _ => run_pickT) ?_ | refine Take.ok (fun _ _ => run_pickF) ?_ | refine Take.ok (fun _ _ => run_notT) ?_ | refine Take.ok (fun _ _ => run_notF) ?_ | refine Take.dec (fun _ => run_lss) (fun _ => ?_) (fun _ => ?_) | refine Take.dec (fun _ => run_gtr) (fun _ => ?_) (fun _ => ?_) | refine Take.dec (fun _ => run_leq) (fun _ => ?_) (fun _ => ?_) | refine Take.dec (fun _ => run_eqi) (fun _ => ?_) (fun _ => ?_) | refine Take.dec (fun _ => run_nei) (fun _ => ?_) (fun _ => ?_) | refine Take.dec (fun _ => run_eqs) (fun _ => ?_) (fun _ => ?_)))
        exact ⟨rfl, H3.toBelow⟩
      refine GuardK.ff (GuardK.ff (Do.ok (run_muli (a := n) (b := 10) (by omega)) (GuardK.ff (GuardK.ff (GuardK.ff (Do.ok (run_subi (a := most) (b := (c.toNat : Int) - 48) (by omega)) (GuardK.ff (Do.dec run_gtr (fun h4 => ?_) (fun h4 => ?_)))))))))
      · rw [if_pos (.inr h4)]
        (repeat' (with_reducible first | refine Do.dec run_lss (fun _ => ?_) (fun _ => ?_) | refine Do.dec run_gtr (fun _ => ?_) (fun _ => ?_) | refine Do.dec run_leq (fun _ => ?_) (fun _ => ?_) | refine Do.dec run_geq (fun _ => ?_) (fun _ => ?_) | refine Do.dec run_eqi (fun _ => ?_) (fun _ => ?_) | refine Do.dec run_nei (fun _ => ?_) (fun _ => ?_) | refine Do.dec run_eqs (fun _ => ?_) (fun _ => ?_) | refine Do.dec run_nes (fun _ => ?_) (fun _ => ?_) | refine Do.ok run_pickT ?_ | refine Do.ok run_pickF ?_ | refine Do.ok run_notT ?_ | refine Do.ok run_notF ?_ | refine GuardK.tt ?_ | refine GuardK.ff ?_ | refine GuardK.tf ?_ | refine GuardK.ft ?_ | refine GuardK.un ?_ | refine If.t ?_ | refine If.f ?_ | refine Do.ok run_lenS ?_ | refine Do.ok run_lenStr ?_ | refine Do.ok run_nilp ?_ | refine Do.ok run_fld ?_ | refine Do.ok (run_ext rfl) ?_ | refine GuardT.tt ?_ | refine GuardT.ff ?_ | refine GuardT.tf ?_ | refine GuardT.ft ?_ | refine GuardT.un ?_ | refine Take.ok (fun _ _ => run_fld) ?_ | refine Take.ok (fun _ _ => run_pickT) ?_ | refine Take.ok (fun _ _ => run_pickF) ?_ | refine Take.ok (fun _ _ => run_notT) ?_ | refine Take.ok (fun _ _ => run_notF) ?_ | refine Take.dec (fun _ => run_lss) (fun _ => ?_) (fun _ => ?_) | refine Take.dec (fun _ => run_gtr) (fun _ => ?_) (fun _ => ?_) | refine Take.dec (fun _ => run_leq) (fun _ => ?_) (fun _ => ?_) | refine Take.dec (fun _ => run_eqi) (fun _ => ?_) (fun _ => ?_) | refine Take.dec (fun _ => run_nei) (fun _ => ?_) (fun _ => ?_) | refine Take.dec (fun _ => run_eqs) (fun _ => ?_) (fun _ => ?_)))
        exact ⟨rfl, H3.toBelow⟩
      rw [if_neg (by omega)]
      refine Do.ok run_pickF (If.f (Do.ok (run_muli (a := n) (b := 10) (by omega)) (Do.ok (run_addi (a := n * 10) (b := (c.toNat : Int) - 48) (by omega)) ?_)))
      exact ⟨k - 1, by omega, i + 1, _, by omega, rfl, by omega, by omega, rfl, H3⟩
    · have hd := decode_high s i h ha
      generalize (Utf8.decode s i).1 = r at hd ⊢
      rw [← hb, if_pos (by omega)]
      refine Do.dec run_lss (fun h1 => by omega) (fun h1 => ?_)
      refine GuardK.ff (GuardK.ff (Do.dec run_gtr (fun h2 => ?_) (fun h2 => by omega)))
      exact Do.ok run_pickF (If.t ⟨rfl, H3.toBelow⟩)
  · refine Do.ok (run_ext rfl) (If.f ⟨?_, H2.toBelow⟩)
    rw [List.drop_eq_nil_of_le (by omega)]
    rfl
end Go.Proofs.YtdnnamaimgijpaaDoor
