/- Contracts of the small functions of the reference. Conditions: none. -/
import Derived.Test.YtggdogncmkffpaaDoorA11
import Derived.Test.YtggdogncmkffpaaDoorSxR
set_option linter.unusedVariables false
set_option maxRecDepth 10000
namespace Go.Proofs.YtggdogncmkffpaaDoor
open Go Go.Sx Go.Proofs Go.Lib Go.RowKit

theorem refkey_ret (s : ByteArray) (w : World) (hs : s.size ≤ 9223372036854775807) : Ret P 28 #[.string s] w (fun v w' => v = .bool (rightB s.data.toList) ∧ Below w.heap.size w w') := by
  refine f28.calls ?_
  unfold f28.f
  have hl : s.data.toList.length = s.size := by simp
  refine ⟨fun k x w' => ∃ i : Nat, k + i = s.size ∧ x = .int .i64 i ∧ (∀ j (h : j < s.data.toList.length), j < i → keyByte s.data.toList[j] = true) ∧ Has w w' [],
    ⟨s.size, 0, by simp, rfl, fun j h hj => absurd hj (by omega), Has.init w⟩, ?_⟩
  rintro k σ w2 ⟨i, hk, hx, hall, H2⟩
  rw [hx]
  unfold f28.l0
  refine Do.ok run_lenStr (Do.dec run_lss (fun hlt => If.t ?_) (fun hge => If.f ?_))
  · have hi : i < s.data.toList.length := by omega
    refine Do.ok (run_idxS (by omega) (by omega)) ?_
    simp only [Int.toNat_natCast]
    have hr := u8_range s.data.toList[i]
    (repeat' (with_reducible first | refine Do.dec run_lss (fun _ => ?_) (fun _ => ?_) | refine Do.dec run_gtr (fun _ => ?_) (fun _ => ?_) | refine Do.dec run_leq (fun _ => ?_) (fun _ => ?_) | refine Do.dec run_geq (fun _ => ?_) (fun _ => ?_) | refine Do.dec run_eqi (fun _ => ?_) (fun _ => ?_) | refine Do.dec run_nei (fun _ => ?_) (fun _ => ?_) | refine Do.dec run_eqs (fun _ => ?_) (fun _ => ?_) | refine Do.dec run_nes (fun _ => ?_) (fun _ => ?_) | refine Do.ok run_pickT ?_ | refine Do.ok run_pickF ?_ | refine Do.ok run_notT ?_ | refine Do.ok run_notF ?_ | refine GuardK.tt ?_ | refine GuardK.ff ?_ | refine GuardK.tf ?_ | refine GuardK.ft ?_ | refine GuardK.un ?_ | refine If.t ?_ | refine If.f ?_ | refine Do.ok run_lenS ?_ | refine Do.ok run_lenStr ?_ | refine Do.ok run_nilp ?_ | refine Do.ok run_fld ?_ | refine Do.ok (run_ext rfl) ?_ | refine GuardT.tt ?_ | refine GuardT.ff ?_ | refine GuardT.tf ?_ | refine GuardT.ft ?_ | refine GuardT.un ?_ | refine Take.ok (fun _ _ => run_fld) ?_ | refine Take.ok (fun _ _ => run_pickT) ?_ | refine Take.ok (fun _ _ => run_pickF) ?_ | refine Take.ok (fun _ _ => run_notT) ?_ | refine Take.ok (fun _ _ => run_notF) ?_ | refine Take.dec (fun _ => run_lss) (fun _ => ?_) (fun _ => ?_) | refine Take.dec (fun _ => run_gtr) (fun _ => ?_) (fun _ => ?_) | refine Take.dec (fun _ => run_leq) (fun _ => ?_) (fun _ => ?_) | refine Take.dec (fun _ => run_eqi) (fun _ => ?_) (fun _ => ?_) | refine Take.dec (fun _ => run_nei) (fun _ => ?_) (fun _ => ?_) | refine Take.dec (fun _ => run_eqs) (fun _ => ?_) (fun _ => ?_)))
    all_goals first
      | (refine ⟨?_, H2.toBelow⟩
         have : keyByte s.data.toList[i] = false := by simp only [keyByte, decide_eq_false_iff_not]; omega
         rw [rightB, all_false_of i hi this]; rfl)
      | (refine Do.ok (run_addi (a := (i : Int)) (b := 1) (by omega)) (show ∃ k', k' < k ∧ _ from ⟨k - 1, by omega, i + 1, by omega, rfl, fun j h hj => ?_, H2⟩)
         by_cases hji : j = i
         · subst hji; simp only [keyByte, decide_eq_true_eq]; omega
         · exact hall j h (by omega))
  · have hall' : s.data.toList.all keyByte = true := all_true_of fun j hj => hall j hj (by omega)
    (repeat' (with_reducible first | refine Do.dec run_lss (fun _ => ?_) (fun _ => ?_) | refine Do.dec run_gtr (fun _ => ?_) (fun _ => ?_) | refine Do.dec run_leq (fun _ => ?_) (fun _ => ?_) | refine Do.dec run_geq (fun _ => ?_) (fun _ => ?_) | refine Do.dec run_eqi (fun _ => ?_) (fun _ => ?_) | refine Do.dec run_nei (fun _ => ?_) (fun _ => ?_) | refine Do.dec run_eqs (fun _ => ?_) (fun _ => ?_) | refine Do.dec run_nes (fun _ => ?_) (fun _ => ?_) | refine Do.ok run_pickT ?_ | refine Do.ok run_pickF ?_ | refine Do.ok run_notT ?_ | refine Do.ok run_notF ?_ | refine GuardK.tt ?_ | refine GuardK.ff ?_ | refine GuardK.tf ?_ | refine GuardK.ft ?_ | refine GuardK.un ?_ | refine If.t ?_ | refine If.f ?_ | refine Do.ok run_lenS ?_ | refine Do.ok run_lenStr ?_ | refine Do.ok run_nilp ?_ | refine Do.ok run_fld ?_ | refine Do.ok (run_ext rfl) ?_ | refine GuardT.tt ?_ | refine GuardT.ff ?_ | refine GuardT.tf ?_ | refine GuardT.ft ?_ | refine GuardT.un ?_ | refine Take.ok (fun _ _ => run_fld) ?_ | refine Take.ok (fun _ _ => run_pickT) ?_ | refine Take.ok (fun _ _ => run_pickF) ?_ | refine Take.ok (fun _ _ => run_notT) ?_ | refine Take.ok (fun _ _ => run_notF) ?_ | refine Take.dec (fun _ => run_lss) (fun _ => ?_) (fun _ => ?_) | refine Take.dec (fun _ => run_gtr) (fun _ => ?_) (fun _ => ?_) | refine Take.dec (fun _ => run_leq) (fun _ => ?_) (fun _ => ?_) | refine Take.dec (fun _ => run_eqi) (fun _ => ?_) (fun _ => ?_) | refine Take.dec (fun _ => run_nei) (fun _ => ?_) (fun _ => ?_) | refine Take.dec (fun _ => run_eqs) (fun _ => ?_) (fun _ => ?_)))
    · rename_i h1 h2
      refine ⟨?_, H2.toBelow⟩
      have h3 : s.data.toList.length ≤ 64 := by omega
      have h4 : s.data.toList ≠ [] := by intro e; rw [e] at hl; simp at hl; omega
      simp [rightB, hall', h4, h3, -Array.length_toList, -ByteArray.size_data]
    · rename_i h1 h2
      refine ⟨?_, H2.toBelow⟩
      have h3 : ¬ s.data.toList.length ≤ 64 := by omega
      simp [rightB, h3, -Array.length_toList, -ByteArray.size_data]
    · rename_i h1
      refine ⟨?_, H2.toBelow⟩
      have h4 : s.data.toList = [] := List.eq_nil_of_length_eq_zero (by omega)
      simp [rightB, h4]

theorem refplain_ret (s : ByteArray) (w : World) (hs : s.size ≤ 9223372036854775807) : Ret P 29 #[.string s] w (fun v w' => v = .bool (plainB s.data.toList) ∧ Below w.heap.size w w') := by
  refine f29.calls ?_
  unfold f29.f
  have hl : s.data.toList.length = s.size := by simp
  refine ⟨fun k x w' => ∃ i : Nat, k + i = s.size ∧ x = .int .i64 i ∧ (∀ j (h : j < s.data.toList.length), j < i → plainByte s.data.toList[j] = true) ∧ Has w w' [],
    ⟨s.size, 0, by simp, rfl, fun j h hj => absurd hj (by omega), Has.init w⟩, ?_⟩
  rintro k σ w2 ⟨i, hk, hx, hall, H2⟩
  rw [hx]
  unfold f29.l0
  refine Do.ok run_lenStr (Do.dec run_lss (fun hlt => If.t ?_) (fun hge => If.f ?_))
  · have hi : i < s.data.toList.length := by omega
    refine Do.ok (run_idxS (by omega) (by omega)) ?_
    simp only [Int.toNat_natCast]
    have hr := u8_range s.data.toList[i]
    (repeat' (with_reducible first | refine Do.dec run_lss (fun _ => ?_) (fun _ => ?_) | refine Do.dec run_gtr (fun _ => ?_) (fun _ => ?_) | refine Do.dec run_leq (fun _ => ?_) (fun _ => ?_) | refine Do.dec run_geq (fun _ => ?_) (fun _ => ?_) | refine Do.dec run_eqi (fun _ => ?_) (fun _ => ?_) | refine Do.dec run_nei (fun _ => ?_) (fun _ => ?_) | refine Do.dec run_eqs (fun _ => ?_) (fun _ => ?_) | refine Do.dec run_nes (fun _ => ?_) (fun _ => ?_) | refine Do.ok run_pickT ?_ | refine Do.ok run_pickF ?_ | refine Do.ok run_notT ?_ | refine Do.ok run_notF ?_ | refine GuardK.tt ?_ | refine GuardK.ff ?_ | refine GuardK.tf ?_ | refine GuardK.ft ?_ | refine GuardK.un ?_ | refine If.t ?_ | refine If.f ?_ | refine Do.ok run_lenS ?_ | refine Do.ok run_lenStr ?_ | refine Do.ok run_nilp ?_ | refine Do.ok run_fld ?_ | refine Do.ok (run_ext rfl) ?_ | refine GuardT.tt ?_ | refine GuardT.ff ?_ | refine GuardT.tf ?_ | refine GuardT.ft ?_ | refine GuardT.un ?_ | refine Take.ok (fun _ _ => run_fld) ?_ | refine Take.ok (fun _ _ => run_pickT) ?_ | refine Take.ok (fun _ _ => run_pickF) ?_ | refine Take.ok (fun _ _ => run_notT) ?_ | refine Take.ok (fun _ _ => run_notF) ?_ | refine Take.dec (fun _ => run_lss) (fun _ => ?_) (fun _ => ?_) | refine Take.dec (fun _ => run_gtr) (fun _ => ?_) (fun _ => ?_) | refine Take.dec (fun _ => run_leq) (fun _ => ?_) (fun _ => ?_) | refine Take.dec (fun _ => run_eqi) (fun _ => ?_) (fun _ => ?_) | refine Take.dec (fun _ => run_nei) (fun _ => ?_) (fun _ => ?_) | refine Take.dec (fun _ => run_eqs) (fun _ => ?_) (fun _ => ?_)))
    all_goals try (refine Do.ok (run_idxS (by omega) (by omega)) ?_; simp only [Int.toNat_natCast]; (repeat' (with_reducible first | refine Do.dec run_lss (fun _ => ?_) (fun _ => ?_) | refine Do.dec run_gtr (fun _ => ?_) (fun _ => ?_) | refine Do.dec run_leq (fun _ => ?_) (fun _ => ?_) | refine Do.dec run_geq (fun _ => ?_) (fun _ => ?_) | refine Do.dec run_eqi (fun _ => ?_) (fun _ => ?_) | refine Do.dec run_nei (fun _ => ?_) (fun _ => ?_) | refine Do.dec run_eqs (fun _ => ?_) (fun _ => ?_) | refine Do.dec run_nes (fun _ => ?_) (fun _ => ?_) | refine Do.ok run_pickT ?_ | refine Do.ok run_pickF ?_ | refine Do.ok run_notT ?_ | refine Do.ok run_notF ?_ | refine GuardK.tt ?_ | refine GuardK.ff ?_ | refine GuardK.tf ?_ | refine GuardK.ft ?_ | refine GuardK.un ?_ | refine If.t ?_ | refine If.f ?_ | refine Do.ok run_lenS ?_ | refine Do.ok run_lenStr ?_ | refine Do.ok run_nilp ?_ | refine Do.ok run_fld ?_ | refine Do.ok (run_ext rfl) ?_ | refine GuardT.tt ?_ | refine GuardT.ff ?_ | refine GuardT.tf ?_ | refine GuardT.ft ?_ | refine GuardT.un ?_ | refine Take.ok (fun _ _ => run_fld) ?_ | refine Take.ok (fun _ _ => run_pickT) ?_ | refine Take.ok (fun _ _ => run_pickF) ?_ | refine Take.ok (fun _ _ => run_notT) ?_ | refine Take.ok (fun _ _ => run_notF) ?_ | refine Take.dec (fun _ => run_lss) (fun _ => ?_) (fun _ => ?_) | refine Take.dec (fun _ => run_gtr) (fun _ => ?_) (fun _ => ?_) | refine Take.dec (fun _ => run_leq) (fun _ => ?_) (fun _ => ?_) | refine Take.dec (fun _ => run_eqi) (fun _ => ?_) (fun _ => ?_) | refine Take.dec (fun _ => run_nei) (fun _ => ?_) (fun _ => ?_) | refine Take.dec (fun _ => run_eqs) (fun _ => ?_) (fun _ => ?_))))
    all_goals first
      | (refine ⟨?_, H2.toBelow⟩
         have : plainByte s.data.toList[i] = false := by simp only [plainByte, decide_eq_false_iff_not]; omega
         rw [plainB, all_false_of i hi this]; rfl)
      | (refine Do.ok (run_addi (a := (i : Int)) (b := 1) (by omega)) (show ∃ k', k' < k ∧ _ from ⟨k - 1, by omega, i + 1, by omega, rfl, fun j h hj => ?_, H2⟩)
         by_cases hji : j = i
         · subst hji; simp only [plainByte, decide_eq_true_eq]; omega
         · exact hall j h (by omega))
  · have hall' : s.data.toList.all plainByte = true := all_true_of fun j hj => hall j hj (by omega)
    (repeat' (with_reducible first | refine Do.dec run_lss (fun _ => ?_) (fun _ => ?_) | refine Do.dec run_gtr (fun _ => ?_) (fun _ => ?_) | refine Do.dec run_leq (fun _ => ?_) (fun _ => ?_) | refine Do.dec run_geq (fun _ => ?_) (fun _ => ?_) | refine Do.dec run_eqi (fun _ => ?_) (fun _ => ?_) | refine Do.dec run_nei (fun _ => ?_) (fun _ => ?_) | refine Do.dec run_eqs (fun _ => ?_) (fun _ => ?_) | refine Do.dec run_nes (fun _ => ?_) (fun _ => ?_) | refine Do.ok run_pickT ?_ | refine Do.ok run_pickF ?_ | refine Do.ok run_notT ?_ | refine Do.ok run_notF ?_ | refine GuardK.tt ?_ | refine GuardK.ff ?_ | refine GuardK.tf ?_ | refine GuardK.ft ?_ | refine GuardK.un ?_ | refine If.t ?_ | refine If.f ?_ | refine Do.ok run_lenS ?_ | refine Do.ok run_lenStr ?_ | refine Do.ok run_nilp ?_ | refine Do.ok run_fld ?_ | refine Do.ok (run_ext rfl) ?_ | refine GuardT.tt ?_ | refine GuardT.ff ?_ | refine GuardT.tf ?_ | refine GuardT.ft ?_ | refine GuardT.un ?_ | refine Take.ok (fun _ _ => run_fld) ?_ | refine Take.ok (fun _ _ => run_pickT) ?_ | refine Take.ok (fun _ _ => run_pickF) ?_ | refine Take.ok (fun _ _ => run_notT) ?_ | refine Take.ok (fun _ _ => run_notF) ?_ | refine Take.dec (fun _ => run_lss) (fun _ => ?_) (fun _ => ?_) | refine Take.dec (fun _ => run_gtr) (fun _ => ?_) (fun _ => ?_) | refine Take.dec (fun _ => run_leq) (fun _ => ?_) (fun _ => ?_) | refine Take.dec (fun _ => run_eqi) (fun _ => ?_) (fun _ => ?_) | refine Take.dec (fun _ => run_nei) (fun _ => ?_) (fun _ => ?_) | refine Take.dec (fun _ => run_eqs) (fun _ => ?_) (fun _ => ?_)))
    · rename_i h1 h2
      refine ⟨?_, H2.toBelow⟩
      have h3 : s.data.toList.length ≤ 4096 := by omega
      have h4 : s.data.toList ≠ [] := by intro e; rw [e] at hl; simp at hl; omega
      simp [plainB, hall', h4, h3, -Array.length_toList, -ByteArray.size_data]
    · rename_i h1 h2
      refine ⟨?_, H2.toBelow⟩
      have h3 : ¬ s.data.toList.length ≤ 4096 := by omega
      simp [plainB, h3, -Array.length_toList, -ByteArray.size_data]
    · rename_i h1
      refine ⟨?_, H2.toBelow⟩
      have h4 : s.data.toList = [] := List.eq_nil_of_length_eq_zero (by omega)
      simp [plainB, h4]

/-- Bytes that stand in a block of the world. -/
def BytesAt (w : World) (v : Value) (bs : List UInt8) : Prop :=
  ∃ x c, v = .slice x bs.length c ∧ bs.length ≤ c ∧ bs.length ≤ 4611686018427387904 ∧ (0 < bs.length → ∃ b cs fz, x = some ⟨b, 0, none⟩ ∧ w.heap[b]? = some (.cells cs 5 fz) ∧
    ∀ j (h : j < bs.length), cs[j]? = some (.int .u8 (bs[j].toNat : Int)))
theorem BytesAt.below {w w' : World} {v : Value} {bs : List UInt8} (h : BytesAt w v bs) (hb : Below w.heap.size w w') : BytesAt w' v bs := by
  obtain ⟨x, c, he, hc, hm, hp⟩ := h
  refine ⟨x, c, he, hc, hm, fun h0 => ?_⟩
  obtain ⟨b, cs, fz, hx, hw, hcs⟩ := hp h0
  exact ⟨b, cs, fz, hx, (hb.block b (Array.getElem?_eq_some_iff.1 hw).1).trans hw, hcs⟩
theorem same_ret (u v : Value) (bs : List UInt8) (w : World) (hu : BytesAt w u bs) (hv : BytesAt w v bs) : Ret P 21 #[u, v] w (fun r w' => r = .bool true ∧ Below w.heap.size w w') := by
  obtain ⟨x, c, rfl, hc, hm, hp⟩ := hu
  obtain ⟨y, d, rfl, hd, _, hq⟩ := hv
  refine f21.calls ?_
  unfold f21.f
  refine Do.ok run_lenS (Do.ok run_lenS (Do.dec run_nei (fun h => absurd rfl h) (fun h => If.f (Do.ok run_lenS ?_))))
  refine ⟨fun k x w' => ∃ i : Nat, k + i = bs.length ∧ x = .int .i64 i ∧ Has w w' [], ⟨bs.length, 0, by simp, rfl, Has.init w⟩, ?_⟩
  rintro k σ w2 ⟨i, hk, hx, H⟩
  rw [hx]
  unfold f21.l0
  refine Do.dec run_lss (fun hlt => If.t ?_) (fun hge => If.f ?_)
  · have hi : i < bs.length := by omega
    obtain ⟨b, cs, fz, rfl, hb, hcs⟩ := hp (by omega)
    obtain ⟨b', cs', fz', rfl, hb', hcs'⟩ := hq (by omega)
    refine ⟨fun w' => w'.heap[b]? = some (.cells cs 5 fz) ∧ w'.heap[b']? = some (.cells cs' 5 fz'), ⟨H.drew.baseBlk hb, H.drew.baseBlk hb'⟩, ?_⟩
    dsimp only
    refine Take.ok (fun _ _ => run_idx (by omega) (by omega)) ?_
    refine Take.ok (v := .int .u8 (bs[i].toNat : Int)) (fun w' hS => run_load1 ((cell_of_blk hS.1 _).trans (by have := hcs i hi; simpa using this))) ?_
    refine Take.ok (fun _ _ => run_idx (by omega) (by omega)) ?_
    refine Take.ok (v := .int .u8 (bs[i].toNat : Int)) (fun w' hS => run_load1 ((cell_of_blk hS.2 _).trans (by have := hcs' i hi; simpa using this))) ?_
    refine Take.dec (fun _ => run_nei) (fun h => absurd rfl h) (fun _ => If.f ?_)
    exact Do.ok (run_addi (a := (i : Int)) (b := 1) (by omega)) (show ∃ k', k' < k ∧ _ from ⟨k - 1, by omega, i + 1, by omega, rfl, H.drew⟩)
  · exact ⟨rfl, H.toBelow⟩
end Go.Proofs.YtggdogncmkffpaaDoor
