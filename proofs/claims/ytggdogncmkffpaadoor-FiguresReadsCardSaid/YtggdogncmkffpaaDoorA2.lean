/- Contracts of the small functions of yaml. Conditions: none. -/
import Derived.Test.YtggdogncmkffpaaDoorSxP
import Derived.Test.YtggdogncmkffpaaDoorSxMem2
set_option linter.unusedVariables false
set_option maxRecDepth 10000
namespace Go.Proofs.YtggdogncmkffpaaDoor
open Go Go.Sx Go.Proofs Go.Lib Go.RowKit

def keyByte (c : UInt8) : Bool := c.toNat = 45 ∨ (48 ≤ c.toNat ∧ c.toNat ≤ 57) ∨ (97 ≤ c.toNat ∧ c.toNat ≤ 122)
def rightB (l : List UInt8) : Bool := l.all keyByte && l ≠ [] && l.length ≤ 64
def plainByte (c : UInt8) : Bool := 33 ≤ c.toNat ∧ c.toNat ≤ 126
def plainB (l : List UInt8) : Bool := l.all plainByte && l ≠ [] && l.length ≤ 4096

theorem all_false_of {l : List UInt8} {p : UInt8 → Bool} (i : Nat) (h : i < l.length) (hp : p l[i] = false) : l.all p = false := by
  rw [List.all_eq_false]
  exact ⟨l[i], List.getElem_mem _, by simp [hp]⟩
theorem all_true_of {l : List UInt8} {p : UInt8 → Bool} (h : ∀ j (hj : j < l.length), p l[j] = true) : l.all p = true := by
  rw [List.all_eq_true]
  intro x hx
  obtain ⟨j, hj, rfl⟩ := List.getElem_of_mem hx
  exact h j hj

theorem right_ret (s : ByteArray) (w : World) (hs : s.size ≤ 9223372036854775807) : Ret P 32 #[.string s] w (fun v w' => v = .bool (rightB s.data.toList) ∧ Below w.heap.size w w') := by
  refine f32.calls ?_
  unfold f32.f
  have hl : s.data.toList.length = s.size := by simp
  refine Do.toBytes (Has.init w) ?_
  intro b c sp fz w1 H hc
  (repeat' (with_reducible first | refine Do.dec run_lss (fun _ => ?_) (fun _ => ?_) | refine Do.dec run_gtr (fun _ => ?_) (fun _ => ?_) | refine Do.dec run_leq (fun _ => ?_) (fun _ => ?_) | refine Do.dec run_geq (fun _ => ?_) (fun _ => ?_) | refine Do.dec run_eqi (fun _ => ?_) (fun _ => ?_) | refine Do.dec run_nei (fun _ => ?_) (fun _ => ?_) | refine Do.dec run_eqs (fun _ => ?_) (fun _ => ?_) | refine Do.dec run_nes (fun _ => ?_) (fun _ => ?_) | refine Do.ok run_pickT ?_ | refine Do.ok run_pickF ?_ | refine Do.ok run_notT ?_ | refine Do.ok run_notF ?_ | refine GuardK.tt ?_ | refine GuardK.ff ?_ | refine GuardK.tf ?_ | refine GuardK.ft ?_ | refine GuardK.un ?_ | refine If.t ?_ | refine If.f ?_ | refine Do.ok run_lenS ?_ | refine Do.ok run_lenStr ?_ | refine Do.ok run_nilp ?_ | refine Do.ok run_fld ?_ | refine Do.ok (run_ext rfl) ?_ | refine GuardT.tt ?_ | refine GuardT.ff ?_ | refine GuardT.tf ?_ | refine GuardT.ft ?_ | refine GuardT.un ?_ | refine Take.ok (fun _ _ => run_fld) ?_ | refine Take.ok (fun _ _ => run_pickT) ?_ | refine Take.ok (fun _ _ => run_pickF) ?_ | refine Take.ok (fun _ _ => run_notT) ?_ | refine Take.ok (fun _ _ => run_notF) ?_ | refine Take.dec (fun _ => run_lss) (fun _ => ?_) (fun _ => ?_) | refine Take.dec (fun _ => run_gtr) (fun _ => ?_) (fun _ => ?_) | refine Take.dec (fun _ => run_leq) (fun _ => ?_) (fun _ => ?_) | refine Take.dec (fun _ => run_eqi) (fun _ => ?_) (fun _ => ?_) | refine Take.dec (fun _ => run_nei) (fun _ => ?_) (fun _ => ?_) | refine Take.dec (fun _ => run_eqs) (fun _ => ?_) (fun _ => ?_)))
  refine ⟨fun k x w' => ∃ i : Nat, k + i = s.size ∧ x = .int .i64 i ∧ (∀ j (h : j < s.data.toList.length), j < i → keyByte s.data.toList[j] = true) ∧ Has w w' [(b, .cells (byteCells s.data.toList ++ sp).toArray 5 fz)],
    ⟨s.size, 0, by simp, rfl, fun j h hj => absurd hj (by omega), H⟩, ?_⟩
  rintro k σ w2 ⟨i, hk, hx, hall, H2⟩
  rw [hx]
  unfold f32.l0
  refine Do.dec run_lss (fun hlt => If.t ?_) (fun hge => If.f ?_)
  · have hi : i < s.data.toList.length := by omega
    refine Do.ok (run_idx (by omega) (by omega)) (Do.ld H2 0 rfl (v := .int .u8 (s.data.toList[i].toNat : Int)) ?_ ?_)
    · simp only [Int.toNat_natCast, Nat.zero_add, Nat.mul_one, List.getElem?_toArray]
      rw [List.getElem?_append_left (by rw [byteCells_length]; exact hi)]
      exact byteCells_get _ i hi
    have hr := u8_range s.data.toList[i]
    (repeat' (with_reducible first | refine Do.dec run_lss (fun _ => ?_) (fun _ => ?_) | refine Do.dec run_gtr (fun _ => ?_) (fun _ => ?_) | refine Do.dec run_leq (fun _ => ?_) (fun _ => ?_) | refine Do.dec run_geq (fun _ => ?_) (fun _ => ?_) | refine Do.dec run_eqi (fun _ => ?_) (fun _ => ?_) | refine Do.dec run_nei (fun _ => ?_) (fun _ => ?_) | refine Do.dec run_eqs (fun _ => ?_) (fun _ => ?_) | refine Do.dec run_nes (fun _ => ?_) (fun _ => ?_) | refine Do.ok run_pickT ?_ | refine Do.ok run_pickF ?_ | refine Do.ok run_notT ?_ | refine Do.ok run_notF ?_ | refine GuardK.tt ?_ | refine GuardK.ff ?_ | refine GuardK.tf ?_ | refine GuardK.ft ?_ | refine GuardK.un ?_ | refine If.t ?_ | refine If.f ?_ | refine Do.ok run_lenS ?_ | refine Do.ok run_lenStr ?_ | refine Do.ok run_nilp ?_ | refine Do.ok run_fld ?_ | refine Do.ok (run_ext rfl) ?_ | refine GuardT.tt ?_ | refine GuardT.ff ?_ | refine GuardT.tf ?_ | refine GuardT.ft ?_ | refine GuardT.un ?_ | refine Take.ok (fun _ _ => run_fld) ?_ | refine Take.ok (fun _ _ => run_pickT) ?_ | refine Take.ok (fun _ _ => run_pickF) ?_ | refine Take.ok (fun _ _ => run_notT) ?_ | refine Take.ok (fun _ _ => run_notF) ?_ | refine Take.dec (fun _ => run_lss) (fun _ => ?_) (fun _ => ?_) | refine Take.dec (fun _ => run_gtr) (fun _ => ?_) (fun _ => ?_) | refine Take.dec (fun _ => run_leq) (fun _ => ?_) (fun _ => ?_) | refine Take.dec (fun _ => run_eqi) (fun _ => ?_) (fun _ => ?_) | refine Take.dec (fun _ => run_nei) (fun _ => ?_) (fun _ => ?_) | refine Take.dec (fun _ => run_eqs) (fun _ => ?_) (fun _ => ?_)))
    all_goals first
      | (refine ⟨?_, H2.toBelow⟩
         have : keyByte s.data.toList[i] = false := by simp only [keyByte, decide_eq_false_iff_not]; omega
         rw [rightB, all_false_of i hi this]; rfl)
      | (refine Do.ok (run_addi (a := (i : Int)) (b := 1) (by omega)) (show ∃ k', k' < k ∧ _ from ⟨k - 1, by omega, i + 1, by omega, rfl, fun j h hj => ?_, H2⟩)
         by_cases hji : j = i
         · subst hji; simp only [keyByte, decide_eq_true_eq]; omega
         · exact hall j h (by omega))
  · have hall' : s.data.toList.all keyByte = true := all_true_of fun j hj => hall j hj (by omega)
    (repeat' (with_reducible first | refine Do.dec run_lss (fun _ => ?_) (fun _ => ?_) | refine Do.dec run_gtr (fun _ => ?_) (fun _ => ?_) | refine Do.dec run_leq (fun _ => ?_) (fun _ => ?_) | refine Do.dec run_geq (fun _ => ?_) (fun _ => ?_) | refine Do.dec run_eqi (fun _ => ?_) (fun _ => ?_) | refine Do.dec run_nei (fun _ => ?_) (fun _ => ?_) | refine Do.dec run_eqs (fun _ => ?_) (fun _ => ?_) | refine Do.dec run_nes (fun _ => ?_) (fun _ => ?_) | refine Do.ok run_pickT ?_ | refine Do.ok run_pickF ?_ | refine Do.ok run_notT ?_ | refine Do.ok run_notF ?_ | refine GuardK.tt ?_ | refine GuardK.ff ?_ | refine GuardK.tf ?_ | refine GuardK.ft ?_ | refine GuardK.un ?_ | refine If.t ?_ | refine If.f ?_ | refine Do.ok run_lenS ?_ | refine Do.ok run_lenStr ?_ | refine Do.ok run_nilp ?_ | refine Do.ok run_fld ?_ | refine Do.ok (run_ext rfl) ?_ | refine GuardT.tt ?_ | refine GuardT.ff ?_ | refine GuardT.tf ?_ | refine GuardT.ft ?_ | refine GuardT.un ?_ | refine Take.ok (fun _ _ => run_fld) ?_ | refine Take.ok (fun _ _ => run_pickT) ?_ | refine Take.ok (fun _ _ => run_pickF) ?_ | refine Take.ok (fun _ _ => run_notT) ?_ | refine Take.ok (fun _ _ => run_notF) ?_ | refine Take.dec (fun _ => run_lss) (fun _ => ?_) (fun _ => ?_) | refine Take.dec (fun _ => run_gtr) (fun _ => ?_) (fun _ => ?_) | refine Take.dec (fun _ => run_leq) (fun _ => ?_) (fun _ => ?_) | refine Take.dec (fun _ => run_eqi) (fun _ => ?_) (fun _ => ?_) | refine Take.dec (fun _ => run_nei) (fun _ => ?_) (fun _ => ?_) | refine Take.dec (fun _ => run_eqs) (fun _ => ?_) (fun _ => ?_)))
    · rename_i h1 h2
      refine ⟨?_, H2.toBelow⟩
      have h3 : s.data.toList.length ≤ 64 := by omega
      have h4 : s.data.toList ≠ [] := h1
      simp [rightB, hall', h4, h3, -Array.length_toList, -ByteArray.size_data]
    · rename_i h1 h2
      refine ⟨?_, H2.toBelow⟩
      have h3 : ¬ s.data.toList.length ≤ 64 := by omega
      simp [rightB, h3, -Array.length_toList, -ByteArray.size_data]
    · rename_i h1
      refine ⟨?_, H2.toBelow⟩
      have h4 : s.data.toList = [] := Decidable.not_not.1 h1
      simp [rightB, h4]

theorem plain_ret (s : ByteArray) (w : World) (hs : s.size ≤ 9223372036854775807) : Ret P 34 #[.string s] w (fun v w' => v = .bool (plainB s.data.toList) ∧ Below w.heap.size w w') := by
  refine f34.calls ?_
  unfold f34.f
  have hl : s.data.toList.length = s.size := by simp
  refine Do.toBytes (Has.init w) ?_
  intro b c sp fz w1 H hc
  (repeat' (with_reducible first | refine Do.dec run_lss (fun _ => ?_) (fun _ => ?_) | refine Do.dec run_gtr (fun _ => ?_) (fun _ => ?_) | refine Do.dec run_leq (fun _ => ?_) (fun _ => ?_) | refine Do.dec run_geq (fun _ => ?_) (fun _ => ?_) | refine Do.dec run_eqi (fun _ => ?_) (fun _ => ?_) | refine Do.dec run_nei (fun _ => ?_) (fun _ => ?_) | refine Do.dec run_eqs (fun _ => ?_) (fun _ => ?_) | refine Do.dec run_nes (fun _ => ?_) (fun _ => ?_) | refine Do.ok run_pickT ?_ | refine Do.ok run_pickF ?_ | refine Do.ok run_notT ?_ | refine Do.ok run_notF ?_ | refine GuardK.tt ?_ | refine GuardK.ff ?_ | refine GuardK.tf ?_ | refine GuardK.ft ?_ | refine GuardK.un ?_ | refine If.t ?_ | refine If.f ?_ | refine Do.ok run_lenS ?_ | refine Do.ok run_lenStr ?_ | refine Do.ok run_nilp ?_ | refine Do.ok run_fld ?_ | refine Do.ok (run_ext rfl) ?_ | refine GuardT.tt ?_ | refine GuardT.ff ?_ | refine GuardT.tf ?_ | refine GuardT.ft ?_ | refine GuardT.un ?_ | refine Take.ok (fun _ _ => run_fld) ?_ | refine Take.ok (fun _ _ => run_pickT) ?_ | refine Take.ok (fun _ _ => run_pickF) ?_ | refine Take.ok (fun _ _ => run_notT) ?_ | refine Take.ok (fun _ _ => run_notF) ?_ | refine Take.dec (fun _ => run_lss) (fun _ => ?_) (fun _ => ?_) | refine Take.dec (fun _ => run_gtr) (fun _ => ?_) (fun _ => ?_) | refine Take.dec (fun _ => run_leq) (fun _ => ?_) (fun _ => ?_) | refine Take.dec (fun _ => run_eqi) (fun _ => ?_) (fun _ => ?_) | refine Take.dec (fun _ => run_nei) (fun _ => ?_) (fun _ => ?_) | refine Take.dec (fun _ => run_eqs) (fun _ => ?_) (fun _ => ?_)))
  refine ⟨fun k x w' => ∃ i : Nat, k + i = s.size ∧ x = .int .i64 i ∧ (∀ j (h : j < s.data.toList.length), j < i → plainByte s.data.toList[j] = true) ∧ Has w w' [(b, .cells (byteCells s.data.toList ++ sp).toArray 5 fz)],
    ⟨s.size, 0, by simp, rfl, fun j h hj => absurd hj (by omega), H⟩, ?_⟩
  rintro k σ w2 ⟨i, hk, hx, hall, H2⟩
  rw [hx]
  unfold f34.l0
  refine Do.dec run_lss (fun hlt => If.t ?_) (fun hge => If.f ?_)
  · have hi : i < s.data.toList.length := by omega
    refine Do.ok (run_idx (by omega) (by omega)) (Do.ld H2 0 rfl (v := .int .u8 (s.data.toList[i].toNat : Int)) ?_ ?_)
    · simp only [Int.toNat_natCast, Nat.zero_add, Nat.mul_one, List.getElem?_toArray]
      rw [List.getElem?_append_left (by rw [byteCells_length]; exact hi)]
      exact byteCells_get _ i hi
    have hr := u8_range s.data.toList[i]
    (repeat' (with_reducible first | refine Do.dec run_lss (fun _ => ?_) (fun _ => ?_) | refine Do.dec run_gtr (fun _ => ?_) (fun _ => ?_) | refine Do.dec run_leq (fun _ => ?_) (fun _ => ?_) | refine Do.dec run_geq (fun _ => ?_) (fun _ => ?_) | refine Do.dec run_eqi (fun _ => ?_) (fun _ => ?_) | refine Do.dec run_nei (fun _ => ?_) (fun _ => ?_) | refine Do.dec run_eqs (fun _ => ?_) (fun _ => ?_) | refine Do.dec run_nes (fun _ => ?_) (fun _ => ?_) | refine Do.ok run_pickT ?_ | refine Do.ok run_pickF ?_ | refine Do.ok run_notT ?_ | refine Do.ok run_notF ?_ | refine GuardK.tt ?_ | refine GuardK.ff ?_ | refine GuardK.tf ?_ | refine GuardK.ft ?_ | refine GuardK.un ?_ | refine If.t ?_ | refine If.f ?_ | refine Do.ok run_lenS ?_ | refine Do.ok run_lenStr ?_ | refine Do.ok run_nilp ?_ | refine Do.ok run_fld ?_ | refine Do.ok (run_ext rfl) ?_ | refine GuardT.tt ?_ | refine GuardT.ff ?_ | refine GuardT.tf ?_ | refine GuardT.ft ?_ | refine GuardT.un ?_ | refine Take.ok (fun _ _ => run_fld) ?_ | refine Take.ok (fun _ _ => run_pickT) ?_ | refine Take.ok (fun _ _ => run_pickF) ?_ | refine Take.ok (fun _ _ => run_notT) ?_ | refine Take.ok (fun _ _ => run_notF) ?_ | refine Take.dec (fun _ => run_lss) (fun _ => ?_) (fun _ => ?_) | refine Take.dec (fun _ => run_gtr) (fun _ => ?_) (fun _ => ?_) | refine Take.dec (fun _ => run_leq) (fun _ => ?_) (fun _ => ?_) | refine Take.dec (fun _ => run_eqi) (fun _ => ?_) (fun _ => ?_) | refine Take.dec (fun _ => run_nei) (fun _ => ?_) (fun _ => ?_) | refine Take.dec (fun _ => run_eqs) (fun _ => ?_) (fun _ => ?_)))
    all_goals first
      | (refine ⟨?_, H2.toBelow⟩
         have : plainByte s.data.toList[i] = false := by simp only [plainByte, decide_eq_false_iff_not]; omega
         rw [plainB, all_false_of i hi this]; rfl)
      | (refine Do.ok (run_addi (a := (i : Int)) (b := 1) (by omega)) (show ∃ k', k' < k ∧ _ from ⟨k - 1, by omega, i + 1, by omega, rfl, fun j h hj => ?_, H2⟩)
         by_cases hji : j = i
         · subst hji; simp only [plainByte, decide_eq_true_eq]; omega
         · exact hall j h (by omega))
  · have hall' : s.data.toList.all plainByte = true := all_true_of fun j hj => hall j hj (by omega)
    (repeat' (with_reducible first | refine Do.dec run_lss (fun _ => ?_) (fun _ => ?_) | refine Do.dec run_gtr (fun _ => ?_) (fun _ => ?_) | refine Do.dec run_leq (fun _ => ?_) (fun _ => ?_) | refine Do.dec run_geq (fun _ => ?_) (fun _ => ?_) | refine Do.dec run_eqi (fun _ => ?_) (fun _ => ?_) | refine Do.dec run_nei (fun _ => ?_) (fun _ => ?_) | refine Do.dec run_eqs (fun _ => ?_) (fun _ => ?_) | refine Do.dec run_nes (fun _ => ?_) (fun _ => ?_) | refine Do.ok run_pickT ?_ | refine Do.ok run_pickF ?_ | refine Do.ok run_notT ?_ | refine Do.ok run_notF ?_ | refine GuardK.tt ?_ | refine GuardK.ff ?_ | refine GuardK.tf ?_ | refine GuardK.ft ?_ | refine GuardK.un ?_ | refine If.t ?_ | refine If.f ?_ | refine Do.ok run_lenS ?_ | refine Do.ok run_lenStr ?_ | refine Do.ok run_nilp ?_ | refine Do.ok run_fld ?_ | refine Do.ok (run_ext rfl) ?_ | refine GuardT.tt ?_ | refine GuardT.ff ?_ | refine GuardT.tf ?_ | refine GuardT.ft ?_ | refine GuardT.un ?_ | refine Take.ok (fun _ _ => run_fld) ?_ | refine Take.ok (fun _ _ => run_pickT) ?_ | refine Take.ok (fun _ _ => run_pickF) ?_ | refine Take.ok (fun _ _ => run_notT) ?_ | refine Take.ok (fun _ _ => run_notF) ?_ | refine Take.dec (fun _ => run_lss) (fun _ => ?_) (fun _ => ?_) | refine Take.dec (fun _ => run_gtr) (fun _ => ?_) (fun _ => ?_) | refine Take.dec (fun _ => run_leq) (fun _ => ?_) (fun _ => ?_) | refine Take.dec (fun _ => run_eqi) (fun _ => ?_) (fun _ => ?_) | refine Take.dec (fun _ => run_nei) (fun _ => ?_) (fun _ => ?_) | refine Take.dec (fun _ => run_eqs) (fun _ => ?_) (fun _ => ?_)))
    · rename_i h1 h2
      refine ⟨?_, H2.toBelow⟩
      have h3 : s.data.toList.length ≤ 4096 := by omega
      have h4 : s.data.toList ≠ [] := h1
      simp [plainB, hall', h4, h3, -Array.length_toList, -ByteArray.size_data]
    · rename_i h1 h2
      refine ⟨?_, H2.toBelow⟩
      have h3 : ¬ s.data.toList.length ≤ 4096 := by omega
      simp [plainB, h3, -Array.length_toList, -ByteArray.size_data]
    · rename_i h1
      refine ⟨?_, H2.toBelow⟩
      have h4 : s.data.toList = [] := Decidable.not_not.1 h1
      simp [plainB, h4]
end Go.Proofs.YtggdogncmkffpaaDoor
