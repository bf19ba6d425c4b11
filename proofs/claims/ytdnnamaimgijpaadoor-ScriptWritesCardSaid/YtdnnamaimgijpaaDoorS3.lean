/- Contracts: digits.Word. Conditions: none. -/
import Derived.Test.YtdnnamaimgijpaaDoorS2
set_option linter.unusedVariables false
set_option maxRecDepth 10000
namespace Go.Proofs.YtdnnamaimgijpaaDoor
open Go Go.Sx Go.Proofs Go.Lib Go.RowKit

def plainByte (c : UInt8) : Bool := 33 ≤ c.toNat ∧ c.toNat ≤ 126
def wordB (l : List UInt8) : Bool := l.all plainByte && decide (l ≠ [])
theorem all_false_of {l : List UInt8} {p : UInt8 → Bool} (i : Nat) (h : i < l.length) (hp : p l[i] = false) : l.all p = false := by
  rw [List.all_eq_false]
  exact ⟨l[i], List.getElem_mem _, by simp [hp]⟩
theorem all_true_of {l : List UInt8} {p : UInt8 → Bool} (h : ∀ j (hj : j < l.length), p l[j] = true) : l.all p = true := by
  rw [List.all_eq_true]
  intro x hx
  obtain ⟨j, hj, rfl⟩ := List.getElem_of_mem hx
  exact h j hj
theorem byte_at (s : ByteArray) (i : Nat) (h : i < s.size) : s[i]'h = s.data.toList[i]'(by simpa using h) := by
  simp only [Array.getElem_toList]
  rfl
theorem Word_ret (s : ByteArray) (w : World) : Ret P 100 #[.string s] w (fun v w' => v = .bool (wordB s.data.toList) ∧ Below w.heap.size w w') := by
  refine f100.calls ?_
  unfold f100.f
  have hl : s.data.toList.length = s.size := by simp
  refine Do.rangeS (Has.init w) ?_
  intro b w1 H
  refine ⟨fun k w' => ∃ i : Nat, k + i = s.size ∧ (∀ j (h : j < s.data.toList.length), j < i → plainByte s.data.toList[j] = true) ∧ Has w w' [(b, .stringIter s i)], ⟨s.size, 0, by omega, fun j h hj => absurd hj (by omega), H⟩, ?_⟩
  rintro k σ w2 ⟨i, hk, hall, H2⟩
  unfold f100.l0
  refine Do.nextS H2 0 rfl (fun h w3 H3 => ?_) (fun h => ?_)
  · refine Do.ok (run_ext rfl) (If.t (Do.ok (run_ext rfl) ?_))
    have hi : i < s.data.toList.length := by omega
    have hb := byte_at s i h
    rcases Nat.lt_or_ge (s[i]'h).toNat 128 with ha | ha
    · rw [decode_ascii s i h ha] at H3 ⊢
      dsimp only at H3 ⊢
      have H3 : Has w w3 [(b, .stringIter s (i + 1))] := H3
      rw [hb]
      generalize hc : s.data.toList[i] = c
      (repeat' (with_reducible first | refine Do.dec run_lss (fun _ => ?_) (fun _ => ?_) | refine Do.dec run_gtr (fun _ => ?_) (fun _ => ?_) | refine Do.dec run_leq (fun _ => ?_) (fun _ => ?_) | refine Do.dec run_geq (fun _ => ?_) (fun _ => ?_) | refine Do.dec run_eqi (fun _ => ?_) (fun _ => ?_) | refine Do.dec run_nei (fun _ => ?_) (fun _ => ?_) | refine Do.dec run_eqs (fun _ => ?_) (fun _ => ?_) | refine Do.dec run_nes (fun _ => ?_) (fun _ => ?_) | refine Do.ok run_pickT ?_ | refine Do.ok run_pickF ?_ | refine Do.ok run_notT ?_ | refine Do.ok run_notF ?_ | refine GuardK.tt ?_ | refine GuardK.ff ?_ | refine GuardK.tf ?_ | refine GuardK.ft ?_ | refine GuardK.un ?_ | refine If.t ?_ | refine If.f ?_ | refine Do.ok run_lenS ?_ | refine Do.ok run_lenStr ?_ | refine Do.ok run_nilp ?_ | refine Do.ok run_fld ?_ | refine Do.ok (run_ext rfl) ?_ | refine GuardT.tt ?_ | refine GuardT.ff ?_ | refine GuardT.tf ?_ | refine GuardT.ft ?_ | refine GuardT.un ?_ | refine Take.ok (fun _ _ => run_fld) ?_ | refine Take.ok (fun _ _ => run_pickT) ?_ | refine Take.ok (fun _ _ => run_pickF) ?_ | refine Take.ok (fun _ _ => run_notT) ?_ | refine Take.ok (fun _ _ => run_notF) ?_ | refine Take.dec (fun _ => run_lss) (fun _ => ?_) (fun _ => ?_) | refine Take.dec (fun _ => run_gtr) (fun _ => ?_) (fun _ => ?_) | refine Take.dec (fun _ => run_leq) (fun _ => ?_) (fun _ => ?_) | refine Take.dec (fun _ => run_eqi) (fun _ => ?_) (fun _ => ?_) | refine Take.dec (fun _ => run_nei) (fun _ => ?_) (fun _ => ?_) | refine Take.dec (fun _ => run_eqs) (fun _ => ?_) (fun _ => ?_)))
      all_goals first
        | (refine ⟨?_, H3.toBelow⟩
           have : plainByte s.data.toList[i] = false := by simp only [plainByte, decide_eq_false_iff_not, hc]; omega
           rw [wordB, all_false_of i hi this]; rfl)
        | (refine ⟨k - 1, by omega, i + 1, by omega, fun j h hj => ?_, H3⟩
           by_cases hji : j = i
           · subst hji; simp only [plainByte, decide_eq_true_eq, hc]; omega
           · exact hall j h (by omega))
    · have hd := decode_high s i h ha
      generalize (Utf8.decode s i).1 = r at hd ⊢
      have : plainByte s.data.toList[i] = false := by
        rw [← hb]
        simp only [plainByte, decide_eq_false_iff_not]
        omega
      (repeat' (with_reducible first | refine Do.dec run_lss (fun _ => ?_) (fun _ => ?_) | refine Do.dec run_gtr (fun _ => ?_) (fun _ => ?_) | refine Do.dec run_leq (fun _ => ?_) (fun _ => ?_) | refine Do.dec run_geq (fun _ => ?_) (fun _ => ?_) | refine Do.dec run_eqi (fun _ => ?_) (fun _ => ?_) | refine Do.dec run_nei (fun _ => ?_) (fun _ => ?_) | refine Do.dec run_eqs (fun _ => ?_) (fun _ => ?_) | refine Do.dec run_nes (fun _ => ?_) (fun _ => ?_) | refine Do.ok run_pickT ?_ | refine Do.ok run_pickF ?_ | refine Do.ok run_notT ?_ | refine Do.ok run_notF ?_ | refine GuardK.tt ?_ | refine GuardK.ff ?_ | refine GuardK.tf ?_ | refine GuardK.ft ?_ | refine GuardK.un ?_ | refine If.t ?_ | refine If.f ?_ | refine Do.ok run_lenS ?_ | refine Do.ok run_lenStr ?_ | refine Do.ok run_nilp ?_ | refine Do.ok run_fld ?_ | refine Do.ok (run_ext rfl) ?_ | refine GuardT.tt ?_ | refine GuardT.ff ?_ | refine GuardT.tf ?_ | refine GuardT.ft ?_ | refine GuardT.un ?_ | refine Take.ok (fun _ _ => run_fld) ?_ | refine Take.ok (fun _ _ => run_pickT) ?_ | refine Take.ok (fun _ _ => run_pickF) ?_ | refine Take.ok (fun _ _ => run_notT) ?_ | refine Take.ok (fun _ _ => run_notF) ?_ | refine Take.dec (fun _ => run_lss) (fun _ => ?_) (fun _ => ?_) | refine Take.dec (fun _ => run_gtr) (fun _ => ?_) (fun _ => ?_) | refine Take.dec (fun _ => run_leq) (fun _ => ?_) (fun _ => ?_) | refine Take.dec (fun _ => run_eqi) (fun _ => ?_) (fun _ => ?_) | refine Take.dec (fun _ => run_nei) (fun _ => ?_) (fun _ => ?_) | refine Take.dec (fun _ => run_eqs) (fun _ => ?_) (fun _ => ?_)))
      all_goals first
        | omega
        | (refine ⟨?_, H3.toBelow⟩
           rw [wordB, all_false_of i hi this]; rfl)
  · refine Do.ok (run_ext rfl) (If.f ?_)
    have hall' : s.data.toList.all plainByte = true := all_true_of fun j hj => hall j hj (by omega)
    refine Do.ok run_nes ⟨?_, H2.toBelow⟩
    rw [wordB, hall']
    rfl
end Go.Proofs.YtdnnamaimgijpaaDoor
