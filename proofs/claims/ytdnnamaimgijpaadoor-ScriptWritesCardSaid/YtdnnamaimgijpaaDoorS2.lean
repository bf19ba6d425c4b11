/- Contracts: fail, kindOf, CheckConfig, digits.Word, digits.Parse. Conditions: none. -/
import Derived.Test.YtdnnamaimgijpaaDoorS1
set_option linter.unusedVariables false
set_option maxRecDepth 10000
namespace Go.Proofs.YtdnnamaimgijpaaDoor
open Go Go.Sx Go.Proofs Go.Lib Go.RowKit

/-- What 'fail' gives up with. -/
def wrongE (c : Int) : List PanicEntry := [{ v := .iface 87 (.agg #[.int .i64 c]), recovered := false }]
/-- How a call ends that may give up: it returns with R, or panics with a 'wrong' of X's. -/
def Try (g : FuncId) (args : Array Value) (w : World) (R : Value → World → Prop) (X : Int → World → Prop) : Prop :=
  Calls P g args w (retd R fun c w' => ∃ n, c = wrongE n ∧ X n w')
theorem build87 (c : Int) (w : World) : (Instr.build 87 #[(0, .int .i64 c)]).run P w = .ok (.agg #[.int .i64 c]) w := by kernel_rfl
theorem iface87 (c : Int) (w : World) : (Instr.makeInterface 87 (.agg #[.int .i64 c])).run P w = .ok (.iface 87 (.agg #[.int .i64 c])) w := by kernel_rfl
theorem fail_try (c : Int) (w : World) {R : Value → World → Prop} {X : Int → World → Prop} (h : X c w) : Try 43 #[.int .i64 c] w R X := by
  refine f43.calls ?_
  unfold f43.f
  refine Do.ok (build87 c w) (Do.ok (iface87 c w) ?_)
  exact ⟨c, rfl, h⟩
theorem CallF.tries {g : FuncId} {args : List Value} {w : World} {R : Value → World → Prop} {XX : Int → World → Prop} {K : Value → World → Prop} {X : List PanicEntry → World → Prop}
    (he : (callFunc g args.toArray).run P w = .ok (.enter g args.toArray) w) (h : Try g args.toArray w R XX) (k : ∀ v w', R v w' → K v w') (x : ∀ n w', XX n w' → X (wrongE n) w') : CallF P g args w K X := by
  refine CallF.gen he (Calls.mono h fun e w' he => ?_)
  cases e with
  | returned v => exact k _ _ he
  | panicked c => obtain ⟨n, rfl, hx⟩ := he; exact x _ _ hx
  | outgrown => exact he
theorem CallF.fail {c : Int} {w : World} {K : Value → World → Prop} {X : List PanicEntry → World → Prop} (x : X (wrongE c) w) : CallF P 43 [.int .i64 c] w K X :=
  CallF.tries (R := fun _ _ => False) (XX := fun n w' => n = c ∧ w' = w) (f43.enters _ _) (fail_try c w ⟨rfl, rfl⟩) (fun _ _ h => h.elim) (by rintro _ _ ⟨rfl, rfl⟩; exact x)

def kindV (s : ByteArray) : Int := if s = wordV 1 then 1 else if s = wordV 2 then 2 else if s = wordV 3 then 3 else if s = wordV 4 then 4 else if s = wordV 5 then 5 else if s = wordV 6 then 6 else if s = wordV 7 then 7 else 0
theorem list_eq_iff (s t : ByteArray) : s.data.toList = t.data.toList ↔ s = t := ⟨fun h => ByteArray.ext (Array.ext' h), fun h => by rw [h]⟩
theorem kindOf_ret (s : ByteArray) (w : World) : Ret P 53 #[.string s] w (fun v w' => v = .int .i64 (kindV s) ∧ w' = w) := by
  refine f53.calls ?_
  unfold f53.f
  refine ⟨fun k x w' => ∃ i : Nat, k + i = 8 ∧ 1 ≤ i ∧ x = .int .i64 i ∧ (∀ j : Nat, 1 ≤ j → j < i → s ≠ wordV j) ∧ w' = w, ⟨7, 1, rfl, by omega, rfl, fun j h1 h2 => absurd h2 (by omega), rfl⟩, ?_⟩
  rintro k σ w2 ⟨i, hk, h1, hx, hall, rfl⟩
  rw [hx]
  unfold f53.l0
  refine Do.dec run_leq (fun hlt => If.t ?_) (fun hge => If.f ?_)
  · refine CallF.ret (f69.enters _ _) (word_ret i _) ?_
    rintro _ _ ⟨rfl, rfl⟩
    refine Do.dec run_eqs (fun h => If.t ⟨?_, rfl⟩) (fun h => If.f ?_)
    · have hs := ((list_eq_iff _ _).1 h).symm
      have hi : i = 1 ∨ i = 2 ∨ i = 3 ∨ i = 4 ∨ i = 5 ∨ i = 6 ∨ i = 7 := by omega
      rw [hs]
      rcases hi with rfl | rfl | rfl | rfl | rfl | rfl | rfl <;> exact congrArg (Value.int .i64) (by decide)
    · refine Do.ok (run_addi (a := (i : Int)) (b := 1) (by omega)) ⟨k - 1, by omega, i + 1, by omega, by omega, rfl, fun j h1 h2 => ?_, rfl⟩
      by_cases hj : j = i
      · subst hj; exact fun e => h ((list_eq_iff _ _).2 e.symm)
      · exact hall j h1 (by omega)
  · refine ⟨?_, rfl⟩
    have h := fun j h1 (h2 : j < 8) => hall j h1 (by omega)
    have e1 : s ≠ wordV 1 := h 1 (by omega) (by omega)
    have e2 : s ≠ wordV 2 := h 2 (by omega) (by omega)
    have e3 : s ≠ wordV 3 := h 3 (by omega) (by omega)
    have e4 : s ≠ wordV 4 := h 4 (by omega) (by omega)
    have e5 : s ≠ wordV 5 := h 5 (by omega) (by omega)
    have e6 : s ≠ wordV 6 := h 6 (by omega) (by omega)
    have e7 : s ≠ wordV 7 := h 7 (by omega) (by omega)
    show _ = Value.int .i64 (kindV s)
    unfold kindV
    rw [if_neg e1, if_neg e2, if_neg e3, if_neg e4, if_neg e5, if_neg e6, if_neg e7]

structure Cfg where
  jobMax : Int
  segment : Int
  quota : Int
def Cfg.cells (c : Cfg) : Array Value := #[.int .i64 c.jobMax, .int .i64 c.segment, .int .i64 c.quota]
def Cfg.right (c : Cfg) : Bool := withinB c.jobMax 1 65535 && withinB c.segment 128 1048576 && withinB c.quota 1024 67108864 && decide (4 * c.segment ≤ c.quota)
theorem checkConfig_ret (c : Cfg) (w : World) : Ret P 36 #[.agg c.cells] w (fun v w' => v = .int .i64 (if c.right then 0 else 103) ∧ Below w.heap.size w w') := by
  refine f36.calls ?_
  unfold f36.f
  refine Do.box (Has.init w) ?_
  intro b w1 H
  have H : Has w w1 [(b, .cells c.cells 28 (0, 0))] := H
  refine Do.ok run_fld (Do.ld H 0 (v := .int .i64 c.jobMax) rfl rfl ?_)
  refine CallF.ret (f65.enters _ _) (within_ret _ _ _ _) ?_
  rintro _ _ ⟨rfl, rfl⟩
  have e : c.right = (withinB c.jobMax 1 65535 && (withinB c.segment 128 1048576 && (withinB c.quota 1024 67108864 && decide (4 * c.segment ≤ c.quota)))) := by rw [Cfg.right, Bool.and_assoc, Bool.and_assoc]
  rw [e]
  cases h1 : withinB c.jobMax 1 65535 with
  | false =>
    (repeat' (with_reducible first | refine Do.dec run_lss (fun _ => ?_) (fun _ => ?_) | refine Do.dec run_gtr (fun _ => ?_) (fun _ => ?_) | refine Do.dec run_leq (fun _ => ?_) (fun _ => ?_) | refine Do.dec run_geq (fun _ => ?_) (fun _ => ?_) | refine Do.dec run_eqi (fun _ => ?_) (fun _ => ?_) | refine Do.dec run_nei (fun _ => ?_) (fun _ => ?_) | refine Do.dec run_eqs (fun _ => ?_) (fun _ => ?_) | refine Do.dec run_nes (fun _ => ?_) (fun _ => ?_) | refine Do.ok run_pickT ?_ | refine Do.ok run_pickF ?_ | refine Do.ok run_notT ?_ | refine Do.ok run_notF ?_ | refine GuardK.tt ?_ | refine GuardK.ff ?_ | refine GuardK.tf ?_ | refine GuardK.ft ?_ | refine GuardK.un ?_ | refine If.t ?_ | refine If.f ?_ | refine Do.ok run_lenS ?_ | refine Do.ok run_lenStr ?_ | refine Do.ok run_nilp ?_ | refine Do.ok run_fld ?_ | refine Do.ok (run_ext rfl) ?_ | refine GuardT.tt ?_ | refine GuardT.ff ?_ | refine GuardT.tf ?_ | refine GuardT.ft ?_ | refine GuardT.un ?_ | refine Take.ok (fun _ _ => run_fld) ?_ | refine Take.ok (fun _ _ => run_pickT) ?_ | refine Take.ok (fun _ _ => run_pickF) ?_ | refine Take.ok (fun _ _ => run_notT) ?_ | refine Take.ok (fun _ _ => run_notF) ?_ | refine Take.dec (fun _ => run_lss) (fun _ => ?_) (fun _ => ?_) | refine Take.dec (fun _ => run_gtr) (fun _ => ?_) (fun _ => ?_) | refine Take.dec (fun _ => run_leq) (fun _ => ?_) (fun _ => ?_) | refine Take.dec (fun _ => run_eqi) (fun _ => ?_) (fun _ => ?_) | refine Take.dec (fun _ => run_nei) (fun _ => ?_) (fun _ => ?_) | refine Take.dec (fun _ => run_eqs) (fun _ => ?_) (fun _ => ?_)))
    exact ⟨rfl, H.toBelow⟩
  | true =>
    refine GuardK.tt (Do.ok run_fld (GuardK.tt (Do.ld H 0 (v := .int .i64 c.segment) rfl rfl (GuardK.tt ?_))))
    refine CallF.ret (f65.enters _ _) (within_ret _ _ _ _) ?_
    rintro _ _ ⟨rfl, rfl⟩
    cases h2 : withinB c.segment 128 1048576 with
    | false =>
      (repeat' (with_reducible first | refine Do.dec run_lss (fun _ => ?_) (fun _ => ?_) | refine Do.dec run_gtr (fun _ => ?_) (fun _ => ?_) | refine Do.dec run_leq (fun _ => ?_) (fun _ => ?_) | refine Do.dec run_geq (fun _ => ?_) (fun _ => ?_) | refine Do.dec run_eqi (fun _ => ?_) (fun _ => ?_) | refine Do.dec run_nei (fun _ => ?_) (fun _ => ?_) | refine Do.dec run_eqs (fun _ => ?_) (fun _ => ?_) | refine Do.dec run_nes (fun _ => ?_) (fun _ => ?_) | refine Do.ok run_pickT ?_ | refine Do.ok run_pickF ?_ | refine Do.ok run_notT ?_ | refine Do.ok run_notF ?_ | refine GuardK.tt ?_ | refine GuardK.ff ?_ | refine GuardK.tf ?_ | refine GuardK.ft ?_ | refine GuardK.un ?_ | refine If.t ?_ | refine If.f ?_ | refine Do.ok run_lenS ?_ | refine Do.ok run_lenStr ?_ | refine Do.ok run_nilp ?_ | refine Do.ok run_fld ?_ | refine Do.ok (run_ext rfl) ?_ | refine GuardT.tt ?_ | refine GuardT.ff ?_ | refine GuardT.tf ?_ | refine GuardT.ft ?_ | refine GuardT.un ?_ | refine Take.ok (fun _ _ => run_fld) ?_ | refine Take.ok (fun _ _ => run_pickT) ?_ | refine Take.ok (fun _ _ => run_pickF) ?_ | refine Take.ok (fun _ _ => run_notT) ?_ | refine Take.ok (fun _ _ => run_notF) ?_ | refine Take.dec (fun _ => run_lss) (fun _ => ?_) (fun _ => ?_) | refine Take.dec (fun _ => run_gtr) (fun _ => ?_) (fun _ => ?_) | refine Take.dec (fun _ => run_leq) (fun _ => ?_) (fun _ => ?_) | refine Take.dec (fun _ => run_eqi) (fun _ => ?_) (fun _ => ?_) | refine Take.dec (fun _ => run_nei) (fun _ => ?_) (fun _ => ?_) | refine Take.dec (fun _ => run_eqs) (fun _ => ?_) (fun _ => ?_)))
      exact ⟨rfl, H.toBelow⟩
    | true =>
      refine Do.ok run_pickT (GuardK.tt (Do.ok run_fld (GuardK.tt (Do.ld H 0 (v := .int .i64 c.quota) rfl rfl (GuardK.tt ?_)))))
      refine CallF.ret (f65.enters _ _) (within_ret _ _ _ _) ?_
      rintro _ _ ⟨rfl, rfl⟩
      cases h3 : withinB c.quota 1024 67108864 with
      | false =>
        (repeat' (with_reducible first | refine Do.dec run_lss (fun _ => ?_) (fun _ => ?_) | refine Do.dec run_gtr (fun _ => ?_) (fun _ => ?_) | refine Do.dec run_leq (fun _ => ?_) (fun _ => ?_) | refine Do.dec run_geq (fun _ => ?_) (fun _ => ?_) | refine Do.dec run_eqi (fun _ => ?_) (fun _ => ?_) | refine Do.dec run_nei (fun _ => ?_) (fun _ => ?_) | refine Do.dec run_eqs (fun _ => ?_) (fun _ => ?_) | refine Do.dec run_nes (fun _ => ?_) (fun _ => ?_) | refine Do.ok run_pickT ?_ | refine Do.ok run_pickF ?_ | refine Do.ok run_notT ?_ | refine Do.ok run_notF ?_ | refine GuardK.tt ?_ | refine GuardK.ff ?_ | refine GuardK.tf ?_ | refine GuardK.ft ?_ | refine GuardK.un ?_ | refine If.t ?_ | refine If.f ?_ | refine Do.ok run_lenS ?_ | refine Do.ok run_lenStr ?_ | refine Do.ok run_nilp ?_ | refine Do.ok run_fld ?_ | refine Do.ok (run_ext rfl) ?_ | refine GuardT.tt ?_ | refine GuardT.ff ?_ | refine GuardT.tf ?_ | refine GuardT.ft ?_ | refine GuardT.un ?_ | refine Take.ok (fun _ _ => run_fld) ?_ | refine Take.ok (fun _ _ => run_pickT) ?_ | refine Take.ok (fun _ _ => run_pickF) ?_ | refine Take.ok (fun _ _ => run_notT) ?_ | refine Take.ok (fun _ _ => run_notF) ?_ | refine Take.dec (fun _ => run_lss) (fun _ => ?_) (fun _ => ?_) | refine Take.dec (fun _ => run_gtr) (fun _ => ?_) (fun _ => ?_) | refine Take.dec (fun _ => run_leq) (fun _ => ?_) (fun _ => ?_) | refine Take.dec (fun _ => run_eqi) (fun _ => ?_) (fun _ => ?_) | refine Take.dec (fun _ => run_nei) (fun _ => ?_) (fun _ => ?_) | refine Take.dec (fun _ => run_eqs) (fun _ => ?_) (fun _ => ?_)))
        exact ⟨rfl, H.toBelow⟩
      | true =>
        simp only [withinB, Bool.and_eq_true, decide_eq_true_eq] at h2 h3
        refine Do.ok run_pickT (GuardK.tt (Do.ok run_fld (GuardK.tt (Do.ld H 0 (v := .int .i64 c.segment) rfl rfl (GuardK.tt (Do.ok (run_muli (a := 4) (b := c.segment) (by omega)) (GuardK.tt (Do.ok run_fld (GuardK.tt (Do.ld H 0 (v := .int .i64 c.quota) rfl rfl (GuardK.tt ?_)))))))))))
        refine Do.dec run_leq (fun h => ?_) (fun h => ?_)
        · (repeat' (with_reducible first | refine Do.dec run_lss (fun _ => ?_) (fun _ => ?_) | refine Do.dec run_gtr (fun _ => ?_) (fun _ => ?_) | refine Do.dec run_leq (fun _ => ?_) (fun _ => ?_) | refine Do.dec run_geq (fun _ => ?_) (fun _ => ?_) | refine Do.dec run_eqi (fun _ => ?_) (fun _ => ?_) | refine Do.dec run_nei (fun _ => ?_) (fun _ => ?_) | refine Do.dec run_eqs (fun _ => ?_) (fun _ => ?_) | refine Do.dec run_nes (fun _ => ?_) (fun _ => ?_) | refine Do.ok run_pickT ?_ | refine Do.ok run_pickF ?_ | refine Do.ok run_notT ?_ | refine Do.ok run_notF ?_ | refine GuardK.tt ?_ | refine GuardK.ff ?_ | refine GuardK.tf ?_ | refine GuardK.ft ?_ | refine GuardK.un ?_ | refine If.t ?_ | refine If.f ?_ | refine Do.ok run_lenS ?_ | refine Do.ok run_lenStr ?_ | refine Do.ok run_nilp ?_ | refine Do.ok run_fld ?_ | refine Do.ok (run_ext rfl) ?_ | refine GuardT.tt ?_ | refine GuardT.ff ?_ | refine GuardT.tf ?_ | refine GuardT.ft ?_ | refine GuardT.un ?_ | refine Take.ok (fun _ _ => run_fld) ?_ | refine Take.ok (fun _ _ => run_pickT) ?_ | refine Take.ok (fun _ _ => run_pickF) ?_ | refine Take.ok (fun _ _ => run_notT) ?_ | refine Take.ok (fun _ _ => run_notF) ?_ | refine Take.dec (fun _ => run_lss) (fun _ => ?_) (fun _ => ?_) | refine Take.dec (fun _ => run_gtr) (fun _ => ?_) (fun _ => ?_) | refine Take.dec (fun _ => run_leq) (fun _ => ?_) (fun _ => ?_) | refine Take.dec (fun _ => run_eqi) (fun _ => ?_) (fun _ => ?_) | refine Take.dec (fun _ => run_nei) (fun _ => ?_) (fun _ => ?_) | refine Take.dec (fun _ => run_eqs) (fun _ => ?_) (fun _ => ?_)))
          exact ⟨by rw [decide_eq_true h]; rfl, H.toBelow⟩
        · (repeat' (with_reducible first | refine Do.dec run_lss (fun _ => ?_) (fun _ => ?_) | refine Do.dec run_gtr (fun _ => ?_) (fun _ => ?_) | refine Do.dec run_leq (fun _ => ?_) (fun _ => ?_) | refine Do.dec run_geq (fun _ => ?_) (fun _ => ?_) | refine Do.dec run_eqi (fun _ => ?_) (fun _ => ?_) | refine Do.dec run_nei (fun _ => ?_) (fun _ => ?_) | refine Do.dec run_eqs (fun _ => ?_) (fun _ => ?_) | refine Do.dec run_nes (fun _ => ?_) (fun _ => ?_) | refine Do.ok run_pickT ?_ | refine Do.ok run_pickF ?_ | refine Do.ok run_notT ?_ | refine Do.ok run_notF ?_ | refine GuardK.tt ?_ | refine GuardK.ff ?_ | refine GuardK.tf ?_ | refine GuardK.ft ?_ | refine GuardK.un ?_ | refine If.t ?_ | refine If.f ?_ | refine Do.ok run_lenS ?_ | refine Do.ok run_lenStr ?_ | refine Do.ok run_nilp ?_ | refine Do.ok run_fld ?_ | refine Do.ok (run_ext rfl) ?_ | refine GuardT.tt ?_ | refine GuardT.ff ?_ | refine GuardT.tf ?_ | refine GuardT.ft ?_ | refine GuardT.un ?_ | refine Take.ok (fun _ _ => run_fld) ?_ | refine Take.ok (fun _ _ => run_pickT) ?_ | refine Take.ok (fun _ _ => run_pickF) ?_ | refine Take.ok (fun _ _ => run_notT) ?_ | refine Take.ok (fun _ _ => run_notF) ?_ | refine Take.dec (fun _ => run_lss) (fun _ => ?_) (fun _ => ?_) | refine Take.dec (fun _ => run_gtr) (fun _ => ?_) (fun _ => ?_) | refine Take.dec (fun _ => run_leq) (fun _ => ?_) (fun _ => ?_) | refine Take.dec (fun _ => run_eqi) (fun _ => ?_) (fun _ => ?_) | refine Take.dec (fun _ => run_nei) (fun _ => ?_) (fun _ => ?_) | refine Take.dec (fun _ => run_eqs) (fun _ => ?_) (fun _ => ?_)))
          exact ⟨by rw [decide_eq_false h]; rfl, H.toBelow⟩
end Go.Proofs.YtdnnamaimgijpaaDoor
