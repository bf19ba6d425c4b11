/- Contracts of the small functions of script. Conditions: none. -/
import Derived.Test.YtdnnamaimgijpaaDoorSxP
import Derived.Test.YtdnnamaimgijpaaDoorSxMem4
set_option linter.unusedVariables false
set_option maxRecDepth 10000
namespace Go.Proofs.YtdnnamaimgijpaaDoor
open Go Go.Sx Go.Proofs Go.Lib Go.RowKit

def wordV (k : Int) : ByteArray := if k = 1 then ⟨#[111, 112, 101, 110]⟩ else if k = 2 then ⟨#[102, 101, 101, 100]⟩ else if k = 3 then ⟨#[104, 97, 110, 103]⟩ else if k = 4 then ⟨#[116, 105, 99, 107]⟩
  else if k = 5 then ⟨#[100, 114, 97, 105, 110]⟩ else if k = 6 then ⟨#[99, 114, 97, 115, 104]⟩ else if k = 7 then ⟨#[115, 116, 97, 114, 116]⟩ else ⟨#[]⟩
theorem word_ret (k : Int) (w : World) : Ret P 69 #[.int .i64 k] w (fun v w' => v = .string (wordV k) ∧ w' = w) := by
  refine f69.calls ?_
  unfold f69.f
  repeat (refine Do.dec run_eqi (fun h => If.t ⟨by simp only [wordV]; simp only [h]; rfl, rfl⟩) (fun h => If.f ?_))
  refine ⟨?_, rfl⟩
  simp only [wordV]
  simp only [*, if_false]
def hasConnB (k : Int) : Bool := decide (k = 1 ∨ k = 2 ∨ k = 3)
def hasBreakB (k : Int) : Bool := decide (k = 2 ∨ k = 3 ∨ k = 4 ∨ k = 7)
def hasKeepB (k : Int) : Bool := decide (k = 6) || hasBreakB k
theorem hasConn_ret (k : Int) (w : World) : Ret P 55 #[.int .i64 k] w (fun v w' => v = .bool (hasConnB k) ∧ w' = w) := by
  refine f55.calls ?_
  unfold f55.f
  (repeat' (with_reducible first | refine Do.dec run_lss (fun _ => ?_) (fun _ => ?_) | refine Do.dec run_gtr (fun _ => ?_) (fun _ => ?_) | refine Do.dec run_leq (fun _ => ?_) (fun _ => ?_) | refine Do.dec run_geq (fun _ => ?_) (fun _ => ?_) | refine Do.dec run_eqi (fun _ => ?_) (fun _ => ?_) | refine Do.dec run_nei (fun _ => ?_) (fun _ => ?_) | refine Do.dec run_eqs (fun _ => ?_) (fun _ => ?_) | refine Do.dec run_nes (fun _ => ?_) (fun _ => ?_) | refine Do.ok run_pickT ?_ | refine Do.ok run_pickF ?_ | refine Do.ok run_notT ?_ | refine Do.ok run_notF ?_ | refine GuardK.tt ?_ | refine GuardK.ff ?_ | refine GuardK.tf ?_ | refine GuardK.ft ?_ | refine GuardK.un ?_ | refine If.t ?_ | refine If.f ?_ | refine Do.ok run_lenS ?_ | refine Do.ok run_lenStr ?_ | refine Do.ok run_nilp ?_ | refine Do.ok run_fld ?_ | refine Do.ok (run_ext rfl) ?_ | refine GuardT.tt ?_ | refine GuardT.ff ?_ | refine GuardT.tf ?_ | refine GuardT.ft ?_ | refine GuardT.un ?_ | refine Take.ok (fun _ _ => run_fld) ?_ | refine Take.ok (fun _ _ => run_pickT) ?_ | refine Take.ok (fun _ _ => run_pickF) ?_ | refine Take.ok (fun _ _ => run_notT) ?_ | refine Take.ok (fun _ _ => run_notF) ?_ | refine Take.dec (fun _ => run_lss) (fun _ => ?_) (fun _ => ?_) | refine Take.dec (fun _ => run_gtr) (fun _ => ?_) (fun _ => ?_) | refine Take.dec (fun _ => run_leq) (fun _ => ?_) (fun _ => ?_) | refine Take.dec (fun _ => run_eqi) (fun _ => ?_) (fun _ => ?_) | refine Take.dec (fun _ => run_nei) (fun _ => ?_) (fun _ => ?_) | refine Take.dec (fun _ => run_eqs) (fun _ => ?_) (fun _ => ?_)))
  all_goals (refine ⟨?_, rfl⟩; congr 1; simp only [hasConnB]; simp [*])
theorem hasBreak_ret (k : Int) (w : World) : Ret P 58 #[.int .i64 k] w (fun v w' => v = .bool (hasBreakB k) ∧ w' = w) := by
  refine f58.calls ?_
  unfold f58.f
  (repeat' (with_reducible first | refine Do.dec run_lss (fun _ => ?_) (fun _ => ?_) | refine Do.dec run_gtr (fun _ => ?_) (fun _ => ?_) | refine Do.dec run_leq (fun _ => ?_) (fun _ => ?_) | refine Do.dec run_geq (fun _ => ?_) (fun _ => ?_) | refine Do.dec run_eqi (fun _ => ?_) (fun _ => ?_) | refine Do.dec run_nei (fun _ => ?_) (fun _ => ?_) | refine Do.dec run_eqs (fun _ => ?_) (fun _ => ?_) | refine Do.dec run_nes (fun _ => ?_) (fun _ => ?_) | refine Do.ok run_pickT ?_ | refine Do.ok run_pickF ?_ | refine Do.ok run_notT ?_ | refine Do.ok run_notF ?_ | refine GuardK.tt ?_ | refine GuardK.ff ?_ | refine GuardK.tf ?_ | refine GuardK.ft ?_ | refine GuardK.un ?_ | refine If.t ?_ | refine If.f ?_ | refine Do.ok run_lenS ?_ | refine Do.ok run_lenStr ?_ | refine Do.ok run_nilp ?_ | refine Do.ok run_fld ?_ | refine Do.ok (run_ext rfl) ?_ | refine GuardT.tt ?_ | refine GuardT.ff ?_ | refine GuardT.tf ?_ | refine GuardT.ft ?_ | refine GuardT.un ?_ | refine Take.ok (fun _ _ => run_fld) ?_ | refine Take.ok (fun _ _ => run_pickT) ?_ | refine Take.ok (fun _ _ => run_pickF) ?_ | refine Take.ok (fun _ _ => run_notT) ?_ | refine Take.ok (fun _ _ => run_notF) ?_ | refine Take.dec (fun _ => run_lss) (fun _ => ?_) (fun _ => ?_) | refine Take.dec (fun _ => run_gtr) (fun _ => ?_) (fun _ => ?_) | refine Take.dec (fun _ => run_leq) (fun _ => ?_) (fun _ => ?_) | refine Take.dec (fun _ => run_eqi) (fun _ => ?_) (fun _ => ?_) | refine Take.dec (fun _ => run_nei) (fun _ => ?_) (fun _ => ?_) | refine Take.dec (fun _ => run_eqs) (fun _ => ?_) (fun _ => ?_)))
  all_goals (refine ⟨?_, rfl⟩; congr 1; simp only [hasBreakB]; simp [*])
theorem hasKeep_ret (k : Int) (w : World) : Ret P 70 #[.int .i64 k] w (fun v w' => v = .bool (hasKeepB k) ∧ w' = w) := by
  refine f70.calls ?_
  unfold f70.f
  refine Do.dec run_eqi (fun h => ?_) (fun h => ?_)
  · (repeat' (with_reducible first | refine Do.dec run_lss (fun _ => ?_) (fun _ => ?_) | refine Do.dec run_gtr (fun _ => ?_) (fun _ => ?_) | refine Do.dec run_leq (fun _ => ?_) (fun _ => ?_) | refine Do.dec run_geq (fun _ => ?_) (fun _ => ?_) | refine Do.dec run_eqi (fun _ => ?_) (fun _ => ?_) | refine Do.dec run_nei (fun _ => ?_) (fun _ => ?_) | refine Do.dec run_eqs (fun _ => ?_) (fun _ => ?_) | refine Do.dec run_nes (fun _ => ?_) (fun _ => ?_) | refine Do.ok run_pickT ?_ | refine Do.ok run_pickF ?_ | refine Do.ok run_notT ?_ | refine Do.ok run_notF ?_ | refine GuardK.tt ?_ | refine GuardK.ff ?_ | refine GuardK.tf ?_ | refine GuardK.ft ?_ | refine GuardK.un ?_ | refine If.t ?_ | refine If.f ?_ | refine Do.ok run_lenS ?_ | refine Do.ok run_lenStr ?_ | refine Do.ok run_nilp ?_ | refine Do.ok run_fld ?_ | refine Do.ok (run_ext rfl) ?_ | refine GuardT.tt ?_ | refine GuardT.ff ?_ | refine GuardT.tf ?_ | refine GuardT.ft ?_ | refine GuardT.un ?_ | refine Take.ok (fun _ _ => run_fld) ?_ | refine Take.ok (fun _ _ => run_pickT) ?_ | refine Take.ok (fun _ _ => run_pickF) ?_ | refine Take.ok (fun _ _ => run_notT) ?_ | refine Take.ok (fun _ _ => run_notF) ?_ | refine Take.dec (fun _ => run_lss) (fun _ => ?_) (fun _ => ?_) | refine Take.dec (fun _ => run_gtr) (fun _ => ?_) (fun _ => ?_) | refine Take.dec (fun _ => run_leq) (fun _ => ?_) (fun _ => ?_) | refine Take.dec (fun _ => run_eqi) (fun _ => ?_) (fun _ => ?_) | refine Take.dec (fun _ => run_nei) (fun _ => ?_) (fun _ => ?_) | refine Take.dec (fun _ => run_eqs) (fun _ => ?_) (fun _ => ?_)))
    exact ⟨by rw [hasKeepB, decide_eq_true h]; rfl, rfl⟩
  · refine GuardK.ff (GuardK.ff ?_)
    refine CallF.ret (f58.enters _ _) (hasBreak_ret k w) ?_
    rintro _ _ ⟨rfl, rfl⟩
    refine Do.ok run_pickF ⟨by rw [hasKeepB, decide_eq_false h]; rfl, rfl⟩
def withinB (n a b : Int) : Bool := decide (a ≤ n) && decide (n ≤ b)
theorem within_ret (n a b : Int) (w : World) : Ret P 65 #[.int .i64 n, .int .i64 a, .int .i64 b] w (fun v w' => v = .bool (withinB n a b) ∧ w' = w) := by
  refine f65.calls ?_
  unfold f65.f
  refine Do.dec run_geq (fun h => ?_) (fun h => ?_)
  · refine GuardK.tt (GuardK.tt (GuardK.tt (Do.ok run_leq (Do.ok run_pickT ⟨by rw [withinB, decide_eq_true h]; rfl, rfl⟩))))
  · refine GuardK.ft (GuardK.ft (GuardK.ft (Do.ok run_pickF ⟨by rw [withinB, decide_eq_false h]; rfl, rfl⟩)))
end Go.Proofs.YtdnnamaimgijpaaDoor
