/- Contract: script.number. Conditions: none. -/
import Derived.Test.YtdnnamaimgijpaaDoorS4
set_option linter.unusedVariables false
set_option maxRecDepth 10000
namespace Go.Proofs.YtdnnamaimgijpaaDoor
open Go Go.Sx Go.Proofs Go.Lib Go.RowKit

def numV (s : ByteArray) : Option Int := parseV 4611686018427387903 s.data.toList
theorem number_try (s : ByteArray) (w : World) : Try 56 #[.string s] w (fun v w' => ∃ n, numV s = some n ∧ v = .int .i64 n ∧ Below w.heap.size w w') (fun c w' => c = 192 ∧ numV s = none ∧ Below w.heap.size w w') := by
  refine f56.calls ?_
  unfold f56.f
  refine CallF.ret (f81.enters _ _) (parse_ret s 4611686018427387903 (by omega) (by omega) w) ?_
  rintro _ w1 ⟨rfl, hb⟩
  cases h : parseV 4611686018427387903 s.data.toList with
  | none =>
    refine Do.ok (run_ext rfl) (Do.ok (run_ext rfl) (Do.ok run_notF (If.t ?_)))
    exact CallF.fail ⟨192, rfl, rfl, h, hb⟩
  | some n =>
    refine Do.ok (run_ext rfl) (Do.ok (run_ext rfl) (Do.ok run_notT (If.f ?_)))
    exact ⟨n, h, rfl, hb⟩
end Go.Proofs.YtdnnamaimgijpaaDoor
