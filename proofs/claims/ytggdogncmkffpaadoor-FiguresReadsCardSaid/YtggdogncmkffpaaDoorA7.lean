/- Contracts: what the closures of Job and Tube lay down; Job, Tube. Conditions: none. -/
import Derived.Test.YtggdogncmkffpaaDoorA6
set_option linter.unusedVariables false
set_option maxRecDepth 100000
namespace Go.Proofs.YtggdogncmkffpaaDoor
open Go Go.Sx Go.Proofs Go.Lib Go.RowKit

theorem lessV_i64 (a b : Int) : i64 (lessV a b) := by
  unfold lessV i64
  split
  · rw [IntKind.wrap_i64]; omega
  · omega
structure SumsD where
  ready : Int
  delayed : Int
  reserved : Int
  buried : Int
  urgent : Int
def SumsD.cells (s : SumsD) : List Value := [.int .i64 s.ready, .int .i64 s.delayed, .int .i64 s.reserved, .int .i64 s.buried, .int .i64 s.urgent]
structure SumsD.ok (s : SumsD) : Prop where
  h0 : i64 s.ready
  h1 : i64 s.delayed
  h2 : i64 s.reserved
  h3 : i64 s.buried
  h4 : i64 s.urgent
def K_urgent : ByteArray := ⟨#[99, 117, 114, 114, 101, 110, 116, 45, 106, 111, 98, 115, 45, 117, 114, 103, 101, 110, 116]⟩
def K_ready : ByteArray := ⟨#[99, 117, 114, 114, 101, 110, 116, 45, 106, 111, 98, 115, 45, 114, 101, 97, 100, 121]⟩
def K_reserved : ByteArray := ⟨#[99, 117, 114, 114, 101, 110, 116, 45, 106, 111, 98, 115, 45, 114, 101, 115, 101, 114, 118, 101, 100]⟩
def K_delayed : ByteArray := ⟨#[99, 117, 114, 114, 101, 110, 116, 45, 106, 111, 98, 115, 45, 100, 101, 108, 97, 121, 101, 100]⟩
def K_buried : ByteArray := ⟨#[99, 117, 114, 114, 101, 110, 116, 45, 106, 111, 98, 115, 45, 98, 117, 114, 105, 101, 100]⟩
def sumsPairs (s : SumsD) : List Pr := [(K_urgent, dec s.urgent), (K_ready, dec s.ready), (K_reserved, dec s.reserved), (K_delayed, dec s.delayed), (K_buried, dec s.buried)]
theorem sums_ret {w0 w : World} {b3 b4 : Nat} {ps : List Pr} {L : List (Nat × Obj)} (ht : Tab w0) (hst : St w0 w b3 b4 ps L) (hn : ps.length ≤ 400) (s : SumsD) (hs : s.ok) :
    Ret P 16 #[.agg s.cells.toArray, numV b4] w (fun _ w' => St w0 w' b3 b4 (ps ++ sumsPairs s) L) := by
  obtain ⟨h0, h1, h2, h3, h4⟩ := hs
  refine f16.calls ?_
  unfold f16.f
  rw [show s.cells.toArray = #[.int .i64 s.ready, .int .i64 s.delayed, .int .i64 s.reserved, .int .i64 s.buried, .int .i64 s.urgent] from rfl]
  refine Do.ok (v := .pointer (some ⟨w.heap.size, 0, none⟩)) (w' := w.alloc (.cells #[.int .i64 s.ready, .int .i64 s.delayed, .int .i64 s.reserved, .int .i64 s.buried, .int .i64 s.urgent] 28)) rfl ?_
  have hst := hst.push (.cells #[.int .i64 s.ready, .int .i64 s.delayed, .int .i64 s.reserved, .int .i64 s.buried, .int .i64 s.urgent] 28)
  have H := hst.all
  generalize w.alloc (.cells #[.int .i64 s.ready, .int .i64 s.delayed, .int .i64 s.reserved, .int .i64 s.buried, .int .i64 s.urgent] 28) = w1 at hst H ⊢
  generalize w.heap.size = b at hst H ⊢
  repeat first
    | refine Do.ok run_fld ?_
    | refine Do.ld H 0 rfl rfl ?_
    | (refine numK ht hst (by first | omega | (simp; omega)) (by assumption) ?_; intro _ w1 hst; have H := hst.all)
  have e : ps ++ sumsPairs s = ps ++ [(K_urgent, dec s.urgent)] ++ [(K_ready, dec s.ready)] ++ [(K_reserved, dec s.reserved)] ++ [(K_delayed, dec s.delayed)] ++ [(K_buried, dec s.buried)] := by simp [sumsPairs]
  rw [e]
  exact hst.pop
end Go.Proofs.YtggdogncmkffpaaDoor
