/- Contracts: what the closure of Tube lays down. Conditions: none. -/
import Derived.Test.YtggdogncmkffpaaDoorA8
set_option linter.unusedVariables false
set_option maxRecDepth 100000
namespace Go.Proofs.YtggdogncmkffpaaDoor
open Go Go.Sx Go.Proofs Go.Lib Go.RowKit

structure TubeD where
  name : ByteArray
  sums : SumsD
  inUse : Int
  watching : Int
  waiting : Int
  total : Int
  deletes : Int
  pauses : Int
  pause : Int
  until_ : Int
structure TubeD.ok (t : TubeD) : Prop where
  name : t.name.size ≤ 9223372036854775807
  sums : t.sums.ok
  inUse : i64 t.inUse
  watching : i64 t.watching
  waiting : i64 t.waiting
  total : i64 t.total
  deletes : i64 t.deletes
  pauses : i64 t.pauses
  pause : i64 t.pause
  until_ : i64 t.until_
def tubeLeft (t : TubeD) (now : Int) : Int := if t.pause ≠ 0 then lessV t.until_ now else 0
theorem tubeLeft_i64 (t : TubeD) (now : Int) : i64 (tubeLeft t now) := by
  unfold tubeLeft
  split
  · exact lessV_i64 _ _
  · unfold i64; omega
abbrev TubeD.cells (t : TubeD) : Array Value := #[.string t.name, .int .i64 t.sums.ready, .int .i64 t.sums.delayed, .int .i64 t.sums.reserved, .int .i64 t.sums.buried, .int .i64 t.sums.urgent, .int .i64 t.inUse, .int .i64 t.watching, .int .i64 t.waiting, .int .i64 t.total, .int .i64 t.deletes, .int .i64 t.pauses, .int .i64 t.pause, .int .i64 t.until_]
def tubePairs (t : TubeD) (now : Int) : List Pr := [(⟨#[110, 97, 109, 101]⟩, t.name)] ++ sumsPairs t.sums ++ [(⟨#[116, 111, 116, 97, 108, 45, 106, 111, 98, 115]⟩, dec (t.total)), (⟨#[99, 117, 114, 114, 101, 110, 116, 45, 117, 115, 105, 110, 103]⟩, dec (t.inUse)), (⟨#[99, 117, 114, 114, 101, 110, 116, 45, 119, 97, 105, 116, 105, 110, 103]⟩, dec (t.waiting)), (⟨#[99, 117, 114, 114, 101, 110, 116, 45, 119, 97, 116, 99, 104, 105, 110, 103]⟩, dec (t.watching)), (⟨#[112, 97, 117, 115, 101]⟩, dec (t.pause)), (⟨#[99, 109, 100, 45, 100, 101, 108, 101, 116, 101]⟩, dec (t.deletes)), (⟨#[99, 109, 100, 45, 112, 97, 117, 115, 101, 45, 116, 117, 98, 101]⟩, dec (t.pauses)), (⟨#[112, 97, 117, 115, 101, 45, 116, 105, 109, 101, 45, 108, 101, 102, 116]⟩, dec (tubeLeft t now))]
theorem tubePairs_eq (t : TubeD) (now : Int) : tubePairs t now = [] ++ [(⟨#[110, 97, 109, 101]⟩, t.name)] ++ sumsPairs t.sums ++ [(⟨#[116, 111, 116, 97, 108, 45, 106, 111, 98, 115]⟩, dec (t.total))] ++ [(⟨#[99, 117, 114, 114, 101, 110, 116, 45, 117, 115, 105, 110, 103]⟩, dec (t.inUse))] ++ [(⟨#[99, 117, 114, 114, 101, 110, 116, 45, 119, 97, 105, 116, 105, 110, 103]⟩, dec (t.waiting))] ++ [(⟨#[99, 117, 114, 114, 101, 110, 116, 45, 119, 97, 116, 99, 104, 105, 110, 103]⟩, dec (t.watching))] ++ [(⟨#[112, 97, 117, 115, 101]⟩, dec (t.pause))] ++ [(⟨#[99, 109, 100, 45, 100, 101, 108, 101, 116, 101]⟩, dec (t.deletes))] ++ [(⟨#[99, 109, 100, 45, 112, 97, 117, 115, 101, 45, 116, 117, 98, 101]⟩, dec (t.pauses))] ++ [(⟨#[112, 97, 117, 115, 101, 45, 116, 105, 109, 101, 45, 108, 101, 102, 116]⟩, dec (tubeLeft t now))] := by simp [tubePairs]
theorem tube_lays {w0 : World} (ht : Tab w0) {t : TubeD} (hj : t.ok) {now : Int} (hw : i64 now) {bj bn : Nat} (b1 : w0.heap[bj]? = some (.cells t.cells 30 (0, 0)))
    (b2 : w0.heap[bn]? = some (.cells #[.int .i64 now] 3 (0, 0))) :
    Lays w0 15 #[.pointer (some ⟨bj, 0, none⟩), .pointer (some ⟨bn, 0, none⟩)] (tubePairs t now) := by
  obtain ⟨hn, hsum, h0, h1, h2, h3, h4, h5, h6, h7⟩ := hj
  intro w p3 p4 hst
  show Ret P 15 #[textV p3, numV p4, .pointer (some ⟨bj, 0, none⟩), .pointer (some ⟨bn, 0, none⟩)] w _
  refine f15.calls ?_
  unfold f15.f
  have H := hst.all
  refine ⟨fun x w' => x = .int .i64 (tubeLeft t now) ∧ St w0 w' p3 p4 [] [], ?_, ?_⟩
  · rintro σ w ⟨hx, hst⟩
    have H := hst.all
    rw [hx]
    unfold f15.j0
    have hjl := tubeLeft_i64 t now
    repeat first
      | refine Do.ok run_fld ?_
      | refine Do.ok (run_loadBase H b1 rfl) ?_
      | refine Do.ok (run_loadBase H b2 rfl) ?_
      | (refine CallF.ret (f13.enters _ _) (less_ret _ _ _) ?_; rintro _ _ ⟨rfl, rfl⟩)
      | (refine numK ht hst (by first | omega | (simp [sumsPairs]; done) | (simp [sumsPairs]; omega)) (by assumption) ?_; intro _ w hst; have H := hst.all)
      | (refine textK hst (by first | omega | (simp [sumsPairs]; done) | (simp [sumsPairs]; omega)) ?_; intro _ w hst; have H := hst.all)
    refine Do.ok (run_loadBaseN H b1 (by simp)) ?_
    rw [show t.cells.extract (0 + 1) (0 + 1 + 5) = t.sums.cells.toArray from rfl]
    refine CallF.ret (f16.enters _ _) (sums_ret ht hst (by simp) t.sums hsum) ?_
    intro _ w hst
    have H := hst.all
    repeat first
      | refine Do.ok run_fld ?_
      | refine Do.ok (run_loadBase H b1 rfl) ?_
      | refine Do.ok (run_loadBase H b2 rfl) ?_
      | (refine CallF.ret (f13.enters _ _) (less_ret _ _ _) ?_; rintro _ _ ⟨rfl, rfl⟩)
      | (refine numK ht hst (by first | omega | (simp [sumsPairs]; done) | (simp [sumsPairs]; omega)) (by assumption) ?_; intro _ w hst; have H := hst.all)
      | (refine textK hst (by first | omega | (simp [sumsPairs]; done) | (simp [sumsPairs]; omega)) ?_; intro _ w hst; have H := hst.all)
    rw [tubePairs_eq]
    exact hst
  · refine Do.ok run_fld (Do.ok (run_loadBase H b1 rfl) ?_)
    refine Do.dec run_nei (fun h => If.t ?_) (fun h => If.f ?_)
    · refine Do.ok run_fld (Do.ok (run_loadBase H b1 rfl) (Do.ok (run_loadBase H b2 rfl) ?_))
      refine CallF.ret (f13.enters _ _) (less_ret _ _ _) ?_
      rintro _ _ ⟨rfl, rfl⟩
      exact ⟨by rw [tubeLeft, if_pos h], hst⟩
    · exact ⟨by rw [tubeLeft, if_neg h], hst⟩
end Go.Proofs.YtggdogncmkffpaaDoor
