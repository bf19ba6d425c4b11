/- Contracts: what the closure of Shop lays down. Conditions: none. -/
import Derived.Test.YtggdogncmkffpaaDoorA9
set_option linter.unusedVariables false
set_option maxRecDepth 100000
namespace Go.Proofs.YtggdogncmkffpaaDoor
open Go Go.Sx Go.Proofs Go.Lib Go.RowKit

structure ShopD where
  now : Int
  start : Int
  timeouts : Int
  total : Int
  opened : Int
  tubes : Int
  seats : Int
  producers : Int
  workers : Int
  waiting : Int
  jobMax : Int
  oldest : Int
  newest : Int
  moved : Int
  written : Int
  room : Int
  segment : Int
  sums : SumsD
  done_ : Nat → Int
  draining : Bool
structure ShopD.ok (s : ShopD) : Prop where
  now : i64 s.now
  start : i64 s.start
  timeouts : i64 s.timeouts
  total : i64 s.total
  opened : i64 s.opened
  tubes : i64 s.tubes
  seats : i64 s.seats
  producers : i64 s.producers
  workers : i64 s.workers
  waiting : i64 s.waiting
  jobMax : i64 s.jobMax
  oldest : i64 s.oldest
  newest : i64 s.newest
  moved : i64 s.moved
  written : i64 s.written
  room : i64 s.room
  segment : i64 s.segment
  sums : s.sums.ok
  done_ : ∀ k, i64 (s.done_ k)
abbrev ShopD.cells (s : ShopD) : Array Value := #[.int .i64 s.now, .int .i64 s.start, .int .i64 s.sums.ready, .int .i64 s.sums.delayed, .int .i64 s.sums.reserved, .int .i64 s.sums.buried, .int .i64 s.sums.urgent, .int .i64 (s.done_ 0), .int .i64 (s.done_ 1), .int .i64 (s.done_ 2), .int .i64 (s.done_ 3), .int .i64 (s.done_ 4), .int .i64 (s.done_ 5), .int .i64 (s.done_ 6), .int .i64 (s.done_ 7), .int .i64 (s.done_ 8), .int .i64 (s.done_ 9), .int .i64 (s.done_ 10), .int .i64 (s.done_ 11), .int .i64 (s.done_ 12), .int .i64 (s.done_ 13), .int .i64 (s.done_ 14), .int .i64 (s.done_ 15), .int .i64 (s.done_ 16), .int .i64 (s.done_ 17), .int .i64 (s.done_ 18), .int .i64 (s.done_ 19), .int .i64 (s.done_ 20), .int .i64 (s.done_ 21), .int .i64 (s.done_ 22), .int .i64 (s.done_ 23), .int .i64 (s.done_ 24), .int .i64 (s.done_ 25), .int .i64 s.timeouts, .int .i64 s.total, .int .i64 s.opened, .int .i64 s.tubes, .int .i64 s.seats, .int .i64 s.producers, .int .i64 s.workers, .int .i64 s.waiting, .int .i64 s.jobMax, .int .i64 s.oldest, .int .i64 s.newest, .int .i64 s.moved, .int .i64 s.written, .int .i64 s.room, .int .i64 s.segment, .bool s.draining]
def cmdKey (k : Nat) : ByteArray := ⟨#[99, 109, 100, 45]⟩ ++ verbOf k
def cmdPairs (s : ShopD) (n : Nat) : List Pr := (List.range n).map fun k => (cmdKey (k + 1), dec (s.done_ (k + 1)))
def lastPair (s : ShopD) : Pr := if s.draining then (⟨#[100, 114, 97, 105, 110, 105, 110, 103]⟩, ⟨#[116, 114, 117, 101]⟩) else (⟨#[100, 114, 97, 105, 110, 105, 110, 103]⟩, ⟨#[102, 97, 108, 115, 101]⟩)
def shopPairs (s : ShopD) : List Pr := sumsPairs s.sums ++ cmdPairs s 24 ++ [(⟨#[106, 111, 98, 45, 116, 105, 109, 101, 111, 117, 116, 115]⟩, dec (s.timeouts)), (⟨#[116, 111, 116, 97, 108, 45, 106, 111, 98, 115]⟩, dec (s.total)), (⟨#[109, 97, 120, 45, 106, 111, 98, 45, 115, 105, 122, 101]⟩, dec (s.jobMax)), (⟨#[99, 117, 114, 114, 101, 110, 116, 45, 116, 117, 98, 101, 115]⟩, dec (s.tubes)), (⟨#[99, 117, 114, 114, 101, 110, 116, 45, 99, 111, 110, 110, 101, 99, 116, 105, 111, 110, 115]⟩, dec (s.seats)), (⟨#[99, 117, 114, 114, 101, 110, 116, 45, 112, 114, 111, 100, 117, 99, 101, 114, 115]⟩, dec (s.producers)), (⟨#[99, 117, 114, 114, 101, 110, 116, 45, 119, 111, 114, 107, 101, 114, 115]⟩, dec (s.workers)), (⟨#[99, 117, 114, 114, 101, 110, 116, 45, 119, 97, 105, 116, 105, 110, 103]⟩, dec (s.waiting)), (⟨#[116, 111, 116, 97, 108, 45, 99, 111, 110, 110, 101, 99, 116, 105, 111, 110, 115]⟩, dec (s.opened)), (⟨#[117, 112, 116, 105, 109, 101]⟩, dec (lessV s.now s.start)), (⟨#[98, 105, 110, 108, 111, 103, 45, 111, 108, 100, 101, 115, 116, 45, 105, 110, 100, 101, 120]⟩, dec (s.oldest)), (⟨#[98, 105, 110, 108, 111, 103, 45, 99, 117, 114, 114, 101, 110, 116, 45, 105, 110, 100, 101, 120]⟩, dec (s.newest)), (⟨#[98, 105, 110, 108, 111, 103, 45, 114, 101, 99, 111, 114, 100, 115, 45, 109, 105, 103, 114, 97, 116, 101, 100]⟩, dec (s.moved)), (⟨#[98, 105, 110, 108, 111, 103, 45, 114, 101, 99, 111, 114, 100, 115, 45, 119, 114, 105, 116, 116, 101, 110]⟩, dec (s.written)), (⟨#[98, 105, 110, 108, 111, 103, 45, 109, 97, 120, 45, 115, 105, 122, 101]⟩, dec (s.segment))] ++ [lastPair s]
theorem shopPairs_eq (s : ShopD) : shopPairs s = [] ++ sumsPairs s.sums ++ cmdPairs s 24 ++ [(⟨#[106, 111, 98, 45, 116, 105, 109, 101, 111, 117, 116, 115]⟩, dec (s.timeouts))] ++ [(⟨#[116, 111, 116, 97, 108, 45, 106, 111, 98, 115]⟩, dec (s.total))] ++ [(⟨#[109, 97, 120, 45, 106, 111, 98, 45, 115, 105, 122, 101]⟩, dec (s.jobMax))] ++ [(⟨#[99, 117, 114, 114, 101, 110, 116, 45, 116, 117, 98, 101, 115]⟩, dec (s.tubes))] ++ [(⟨#[99, 117, 114, 114, 101, 110, 116, 45, 99, 111, 110, 110, 101, 99, 116, 105, 111, 110, 115]⟩, dec (s.seats))] ++ [(⟨#[99, 117, 114, 114, 101, 110, 116, 45, 112, 114, 111, 100, 117, 99, 101, 114, 115]⟩, dec (s.producers))] ++ [(⟨#[99, 117, 114, 114, 101, 110, 116, 45, 119, 111, 114, 107, 101, 114, 115]⟩, dec (s.workers))] ++ [(⟨#[99, 117, 114, 114, 101, 110, 116, 45, 119, 97, 105, 116, 105, 110, 103]⟩, dec (s.waiting))] ++ [(⟨#[116, 111, 116, 97, 108, 45, 99, 111, 110, 110, 101, 99, 116, 105, 111, 110, 115]⟩, dec (s.opened))] ++ [(⟨#[117, 112, 116, 105, 109, 101]⟩, dec (lessV s.now s.start))] ++ [(⟨#[98, 105, 110, 108, 111, 103, 45, 111, 108, 100, 101, 115, 116, 45, 105, 110, 100, 101, 120]⟩, dec (s.oldest))] ++ [(⟨#[98, 105, 110, 108, 111, 103, 45, 99, 117, 114, 114, 101, 110, 116, 45, 105, 110, 100, 101, 120]⟩, dec (s.newest))] ++ [(⟨#[98, 105, 110, 108, 111, 103, 45, 114, 101, 99, 111, 114, 100, 115, 45, 109, 105, 103, 114, 97, 116, 101, 100]⟩, dec (s.moved))] ++ [(⟨#[98, 105, 110, 108, 111, 103, 45, 114, 101, 99, 111, 114, 100, 115, 45, 119, 114, 105, 116, 116, 101, 110]⟩, dec (s.written))] ++ [(⟨#[98, 105, 110, 108, 111, 103, 45, 109, 97, 120, 45, 115, 105, 122, 101]⟩, dec (s.segment))] ++ [lastPair s] := by simp [shopPairs]
theorem cmdPairs_succ (s : ShopD) (n : Nat) : cmdPairs s (n + 1) = cmdPairs s n ++ [(cmdKey (n + 1), dec (s.done_ (n + 1)))] := by simp [cmdPairs, List.range_succ]
theorem done_cell (s : ShopD) (k : Nat) (h : k < 26) : s.cells[7 + k]? = some (.int .i64 (s.done_ k)) := by
  have : k = 0 ∨ k = 1 ∨ k = 2 ∨ k = 3 ∨ k = 4 ∨ k = 5 ∨ k = 6 ∨ k = 7 ∨ k = 8 ∨ k = 9 ∨ k = 10 ∨ k = 11 ∨ k = 12 ∨ k = 13 ∨ k = 14 ∨ k = 15 ∨ k = 16 ∨ k = 17 ∨ k = 18 ∨ k = 19 ∨ k = 20 ∨ k = 21 ∨ k = 22 ∨ k = 23 ∨ k = 24 ∨ k = 25 := by omega
  rcases this with rfl | rfl | rfl | rfl | rfl | rfl | rfl | rfl | rfl | rfl | rfl | rfl | rfl | rfl | rfl | rfl | rfl | rfl | rfl | rfl | rfl | rfl | rfl | rfl | rfl | rfl <;> rfl
theorem run_idxA {t e n : Nat} [u : Und P t (.array n e)] {agg : Bool} {sz : Nat} {z : Value} {by_ : Nat} [ty : Ty P e agg sz z by_] {b o : Nat} {i : Int} {w : World} (h0 : 0 ≤ i) (h1 : i < n) :
    (Instr.indexAt t (.pointer (some ⟨b, o, none⟩)) (.int .i64 i)).run P w = .ok (.pointer (some ⟨b, o + i.toNat * sz, none⟩)) w := by
  simp only [Instr.indexAt, asIntOf, Sem.run_bind, Sem.run_pure, Result.andThen, run_und, Instr.sureAddr]
  rw [if_pos ⟨h0, h1⟩]
  simp only [Sem.run_bind, ty.size, Result.andThen, Sem.run_pure, add_blk]
theorem shop_lays {w0 : World} (ht : Tab w0) {s : ShopD} (hj : s.ok) {bj : Nat} (b1 : w0.heap[bj]? = some (.cells s.cells 33 (0, 0))) :
    Lays w0 17 #[.pointer (some ⟨bj, 0, none⟩)] (shopPairs s) := by
  obtain ⟨h0, h1, h2, h3, h4, h5, h6, h7, h8, h9, h10, h11, h12, h13, h14, h15, h16, hsum, hd⟩ := hj
  have b2 := b1
  intro w p3 p4 hst
  show Ret P 17 #[textV p3, numV p4, .pointer (some ⟨bj, 0, none⟩)] w _
  refine f17.calls ?_
  unfold f17.f
  have H := hst.all
  refine Do.ok run_fld (Do.ok (run_loadBaseN H b1 (by simp)) ?_)
  rw [show s.cells.extract (0 + 2) (0 + 2 + 5) = s.sums.cells.toArray from rfl]
  refine CallF.ret (f16.enters _ _) (sums_ret ht hst (by simp) s.sums hsum) ?_
  intro _ w hst
  refine ⟨fun k x w' => ∃ i : Nat, k + i = 24 ∧ x = .int .i64 i ∧ St w0 w' p3 p4 ([] ++ sumsPairs s.sums ++ cmdPairs s i) [], ⟨24, 0, rfl, rfl, by simpa [cmdPairs] using hst⟩, ?_⟩
  rintro k σ w ⟨i, hk, hx, hst⟩
  rw [hx]
  unfold f17.l0
  refine Do.dec run_lss (fun hlt => If.t ?_) (fun hge => If.f ?_)
  · have hi : i < 24 := by omega
    have hc := done_cell s (i + 1) (by omega)
    refine ⟨fun w' => w'.heap[bj]? = some (.cells s.cells 33 (0, 0)), (hst.drew.all).baseBlk b1, ?_⟩
    dsimp only
    have hst := hst.drew
    have H := hst.all
    refine Take.ok (fun _ _ => run_addi (a := (i : Int)) (b := 1) (by omega)) ?_
    refine Take.ok (fun _ _ => run_addi (a := (i : Int)) (b := 1) (by omega)) ?_
    refine Take.ok (fun _ _ => run_fld) ?_
    refine Take.ok (fun _ _ => run_idxA (by omega) (by omega)) ?_
    have e1 : 0 + 7 + ((i : Int) + 1).toNat * 1 = 7 + (i + 1) := by omega
    rw [e1]
    refine Take.ok (fun w' hS => run_load1 ((cell_of_blk hS _).trans hc)) ?_
    have e2 : ((i : Int) + 1) = ((i + 1 : Nat) : Int) := by omega
    rw [e2]
    refine CallF.ret (f18.enters _ _) (name_ret (i + 1) (by omega) (by omega) _) ?_
    rintro _ w1 ⟨rfl, hb⟩
    have hst := hst.below hb
    refine ⟨(hst.all).baseBlk b1, ?_⟩
    refine Take.ok (fun _ _ => run_cat ?_) ?_
    · have : verbOf (i + 1) = (forms26[i + 1]'(by show i + 1 < 26; omega)).1 := by simp [verbOf, List.getElem?_eq_getElem (show i + 1 < forms26.length from by show i + 1 < 26; omega)]
      have hall : ∀ p ∈ forms26, p.1.size ≤ 100 := by decide
      have := hall _ (List.getElem_mem (show i + 1 < forms26.length from by show i + 1 < 26; omega))
      rw [‹verbOf (i + 1) = _›]
      have : (ByteArray.mk #[99, 109, 100, 45]).size = 4 := rfl
      omega
    refine numK ht hst (by simp [sumsPairs, cmdPairs]; omega) (hd _) ?_
    intro _ w2 hst
    refine ⟨(hst.all).baseBlk b1, ?_⟩
    refine Do.ok (run_addi (a := (i : Int)) (b := 1) (by omega)) (show ∃ k', k' < k ∧ _ from ⟨k - 1, by omega, i + 1, by omega, rfl, ?_⟩)
    rw [cmdPairs_succ, ← List.append_assoc]
    exact hst
  · have hi : i = 24 := by omega
    subst hi
    have H := hst.all
    have hl24 : (cmdPairs s 24).length = 24 := by simp [cmdPairs]
    have hl5 : (sumsPairs s.sums).length = 5 := rfl
    have hle := lessV_i64 s.now s.start
    clear hd
    repeat first
      | refine Do.ok run_fld ?_
      | refine Do.ok (run_loadBase H b1 rfl) ?_
      | refine Do.ok (run_loadBase H b2 rfl) ?_
      | (refine CallF.ret (f13.enters _ _) (less_ret _ _ _) ?_; rintro _ _ ⟨rfl, rfl⟩)
      | (refine numK ht hst (by first | omega | (simp [sumsPairs]; done) | (simp [sumsPairs]; omega)) (by assumption) ?_; intro _ w hst; have H := hst.all)
      | (refine textK hst (by first | omega | (simp [sumsPairs]; done) | (simp [sumsPairs]; omega)) ?_; intro _ w hst; have H := hst.all)
    rw [shopPairs_eq]
    show If (.bool s.draining) _ _
    cases hdr : s.draining with
    | true =>
      refine If.t (textK hst (by simp [hl24, hl5]) ?_)
      intro _ w hst
      rw [show lastPair s = (⟨#[100, 114, 97, 105, 110, 105, 110, 103]⟩, ⟨#[116, 114, 117, 101]⟩) from by simp [lastPair, hdr]]
      exact hst
    | false =>
      refine If.f (textK hst (by simp [hl24, hl5]) ?_)
      intro _ w hst
      rw [show lastPair s = (⟨#[100, 114, 97, 105, 110, 105, 110, 103]⟩, ⟨#[102, 97, 108, 115, 101]⟩) from by simp [lastPair, hdr]]
      exact hst
end Go.Proofs.YtggdogncmkffpaaDoor
