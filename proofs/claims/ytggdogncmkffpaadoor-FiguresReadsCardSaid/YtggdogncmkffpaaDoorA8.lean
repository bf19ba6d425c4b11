/- Contracts: what the closures of Job and Tube lay down; Job, Tube. Conditions: none. -/
import Derived.Test.YtggdogncmkffpaaDoorA7
set_option linter.unusedVariables false
set_option maxRecDepth 100000
namespace Go.Proofs.YtggdogncmkffpaaDoor
open Go Go.Sx Go.Proofs Go.Lib Go.RowKit

structure JobD where
  id : Int
  pri : Int
  delay : Int
  ttr : Int
  born : Int
  state : Int
  due : Int
  order : Int
  holder : Int
  c0 : Int
  c1 : Int
  c2 : Int
  c3 : Int
  c4 : Int
  tube : ByteArray
  body : Value
structure JobD.ok (j : JobD) : Prop where
  id : i64 j.id
  pri : i64 j.pri
  delay : i64 j.delay
  ttr : i64 j.ttr
  born : i64 j.born
  state : i64 j.state
  due : i64 j.due
  order : i64 j.order
  holder : i64 j.holder
  c0 : i64 j.c0
  c1 : i64 j.c1
  c2 : i64 j.c2
  c3 : i64 j.c3
  c4 : i64 j.c4
  tube : j.tube.size ≤ 9223372036854775807
def jobLeft (j : JobD) (now : Int) : Int := if j.state = 2 ∨ j.state = 3 then lessV j.due now else 0
theorem jobLeft_i64 (j : JobD) (now : Int) : i64 (jobLeft j now) := by
  unfold jobLeft
  split
  · exact lessV_i64 _ _
  · unfold i64; omega
abbrev JobD.cells (j : JobD) : Array Value := #[.int .i64 j.id, .int .i64 j.pri, .int .i64 j.delay, .int .i64 j.ttr, .int .i64 j.born, .int .i64 j.state, .int .i64 j.due, .int .i64 j.order, .int .i64 j.holder, .int .i64 j.c0, .int .i64 j.c1, .int .i64 j.c2, .int .i64 j.c3, .int .i64 j.c4, .string j.tube, j.body]
def jobPairs (j : JobD) (file now : Int) : List Pr := [(⟨#[105, 100]⟩, dec (j.id)), (⟨#[116, 117, 98, 101]⟩, j.tube), (⟨#[115, 116, 97, 116, 101]⟩, stateV j.state), (⟨#[112, 114, 105]⟩, dec (j.pri)), (⟨#[97, 103, 101]⟩, dec (lessV now j.born)), (⟨#[100, 101, 108, 97, 121]⟩, dec (j.delay)), (⟨#[116, 116, 114]⟩, dec (j.ttr)), (⟨#[116, 105, 109, 101, 45, 108, 101, 102, 116]⟩, dec (jobLeft j now)), (⟨#[102, 105, 108, 101]⟩, dec (file)), (⟨#[114, 101, 115, 101, 114, 118, 101, 115]⟩, dec (j.c0)), (⟨#[116, 105, 109, 101, 111, 117, 116, 115]⟩, dec (j.c1)), (⟨#[114, 101, 108, 101, 97, 115, 101, 115]⟩, dec (j.c2)), (⟨#[98, 117, 114, 105, 101, 115]⟩, dec (j.c3)), (⟨#[107, 105, 99, 107, 115]⟩, dec (j.c4))]
theorem jobPairs_eq (j : JobD) (file now : Int) : jobPairs j file now = [] ++ [(⟨#[105, 100]⟩, dec (j.id))] ++ [(⟨#[116, 117, 98, 101]⟩, j.tube)] ++ [(⟨#[115, 116, 97, 116, 101]⟩, stateV j.state)] ++ [(⟨#[112, 114, 105]⟩, dec (j.pri))] ++ [(⟨#[97, 103, 101]⟩, dec (lessV now j.born))] ++ [(⟨#[100, 101, 108, 97, 121]⟩, dec (j.delay))] ++ [(⟨#[116, 116, 114]⟩, dec (j.ttr))] ++ [(⟨#[116, 105, 109, 101, 45, 108, 101, 102, 116]⟩, dec (jobLeft j now))] ++ [(⟨#[102, 105, 108, 101]⟩, dec (file))] ++ [(⟨#[114, 101, 115, 101, 114, 118, 101, 115]⟩, dec (j.c0))] ++ [(⟨#[116, 105, 109, 101, 111, 117, 116, 115]⟩, dec (j.c1))] ++ [(⟨#[114, 101, 108, 101, 97, 115, 101, 115]⟩, dec (j.c2))] ++ [(⟨#[98, 117, 114, 105, 101, 115]⟩, dec (j.c3))] ++ [(⟨#[107, 105, 99, 107, 115]⟩, dec (j.c4))] := rfl
theorem job_lays {w0 : World} (ht : Tab w0) {j : JobD} (hj : j.ok) {file now : Int} (hf : i64 file) (hw : i64 now) {bj bn bf : Nat} (b1 : w0.heap[bj]? = some (.cells j.cells 26 (0, 0)))
    (b2 : w0.heap[bn]? = some (.cells #[.int .i64 now] 3 (0, 0))) (b3 : w0.heap[bf]? = some (.cells #[.int .i64 file] 3 (0, 0))) :
    Lays w0 12 #[.pointer (some ⟨bj, 0, none⟩), .pointer (some ⟨bn, 0, none⟩), .pointer (some ⟨bf, 0, none⟩)] (jobPairs j file now) := by
  obtain ⟨h0, h1, h2, h3, h4, h5, h6, h7, h8, h9, h10, h11, h12, h13, htube⟩ := hj
  intro w p3 p4 hst
  show Ret P 12 #[textV p3, numV p4, .pointer (some ⟨bj, 0, none⟩), .pointer (some ⟨bn, 0, none⟩), .pointer (some ⟨bf, 0, none⟩)] w _
  refine f12.calls ?_
  unfold f12.f
  have H := hst.all
  refine ⟨fun x w' => x = .int .i64 (jobLeft j now) ∧ St w0 w' p3 p4 [] [], ?_, ?_⟩
  · rintro σ w ⟨hx, hst⟩
    have H := hst.all
    rw [hx]
    unfold f12.j0
    have hjl := jobLeft_i64 j now
    have hle := lessV_i64 now j.born
    repeat first
      | refine Do.ok run_fld ?_
      | refine Do.ok (run_loadBase H b1 rfl) ?_
      | refine Do.ok (run_loadBase H b2 rfl) ?_
      | refine Do.ok (run_loadBase H b3 rfl) ?_
      | (refine CallF.ret (f14.enters _ _) (state_ret j.state _) ?_; rintro _ _ ⟨rfl, rfl⟩)
      | (refine CallF.ret (f13.enters _ _) (less_ret _ _ _) ?_; rintro _ _ ⟨rfl, rfl⟩)
      | (refine numK ht hst (by first | omega | (simp; done) | (simp; omega)) (by assumption) ?_; intro _ w hst; have H := hst.all)
      | (refine textK hst (by first | omega | (simp; done) | (simp; omega)) ?_; intro _ w hst; have H := hst.all)
    rw [jobPairs_eq]
    exact hst
  · refine Do.ok run_fld (Do.ok (run_loadBase H b1 rfl) ?_)
    refine Do.dec run_eqi (fun h => ?_) (fun h => ?_)
    · (repeat (with_reducible first | refine Do.dec run_lss (fun _ => ?_) (fun _ => ?_) | refine Do.dec run_gtr (fun _ => ?_) (fun _ => ?_) | refine Do.dec run_leq (fun _ => ?_) (fun _ => ?_) | refine Do.dec run_geq (fun _ => ?_) (fun _ => ?_) | refine Do.dec run_eqi (fun _ => ?_) (fun _ => ?_) | refine Do.dec run_nei (fun _ => ?_) (fun _ => ?_) | refine Do.dec run_eqs (fun _ => ?_) (fun _ => ?_) | refine Do.dec run_nes (fun _ => ?_) (fun _ => ?_) | refine Do.ok run_pickT ?_ | refine Do.ok run_pickF ?_ | refine Do.ok run_notT ?_ | refine Do.ok run_notF ?_ | refine GuardK.tt ?_ | refine GuardK.ff ?_ | refine GuardK.tf ?_ | refine GuardK.ft ?_ | refine GuardK.un ?_ | refine If.t ?_ | refine If.f ?_ | refine Do.ok run_lenS ?_ | refine Do.ok run_lenStr ?_ | refine Do.ok run_nilp ?_ | refine Do.ok run_fld ?_ | refine Do.ok (run_ext rfl) ?_ | refine GuardT.tt ?_ | refine GuardT.ff ?_ | refine GuardT.tf ?_ | refine GuardT.ft ?_ | refine GuardT.un ?_ | refine Take.ok (fun _ _ => run_fld) ?_ | refine Take.ok (fun _ _ => run_pickT) ?_ | refine Take.ok (fun _ _ => run_pickF) ?_ | refine Take.ok (fun _ _ => run_notT) ?_ | refine Take.ok (fun _ _ => run_notF) ?_ | refine Take.dec (fun _ => run_lss) (fun _ => ?_) (fun _ => ?_) | refine Take.dec (fun _ => run_gtr) (fun _ => ?_) (fun _ => ?_) | refine Take.dec (fun _ => run_leq) (fun _ => ?_) (fun _ => ?_) | refine Take.dec (fun _ => run_eqi) (fun _ => ?_) (fun _ => ?_) | refine Take.dec (fun _ => run_nei) (fun _ => ?_) (fun _ => ?_) | refine Take.dec (fun _ => run_eqs) (fun _ => ?_) (fun _ => ?_)))
      refine Do.ok (run_loadBase H b1 rfl) (Do.ok (run_loadBase H b2 rfl) ?_)
      refine CallF.ret (f13.enters _ _) (less_ret _ _ _) ?_
      rintro _ _ ⟨rfl, rfl⟩
      exact ⟨by rw [jobLeft, if_pos (.inl h)], hst⟩
    · refine GuardK.ff (Do.ok run_fld (GuardK.ff (Do.ok (run_loadBase H b1 rfl) (GuardK.ff (Do.dec run_eqi (fun h3 => ?_) (fun h3 => ?_))))))
      · (repeat (with_reducible first | refine Do.dec run_lss (fun _ => ?_) (fun _ => ?_) | refine Do.dec run_gtr (fun _ => ?_) (fun _ => ?_) | refine Do.dec run_leq (fun _ => ?_) (fun _ => ?_) | refine Do.dec run_geq (fun _ => ?_) (fun _ => ?_) | refine Do.dec run_eqi (fun _ => ?_) (fun _ => ?_) | refine Do.dec run_nei (fun _ => ?_) (fun _ => ?_) | refine Do.dec run_eqs (fun _ => ?_) (fun _ => ?_) | refine Do.dec run_nes (fun _ => ?_) (fun _ => ?_) | refine Do.ok run_pickT ?_ | refine Do.ok run_pickF ?_ | refine Do.ok run_notT ?_ | refine Do.ok run_notF ?_ | refine GuardK.tt ?_ | refine GuardK.ff ?_ | refine GuardK.tf ?_ | refine GuardK.ft ?_ | refine GuardK.un ?_ | refine If.t ?_ | refine If.f ?_ | refine Do.ok run_lenS ?_ | refine Do.ok run_lenStr ?_ | refine Do.ok run_nilp ?_ | refine Do.ok run_fld ?_ | refine Do.ok (run_ext rfl) ?_ | refine GuardT.tt ?_ | refine GuardT.ff ?_ | refine GuardT.tf ?_ | refine GuardT.ft ?_ | refine GuardT.un ?_ | refine Take.ok (fun _ _ => run_fld) ?_ | refine Take.ok (fun _ _ => run_pickT) ?_ | refine Take.ok (fun _ _ => run_pickF) ?_ | refine Take.ok (fun _ _ => run_notT) ?_ | refine Take.ok (fun _ _ => run_notF) ?_ | refine Take.dec (fun _ => run_lss) (fun _ => ?_) (fun _ => ?_) | refine Take.dec (fun _ => run_gtr) (fun _ => ?_) (fun _ => ?_) | refine Take.dec (fun _ => run_leq) (fun _ => ?_) (fun _ => ?_) | refine Take.dec (fun _ => run_eqi) (fun _ => ?_) (fun _ => ?_) | refine Take.dec (fun _ => run_nei) (fun _ => ?_) (fun _ => ?_) | refine Take.dec (fun _ => run_eqs) (fun _ => ?_) (fun _ => ?_)))
        refine Do.ok (run_loadBase H b1 rfl) (Do.ok (run_loadBase H b2 rfl) ?_)
        refine CallF.ret (f13.enters _ _) (less_ret _ _ _) ?_
        rintro _ _ ⟨rfl, rfl⟩
        exact ⟨by rw [jobLeft, if_pos (.inr h3)], hst⟩
      · (repeat (with_reducible first | refine Do.dec run_lss (fun _ => ?_) (fun _ => ?_) | refine Do.dec run_gtr (fun _ => ?_) (fun _ => ?_) | refine Do.dec run_leq (fun _ => ?_) (fun _ => ?_) | refine Do.dec run_geq (fun _ => ?_) (fun _ => ?_) | refine Do.dec run_eqi (fun _ => ?_) (fun _ => ?_) | refine Do.dec run_nei (fun _ => ?_) (fun _ => ?_) | refine Do.dec run_eqs (fun _ => ?_) (fun _ => ?_) | refine Do.dec run_nes (fun _ => ?_) (fun _ => ?_) | refine Do.ok run_pickT ?_ | refine Do.ok run_pickF ?_ | refine Do.ok run_notT ?_ | refine Do.ok run_notF ?_ | refine GuardK.tt ?_ | refine GuardK.ff ?_ | refine GuardK.tf ?_ | refine GuardK.ft ?_ | refine GuardK.un ?_ | refine If.t ?_ | refine If.f ?_ | refine Do.ok run_lenS ?_ | refine Do.ok run_lenStr ?_ | refine Do.ok run_nilp ?_ | refine Do.ok run_fld ?_ | refine Do.ok (run_ext rfl) ?_ | refine GuardT.tt ?_ | refine GuardT.ff ?_ | refine GuardT.tf ?_ | refine GuardT.ft ?_ | refine GuardT.un ?_ | refine Take.ok (fun _ _ => run_fld) ?_ | refine Take.ok (fun _ _ => run_pickT) ?_ | refine Take.ok (fun _ _ => run_pickF) ?_ | refine Take.ok (fun _ _ => run_notT) ?_ | refine Take.ok (fun _ _ => run_notF) ?_ | refine Take.dec (fun _ => run_lss) (fun _ => ?_) (fun _ => ?_) | refine Take.dec (fun _ => run_gtr) (fun _ => ?_) (fun _ => ?_) | refine Take.dec (fun _ => run_leq) (fun _ => ?_) (fun _ => ?_) | refine Take.dec (fun _ => run_eqi) (fun _ => ?_) (fun _ => ?_) | refine Take.dec (fun _ => run_nei) (fun _ => ?_) (fun _ => ?_) | refine Take.dec (fun _ => run_eqs) (fun _ => ?_) (fun _ => ?_)))
        exact ⟨by rw [jobLeft, if_neg (by rintro (h | h) <;> contradiction)], hst⟩
end Go.Proofs.YtggdogncmkffpaaDoor
