/-
  The statement ScriptRemarks: its bare row and its TIED CARD are proved: for every input the law returns true, and the input reads behind the call as it read before.
  Conditions: none beyond the row's own (the listed package variables hold what the program's text lays).
-/
import Derived.Test.YtdnnamaimgijpaaDoorS32
set_option linter.unusedVariables false
set_option maxRecDepth 100000
namespace Go.Proofs.YtdnnamaimgijpaaDoor.scriptRemarks
open Go Go.ChangeShapes Go.WideShapes Go.ChangeAt Go.RowKit Go.Sx

theorem contract (H : Type) (enc : TypeId × Value → H) (W : World) (base : Nat) (args : Array Value) (ds gs : List (DataW H)) (before : List MemPlace)
    (hval : ∀ (j : Nat) t v, Tryd.f6.params[j]? = some t → args[j]? = some v → Value.okWide Tryd.prog W .any base t v)
    (hW : DataW.Whole enc Tryd.prog Tryd.f6.params.toList Rows.scriptRemarksSpec.vars false W args.toList ds gs before) (hL : laidMetH Tryd.prog tabs W) (hS : W.ShapedOpen Tryd.prog)
    (hwt : (DataW.weightsEach Tryd.prog (Tryd.f6.params.toList ++ (OpenSpec.ofChange Rows.scriptRemarksSpec).bare.plain.varTypes Tryd.prog) (ds ++ gs)).all (· ≤ reachBytes) = true) :
    Calls Tryd.prog 6 args W fun e W' => ∃ v, e = .returned v ∧ Rows.scriptRemarksSpec.post enc Tryd.prog Tryd.f6 false true false false W args v W' := by
  have hW' := hW
  have hlt := hW.lt
  obtain ⟨p, q, hA0, hV, rfl, hfz, hnd⟩ := hW
  have hA : DataW.TrodAll enc Tryd.prog W 0 (fun _ => true) true Tryd.f6.params.toList args.toList ds p := hA0
  rw [Tryd.params6] at hA hval
  obtain ⟨v0, vs0, d0, ds0, p0, q0, hargs, rfl, rfl, h0, r0⟩ := trodAll_cons hA
  obtain ⟨v1, vs1, d1, ds1, p1, q1, rfl, rfl, rfl, h1, r1⟩ := trodAll_cons r0
  obtain ⟨v2, vs2, d2, ds2, p2, q2, rfl, rfl, rfl, h2, r2⟩ := trodAll_cons r1
  obtain ⟨rfl, rfl, rfl⟩ := trodAll_nil r2
  obtain rfl : args = #[v0, v1, v2] := by cases args; simp_all
  obtain ⟨rfl, rfl⟩ := trodVars_none hV
  obtain ⟨s, rfl, hs⟩ := cell_str (hval 0 9 v0 rfl rfl)
  obtain ⟨r, rfl, hr⟩ := cell_str (hval 1 9 v1 rfl rfl)
  obtain ⟨n, rfl, hn⟩ := cell_int (hval 2 3 v2 rfl rfl)
  obtain ⟨z0, hz0⟩ := h0
  obtain ⟨z1, hz1⟩ := h1
  obtain ⟨s2, es, ed0, _⟩ := DataW.trod_string (P := Tryd.prog) (by kernel_rfl) hz0
  obtain ⟨r2, er, ed1, _⟩ := DataW.trod_string (P := Tryd.prog) (by kernel_rfl) hz1
  obtain rfl : s = s2 := by simpa [Value.cells] using es
  obtain rfl : r = r2 := by simpa [Value.cells] using er
  simp only [Prod.mk.injEq] at ed0 ed1
  have hwt := List.all_eq_true.1 hwt
  rw [Tryd.params6] at hwt
  have ws : s.size ≤ 140737488351232 := by
    have := hwt s.data.toList.length (by rw [ed0.1]; simp [DataW.weightsEach, DataW.weights])
    have := of_decide_eq_true this
    simpa [reachBytes] using this
  have wr : r.size ≤ 140737488351232 := by
    have := hwt r.data.toList.length (by rw [ed1.1]; simp [DataW.weightsEach, DataW.weights])
    have := of_decide_eq_true this
    simpa [reachBytes] using this
  have h0 : DataW.Trod enc Tryd.prog W 0 (fun _ => true) true 9 (.string s) d0 p0 := ⟨z0, hz0⟩
  have h1 : DataW.Trod enc Tryd.prog W 0 (fun _ => true) true 9 (.string r) d1 p1 := ⟨z1, hz1⟩
  clear hA0
  refine Calls.mono (remarks_ret (glb hL hS) ws wr hn) fun e W' he => ?_
  cases e with
  | returned v =>
    obtain ⟨rfl, hb⟩ := he
    refine ⟨_, rfl, post_of_below (pa := p0 ++ (p1 ++ (p2 ++ []))) (pv := []) hW' hb (fun _ _ _ => trodAll_cons_mk (shut_bool Tryd.underlying4 _) trodAll_mk0) ?_ (fun _ _ => rfl) rfl
      (ok_one (by kernel_rfl) rfl (okWide_bool_mk Tryd.underlying4 _))⟩
    intro sp hsp
    have k0 := stays (by kernel_rfl) (by decide +kernel) hb h0 (fun p hp => by simp [hp]) hlt hsp
    have k1 := stays (by kernel_rfl) (by decide +kernel) hb h1 (fun p hp => by simp [hp]) hlt hsp
    have k2 := stays (by kernel_rfl) (by decide +kernel) hb h2 (fun p hp => by simp [hp]) hlt hsp
    exact ⟨p0, _, k0, ⟨p1, _, k1, ⟨p2, [], k2, rfl, rfl⟩, rfl⟩, rfl⟩
  | _ => exact he.elim
def args0 : Array Value := #[.string ⟨#[]⟩, .string ⟨#[]⟩, .int .i64 0]
def ds0 {H : Type} : List (DataW H) := [.lit (.string []), .lit (.string []), .lit (.int .i64 0)]
theorem reads (os : Os) {H : Type} (enc : TypeId × Value → H) : DataW.whole enc Tryd.prog ((start os).forCall (fun _ _ => 0) ⟨#[], args0, []⟩).memory Tryd.f6.params.toList Rows.scriptRemarksSpec.vars false args0.toList 8 = some (ds0, [], []) := by kernel_rfl
theorem lifted (os : Os) (started : os.Started) (H : Type) (enc : TypeId × Value → H) (F : Stop.Interp) :
    ReturnsInHanded {} Tryd.checked os 6 .any ((OpenSpec.ofChange Rows.scriptRemarksSpec).preRow enc Tryd.prog Tryd.f6 Rows.scriptRemarksRow.domain false Rows.scriptRemarksRow.laid) (((OpenSpec.ofChange Rows.scriptRemarksSpec).at F).post enc Tryd.prog Tryd.f6 false true false false) := by
  refine returnsInHanded_of_row (C := Tryd.checked) (s := OpenSpec.ofChange Rows.scriptRemarksSpec) own started (by kernel_rfl) Tryd.func6
    (witness_row_at (enc := enc) (C := Tryd.checked) false (start os) args0 (World.laidAll_os _ _ _) (by kernel_rfl) (by kernel_rfl) (by kernel_rfl)
      (OpenSpec.preRow_of_cond 8 (reads os enc) (by kernel_rfl) (fun k hk => by cases hk) (by kernel_rfl) (met os args0))) ?_
  intro W base args ds gs before hval hW _ _ hwt hL hS _
  exact contract H enc W base args ds gs before hval hW hL hS hwt
theorem said : Rows.ScriptRemarksSaid :=
  OpenClaim.holds_of_cond 6 Tryd.f6 rfl rfl rfl rfl rfl rfl rfl ⟨rfl, rfl, rfl, rfl, rfl⟩ rfl rfl rfl rfl rfl (by kernel_rfl) Tryd.func6 (by kernel_rfl)
    (of_decide_eq_true (by kernel_rfl)) (by unfold Func.isWrapper; first | (rw [if_pos (by decide +kernel)]; kernel_rfl) | (rw [if_neg (by decide +kernel)]; exact ⟨rfl, rfl⟩))
    (fun os started H enc _ F => by rw [OpenClaim.pre_eq_preRow]; exact lifted os started H enc F)
theorem plain (f : FuncId) (fn : Func) (hf : Tryd.pinned.checked.prog.funcNamed "stint/stintlaw19.ScriptRemarks" = some f) (hfn : Tryd.pinned.checked.prog.funcs[f]? = some fn) :
    true = Tryd.pinned.checked.prog.looks [] ∧ ∀ (j : Nat) t, fn.params[j]? = some t → Tryd.pinned.checked.prog.wantsStandIn t = false := by
  obtain rfl : f = 6 := Option.some.inj ((show Tryd.prog.funcNamed "stint/stintlaw19.ScriptRemarks" = some 6 by kernel_rfl).symm.trans hf) |>.symm
  obtain rfl : fn = Tryd.f6 := (Option.some.inj (Tryd.func6.symm.trans hfn)).symm
  refine ⟨by kernel_rfl, fun j t ht => ?_⟩
  rw [Tryd.params6] at ht
  have hm : t ∈ [9, 9, 3] := by simpa using Array.mem_of_getElem? ht
  have hall : ([9, 9, 3].all fun u => !Tryd.prog.wantsStandIn u) = true := by kernel_rfl
  exact (show Tryd.prog.wantsStandIn t = false by simpa using List.all_eq_true.1 hall t hm)
/-- THE CARD -/
theorem card : Rows.ScriptRemarksCardSaid :=
  Claim7.holds_tied_plain_at .later [] _ _ _ _ said (fun _ h => by cases h) (by kernel_rfl) (fun _ h => by cases h) scriptRemarks_row_tie rfl ⟨rfl, rfl⟩ (by kernel_rfl) rfl plain (by kernel_rfl)
end Go.Proofs.YtdnnamaimgijpaaDoor.scriptRemarks
