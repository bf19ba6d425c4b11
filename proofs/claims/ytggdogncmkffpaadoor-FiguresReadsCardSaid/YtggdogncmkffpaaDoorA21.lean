/-
  The statement FiguresReads: its bare row and its TIED CARD are proved.
  Conditions: none beyond the row's own.
-/
import Derived.Test.YtggdogncmkffpaaDoorA20
set_option linter.unusedVariables false
set_option maxRecDepth 100000
namespace Go.Proofs.YtggdogncmkffpaaDoor.figuresReads
open Go Go.ChangeShapes Go.WideShapes Go.ChangeAt Go.RowKit Go.Sx

/-! ### the witness: the settled world with what the program's text lays; arguments of noughts -/
def z (n : Nat) : List Value := List.replicate n (.int .i64 0)
def args0 : Array Value := #[.agg (z 14 ++ [Value.string ⟨#[]⟩, Value.slice none 0 0]).toArray, .agg (Value.string ⟨#[]⟩ :: z 13).toArray, .agg (z 48 ++ [Value.bool false]).toArray, .int .i64 0]
noncomputable def start (os : Os) : World := World.doorLaid Tryd.prog 43 os
theorem met (os : Os) : laidMetH Tryd.prog Rows.figuresReadsRow.laid ((start os).forCall (fun _ _ => 0) ⟨#[], args0, []⟩).memory :=
  laidMetH_of_parts3 (fuel := 8) (laidMet_of_run' 8 (by kernel_rfl) (by kernel_rfl)) (by kernel_rfl) (by kernel_rfl)
def ints {H : Type} (n : Nat) : List (DataW H) := List.replicate n (.lit (.int .i64 0))
def ds0 {H : Type} : List (DataW H) := [.agg (ints 9 ++ [.agg (ints 5), .lit (.string []), .nil]), .agg ([.lit (.string []), .agg (ints 5)] ++ ints 8), .agg (ints 2 ++ [.agg (ints 5), .agg (ints 26)] ++ ints 15 ++ [.lit (.bool false)]), .lit (.int .i64 0)]
theorem reads (os : Os) {H : Type} (enc : TypeId × Value → H) : DataW.whole enc Tryd.prog ((start os).forCall (fun _ _ => 0) ⟨#[], args0, []⟩).memory Tryd.f3.params.toList Rows.figuresReadsSpec.vars false args0.toList 8 = some (ds0, [], []) := by kernel_rfl

theorem lifted (os : Os) (started : os.Started) (H : Type) (enc : TypeId × Value → H) (F : Stop.Interp) :
    ReturnsInHanded {} Tryd.checked os 3 .any ((OpenSpec.ofChange Rows.figuresReadsSpec).preRow enc Tryd.prog Tryd.f3 Rows.figuresReadsRow.domain false Rows.figuresReadsRow.laid) (((OpenSpec.ofChange Rows.figuresReadsSpec).at F).post enc Tryd.prog Tryd.f3 false true false false) := by
  refine returnsInHanded_of_row (C := Tryd.checked) (s := OpenSpec.ofChange Rows.figuresReadsSpec) own started (by kernel_rfl) Tryd.func3
    (witness_row_at (enc := enc) (C := Tryd.checked) false (start os) args0 rfl (by kernel_rfl) (by kernel_rfl) (by kernel_rfl)
      (OpenSpec.preRow_of_cond 8 (reads os enc) (by kernel_rfl) (fun k hk => by cases hk) (by kernel_rfl) (met os))) ?_
  intro W base args ds gs before hval hW _ _ _ hL _ _
  exact contract H enc W base args ds gs before hval hW hL

theorem said : Rows.FiguresReadsSaid :=
  OpenClaim.holds_of_cond 3 Tryd.f3 rfl rfl rfl rfl rfl rfl rfl ⟨rfl, rfl, rfl, rfl, rfl⟩ rfl rfl rfl rfl rfl (by kernel_rfl) Tryd.func3 (by kernel_rfl)
    (of_decide_eq_true (by kernel_rfl)) (by unfold Func.isWrapper; first | (rw [if_pos (by decide +kernel)]; kernel_rfl) | (rw [if_neg (by decide +kernel)]; exact ⟨rfl, rfl⟩))
    (fun os started H enc _ F => by rw [OpenClaim.pre_eq_preRow]; exact lifted os started H enc F)

theorem plain (f : FuncId) (fn : Func) (hf : Tryd.pinned.checked.prog.funcNamed "stint/stintlaw13.FiguresReads" = some f) (hfn : Tryd.pinned.checked.prog.funcs[f]? = some fn) :
    false = Tryd.pinned.checked.prog.looks [] ∧ ∀ (j : Nat) t, fn.params[j]? = some t → Tryd.pinned.checked.prog.wantsStandIn t = false := by
  obtain rfl : f = 3 := Option.some.inj ((show Tryd.prog.funcNamed "stint/stintlaw13.FiguresReads" = some 3 by kernel_rfl).symm.trans hf) |>.symm
  obtain rfl : fn = Tryd.f3 := (Option.some.inj (Tryd.func3.symm.trans hfn)).symm
  refine ⟨by kernel_rfl, fun j t ht => ?_⟩
  rw [Tryd.params3] at ht
  have hm : t ∈ [26, 30, 33, 3] := by simpa using Array.mem_of_getElem? ht
  have hall : ([26, 30, 33, 3].all fun u => !Tryd.prog.wantsStandIn u) = true := by kernel_rfl
  exact (show Tryd.prog.wantsStandIn t = false by simpa using List.all_eq_true.1 hall t hm)

/-- ████ THE CARD ████ -/
theorem card : Rows.FiguresReadsCardSaid :=
  Claim7.holds_tied_plain_at .later [] _ _ _ _ said (fun _ h => by cases h) (by kernel_rfl) (fun _ h => by cases h) figuresReads_row_tie rfl ⟨rfl, rfl⟩ (by kernel_rfl) rfl plain (by kernel_rfl)
end Go.Proofs.YtggdogncmkffpaaDoor.figuresReads
