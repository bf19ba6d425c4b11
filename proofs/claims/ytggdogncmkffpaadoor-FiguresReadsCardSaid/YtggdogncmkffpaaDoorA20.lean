/-
  The tied card of FiguresReads: for every input the law returns true, and the input reads behind the call as it read before.
  Conditions: none beyond the row's own (the listed package variables hold what the program's text lays).
-/
import Derived.Test.YtggdogncmkffpaaDoorCards
import Derived.Test.YtggdogncmkffpaaDoorTie
import Derived.WalkKit
import Derived.ProofKit
import Derived.OpenShut
import Derived.Deep.DeepHandedRow
import Derived.Lib.LaidTab
import Derived.LaidMore
import Derived.LaidHandle
import Derived.WideKeyArgs
import Derived.Test.YtggdogncmkffpaaDoorA19
set_option linter.unusedVariables false
set_option maxRecDepth 100000
namespace Go.Proofs.YtggdogncmkffpaaDoor.figuresReads
open Go Go.ChangeShapes Go.WideShapes Go.ChangeAt Go.RowKit Go.Sx

theorem own : ownKnob Tryd.prog.godebug = none := by kernel_rfl
theorem laidOut : laidOutB Tryd.prog = true := by kernel_rfl
/-- What 'post' asks, where nothing that was there has turned (new blocks may bear marks). -/
theorem post_of_below {H : Type} {enc : TypeId × Value → H} {Q : Program} {f : Func} {s : ChangeSpec} {apart fresh handsOn again : Bool} {W W' : World} {args : Array Value} {v : Value} {ds gs : List (DataW H)} {before pa pv : List MemPlace}
    (hW : DataW.Whole enc Q f.params.toList s.vars apart W args.toList ds gs before) (hg : Below W.heap.size W W')
    (hres : ∀ (b : Nat) (sp : Nat → Bool) (hd : Bool), DataW.TrodAll enc Q W' b sp hd f.resultTypes.toList (v.resultList f.resultTypes.size) (s.fn H (ds ++ gs)).results [])
    (hargs : ∀ sp : Nat → Bool, (∀ p ∈ before, sp p.block = true) → DataW.TrodAll enc Q W' 0 sp true f.params.toList args.toList (s.fn H (ds ++ gs)).args pa)
    (hvars : ∀ sp : Nat → Bool, (∀ p ∈ before, sp p.block = true) → DataW.TrodVars enc Q W' sp s.vars (s.fn H (ds ++ gs)).vars pv)
    (hps : before = pa ++ pv)
    (hok : ∀ (j : Nat) (t : TypeId) (r : Value), f.resultTypes[j]? = some t → (v.resultList f.resultTypes.size)[j]? = some r → Value.okWide Q W' .any 0 t r) :
    s.post enc Q f apart fresh handsOn again W args v W' := by
  have hold : ∀ p ∈ before, (fun b => decide (b < W.heap.size)) p.block = true := fun p hp => by simpa using hW.lt p hp
  refine ⟨ds, gs, before, [], pa, pv, hW, hres _ _ _, hargs _ hold, hvars _ hold, World.keptBut_mono (fun p hp => ⟨hp, ?_⟩) (hg.frame _), fun _ => ?_⟩
  · rw [hps, List.mem_append] at hp
    exact Or.inr hp
  · have hlt := hW.lt
    obtain ⟨_, _, _, _, _, hz, hn⟩ := hW
    refine ⟨hok, _, _, ([] ++ pa) ++ pv, ⟨[] ++ pa, pv, trodAll_append (hargs _ (fun _ _ => rfl)) (hres _ _ _), hvars _ (fun _ _ => rfl), rfl, ?_, ?_⟩, ?_⟩
    · intro b off hp
      have hp' : MemPlace.cell b off ∈ before := by rw [hps]; simpa using hp
      rw [hg.frozen (p := ⟨b, off, none⟩) (hlt _ hp')]
      exact hz b off hp'
    · intro ha
      have := hn ha
      rw [hps] at this
      simpa using this
    · intro p hp _
      rw [hps]
      simpa using hp

theorem listed : (Rows.figuresReadsRow.laid.filter fun x => x.1 == "internal/strconv.uint64pow10") = [("internal/strconv.uint64pow10", Lib.tabData .u64 Lib.pow10Tab)] := by kernel_rfl
theorem table {W : World} (h : laidMetH Tryd.prog Rows.figuresReadsRow.laid W) : Tab W := by
  have h1 := h.filter (fun x => x.1 == "internal/strconv.uint64pow10")
  rw [listed] at h1
  exact Lib.tabIs_of_head (rest := []) (g := 1) (t := 94) (e := 88) (n := 20) (by kernel_rfl) (by kernel_rfl) (by kernel_rfl) (by kernel_rfl) (by kernel_rfl) (by kernel_rfl) h1
theorem stays {H : Type} {enc : TypeId × Value → H} {W W' : World} {sp : Nat → Bool} {t : TypeId} {v : Value} {d : DataW H} {ps before : List MemPlace} (hr : Tryd.prog.readableRec t = true) (hrow : t < Tryd.prog.types.size)
    (hb : Below W.heap.size W W') (h : DataW.Trod enc Tryd.prog W 0 (fun _ => true) true t v d ps) (hin : ∀ p ∈ ps, p ∈ before) (hlt : ∀ p ∈ before, p.block < W.heap.size) (hsp : ∀ p ∈ before, sp p.block = true) :
    DataW.Trod enc Tryd.prog W' 0 sp true t v d ps :=
  Go.WideElems.Trod_stays laidOut hr hrow h (fun p hp => hb.same (hlt p (hin p hp))) (fun p hp => hsp p (hin p hp))

theorem contract (H : Type) (enc : TypeId × Value → H) (W : World) (base : Nat) (args : Array Value) (ds gs : List (DataW H)) (before : List MemPlace)
    (hval : ∀ (j : Nat) t v, Tryd.f3.params[j]? = some t → args[j]? = some v → Value.okWide Tryd.prog W .any base t v)
    (hW : DataW.Whole enc Tryd.prog Tryd.f3.params.toList Rows.figuresReadsSpec.vars false W args.toList ds gs before) (hL : laidMetH Tryd.prog Rows.figuresReadsRow.laid W) :
    Calls Tryd.prog 3 args W fun e W' => ∃ v, e = .returned v ∧ Rows.figuresReadsSpec.post enc Tryd.prog Tryd.f3 false true false false W args v W' := by
  have hW' := hW
  have hlt := hW.lt
  obtain ⟨p, q, hA0, hV, rfl, hfz, hnd⟩ := hW
  have hA : DataW.TrodAll enc Tryd.prog W 0 (fun _ => true) true Tryd.f3.params.toList args.toList ds p := hA0
  rw [Tryd.params3] at hA hval
  obtain ⟨v0, vs0, d0, ds0, p0, q0, hargs, rfl, rfl, h0, r0⟩ := trodAll_cons hA
  obtain ⟨v1, vs1, d1, ds1, p1, q1, rfl, rfl, rfl, h1, r1⟩ := trodAll_cons r0
  obtain ⟨v2, vs2, d2, ds2, p2, q2, rfl, rfl, rfl, h2, r2⟩ := trodAll_cons r1
  obtain ⟨v3, vs3, d3, ds3, p3, q3, rfl, rfl, rfl, h3, r3⟩ := trodAll_cons r2
  obtain ⟨rfl, rfl, rfl⟩ := trodAll_nil r3
  obtain rfl : args = #[v0, v1, v2, v3] := by cases args; simp_all
  obtain ⟨rfl, rfl⟩ := trodVars_none hV
  obtain ⟨j, rfl, hj⟩ := job_arg (hval 0 26 v0 rfl rfl)
  obtain ⟨t, rfl, ht⟩ := tube_arg (hval 1 30 v1 rfl rfl)
  obtain ⟨s, rfl, hs⟩ := shop_arg (hval 2 33 v2 rfl rfl)
  obtain ⟨now, rfl, hn⟩ := cell_int (hval 3 3 v3 rfl rfl)
  clear hA0
  have walk := reads_ret (w := W) (table hL) hj ht hs hn
  refine Calls.mono walk fun e W' he => ?_
  cases e with
  | returned v =>
    obtain ⟨rfl, hb⟩ := he
    refine ⟨_, rfl, post_of_below (pa := p0 ++ (p1 ++ (p2 ++ (p3 ++ [])))) (pv := []) hW' hb (fun _ _ _ => trodAll_cons_mk (shut_bool Tryd.underlying4 _) trodAll_mk0) ?_ (fun _ _ => rfl) rfl
      (ok_one (by kernel_rfl) rfl (okWide_bool_mk Tryd.underlying4 _))⟩
    intro sp hsp
    have k0 := stays (by kernel_rfl) (by decide +kernel) hb h0 (fun p hp => by simp [hp]) hlt hsp
    have k1 := stays (by kernel_rfl) (by decide +kernel) hb h1 (fun p hp => by simp [hp]) hlt hsp
    have k2 := stays (by kernel_rfl) (by decide +kernel) hb h2 (fun p hp => by simp [hp]) hlt hsp
    have k3 := stays (by kernel_rfl) (by decide +kernel) hb h3 (fun p hp => by simp [hp]) hlt hsp
    exact ⟨p0, _, k0, ⟨p1, _, k1, ⟨p2, _, k2, ⟨p3, [], k3, rfl, rfl⟩, rfl⟩, rfl⟩, rfl⟩
  | _ => exact he.elim
end Go.Proofs.YtggdogncmkffpaaDoor.figuresReads
