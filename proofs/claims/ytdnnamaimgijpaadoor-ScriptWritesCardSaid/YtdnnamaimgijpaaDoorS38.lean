/- The reference's Print: it answers what the program's Print answers. Conditions: none. -/
import Derived.Test.YtdnnamaimgijpaaDoorS37
set_option linter.unusedVariables false
set_option linter.unusedSectionVars false
set_option maxRecDepth 10000
namespace Go.Proofs.YtdnnamaimgijpaaDoor
open Go Go.Sx Go.Proofs Go.Lib Go.RowKit

theorem printHead_eq (c : Cfg) : printHead c = [115, 116, 105, 110, 116, 32] ++ (dec c.jobMax).data.toList ++ [32] ++ (dec c.segment).data.toList ++ [32] ++ (dec c.quota).data.toList ++ [10] := by
  unfold printHead
  rw [joinW_JJ]
  have e : [stintW, dec c.jobMax, dec c.segment, dec c.quota] = (([stintW] ++ [dec c.jobMax]) ++ [dec c.segment]) ++ [dec c.quota] := rfl
  have h1 : JJ [stintW] = stintW.data.toList := Lib.join_one _ _
  rw [e, JJ_snoc (by simp), JJ_snoc (by simp), JJ_snoc (by simp), h1]
  show [115, 116, 105, 110, 116] ++ _ ++ _ ++ _ ++ _ = _
  simp
theorem refPrint_ret (cs : Array Value) (c : Cfg) (ss : List StepV) (w : World) (hp : PlayIn w cs c ss) :
    Ret P 18 #[.agg cs] w (fun v w' => v = .tuple #[.string ⟨(printP c ss).1.toArray⟩, .int .i64 (printP c ss).2] ∧ Below w.heap.size w w') := by
  obtain ⟨v, xs, rfl, hv, hst⟩ := hp
  refine f18.calls ?_
  unfold f18.f
  refine Do.box (Has.init w) ?_
  intro b1 w1 H1
  have H1 : Has w w1 [(b1, .cells (playCells c v) 31 (0, 0))] := H1
  refine Do.ok run_fld (Do.ldCfg H1 0 rfl (Do.alloc H1 ?_))
  intro b4 w2 H2
  refine DoU.stAll H2 0 rfl rfl rfl c.flat (fun j _ => open0 _) ?_
  intro w3 H3
  have H3 : Has w w3 [(b4, .cells c.cells 28 (0, 0)), (b1, .cells (playCells c v) 31 (0, 0))] := H3
  refine Do.ldAll H3 0 rfl rfl ?_
  refine CallF.ret (f45.enters _ _) (checkConfig45_ret c w3) ?_
  rintro _ w4 ⟨rfl, hb⟩
  have H4 := H3.below hb
  cases hc : c.right with
  | false =>
    refine Do.dec run_nei (fun _ => If.t ⟨?_, H4.toBelow⟩) (fun h => absurd (by decide) h)
    rw [printP, if_pos hc]
  | true =>
  refine Do.dec run_nei (fun h => absurd rfl h) (fun _ => If.f ?_)
  refine Do.ok run_fld (Do.ld H4 1 rfl rfl (Do.ok hv.len (Do.dec run_gtr (fun h => If.t ⟨?_, H4.toBelow⟩) (fun h => If.f ?_))))
  · rw [printP, if_neg (by simp [hc]), if_pos (by omega)]
  have ep : printP c ss = printLoop ss (printHead c) := by rw [printP, if_neg (by simp [hc]), if_neg (by omega)]
  rw [ep]
  obtain ⟨r1, r2, r3⟩ := right_range hc
  have hhl := head_len c hc
  have d1 := dec_len (n := c.jobMax) ⟨by omega, by omega⟩
  have d2 := dec_len (n := c.segment) ⟨by omega, by omega⟩
  have d3 := dec_len (n := c.quota) ⟨by omega, by omega⟩
  have H5 := H4.drew
  refine ⟨fun w => w.heap[b4]? = some (.cells c.cells 28 (0, 0)), H5.get 0 rfl, ?_⟩
  refine Take.ok (fun w _ => run_fld) (Take.ok (v := .int .i64 c.jobMax) (fun w hS => run_load1 ((cell_of_blk hS _).trans rfl)) ?_)
  refine Take.ok (fun w _ => run_fld) (Take.ok (v := .int .i64 c.segment) (fun w hS => run_load1 ((cell_of_blk hS _).trans rfl)) ?_)
  refine Take.ok (fun w _ => run_fld) (Take.ok (v := .int .i64 c.quota) (fun w hS => run_load1 ((cell_of_blk hS _).trans rfl)) ?_)
  refine CallF.ret (f46.enters _ _) (print46_ret c.jobMax (by omega) _) ?_
  rintro _ w6 ⟨rfl, hb6⟩
  have H6 := H5.below hb6
  refine ⟨H6.get 0 rfl, Take.ok (fun w _ => run_catW (a := [115, 116, 105, 110, 116, 32]) (b := (dec c.jobMax).data.toList) (strW_data _).symm (by simp at d1 ⊢; omega)) (Take.ok (fun w _ => run_catW (b := [32]) rfl (by simp at d1 ⊢; omega)) ?_)⟩
  refine CallF.ret (f46.enters _ _) (print46_ret c.segment (by omega) _) ?_
  rintro _ w7 ⟨rfl, hb7⟩
  have H7 := H6.below hb7
  refine ⟨H7.get 0 rfl, Take.ok (fun w _ => run_catW (b := (dec c.segment).data.toList) (strW_data _).symm (by simp at d1 d2 ⊢; omega)) (Take.ok (fun w _ => run_catW (b := [32]) rfl (by simp at d1 d2 ⊢; omega)) ?_)⟩
  refine CallF.ret (f46.enters _ _) (print46_ret c.quota (by omega) _) ?_
  rintro _ w8 ⟨rfl, hb8⟩
  have H8 := H7.below hb8
  refine ⟨H8.get 0 rfl, Take.ok (fun w _ => run_catW (b := (dec c.quota).data.toList) (strW_data _).symm (by simp at d1 d2 d3 ⊢; omega)) (Take.ok (fun w _ => run_catW (b := [10]) rfl (by simp at d1 d2 d3 ⊢; omega)) ?_)⟩
  rw [← printHead_eq]
  refine ⟨fun k x y w' => ∃ (i : Nat) (acc : List UInt8), k + i = ss.length ∧ x = .string (strW acc) ∧ y = .int .i64 i ∧ acc.length ≤ 1048576 ∧ Has w w' [(b4, .cells c.cells 28 (0, 0)), (b1, .cells (playCells c v) 31 (0, 0))] ∧ printLoop ss (printHead c) = printLoop (ss.drop i) acc,
    ⟨ss.length, 0, printHead c, by omega, rfl, rfl, hhl, H8, rfl⟩, ?_⟩
  rintro k σ w9 ⟨i, acc, hk, hx, hy, hacc, H, hpl⟩
  rw [hx, hy, hpl]
  unfold f18.l0
  refine Do.ok run_fld (Do.ld H 1 rfl rfl (Do.ok hv.len (Do.dec run_lss (fun hlt => If.t ?_) (fun hge => If.f ?_))))
  case refine_2 =>
    rw [List.drop_eq_nil_of_le (by omega)]
    exact ⟨rfl, H.toBelow⟩
  have hi : i < ss.length := by omega
  rw [List.drop_eq_getElem_cons hi]
  obtain ⟨bb, o, cc, fz, hw, hidx, hcs⟩ := hv.idx (t := 29) (e := 44) hi
  obtain ⟨sc, hsi, hsc⟩ := hst.get i hi
  obtain ⟨d, kv, esc', hd, hkp⟩ := hsi
  have hsi : StepIn w sc ss[i] := ⟨d, kv, esc', hd, hkp⟩
  generalize ss[i] = s at *
  have hloop : printLoop (s :: ss.drop (i + 1)) acc = match printStep acc s with
    | .error e => ([], e)
    | .ok acc => printLoop (ss.drop (i + 1)) acc := by
    rw [printLoop]; cases printStep acc s <;> rfl
  rw [hloop]
  have hld : ∀ {w' : World}, Has w w' [(b4, .cells c.cells 28 (0, 0)), (b1, .cells (playCells c v) 31 (0, 0))] → (Instr.loadAt 44 (.pointer (some ⟨bb, o, none⟩))).run P w' = .ok (.agg sc) w' := fun H' => load5 H' hw hsi.size (fun j hj => (hcs j hj).trans (hsc j hj))
  refine Do.ok run_fld (Do.ld H 1 rfl rfl (Do.ok (hidx w9) (Do.ok (hld H) ?_)))
  refine CallF.ret (f47.enters _ _) (rightStep47_ret w9 (hsi.below H.toBelow)) ?_
  rintro _ w10 ⟨b, rfl, hbs, hb10⟩
  have Ha := H.below hb10
  cases b with
  | false =>
    have hno : ¬ StepOk s := fun h => by have := hbs.2 h; cases this
    have hw0 : writtenO s = none := by
      cases hw1 : writtenO s with
      | none => rfl
      | some l => exact absurd (written_some hw1).1 hno
    refine Do.ok run_notF (If.t ⟨?_, Ha.toBelow⟩)
    rw [printStep, hw0]
  | true =>
  have hok := hbs.1 rfl
  have hstep : printStep acc s = if 1048576 < acc.length + (joinW (wordsOf s)).length then .error 193 else .ok (acc ++ joinW (wordsOf s)) := by
    unfold printStep; rw [written_of hok]
  rw [hstep]
  have hsm := (step_small hok).1
  have hld2 : (Instr.loadAt 41 (.pointer (some ⟨bb, o + 2, none⟩))).run P w10 = .ok d w10 := run_loadBase Ha hw (by rw [hcs 2 (by omega), hsc 2 (by omega), esc']; rfl)
  refine Do.ok run_notT (If.f (Do.ok run_fld (Do.ld Ha 1 rfl rfl (Do.ok (hidx w10) (Do.ok run_fld (Do.ok hld2 (Do.ok hd.len ?_)))))))
  with_reducible refine Do.dec run_gtr (fun hbig => ?_) (fun hbig => ?_)
  · rw [if_pos (by omega)]
    exact If.t ⟨rfl, Ha.toBelow⟩
  refine If.f (Do.ok run_fld (Do.ld Ha 1 rfl rfl (Do.ok (hidx w10) (Do.ok (hld Ha) ?_))))
  refine CallF.ret (f48.enters _ _) (line48_ret w10 (hsi.below Ha.toBelow) hok (by omega)) ?_
  rintro _ w11 ⟨r, rfl, hr, hrl, hb11⟩
  have Hb := Ha.below hb11
  refine Do.ok (run_catW (b := r) rfl (by omega)) (Do.ok run_lenStr ?_)
  rw [strW_size, List.length_append]
  with_reducible refine Do.dec run_gtr (fun hover => ?_) (fun hover => ?_)
  · rw [if_pos (by rcases hr with rfl | ⟨_, h⟩ <;> omega)]
    exact If.t ⟨rfl, Hb.toBelow⟩
  · have hrj : r = joinW (wordsOf s) := by
      rcases hr with h | ⟨h, _⟩
      · exact h
      · omega
    subst hrj
    rw [if_neg (by omega)]
    refine If.f (Do.ok (run_addi (a := (i : Int)) (b := 1) (by omega)) ⟨k - 1, by omega, i + 1, acc ++ joinW (wordsOf s), by omega, rfl, rfl, by rw [List.length_append]; omega, Hb, rfl⟩)
end Go.Proofs.YtdnnamaimgijpaaDoor
