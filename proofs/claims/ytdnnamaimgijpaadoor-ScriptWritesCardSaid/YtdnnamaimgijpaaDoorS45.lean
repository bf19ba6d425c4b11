/- The walk of ScriptWrites, whole. Conditions: none. -/
import Derived.Test.YtdnnamaimgijpaaDoorS44
set_option linter.unusedVariables false
set_option linter.unusedSectionVars false
set_option maxRecDepth 10000
namespace Go.Proofs.YtdnnamaimgijpaaDoor
open Go Go.Sx Go.Proofs Go.Lib Go.RowKit

theorem writes_ret {w : World} (hg : Glb w) {cs : Array Value} {c : Cfg} {ss : List StepV} (hp : PlayIn w cs c ss) : Ret P 4 #[.agg cs] w (retT w) := by
  have hp0 := hp
  obtain ⟨v, xs, rfl, hv, hst⟩ := hp
  refine f4.calls ?_
  unfold f4.f
  refine Do.box (Has.init w) ?_
  intro b1 w1 H1
  have H1 : Has w w1 [plB b1 c v] := H1
  refine Do.ldAll H1 0 rfl rfl ?_
  refine CallF.ret (f14.enters _ _) (beyond_ret w1 (hp0.below H1.toBelow)) ?_
  rintro _ w2 ⟨b, rfl, hbd, hb2⟩
  have H2 := H1.below hb2
  cases b with
  | true => exact If.t ⟨rfl, H2.toBelow⟩
  | false =>
  obtain ⟨hss, hb⟩ := hbd rfl
  refine If.f (CallF.ret (f8.enters _ _) (shown_ret w2 (hg.has H2)) ?_)
  rintro _ w3 ⟨rfl, hb3⟩
  have H3 := H2.below hb3
  refine Do.ldAll H3 0 rfl rfl ?_
  refine CallF.ret (f15.enters _ _) (lent_ret w3 (hp0.below H3.toBelow) hss hb) ?_
  rintro _ w4 ⟨_, _, rfl, ⟨v', xs', Iv, Is, rfl, hl, hsr, rfl⟩, HI⟩
  have H4 := H3.more HI
  refine Do.alloc H4 ?_
  intro b4 w5 H5
  refine DoU.stAll H5 0 rfl rfl rfl (play_flat hl.row.one.2) (fun j _ => open0 _) ?_
  clear H5 H4 HI hb3 hb2 hbd H1 H2 H3
  intro w5 H5
  have H5 : Has w w5 (plB b4 c v' :: ((Iv ++ Is) ++ [plB b1 c v])) := H5
  have hv5 := hv.below H5.toBelow
  have hst5 := hst.sunk H5.toBelow
  have hp5 := hp0.below H5.toBelow
  have hb1 : w5.heap[b1]? = some (.cells (playCells c v) 31 (0, 0)) := (H5.perm (by classical exact List.perm_iff_count.2 (fun a => by simp only [List.count_append, List.count_cons, List.count_nil, List.set_cons_zero, List.set_cons_succ, List.setIfInBounds_toArray, List.cons_append, List.nil_append, List.append_assoc]; omega)) : Has w w5 (plB b1 c v :: (plB b4 c v' :: (Iv ++ Is)))).get 0 rfl
  have hb4 : w5.heap[b4]? = some (.cells (playCells c v') 31 (0, 0)) := H5.get 0 rfl
  have HIv : Has w w5 (Iv ++ (plB b4 c v' :: (Is ++ [plB b1 c v]))) := H5.perm (by classical exact List.perm_iff_count.2 (fun a => by simp only [List.count_append, List.count_cons, List.count_nil, List.set_cons_zero, List.set_cons_succ, List.setIfInBounds_toArray, List.cons_append, List.nil_append, List.append_assoc]; omega))
  have HIs : Has w w5 (Is ++ (plB b4 c v' :: (Iv ++ [plB b1 c v]))) := H5.perm (by classical exact List.perm_iff_count.2 (fun a => by simp only [List.count_append, List.count_cons, List.count_nil, List.set_cons_zero, List.set_cons_succ, List.setIfInBounds_toArray, List.cons_append, List.nil_append, List.append_assoc]; omega))
  have hvl : SlAt 44 5 w5 v' ss.length xs' := Row.reads hl.row HIv
  have hsl : StepsIn w5 ss xs' := hsr.readsL HIs
  have hpl : PlayIn w5 (playCells c v') c ss := ⟨v', xs', rfl, hvl, hsl⟩
  obtain ⟨av, hasl, hav, _⟩ := LRow.more (t := 29) hl HIv
  have hg5 : Glb w5 := hg.has H5
  have H0 := Has.init w5
  refine Do.ok run_fld (Do.ok (run_loadBase H0 hb1 rfl) (Do.ok hv.len (Do.ok run_fld (Do.ok (run_loadBase H0 hb4 rfl) (Do.ok (run_addi (a := (ss.length : Int)) (b := 1) (by omega)) (Do.ok (hasl _) ?_))))))
  refine Do.bs H0 bs39_0 ?_
  intro gl w6 H6
  refine Do.bs H6 bs40_0 ?_
  intro gk w7 H7
  refine ⟨fun k x y z w' => ∃ (i : Nat) (ls ks : List Value) (Il Ik : List (Nat × Obj)), k + i = ss.length ∧ z = .int .i64 i ∧ Row 41 1 x i ls Il ∧ Row 42 1 y i ks Ik ∧
      (∀ j (h : j < ss.length), j < i → ∃ d, ls[j]? = some d ∧ SlAt 5 1 w5 d (ss[j].data.length + 1) (byteCells ss[j].data ++ [.int .u8 165])) ∧
      (∀ j (h : j < ss.length), j < i → ∃ d, ks[j]? = some d ∧ SlAt 3 1 w5 d (ss[j].keep.length + 1) (ints ss[j].keep ++ [.int .i64 (-99)])) ∧ Has w5 w' (Il ++ Ik),
    ⟨ss.length, 0, [], [], _, _, by omega, rfl, row0 41 1 gl, row0 42 1 gk, fun j _ h => absurd h (by omega), fun j _ h => absurd h (by omega), H7.snd⟩, ?_⟩
  clear H7 H6
  rintro k σ w8 ⟨i, ls, ks, Il, Ik, hk, hz, hrl, hrk, hal, hak, H⟩
  rw [hz]
  unfold f4.l0
  refine Do.dec run_lss (fun hlt => If.t ?_) (fun hge => If.f ?_)
  case refine_1 =>
    have hi : i < ss.length := by omega
    obtain ⟨cl, J, A, B, ⟨d, kv, Id, Ikv, rfl, hld, hlk, rfl⟩, hcl, rfl⟩ := hsr.get (fun _ _ _ => StepL.size) i hi
    obtain ⟨bl, ol, al, fl, hwl, hil, hcl'⟩ := hvl.idx (t := 29) (e := 44) hi
    have HId : Has w w5 (Id ++ (Ikv ++ (A ++ (B ++ (plB b4 c v' :: (Iv ++ [plB b1 c v])))))) := HIs.perm (by classical exact List.perm_iff_count.2 (fun a => by simp only [List.count_append, List.count_cons, List.count_nil, List.set_cons_zero, List.set_cons_succ, List.setIfInBounds_toArray, List.cons_append, List.nil_append, List.append_assoc]; omega))
    have HIk : Has w w5 (Ikv ++ (Id ++ (A ++ (B ++ (plB b4 c v' :: (Iv ++ [plB b1 c v])))))) := HIs.perm (by classical exact List.perm_iff_count.2 (fun a => by simp only [List.count_append, List.count_cons, List.count_nil, List.set_cons_zero, List.set_cons_succ, List.setIfInBounds_toArray, List.cons_append, List.nil_append, List.append_assoc]; omega))
    obtain ⟨d2, hd2, hd2s, xd, nd, cd, rfl⟩ := LRow.more (t := 41) hld HId
    obtain ⟨k2, hk2, hk2s, xk, nk, ck, rfl⟩ := LRow.more (t := 42) hlk HIk
    obtain ⟨bp, op, dp, kp, hip, _, hp2, hp4, hdp, hkp⟩ := row5 hv5 hst5 hi
    obtain ⟨hdl, hkl⟩ := hb _ (List.getElem_mem hi)
    have hlsl : ls.length = i := by have := Row.len hrl; omega
    have hksl : ks.length = i := by have := Row.len hrk; omega
    have Hd := H.drew
    refine ⟨fun w' => Has w5 w' [], hasNone Hd, ?_⟩
    refine Take.ok (fun w _ => run_fld) (Take.ok (v := v') (fun w hS => run_loadBase hS hb4 rfl) (Take.ok (fun w _ => hil w) (Take.ok (fun w _ => run_fld) (Take.ok (v := d) (fun w hS => run_loadBase hS hwl ((hcl' 2 (by omega)).trans (hcl 2 (by omega)))) ?_))))
    refine Take.ok (fun w _ => run_fld) (Take.ok (v := v) (fun w hS => run_loadBase hS hb1 rfl) (Take.ok (fun w _ => hip w) (Take.ok (fun w _ => run_fld) (Take.ok (v := dp) (fun w hS => hp2 hS) (Take.ok (fun w _ => hdp.len) (Take.ok (fun w _ => run_addi (b := 1) (by omega)) (Take.ok (fun w _ => hd2 w) ?_)))))))
    refine Do.bs Hd (bs39_1 _ _ _) ?_
    intro g w9 H9
    refine ⟨hasNone H9, ?_⟩
    refine Do.append2 (t := 39) (T := 41) H9 hrl (m := 1) rfl (by simp [Value.oneCell']) (by omega) (by omega) ?_
    intro x2 Il2 w10 hrl2 H10 _
    have Hd2 := H10.drew
    refine ⟨hasNone H10, fun w' => Has w5 w' [], hasNone Hd2, ?_⟩
    refine Take.ok (fun w _ => run_fld) (Take.ok (v := v') (fun w hS => run_loadBase hS hb4 rfl) (Take.ok (fun w _ => hil w) (Take.ok (fun w _ => run_fld) (Take.ok (v := kv) (fun w hS => run_loadBase hS hwl ((hcl' 4 (by omega)).trans (hcl 4 (by omega)))) ?_))))
    refine Take.ok (fun w _ => run_fld) (Take.ok (v := v) (fun w hS => run_loadBase hS hb1 rfl) (Take.ok (fun w _ => hip w) (Take.ok (fun w _ => run_fld) (Take.ok (v := kp) (fun w hS => hp4 hS) (Take.ok (fun w _ => hkp.len) (Take.ok (fun w _ => run_addi (b := 1) (by omega)) (Take.ok (fun w _ => hk2 w) ?_)))))))
    refine Do.bs Hd2 (bs40_1 _ _ _) ?_
    intro g2 w11 H11
    refine ⟨hasNone H11, ?_⟩
    have H11 : Has w5 w11 ((g2, .cells #[.slice xk nk ck] 42 (0, 0)) :: (Ik ++ Il2)) := H11.perm (by classical exact List.perm_iff_count.2 (fun a => by simp only [List.count_append, List.count_cons, List.count_nil, List.set_cons_zero, List.set_cons_succ, List.setIfInBounds_toArray, List.cons_append, List.nil_append, List.append_assoc]; omega))
    refine Do.append2 (t := 40) (T := 42) H11 hrk (m := 1) rfl (by simp [Value.oneCell']) (by omega) (by omega) ?_
    intro y2 Ik2 w12 hrk2 H12 _
    refine ⟨hasNone H12, Do.ok (run_addi (a := (i : Int)) (b := 1) (by omega)) ⟨k - 1, by omega, i + 1, _, _, Il2, Ik2, by omega, rfl, hrl2, hrk2, fun j h hji => ?_, fun j h hji => ?_, H12.swap⟩⟩
    · by_cases e : j = i
      · subst e
        exact ⟨_, by rw [List.getElem?_append_right (by omega), hlsl, Nat.sub_self]; rfl, hd2s⟩
      · obtain ⟨d, h1, h2⟩ := hal j h (by omega)
        exact ⟨d, by rw [List.getElem?_append_left (by omega)]; exact h1, h2⟩
    · by_cases e : j = i
      · subst e
        exact ⟨_, by rw [List.getElem?_append_right (by omega), hksl, Nat.sub_self]; rfl, hk2s⟩
      · obtain ⟨d, h1, h2⟩ := hak j h (by omega)
        exact ⟨d, by rw [List.getElem?_append_left (by omega)]; exact h1, h2⟩
  have hi : i = ss.length := by omega
  subst hi
  refine Do.ok (ldBase4 H hb4 rfl) ?_
  refine CallF.ret (f16.enters _ _) (print_ret' _ c ss w8 (hg5.has H) (hpl.below H.toBelow) hb) ?_
  rintro _ w9 ⟨rfl, hb9⟩
  have Ha := H.below hb9
  refine Do.ok (run_ext rfl) (Do.ok (run_ext rfl) (Do.ok (ldBase4 Ha hb4 rfl) ?_))
  refine CallF.ret (f16.enters _ _) (print_ret' _ c ss w9 (hg5.has Ha) (hpl.below Ha.toBelow) hb) ?_
  rintro _ w10 ⟨rfl, hb10⟩
  have Hb := Ha.below hb10
  have hlent : Lent w10 (σ 7) (σ 8) av ss := ⟨⟨xs', hav.below Hb.toBelow, hsl.sunk Hb.toBelow⟩,
    ⟨ls, Row.reads hrl Hb, fun j h => by obtain ⟨d, h1, h2⟩ := hal j h h; exact ⟨d, h1, h2.below Hb.toBelow⟩⟩,
    ⟨ks, Row.reads hrk Hb.swap, fun j h => by obtain ⟨d, h1, h2⟩ := hak j h h; exact ⟨d, h1, h2.below Hb.toBelow⟩⟩⟩
  refine Do.ok (run_ext rfl) (Do.ok (run_ext rfl) (Do.ok (ldBase4 Hb hb1 rfl) ?_))
  refine CallF.ret (f17.enters _ _) (still_ret w10 (hp5.below Hb.toBelow) hlent hss hb) ?_
  rintro _ w11 ⟨rfl, hb11⟩
  have Hc := Hb.below hb11
  refine Do.ok (ldBase4 Hc hb1 rfl) ?_
  refine CallF.ret (f18.enters _ _) (refPrint_ret _ c ss w11 (hp5.below Hc.toBelow)) ?_
  rintro _ w12 ⟨rfl, hb12⟩
  have Hd := Hc.below hb12
  refine Do.ok (run_ext rfl) (Do.ok (run_ext rfl) (Do.ok run_notT ?_))
  refine GuardK.ff (GuardK.ff (Do.ok run_notT (Do.ok run_pickF ?_)))
  refine GuardK.ff (GuardK.ff (GuardK.ff (Do.ok nes_same (Do.ok run_pickF ?_))))
  refine GuardK.ff (GuardK.ff (GuardK.ff (Do.ok nes_same (Do.ok run_pickF ?_))))
  refine GuardK.ff (GuardK.ff (GuardK.ff (Do.ok nei_same (Do.ok run_pickF ?_))))
  refine GuardK.ff (GuardK.ff (GuardK.ff (Do.ok nei_same (Do.ok run_pickF (If.f ?_)))))
  refine Do.ok (ldBase4 Hd hb1 rfl) ?_
  refine CallF.ret (f19.enters _ _) (owned_ret w12 (hp5.below Hd.toBelow) hss hb) ?_
  rintro _ w13 ⟨_, _, rfl, ⟨vT, xsT, IvT, IsT, rfl, hrT, hsT, rfl⟩, HT⟩
  have H13 := (H5.below Hd.toBelow).more HT
  refine Do.alloc H13 ?_
  intro b17 w14 H14
  refine DoU.stAll H14 0 rfl rfl rfl (play_flat hrT.one.2) (fun j _ => open0 _) ?_
  intro w15 H15
  have H15 : Has w w15 (plB b17 c vT :: ((IvT ++ IsT) ++ (plB b4 c v' :: ((Iv ++ Is) ++ [plB b1 c v])))) := H15
  have H15 : Has w w15 ((IsT ++ Is) ++ (plB b17 c vT :: plB b4 c v' :: plB b1 c v :: (IvT ++ Iv))) := H15.perm (by classical exact List.perm_iff_count.2 (fun a => by simp only [List.count_append, List.count_cons, List.count_nil, List.set_cons_zero, List.set_cons_succ, List.setIfInBounds_toArray, List.cons_append, List.nil_append, List.append_assoc]; omega))
  exact writes_turn hg hv hst hss hb hrT hl.row H15.right
end Go.Proofs.YtdnnamaimgijpaaDoor
