/- The walk of ScriptWrites. Conditions: none. -/
import Derived.Test.YtdnnamaimgijpaaDoorS43
set_option linter.unusedVariables false
set_option linter.unusedSectionVars false
set_option maxRecDepth 10000
namespace Go.Proofs.YtdnnamaimgijpaaDoor
open Go Go.Sx Go.Proofs Go.Lib Go.RowKit

theorem eqs_same {x y : Operand} {a : ByteArray} {w : World} : (binS .eql 9 x y (.string a) (.string a)).run P w = .ok (.bool true) w := by rw [run_eqs]; simp
theorem eqi_same {t : TypeId} {x y : Operand} {k : IntKind} {a : Int} {w : World} : (binS .eql t x y (.int k a) (.int k a)).run P w = .ok (.bool true) w := by rw [run_eqi]; simp
theorem hasNone {w0 w : World} {L : List (Nat × Obj)} (H : Has w0 w L) : Has w0 w [] := H.sub (List.nil_sublist _)
/-- The second part: the steps turned round. -/
theorem writes_turn {w w13 : World} (hg : Glb w) {c : Cfg} {ss : List StepV} {v vT v' : Value} {xs xsT xsI : List Value} {IT II : List (Nat × Obj)} {b1 b4 b17 : Nat} (hv : SlAt 44 5 w v ss.length xs) (hst : StepsIn w ss xs)
    (hss : ss.length ≤ 2147483647) (hb : ∀ s ∈ ss, s.data.length ≤ 2147483647 ∧ s.keep.length ≤ 2147483647) (hT : SRow vT ss.length xsT IT) (hI : SRow v' ss.length xsI II)
    (H : Has w w13 (plB b17 c vT :: plB b4 c v' :: plB b1 c v :: (IT ++ II))) :
    ∃ I_1 : Nat → Value → World → Prop, (∃ k, I_1 k (Value.int IntKind.i64 0) w13) ∧ ∀ (k_1 : Nat) (σ : Env) (w' : World), I_1 k_1 (σ 18) w' →
f4.l1 (fun _ _ => False) (fun (y18 : Value) w => ∃ k', k' < k_1 ∧ I_1 k' y18 w) (fun w' =>
Do P (Instr.loadAt 31 (pt b4)) w' (fun t157 w' =>
CallF P 16 [t157] w' (fun t158 w' =>
Do P (Instr.extract t158 0) w' (fun t159 w' =>
Do P (Instr.extract t158 1) w' (fun t160 w' =>
Do P (Instr.loadAt 31 (pt b17)) w' (fun t162 w' =>
CallF P 18 [t162] w' (fun t163 w' =>
Do P (Instr.extract t163 0) w' (fun t164 w' =>
Do P (Instr.extract t163 1) w' (fun t165 w' =>
Do P (binS BinOp.eql 9 (Operand.tmp 166) (Operand.tmp 167) t159 t164) w' (fun t168 w' =>
GuardK t168 true (fun K => K t160 w') w' fun t170 w' =>
GuardK t168 true (fun K => K t165 w') w' fun t171 w' =>
GuardK t168 true (fun K => Do P (binS BinOp.eql 32 (Operand.tmp 170) (Operand.tmp 171) t170 t171) w' K (fun _ _ => False)) w' fun t172 w' =>
Do P (pickS t168 t172 (Value.bool false)) w' (fun t173 w' =>
retT w t173 w') (fun _ _ => False)) (fun _ _ => False)) (fun _ _ => False)) (fun _ _ => False)) (fun _ _ => False)) (fun _ _ => False)) (fun _ _ => False)) (fun _ _ => False)) (fun _ _ => False)) (fun _ _ => False)) (pt b1) (pt b4) (pt b17) (.int .i64 ss.length) (σ 18) w' := by
  refine ⟨fun k x w' => ∃ (i : Nat) (xT xI : List Value) (IT II : List (Nat × Obj)), k + i = ss.length ∧ x = .int .i64 i ∧ SRow vT ss.length xT IT ∧ SRow v' ss.length xI II ∧
      (∀ j (h : j < ss.length), j < i → ∃ c5, StepIn w c5 ss[ss.length - 1 - j] ∧ (∀ q, q < 5 → xT[j * 5 + q]? = c5[q]?) ∧ ∀ q, q < 5 → xI[j * 5 + q]? = c5[q]?) ∧
      Has w w' (plB b17 c vT :: plB b4 c v' :: plB b1 c v :: (IT ++ II)), ⟨ss.length, 0, xsT, xsI, IT, II, by omega, rfl, hT, hI, fun j _ h => absurd h (by omega), H⟩, ?_⟩
  clear H hT hI
  rintro k σ w14 ⟨i, xT, xI, IT, II, hk, hx, hT, hI, hall, H⟩
  rw [hx]
  unfold f4.l1
  refine Do.dec run_lss (fun hlt => If.t ?_) (fun hge => If.f ?_)
  case refine_2 =>
    have hi : i = ss.length := by omega
    subst hi
    have hT2 := Row.reads hT (H.perm (by classical exact List.perm_iff_count.2 (fun a => by simp only [List.count_append, List.count_cons, List.count_nil, List.set_cons_zero, List.set_cons_succ, List.setIfInBounds_toArray, List.cons_append, List.nil_append, List.append_assoc]; omega)) : Has w w14 (IT ++ (plB b17 c vT :: plB b4 c v' :: plB b1 c v :: II)))
    have hI2 := Row.reads hI (H.perm (by classical exact List.perm_iff_count.2 (fun a => by simp only [List.count_append, List.count_cons, List.count_nil, List.set_cons_zero, List.set_cons_succ, List.setIfInBounds_toArray, List.cons_append, List.nil_append, List.append_assoc]; omega)) : Has w w14 (II ++ (plB b17 c vT :: plB b4 c v' :: plB b1 c v :: IT)))
    have hrev : ss.reverse.length = ss.length := List.length_reverse
    have sT : StepsIn w14 ss.reverse xT := StepsIn.of_get (by rw [hrev]; exact Row.len hT) fun i hi => by
      rw [hrev] at hi
      obtain ⟨c5, h1, h2, _⟩ := hall i hi hi
      exact ⟨c5, by rw [List.getElem_reverse]; exact h1.below H.toBelow, h2⟩
    have sI : StepsIn w14 ss.reverse xI := StepsIn.of_get (by rw [hrev]; exact Row.len hI) fun i hi => by
      rw [hrev] at hi
      obtain ⟨c5, h1, _, h2⟩ := hall i hi hi
      exact ⟨c5, by rw [List.getElem_reverse]; exact h1.below H.toBelow, h2⟩
    have pT : PlayIn w14 (playCells c vT) c ss.reverse := ⟨vT, xT, rfl, by rw [hrev]; exact hT2, sT⟩
    have pI : PlayIn w14 (playCells c v') c ss.reverse := ⟨v', xI, rfl, by rw [hrev]; exact hI2, sI⟩
    refine Do.ldAll H 1 rfl rfl ?_
    refine CallF.ret (f16.enters _ _) (print_ret' _ c ss.reverse w14 (hg.has H) pI fun s hs => hb s (List.mem_reverse.1 hs)) ?_
    rintro _ w15 ⟨rfl, hb15⟩
    have Ha := H.below hb15
    refine Do.ok (run_ext rfl) (Do.ok (run_ext rfl) (Do.ldAll Ha 0 rfl rfl ?_))
    refine CallF.ret (f18.enters _ _) (refPrint_ret _ c ss.reverse w15 (pT.below hb15)) ?_
    rintro _ w16 ⟨rfl, hb16⟩
    have Hb := Ha.below hb16
    refine Do.ok (run_ext rfl) (Do.ok (run_ext rfl) (Do.ok eqs_same (GuardK.tt (GuardK.tt (GuardK.tt (Do.ok eqi_same (Do.ok run_pickT ⟨rfl, Hb.toBelow⟩)))))))
  have hi : i < ss.length := by omega
  have hj : ss.length - 1 - i < ss.length := by omega
  have ej : ((ss.length : Int) - 1 - (i : Int)) = ((ss.length - 1 - i : Nat) : Int) := by omega
  obtain ⟨bp, op, dp, kp, hip, hld, _, _, hdp, hkp⟩ := row5 hv hst hj
  have hc5 : StepIn w (cells5 ss[ss.length - 1 - i].kind ss[ss.length - 1 - i].conn dp ss[ss.length - 1 - i].brk kp) ss[ss.length - 1 - i] := ⟨dp, kp, rfl, hdp, hkp⟩
  have hfl := hc5.flat
  generalize hcc : cells5 ss[ss.length - 1 - i].kind ss[ss.length - 1 - i].conn dp ss[ss.length - 1 - i].brk kp = cc at *
  have hcz : cc.size = 5 := hc5.size
  obtain ⟨gT, hgT, stT⟩ := DoU.st5 hT hi
  obtain ⟨gI, hgI, stI⟩ := DoU.st5 hI hi
  have Hd := H.drew
  refine ⟨fun w' => Has w w' [plB b17 c vT, plB b4 c v', plB b1 c v], (Hd.sub (List.Sublist.cons_cons _ (List.Sublist.cons_cons _ (List.Sublist.cons_cons _ (List.nil_sublist _))))), ?_⟩
  refine Take.ok (fun w _ => run_fld) (Take.ok (v := vT) (fun w hS => run_load1 ((cell_of_blk (hS.get 0 rfl) _).trans rfl)) (Take.ok (fun w _ => run_fld) (Take.ok (v := v) (fun w hS => run_load1 ((cell_of_blk (hS.get 2 rfl) _).trans rfl)) ?_)))
  refine Take.ok (fun w _ => run_subi (by omega)) (Take.ok (fun w _ => run_subi (by omega)) ?_)
  rw [ej]
  refine Take.ok (fun w _ => hip w) (Take.ok (v := .agg cc) (fun w hS => hld hS) (Take.ok (fun w _ => hgT w) ?_))
  refine stT (L := plB b17 c vT :: plB b4 c v' :: plB b1 c v :: II) (w0 := w) (Hd.perm (by classical exact List.perm_iff_count.2 (fun a => by simp only [List.count_append, List.count_cons, List.count_nil, List.set_cons_zero, List.set_cons_succ, List.setIfInBounds_toArray, List.cons_append, List.nil_append, List.append_assoc]; omega))) hcz hfl ?_
  intro IT2 w15 hT2 H15
  have H15 : Has w w15 (plB b17 c vT :: plB b4 c v' :: plB b1 c v :: (IT2 ++ II)) := H15.perm (by classical exact List.perm_iff_count.2 (fun a => by simp only [List.count_append, List.count_cons, List.count_nil, List.set_cons_zero, List.set_cons_succ, List.setIfInBounds_toArray, List.cons_append, List.nil_append, List.append_assoc]; omega))
  have Hd2 := H15.drew
  refine ⟨fun w' => Has w w' [plB b17 c vT, plB b4 c v', plB b1 c v], (Hd2.sub (List.Sublist.cons_cons _ (List.Sublist.cons_cons _ (List.Sublist.cons_cons _ (List.nil_sublist _))))), ?_⟩
  refine Take.ok (fun w _ => run_fld) (Take.ok (v := v') (fun w hS => run_load1 ((cell_of_blk (hS.get 1 rfl) _).trans rfl)) (Take.ok (fun w _ => run_fld) (Take.ok (v := v) (fun w hS => run_load1 ((cell_of_blk (hS.get 2 rfl) _).trans rfl)) ?_)))
  refine Take.ok (fun w _ => run_subi (by omega)) (Take.ok (fun w _ => run_subi (by omega)) ?_)
  rw [ej]
  refine Take.ok (fun w _ => hip w) (Take.ok (v := .agg cc) (fun w hS => hld hS) (Take.ok (fun w _ => hgI w) ?_))
  refine stI (L := plB b17 c vT :: plB b4 c v' :: plB b1 c v :: IT2) (w0 := w) (Hd2.perm (by classical exact List.perm_iff_count.2 (fun a => by simp only [List.count_append, List.count_cons, List.count_nil, List.set_cons_zero, List.set_cons_succ, List.setIfInBounds_toArray, List.cons_append, List.nil_append, List.append_assoc]; omega))) hcz hfl ?_
  intro II2 w16 hI2 H16
  have H16 : Has w w16 (plB b17 c vT :: plB b4 c v' :: plB b1 c v :: (IT2 ++ II2)) := H16.perm (by classical exact List.perm_iff_count.2 (fun a => by simp only [List.count_append, List.count_cons, List.count_nil, List.set_cons_zero, List.set_cons_succ, List.setIfInBounds_toArray, List.cons_append, List.nil_append, List.append_assoc]; omega))
  refine Do.ok (run_addi (a := (i : Int)) (b := 1) (by omega)) ⟨k - 1, by omega, i + 1, _, _, IT2, II2, by omega, rfl, hT2, hI2, fun j h hji => ?_, H16⟩
  by_cases e : j = i
  · subst e
    exact ⟨cc, hc5, fun q hq => put5_at (Row.len hT) hi hcz hq, fun q hq => put5_at (Row.len hI) hi hcz hq⟩
  · obtain ⟨c5, h1, h2, h3⟩ := hall j h (by omega)
    exact ⟨c5, h1, fun q hq => (put5_lt (Row.len hT) hi (by omega)).trans (h2 q hq), fun q hq => (put5_lt (Row.len hI) hi (by omega)).trans (h3 q hq)⟩
end Go.Proofs.YtdnnamaimgijpaaDoor
