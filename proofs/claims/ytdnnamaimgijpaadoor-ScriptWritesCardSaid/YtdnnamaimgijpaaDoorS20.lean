/- shown, beyond. Conditions: none. -/
import Derived.Test.YtdnnamaimgijpaaDoorS19
set_option linter.unusedVariables false
set_option linter.unusedSectionVars false
set_option maxRecDepth 10000
namespace Go.Proofs.YtdnnamaimgijpaaDoor
open Go Go.Sx Go.Proofs Go.Lib Go.RowKit

theorem build28c (w : World) : (Instr.build 28 #[(0, .int .i64 100), (1, .int .i64 256), (2, .int .i64 4096)]).run P w = .ok (.agg shownC.cells) w := by kernel_rfl
theorem shown_sl1 (w : World) : (Instr.sliceAt 9 (.string shownT) none (some (.int .i64 19)) none).run P w = .ok (.string (shownT.extract 0 19)) w :=
  run_sliceStr (P := P) (w := w) (t := 9) (a := 0) (b := 19) (.inr ⟨rfl, rfl⟩) (.inl rfl) (by omega) (Nat.le_of_ble_eq_true (by kernel_rfl))
theorem shown_sl2 (w : World) : (Instr.sliceAt 9 (.string shownT) (some (.int .i64 30)) none none).run P w = .ok (.string (shownT.extract 30 shownT.size)) w :=
  run_sliceStr (P := P) (w := w) (t := 9) (a := 30) (b := shownT.size) (.inl rfl) (.inr ⟨rfl, rfl⟩) (Nat.le_of_ble_eq_true (by kernel_rfl)) (Nat.le_refl _)
theorem shown_cat (w : World) : (binOp .add 9 (.string (shownT.extract 0 19)) (.string (shownT.extract 30 shownT.size))).run P w = .ok (.string (shownT.extract 0 19 ++ shownT.extract 30 shownT.size)) w :=
  run_cat (Nat.le_of_ble_eq_true (by kernel_rfl))
theorem ext28 (c : Cfg) (v : Value) : (playCells c v).extract 0 (0 + 3) = c.cells := rfl
theorem Do.ldCfg {w0 w : World} {L : List (Nat × Obj)} {K : Value → World → Prop} {X : List PanicEntry → World → Prop} (H : Has w0 w L) (i : Nat) {b : Nat} {c : Cfg} {v : Value} (hi : L[i]? = some (b, .cells (playCells c v) 31 (0, 0))) (k : K (.agg c.cells) w) : Do P (Instr.loadAt 28 (.pointer (some ⟨b, 0 + 0, none⟩))) w K X :=
  Do.ldN H i hi (Nat.le_of_ble_eq_true rfl) (by rw [ext28]; exact k)
theorem shown_ret (w : World) (hg : Glb w) : Ret P 8 #[] w (fun v w' => v = .bool true ∧ Below w.heap.size w w') := by
  refine f8.calls ?_
  unfold f8.f
  refine CallF.ret (f9.enters _ _) (parse_ret' shownT w hg) ?_
  rintro _ w1 ⟨cs, I, rfl, hp, H1⟩
  rw [shown_parse] at hp ⊢
  refine Do.ok (run_ext rfl) (Do.ok (run_ext rfl) (Do.ok (run_ext rfl) (Do.alloc H1 ?_)))
  intro b2 w2 H2
  obtain ⟨v, xs, Iv, Is, rfl, hr, hst, rfl⟩ := hp
  refine DoU.stAll H2 0 rfl rfl rfl (play_flat (Row.one hr).2) (fun j _ => open0 _) ?_
  intro w3 H3
  have H3 : Has w w3 ((b2, .cells (playCells shownC v) 31 (0, 0)) :: (Iv ++ Is)) := H3
  have hp : PlayAt (playCells shownC v) shownC shownS (Iv ++ Is) := ⟨v, xs, Iv, Is, rfl, hr, hst, rfl⟩
  refine Do.dec run_nei (fun h => absurd rfl h) (fun _ => GuardK.ff (GuardK.ff (Do.dec run_nei (fun h => absurd rfl h) (fun _ => Do.ok run_pickF ?_))))
  obtain ⟨b, hne, hbc⟩ := ne28 shownC shownC (.tmp 25) (.tmp 26) w3
  have hbf : b = false := hbc.2 rfl
  rw [hbf] at hne
  refine GuardK.ff (Do.ok run_fld (GuardK.ff (Do.ldCfg H3 0 rfl (GuardK.ff (Do.ok (build28c w3) (GuardK.ff (Do.ok hne (Do.ok run_pickF ?_))))))))
  have hlen : ∀ w, (Builtin.len_ #[29] 3 #[v]).run P w = .ok (.int .i64 3) w := fun w => Row.lenV hr
  refine GuardK.ff (Do.ok run_fld (GuardK.ff (Do.ld H3 0 rfl rfl (GuardK.ff (Do.ok (hlen w3) (GuardK.ff (Do.dec run_nei (fun h => absurd rfl h) (fun _ => Do.ok run_pickF (If.f ?_)))))))))
  have H3' : Has w w3 ((Iv ++ Is) ++ [(b2, .cells (playCells shownC v) 31 (0, 0))]) := H3.perm (by classical exact List.perm_iff_count.2 (fun a => by simp only [List.count_append, List.count_cons, List.count_nil, List.set_cons_zero, List.set_cons_succ, List.setIfInBounds_toArray, List.cons_append, List.nil_append, List.append_assoc]; omega))
  have H3i : Has w w3 (Iv ++ (Is ++ [(b2, .cells (playCells shownC v) 31 (0, 0))])) := by rw [← List.append_assoc]; exact H3'
  have hv := Row.reads hr H3i
  have hsin := hst.reads H3i.swap3
  obtain ⟨bb, o, c1, fz, hw, hidx, hcs⟩ := hv.idx (t := 29) (e := 44) (i := 1) (by decide)
  obtain ⟨sc, hsi, hsc⟩ := hsin.get 1 (by decide)
  have hsi : StepIn w3 sc ⟨2, 1, [97, 32, 0, 13, 10], 3, [0, 7]⟩ := hsi
  refine Do.ok run_fld (Do.ld H3 0 rfl rfl (Do.ok (hidx w3) (Do.ok (load5 (Has.init w3) hw hsi.size (fun j hj => (hcs j hj).trans (hsc j hj))) (Do.alloc H3' ?_))))
  intro b5 w4 H4
  refine DoU.stAll H4 0 rfl rfl hsi.size hsi.flat (fun j _ => open0 _) ?_
  intro w5 H5
  have H5 : Has w w5 ((b5, .cells sc 44 (0, 0)) :: ((Iv ++ Is) ++ [(b2, .cells (playCells shownC v) 31 (0, 0))])) := H5
  have H5' : Has w w5 ((Iv ++ Is) ++ [(b2, .cells (playCells shownC v) 31 (0, 0)), (b5, .cells sc 44 (0, 0))]) := H5.perm (by classical exact List.perm_iff_count.2 (fun a => by simp only [List.count_append, List.count_cons, List.count_nil, List.set_cons_zero, List.set_cons_succ, List.setIfInBounds_toArray, List.cons_append, List.nil_append, List.append_assoc]; omega))
  have H5b : Has w w5 ((b2, .cells (playCells shownC v) 31 (0, 0)) :: (b5, .cells sc 44 (0, 0)) :: (Iv ++ Is)) := H5.perm (by classical exact List.perm_iff_count.2 (fun a => by simp only [List.count_append, List.count_cons, List.count_nil, List.set_cons_zero, List.set_cons_succ, List.setIfInBounds_toArray, List.cons_append, List.nil_append, List.append_assoc]; omega))
  refine Do.ldAll H5b 0 rfl rfl ?_
  refine CallF.ret (f16.enters _ _) (print_ret' _ shownC shownS w5 (hg.has H5) (hp.reads H5') ?_) ?_
  · intro s hs
    simp only [shownS, List.mem_cons, List.not_mem_nil, or_false] at hs
    rcases hs with rfl | rfl | rfl <;> decide
  rintro _ w6 ⟨rfl, hb6⟩
  have H6 := H5b.below hb6
  rw [shown_print]
  refine Do.ok (run_ext rfl) (Do.ok (run_ext rfl) ?_)
  refine CallF.ret (f9.enters _ _) (parse_ret' shownT2 w6 (hg.has H6)) ?_
  rintro _ w7 ⟨cs2, I2, rfl, hp2, H7⟩
  have H7 := H6.more H7
  rw [shown_parse2] at hp2 ⊢
  refine Do.ok (run_ext rfl) (Do.ok (run_ext rfl) (Do.ok (run_ext rfl) (Do.alloc H7 ?_)))
  intro b8 w8 H8
  obtain ⟨v2, xs2, Iv2, Is2, rfl, hr2, _, _⟩ := hp2
  refine DoU.stAll H8 0 rfl rfl rfl (play_flat (Row.one hr2).2) (fun j _ => open0 _) ?_
  intro w9 H9
  have H9 : Has w w9 ((b8, .cells (playCells cfg0 v2) 31 (0, 0)) :: (I2 ++ ((b2, .cells (playCells shownC v) 31 (0, 0)) :: (b5, .cells sc 44 (0, 0)) :: (Iv ++ Is)))) := H9
  have H9 : Has w (drewW w9) ((b5, .cells sc 44 (0, 0)) :: ((Iv ++ Is) ++ ((b2, .cells (playCells shownC v) 31 (0, 0)) :: (b8, .cells (playCells cfg0 v2) 31 (0, 0)) :: I2))) := H9.drew.perm (by classical exact List.perm_iff_count.2 (fun a => by simp only [List.count_append, List.count_cons, List.count_nil, List.set_cons_zero, List.set_cons_succ, List.setIfInBounds_toArray, List.cons_append, List.nil_append, List.append_assoc]; omega))
  generalize drewW w9 = w10 at *
  have H9i : Has w w10 (Is ++ (Iv ++ ((b2, .cells (playCells shownC v) 31 (0, 0)) :: (b8, .cells (playCells cfg0 v2) 31 (0, 0)) :: (b5, .cells sc 44 (0, 0)) :: I2))) := H9.perm (by classical exact List.perm_iff_count.2 (fun a => by simp only [List.count_append, List.count_cons, List.count_nil, List.set_cons_zero, List.set_cons_succ, List.setIfInBounds_toArray, List.cons_append, List.nil_append, List.append_assoc]; omega))
  obtain ⟨sc', hsi', hsc'⟩ := (hst.reads H9i).get 1 (by decide)
  have hsi' : StepIn w10 sc' ⟨2, 1, [97, 32, 0, 13, 10], 3, [0, 7]⟩ := hsi'
  have esc : sc = sc' := by
    apply Array.ext_getElem?
    intro j
    by_cases hj : j < 5
    · exact (hsc j hj).symm.trans (hsc' j hj)
    · rw [Array.getElem?_eq_none (by rw [hsi.size]; omega), Array.getElem?_eq_none (by rw [hsi'.size]; omega)]
  subst esc
  obtain ⟨d, k, rfl, hd, hk⟩ := hsi'
  obtain ⟨bk, ok, ck, fk, hkb, hki, hkc⟩ := hk.int (i := 1) (by decide)
  refine ⟨fun w' => w' = w10, rfl, ?_⟩
  have hb5 := H9.get 0 rfl
  have ld : ∀ {t o : Nat} {z : Value} {by_ : Nat} [Ty P t false 1 z by_] {v : Value}, (cells5 2 1 d 3 k)[o]? = some v → ∀ w, w = w10 → (Instr.loadAt t (.pointer (some ⟨b5, o, none⟩))).run P w = .ok v w := by
    rintro t o z by_ _ v h w rfl
    exact run_load1 ((cell_of_blk hb5 o).trans h)
  refine Take.ok (fun w _ => run_fld) (Take.ok (ld (t := 3) (o := 0 + 0) (v := .int .i64 2) rfl) (Take.dec (fun _ => run_eqi) (fun _ => ?_) (fun h => absurd rfl h)))
  refine GuardT.tt (Take.ok (fun w _ => run_fld) (GuardT.tt (Take.ok (ld (t := 3) (o := 0 + 1) (v := .int .i64 1) rfl) (GuardT.tt (Take.dec (fun _ => run_eqi) (fun _ => Take.ok (fun _ _ => run_pickT) ?_) (fun h => absurd rfl h))))))
  refine GuardT.tt (Take.ok (fun w _ => run_fld) (GuardT.tt (Take.ok (ld (t := 41) (o := 0 + 2) (v := d) rfl) (GuardK.tt (Do.ok (run_toStrSl (Has.init w10) hd) ⟨rfl, ?_⟩)))))
  refine GuardT.tt (Take.dec (fun _ => run_eqs) (fun _ => Take.ok (fun _ _ => run_pickT) ?_) (fun h => absurd rfl h))
  refine GuardT.tt (Take.ok (fun w _ => run_fld) (GuardT.tt (Take.ok (ld (t := 3) (o := 0 + 3) (v := .int .i64 3) rfl) (GuardT.tt (Take.dec (fun _ => run_eqi) (fun _ => Take.ok (fun _ _ => run_pickT) ?_) (fun h => absurd rfl h))))))
  refine GuardT.tt (Take.ok (fun w _ => run_fld) (GuardT.tt (Take.ok (ld (t := 42) (o := 0 + 4) (v := k) rfl) (GuardT.tt (Take.ok (fun w _ => hk.len) (GuardT.tt (Take.dec (fun _ => run_eqi) (fun _ => Take.ok (fun _ _ => run_pickT) ?_) (fun h => absurd rfl h))))))))
  refine GuardT.tt (Take.ok (fun w _ => run_fld) (GuardT.tt (Take.ok (ld (t := 42) (o := 0 + 4) (v := k) rfl) (GuardT.tt (Take.ok (fun w _ => hki w) (GuardT.tt (Take.ok (v := .int .i64 7) (fun w hS => by rw [hS]; exact run_loadBase (Has.init w10) hkb hkc) (GuardT.tt (Take.dec (fun _ => run_eqi) (fun _ => Take.ok (fun _ _ => run_pickT) ?_) (fun h => absurd rfl h))))))))))
  refine GuardT.tt (GuardT.tt (Take.dec (fun _ => run_eqi) (fun _ => Take.ok (fun _ _ => run_pickT) ?_) (fun h => absurd rfl h)))
  refine GuardT.tt (GuardT.tt (GuardT.tt (Take.ok (fun w _ => shown_sl1 w) (GuardT.tt (GuardT.tt (Take.ok (fun w _ => shown_sl2 w) (GuardT.tt (Take.ok (fun w _ => shown_cat w) (GuardT.tt (Take.dec (fun _ => run_eqs) (fun _ => Take.ok (fun _ _ => run_pickT) ?_) (fun h => absurd rfl h)))))))))))
  refine GuardT.tt (GuardT.tt (Take.dec (fun _ => run_eqi) (fun _ => Take.ok (fun _ _ => run_pickT) ?_) (fun h => absurd rfl h)))
  refine GuardT.tt (GuardT.tt (Take.dec (fun _ => run_eqi) (fun _ => Take.ok (fun _ _ => run_pickT) ?_) (fun h => absurd rfl h)))
  exact ⟨rfl, H9.toBelow⟩
end Go.Proofs.YtdnnamaimgijpaaDoor
