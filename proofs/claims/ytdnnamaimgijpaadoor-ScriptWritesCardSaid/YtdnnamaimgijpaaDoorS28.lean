/- The walk of ScriptBack. Conditions: none. -/
import Derived.Test.YtdnnamaimgijpaaDoorS27
set_option linter.unusedVariables false
set_option linter.unusedSectionVars false
set_option maxRecDepth 100000
namespace Go.Proofs.YtdnnamaimgijpaaDoor
open Go Go.Sx Go.Proofs Go.Lib Go.RowKit

theorem len1_esc (l : List UInt8) : l.length ≤ (l.flatMap esc).length := by
  induction l with
  | nil => simp
  | cons c l ih =>
    rw [List.flatMap_cons, List.length_append, List.length_cons]
    have : 1 ≤ (esc c).length := by
      unfold esc
      repeat' split
      all_goals simp
    omega
theorem step_small {s : StepV} (h : StepOk s) : s.data.length ≤ (joinW (wordsOf s)).length ∧ s.keep.length ≤ (joinW (wordsOf s)).length := by
  rw [joinW_len (by simp [wordsOf])]
  unfold wordsOf
  rw [lenB_cons, lenB_append, lenB_append, lenB_append]
  constructor
  · by_cases h2 : s.kind = 2
    · rw [dataWs, if_pos h2, lenB_cons]
      have e : (⟨(dataV s.data).toArray⟩ : ByteArray).size = (dataV s.data).length := by show (dataV s.data).toArray.size = _; simp
      have := len1_esc s.data
      rw [e, dataV, List.length_cons]
      omega
    · have hb := h.bare
      unfold bareB at hb
      simp only [Bool.or_eq_false_iff, Bool.and_eq_false_iff, Bool.not_eq_false', decide_eq_false_iff_not, Decidable.not_not] at hb
      rcases hb.1.1.1.2 with h | h
      · exact absurd h h2
      · omega
  · by_cases h0 : s.keep = []
    · simp [h0]
    · rw [keepWs, if_neg h0, lenB_cons]
      have : s.keep.length ≤ lenB (s.keep.map dec) := by
        generalize s.keep = l
        induction l with
        | nil => simp
        | cons x l ih => rw [List.map_cons, lenB_cons, List.length_cons]; omega
      omega
theorem flat_mem {s : StepV} : ∀ {ss : List StepV}, s ∈ ss → (joinW (wordsOf s)).length ≤ (flatW ss).length
  | x :: ss, h => by
    rw [flatW_cons, List.length_append]
    rcases List.mem_cons.1 h with rfl | h
    · omega
    · have := flat_mem h; omega
theorem read_small {s : ByteArray} (he : (parseP s).err = 0) : (∀ x ∈ (parseP s).steps, x.data.length ≤ 2147483647 ∧ x.keep.length ≤ 2147483647) ∧ (parseP s).steps.length ≤ 4000 := by
  obtain ⟨h0, h1, h2, h3, h4, h5⟩ := print_parse he
  refine ⟨fun x hx => ?_, h3⟩
  have a := step_small (h2 x hx)
  have b := flat_mem hx
  rw [List.length_append] at h4
  omega
def retT (w0 : World) : Value → World → Prop := fun r w' => r = .bool true ∧ Below w0.heap.size w0 w'
theorem out_eta {o : Out} {c : Cfg} {ss : List StepV} {l e : Int} (h : o = ⟨c, ss, l, e⟩) : o.cfg = c ∧ o.steps = ss ∧ o.line = l ∧ o.err = e := by subst h; exact ⟨rfl, rfl, rfl, rfl⟩
/-- A play that Parse handed out, stored: what reads so. -/
theorem PlayAt.shape {cs : Array Value} {c : Cfg} {ss : List StepV} {I : List (Nat × Obj)} (h : PlayAt cs c ss I) : cs.size = 4 ∧ ∀ x ∈ cs.toList, ∀ q, x ≠ .agg q ∧ x ≠ .tuple q := by
  obtain ⟨v, xs, Iv, Is, rfl, hr, _, _⟩ := h
  exact ⟨rfl, play_flat (Row.one hr).2⟩
theorem back_j0 {w0 w : World} (hg : Glb w0) (hb : Below w0.heap.size w0 w) (text : ByteArray) : f5.j0 (retT w0) (fun _ _ => False) (.string text) (.bool true) w := by
  have H := (Has.init w0).below hb
  unfold f5.j0
  refine CallF.ret (f9.enters _ _) (parse_ret' text w (hg.below hb)) ?_
  rintro _ w1 ⟨cs, I, rfl, hp, H1⟩
  have H1 : Has w0 w1 (I ++ []) := H.more H1
  refine Do.ok (run_ext rfl) (Do.ok (run_ext rfl) (Do.ok (run_ext rfl) (Do.alloc H1 ?_)))
  intro b12 w2 H2
  refine DoU.stAll H2 0 rfl rfl hp.shape.1 hp.shape.2 (fun j _ => open0 _) ?_
  intro w3 H3
  have H3 : Has w0 w3 ((b12, .cells cs 31 (0, 0)) :: (I ++ [])) := H3
  have H3' : Has w0 w3 (I ++ [(b12, .cells cs 31 (0, 0))]) := H3.perm (by classical exact List.perm_iff_count.2 (fun a => by simp only [List.count_append, List.count_cons, List.count_nil, List.set_cons_zero, List.set_cons_succ, List.setIfInBounds_toArray, List.cons_append, List.nil_append, List.append_assoc]; omega))
  refine Do.dec run_nei (fun he => If.t ?_) (fun he => If.f ?_)
  · have hs := parseP_err he
    obtain ⟨v, xs, Iv, Is, rfl, hr, hst, rfl⟩ := hp
    rw [hs] at hr
    refine GuardK.tt (Do.ok run_fld (GuardK.tt (Do.ld H3 0 rfl rfl (GuardK.tt (Do.ok (Row.lenV hr) (GuardK.tt (Do.dec run_eqi (fun _ => Do.ok run_pickT ?_) (fun h => absurd rfl h))))))))
    exact ⟨rfl, H3.toBelow⟩
  have he : (parseP text).err = 0 := by omega
  obtain ⟨g0, g1, g2, g3, g4, g5⟩ := print_parse he
  obtain ⟨s1, s2⟩ := read_small he
  have hpp := printP_ok g1 g3 g2
  generalize (parseP text).cfg = c at *
  generalize (parseP text).steps = ss at *
  refine Do.ldAll H3 0 rfl hp.shape.1 ?_
  refine CallF.ret (f16.enters _ _) (print_ret' cs c ss w3 (hg.has H3) (hp.reads H3') s1) ?_
  rintro _ w4 ⟨rfl, hb4⟩
  have H4 := H3'.below hb4
  refine Do.ok (run_ext rfl) (Do.ok (run_ext rfl) ?_)
  by_cases hlen : (printHead c ++ flatW ss).length ≤ 1048576
  · rw [if_pos hlen] at hpp
    have hback := parse_print hpp
    rw [hpp]
    generalize printHead c ++ flatW ss = t at *
    have hsz : (⟨t.toArray⟩ : ByteArray).size = t.length := by show t.toArray.size = _; simp
    refine Do.dec run_nei (fun h => absurd rfl h) (fun _ => If.f ?_)
    refine CallF.ret (f9.enters _ _) (parse_ret' ⟨t.toArray⟩ w4 (hg.has H4)) ?_
    rintro _ w5 ⟨cs2, I2, rfl, hp2, H5⟩
    have H5 := H4.more H5
    rw [hback] at hp2 ⊢
    refine Do.ok (run_ext rfl) (Do.ok (run_ext rfl) (Do.ok (run_ext rfl) (Do.alloc H5 ?_)))
    intro b17 w6 H6
    refine DoU.stAll H6 0 rfl rfl hp2.shape.1 hp2.shape.2 (fun j _ => open0 _) ?_
    intro w7 H7
    have H7 : Has w0 w7 ((b17, .cells cs2 31 (0, 0)) :: (I2 ++ (I ++ [(b12, .cells cs 31 (0, 0))]))) := H7
    have H7a : Has w0 w7 (I2 ++ ((b17, .cells cs2 31 (0, 0)) :: (I ++ [(b12, .cells cs 31 (0, 0))]))) := H7.perm (by classical exact List.perm_iff_count.2 (fun a => by simp only [List.count_append, List.count_cons, List.count_nil, List.set_cons_zero, List.set_cons_succ, List.setIfInBounds_toArray, List.cons_append, List.nil_append, List.append_assoc]; omega))
    have H7b : Has w0 w7 (I ++ ((b17, .cells cs2 31 (0, 0)) :: (I2 ++ [(b12, .cells cs 31 (0, 0))]))) := H7.perm (by classical exact List.perm_iff_count.2 (fun a => by simp only [List.count_append, List.count_cons, List.count_nil, List.set_cons_zero, List.set_cons_succ, List.setIfInBounds_toArray, List.cons_append, List.nil_append, List.append_assoc]; omega))
    have H7c : Has w0 w7 ((b12, .cells cs 31 (0, 0)) :: (I ++ ((b17, .cells cs2 31 (0, 0)) :: I2))) := H7.perm (by classical exact List.perm_iff_count.2 (fun a => by simp only [List.count_append, List.count_cons, List.count_nil, List.set_cons_zero, List.set_cons_succ, List.setIfInBounds_toArray, List.cons_append, List.nil_append, List.append_assoc]; omega))
    refine Do.ldAll H7 0 rfl hp2.shape.1 (Do.ldAll H7c 0 rfl hp.shape.1 ?_)
    refine CallF.ret (f13.enters _ _) (same_ret w7 (hp2.reads H7a) (hp.reads H7b) (fun s hs => by have := (s1 s hs).2; omega) (by show ss.length ≤ _; omega)) ?_
    rintro _ w8 ⟨b, rfl, hbs, hb8⟩
    have H8 := H7.below hb8
    have hbt : b = true := hbs.2 ⟨rfl, rfl⟩
    subst hbt
    refine GuardK.tt (GuardK.tt (Do.dec run_eqi (fun _ => Do.ok run_pickT ?_) (fun h => absurd rfl h)))
    refine GuardK.tt (Do.ok run_pickT (GuardK.tt (GuardK.tt (Do.ok run_lenStr (GuardK.tt (GuardK.tt (Do.ok run_lenStr (GuardK.tt (Do.ok (run_addi (a := (text.size : Int)) (b := 1) (by omega)) (GuardK.tt (Do.dec run_leq (fun _ => Do.ok run_pickT ?_) (fun h => absurd ?_ h))))))))))))
    · exact ⟨rfl, H8.toBelow⟩
    · rw [hsz]; omega
  · rw [if_neg hlen] at hpp
    rw [hpp]
    refine Do.dec run_nei (fun _ => If.t ?_) (fun h => absurd (by decide) h)
    refine GuardK.tt (GuardK.tt (Do.dec run_eqi (fun _ => Do.ok run_pickT ?_) (fun h => absurd rfl h)))
    refine GuardK.tt (GuardK.tt (Do.ok run_lenStr (GuardK.tt (Do.dec run_eqi (fun _ => Do.ok run_pickT ⟨rfl, H4.toBelow⟩) (fun h => absurd ?_ h)))))
    omega
theorem back_ret {w : World} (hg : Glb w) {cs : Array Value} {c : Cfg} {ss : List StepV} (hp : PlayIn w cs c ss) (text : ByteArray) : Ret P 5 #[.agg cs, .string text] w (retT w) := by
  have hcs : cs.size = 4 := by obtain ⟨v, xs, rfl, _⟩ := hp; rfl
  refine f5.calls ?_
  unfold f5.f
  refine Do.box (Has.init w) ?_
  intro b2 w1 H1
  have H1 : Has w w1 [(b2, .cells cs 31 (0, 0))] := H1
  refine Do.ldAll H1 0 rfl hcs ?_
  refine CallF.ret (f14.enters _ _) (beyond_ret w1 (hp.below H1.toBelow)) ?_
  rintro _ w2 ⟨b, rfl, hbb, hb2⟩
  have H2 := H1.below hb2
  cases b with
  | true => exact If.t ⟨rfl, H2.toBelow⟩
  | false =>
  obtain ⟨hn, hsm⟩ := hbb rfl
  refine If.f (CallF.ret (f8.enters _ _) (shown_ret w2 (hg.has H2)) ?_)
  rintro _ w3 ⟨rfl, hb3⟩
  have H3 := H2.below hb3
  refine Do.ldAll H3 0 rfl hcs ?_
  refine CallF.ret (f16.enters _ _) (print_ret' cs c ss w3 (hg.has H3) (hp.below H3.toBelow) hsm) ?_
  rintro _ w4 ⟨rfl, hb4⟩
  have H4 := H3.below hb4
  refine Do.ok (run_ext rfl) (Do.ok (run_ext rfl) ?_)
  refine ⟨fun w' => Below w.heap.size w w', fun σ w' hb => back_j0 hg hb text, ?_⟩
  refine Do.dec run_eqi (fun he => If.t ?_) (fun he => If.f H4.toBelow)
  generalize hpp : printP c ss = pr at *
  obtain ⟨t, e⟩ := pr
  have he : e = 0 := he
  subst he
  have hback := parse_print hpp
  have htl := (printP_some hpp).2.2.2.2
  have hsz : (⟨t.toArray⟩ : ByteArray).size = t.length := by show t.toArray.size = _; simp
  refine CallF.ret (f9.enters _ _) (parse_ret' ⟨t.toArray⟩ w4 (hg.has H4)) ?_
  rintro _ w5 ⟨cs2, I2, rfl, hp2, H5⟩
  have H5 := H4.more H5
  rw [hback] at hp2 ⊢
  refine Do.ok (run_ext rfl) (Do.ok (run_ext rfl) (Do.ok (run_ext rfl) (Do.alloc H5 ?_)))
  intro b8 w6 H6
  refine DoU.stAll H6 0 rfl rfl hp2.shape.1 hp2.shape.2 (fun j _ => open0 _) ?_
  intro w7 H7
  have H7 : Has w w7 ((b8, .cells cs2 31 (0, 0)) :: (I2 ++ [(b2, .cells cs 31 (0, 0))])) := H7
  have H7a : Has w w7 (I2 ++ ((b8, .cells cs2 31 (0, 0)) :: [(b2, .cells cs 31 (0, 0))])) := H7.perm (by classical exact List.perm_iff_count.2 (fun a => by simp only [List.count_append, List.count_cons, List.count_nil, List.set_cons_zero, List.set_cons_succ, List.setIfInBounds_toArray, List.cons_append, List.nil_append, List.append_assoc]; omega))
  have H7c : Has w w7 ((b2, .cells cs 31 (0, 0)) :: ((b8, .cells cs2 31 (0, 0)) :: I2)) := H7.perm (by classical exact List.perm_iff_count.2 (fun a => by simp only [List.count_append, List.count_cons, List.count_nil, List.set_cons_zero, List.set_cons_succ, List.setIfInBounds_toArray, List.cons_append, List.nil_append, List.append_assoc]; omega))
  refine Do.ldAll H7 0 rfl hp2.shape.1 (Do.ldAll H7c 0 rfl hcs ?_)
  refine CallF.ret (f13.enters _ _) (same_ret w7 (hp2.reads H7a) (hp.below H7.toBelow) (fun s hs => by have := (hsm s hs).2; omega) (by show ss.length ≤ _; omega)) ?_
  rintro _ w8 ⟨b, rfl, hbs, hb8⟩
  have H8 := H7.below hb8
  have hbt : b = true := hbs.2 ⟨rfl, rfl⟩
  subst hbt
  refine Do.ok run_notT (GuardK.ff (GuardK.ff (Do.dec run_nei (fun h => absurd rfl h) (fun _ => Do.ok run_pickF ?_))))
  refine GuardK.ff (GuardK.ff (Do.dec run_nei (fun h => absurd rfl h) (fun _ => Do.ok run_pickF ?_)))
  refine GuardK.ff (GuardK.ff (Do.ok run_lenStr (GuardK.ff (Do.dec run_gtr (fun h => absurd h ?_) (fun _ => Do.ok run_pickF (If.f H8.toBelow))))))
  rw [hsz]; omega
end Go.Proofs.YtdnnamaimgijpaaDoor
