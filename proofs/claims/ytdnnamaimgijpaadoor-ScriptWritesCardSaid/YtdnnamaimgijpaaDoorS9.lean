/- Contract: config. Conditions: none. -/
import Derived.Test.YtdnnamaimgijpaaDoorS8
set_option linter.unusedVariables false
set_option linter.unusedSectionVars false
set_option maxRecDepth 10000
namespace Go.Proofs.YtdnnamaimgijpaaDoor
open Go Go.Sx Go.Proofs Go.Lib Go.RowKit

def stintW : ByteArray := ⟨#[115, 116, 105, 110, 116]⟩
def cfgO (a b c : ByteArray) : Option Cfg :=
  match numV a with
  | none => none
  | some x => match numV b with
    | none => none
    | some y => match numV c with
      | none => none
      | some z => some ⟨x, y, z⟩
def cfgE (o : Option Cfg) : Except Int Cfg :=
  match o with
  | none => .error 192
  | some c => if c.right = true then .ok c else .error 190
def configV (l : List ByteArray) : Except Int Cfg :=
  match l with
  | [] => .error 191
  | h :: r => if h ≠ stintW then .error 191 else
    match r with
    | [a, b, c] => cfgE (cfgO a b c)
    | _ => .error 192
theorem configV_cons (h : ByteArray) (r : List ByteArray) : configV (h :: r) = if h ≠ stintW then .error 191 else
    match r with
    | [a, b, c] => cfgE (cfgO a b c)
    | _ => .error 192 := by rw [configV.eq_def]
def headV (s : ByteArray) : Except Int Cfg := if wordsB (pieces 32 s) = true then configV (pieces 32 s) else .error 191
theorem Cfg.flat (c : Cfg) : ∀ x ∈ c.cells.toList, ∀ q, x ≠ .agg q ∧ x ≠ .tuple q := by
  intro x hx q
  simp only [Cfg.cells, List.mem_cons, List.not_mem_nil, or_false] at hx
  rcases hx with rfl | rfl | rfl <;> simp
theorem build28 (x y z : Int) (w : World) : (Instr.build 28 #[(0, .int .i64 x), (1, .int .i64 y), (2, .int .i64 z)]).run P w = .ok (.agg (Cfg.mk x y z).cells) w := by kernel_rfl
theorem strs_idx {bw : Nat} {all : List ByteArray} {i : Nat} (h : i < all.length) (w : World) : (Instr.indexAt 50 (.slice (some ⟨bw, 0, none⟩) all.length all.length) (.int .i64 (i : Int))).run P w = .ok (.pointer (some ⟨bw, i, none⟩)) w := by
  have := run_idx (P := P) (w := w) (t := 50) (b := bw) (o := 0) (n := all.length) (c := all.length) (i := (i : Int)) (by omega) (by omega)
  rw [this]
  simp
section
variable {w0 : World} {b2 bw : Nat} {all : List ByteArray} {R : Value → World → Prop} {X : List PanicEntry → World → Prop} {o : Option Cfg}
  (hR : ∀ c w', cfgE o = .ok c → Below w0.heap.size w0 w' → R (.agg c.cells) w')
  (hX : ∀ e w', cfgE o = .error e → Below w0.heap.size w0 w' → X (wrongE e) w')
include hR hX
abbrev Z28 : Array Value := (Cfg.mk 0 0 0).cells
theorem config_j2 {w : World} {b4 : Nat} {L : List (Nat × Obj)} {c : Cfg} (H : Has w0 w ((b4, .cells c.cells 28 (0, 0)) :: (b2, .cells Z28 28 (0, 0)) :: L)) (ho : o = some c) : f25.j2 R X (pt b2) (pt b4) w := by
  unfold f25.j2
  refine Do.ldAll H 0 rfl rfl ?_
  refine CallF.ret (f36.enters _ _) (checkConfig_ret c w) ?_
  rintro _ w2 ⟨rfl, hb⟩
  have H2 := H.below hb
  cases hc : c.right with
  | true =>
    refine Do.dec run_nei (fun h => absurd rfl h) (fun h => If.f ?_)
    refine Do.ldAll H2 0 rfl rfl (DoU.stAll H2 1 rfl rfl rfl c.flat (fun j _ => open0 _) ?_)
    intro w3 H3
    exact ResC.all H3 1 rfl rfl (hR c w3 (by rw [ho, cfgE, if_pos hc]) H3.toBelow)
  | false =>
    refine Do.dec run_nei (fun h => If.t (CallF.fail (hX _ _ ?_ H2.toBelow))) (fun h => absurd (by decide) h)
    rw [ho, cfgE, hc]; rfl
theorem num_step {w : World} {L : List (Nat × Obj)} {s : ByteArray} (H : Has w0 w L) (hn : numV s = none → o = none) {K : Value → World → Prop} (k : ∀ n w', numV s = some n → Has w0 w' L → K (.int .i64 n) w') : CallF P 56 [.string s] w K X := by
  refine CallF.tries (f56.enters _ _) (number_try s w) ?_ ?_
  · rintro _ w4 ⟨n, hn, rfl, hb⟩
    exact k n w4 hn (H.below hb)
  · rintro _ w4 ⟨rfl, h, hb⟩
    exact hX _ _ (by rw [hn h]; rfl) (H.below hb).toBelow
theorem config_j1 {w : World} {h a b c : ByteArray} (H : Has w0 w [(bw, strsObj [h, a, b, c]), (b2, .cells Z28 28 (0, 0))]) (ho : o = cfgO a b c) : f25.j1 R X (pt b2) (.slice (some ⟨bw, 0, none⟩) 4 4) w := by
  unfold f25.j1
  refine ⟨fun x w' => ∃ b4 cc L, x = pt b4 ∧ Has w0 w' ((b4, .cells (Cfg.cells cc) 28 (0, 0)) :: (b2, .cells Z28 28 (0, 0)) :: L) ∧ o = some cc, ?_, ?_⟩
  · rintro σ w2 ⟨b4, cc, L, hx, H2, ho2⟩
    rw [hx]
    exact config_j2 hR hX H2 ho2
  have na : numV a = none → o = none := fun h => by rw [ho, cfgO, h]
  have nb : ∀ x, numV a = some x → numV b = none → o = none := fun x h h2 => by rw [ho, cfgO, h]; simp only [h2]
  have nc : ∀ x y, numV a = some x → numV b = some y → numV c = none → o = none := fun x y h h2 h3 => by rw [ho, cfgO, h]; simp only [h2, h3]
  have nd : ∀ x y z, numV a = some x → numV b = some y → numV c = some z → o = some ⟨x, y, z⟩ := fun x y z h h2 h3 => by rw [ho, cfgO, h]; simp only [h2, h3]
  have ldS : ∀ (i : Nat) (s : ByteArray), [h, a, b, c][i]? = some s → ∀ w', w'.heap[bw]? = some (strsObj [h, a, b, c]) → (Instr.loadAt 9 (.pointer (some ⟨bw, i, none⟩))).run P w' = .ok (.string s) w' := fun i s hs w' hw' =>
    run_load1 ((cell_of_blk hw' _).trans (strsObj_get hs))
  refine ⟨fun w => w.heap[bw]? = some (strsObj [h, a, b, c]), H.drew.get 0 rfl, ?_⟩
  have H := H.drew
  refine Take.ok (fun w _ => strs_idx (all := [h, a, b, c]) (i := 1) (by simp) w) (Take.ok (fun w hS => ldS 1 a rfl w hS) ?_)
  refine Take.ok (fun w _ => strs_idx (all := [h, a, b, c]) (i := 2) (by simp) w) (Take.ok (fun w hS => ldS 2 b rfl w hS) ?_)
  refine Take.ok (fun w _ => strs_idx (all := [h, a, b, c]) (i := 3) (by simp) w) (Take.ok (fun w hS => ldS 3 c rfl w hS) ?_)
  have fin : ∀ {b4 : Nat} {x y z : Int} {w : World} (L : List (Nat × Obj)), Has w0 w ((b4, .cells Z28 28 (0, 0)) :: (bw, strsObj [h, a, b, c]) :: (b2, .cells Z28 28 (0, 0)) :: L) → numV a = some x → numV b = some y → numV c = some z →
      DoU P (Instr.storeAt 28 (pt b4) (.agg (Cfg.mk x y z).cells)) w (fun _ w' => ∃ b4' cc L, pt b4 = pt b4' ∧ Has w0 w' ((b4', .cells (Cfg.cells cc) 28 (0, 0)) :: (b2, .cells Z28 28 (0, 0)) :: L) ∧ o = some cc) X := by
    intro b4 x y z w L H' h1 h2 h3
    refine DoU.stAll H' 0 rfl rfl rfl (Cfg.flat _) (fun j _ => open0 _) ?_
    intro w2 H2
    exact ⟨b4, ⟨x, y, z⟩, (bw, strsObj [h, a, b, c]) :: L, rfl, H2.perm (by classical exact List.perm_iff_count.2 (fun a => by simp only [List.count_append, List.count_cons, List.count_nil, List.set_cons_zero, List.set_cons_succ, List.setIfInBounds_toArray, List.cons_append, List.nil_append, List.append_assoc]; omega)), nd x y z h1 h2 h3⟩
  have tb : ∀ {x y z : Int}, ∀ w : World, (Instr.build 28 #[(0, .int .i64 x), (1, .int .i64 y), (2, .int .i64 z)]).run P w = .ok (.agg (Cfg.mk x y z).cells) w := fun w => build28 _ _ _ w
  refine ⟨num_step hR hX H na ?_, ?_⟩
  · intro x w1 hx H1
    refine ⟨H1.get 0 rfl, num_step hR hX H1 (nb x hx) ?_, ?_⟩
    · intro y w2 hy H2
      refine ⟨H2.get 0 rfl, num_step hR hX H2 (nc x y hx hy) ?_, ?_⟩
      · intro z w3 hz H3
        refine ⟨H3.get 0 rfl, Take.ok (fun w _ => tb w) (Do.alloc H3 ?_)⟩
        intro b4 w4 H4
        exact ⟨H4.get 1 rfl, fin [] H4 hx hy hz⟩
      · refine Do.alloc H2 ?_
        intro b4 w4 H4
        refine ⟨H4.get 1 rfl, num_step hR hX H4 (nc x y hx hy) ?_⟩
        intro z w3 hz H3
        exact ⟨H3.get 1 rfl, Take.ok (fun w _ => tb w) (fin [] H3 hx hy hz)⟩
    · refine Do.alloc H1 ?_
      intro b4 w4 H4
      refine ⟨H4.get 1 rfl, num_step hR hX H4 (nb x hx) ?_⟩
      intro y w2 hy H2
      refine ⟨H2.get 1 rfl, num_step hR hX H2 (nc x y hx hy) ?_⟩
      intro z w3 hz H3
      exact ⟨H3.get 1 rfl, Take.ok (fun w _ => tb w) (fin [] H3 hx hy hz)⟩
  · refine Do.alloc H ?_
    intro b4 w4 H4
    refine ⟨H4.get 1 rfl, num_step hR hX H4 na ?_⟩
    intro x w1 hx H1
    refine ⟨H1.get 1 rfl, num_step hR hX H1 (nb x hx) ?_⟩
    intro y w2 hy H2
    refine ⟨H2.get 1 rfl, num_step hR hX H2 (nc x y hx hy) ?_⟩
    intro z w3 hz H3
    exact ⟨H3.get 1 rfl, Take.ok (fun w _ => tb w) (fin [] H3 hx hy hz)⟩
end
theorem config_try (s : ByteArray) (hs : s.size ≤ 4294967280) (w : World) (hg : Glb w) : Try 25 #[.string s] w
    (fun v w' => ∃ c, headV s = .ok c ∧ v = .agg c.cells ∧ Below w.heap.size w w') (fun e w' => headV s = .error e ∧ Below w.heap.size w w') := by
  refine f25.calls ?_
  unfold f25.f
  refine Do.alloc (Has.init w) ?_
  intro b2 w1 H
  refine CallF.tries (f52.enters _ _) (split_try s (by omega) w1 (hg.has H)) ?_ ?_
  case refine_2 =>
    rintro _ w2 ⟨hw, rfl, hb⟩
    exact ⟨191, rfl, by rw [headV, hw]; rfl, (H.below hb).toBelow⟩
  rintro _ w2 ⟨hw, bw, rfl, H2⟩
  have H3 := H.more H2
  obtain ⟨hpos, hws⟩ := wordsB_size hw
  have hln : headV s = configV (pieces 32 s) := by rw [headV, if_pos hw]
  rw [hln]
  generalize pieces 32 s = all at *
  obtain ⟨h, r, rfl⟩ := List.exists_cons_of_ne_nil (List.length_pos_iff.1 hpos)
  refine ⟨fun w' => w' = w2 ∧ h = stintW, ?_, ?_⟩
  case refine_2 =>
    refine Do.ok (strs_idx (all := h :: r) (i := 0) (by simp) w2) (Do.ld H3 0 rfl (strsObj_get rfl) (Do.dec run_nes (fun h => If.t (CallF.fail ⟨191, rfl, ?_, H3.toBelow⟩)) (fun h => If.f ⟨rfl, (list_eq_iff _ _).1 (Decidable.not_not.1 h)⟩)))
    rw [configV_cons, if_pos]
    rintro rfl; exact h rfl
  rintro σ w3 ⟨rfl, rfl⟩
  unfold f25.j0
  refine ⟨fun w' => w' = w3 ∧ r.length = 3, ?_, ?_⟩
  case refine_2 =>
    refine Do.ok run_lenS (Do.dec run_nei (fun h => If.t (CallF.fail ⟨192, rfl, ?_, H3.toBelow⟩)) (fun h => If.f ⟨rfl, ?_⟩))
    · rw [configV_cons, if_neg (by simp)]
      match r with
      | [] => rfl
      | [_] => rfl
      | [_, _] => rfl
      | [_, _, _] => simp at h
      | _ :: _ :: _ :: _ :: _ => rfl
    · simp at h; omega
  rintro σ w4 ⟨rfl, hr⟩
  obtain ⟨a, b, c, rfl⟩ : ∃ a b c, r = [a, b, c] := by
    match r with
    | [a, b, c] => exact ⟨a, b, c, rfl⟩
    | [] => simp at hr
    | [_] => simp at hr
    | [_, _] => simp at hr
    | _ :: _ :: _ :: _ :: _ => simp at hr
  have e : configV [stintW, a, b, c] = cfgE (cfgO a b c) := by rw [configV_cons, if_neg (by simp)]
  rw [e]
  exact config_j1 (w0 := w) (fun cc w' h hb => ⟨cc, h, rfl, hb⟩) (fun ee w' h hb => ⟨ee, rfl, h, hb⟩) H3 rfl
end Go.Proofs.YtdnnamaimgijpaaDoor
