/- Contract: Parse's function. Conditions: none. -/
import Derived.Test.YtdnnamaimgijpaaDoorS10
set_option linter.unusedVariables false
set_option linter.unusedSectionVars false
set_option maxRecDepth 10000
namespace Go.Proofs.YtdnnamaimgijpaaDoor
open Go Go.Sx Go.Proofs Go.Lib Go.RowKit

/-- Steps in memory of their own: 'xs' their cells, 'I' the blocks that their lists have. -/
inductive StepsAt : List StepV → List Value → List (Nat × Obj) → Prop
  | nil : StepsAt [] [] []
  | snoc {ss : List StepV} {xs : List Value} {I J : List (Nat × Obj)} {c : Array Value} {s : StepV} (h : StepsAt ss xs I) (hs : StepAt c s J) : StepsAt (ss ++ [s]) (xs ++ c.toList) (J ++ I)
def playCells (c : Cfg) (v : Value) : Array Value := #[.int .i64 c.jobMax, .int .i64 c.segment, .int .i64 c.quota, v]
abbrev SRow (v : Value) (n : Nat) (xs : List Value) (I : List (Nat × Obj)) : Prop := Row 44 5 v n xs I
def PlayAt (cs : Array Value) (c : Cfg) (ss : List StepV) (I : List (Nat × Obj)) : Prop :=
  ∃ v xs Iv Is, cs = playCells c v ∧ SRow v ss.length xs Iv ∧ StepsAt ss xs Is ∧ I = Iv ++ Is
def nextE (begun : Bool) (c : Cfg) (ss : List StepV) (line : ByteArray) : Except Int (Cfg × List StepV) :=
  match begun with
  | true => match lineV line ss.length with
    | .ok s => .ok (c, ss ++ [s])
    | .error e => .error e
  | false => match headV line with
    | .ok c => .ok (c, ss)
    | .error e => .error e
theorem lineV_bound {s : ByteArray} {n : Int} {st : StepV} (h : lineV s n = .ok st) : n < 4000 := by
  unfold lineV at h
  split at h
  · unfold stepV at h
    split at h
    · cases h
    · split at h
      · cases h
      · split at h
        · cases h
        · omega
  · cases h
theorem lineV_error {s : ByteArray} {n e : Int} (h : lineV s n = .error e) : e ≠ 0 := by
  unfold lineV at h
  split at h
  · unfold stepV at h
    split at h
    · cases h; decide
    · split at h
      · cases h; decide
      · split at h
        · cases h; decide
        · split at h <;> cases h; decide
  · cases h; decide
theorem headV_error {s : ByteArray} {e : Int} (h : headV s = .error e) : e ≠ 0 := by
  unfold headV at h
  split at h
  · unfold configV at h
    split at h
    · cases h; decide
    · split at h
      · cases h; decide
      · split at h
        · unfold cfgE at h
          split at h
          · cases h; decide
          · split at h <;> cases h; decide
        · cases h; decide
  · cases h; decide
theorem nextE_error {begun : Bool} {c : Cfg} {ss : List StepV} {line : ByteArray} {e : Int} (h : nextE begun c ss line = .error e) : e ≠ 0 := by
  cases begun with
  | true =>
    simp only [nextE] at h
    cases hl : lineV line ss.length with
    | ok s => rw [hl] at h; cases h
    | error e' => rw [hl] at h; cases h; exact lineV_error hl
  | false =>
    simp only [nextE] at h
    cases hl : headV line with
    | ok s => rw [hl] at h; cases h
    | error e' => rw [hl] at h; cases h; exact headV_error hl
theorem StepAt.flat {c : Array Value} {s : StepV} {I : List (Nat × Obj)} (h : StepAt c s I) : c.size = 5 ∧ (∀ x ∈ c.toList, ∀ q, x ≠ .agg q ∧ x ≠ .tuple q) ∧ ∀ x ∈ c.toList, x.oneCell' = true := by
  obtain ⟨d, k, Id, Ik, rfl, hd, hk, _⟩ := h
  refine ⟨rfl, cells5_flat hd.one.2 hk.one.2, ?_⟩
  intro x hx
  simp only [cells5, List.mem_cons, List.not_mem_nil, or_false] at hx
  rcases hx with rfl | rfl | rfl | rfl | rfl
  · rfl
  · rfl
  · obtain ⟨_, _, rfl⟩ := Row.slice hd; rfl
  · rfl
  · obtain ⟨_, _, rfl⟩ := Row.slice hk; rfl
theorem bs29 (k n : Int) (d : Value) (b : Int) (kv : Value) (hd : ∃ x n c, d = .slice x n c) (hk : ∃ x n c, kv = .slice x n c) (w : World) : (Instr.buildSlice 29 1 #[(0, .agg (cells5 k n d b kv))]).run P w = .ok (.slice (some ⟨w.heap.size, 0, none⟩) 1 1) (w.alloc (.cells (cells5 k n d b kv) 44)) := by
  obtain ⟨_, _, _, rfl⟩ := hd
  obtain ⟨_, _, _, rfl⟩ := hk
  kernel_rfl
theorem StepAt.bs {c : Array Value} {s : StepV} {I : List (Nat × Obj)} (h : StepAt c s I) (w : World) : (Instr.buildSlice 29 1 #[(0, .agg c)]).run P w = .ok (.slice (some ⟨w.heap.size, 0, none⟩) 1 1) (w.alloc (.cells c 44)) := by
  obtain ⟨d, k, Id, Ik, rfl, hd, hk, _⟩ := h
  refine bs29 _ _ _ _ _ ?_ ?_ w
  · obtain ⟨_, _, rfl⟩ := Row.slice hd; exact ⟨_, _, _, rfl⟩
  · obtain ⟨_, _, rfl⟩ := Row.slice hk; exact ⟨_, _, _, rfl⟩
abbrev begB (b : Nat) (x : Bool) : Nat × Obj := (b, .cells #[.bool x] 4 (0, 0))
abbrev strB (b : Nat) (s : ByteArray) : Nat × Obj := (b, .cells #[.string s] 9 (0, 0))
theorem parse1 {w0 w : World} {L : List (Nat × Obj)} {b5 b6 b8 : Nat} {begun : Bool} {c : Cfg} {ss : List StepV} {v : Value} {xs : List Value} {Iv Is : List (Nat × Obj)} {line : ByteArray} (hg : Glb w0) (hs : line.size ≤ 4294967280)
    (hr : SRow v ss.length xs Iv) (hst : StepsAt ss xs Is) (H : Has w0 w (begB b6 begun :: (b5, .cells (playCells c v) 31 (0, 0)) :: strB b8 line :: (Iv ++ (Is ++ L)))) :
    Calls P 23 #[pt b6, pt b5, pt b8] w (retd
      (fun _ w' => ∃ c' ss' v' xs' Iv' Is', nextE begun c ss line = .ok (c', ss') ∧ SRow v' ss'.length xs' Iv' ∧ StepsAt ss' xs' Is' ∧ Has w0 w' (begB b6 begun :: (b5, .cells (playCells c' v') 31 (0, 0)) :: strB b8 line :: (Iv' ++ (Is' ++ L))))
      (fun e w' => ∃ n, e = wrongE n ∧ nextE begun c ss line = .error n ∧ Has w0 w' (begB b6 begun :: (b5, .cells (playCells c v) 31 (0, 0)) :: strB b8 line :: (Iv ++ (Is ++ L))))) := by
  refine f23.calls ?_
  unfold f23.f
  refine Do.ld H 0 rfl rfl ?_
  cases begun with
  | false =>
    refine If.f (Do.ld H 2 rfl rfl ?_)
    refine CallF.tries (f25.enters _ _) (config_try line hs w (hg.has H)) ?_ ?_
    · rintro _ w2 ⟨c', hc, rfl, hb⟩
      have H2 := H.below hb
      refine Do.ok run_fld ?_
      refine DoU.stN H2 1 rfl rfl c'.flat (Nat.le_of_ble_eq_true rfl) (fun j _ => open0 _) ?_
      intro w3 H3
      exact ⟨c', ss, v, xs, Iv, Is, by simp only [nextE, hc], hr, hst, H3⟩
    · rintro n w2 ⟨hc, hb⟩
      exact ⟨n, rfl, by simp only [nextE, hc], H.below hb⟩
  | true =>
    have H := H.drew
    refine If.t ⟨fun w => w.heap[b5]? = some (.cells (playCells c v) 31 (0, 0)) ∧ w.heap[b8]? = some (.cells #[.string line] 9 (0, 0)), ⟨H.get 1 rfl, H.get 2 rfl⟩, ?_⟩
    refine Take.ok (fun w _ => run_fld) (Take.ok (v := v) (fun w hS => run_load1 ((cell_of_blk hS.1 _).trans rfl)) (Take.ok (v := .string line) (fun w hS => run_load1 ((cell_of_blk hS.2 _).trans rfl)) ?_))
    refine Take.ok (fun w _ => run_fld) (Take.ok (v := v) (fun w hS => run_load1 ((cell_of_blk hS.1 _).trans rfl)) (Take.ok (fun w _ => hr.lenV) ?_))
    refine CallF.tries (f24.enters _ _) (step_try line hs ss.length _ (hg.has H)) ?_ ?_
    case refine_2 =>
      rintro n w2 ⟨hc, hb⟩
      exact ⟨n, rfl, by simp only [nextE, hc], H.below hb⟩
    rintro _ w2 ⟨st, cs, J, hl, rfl, hsa, HJ⟩
    have H2 := H.more HJ
    have hlen := lineV_bound hl
    refine ⟨⟨(H2.perm (by classical exact List.perm_iff_count.2 (fun a => by simp only [List.count_append, List.count_cons, List.count_nil, List.set_cons_zero, List.set_cons_succ, List.setIfInBounds_toArray, List.cons_append, List.nil_append, List.append_assoc]; omega)) : Has w0 w2 ((b5, .cells (playCells c v) 31 (0, 0)) :: (J ++ (begB b6 true :: strB b8 line :: (Iv ++ (Is ++ L)))))).get 0 rfl, (H2.perm (by classical exact List.perm_iff_count.2 (fun a => by simp only [List.count_append, List.count_cons, List.count_nil, List.set_cons_zero, List.set_cons_succ, List.setIfInBounds_toArray, List.cons_append, List.nil_append, List.append_assoc]; omega)) : Has w0 w2 (strB b8 line :: (J ++ (begB b6 true :: (b5, .cells (playCells c v) 31 (0, 0)) :: (Iv ++ (Is ++ L)))))).get 0 rfl⟩, ?_⟩
    have H2' : Has w0 w2 (Iv ++ (begB b6 true :: (b5, .cells (playCells c v) 31 (0, 0)) :: strB b8 line :: ((J ++ Is) ++ L))) := H2.perm (by classical exact List.perm_iff_count.2 (fun a => by simp only [List.count_append, List.count_cons, List.count_nil, List.set_cons_zero, List.set_cons_succ, List.setIfInBounds_toArray, List.cons_append, List.nil_append, List.append_assoc]; omega))
    refine Do.bs H2' hsa.bs ?_
    intro b w3 H3
    refine ⟨⟨(H3.perm (by classical exact List.perm_iff_count.2 (fun a => by simp only [List.count_append, List.count_cons, List.count_nil, List.set_cons_zero, List.set_cons_succ, List.setIfInBounds_toArray, List.cons_append, List.nil_append, List.append_assoc]; omega)) : Has w0 w3 ((b5, .cells (playCells c v) 31 (0, 0)) :: (b, .cells cs 44 (0, 0)) :: (Iv ++ (begB b6 true :: strB b8 line :: ((J ++ Is) ++ L))))).get 0 rfl, (H3.perm (by classical exact List.perm_iff_count.2 (fun a => by simp only [List.count_append, List.count_cons, List.count_nil, List.set_cons_zero, List.set_cons_succ, List.setIfInBounds_toArray, List.cons_append, List.nil_append, List.append_assoc]; omega)) : Has w0 w3 (strB b8 line :: (b, .cells cs 44 (0, 0)) :: (Iv ++ (begB b6 true :: (b5, .cells (playCells c v) 31 (0, 0)) :: ((J ++ Is) ++ L))))).get 0 rfl⟩, ?_⟩
    refine Do.append2 (t := 29) H3 hr hsa.flat.1 hsa.flat.2.2 (by omega) (by omega) ?_
    intro v' Iv' w4 hr' H4 _
    have H4' : Has w0 w4 (begB b6 true :: (b5, .cells (playCells c v) 31 (0, 0)) :: strB b8 line :: (Iv' ++ ((J ++ Is) ++ L))) := H4.perm (by classical exact List.perm_iff_count.2 (fun a => by simp only [List.count_append, List.count_cons, List.count_nil, List.set_cons_zero, List.set_cons_succ, List.setIfInBounds_toArray, List.cons_append, List.nil_append, List.append_assoc]; omega))
    refine ⟨⟨H4'.get 1 rfl, H4'.get 2 rfl⟩, Take.ok (fun w _ => run_fld) ?_⟩
    refine DoU.st H4' 1 rfl hr'.one.1 hr'.one.2 (by simp [playCells]) (open0 _) ?_
    intro w5 H5
    exact ⟨c, ss ++ [st], v', xs ++ cs.toList, Iv', J ++ Is, by simp only [nextE, hl], by simpa using hr', .snoc hst hsa, H5⟩
end Go.Proofs.YtdnnamaimgijpaaDoor
