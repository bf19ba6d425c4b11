/- Contract: owned. Conditions: none. -/
import Derived.Test.YtdnnamaimgijpaaDoorS38
set_option linter.unusedVariables false
set_option linter.unusedSectionVars false
set_option maxRecDepth 10000
namespace Go.Proofs.YtdnnamaimgijpaaDoor
open Go Go.Sx Go.Proofs Go.Lib Go.RowKit

/-- What reads as a slice can be appended. -/
theorem SlAt.src {T sz : Nat} {w0 w : World} {L : List (Nat × Obj)} {v : Value} {n : Nat} {xs : List Value} (h : SlAt T sz w0 v n xs) (H : Has w0 w L) (h1 : ∀ y ∈ xs, y.oneCell' = true) : Src P w sz v n xs := by
  obtain ⟨x, c, rfl, hc, hl, hp⟩ := h
  rcases Nat.eq_zero_or_pos n with h0 | h0
  · subst h0
    have : xs = [] := List.eq_nil_of_length_eq_zero (by simpa using hl)
    subst this
    cases x with
    | none => exact Src.nil
    | some a => exact ⟨fun w => by simp [Builtin.lenOf], fun k => run_firstCells_some (P := P) { w with drawn := k } sz 0 a 0 c [] (by simp) (fun j y hj => by simp at hj), by simp, by simp⟩
  · obtain ⟨b, o, cs, fz, rfl, hw, hcs⟩ := hp h0
    refine Src.blk (H.baseBlk hw) hl (fun j y hj => ?_) h1
    have hlt := (List.getElem?_eq_some_iff.1 hj).1
    rw [hcs j hlt, ← hj, List.getElem?_eq_getElem hlt]
theorem ints_one (l : List Int) : ∀ y ∈ ints l, y.oneCell' = true := by
  intro y hy
  simp only [ints, List.mem_map] at hy
  obtain ⟨c, _, rfl⟩ := hy; rfl
theorem bs42_0 (w : World) : (Instr.buildSlice 42 0 #[]).run P w = .ok (.slice (some ⟨w.heap.size, 0, none⟩) 0 0) (w.alloc (.cells #[] 3)) := by kernel_rfl
theorem build31c (c : Cfg) (w : World) : (Instr.build 31 #[(0, .agg c.cells)]).run P w = .ok (.agg (playCells c (.slice none 0 0))) w := by kernel_rfl
theorem row0 (T sz b : Nat) : Row T sz (.slice (some ⟨b, 0, none⟩) 0 0) 0 [] [(b, .cells (([] : List Value) ++ []).toArray T (0, 0))] :=
  Row.row (T := T) (sz := sz) (n := 0) (c := 0) (xs := []) (sp := []) (by simp) (by simp) (Nat.le_refl _) (Nat.zero_le _)
theorem row5 {w : World} {v : Value} {ss : List StepV} {xs : List Value} (hv : SlAt 44 5 w v ss.length xs) (hst : StepsIn w ss xs) {i : Nat} (hi : i < ss.length) :
    ∃ (b o : Nat) (d kv : Value), (∀ w', (Instr.indexAt 29 v (.int .i64 (i : Int))).run P w' = .ok (.pointer (some ⟨b, o, none⟩)) w') ∧
      (∀ {w' : World} {L : List (Nat × Obj)}, Has w w' L → (Instr.loadAt 44 (.pointer (some ⟨b, o, none⟩))).run P w' = .ok (.agg (cells5 ss[i].kind ss[i].conn d ss[i].brk kv)) w') ∧
      (∀ {w' : World} {L : List (Nat × Obj)}, Has w w' L → (Instr.loadAt 41 (.pointer (some ⟨b, o + 2, none⟩))).run P w' = .ok d w') ∧
      (∀ {w' : World} {L : List (Nat × Obj)}, Has w w' L → (Instr.loadAt 42 (.pointer (some ⟨b, o + 4, none⟩))).run P w' = .ok kv w') ∧
      SlAt 5 1 w d ss[i].data.length (byteCells ss[i].data) ∧ SlAt 3 1 w kv ss[i].keep.length (ints ss[i].keep) := by
  obtain ⟨b, o, cs, fz, d, k, hw, hidx, hcs, hd, hk⟩ := step_at hv hst hi
  exact ⟨b, o, d, k, hidx, fun H => load5 H hw rfl hcs, fun H => run_loadBase H hw (hcs 2 (by omega)), fun H => run_loadBase H hw (hcs 4 (by omega)), hd, hk⟩
theorem owned_ret (w : World) {cs : Array Value} {c : Cfg} {ss : List StepV} (h : PlayIn w cs c ss) (hss : ss.length ≤ 2147483647) (hb : ∀ s ∈ ss, s.data.length ≤ 2147483647 ∧ s.keep.length ≤ 2147483647) :
    Ret P 19 #[.agg cs] w (fun r w' => ∃ cs' I, r = .agg cs' ∧ PlayAt cs' c ss I ∧ Has w w' I) := by
  obtain ⟨v, xs, rfl, hv, hst⟩ := h
  generalize hM : (2147483647 : Nat) = M at hss hb
  refine f19.calls ?_
  unfold f19.f
  refine Do.box (Has.init w) ?_
  intro b1 w1 H1
  have H1 : Has w w1 [(b1, .cells (playCells c v) 31 (0, 0))] := H1
  refine Do.alloc H1 ?_
  intro b2 w2 H2
  refine Do.ok run_fld (Do.ldCfg H2 1 rfl (Do.ok (build31c c _) (Do.alloc H2 ?_)))
  intro b3 w3 H3
  refine DoU.stAll H3 0 rfl rfl rfl (play_flat slice_flat) (fun j _ => open0 _) ?_
  intro w4 H4
  have H4 : Has w w4 ((b3, .cells (playCells c (.slice none 0 0)) 31 (0, 0)) :: (b2, .cells (playCells cfg0 (.slice none 0 0)) 31 (0, 0)) :: (b1, .cells (playCells c v) 31 (0, 0)) :: ([] ++ [])) := H4
  refine ⟨fun k x w' => ∃ (i : Nat) (v' : Value) (xs' : List Value) (Iv Is : List (Nat × Obj)), k + i = ss.length ∧ x = .int .i64 i ∧ SRow v' i xs' Iv ∧ StepsAt (ss.take i) xs' Is ∧
      Has w w' ((b3, .cells (playCells c v') 31 (0, 0)) :: (b2, .cells (playCells cfg0 (.slice none 0 0)) 31 (0, 0)) :: (b1, .cells (playCells c v) 31 (0, 0)) :: (Iv ++ Is)),
    ⟨ss.length, 0, _, _, _, _, by omega, rfl, .nil, .nil, H4⟩, ?_⟩
  rintro k σ w5 ⟨i, v', xs', Iv, Is, hk, hx, hr, hsa, H⟩
  rw [hx]
  unfold f19.l0
  refine Do.ok run_fld (Do.ld H 2 rfl rfl (Do.ok hv.len (Do.dec run_lss (fun hlt => If.t ?_) (fun hge => If.f ?_))))
  case refine_2 =>
    refine Do.ldAll H 0 rfl rfl (DoU.stAll H 1 rfl rfl rfl (play_flat hr.one.2) (fun j _ => open0 _) ?_)
    intro w6 H6
    have hi : i = ss.length := by omega
    subst hi
    rw [List.take_length] at hsa
    refine ResC.all H6 1 rfl rfl ⟨_, _, rfl, ⟨v', xs', Iv, Is, rfl, hr, hsa, rfl⟩, H6.sub ?_⟩
    exact List.Sublist.cons _ (List.Sublist.cons _ (List.sublist_cons_self _ _))
  have hi : i < ss.length := by omega
  have htk : ss.take (i + 1) = ss.take i ++ [ss[i]] := by rw [List.take_add_one, List.getElem?_eq_getElem hi]; rfl
  obtain ⟨bb, o, d, kv, hidx, hld, _, _, hd, hkp⟩ := row5 hv hst hi
  obtain ⟨hdl, hkl⟩ := hb _ (List.getElem_mem hi)
  generalize ss[i] = s at *
  refine Do.ok run_fld (Do.ld H 2 rfl rfl (Do.ok (hidx _) (Do.ok (hld H) ?_)))
  refine Do.alloc H ?_
  intro b5 w6 H6
  obtain ⟨_, _, ed⟩ : ∃ x c, d = .slice x s.data.length c := by obtain ⟨x, c, e, _⟩ := hd; exact ⟨x, c, e⟩
  obtain ⟨_, _, ek⟩ : ∃ x c, kv = .slice x s.keep.length c := by obtain ⟨x, c, e, _⟩ := hkp; exact ⟨x, c, e⟩
  refine DoU.stAll H6 0 rfl rfl rfl (cells5_flat (by rw [ed]; exact slice_flat) (by rw [ek]; exact slice_flat)) (fun j _ => open0 _) ?_
  intro w7 H7
  have H7 : Has w w7 ((b5, .cells (cells5 s.kind s.conn d s.brk kv) 44 (0, 0)) :: (b3, .cells (playCells c v') 31 (0, 0)) :: (b2, .cells (playCells cfg0 (.slice none 0 0)) 31 (0, 0)) :: (b1, .cells (playCells c v) 31 (0, 0)) :: (Iv ++ Is)) := H7
  refine Do.bs H7 bs41_0 ?_
  intro g1 w8 H8
  have H8 : Has w w8 ([(g1, .cells (([] : List Value) ++ []).toArray 5 (0, 0))] ++ ((b5, .cells (cells5 s.kind s.conn d s.brk kv) 44 (0, 0)) :: (b3, .cells (playCells c v') 31 (0, 0)) :: (b2, .cells (playCells cfg0 (.slice none 0 0)) 31 (0, 0)) :: (b1, .cells (playCells c v) 31 (0, 0)) :: (Iv ++ Is))) := H8
  refine Do.ok run_fld (Do.ld H8 1 rfl rfl ?_)
  refine Do.append (t := 41) (t2 := 41) (.inr ⟨_, rfl⟩) H8 (row0 5 1 g1) (hd.src H8 (byteCells_one _)) (by omega) (by omega) ?_
  intro d' Id w9 hrd H9 _
  have hrd : BRow d' s.data Id := by unfold BRow; rw [Nat.zero_add, List.nil_append] at hrd; exact hrd
  have H9 : Has w w9 ((b5, .cells (cells5 s.kind s.conn d s.brk kv) 44 (0, 0)) :: (b3, .cells (playCells c v') 31 (0, 0)) :: (b2, .cells (playCells cfg0 (.slice none 0 0)) 31 (0, 0)) :: (b1, .cells (playCells c v) 31 (0, 0)) :: (Id ++ (Iv ++ Is))) := H9.perm (by classical exact List.perm_iff_count.2 (fun a => by simp only [List.count_append, List.count_cons, List.count_nil, List.set_cons_zero, List.set_cons_succ, List.setIfInBounds_toArray, List.cons_append, List.nil_append, List.append_assoc]; omega))
  refine Do.ok run_fld (DoU.st H9 0 rfl hrd.one.1 hrd.one.2 (by simp [cells5]) (open0 _) ?_)
  intro w10 H10
  have H10 : Has w w10 ((b5, .cells (cells5 s.kind s.conn d' s.brk kv) 44 (0, 0)) :: (b3, .cells (playCells c v') 31 (0, 0)) :: (b2, .cells (playCells cfg0 (.slice none 0 0)) 31 (0, 0)) :: (b1, .cells (playCells c v) 31 (0, 0)) :: (Id ++ (Iv ++ Is))) := H10
  refine Do.bs H10 bs42_0 ?_
  intro g2 w11 H11
  have H11 : Has w w11 ([(g2, .cells (([] : List Value) ++ []).toArray 3 (0, 0))] ++ ((b5, .cells (cells5 s.kind s.conn d' s.brk kv) 44 (0, 0)) :: (b3, .cells (playCells c v') 31 (0, 0)) :: (b2, .cells (playCells cfg0 (.slice none 0 0)) 31 (0, 0)) :: (b1, .cells (playCells c v) 31 (0, 0)) :: (Id ++ (Iv ++ Is)))) := H11
  refine Do.ok run_fld (Do.ld H11 1 rfl rfl ?_)
  refine Do.append (t := 42) (t2 := 42) (.inr ⟨_, rfl⟩) H11 (row0 3 1 g2) (hkp.src H11 (ints_one _)) (by omega) (by omega) ?_
  intro k' Ik w12 hrk H12 _
  have hrk : IRow k' s.keep Ik := by unfold IRow; rw [Nat.zero_add, List.nil_append] at hrk; exact hrk
  have H12 : Has w w12 ((b5, .cells (cells5 s.kind s.conn d' s.brk kv) 44 (0, 0)) :: (b3, .cells (playCells c v') 31 (0, 0)) :: (b2, .cells (playCells cfg0 (.slice none 0 0)) 31 (0, 0)) :: (b1, .cells (playCells c v) 31 (0, 0)) :: ((Id ++ Ik) ++ (Iv ++ Is))) := H12.perm (by classical exact List.perm_iff_count.2 (fun a => by simp only [List.count_append, List.count_cons, List.count_nil, List.set_cons_zero, List.set_cons_succ, List.setIfInBounds_toArray, List.cons_append, List.nil_append, List.append_assoc]; omega))
  refine Do.ok run_fld (DoU.st H12 0 rfl hrk.one.1 hrk.one.2 (by simp [cells5]) (open0 _) ?_)
  intro w13 H13
  have H13 : Has w w13 ((b5, .cells (cells5 s.kind s.conn d' s.brk k') 44 (0, 0)) :: (b3, .cells (playCells c v') 31 (0, 0)) :: (b2, .cells (playCells cfg0 (.slice none 0 0)) 31 (0, 0)) :: (b1, .cells (playCells c v) 31 (0, 0)) :: ((Id ++ Ik) ++ (Iv ++ Is))) := H13
  have hsAt : StepAt (cells5 s.kind s.conn d' s.brk k') s (Id ++ Ik) := ⟨d', k', Id, Ik, rfl, hrd, hrk, rfl⟩
  refine Do.ok run_fld (Do.ld H13 1 rfl rfl (Do.ldAll H13 0 rfl rfl ?_))
  refine Do.bs H13 hsAt.bs ?_
  intro g3 w14 H14
  have H14 : Has w w14 ((g3, .cells (cells5 s.kind s.conn d' s.brk k') 44 (0, 0)) :: (Iv ++ ((b5, .cells (cells5 s.kind s.conn d' s.brk k') 44 (0, 0)) :: (b3, .cells (playCells c v') 31 (0, 0)) :: (b2, .cells (playCells cfg0 (.slice none 0 0)) 31 (0, 0)) :: (b1, .cells (playCells c v) 31 (0, 0)) :: ((Id ++ Ik) ++ Is)))) := H14.perm (by classical exact List.perm_iff_count.2 (fun a => by simp only [List.count_append, List.count_cons, List.count_nil, List.set_cons_zero, List.set_cons_succ, List.setIfInBounds_toArray, List.cons_append, List.nil_append, List.append_assoc]; omega))
  refine Do.append2 (t := 29) H14 hr hsAt.flat.1 hsAt.flat.2.2 (by omega) (by omega) ?_
  intro v2 Iv2 w15 hr2 H15 _
  have H15 : Has w w15 ((b3, .cells (playCells c v') 31 (0, 0)) :: (b2, .cells (playCells cfg0 (.slice none 0 0)) 31 (0, 0)) :: (b1, .cells (playCells c v) 31 (0, 0)) :: (Iv2 ++ ((Id ++ Ik) ++ Is))) := (H15.perm (by classical exact List.perm_iff_count.2 (fun a => by simp only [List.count_append, List.count_cons, List.count_nil, List.set_cons_zero, List.set_cons_succ, List.setIfInBounds_toArray, List.cons_append, List.nil_append, List.append_assoc]; omega)) : Has w w15 ((b5, .cells (cells5 s.kind s.conn d' s.brk k') 44 (0, 0)) :: (b3, .cells (playCells c v') 31 (0, 0)) :: (b2, .cells (playCells cfg0 (.slice none 0 0)) 31 (0, 0)) :: (b1, .cells (playCells c v) 31 (0, 0)) :: (Iv2 ++ ((Id ++ Ik) ++ Is)))).tail
  refine Do.ok run_fld (DoU.st H15 0 rfl hr2.one.1 hr2.one.2 (by simp [playCells]) (open0 _) ?_)
  intro w16 H16
  refine Do.ok (run_addi (a := (i : Int)) (b := 1) (by omega)) ⟨k - 1, by omega, i + 1, v2, _, Iv2, (Id ++ Ik) ++ Is, by omega, rfl, hr2, by rw [htk]; exact .snoc hsa hsAt, H16⟩
end Go.Proofs.YtdnnamaimgijpaaDoor
