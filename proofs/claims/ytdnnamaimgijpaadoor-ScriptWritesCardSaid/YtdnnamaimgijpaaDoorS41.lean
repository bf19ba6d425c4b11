/- The walk of lent. Conditions: none. -/
import Derived.Test.YtdnnamaimgijpaaDoorS40
set_option linter.unusedVariables false
set_option linter.unusedSectionVars false
set_option maxRecDepth 10000
namespace Go.Proofs.YtdnnamaimgijpaaDoor
open Go Go.Sx Go.Proofs Go.Lib Go.RowKit

theorem run_idx5 {b n c i : Nat} (hi : i < n) (w : World) : (Instr.indexAt 29 (.slice (some ⟨b, 0, none⟩) n c) (.int .i64 (i : Int))).run P w = .ok (.pointer (some ⟨b, i * 5, none⟩)) w := by
  have := run_idx (P := P) (w := w) (t := 29) (e := 44) (b := b) (o := 0) (n := n) (c := c) (i := (i : Int)) (by omega) (by omega)
  rw [this]; simp
abbrev plB (b : Nat) (c : Cfg) (v : Value) : Nat × Obj := (b, .cells (playCells c v) 31 (0, 0))
abbrev stB (b : Nat) (l : List Value) : Nat × Obj := (b, .cells l.toArray 44 (0, 0))
section
variable {w w6 : World} {b3 bs n cp i : Nat} {c : Cfg} {s : StepV} {d kv : Value} {xl q : List Value} {Id Ik L : List (Nat × Obj)} (hi : i < n) (hxl : xl.length = i * 5)
include hi hxl
theorem lc2 : (xl ++ ((cells5 s.kind s.conn d s.brk kv).toList ++ q)).toArray[i * 5 + 2]? = some d := (cellM hxl (by simp [cells5])).trans rfl
theorem lc4 : (xl ++ ((cells5 s.kind s.conn d s.brk kv).toList ++ q)).toArray[i * 5 + 4]? = some kv := (cellM hxl (by simp [cells5])).trans rfl
theorem lz5 : i * 5 + 5 ≤ (xl ++ ((cells5 s.kind s.conn d s.brk kv).toList ++ q)).toArray.size := by simp [cells5, hxl]
theorem lentD (hd : BRow d s.data Id) (hle : s.data.length ≤ 2147483647) (H : Has w w6 (plB b3 c (.slice (some ⟨bs, 0, none⟩) n cp) :: stB bs (xl ++ ((cells5 s.kind s.conn d s.brk kv).toList ++ q)) :: (Id ++ L))) {J : World → Prop}
    (hJ : ∀ v2 I2 w', LRow 5 1 v2 s.data.length (byteCells s.data) [.int .u8 165] I2 → Has w w' (plB b3 c (.slice (some ⟨bs, 0, none⟩) n cp) :: stB bs (xl ++ ((cells5 s.kind s.conn v2 s.brk kv).toList ++ q)) :: (I2 ++ L)) → J w') :
    ∃ S : World → Prop, S (drewW w6) ∧ (fun w =>
Take P S (Instr.fieldAt 31 (pt b3) 1) fun t24 =>
Take P S (Instr.loadAt 29 t24) fun t25 =>
Take P S (Instr.fieldAt 31 (pt b3) 1) fun t27 =>
Take P S (Instr.loadAt 29 t27) fun t28 =>
Take P S (Instr.indexAt 29 t28 (.int .i64 i)) fun t30 =>
Take P S (Instr.fieldAt 44 t30 2) fun t31 =>
(Do P (Instr.loadAt 41 t31) w (fun t32 w =>
S w ∧ Do P (Instr.buildSlice 41 1 #[(0, (.int .u8 165))]) w (fun t33 w =>
S w ∧ Do P (Builtin.append_ #[41, 41] 41 #[t32, t33]) w (fun t34 w =>
S w ∧ Take P S (Instr.sliceAt 41 t34 none (some (.int .i64 (s.data.length : Int))) none) fun t36 =>
Take P S (Instr.indexAt 29 t25 (.int .i64 i)) fun t37 =>
Take P S (Instr.fieldAt 44 t37 2) fun t38 =>
DoU P (Instr.storeAt 41 t38 t36) w (fun _ w =>
S w ∧ J w) (fun _ _ => False)) (fun _ _ => False)) (fun _ _ => False)) (fun _ _ => False)) ∧
(Do P (Instr.buildSlice 41 1 #[(0, (.int .u8 165))]) w (fun t33_1 w =>
S w ∧ Do P (Instr.loadAt 41 t31) w (fun t32_1 w =>
S w ∧ Do P (Builtin.append_ #[41, 41] 41 #[t32_1, t33_1]) w (fun t34_1 w =>
S w ∧ Take P S (Instr.sliceAt 41 t34_1 none (some (.int .i64 (s.data.length : Int))) none) fun t36_1 =>
Take P S (Instr.indexAt 29 t25 (.int .i64 i)) fun t37_1 =>
Take P S (Instr.fieldAt 44 t37_1 2) fun t38_1 =>
DoU P (Instr.storeAt 41 t38_1 t36_1) w (fun _ w =>
S w ∧ J w) (fun _ _ => False)) (fun _ _ => False)) (fun _ _ => False)) (fun _ _ => False))) (drewW w6) := by
  have Hd := H.drew
  refine ⟨(fun w => w.heap[b3]? = some (.cells (playCells c (.slice (some ⟨bs, 0, none⟩) n cp)) 31 (0, 0))), Hd.get 0 rfl, ?_⟩
  refine Take.ok (fun w _ => run_fld) (Take.ok (v := .slice (some ⟨bs, 0, none⟩) n cp) (fun w hS => run_load1 ((cell_of_blk hS _).trans rfl)) ?_)
  refine Take.ok (fun w _ => run_fld) (Take.ok (v := .slice (some ⟨bs, 0, none⟩) n cp) (fun w hS => run_load1 ((cell_of_blk hS _).trans rfl)) ?_)
  refine Take.ok (fun w _ => run_idx5 hi _) (Take.ok (fun w _ => run_fld) ?_)
  have tail : ∀ (w11 : World) (k1 : Value) (I1 : List (Nat × Obj)), Row 5 1 k1 (s.data.length + 1) (byteCells s.data ++ [.int .u8 165]) I1 →
      Has w w11 (I1 ++ (plB b3 c (.slice (some ⟨bs, 0, none⟩) n cp) :: stB bs (xl ++ ((cells5 s.kind s.conn d s.brk kv).toList ++ q)) :: L)) →
      (w11.heap[b3]? = some (.cells (playCells c (.slice (some ⟨bs, 0, none⟩) n cp)) 31 (0, 0))) ∧
      Take P (fun w => w.heap[b3]? = some (.cells (playCells c (.slice (some ⟨bs, 0, none⟩) n cp)) 31 (0, 0))) (Instr.sliceAt 41 k1 none (some (.int .i64 (s.data.length : Int))) none) fun t58 =>
      Take P (fun w => w.heap[b3]? = some (.cells (playCells c (.slice (some ⟨bs, 0, none⟩) n cp)) 31 (0, 0))) (Instr.indexAt 29 (.slice (some ⟨bs, 0, none⟩) n cp) (.int .i64 i)) fun t59 =>
      Take P (fun w => w.heap[b3]? = some (.cells (playCells c (.slice (some ⟨bs, 0, none⟩) n cp)) 31 (0, 0))) (Instr.fieldAt 44 t59 2) fun t60 =>
      DoU P (Instr.storeAt 41 t60 t58) w11 (fun _ w' => (fun w => w.heap[b3]? = some (.cells (playCells c (.slice (some ⟨bs, 0, none⟩) n cp)) 31 (0, 0))) w' ∧ J w') (fun _ _ => False) := by
    intro w11 k1 I1 hk1 H11
    obtain ⟨k2, hslk, hlk⟩ := Row.lend (t := 41) hk1 (Row.len hd) rfl
    have H11 : Has w w11 (plB b3 c (.slice (some ⟨bs, 0, none⟩) n cp) :: stB bs (xl ++ ((cells5 s.kind s.conn d s.brk kv).toList ++ q)) :: (I1 ++ L)) := H11.perm (by classical exact List.perm_iff_count.2 (fun a => by simp only [List.count_append, List.count_cons, List.count_nil, List.set_cons_zero, List.set_cons_succ, List.setIfInBounds_toArray, List.cons_append, List.nil_append, List.append_assoc]; omega))
    refine ⟨H11.get 0 rfl, Take.ok (fun w _ => hslk w) (Take.ok (fun w _ => run_idx5 hi _) (Take.ok (fun w _ => run_fld) ?_))⟩
    refine DoU.st H11 1 rfl hlk.row.one.1 hlk.row.one.2 (by have := lz5 (s := s) (d := d) (kv := kv) (q := q) hi hxl; omega) (open0 _) ?_
    intro w12 H12
    rw [setM hxl (by simp [cells5])] at H12
    exact ⟨H12.get 0 rfl, hJ _ _ _ hlk H12⟩
  constructor
  · refine Do.ld Hd 1 rfl (lc2 hi hxl) ⟨Hd.get 0 rfl, Do.bs Hd bs41m ?_⟩
    intro g2 w10 H10
    refine ⟨H10.get 1 rfl, ?_⟩
    have H10 : Has w w10 ((g2, .cells #[.int .u8 165] 5 (0, 0)) :: (Id ++ (plB b3 c (.slice (some ⟨bs, 0, none⟩) n cp) :: stB bs (xl ++ ((cells5 s.kind s.conn d s.brk kv).toList ++ q)) :: L))) := H10.perm (by classical exact List.perm_iff_count.2 (fun a => by simp only [List.count_append, List.count_cons, List.count_nil, List.set_cons_zero, List.set_cons_succ, List.setIfInBounds_toArray, List.cons_append, List.nil_append, List.append_assoc]; omega))
    exact Do.append2 (t := 41) H10 hd (m := 1) rfl (by simp [Value.oneCell']) (by omega) (by omega) fun k1 I1 w11 hk1 H11 _ => tail w11 k1 I1 hk1 H11
  · refine Do.bs Hd bs41m ?_
    intro g2 w10 H10
    refine ⟨H10.get 1 rfl, Do.ld H10 2 rfl (lc2 hi hxl) ⟨H10.get 1 rfl, ?_⟩⟩
    have H10 : Has w w10 ((g2, .cells #[.int .u8 165] 5 (0, 0)) :: (Id ++ (plB b3 c (.slice (some ⟨bs, 0, none⟩) n cp) :: stB bs (xl ++ ((cells5 s.kind s.conn d s.brk kv).toList ++ q)) :: L))) := H10.perm (by classical exact List.perm_iff_count.2 (fun a => by simp only [List.count_append, List.count_cons, List.count_nil, List.set_cons_zero, List.set_cons_succ, List.setIfInBounds_toArray, List.cons_append, List.nil_append, List.append_assoc]; omega))
    exact Do.append2 (t := 41) H10 hd (m := 1) rfl (by simp [Value.oneCell']) (by omega) (by omega) fun k1 I1 w11 hk1 H11 _ => tail w11 k1 I1 hk1 H11
theorem lentK (hd : IRow kv s.keep Ik) (hle : s.keep.length ≤ 2147483647) (H : Has w w6 (plB b3 c (.slice (some ⟨bs, 0, none⟩) n cp) :: stB bs (xl ++ ((cells5 s.kind s.conn d s.brk kv).toList ++ q)) :: (Ik ++ L))) {J : World → Prop}
    (hJ : ∀ v2 I2 w', LRow 3 1 v2 s.keep.length (ints s.keep) [.int .i64 (-99)] I2 → Has w w' (plB b3 c (.slice (some ⟨bs, 0, none⟩) n cp) :: stB bs (xl ++ ((cells5 s.kind s.conn d s.brk v2).toList ++ q)) :: (I2 ++ L)) → J w') :
    ∃ S : World → Prop, S (drewW w6) ∧ (fun w =>
Take P S (Instr.fieldAt 31 (pt b3) 1) fun t24 =>
Take P S (Instr.loadAt 29 t24) fun t25 =>
Take P S (Instr.fieldAt 31 (pt b3) 1) fun t27 =>
Take P S (Instr.loadAt 29 t27) fun t28 =>
Take P S (Instr.indexAt 29 t28 (.int .i64 i)) fun t30 =>
Take P S (Instr.fieldAt 44 t30 4) fun t31 =>
(Do P (Instr.loadAt 42 t31) w (fun t32 w =>
S w ∧ Do P (Instr.buildSlice 42 1 #[(0, (.int .i64 (-99)))]) w (fun t33 w =>
S w ∧ Do P (Builtin.append_ #[42, 42] 42 #[t32, t33]) w (fun t34 w =>
S w ∧ Take P S (Instr.sliceAt 42 t34 none (some (.int .i64 (s.keep.length : Int))) none) fun t36 =>
Take P S (Instr.indexAt 29 t25 (.int .i64 i)) fun t37 =>
Take P S (Instr.fieldAt 44 t37 4) fun t38 =>
DoU P (Instr.storeAt 42 t38 t36) w (fun _ w =>
S w ∧ J w) (fun _ _ => False)) (fun _ _ => False)) (fun _ _ => False)) (fun _ _ => False)) ∧
(Do P (Instr.buildSlice 42 1 #[(0, (.int .i64 (-99)))]) w (fun t33_1 w =>
S w ∧ Do P (Instr.loadAt 42 t31) w (fun t32_1 w =>
S w ∧ Do P (Builtin.append_ #[42, 42] 42 #[t32_1, t33_1]) w (fun t34_1 w =>
S w ∧ Take P S (Instr.sliceAt 42 t34_1 none (some (.int .i64 (s.keep.length : Int))) none) fun t36_1 =>
Take P S (Instr.indexAt 29 t25 (.int .i64 i)) fun t37_1 =>
Take P S (Instr.fieldAt 44 t37_1 4) fun t38_1 =>
DoU P (Instr.storeAt 42 t38_1 t36_1) w (fun _ w =>
S w ∧ J w) (fun _ _ => False)) (fun _ _ => False)) (fun _ _ => False)) (fun _ _ => False))) (drewW w6) := by
  have Hd := H.drew
  refine ⟨(fun w => w.heap[b3]? = some (.cells (playCells c (.slice (some ⟨bs, 0, none⟩) n cp)) 31 (0, 0))), Hd.get 0 rfl, ?_⟩
  refine Take.ok (fun w _ => run_fld) (Take.ok (v := .slice (some ⟨bs, 0, none⟩) n cp) (fun w hS => run_load1 ((cell_of_blk hS _).trans rfl)) ?_)
  refine Take.ok (fun w _ => run_fld) (Take.ok (v := .slice (some ⟨bs, 0, none⟩) n cp) (fun w hS => run_load1 ((cell_of_blk hS _).trans rfl)) ?_)
  refine Take.ok (fun w _ => run_idx5 hi _) (Take.ok (fun w _ => run_fld) ?_)
  have tail : ∀ (w11 : World) (k1 : Value) (I1 : List (Nat × Obj)), Row 3 1 k1 (s.keep.length + 1) (ints s.keep ++ [.int .i64 (-99)]) I1 →
      Has w w11 (I1 ++ (plB b3 c (.slice (some ⟨bs, 0, none⟩) n cp) :: stB bs (xl ++ ((cells5 s.kind s.conn d s.brk kv).toList ++ q)) :: L)) →
      (w11.heap[b3]? = some (.cells (playCells c (.slice (some ⟨bs, 0, none⟩) n cp)) 31 (0, 0))) ∧
      Take P (fun w => w.heap[b3]? = some (.cells (playCells c (.slice (some ⟨bs, 0, none⟩) n cp)) 31 (0, 0))) (Instr.sliceAt 42 k1 none (some (.int .i64 (s.keep.length : Int))) none) fun t58 =>
      Take P (fun w => w.heap[b3]? = some (.cells (playCells c (.slice (some ⟨bs, 0, none⟩) n cp)) 31 (0, 0))) (Instr.indexAt 29 (.slice (some ⟨bs, 0, none⟩) n cp) (.int .i64 i)) fun t59 =>
      Take P (fun w => w.heap[b3]? = some (.cells (playCells c (.slice (some ⟨bs, 0, none⟩) n cp)) 31 (0, 0))) (Instr.fieldAt 44 t59 4) fun t60 =>
      DoU P (Instr.storeAt 42 t60 t58) w11 (fun _ w' => (fun w => w.heap[b3]? = some (.cells (playCells c (.slice (some ⟨bs, 0, none⟩) n cp)) 31 (0, 0))) w' ∧ J w') (fun _ _ => False) := by
    intro w11 k1 I1 hk1 H11
    obtain ⟨k2, hslk, hlk⟩ := Row.lend (t := 42) hk1 (Row.len hd) rfl
    have H11 : Has w w11 (plB b3 c (.slice (some ⟨bs, 0, none⟩) n cp) :: stB bs (xl ++ ((cells5 s.kind s.conn d s.brk kv).toList ++ q)) :: (I1 ++ L)) := H11.perm (by classical exact List.perm_iff_count.2 (fun a => by simp only [List.count_append, List.count_cons, List.count_nil, List.set_cons_zero, List.set_cons_succ, List.setIfInBounds_toArray, List.cons_append, List.nil_append, List.append_assoc]; omega))
    refine ⟨H11.get 0 rfl, Take.ok (fun w _ => hslk w) (Take.ok (fun w _ => run_idx5 hi _) (Take.ok (fun w _ => run_fld) ?_))⟩
    refine DoU.st H11 1 rfl hlk.row.one.1 hlk.row.one.2 (by have := lz5 (s := s) (d := d) (kv := kv) (q := q) hi hxl; omega) (open0 _) ?_
    intro w12 H12
    rw [setM hxl (by simp [cells5])] at H12
    exact ⟨H12.get 0 rfl, hJ _ _ _ hlk H12⟩
  constructor
  · refine Do.ld Hd 1 rfl (lc4 hi hxl) ⟨Hd.get 0 rfl, Do.bs Hd (bs42 _) ?_⟩
    intro g2 w10 H10
    refine ⟨H10.get 1 rfl, ?_⟩
    have H10 : Has w w10 ((g2, .cells #[.int .i64 (-99)] 3 (0, 0)) :: (Ik ++ (plB b3 c (.slice (some ⟨bs, 0, none⟩) n cp) :: stB bs (xl ++ ((cells5 s.kind s.conn d s.brk kv).toList ++ q)) :: L))) := H10.perm (by classical exact List.perm_iff_count.2 (fun a => by simp only [List.count_append, List.count_cons, List.count_nil, List.set_cons_zero, List.set_cons_succ, List.setIfInBounds_toArray, List.cons_append, List.nil_append, List.append_assoc]; omega))
    exact Do.append2 (t := 42) H10 hd (m := 1) rfl (by simp [Value.oneCell']) (by omega) (by omega) fun k1 I1 w11 hk1 H11 _ => tail w11 k1 I1 hk1 H11
  · refine Do.bs Hd (bs42 _) ?_
    intro g2 w10 H10
    refine ⟨H10.get 1 rfl, Do.ld H10 2 rfl (lc4 hi hxl) ⟨H10.get 1 rfl, ?_⟩⟩
    have H10 : Has w w10 ((g2, .cells #[.int .i64 (-99)] 3 (0, 0)) :: (Ik ++ (plB b3 c (.slice (some ⟨bs, 0, none⟩) n cp) :: stB bs (xl ++ ((cells5 s.kind s.conn d s.brk kv).toList ++ q)) :: L))) := H10.perm (by classical exact List.perm_iff_count.2 (fun a => by simp only [List.count_append, List.count_cons, List.count_nil, List.set_cons_zero, List.set_cons_succ, List.setIfInBounds_toArray, List.cons_append, List.nil_append, List.append_assoc]; omega))
    exact Do.append2 (t := 42) H10 hd (m := 1) rfl (by simp [Value.oneCell']) (by omega) (by omega) fun k1 I1 w11 hk1 H11 _ => tail w11 k1 I1 hk1 H11
end
theorem lent_ret (w : World) {cs : Array Value} {c : Cfg} {ss : List StepV} (h : PlayIn w cs c ss) (hss : ss.length ≤ 2147483647) (hb : ∀ s ∈ ss, s.data.length ≤ 2147483647 ∧ s.keep.length ≤ 2147483647) :
    Ret P 15 #[.agg cs] w (fun r w' => ∃ cs' I, r = .agg cs' ∧ PlayL cs' c ss I ∧ Has w w' I) := by
  have hown := fun w1 (hbe : Below w.heap.size w w1) => owned_ret w1 (h.below hbe) hss hb
  generalize hM : (2147483647 : Nat) = M at hss hb
  have h4 : cs.size = 4 := by obtain ⟨v, xs, rfl, _⟩ := h; rfl
  refine f15.calls ?_
  unfold f15.f
  refine Do.box (Has.init w) ?_
  intro b1 w1 H1
  have H1 : Has w w1 [(b1, .cells cs 31 (0, 0))] := by
    obtain ⟨v, xs, rfl, _⟩ := h
    exact H1
  refine Do.alloc H1 ?_
  intro b2 w2 H2
  refine Do.ldAll H2 1 rfl h4 ?_
  refine CallF.ret (f19.enters _ _) (hown w2 H2.toBelow) ?_
  rintro _ w3 ⟨cs', I, rfl, ⟨v, xs, Iv, Is, rfl, hr, hsa, rfl⟩, HI⟩
  obtain ⟨IR, hR, hperm⟩ := hsa.toR
  have H3 : Has w w3 ((Iv ++ IR) ++ [plB b2 cfg0 (.slice none 0 0), (b1, .cells cs 31 (0, 0))]) := (H2.more HI).perm ((List.Perm.append_left Iv hperm).append_right _)
  have H3 : Has w w3 ((Iv ++ IR) ++ [plB b2 cfg0 (.slice none 0 0)]) := (H3.perm (by classical exact List.perm_iff_count.2 (fun a => by simp only [List.count_append, List.count_cons, List.count_nil, List.set_cons_zero, List.set_cons_succ, List.setIfInBounds_toArray, List.cons_append, List.nil_append, List.append_assoc]; omega)) : Has w w3 ((b1, .cells cs 31 (0, 0)) :: ((Iv ++ IR) ++ [plB b2 cfg0 (.slice none 0 0)]))).tail
  refine Do.alloc H3 ?_
  intro b3 w4 H4
  refine DoU.stAll H4 0 rfl rfl rfl (play_flat hr.one.2) (fun j _ => open0 _) ?_
  intro w5 H5
  have H5 : Has w w5 (plB b3 c v :: ((Iv ++ IR) ++ [plB b2 cfg0 (.slice none 0 0)])) := H5
  have H5 : Has w w5 (plB b3 c v :: plB b2 cfg0 (.slice none 0 0) :: (Iv ++ ([] ++ IR))) := H5.perm (by classical exact List.perm_iff_count.2 (fun a => by simp only [List.count_append, List.count_cons, List.count_nil, List.set_cons_zero, List.set_cons_succ, List.setIfInBounds_toArray, List.cons_append, List.nil_append, List.append_assoc]; omega))
  refine ⟨fun k x w' => ∃ (i : Nat) (xl xr : List Value) (Iv IL IR : List (Nat × Obj)), k + i = ss.length ∧ x = .int .i64 i ∧ SRow v ss.length (xl ++ xr) Iv ∧ StepsR StepL (ss.take i) xl IL ∧ StepsR StepAt (ss.drop i) xr IR ∧
      Has w w' (plB b3 c v :: plB b2 cfg0 (.slice none 0 0) :: (Iv ++ (IL ++ IR))),
    ⟨ss.length, 0, [], xs, Iv, [], IR, by omega, rfl, hr, .nil, hR, H5⟩, ?_⟩
  clear H5 hR hr hperm hsa H4 H3 HI H2 H1
  rintro k σ w6 ⟨i, xl, xr, Iv, IL, IR, hk, hx, hr, hL, hR, H⟩
  rw [hx]
  unfold f15.l0
  refine Do.ok run_fld (Do.ld H 0 rfl rfl (Do.ok (Row.lenV hr) (Do.dec run_lss (fun hlt => If.t ?_) (fun hge => If.f ?_))))
  case refine_2 =>
    have hi : i = ss.length := by omega
    subst hi
    rw [List.take_length] at hL
    rw [List.drop_length] at hR
    cases hR
    rw [List.append_nil] at hr H
    refine Do.ok run_fld (Do.ld H 0 rfl rfl (Do.ok (Row.lenV hr) (Do.ok run_fld (Do.ld H 0 rfl rfl (Do.ok (build44m _) ?_)))))
    refine Do.bs H bs29m ?_
    intro g w7 H7
    have H7 : Has w w7 ((g, .cells lentM 44 (0, 0)) :: (Iv ++ (plB b3 c v :: plB b2 cfg0 (.slice none 0 0) :: IL))) := H7.perm (by classical exact List.perm_iff_count.2 (fun a => by simp only [List.count_append, List.count_cons, List.count_nil, List.set_cons_zero, List.set_cons_succ, List.setIfInBounds_toArray, List.cons_append, List.nil_append, List.append_assoc]; omega))
    refine Do.append2 (t := 29) H7 hr (m := 1) rfl (by intro y hy; simp [lentM, cells5] at hy; rcases hy with rfl | rfl | rfl | rfl | rfl <;> rfl) (by omega) (by omega) ?_
    intro v2 Iv2 w8 hr2 H8 _
    obtain ⟨v3, hsl, hl3⟩ := Row.lend (t := 29) hr2 (Row.len hr) rfl
    have H8 : Has w w8 (plB b3 c v :: plB b2 cfg0 (.slice none 0 0) :: (Iv2 ++ IL)) := H8.perm (by classical exact List.perm_iff_count.2 (fun a => by simp only [List.count_append, List.count_cons, List.count_nil, List.set_cons_zero, List.set_cons_succ, List.setIfInBounds_toArray, List.cons_append, List.nil_append, List.append_assoc]; omega))
    refine Do.ok (hsl _) (Do.ok run_fld (DoU.st H8 0 rfl hl3.row.one.1 hl3.row.one.2 (by simp [playCells]) (open0 _) ?_))
    intro w9 H9
    have H9 : Has w w9 (plB b3 c v3 :: plB b2 cfg0 (.slice none 0 0) :: (Iv2 ++ IL)) := H9
    refine Do.ldAll H9 0 rfl rfl (DoU.stAll H9 1 rfl rfl rfl (play_flat hl3.row.one.2) (fun j _ => open0 _) ?_)
    intro w10 H10
    refine ResC.all H10 1 rfl rfl ⟨_, _, rfl, ⟨v3, xl, Iv2, IL, rfl, hl3, hL, rfl⟩, H10.sub ?_⟩
    exact List.Sublist.cons _ (List.sublist_cons_self _ _)
  have hi : i < ss.length := by omega
  have htk : ss.take (i + 1) = ss.take i ++ [ss[i]] := by rw [List.take_add_one, List.getElem?_eq_getElem hi]; rfl
  obtain ⟨hdl, hkl⟩ := hb _ (List.getElem_mem hi)
  rw [List.drop_eq_getElem_cons hi] at hR
  generalize ss[i] = s at *
  generalize hdr : ss.drop (i + 1) = rest at *
  have hxl : xl.length = i * 5 := by
    have := StepsR.len (fun c s I (h : StepL c s I) => h.at.flat.1) hL
    rw [this, List.length_take]; congr 1; omega
  cases hR with
  | @cons _ _ c5 xr J IR hs hR =>
  obtain ⟨d, kv, Id, Ik, rfl, hd, hkp, rfl⟩ := hs
  obtain ⟨bs, cp, sp, rfl, hn, hcap, hnc, hcm, rfl⟩ := Row.blk hr (by omega)
  have hloc : ∀ {d kv : Value} {sp : List Value}, (xl ++ ((cells5 s.kind s.conn d s.brk kv).toList ++ xr)) ++ sp = xl ++ ((cells5 s.kind s.conn d s.brk kv).toList ++ (xr ++ sp)) := by intros; simp
  rw [show ((xl ++ ((cells5 s.kind s.conn d s.brk kv).toList ++ xr)) ++ sp).toArray = (xl ++ ((cells5 s.kind s.conn d s.brk kv).toList ++ (xr ++ sp))).toArray by rw [hloc]] at H
  have H : Has w w6 (plB b3 c (.slice (some ⟨bs, 0, none⟩) ss.length cp) :: plB b2 cfg0 (.slice none 0 0) :: ([stB bs (xl ++ ((cells5 s.kind s.conn d s.brk kv).toList ++ (xr ++ sp)))] ++ (IL ++ ((Id ++ Ik) ++ IR)))) := H
  have H : Has w w6 (plB b3 c (.slice (some ⟨bs, 0, none⟩) ss.length cp) :: stB bs (xl ++ ((cells5 s.kind s.conn d s.brk kv).toList ++ (xr ++ sp))) :: (Id ++ (Ik ++ (plB b2 cfg0 (.slice none 0 0) :: (IL ++ IR))))) := H.perm (by classical exact List.perm_iff_count.2 (fun a => by simp only [List.count_append, List.count_cons, List.count_nil, List.set_cons_zero, List.set_cons_succ, List.setIfInBounds_toArray, List.cons_append, List.nil_append, List.append_assoc]; omega))
  refine Do.ok run_fld (Do.ld H 0 rfl rfl (Do.ok (run_idx5 hi _) (Do.ok run_fld (Do.ld H 1 rfl (lc2 hi hxl) (Do.ok (Row.lenV hd) ?_)))))
  refine ⟨fun w' => ∃ d2 Id2, LRow 5 1 d2 s.data.length (byteCells s.data) [.int .u8 165] Id2 ∧
      Has w w' (plB b3 c (.slice (some ⟨bs, 0, none⟩) ss.length cp) :: stB bs (xl ++ ((cells5 s.kind s.conn d2 s.brk kv).toList ++ (xr ++ sp))) :: (Id2 ++ (Ik ++ (plB b2 cfg0 (.slice none 0 0) :: (IL ++ IR))))), ?_, ?_⟩
  case refine_2 => exact lentD hi hxl hd (by omega) H fun d2 Id2 w' h1 h2 => ⟨d2, Id2, h1, h2⟩
  rintro σ' w9 ⟨d2, Id2, hld, H9⟩
  unfold f15.j1
  refine Do.ok run_fld (Do.ld H9 0 rfl rfl (Do.ok (run_idx5 hi _) (Do.ok run_fld (Do.ld H9 1 rfl (lc4 hi hxl) (Do.ok (Row.lenV hkp) ?_)))))
  have H9 : Has w w9 (plB b3 c (.slice (some ⟨bs, 0, none⟩) ss.length cp) :: stB bs (xl ++ ((cells5 s.kind s.conn d2 s.brk kv).toList ++ (xr ++ sp))) :: (Ik ++ (Id2 ++ (plB b2 cfg0 (.slice none 0 0) :: (IL ++ IR))))) := H9.perm (by classical exact List.perm_iff_count.2 (fun a => by simp only [List.count_append, List.count_cons, List.count_nil, List.set_cons_zero, List.set_cons_succ, List.setIfInBounds_toArray, List.cons_append, List.nil_append, List.append_assoc]; omega))
  refine lentK hi hxl hkp (by omega) H9 ?_
  intro k2 Ik2 w12 hlk H12
  have hS2 : StepL (cells5 s.kind s.conn d2 s.brk k2) s (Id2 ++ Ik2) := ⟨d2, k2, Id2, Ik2, rfl, hld, hlk, rfl⟩
  have hsn : StepsR StepL [s] (cells5 s.kind s.conn d2 s.brk k2).toList (Id2 ++ Ik2) := by have := StepsR.cons hS2 StepsR.nil; simpa using this
  have e5 : xl ++ ((cells5 s.kind s.conn d2 s.brk k2).toList ++ (xr ++ sp)) = ((xl ++ (cells5 s.kind s.conn d2 s.brk k2).toList) ++ xr) ++ sp := by simp
  refine Do.ok (run_addi (a := (i : Int)) (b := 1) (by omega)) ⟨k - 1, by omega, i + 1, xl ++ (cells5 s.kind s.conn d2 s.brk k2).toList, xr, [stB bs (((xl ++ (cells5 s.kind s.conn d2 s.brk k2).toList) ++ xr) ++ sp)], IL ++ (Id2 ++ Ik2), IR, by omega, rfl, ?_, ?_, hdr ▸ hR, ?_⟩
  · exact Row.row (by rw [← hn]; simp [cells5]) (by rw [← hcap]; simp [cells5]) hnc hcm
  · rw [htk]; exact hL.append hsn
  · rw [e5] at H12
    have H12 : Has w w12 (plB b3 c (.slice (some ⟨bs, 0, none⟩) ss.length cp) :: stB bs (((xl ++ (cells5 s.kind s.conn d2 s.brk k2).toList) ++ xr) ++ sp) :: (Ik2 ++ (Id2 ++ (plB b2 cfg0 (.slice none 0 0) :: (IL ++ IR))))) := H12
    exact H12.perm (by classical exact List.perm_iff_count.2 (fun a => by simp only [List.count_append, List.count_cons, List.count_nil, List.set_cons_zero, List.set_cons_succ, List.setIfInBounds_toArray, List.cons_append, List.nil_append, List.append_assoc]; omega))
end Go.Proofs.YtdnnamaimgijpaaDoor
