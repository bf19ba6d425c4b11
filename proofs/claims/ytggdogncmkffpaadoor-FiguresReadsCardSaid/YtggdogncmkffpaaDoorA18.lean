/- The walk of FiguresReads: it returns true. Conditions: none. -/
import Derived.Test.YtggdogncmkffpaaDoorA17
import Derived.Test.YtggdogncmkffpaaDoorSxF3
set_option linter.unusedVariables false
set_option maxRecDepth 100000
namespace Go.Proofs.YtggdogncmkffpaaDoor
open Go Go.Sx Go.Proofs Go.Lib Go.RowKit

theorem figure_len {ps : List Pr} {w : World} {u : Value} (h : Figure ps w u) : (u = .slice none 0 0) ∨ (dictOk ps ∧ BytesAt w u (dictBytes ps) ∧ ∃ x n c, u = .slice x n c ∧ 0 < n) := by
  rcases h with ⟨hd, hb⟩ | h
  · have hb' := hb
    obtain ⟨x, c, he, _⟩ := hb'
    exact .inr ⟨hd, hb, x, _, c, he, dictBytes_pos ps⟩
  · exact .inl h
theorem PairsAt.first {w : World} {u : Value} {ps : List Pr} (h : PairsAt w u ps) (h0 : 0 < ps.length) : ∃ b c cs fz, u = .slice (some ⟨b, 0, none⟩) ps.length c ∧ w.heap[b]? = some (.cells cs 44 fz) ∧
    ∀ j (h : j < ps.length), cs[2 * j]? = some (.string ps[j].1) ∧ cs[2 * j + 1]? = some (.string ps[j].2) := by
  obtain ⟨x, c, rfl, _, _, hp⟩ := h
  obtain ⟨b, cs, fz, rfl, hb, hcs⟩ := hp h0
  exact ⟨b, c, cs, fz, rfl, hb, hcs⟩
theorem Do.ldAll {K : Value → World → Prop} {X : List PanicEntry → World → Prop} {w0 w : World} {L : List (Nat × Obj)} (H : Has w0 w L) (i : Nat) {t : TypeId} {sz : Nat} {z : Value} {by_ : Nat} [ty : Ty P t true sz z by_] {b : Nat} {cs : Array Value} {T : TypeId} {fz : Nat × Nat}
    (hL : L[i]? = some (b, .cells cs T fz)) (hsz : cs.size = sz) (k : K (.agg cs) w) : Do P (Instr.loadAt t (.pointer (some ⟨b, 0, none⟩))) w K X :=
  Do.ldN H i hL (by omega) (by
    have e : cs.extract 0 (0 + sz) = cs := by rw [Nat.zero_add, ← hsz, Array.extract_size]
    rw [e]; exact k)
theorem jobLeft_pos {j : JobD} {now : Int} (h : 0 < jobLeft j now) : jobLeft j now = IntKind.i64.wrap (j.due - now) := by
  unfold jobLeft at *
  split at h
  · rename_i hs
    rw [if_pos hs] at *
    unfold lessV at *
    split at h
    · rename_i h2; rw [if_pos h2]
    · omega
  · omega
theorem lessV_pos {a b : Int} (h : 0 < lessV a b) : lessV a b = IntKind.i64.wrap (a - b) := by
  unfold lessV at *
  split at h
  · rename_i h2; rw [if_pos h2]
  · omega
def retT (w0 : World) : Value → World → Prop := fun r w' => r = .bool true ∧ Below w0.heap.size w0 w'
section
variable {w0 w : World} {L : List (Nat × Obj)} {X : List PanicEntry → World → Prop}
theorem shop5 (s : ShopD) : (shopPairs s)[5]? = some (⟨#[99, 109, 100, 45, 112, 117, 116]⟩, dec (s.done_ 1)) := by
  have : cmdKey 1 = ⟨#[99, 109, 100, 45, 112, 117, 116]⟩ := by kernel_rfl
  rw [← this]; rfl
theorem shop28 (s : ShopD) : (shopPairs s)[28]? = some (⟨#[99, 109, 100, 45, 112, 97, 117, 115, 101, 45, 116, 117, 98, 101]⟩, dec (s.done_ 24)) := by
  have : cmdKey 24 = ⟨#[99, 109, 100, 45, 112, 97, 117, 115, 101, 45, 116, 117, 98, 101]⟩ := by kernel_rfl
  rw [← this]; rfl
theorem shop_quit (s : ShopD) : ∀ p ∈ shopPairs s, p.1.data.toList ≠ (⟨#[99, 109, 100, 45, 113, 117, 105, 116]⟩ : ByteArray).data.toList := by
  have h : (shopPairs s).all (fun p => decide (p.1.data.toList ≠ (⟨#[99, 109, 100, 45, 113, 117, 105, 116]⟩ : ByteArray).data.toList)) = true := by
    unfold shopPairs lastPair
    cases s.draining <;> kernel_rfl
  intro p hp
  simpa using List.all_eq_true.1 h p hp
theorem shop_len (s : ShopD) : (shopPairs s).length = 45 := by simp [shopPairs, sumsPairs, cmdPairs]
theorem shop_block (H : Has w0 w L) {s : ShopD} {i b6 : Nat} (hL : L[i]? = some (b6, .cells s.cells 33 (0, 0))) (hs : s.ok) {u : Value} (F : Figure (shopPairs s) w u) :
    f3.j1 (retT w0) X (.pointer (some ⟨b6, 0, none⟩)) u w := by
  unfold f3.j1
  rcases figure_len F with rfl | ⟨hd, hB, x, n, c, rfl, hn⟩
  · exact Do.ok run_lenS (Do.dec run_gtr (fun h => by omega) (fun _ => If.f ⟨rfl, H.toBelow⟩))
  refine Do.ok run_lenS (Do.dec run_gtr (fun _ => If.t ?_) (fun h => by omega))
  refine CallF.ret (f8.enters _ _) (read_ret _ (shopPairs s) w hd hB) ?_
  rintro _ w1 ⟨u1, rfl, hP, hb1⟩
  have H1 := H.below hb1
  refine Do.ok (run_ext rfl) (Do.ok (run_ext rfl) (Do.ok run_fld (Do.ok (run_idxA (by omega) (by omega)) (Do.ld H1 i (v := .int .i64 (s.done_ 1)) hL rfl ?_))))
  refine CallF.ret (f9.enters _ _) (is_ok 5 hP hd (shop5 s) (hs.done_ 1)) ?_
  rintro _ w2 ⟨rfl, hb2⟩
  have H2 := H1.below hb2
  have hP := hP.below hb2
  refine GuardK.tt (GuardK.tt (Do.ok run_fld (GuardK.tt (Do.ok (run_idxA (by omega) (by omega)) (GuardK.tt (Do.ld H2 i (v := .int .i64 (s.done_ 24)) hL rfl (GuardK.tt ?_)))))))
  refine CallF.ret (f9.enters _ _) (is_ok 28 hP hd (shop28 s) (hs.done_ 24)) ?_
  rintro _ w3 ⟨rfl, hb3⟩
  have H3 := H2.below hb3
  have hP := hP.below hb3
  refine Do.ok run_pickT ?_
  refine GuardK.tt (GuardK.tt (Do.ok run_fld (GuardK.tt (Do.ld H3 i (v := .int .i64 s.segment) hL rfl (GuardK.tt ?_)))))
  refine CallF.ret (f9.enters _ _) (is_ok 43 hP hd rfl hs.segment) ?_
  rintro _ w4 ⟨rfl, hb4⟩
  have H4 := H3.below hb4
  have hP := hP.below hb4
  refine Do.ok run_pickT ?_
  refine GuardK.tt (GuardK.tt (Do.ok run_fld (GuardK.tt (Do.ld H4 i (v := .int .i64 s.opened) hL rfl (GuardK.tt ?_)))))
  refine CallF.ret (f9.enters _ _) (is_ok 37 hP hd rfl hs.opened) ?_
  rintro _ w5 ⟨rfl, hb5⟩
  have H5 := H4.below hb5
  have hP := hP.below hb5
  refine Do.ok run_pickT ?_
  refine CallF.ret (f10.enters _ _) (value_no hP (shop_quit s)) ?_
  rintro _ w6 ⟨rfl, hb6⟩
  have H6 := H5.below hb6
  refine Do.ok (run_ext rfl) (Do.ok (run_ext rfl) (Do.dec run_nei (fun h => absurd rfl h) (fun _ => ?_)))
  obtain ⟨y, d, rfl, _⟩ := hP
  refine GuardK.ff (GuardK.ff (Do.ok run_lenS (GuardK.ff (Do.dec run_nei (fun h => absurd (by rw [shop_len]; rfl) h) (fun _ => Do.ok run_pickF ?_)))))
  refine GuardK.ff (GuardK.ff (Do.ok run_notT (Do.ok run_pickF (GuardK.ff (Do.ok run_pickF (If.f ⟨rfl, H6.toBelow⟩))))))
theorem tube_len (t : TubeD) (now : Int) : (tubePairs t now).length = 14 := by simp [tubePairs, sumsPairs]
theorem job_len (j : JobD) (file now : Int) : (jobPairs j file now).length = 14 := by simp [jobPairs]
theorem drew_below (w : World) (B : Nat) : Below B w (drewW w) := ⟨rfl, rfl, rfl, Nat.le_refl _, fun _ _ => rfl⟩
theorem tube_block (H : Has w0 w L) {t : TubeD} {s : ShopD} {now : Int} {i k b5 b6 : Nat} (hL : L[i]? = some (b6, .cells s.cells 33 (0, 0))) (hK : L[k]? = some (b5, .cells t.cells 30 (0, 0))) (hs : s.ok) (ht : t.ok)
    {u v : Value} (F : Figure (shopPairs s) w u) (G : Figure (tubePairs t now) w v) : f3.j0 (retT w0) X (.pointer (some ⟨b5, 0, none⟩)) (.pointer (some ⟨b6, 0, none⟩)) v u w := by
  unfold f3.j0
  refine ⟨fun w' => Has w0 w' L ∧ Figure (shopPairs s) w' u, fun _ w' h => shop_block h.1 hL hs h.2, ?_⟩
  rcases figure_len G with rfl | ⟨hd, hB, x, n, c, rfl, hn⟩
  · exact Do.ok run_lenS (Do.dec run_gtr (fun h => by omega) (fun _ => If.f ⟨H, F⟩))
  refine Do.ok run_lenS (Do.dec run_gtr (fun _ => If.t ?_) (fun h => by omega))
  refine CallF.ret (f8.enters _ _) (read_ret _ (tubePairs t now) w hd hB) ?_
  rintro _ w1 ⟨u1, rfl, hP, hb1⟩
  have H1 := H.below hb1
  have F := F.below hb1
  refine Do.ok (run_ext rfl) (Do.ok (run_ext rfl) (Do.ok run_fld (Do.ld H1 k (v := .int .i64 t.total) hK rfl ?_)))
  refine CallF.ret (f9.enters _ _) (is_ok 6 hP hd rfl ht.total) ?_
  rintro _ w2 ⟨rfl, hb2⟩
  have H2 := H1.below hb2
  have hP := hP.below hb2
  have F := F.below hb2
  refine GuardK.tt (GuardK.tt (Do.ok run_fld (GuardK.tt (Do.ok run_fld (GuardK.tt (Do.ld H2 k (v := .int .i64 t.sums.urgent) hK rfl (GuardK.tt ?_)))))))
  refine CallF.ret (f9.enters _ _) (is_ok 1 hP hd rfl (by obtain ⟨h0, h1, h2, h3, h4⟩ := ht.sums; assumption)) ?_
  rintro _ w3 ⟨rfl, hb3⟩
  have H3 := H2.below hb3
  have hP := hP.below hb3
  have F := F.below hb3
  refine Do.ok run_pickT ?_
  refine GuardK.tt (GuardK.tt (Do.ok run_fld (GuardK.tt (Do.ld H3 k (v := .int .i64 t.waiting) hK rfl (GuardK.tt ?_)))))
  refine CallF.ret (f9.enters _ _) (is_ok 8 hP hd rfl ht.waiting) ?_
  rintro _ w4 ⟨rfl, hb4⟩
  have H4 := H3.below hb4
  have hP := hP.below hb4
  have F := F.below hb4
  refine Do.ok run_pickT ?_
  refine GuardK.tt (GuardK.tt (Do.ok run_fld (GuardK.tt (Do.ld H4 k (v := .int .i64 t.pause) hK rfl (GuardK.tt ?_)))))
  refine CallF.ret (f9.enters _ _) (is_ok 10 hP hd rfl ht.pause) ?_
  rintro _ w5 ⟨rfl, hb5⟩
  have H5 := H4.below hb5
  have hP := hP.below hb5
  have F := F.below hb5
  refine Do.ok run_pickT ?_
  obtain ⟨b, c, cs, fz, rfl, hb, hcs⟩ := hP.first (by rw [tube_len]; omega)
  have hc0 := hcs 0 (by rw [tube_len]; omega)
  have H6 := H5.drew
  refine ⟨fun w' => w'.heap[b5]? = some (.cells t.cells 30 (0, 0)) ∧ w'.heap[b]? = some (.cells cs 44 fz), ⟨H6.get k hK, hb⟩, ?_⟩
  dsimp only
  refine Take.dec (fun _ => run_nei) (fun h => absurd rfl h) (fun _ => ?_)
  refine GuardT.ff (GuardT.ff (Take.ok (fun _ _ => run_lenS) (GuardT.ff (Take.dec (fun _ => run_nei) (fun h => absurd (by rw [tube_len]; rfl) h) (fun _ => Take.ok (fun _ _ => run_pickF) ?_)))))
  refine GuardT.ff (GuardT.ff (Take.ok (fun _ _ => run_notT) (Take.ok (fun _ _ => run_pickF) ?_)))
  refine GuardT.ff (GuardT.ff (Take.ok (fun _ _ => run_idx (by omega) (by rw [tube_len]; omega)) (GuardT.ff (Take.ok (fun _ _ => run_fld) (GuardT.ff (Take.ok (v := .string ⟨#[110, 97, 109, 101]⟩) (fun w' hS => run_load1 ((cell_of_blk hS.2 _).trans hc0.1)) (GuardT.ff (Take.dec (fun _ => run_nes) (fun h => absurd rfl h) (fun _ => Take.ok (fun _ _ => run_pickF) ?_)))))))))
  refine GuardT.ff (GuardT.ff (Take.ok (fun _ _ => run_idx (by omega) (by rw [tube_len]; omega)) (GuardT.ff (Take.ok (fun _ _ => run_fld) (GuardT.ff (Take.ok (v := .string t.name) (fun w' hS => run_load1 ((cell_of_blk hS.2 _).trans hc0.2)) (GuardT.ff (Take.ok (fun _ _ => run_fld) (GuardT.ff (Take.ok (v := .string t.name) (fun w' hS => run_load1 ((cell_of_blk hS.1 _).trans rfl)) (GuardT.ff (Take.dec (fun _ => run_nes) (fun h => absurd rfl h) (fun _ => Take.ok (fun _ _ => run_pickF) (If.f ?_))))))))))))))
  exact ⟨H6, F.below (drew_below _ _)⟩
def f3.jb (R : Value → World → Prop) (X : List PanicEntry → World → Prop) (J : World → Prop) (t4 t31 a3 : Value) (w : World) : Prop :=
Do P (Builtin.len_ #[24] 3 #[t31]) w (fun t40 w =>
Do P (binOp BinOp.gtr 3 t40 (Value.int IntKind.i64 0)) w (fun t41 w =>
If t41
(CallF P 8 [t31] w (fun t44 w =>
Do P (Instr.extract t44 0) w (fun t45 w =>
Do P (Instr.extract t44 1) w (fun t46 w =>
Do P (Instr.fieldAt 26 t4 0) w (fun t48 w =>
Do P (Instr.loadAt 3 t48) w (fun t49 w =>
CallF P 9 [t45, (Value.string (ByteArray.mk #[105, 100])), t49] w (fun t50 w =>
GuardK t50 true (fun K => K t45 w) w fun t52 w =>
GuardK t50 true (fun K => Do P (Instr.fieldAt 26 t4 1) w K X) w fun t53 w =>
GuardK t50 true (fun K => Do P (Instr.loadAt 3 t53) w K X) w fun t54 w =>
GuardK t50 true (fun K => CallF P 9 [t52, (Value.string (ByteArray.mk #[112, 114, 105])), t54] w K X) w fun t55 w =>
Do P (pickS t50 t55 (Value.bool false)) w (fun t56 w =>
GuardK t56 true (fun K => K t45 w) w fun t58 w =>
GuardK t56 true (fun K => Do P (Instr.fieldAt 26 t4 3) w K X) w fun t59 w =>
GuardK t56 true (fun K => Do P (Instr.loadAt 3 t59) w K X) w fun t60 w =>
GuardK t56 true (fun K => CallF P 9 [t58, (Value.string (ByteArray.mk #[116, 116, 114])), t60] w K X) w fun t61 w =>
Do P (pickS t56 t61 (Value.bool false)) w (fun t62 w =>
GuardK t62 true (fun K => K t45 w) w fun t64 w =>
GuardK t62 true (fun K => CallF P 9 [t64, (Value.string (ByteArray.mk #[102, 105, 108, 101])), (Value.int IntKind.i64 3)] w K X) w fun t65 w =>
Do P (pickS t62 t65 (Value.bool false)) w (fun t66 w =>
GuardK t66 true (fun K => K t45 w) w fun t68 w =>
GuardK t66 true (fun K => Do P (Instr.fieldAt 26 t4 9) w K X) w fun t69 w =>
GuardK t66 true (fun K => Do P (Instr.fieldAt 23 t69 4) w K X) w fun t70 w =>
GuardK t66 true (fun K => Do P (Instr.loadAt 3 t70) w K X) w fun t71 w =>
GuardK t66 true (fun K => CallF P 9 [t68, (Value.string (ByteArray.mk #[107, 105, 99, 107, 115])), t71] w K X) w fun t72 w =>
Do P (pickS t66 t72 (Value.bool false)) w (fun t73 w =>
∃ S : World → Prop, S (drewW w) ∧ (fun w =>
Take P S (binS BinOp.neq 39 (Operand.tmp 74) (Operand.const (Value.int IntKind.i64 0)) t46 (Value.int IntKind.i64 0)) fun t75 =>
GuardT t75 false (fun K => K t45) fun t77 =>
GuardT t75 false (fun K => Take P S (Builtin.len_ #[38] 3 #[t77]) K) fun t78 =>
GuardT t75 false (fun K => Take P S (binS BinOp.neq 3 (Operand.tmp 78) (Operand.const (Value.int IntKind.i64 14)) t78 (Value.int IntKind.i64 14)) K) fun t79 =>
Take P S (pickS t75 (Value.bool true) t79) fun t80 =>
GuardT t80 false (fun K => K t73) fun t82 =>
GuardT t80 false (fun K => Take P S (Op.unary UnOp.not t82) K) fun t83 =>
Take P S (pickS t80 (Value.bool true) t83) fun t84 =>
GuardT t84 false (fun K => K t45) fun t86 =>
GuardT t84 false (fun K => Take P S (Instr.indexAt 38 t86 (Value.int IntKind.i64 0)) K) fun t87 =>
GuardT t84 false (fun K => Take P S (Instr.fieldAt 44 t87 0) K) fun t88 =>
GuardT t84 false (fun K => Take P S (Instr.loadAt 9 t88) K) fun t89 =>
GuardT t84 false (fun K => Take P S (binS BinOp.neq 9 (Operand.tmp 89) (Operand.const (Value.string (ByteArray.mk #[105, 100]))) t89 (Value.string (ByteArray.mk #[105, 100]))) K) fun t90 =>
Take P S (pickS t84 (Value.bool true) t90) fun t91 =>
GuardT t91 false (fun K => K t45) fun t93 =>
GuardT t91 false (fun K => Take P S (Instr.indexAt 38 t93 (Value.int IntKind.i64 1)) K) fun t94 =>
GuardT t91 false (fun K => Take P S (Instr.fieldAt 44 t94 0) K) fun t95 =>
GuardT t91 false (fun K => Take P S (Instr.loadAt 9 t95) K) fun t96 =>
GuardT t91 false (fun K => Take P S (binS BinOp.neq 9 (Operand.tmp 96) (Operand.const (Value.string (ByteArray.mk #[116, 117, 98, 101]))) t96 (Value.string (ByteArray.mk #[116, 117, 98, 101]))) K) fun t97 =>
Take P S (pickS t91 (Value.bool true) t97) fun t98 =>
GuardT t98 false (fun K => K t45) fun t100 =>
GuardT t98 false (fun K => Take P S (Instr.indexAt 38 t100 (Value.int IntKind.i64 1)) K) fun t101 =>
GuardT t98 false (fun K => Take P S (Instr.fieldAt 44 t101 1) K) fun t102 =>
GuardT t98 false (fun K => Take P S (Instr.loadAt 9 t102) K) fun t103 =>
GuardT t98 false (fun K => Take P S (Instr.fieldAt 26 t4 10) K) fun t104 =>
GuardT t98 false (fun K => Take P S (Instr.loadAt 9 t104) K) fun t105 =>
GuardT t98 false (fun K => Take P S (binS BinOp.neq 9 (Operand.tmp 103) (Operand.tmp 105) t103 t105) K) fun t106 =>
Take P S (pickS t98 (Value.bool true) t106) fun t107 =>
If t107
(R (Value.bool false) w)
(CallF P 10 [t45, (Value.string (ByteArray.mk #[116, 105, 109, 101, 45, 108, 101, 102, 116]))] w (fun t110 w =>
Do P (Instr.extract t110 0) w (fun t111 w =>
Do P (Instr.extract t110 1) w (fun t112 w =>
CallF P 10 [t45, (Value.string (ByteArray.mk #[97, 103, 101]))] w (fun t115 w =>
Do P (Instr.extract t115 0) w (fun t116 w =>
Do P (Instr.extract t115 1) w (fun t117 w =>
Do P (Op.unary UnOp.not t112) w (fun t119 w =>
GuardK t119 false (fun K => K t117 w) w fun t121 w =>
GuardK t119 false (fun K => Do P (Op.unary UnOp.not t121) w K X) w fun t122 w =>
Do P (pickS t119 (Value.bool true) t122) w (fun t123 w =>
GuardK t123 false (fun K => K t111 w) w fun t125 w =>
GuardK t123 false (fun K => Do P (binOp BinOp.gtr 3 t125 (Value.int IntKind.i64 0)) w K X) w fun t126 w =>
GuardK t123 false (fun K => K t126 w) w fun t127 w =>
GuardK t127 true (fun K => K t111 w) w fun t128 w =>
GuardK t127 true (fun K => Do P (Instr.fieldAt 26 t4 6) w K X) w fun t129 w =>
GuardK t127 true (fun K => Do P (Instr.loadAt 3 t129) w K X) w fun t130 w =>
GuardK t127 true (fun K => K a3 w) w fun t131 w =>
GuardK t127 true (fun K => Do P (binOp BinOp.sub 3 t130 t131) w K X) w fun t132 w =>
GuardK t127 true (fun K => Do P (binS BinOp.neq 3 (Operand.tmp 128) (Operand.tmp 132) t128 t132) w K X) w fun t133 w =>
GuardK t123 false (fun K => Do P (pickS t127 t133 (Value.bool false)) w K X) w fun t134 w =>
Do P (pickS t123 (Value.bool true) t134) w (fun t135 w =>
GuardK t135 false (fun K => K t116 w) w fun t137 w =>
GuardK t135 false (fun K => Do P (binOp BinOp.gtr 3 t137 (Value.int IntKind.i64 0)) w K X) w fun t138 w =>
GuardK t135 false (fun K => K t138 w) w fun t139 w =>
GuardK t139 true (fun K => K t116 w) w fun t140 w =>
GuardK t139 true (fun K => K a3 w) w fun t141 w =>
GuardK t139 true (fun K => Do P (Instr.fieldAt 26 t4 4) w K X) w fun t142 w =>
GuardK t139 true (fun K => Do P (Instr.loadAt 3 t142) w K X) w fun t143 w =>
GuardK t139 true (fun K => Do P (binOp BinOp.sub 3 t141 t143) w K X) w fun t144 w =>
GuardK t139 true (fun K => Do P (binS BinOp.neq 3 (Operand.tmp 140) (Operand.tmp 144) t140 t144) w K X) w fun t145 w =>
GuardK t135 false (fun K => Do P (pickS t139 t145 (Value.bool false)) w K X) w fun t146 w =>
Do P (pickS t135 (Value.bool true) t146) w (fun t147 w =>
If t147
(R (Value.bool false) w)
(J w)) X) X) X) X) X) X) X) X) X) X)) (drewW w)) X) X) X) X) X) X) X) X) X) X)
(J w)) X) X
theorem job_block {J : World → Prop} {R : Value → World → Prop} (H : Has w0 w L) {j : JobD} {now : Int} {ps qs : List Pr} {i b4 : Nat} (hL : L[i]? = some (b4, .cells j.cells 26 (0, 0))) (hj : j.ok) (hw : i64 now) {u1 u2 u3 : Value}
    (F : Figure (jobPairs j 3 now) w u1) (G : Figure ps w u2) (G' : Figure qs w u3) (hJ : ∀ w', Has w0 w' L ∧ Figure ps w' u2 ∧ Figure qs w' u3 → J w') : f3.jb R X J (.pointer (some ⟨b4, 0, none⟩)) u1 (.int .i64 now) w := by
  unfold f3.jb
  have hjl := jobLeft_i64 j now
  have hle := lessV_i64 now j.born
  rcases figure_len F with rfl | ⟨hd, hB, x, n, c, rfl, hn⟩
  · exact Do.ok run_lenS (Do.dec run_gtr (fun h => by omega) (fun _ => If.f (hJ _ ⟨H, G, G'⟩)))
  refine Do.ok run_lenS (Do.dec run_gtr (fun _ => If.t ?_) (fun h => by omega))
  refine CallF.ret (f8.enters _ _) (read_ret _ (jobPairs j 3 now) w hd hB) ?_
  rintro _ w1 ⟨u, rfl, hP, hb1⟩
  have H := H.below hb1
  have G := G.below hb1
  have G' := G'.below hb1
  refine Do.ok (run_ext rfl) (Do.ok (run_ext rfl) (Do.ok run_fld (Do.ld H i (v := .int .i64 j.id) hL rfl ?_)))
  refine CallF.ret (f9.enters _ _) (is_ok 0 hP hd rfl hj.id) ?_
  rintro _ w2 ⟨rfl, hb2⟩
  have H := H.below hb2
  have G := G.below hb2
  have G' := G'.below hb2
  have hP := hP.below hb2
  refine GuardK.tt (GuardK.tt (Do.ok run_fld (GuardK.tt (Do.ld H i (v := .int .i64 j.pri) hL rfl (GuardK.tt ?_)))))
  refine CallF.ret (f9.enters _ _) (is_ok 3 hP hd rfl hj.pri) ?_
  rintro _ w3 ⟨rfl, hb3⟩
  have H := H.below hb3
  have G := G.below hb3
  have G' := G'.below hb3
  have hP := hP.below hb3
  refine Do.ok run_pickT ?_
  refine GuardK.tt (GuardK.tt (Do.ok run_fld (GuardK.tt (Do.ld H i (v := .int .i64 j.ttr) hL rfl (GuardK.tt ?_)))))
  refine CallF.ret (f9.enters _ _) (is_ok 6 hP hd rfl hj.ttr) ?_
  rintro _ w4 ⟨rfl, hb4⟩
  have H := H.below hb4
  have G := G.below hb4
  have G' := G'.below hb4
  have hP := hP.below hb4
  refine Do.ok run_pickT ?_
  refine GuardK.tt (GuardK.tt ?_)
  refine CallF.ret (f9.enters _ _) (is_ok 8 hP hd rfl (by unfold i64; omega)) ?_
  rintro _ w5 ⟨rfl, hb5⟩
  have H := H.below hb5
  have G := G.below hb5
  have G' := G'.below hb5
  have hP := hP.below hb5
  refine Do.ok run_pickT ?_
  refine GuardK.tt (GuardK.tt (Do.ok run_fld (GuardK.tt (Do.ok run_fld (GuardK.tt (Do.ld H i (v := .int .i64 j.c4) hL rfl (GuardK.tt ?_)))))))
  refine CallF.ret (f9.enters _ _) (is_ok 13 hP hd rfl hj.c4) ?_
  rintro _ w6 ⟨rfl, hb6⟩
  have H := H.below hb6
  have G := G.below hb6
  have G' := G'.below hb6
  have hP := hP.below hb6
  refine Do.ok run_pickT ?_
  have hP' := hP
  obtain ⟨b, c, cs, fz, rfl, hb, hcs⟩ := hP'.first (by rw [job_len]; omega)
  have hc0 := hcs 0 (by rw [job_len]; omega)
  have hc1 := hcs 1 (by rw [job_len]; omega)
  have hdb := drew_below w6 w6.heap.size
  have H := H.below hdb
  have G := G.below hdb
  have G' := G'.below hdb
  have hP := hP.below hdb
  refine ⟨fun w' => w'.heap[b4]? = some (.cells j.cells 26 (0, 0)) ∧ w'.heap[b]? = some (.cells cs 44 fz), ⟨H.get i hL, hb⟩, ?_⟩
  dsimp only
  refine Take.dec (fun _ => run_nei) (fun h => absurd rfl h) (fun _ => ?_)
  refine GuardT.ff (GuardT.ff (Take.ok (fun _ _ => run_lenS) (GuardT.ff (Take.dec (fun _ => run_nei) (fun h => absurd (by rw [job_len]; rfl) h) (fun _ => Take.ok (fun _ _ => run_pickF) ?_)))))
  refine GuardT.ff (GuardT.ff (Take.ok (fun _ _ => run_notT) (Take.ok (fun _ _ => run_pickF) ?_)))
  refine GuardT.ff (GuardT.ff (Take.ok (fun _ _ => run_idx (by omega) (by rw [job_len]; omega)) (GuardT.ff (Take.ok (fun _ _ => run_fld) (GuardT.ff (Take.ok (v := .string ⟨#[105, 100]⟩) (fun w' hS => run_load1 ((cell_of_blk hS.2 _).trans hc0.1)) (GuardT.ff (Take.dec (fun _ => run_nes) (fun h => absurd rfl h) (fun _ => Take.ok (fun _ _ => run_pickF) ?_)))))))))
  refine GuardT.ff (GuardT.ff (Take.ok (fun _ _ => run_idx (by omega) (by rw [job_len]; omega)) (GuardT.ff (Take.ok (fun _ _ => run_fld) (GuardT.ff (Take.ok (v := .string ⟨#[116, 117, 98, 101]⟩) (fun w' hS => run_load1 ((cell_of_blk hS.2 _).trans hc1.1)) (GuardT.ff (Take.dec (fun _ => run_nes) (fun h => absurd rfl h) (fun _ => Take.ok (fun _ _ => run_pickF) ?_)))))))))
  refine GuardT.ff (GuardT.ff (Take.ok (fun _ _ => run_idx (by omega) (by rw [job_len]; omega)) (GuardT.ff (Take.ok (fun _ _ => run_fld) (GuardT.ff (Take.ok (v := .string j.tube) (fun w' hS => run_load1 ((cell_of_blk hS.2 _).trans hc1.2)) (GuardT.ff (Take.ok (fun _ _ => run_fld) (GuardT.ff (Take.ok (v := .string j.tube) (fun w' hS => run_load1 ((cell_of_blk hS.1 _).trans rfl)) (GuardT.ff (Take.dec (fun _ => run_nes) (fun h => absurd rfl h) (fun _ => Take.ok (fun _ _ => run_pickF) (If.f ?_))))))))))))))
  refine CallF.ret (f10.enters _ _) (value_ok 7 hP hd rfl hjl) ?_
  rintro _ w7 ⟨rfl, hb7⟩
  have H := H.below hb7
  have G := G.below hb7
  have G' := G'.below hb7
  have hP := hP.below hb7
  refine Do.ok (run_ext rfl) (Do.ok (run_ext rfl) ?_)
  refine CallF.ret (f10.enters _ _) (value_ok 4 hP hd rfl hle) ?_
  rintro _ w8 ⟨rfl, hb8⟩
  have H := H.below hb8
  have G := G.below hb8
  have G' := G'.below hb8
  refine Do.ok (run_ext rfl) (Do.ok (run_ext rfl) (Do.ok run_notT (GuardK.ff (GuardK.ff (Do.ok run_notT (Do.ok run_pickF ?_))))))
  have hend : J w8 := hJ _ ⟨H, G, G'⟩
  have tail : GuardK (.bool false) false (fun K => K (.int .i64 (lessV now j.born)) w8) w8 fun t137 w =>
GuardK (.bool false) false (fun K => Do P (binOp BinOp.gtr 3 t137 (Value.int IntKind.i64 0)) w K X) w fun t138 w =>
GuardK (.bool false) false (fun K => K t138 w) w fun t139 w =>
GuardK t139 true (fun K => K (.int .i64 (lessV now j.born)) w) w fun t140 w =>
GuardK t139 true (fun K => K (.int .i64 now) w) w fun t141 w =>
GuardK t139 true (fun K => Do P (Instr.fieldAt 26 (.pointer (some ⟨b4, 0, none⟩)) 4) w K X) w fun t142 w =>
GuardK t139 true (fun K => Do P (Instr.loadAt 3 t142) w K X) w fun t143 w =>
GuardK t139 true (fun K => Do P (binOp BinOp.sub 3 t141 t143) w K X) w fun t144 w =>
GuardK t139 true (fun K => Do P (binS BinOp.neq 3 (Operand.tmp 140) (Operand.tmp 144) t140 t144) w K X) w fun t145 w =>
GuardK (.bool false) false (fun K => Do P (pickS t139 t145 (Value.bool false)) w K X) w fun t146 w =>
Do P (pickS (.bool false) (Value.bool true) t146) w (fun t147 w =>
If t147
(R (Value.bool false) w)
(J w)) X := by
    refine GuardK.ff (GuardK.ff (Do.dec run_gtr (fun h => ?_) (fun h => ?_)))
    · repeat (first | refine GuardK.tt ?_ | refine GuardK.ff ?_ | refine GuardK.ft ?_ | refine Do.ok run_fld ?_ | refine Do.ld H i (v := .int .i64 j.born) hL rfl ?_ | refine Do.ok run_sub ?_)
      refine Do.dec run_nei (fun h' => absurd (lessV_pos h) h') (fun _ => ?_)
      exact GuardK.ff (Do.ok run_pickT (Do.ok run_pickF (If.f hend)))
    · repeat (first | refine GuardK.tt ?_ | refine GuardK.ff ?_ | refine GuardK.ft ?_)
      exact Do.ok run_pickF (Do.ok run_pickF (If.f hend))
  refine GuardK.ff (GuardK.ff (Do.dec run_gtr (fun h => ?_) (fun h => ?_)))
  · repeat (first | refine GuardK.tt ?_ | refine GuardK.ff ?_ | refine GuardK.ft ?_ | refine Do.ok run_fld ?_ | refine Do.ld H i (v := .int .i64 j.due) hL rfl ?_ | refine Do.ok run_sub ?_)
    refine Do.dec run_nei (fun h' => absurd (jobLeft_pos h) h') (fun _ => ?_)
    exact GuardK.ff (Do.ok run_pickT (Do.ok run_pickF tail))
  · repeat (first | refine GuardK.tt ?_ | refine GuardK.ff ?_ | refine GuardK.ft ?_)
    exact Do.ok run_pickF (Do.ok run_pickF tail)
end
theorem reads_ret {w : World} (ht : Tab w) {j : JobD} {t : TubeD} {s : ShopD} {now : Int} (hj : j.ok) (htb : t.ok) (hs : s.ok) (hw : i64 now) :
    Ret P 3 #[.agg j.cells, .agg t.cells, .agg s.cells, .int .i64 now] w (fun r w' => r = .bool true ∧ Below w.heap.size w w') := by
  refine f3.calls ?_
  unfold f3.f
  refine Do.box (Has.init w) ?_
  intro b4 w1 H1
  refine Do.box H1 ?_
  intro b5 w2 H2
  refine Do.box H2 ?_
  intro b6 w3 H3
  have H3 : Has w w3 [(b6, .cells s.cells 33 (0, 0)), (b5, .cells t.cells 30 (0, 0)), (b4, .cells j.cells 26 (0, 0))] := H3
  refine CallF.ret (f4.enters _ _) (shown_ret w3 (ht.has H3)) ?_
  rintro _ w4 ⟨rfl, hb4⟩
  have H4 := H3.below hb4
  refine Do.ldAll H4 2 rfl rfl ?_
  refine CallF.ret (f5.enters _ _) (job_fn (ht.has H4) hj (file := 3) (by unfold i64; omega) hw) ?_
  intro u1 w5 hT1
  have H5 := H4.below hT1.1
  have F1 := hT1.figure
  refine Do.ldAll H5 1 rfl rfl ?_
  refine CallF.ret (f6.enters _ _) (tube_fn (ht.has H5) htb hw) ?_
  intro u2 w6 hT2
  have H6 := H5.below hT2.1
  have F2 := hT2.figure
  refine Do.ldAll H6 0 rfl rfl ?_
  refine CallF.ret (f7.enters _ _) (shop_fn (ht.has H6) hs) ?_
  intro u3 w7 hT3
  have H7 := H6.below hT3.1
  have F3 := hT3.figure
  have F2 := F2.below hT3.1
  have F1 := (F1.below hT2.1).below hT3.1
  refine Do.ok run_notT (If.f ?_)
  refine ⟨fun w' => Has w w' [(b6, .cells s.cells 33 (0, 0)), (b5, .cells t.cells 30 (0, 0)), (b4, .cells j.cells 26 (0, 0))] ∧ Figure (tubePairs t now) w' u2 ∧ Figure (shopPairs s) w' u3,
    fun _ w' h => tube_block h.1 (i := 0) (k := 1) rfl rfl hs htb h.2.2 h.2.1, ?_⟩
  exact (job_block H7 (i := 2) rfl hj hw F1 F2 F3 (fun _ h => h) : f3.jb (retT w) (fun _ _ => False) (fun w' => Has w w' [(b6, .cells s.cells 33 (0, 0)), (b5, .cells t.cells 30 (0, 0)), (b4, .cells j.cells 26 (0, 0))] ∧ Figure (tubePairs t now) w' u2 ∧ Figure (shopPairs s) w' u3)
    (.pointer (some ⟨b4, 0, none⟩)) u1 (.int .i64 now) w7)
end Go.Proofs.YtggdogncmkffpaaDoor
