/- Printed forms (by sxprint.py, own work) of functions of this seat's program, each with the theorem that ties it to the code. Conditions: none. -/
import Derived.Test.YtggdogncmkffpaaDoorSxP
set_option linter.unusedVariables false
set_option maxRecDepth 100000
namespace Go.Proofs.YtggdogncmkffpaaDoor
open Go Go.Sx Go.Proofs

/-! ### 3: stint/stintlaw13.FiguresReads -/
def f3.j1 (R : Value → World → Prop) (X : List PanicEntry → World → Prop) (t6 t36 : Value) (w : World) : Prop :=
Do P (Builtin.len_ #[24] 3 #[t36]) w (fun t207 w =>
Do P (binOp BinOp.gtr 3 t207 (Value.int IntKind.i64 0)) w (fun t208 w =>
If t208
(CallF P 8 [t36] w (fun t211 w =>
Do P (Instr.extract t211 0) w (fun t212 w =>
Do P (Instr.extract t211 1) w (fun t213 w =>
Do P (Instr.fieldAt 33 t6 3) w (fun t215 w =>
Do P (Instr.indexAt 31 t215 (Value.int IntKind.i64 1)) w (fun t216 w =>
Do P (Instr.loadAt 3 t216) w (fun t217 w =>
CallF P 9 [t212, (Value.string (ByteArray.mk #[99, 109, 100, 45, 112, 117, 116])), t217] w (fun t218 w =>
GuardK t218 true (fun K => K t212 w) w fun t220 w =>
GuardK t218 true (fun K => Do P (Instr.fieldAt 33 t6 3) w K X) w fun t221 w =>
GuardK t218 true (fun K => Do P (Instr.indexAt 31 t221 (Value.int IntKind.i64 24)) w K X) w fun t222 w =>
GuardK t218 true (fun K => Do P (Instr.loadAt 3 t222) w K X) w fun t223 w =>
GuardK t218 true (fun K => CallF P 9 [t220, (Value.string (ByteArray.mk #[99, 109, 100, 45, 112, 97, 117, 115, 101, 45, 116, 117, 98, 101])), t223] w K X) w fun t224 w =>
Do P (pickS t218 t224 (Value.bool false)) w (fun t225 w =>
GuardK t225 true (fun K => K t212 w) w fun t227 w =>
GuardK t225 true (fun K => Do P (Instr.fieldAt 33 t6 18) w K X) w fun t228 w =>
GuardK t225 true (fun K => Do P (Instr.loadAt 3 t228) w K X) w fun t229 w =>
GuardK t225 true (fun K => CallF P 9 [t227, (Value.string (ByteArray.mk #[98, 105, 110, 108, 111, 103, 45, 109, 97, 120, 45, 115, 105, 122, 101])), t229] w K X) w fun t230 w =>
Do P (pickS t225 t230 (Value.bool false)) w (fun t231 w =>
GuardK t231 true (fun K => K t212 w) w fun t233 w =>
GuardK t231 true (fun K => Do P (Instr.fieldAt 33 t6 6) w K X) w fun t234 w =>
GuardK t231 true (fun K => Do P (Instr.loadAt 3 t234) w K X) w fun t235 w =>
GuardK t231 true (fun K => CallF P 9 [t233, (Value.string (ByteArray.mk #[116, 111, 116, 97, 108, 45, 99, 111, 110, 110, 101, 99, 116, 105, 111, 110, 115])), t235] w K X) w fun t236 w =>
Do P (pickS t231 t236 (Value.bool false)) w (fun t237 w =>
CallF P 10 [t212, (Value.string (ByteArray.mk #[99, 109, 100, 45, 113, 117, 105, 116]))] w (fun t240 w =>
Do P (Instr.extract t240 0) w (fun t241 w =>
Do P (Instr.extract t240 1) w (fun t242 w =>
Do P (binS BinOp.neq 39 (Operand.tmp 243) (Operand.const (Value.int IntKind.i64 0)) t213 (Value.int IntKind.i64 0)) w (fun t244 w =>
GuardK t244 false (fun K => K t212 w) w fun t246 w =>
GuardK t244 false (fun K => Do P (Builtin.len_ #[38] 3 #[t246]) w K X) w fun t247 w =>
GuardK t244 false (fun K => Do P (binS BinOp.neq 3 (Operand.tmp 247) (Operand.const (Value.int IntKind.i64 45)) t247 (Value.int IntKind.i64 45)) w K X) w fun t248 w =>
Do P (pickS t244 (Value.bool true) t248) w (fun t249 w =>
GuardK t249 false (fun K => K t237 w) w fun t251 w =>
GuardK t249 false (fun K => Do P (Op.unary UnOp.not t251) w K X) w fun t252 w =>
Do P (pickS t249 (Value.bool true) t252) w (fun t253 w =>
GuardK t253 false (fun K => K t242 w) w fun t255 w =>
Do P (pickS t253 (Value.bool true) t255) w (fun t256 w =>
If t256
(R (Value.bool false) w)
(R (Value.bool true) w)) X) X) X) X) X) X) X) X) X) X) X) X) X) X) X) X) X)
(R (Value.bool true) w)) X) X
def f3.j0 (R : Value → World → Prop) (X : List PanicEntry → World → Prop) (t5 t6 t34 t36 : Value) (w : World) : Prop :=
∃ J_1 : World → Prop, (∀ (σ : Env) (w : World), J_1 w →
f3.j1 R X t6 t36 w) ∧
Do P (Builtin.len_ #[24] 3 #[t34]) w (fun t149 w =>
Do P (binOp BinOp.gtr 3 t149 (Value.int IntKind.i64 0)) w (fun t150 w =>
If t150
(CallF P 8 [t34] w (fun t153 w =>
Do P (Instr.extract t153 0) w (fun t154 w =>
Do P (Instr.extract t153 1) w (fun t155 w =>
Do P (Instr.fieldAt 30 t5 5) w (fun t157 w =>
Do P (Instr.loadAt 3 t157) w (fun t158 w =>
CallF P 9 [t154, (Value.string (ByteArray.mk #[116, 111, 116, 97, 108, 45, 106, 111, 98, 115])), t158] w (fun t159 w =>
GuardK t159 true (fun K => K t154 w) w fun t161 w =>
GuardK t159 true (fun K => Do P (Instr.fieldAt 30 t5 1) w K X) w fun t162 w =>
GuardK t159 true (fun K => Do P (Instr.fieldAt 28 t162 4) w K X) w fun t163 w =>
GuardK t159 true (fun K => Do P (Instr.loadAt 3 t163) w K X) w fun t164 w =>
GuardK t159 true (fun K => CallF P 9 [t161, (Value.string (ByteArray.mk #[99, 117, 114, 114, 101, 110, 116, 45, 106, 111, 98, 115, 45, 117, 114, 103, 101, 110, 116])), t164] w K X) w fun t165 w =>
Do P (pickS t159 t165 (Value.bool false)) w (fun t166 w =>
GuardK t166 true (fun K => K t154 w) w fun t168 w =>
GuardK t166 true (fun K => Do P (Instr.fieldAt 30 t5 4) w K X) w fun t169 w =>
GuardK t166 true (fun K => Do P (Instr.loadAt 3 t169) w K X) w fun t170 w =>
GuardK t166 true (fun K => CallF P 9 [t168, (Value.string (ByteArray.mk #[99, 117, 114, 114, 101, 110, 116, 45, 119, 97, 105, 116, 105, 110, 103])), t170] w K X) w fun t171 w =>
Do P (pickS t166 t171 (Value.bool false)) w (fun t172 w =>
GuardK t172 true (fun K => K t154 w) w fun t174 w =>
GuardK t172 true (fun K => Do P (Instr.fieldAt 30 t5 8) w K X) w fun t175 w =>
GuardK t172 true (fun K => Do P (Instr.loadAt 3 t175) w K X) w fun t176 w =>
GuardK t172 true (fun K => CallF P 9 [t174, (Value.string (ByteArray.mk #[112, 97, 117, 115, 101])), t176] w K X) w fun t177 w =>
Do P (pickS t172 t177 (Value.bool false)) w (fun t178 w =>
∃ S : World → Prop, S (drewW w) ∧ (fun w =>
Take P S (binS BinOp.neq 39 (Operand.tmp 179) (Operand.const (Value.int IntKind.i64 0)) t155 (Value.int IntKind.i64 0)) fun t180 =>
GuardT t180 false (fun K => K t154) fun t182 =>
GuardT t180 false (fun K => Take P S (Builtin.len_ #[38] 3 #[t182]) K) fun t183 =>
GuardT t180 false (fun K => Take P S (binS BinOp.neq 3 (Operand.tmp 183) (Operand.const (Value.int IntKind.i64 14)) t183 (Value.int IntKind.i64 14)) K) fun t184 =>
Take P S (pickS t180 (Value.bool true) t184) fun t185 =>
GuardT t185 false (fun K => K t178) fun t187 =>
GuardT t185 false (fun K => Take P S (Op.unary UnOp.not t187) K) fun t188 =>
Take P S (pickS t185 (Value.bool true) t188) fun t189 =>
GuardT t189 false (fun K => K t154) fun t191 =>
GuardT t189 false (fun K => Take P S (Instr.indexAt 38 t191 (Value.int IntKind.i64 0)) K) fun t192 =>
GuardT t189 false (fun K => Take P S (Instr.fieldAt 44 t192 0) K) fun t193 =>
GuardT t189 false (fun K => Take P S (Instr.loadAt 9 t193) K) fun t194 =>
GuardT t189 false (fun K => Take P S (binS BinOp.neq 9 (Operand.tmp 194) (Operand.const (Value.string (ByteArray.mk #[110, 97, 109, 101]))) t194 (Value.string (ByteArray.mk #[110, 97, 109, 101]))) K) fun t195 =>
Take P S (pickS t189 (Value.bool true) t195) fun t196 =>
GuardT t196 false (fun K => K t154) fun t198 =>
GuardT t196 false (fun K => Take P S (Instr.indexAt 38 t198 (Value.int IntKind.i64 0)) K) fun t199 =>
GuardT t196 false (fun K => Take P S (Instr.fieldAt 44 t199 1) K) fun t200 =>
GuardT t196 false (fun K => Take P S (Instr.loadAt 9 t200) K) fun t201 =>
GuardT t196 false (fun K => Take P S (Instr.fieldAt 30 t5 0) K) fun t202 =>
GuardT t196 false (fun K => Take P S (Instr.loadAt 9 t202) K) fun t203 =>
GuardT t196 false (fun K => Take P S (binS BinOp.neq 9 (Operand.tmp 201) (Operand.tmp 203) t201 t203) K) fun t204 =>
Take P S (pickS t196 (Value.bool true) t204) fun t205 =>
If t205
(R (Value.bool false) w)
(J_1 w)) (drewW w)) X) X) X) X) X) X) X) X) X)
(J_1 w)) X) X
def f3.f (R : Value → World → Prop) (X : List PanicEntry → World → Prop) (a0 a1 a2 a3 : Value) (w : World) : Prop :=
Do P (Instr.box 26 a0) w (fun t4 w =>
Do P (Instr.box 30 a1) w (fun t5 w =>
Do P (Instr.box 33 a2) w (fun t6 w =>
CallF P 4 [] w (fun t28 w =>
Do P (Instr.loadAt 26 t4) w (fun t29 w =>
CallF P 5 [t29, (Value.int IntKind.i64 3), a3] w (fun t31 w =>
Do P (Instr.loadAt 30 t5) w (fun t32 w =>
CallF P 6 [t32, a3] w (fun t34 w =>
Do P (Instr.loadAt 33 t6) w (fun t35 w =>
CallF P 7 [t35] w (fun t36 w =>
Do P (Op.unary UnOp.not t28) w (fun t38 w =>
If t38
(R (Value.bool false) w)
(∃ J : World → Prop, (∀ (σ : Env) (w : World), J w →
f3.j0 R X t5 t6 t34 t36 w) ∧
Do P (Builtin.len_ #[24] 3 #[t31]) w (fun t40 w =>
Do P (binOp BinOp.gtr 3 t40 (Value.int IntKind.i64 0)) w (fun t41 w =>
If t41
(CallF P 8 [t31] w (fun t44 w =>
Do P (Instr.extract t44 0) w (fun t45 w =>
Do P (Instr.extract t44 1) w (fun t46 w =>
Do P (Instr.fieldAt 26 t4 0) w (fun t48 w =>
Do P (Instr.loadAt 3 t48) w (fun t49 w =>
CallF P 9 [t45, (Value.string (ByteArray.mk #[105, 100])), t49] w (fun t50 w =>
GuardK t50 true (fun K => K t45 w) w fun t52 w =>
GuardK t50 true (fun K => Do P (Instr.fieldAt 26 t4 1) w K X) w fun t53 w =>
GuardK t50 true (fun K => Do P (Instr.loadAt 3 t53) w K X) w fun t54 w =>
GuardK t50 true (fun K => CallF P 9 [t52, (Value.string (ByteArray.mk #[112, 114, 105])), t54] w K X) w fun t55 w =>
Do P (pickS t50 t55 (Value.bool false)) w (fun t56 w =>
GuardK t56 true (fun K => K t45 w) w fun t58 w =>
GuardK t56 true (fun K => Do P (Instr.fieldAt 26 t4 3) w K X) w fun t59 w =>
GuardK t56 true (fun K => Do P (Instr.loadAt 3 t59) w K X) w fun t60 w =>
GuardK t56 true (fun K => CallF P 9 [t58, (Value.string (ByteArray.mk #[116, 116, 114])), t60] w K X) w fun t61 w =>
Do P (pickS t56 t61 (Value.bool false)) w (fun t62 w =>
GuardK t62 true (fun K => K t45 w) w fun t64 w =>
GuardK t62 true (fun K => CallF P 9 [t64, (Value.string (ByteArray.mk #[102, 105, 108, 101])), (Value.int IntKind.i64 3)] w K X) w fun t65 w =>
Do P (pickS t62 t65 (Value.bool false)) w (fun t66 w =>
GuardK t66 true (fun K => K t45 w) w fun t68 w =>
GuardK t66 true (fun K => Do P (Instr.fieldAt 26 t4 9) w K X) w fun t69 w =>
GuardK t66 true (fun K => Do P (Instr.fieldAt 23 t69 4) w K X) w fun t70 w =>
GuardK t66 true (fun K => Do P (Instr.loadAt 3 t70) w K X) w fun t71 w =>
GuardK t66 true (fun K => CallF P 9 [t68, (Value.string (ByteArray.mk #[107, 105, 99, 107, 115])), t71] w K X) w fun t72 w =>
Do P (pickS t66 t72 (Value.bool false)) w (fun t73 w =>
∃ S : World → Prop, S (drewW w) ∧ (fun w =>
Take P S (binS BinOp.neq 39 (Operand.tmp 74) (Operand.const (Value.int IntKind.i64 0)) t46 (Value.int IntKind.i64 0)) fun t75 =>
GuardT t75 false (fun K => K t45) fun t77 =>
GuardT t75 false (fun K => Take P S (Builtin.len_ #[38] 3 #[t77]) K) fun t78 =>
GuardT t75 false (fun K => Take P S (binS BinOp.neq 3 (Operand.tmp 78) (Operand.const (Value.int IntKind.i64 14)) t78 (Value.int IntKind.i64 14)) K) fun t79 =>
Take P S (pickS t75 (Value.bool true) t79) fun t80 =>
GuardT t80 false (fun K => K t73) fun t82 =>
GuardT t80 false (fun K => Take P S (Op.unary UnOp.not t82) K) fun t83 =>
Take P S (pickS t80 (Value.bool true) t83) fun t84 =>
GuardT t84 false (fun K => K t45) fun t86 =>
GuardT t84 false (fun K => Take P S (Instr.indexAt 38 t86 (Value.int IntKind.i64 0)) K) fun t87 =>
GuardT t84 false (fun K => Take P S (Instr.fieldAt 44 t87 0) K) fun t88 =>
GuardT t84 false (fun K => Take P S (Instr.loadAt 9 t88) K) fun t89 =>
GuardT t84 false (fun K => Take P S (binS BinOp.neq 9 (Operand.tmp 89) (Operand.const (Value.string (ByteArray.mk #[105, 100]))) t89 (Value.string (ByteArray.mk #[105, 100]))) K) fun t90 =>
Take P S (pickS t84 (Value.bool true) t90) fun t91 =>
GuardT t91 false (fun K => K t45) fun t93 =>
GuardT t91 false (fun K => Take P S (Instr.indexAt 38 t93 (Value.int IntKind.i64 1)) K) fun t94 =>
GuardT t91 false (fun K => Take P S (Instr.fieldAt 44 t94 0) K) fun t95 =>
GuardT t91 false (fun K => Take P S (Instr.loadAt 9 t95) K) fun t96 =>
GuardT t91 false (fun K => Take P S (binS BinOp.neq 9 (Operand.tmp 96) (Operand.const (Value.string (ByteArray.mk #[116, 117, 98, 101]))) t96 (Value.string (ByteArray.mk #[116, 117, 98, 101]))) K) fun t97 =>
Take P S (pickS t91 (Value.bool true) t97) fun t98 =>
GuardT t98 false (fun K => K t45) fun t100 =>
GuardT t98 false (fun K => Take P S (Instr.indexAt 38 t100 (Value.int IntKind.i64 1)) K) fun t101 =>
GuardT t98 false (fun K => Take P S (Instr.fieldAt 44 t101 1) K) fun t102 =>
GuardT t98 false (fun K => Take P S (Instr.loadAt 9 t102) K) fun t103 =>
GuardT t98 false (fun K => Take P S (Instr.fieldAt 26 t4 10) K) fun t104 =>
GuardT t98 false (fun K => Take P S (Instr.loadAt 9 t104) K) fun t105 =>
GuardT t98 false (fun K => Take P S (binS BinOp.neq 9 (Operand.tmp 103) (Operand.tmp 105) t103 t105) K) fun t106 =>
Take P S (pickS t98 (Value.bool true) t106) fun t107 =>
If t107
(R (Value.bool false) w)
(CallF P 10 [t45, (Value.string (ByteArray.mk #[116, 105, 109, 101, 45, 108, 101, 102, 116]))] w (fun t110 w =>
Do P (Instr.extract t110 0) w (fun t111 w =>
Do P (Instr.extract t110 1) w (fun t112 w =>
CallF P 10 [t45, (Value.string (ByteArray.mk #[97, 103, 101]))] w (fun t115 w =>
Do P (Instr.extract t115 0) w (fun t116 w =>
Do P (Instr.extract t115 1) w (fun t117 w =>
Do P (Op.unary UnOp.not t112) w (fun t119 w =>
GuardK t119 false (fun K => K t117 w) w fun t121 w =>
GuardK t119 false (fun K => Do P (Op.unary UnOp.not t121) w K X) w fun t122 w =>
Do P (pickS t119 (Value.bool true) t122) w (fun t123 w =>
GuardK t123 false (fun K => K t111 w) w fun t125 w =>
GuardK t123 false (fun K => Do P (binOp BinOp.gtr 3 t125 (Value.int IntKind.i64 0)) w K X) w fun t126 w =>
GuardK t123 false (fun K => K t126 w) w fun t127 w =>
GuardK t127 true (fun K => K t111 w) w fun t128 w =>
GuardK t127 true (fun K => Do P (Instr.fieldAt 26 t4 6) w K X) w fun t129 w =>
GuardK t127 true (fun K => Do P (Instr.loadAt 3 t129) w K X) w fun t130 w =>
GuardK t127 true (fun K => K a3 w) w fun t131 w =>
GuardK t127 true (fun K => Do P (binOp BinOp.sub 3 t130 t131) w K X) w fun t132 w =>
GuardK t127 true (fun K => Do P (binS BinOp.neq 3 (Operand.tmp 128) (Operand.tmp 132) t128 t132) w K X) w fun t133 w =>
GuardK t123 false (fun K => Do P (pickS t127 t133 (Value.bool false)) w K X) w fun t134 w =>
Do P (pickS t123 (Value.bool true) t134) w (fun t135 w =>
GuardK t135 false (fun K => K t116 w) w fun t137 w =>
GuardK t135 false (fun K => Do P (binOp BinOp.gtr 3 t137 (Value.int IntKind.i64 0)) w K X) w fun t138 w =>
GuardK t135 false (fun K => K t138 w) w fun t139 w =>
GuardK t139 true (fun K => K t116 w) w fun t140 w =>
GuardK t139 true (fun K => K a3 w) w fun t141 w =>
GuardK t139 true (fun K => Do P (Instr.fieldAt 26 t4 4) w K X) w fun t142 w =>
GuardK t139 true (fun K => Do P (Instr.loadAt 3 t142) w K X) w fun t143 w =>
GuardK t139 true (fun K => Do P (binOp BinOp.sub 3 t141 t143) w K X) w fun t144 w =>
GuardK t139 true (fun K => Do P (binS BinOp.neq 3 (Operand.tmp 140) (Operand.tmp 144) t140 t144) w K X) w fun t145 w =>
GuardK t135 false (fun K => Do P (pickS t139 t145 (Value.bool false)) w K X) w fun t146 w =>
Do P (pickS t135 (Value.bool true) t146) w (fun t147 w =>
If t147
(R (Value.bool false) w)
(J w)) X) X) X) X) X) X) X) X) X) X)) (drewW w)) X) X) X) X) X) X) X) X) X) X)
(J w)) X) X)) X) X) X) X) X) X) X) X) X) X) X
def f3.ann : Ann := [(127, []), (255, []), (16342, [0, 2, 4, 6, 8, 10, 12, 14, 16, 18, 20, 22, 24, 26, 28, 30, 32, 34, 36, 38, 40, 42, 44, 46, 48, 50, 52]), (16300, [0, 2, 4, 6, 8, 10, 12, 14, 16, 18, 20, 22, 24, 26, 28, 30, 32, 34, 36, 38, 40, 42, 44, 46, 48, 50, 52, 54, 56, 58, 60, 62, 64, 66])]
theorem f3.awp_eq (R : Value → World → Prop) (X : List PanicEntry → World → Prop) (a0 a1 a2 a3 : Value) (w : World) : awp P 257 f3.ann X 1 (bodyOf Tryd.f3) (retE P [(ResultVar.tmp 8)] R) (argE [a0, a1, a2, a3]) w = f3.f R X a0 a1 a2 a3 w := by kernel_rfl
theorem f3.calls {R : Value → World → Prop} {X : List PanicEntry → World → Prop} {a0 a1 a2 a3 : Value} {w : World} (h : f3.f R X a0 a1 a2 a3 w) : Calls P 3 #[a0, a1, a2, a3] w (retd R X) :=
  calls_of_awp mixed Tryd.func3 rfl Tryd.ntmps3 (by rw [Tryd.results3]) (Nat.le_of_ble_eq_true rfl) (f3.awp_eq R X a0 a1 a2 a3 w ▸ h)
theorem f3.enters (args : Array Value) (w : World) : (callFunc 3 args).run P w = .ok (.enter 3 args) w := by kernel_rfl
end Go.Proofs.YtggdogncmkffpaaDoor
