/- Printed forms (by sxprint.py, own work) of functions of this seat's program, each with the theorem that ties it to the code. Conditions: none. -/
import Derived.Test.YtggdogncmkffpaaDoorSxP
set_option linter.unusedVariables false
set_option maxRecDepth 100000
namespace Go.Proofs.YtggdogncmkffpaaDoor
open Go Go.Sx Go.Proofs

/-! ### 8: stint/stintref09.ReadDict -/
def f8.l1 (X : List PanicEntry → World → Prop) (N : Value → World → Prop) (E0 : Value → World → Prop) (t29 x9 : Value) (w : World) : Prop :=
Do P (Builtin.len_ #[9] 3 #[t29]) w (fun t32 w =>
Do P (binOp BinOp.lss 3 x9 t32) w (fun t33 w =>
GuardK t33 true (fun K => K t29 w) w fun t35 w =>
GuardK t33 true (fun K => K x9 w) w fun t36 w =>
GuardK t33 true (fun K => Do P (Instr.index 9 t35 t36) w K X) w fun t37 w =>
GuardK t33 true (fun K => Do P (binS BinOp.neq 5 (Operand.tmp 37) (Operand.const (Value.int IntKind.u8 58)) t37 (Value.int IntKind.u8 58)) w K X) w fun t38 w =>
Do P (pickS t33 t38 (Value.bool false)) w (fun t39 w =>
If t39
(Do P (binOp BinOp.add 3 x9 (Value.int IntKind.i64 1)) w (fun t41 w =>
N t41 w) X)
(E0 x9 w)) X) X) X
def f8.l0 (R : Value → World → Prop) (X : List PanicEntry → World → Prop) (N : Value → Value → World → Prop) (E0 : Value → World → Prop) (t15 t25 x6 x26 : Value) (w : World) : Prop :=
Do P (binOp BinOp.lss 3 x26 t25) w (fun t27 w =>
If t27
(Do P (Instr.indexAt 55 t15 x26) w (fun t28 w =>
Do P (Instr.loadAt 9 t28) w (fun t29 w =>
∃ I_1 : Nat → Value → World → Prop, (∃ k, I_1 k (Value.int IntKind.i64 0) w) ∧ ∀ (k_1 : Nat) (σ : Env) (w : World), I_1 k_1 (σ 9) w →
f8.l1 X (fun (y9 : Value) w => ∃ k', k' < k_1 ∧ I_1 k' y9 w) (fun (z9 : Value) w =>
Do P (binOp BinOp.add 3 z9 (Value.int IntKind.i64 2)) w (fun t43 w =>
Do P (Builtin.len_ #[9] 3 #[t29]) w (fun t45 w =>
Do P (binOp BinOp.gtr 3 t43 t45) w (fun t46 w =>
If t46
(R (Value.tuple #[(Value.slice none 0 0), (Value.int IntKind.i64 92)]) w)
(∃ S : World → Prop, S (drewW w) ∧ (fun w =>
Take P S (Instr.sliceAt 9 t29 none (some z9) none) fun t50 =>
Take P S (binOp BinOp.add 3 z9 (Value.int IntKind.i64 2)) fun t53 =>
Take P S (Instr.sliceAt 9 t29 (some t53) none none) fun t54 =>
Take P S (Instr.build 44 #[(0, t50), (1, t54)]) fun t55 =>
Do P (Instr.buildSlice 38 1 #[(0, t55)]) w (fun t56 w =>
S w ∧ Do P (Builtin.append_ #[38, 38] 38 #[x6, t56]) w (fun t57 w =>
S w ∧ Do P (binOp BinOp.add 3 x26 (Value.int IntKind.i64 1)) w (fun t58 w =>
N t57 t58 w) X) X) X) (drewW w))) X) X) X) t29 (σ 9) w) X) X)
(E0 x6 w)) X
def f8.f (R : Value → World → Prop) (X : List PanicEntry → World → Prop) (a0 : Value) (w : World) : Prop :=
CallF P 19 [a0] w (fun t14 w =>
Do P (Instr.extract t14 0) w (fun t15 w =>
Do P (Instr.extract t14 1) w (fun t16 w =>
Do P (Op.unary UnOp.not t16) w (fun t18 w =>
GuardK t18 false (fun K => K t15 w) w fun t20 w =>
GuardK t18 false (fun K => Do P (Builtin.len_ #[55] 3 #[t20]) w K X) w fun t21 w =>
GuardK t18 false (fun K => Do P (binOp BinOp.gtr 3 t21 (Value.int IntKind.i64 256)) w K X) w fun t22 w =>
Do P (pickS t18 (Value.bool true) t22) w (fun t23 w =>
If t23
(R (Value.tuple #[(Value.slice none 0 0), (Value.int IntKind.i64 92)]) w)
(Do P (Builtin.len_ #[55] 3 #[t15]) w (fun t25 w =>
∃ I : Nat → Value → Value → World → Prop, (∃ k, I k (Value.slice none 0 0) (Value.int IntKind.i64 0) w) ∧ ∀ (k : Nat) (σ : Env) (w : World), I k (σ 6) (σ 26) w →
f8.l0 R X (fun (y6 : Value) (y26 : Value) w => ∃ k', k' < k ∧ I k' y6 y26 w) (fun (z6 : Value) w =>
CallF P 20 [z6] w (fun t61 w =>
Do P (Instr.extract t61 0) w (fun t62 w =>
Do P (Instr.extract t61 1) w (fun t63 w =>
Do P (binS BinOp.neq 39 (Operand.tmp 64) (Operand.const (Value.int IntKind.i64 0)) t63 (Value.int IntKind.i64 0)) w (fun t65 w =>
GuardK t65 false (fun K => K t62 w) w fun t67 w =>
GuardK t65 false (fun K => K a0 w) w fun t68 w =>
GuardK t65 false (fun K => CallF P 21 [t67, t68] w K X) w fun t69 w =>
GuardK t65 false (fun K => Do P (Op.unary UnOp.not t69) w K X) w fun t70 w =>
Do P (pickS t65 (Value.bool true) t70) w (fun t71 w =>
If t71
(R (Value.tuple #[(Value.slice none 0 0), (Value.int IntKind.i64 92)]) w)
(R (Value.tuple #[z6, (Value.int IntKind.i64 0)]) w)) X) X) X) X) X) t15 t25 (σ 6) (σ 26) w) X)) X) X) X) X) X
def f8.ann : Ann := [(250, [6, 26]), (128204, [9]), (128207, [0, 2, 4, 6, 8, 10, 12, 14, 16, 19, 21, 22])]
theorem f8.awp_eq (R : Value → World → Prop) (X : List PanicEntry → World → Prop) (a0 : Value) (w : World) : awp P 73 f8.ann X 1 (bodyOf Tryd.f8) (retE P [(ResultVar.tmp 2), (ResultVar.tmp 3)] R) (argE [a0]) w = f8.f R X a0 w := by kernel_rfl
theorem f8.calls {R : Value → World → Prop} {X : List PanicEntry → World → Prop} {a0 : Value} {w : World} (h : f8.f R X a0 w) : Calls P 8 #[a0] w (retd R X) :=
  calls_of_awp mixed Tryd.func8 rfl Tryd.ntmps8 (by rw [Tryd.results8]) (Nat.le_of_ble_eq_true rfl) (f8.awp_eq R X a0 w ▸ h)
theorem f8.enters (args : Array Value) (w : World) : (callFunc 8 args).run P w = .ok (.enter 8 args) w := by kernel_rfl

/-! ### 9: stint/stintlaw13.is -/
def f9.f (R : Value → World → Prop) (X : List PanicEntry → World → Prop) (a0 a1 a2 : Value) (w : World) : Prop :=
CallF P 10 [a0, a1] w (fun t12 w =>
Do P (Instr.extract t12 0) w (fun t13 w =>
Do P (Instr.extract t12 1) w (fun t14 w =>
GuardK t14 true (fun K => K t13 w) w fun t17 w =>
GuardK t14 true (fun K => K a2 w) w fun t18 w =>
GuardK t14 true (fun K => Do P (binS BinOp.eql 3 (Operand.tmp 17) (Operand.tmp 18) t17 t18) w K X) w fun t19 w =>
Do P (pickS t14 t19 (Value.bool false)) w (fun t20 w =>
R t20 w) X) X) X) X
def f9.ann : Ann := []
theorem f9.awp_eq (R : Value → World → Prop) (X : List PanicEntry → World → Prop) (a0 a1 a2 : Value) (w : World) : awp P 21 f9.ann X 1 (bodyOf Tryd.f9) (retE P [(ResultVar.tmp 6)] R) (argE [a0, a1, a2]) w = f9.f R X a0 a1 a2 w := by kernel_rfl
theorem f9.calls {R : Value → World → Prop} {X : List PanicEntry → World → Prop} {a0 a1 a2 : Value} {w : World} (h : f9.f R X a0 a1 a2 w) : Calls P 9 #[a0, a1, a2] w (retd R X) :=
  calls_of_awp mixed Tryd.func9 rfl Tryd.ntmps9 (by rw [Tryd.results9]) (Nat.le_of_ble_eq_true rfl) (f9.awp_eq R X a0 a1 a2 w ▸ h)
theorem f9.enters (args : Array Value) (w : World) : (callFunc 9 args).run P w = .ok (.enter 9 args) w := by kernel_rfl

/-! ### 10: stint/stintlaw13.value -/
def f10.l0 (X : List PanicEntry → World → Prop) (N : Value → Value → Value → Value → World → Prop) (E0 : Value → Value → Value → World → Prop) (a0 a1 x6 x7 x8 x9 : Value) (w : World) : Prop :=
Do P (Builtin.len_ #[38] 3 #[a0]) w (fun t12 w =>
Do P (binOp BinOp.lss 3 x9 t12) w (fun t13 w =>
If t13
(Do P (Instr.indexAt 38 a0 x9) w (fun t18 w =>
Do P (Instr.fieldAt 44 t18 0) w (fun t19 w =>
Do P (Instr.loadAt 9 t19) w (fun t20 w =>
Do P (binS BinOp.eql 9 (Operand.tmp 20) (Operand.tmp 21) t20 a1) w (fun t22 w =>
If t22
(Do P (binOp BinOp.add 3 x6 (Value.int IntKind.i64 1)) w (fun t24 w =>
Do P (Instr.indexAt 38 a0 x9) w (fun t28 w =>
Do P (Instr.fieldAt 44 t28 1) w (fun t29 w =>
Do P (Instr.loadAt 9 t29) w (fun t30 w =>
CallF P 22 [t30, (Value.int IntKind.i64 9223372036854775807)] w (fun t31 w =>
Do P (Instr.extract t31 0) w (fun t32 w =>
Do P (Instr.extract t31 1) w (fun t33 w =>
Do P (binOp BinOp.add 3 x9 (Value.int IntKind.i64 1)) w (fun t15 w =>
N t24 t32 t33 t15 w) X) X) X) X) X) X) X) X)
(Do P (binOp BinOp.add 3 x9 (Value.int IntKind.i64 1)) w (fun t15_1 w =>
N x6 x7 x8 t15_1 w) X)) X) X) X) X)
(E0 x6 x7 x8 w)) X) X
def f10.f (R : Value → World → Prop) (X : List PanicEntry → World → Prop) (a0 a1 : Value) (w : World) : Prop :=
∃ I : Nat → Value → Value → Value → Value → World → Prop, (∃ k, I k (Value.int IntKind.i64 0) (Value.int IntKind.i64 0) (Value.bool false) (Value.int IntKind.i64 0) w) ∧ ∀ (k : Nat) (σ : Env) (w : World), I k (σ 6) (σ 7) (σ 8) (σ 9) w →
f10.l0 X (fun (y6 : Value) (y7 : Value) (y8 : Value) (y9 : Value) w => ∃ k', k' < k ∧ I k' y6 y7 y8 y9 w) (fun (z6 : Value) (z7 : Value) (z8 : Value) w =>
Do P (binS BinOp.eql 3 (Operand.tmp 35) (Operand.const (Value.int IntKind.i64 1)) z6 (Value.int IntKind.i64 1)) w (fun t36 w =>
GuardK t36 true (fun K => K z8 w) w fun t38 w =>
Do P (pickS t36 t38 (Value.bool false)) w (fun t39 w =>
R (Value.tuple #[z7, t39]) w) X) X) a0 a1 (σ 6) (σ 7) (σ 8) (σ 9) w
def f10.ann : Ann := [(250, [6, 7, 8, 9])]
theorem f10.awp_eq (R : Value → World → Prop) (X : List PanicEntry → World → Prop) (a0 a1 : Value) (w : World) : awp P 40 f10.ann X 1 (bodyOf Tryd.f10) (retE P [(ResultVar.tmp 4), (ResultVar.tmp 5)] R) (argE [a0, a1]) w = f10.f R X a0 a1 w := by kernel_rfl
theorem f10.calls {R : Value → World → Prop} {X : List PanicEntry → World → Prop} {a0 a1 : Value} {w : World} (h : f10.f R X a0 a1 w) : Calls P 10 #[a0, a1] w (retd R X) :=
  calls_of_awp mixed Tryd.func10 rfl Tryd.ntmps10 (by rw [Tryd.results10]) (Nat.le_of_ble_eq_true rfl) (f10.awp_eq R X a0 a1 w ▸ h)
theorem f10.enters (args : Array Value) (w : World) : (callFunc 10 args).run P w = .ok (.enter 10 args) w := by kernel_rfl

/-! ### 19: stint/stintref09.lines -/
def f19.l0 (X : List PanicEntry → World → Prop) (N : Value → Value → Value → World → Prop) (E0 : Value → Value → World → Prop) (a0 t9 x4 x5 x10 : Value) (w : World) : Prop :=
Do P (binOp BinOp.lss 3 x10 t9) w (fun t11 w =>
If t11
(Do P (Instr.indexAt 24 a0 x10) w (fun t13 w =>
Do P (Instr.loadAt 5 t13) w (fun t14 w =>
Do P (binS BinOp.eql 5 (Operand.tmp 15) (Operand.const (Value.int IntKind.u8 10)) t14 (Value.int IntKind.u8 10)) w (fun t16 w =>
If t16
(Do P (Instr.sliceAt 24 a0 (some x5) (some x10) none) w (fun t21 w =>
Do P (convert 24 9 t21) w (fun t22 w =>
Do P (Instr.buildSlice 55 1 #[(0, t22)]) w (fun t23 w =>
Do P (Builtin.append_ #[55, 55] 55 #[x4, t23]) w (fun t24 w =>
Do P (binOp BinOp.add 3 x10 (Value.int IntKind.i64 1)) w (fun t26 w =>
Do P (binOp BinOp.add 3 x10 (Value.int IntKind.i64 1)) w (fun t27 w =>
N t24 t26 t27 w) X) X) X) X) X) X)
(Do P (binOp BinOp.add 3 x10 (Value.int IntKind.i64 1)) w (fun t27_1 w =>
N x4 x5 t27_1 w) X)) X) X) X)
(E0 x4 x5 w)) X
def f19.f (R : Value → World → Prop) (X : List PanicEntry → World → Prop) (a0 : Value) (w : World) : Prop :=
Do P (Builtin.len_ #[24] 3 #[a0]) w (fun t9 w =>
∃ I : Nat → Value → Value → Value → World → Prop, (∃ k, I k (Value.slice none 0 0) (Value.int IntKind.i64 0) (Value.int IntKind.i64 0) w) ∧ ∀ (k : Nat) (σ : Env) (w : World), I k (σ 4) (σ 5) (σ 10) w →
f19.l0 X (fun (y4 : Value) (y5 : Value) (y10 : Value) w => ∃ k', k' < k ∧ I k' y4 y5 y10 w) (fun (z4 : Value) (z5 : Value) w =>
Do P (Builtin.len_ #[24] 3 #[a0]) w (fun t30 w =>
Do P (binS BinOp.neq 3 (Operand.tmp 28) (Operand.tmp 30) z5 t30) w (fun t31 w =>
GuardK t31 false (fun K => K z4 w) w fun t33 w =>
GuardK t31 false (fun K => Do P (Builtin.len_ #[55] 3 #[t33]) w K X) w fun t34 w =>
GuardK t31 false (fun K => Do P (binS BinOp.eql 3 (Operand.tmp 34) (Operand.const (Value.int IntKind.i64 0)) t34 (Value.int IntKind.i64 0)) w K X) w fun t35 w =>
Do P (pickS t31 (Value.bool true) t35) w (fun t36 w =>
GuardK t36 false (fun K => K z4 w) w fun t38 w =>
GuardK t36 false (fun K => Do P (Instr.indexAt 55 t38 (Value.int IntKind.i64 0)) w K X) w fun t39 w =>
GuardK t36 false (fun K => Do P (Instr.loadAt 9 t39) w K X) w fun t40 w =>
GuardK t36 false (fun K => Do P (binS BinOp.neq 9 (Operand.tmp 40) (Operand.const (Value.string (ByteArray.mk #[45, 45, 45]))) t40 (Value.string (ByteArray.mk #[45, 45, 45]))) w K X) w fun t41 w =>
Do P (pickS t36 (Value.bool true) t41) w (fun t42 w =>
If t42
(R (Value.tuple #[(Value.slice none 0 0), (Value.bool false)]) w)
(Do P (Instr.sliceAt 55 z4 (some (Value.int IntKind.i64 1)) none none) w (fun t44 w =>
R (Value.tuple #[t44, (Value.bool true)]) w) X)) X) X) X) X) a0 t9 (σ 4) (σ 5) (σ 10) w) X
def f19.ann : Ann := [(122, [4, 5, 10])]
theorem f19.awp_eq (R : Value → World → Prop) (X : List PanicEntry → World → Prop) (a0 : Value) (w : World) : awp P 45 f19.ann X 1 (bodyOf Tryd.f19) (retE P [(ResultVar.tmp 2), (ResultVar.tmp 3)] R) (argE [a0]) w = f19.f R X a0 w := by kernel_rfl
theorem f19.calls {R : Value → World → Prop} {X : List PanicEntry → World → Prop} {a0 : Value} {w : World} (h : f19.f R X a0 w) : Calls P 19 #[a0] w (retd R X) :=
  calls_of_awp mixed Tryd.func19 rfl Tryd.ntmps19 (by rw [Tryd.results19]) (Nat.le_of_ble_eq_true rfl) (f19.awp_eq R X a0 w ▸ h)
theorem f19.enters (args : Array Value) (w : World) : (callFunc 19 args).run P w = .ok (.enter 19 args) w := by kernel_rfl

/-! ### 20: stint/stintref09.Dict -/
def f20.l1 (R : Value → World → Prop) (X : List PanicEntry → World → Prop) (N : Value → World → Prop) (E0 : World → Prop) (t6 t27 t28 x29 : Value) (w : World) : Prop :=
Do P (binOp BinOp.lss 3 x29 t28) w (fun t30 w =>
If t30
(Do P (Instr.indexAt 38 t27 x29) w (fun t31 w =>
Do P (Instr.loadAt 44 t31) w (fun t32 w =>
Do P (Instr.alloc 44 true (Value.tuple #[])) w (fun t8 w =>
DoU P (Instr.storeAt 44 t8 t32) w (fun _ w =>
Do P (Instr.fieldAt 44 t8 0) w (fun t33 w =>
Do P (Instr.loadAt 9 t33) w (fun t34 w =>
Do P (Instr.fieldAt 44 t6 0) w (fun t35 w =>
Do P (Instr.loadAt 9 t35) w (fun t36 w =>
Do P (binS BinOp.eql 9 (Operand.tmp 34) (Operand.tmp 36) t34 t36) w (fun t37 w =>
If t37
(R (Value.tuple #[(Value.slice none 0 0), (Value.int IntKind.i64 90)]) w)
(Do P (binOp BinOp.add 3 x29 (Value.int IntKind.i64 1)) w (fun t38 w =>
N t38 w) X)) X) X) X) X) X) X) X) X) X)
(E0 w)) X
def f20.l0 (R : Value → World → Prop) (X : List PanicEntry → World → Prop) (N : Value → Value → World → Prop) (E0 : Value → World → Prop) (a0 t15 x4 x16 : Value) (w : World) : Prop :=
Do P (binOp BinOp.lss 3 x16 t15) w (fun t17 w =>
If t17
(Do P (Instr.indexAt 38 a0 x16) w (fun t19 w =>
Do P (Instr.loadAt 44 t19) w (fun t20 w =>
Do P (Instr.alloc 44 true (Value.tuple #[])) w (fun t6 w =>
DoU P (Instr.storeAt 44 t6 t20) w (fun _ w =>
Do P (Instr.fieldAt 44 t6 0) w (fun t21 w =>
Do P (Instr.loadAt 9 t21) w (fun t22 w =>
CallF P 28 [t22] w (fun t23 w =>
Do P (Op.unary UnOp.not t23) w (fun t24 w =>
If t24
(R (Value.tuple #[(Value.slice none 0 0), (Value.int IntKind.i64 90)]) w)
(Do P (Instr.sliceAt 38 a0 none (some x16) none) w (fun t27 w =>
Do P (Builtin.len_ #[38] 3 #[t27]) w (fun t28 w =>
∃ I_1 : Nat → Value → World → Prop, (∃ k, I_1 k (Value.int IntKind.i64 0) w) ∧ ∀ (k_1 : Nat) (σ : Env) (w : World), I_1 k_1 (σ 29) w →
f20.l1 R X (fun (y29 : Value) w => ∃ k', k' < k_1 ∧ I_1 k' y29 w) (fun w =>
Do P (Instr.fieldAt 44 t6 1) w (fun t39 w =>
Do P (Instr.loadAt 9 t39) w (fun t40 w =>
CallF P 29 [t40] w (fun t41 w =>
Do P (Op.unary UnOp.not t41) w (fun t42 w =>
If t42
(R (Value.tuple #[(Value.slice none 0 0), (Value.int IntKind.i64 91)]) w)
(Do P (Instr.fieldAt 44 t6 0) w (fun t44 w =>
Do P (Instr.loadAt 9 t44) w (fun t45 w =>
Do P (Builtin.append_ #[24, 9] 24 #[x4, t45]) w (fun t46 w =>
Do P (Builtin.append_ #[24, 9] 24 #[t46, (Value.string (ByteArray.mk #[58, 32]))]) w (fun t48 w =>
Do P (Instr.fieldAt 44 t6 1) w (fun t50 w =>
Do P (Instr.loadAt 9 t50) w (fun t51 w =>
Do P (Builtin.append_ #[24, 9] 24 #[t48, t51]) w (fun t52 w =>
Do P (Instr.buildSlice 24 1 #[(0, (Value.int IntKind.u8 10))]) w (fun t54 w =>
Do P (Builtin.append_ #[24, 24] 24 #[t52, t54]) w (fun t55 w =>
Do P (binOp BinOp.add 3 x16 (Value.int IntKind.i64 1)) w (fun t56 w =>
N t55 t56 w) X) X) X) X) X) X) X) X) X) X)) X) X) X) X) t6 t27 t28 (σ 29) w) X) X)) X) X) X) X) X) X) X) X)
(E0 x4 w)) X
def f20.f (R : Value → World → Prop) (X : List PanicEntry → World → Prop) (a0 : Value) (w : World) : Prop :=
Do P (Builtin.len_ #[38] 3 #[a0]) w (fun t10 w =>
Do P (binOp BinOp.gtr 3 t10 (Value.int IntKind.i64 256)) w (fun t11 w =>
If t11
(R (Value.tuple #[(Value.slice none 0 0), (Value.int IntKind.i64 1)]) w)
(Do P (Instr.buildSlice 24 4 #[(0, (Value.int IntKind.u8 45)), (1, (Value.int IntKind.u8 45)), (2, (Value.int IntKind.u8 45)), (3, (Value.int IntKind.u8 10))]) w (fun t12 w =>
Do P (convert 24 24 t12) w (fun t13 w =>
Do P (Builtin.len_ #[38] 3 #[a0]) w (fun t15 w =>
∃ I : Nat → Value → Value → World → Prop, (∃ k, I k t13 (Value.int IntKind.i64 0) w) ∧ ∀ (k : Nat) (σ : Env) (w : World), I k (σ 4) (σ 16) w →
f20.l0 R X (fun (y4 : Value) (y16 : Value) w => ∃ k', k' < k ∧ I k' y4 y16 w) (fun (z4 : Value) w =>
R (Value.tuple #[z4, (Value.int IntKind.i64 0)]) w) a0 t15 (σ 4) (σ 16) w) X) X) X)) X) X
def f20.ann : Ann := [(122, [4, 16]), (125338, [29])]
theorem f20.awp_eq (R : Value → World → Prop) (X : List PanicEntry → World → Prop) (a0 : Value) (w : World) : awp P 58 f20.ann X 1 (bodyOf Tryd.f20) (retE P [(ResultVar.tmp 2), (ResultVar.tmp 3)] R) (argE [a0]) w = f20.f R X a0 w := by kernel_rfl
theorem f20.calls {R : Value → World → Prop} {X : List PanicEntry → World → Prop} {a0 : Value} {w : World} (h : f20.f R X a0 w) : Calls P 20 #[a0] w (retd R X) :=
  calls_of_awp mixed Tryd.func20 rfl Tryd.ntmps20 (by rw [Tryd.results20]) (Nat.le_of_ble_eq_true rfl) (f20.awp_eq R X a0 w ▸ h)
theorem f20.enters (args : Array Value) (w : World) : (callFunc 20 args).run P w = .ok (.enter 20 args) w := by kernel_rfl

/-! ### 21: stint/stintref09.same -/
def f21.l0 (R : Value → World → Prop) (X : List PanicEntry → World → Prop) (N : Value → World → Prop) (E0 : World → Prop) (a0 a1 t12 x13 : Value) (w : World) : Prop :=
Do P (binOp BinOp.lss 3 x13 t12) w (fun t14 w =>
If t14
(∃ S : World → Prop, S (drewW w) ∧ (fun w =>
Take P S (Instr.indexAt 24 a0 x13) fun t18 =>
Take P S (Instr.loadAt 5 t18) fun t19 =>
Take P S (Instr.indexAt 24 a1 x13) fun t22 =>
Take P S (Instr.loadAt 5 t22) fun t23 =>
Take P S (binS BinOp.neq 5 (Operand.tmp 19) (Operand.tmp 23) t19 t23) fun t24 =>
If t24
(R (Value.bool false) w)
(Do P (binOp BinOp.add 3 x13 (Value.int IntKind.i64 1)) w (fun t25 w =>
N t25 w) X)) (drewW w))
(E0 w)) X
def f21.f (R : Value → World → Prop) (X : List PanicEntry → World → Prop) (a0 a1 : Value) (w : World) : Prop :=
Do P (Builtin.len_ #[24] 3 #[a0]) w (fun t7 w =>
Do P (Builtin.len_ #[24] 3 #[a1]) w (fun t9 w =>
Do P (binS BinOp.neq 3 (Operand.tmp 7) (Operand.tmp 9) t7 t9) w (fun t10 w =>
If t10
(R (Value.bool false) w)
(Do P (Builtin.len_ #[24] 3 #[a0]) w (fun t12 w =>
∃ I : Nat → Value → World → Prop, (∃ k, I k (Value.int IntKind.i64 0) w) ∧ ∀ (k : Nat) (σ : Env) (w : World), I k (σ 13) w →
f21.l0 R X (fun (y13 : Value) w => ∃ k', k' < k ∧ I k' y13 w) (fun w =>
R (Value.bool true) w) a0 a1 t12 (σ 13) w) X)) X) X) X
def f21.ann : Ann := [(58, [13]), (7474, [0, 2, 4, 6, 8, 10, 12, 14, 16])]
theorem f21.awp_eq (R : Value → World → Prop) (X : List PanicEntry → World → Prop) (a0 a1 : Value) (w : World) : awp P 26 f21.ann X 1 (bodyOf Tryd.f21) (retE P [(ResultVar.tmp 4)] R) (argE [a0, a1]) w = f21.f R X a0 a1 w := by kernel_rfl
theorem f21.calls {R : Value → World → Prop} {X : List PanicEntry → World → Prop} {a0 a1 : Value} {w : World} (h : f21.f R X a0 a1 w) : Calls P 21 #[a0, a1] w (retd R X) :=
  calls_of_awp mixed Tryd.func21 rfl Tryd.ntmps21 (by rw [Tryd.results21]) (Nat.le_of_ble_eq_true rfl) (f21.awp_eq R X a0 a1 w ▸ h)
theorem f21.enters (args : Array Value) (w : World) : (callFunc 21 args).run P w = .ok (.enter 21 args) w := by kernel_rfl

/-! ### 22: stint/stintref01.Parse -/
def f22.l0 (R : Value → World → Prop) (X : List PanicEntry → World → Prop) (N : Value → Value → World → Prop) (E0 : Value → World → Prop) (a0 a1 x6 x7 : Value) (w : World) : Prop :=
Do P (Builtin.len_ #[9] 3 #[a0]) w (fun t18 w =>
Do P (binOp BinOp.lss 3 x7 t18) w (fun t19 w =>
If t19
(Do P (Instr.index 9 a0 x7) w (fun t24 w =>
Do P (binOp BinOp.lss 5 t24 (Value.int IntKind.u8 48)) w (fun t25 w =>
GuardK t25 false (fun K => K a0 w) w fun t27 w =>
GuardK t25 false (fun K => K x7 w) w fun t28 w =>
GuardK t25 false (fun K => Do P (Instr.index 9 t27 t28) w K X) w fun t29 w =>
GuardK t25 false (fun K => Do P (binOp BinOp.gtr 5 t29 (Value.int IntKind.u8 57)) w K X) w fun t30 w =>
Do P (pickS t25 (Value.bool true) t30) w (fun t31 w =>
If t31
(R (Value.tuple #[(Value.int IntKind.i64 0), (Value.bool false)]) w)
(Do P (Instr.index 9 a0 x7) w (fun t34 w =>
Do P (binOp BinOp.sub 5 t34 (Value.int IntKind.u8 48)) w (fun t35 w =>
Do P (convert 5 3 t35) w (fun t36 w =>
Do P (binOp BinOp.gtr 3 t36 a1) w (fun t39 w =>
GuardK t39 false (fun K => K x6 w) w fun t41 w =>
GuardK t39 false (fun K => K a1 w) w fun t42 w =>
GuardK t39 false (fun K => K t36 w) w fun t43 w =>
GuardK t39 false (fun K => Do P (binOp BinOp.sub 3 t42 t43) w K X) w fun t44 w =>
GuardK t39 false (fun K => Do P (binOp BinOp.quo 3 t44 (Value.int IntKind.i64 10)) w K X) w fun t45 w =>
GuardK t39 false (fun K => Do P (binOp BinOp.gtr 3 t41 t45) w K X) w fun t46 w =>
Do P (pickS t39 (Value.bool true) t46) w (fun t47 w =>
If t47
(R (Value.tuple #[(Value.int IntKind.i64 0), (Value.bool false)]) w)
(Do P (binOp BinOp.mul 3 (Value.int IntKind.i64 10) x6) w (fun t49 w =>
Do P (binOp BinOp.add 3 t49 t36) w (fun t51 w =>
Do P (binOp BinOp.add 3 x7 (Value.int IntKind.i64 1)) w (fun t21 w =>
N t51 t21 w) X) X) X)) X) X) X) X) X)) X) X) X)
(E0 x6 w)) X) X
def f22.f (R : Value → World → Prop) (X : List PanicEntry → World → Prop) (a0 a1 : Value) (w : World) : Prop :=
Do P (Builtin.len_ #[9] 3 #[a0]) w (fun t10 w =>
Do P (binS BinOp.eql 3 (Operand.tmp 10) (Operand.const (Value.int IntKind.i64 0)) t10 (Value.int IntKind.i64 0)) w (fun t11 w =>
GuardK t11 false (fun K => K a1 w) w fun t13 w =>
GuardK t11 false (fun K => Do P (binOp BinOp.lss 3 t13 (Value.int IntKind.i64 0)) w K X) w fun t14 w =>
Do P (pickS t11 (Value.bool true) t14) w (fun t15 w =>
If t15
(R (Value.tuple #[(Value.int IntKind.i64 0), (Value.bool false)]) w)
(∃ I : Nat → Value → Value → World → Prop, (∃ k, I k (Value.int IntKind.i64 0) (Value.int IntKind.i64 0) w) ∧ ∀ (k : Nat) (σ : Env) (w : World), I k (σ 6) (σ 7) w →
f22.l0 R X (fun (y6 : Value) (y7 : Value) w => ∃ k', k' < k ∧ I k' y6 y7 w) (fun (z6 : Value) w =>
R (Value.tuple #[z6, (Value.bool true)]) w) a0 a1 (σ 6) (σ 7) w)) X) X) X
def f22.ann : Ann := [(122, [6, 7])]
theorem f22.awp_eq (R : Value → World → Prop) (X : List PanicEntry → World → Prop) (a0 a1 : Value) (w : World) : awp P 53 f22.ann X 1 (bodyOf Tryd.f22) (retE P [(ResultVar.tmp 4), (ResultVar.tmp 5)] R) (argE [a0, a1]) w = f22.f R X a0 a1 w := by kernel_rfl
theorem f22.calls {R : Value → World → Prop} {X : List PanicEntry → World → Prop} {a0 a1 : Value} {w : World} (h : f22.f R X a0 a1 w) : Calls P 22 #[a0, a1] w (retd R X) :=
  calls_of_awp mixed Tryd.func22 rfl Tryd.ntmps22 (by rw [Tryd.results22]) (Nat.le_of_ble_eq_true rfl) (f22.awp_eq R X a0 a1 w ▸ h)
theorem f22.enters (args : Array Value) (w : World) : (callFunc 22 args).run P w = .ok (.enter 22 args) w := by kernel_rfl

/-! ### 28: stint/stintref09.key -/
def f28.l0 (R : Value → World → Prop) (X : List PanicEntry → World → Prop) (N : Value → World → Prop) (E0 : World → Prop) (a0 x3 : Value) (w : World) : Prop :=
Do P (Builtin.len_ #[9] 3 #[a0]) w (fun t7 w =>
Do P (binOp BinOp.lss 3 x3 t7) w (fun t8 w =>
If t8
(Do P (Instr.index 9 a0 x3) w (fun t13 w =>
Do P (binOp BinOp.geq 5 t13 (Value.int IntKind.u8 97)) w (fun t15 w =>
GuardK t15 true (fun K => K t13 w) w fun t17 w =>
GuardK t15 true (fun K => Do P (binOp BinOp.leq 5 t17 (Value.int IntKind.u8 122)) w K X) w fun t18 w =>
Do P (pickS t15 t18 (Value.bool false)) w (fun t19 w =>
GuardK t19 false (fun K => K t13 w) w fun t21 w =>
GuardK t19 false (fun K => Do P (binOp BinOp.geq 5 t21 (Value.int IntKind.u8 48)) w K X) w fun t22 w =>
GuardK t19 false (fun K => K t22 w) w fun t23 w =>
GuardK t23 true (fun K => K t13 w) w fun t24 w =>
GuardK t23 true (fun K => Do P (binOp BinOp.leq 5 t24 (Value.int IntKind.u8 57)) w K X) w fun t25 w =>
GuardK t19 false (fun K => Do P (pickS t23 t25 (Value.bool false)) w K X) w fun t26 w =>
Do P (pickS t19 (Value.bool true) t26) w (fun t27 w =>
GuardK t27 false (fun K => K t13 w) w fun t29 w =>
GuardK t27 false (fun K => Do P (binS BinOp.eql 5 (Operand.tmp 29) (Operand.const (Value.int IntKind.u8 45)) t29 (Value.int IntKind.u8 45)) w K X) w fun t30 w =>
Do P (pickS t27 (Value.bool true) t30) w (fun t31 w =>
Do P (Op.unary UnOp.not t31) w (fun t32 w =>
If t32
(R (Value.bool false) w)
(Do P (binOp BinOp.add 3 x3 (Value.int IntKind.i64 1)) w (fun t10 w =>
N t10 w) X)) X) X) X) X) X) X)
(E0 w)) X) X
def f28.f (R : Value → World → Prop) (X : List PanicEntry → World → Prop) (a0 : Value) (w : World) : Prop :=
∃ I : Nat → Value → World → Prop, (∃ k, I k (Value.int IntKind.i64 0) w) ∧ ∀ (k : Nat) (σ : Env) (w : World), I k (σ 3) w →
f28.l0 R X (fun (y3 : Value) w => ∃ k', k' < k ∧ I k' y3 w) (fun w =>
Do P (Builtin.len_ #[9] 3 #[a0]) w (fun t34 w =>
Do P (binOp BinOp.geq 3 t34 (Value.int IntKind.i64 1)) w (fun t35 w =>
GuardK t35 true (fun K => K a0 w) w fun t37 w =>
GuardK t35 true (fun K => Do P (Builtin.len_ #[9] 3 #[t37]) w K X) w fun t38 w =>
GuardK t35 true (fun K => Do P (binOp BinOp.leq 3 t38 (Value.int IntKind.i64 64)) w K X) w fun t39 w =>
Do P (pickS t35 t39 (Value.bool false)) w (fun t40 w =>
R t40 w) X) X) X) a0 (σ 3) w
def f28.ann : Ann := [(26, [3])]
theorem f28.awp_eq (R : Value → World → Prop) (X : List PanicEntry → World → Prop) (a0 : Value) (w : World) : awp P 41 f28.ann X 1 (bodyOf Tryd.f28) (retE P [(ResultVar.tmp 2)] R) (argE [a0]) w = f28.f R X a0 w := by kernel_rfl
theorem f28.calls {R : Value → World → Prop} {X : List PanicEntry → World → Prop} {a0 : Value} {w : World} (h : f28.f R X a0 w) : Calls P 28 #[a0] w (retd R X) :=
  calls_of_awp mixed Tryd.func28 rfl Tryd.ntmps28 (by rw [Tryd.results28]) (Nat.le_of_ble_eq_true rfl) (f28.awp_eq R X a0 w ▸ h)
theorem f28.enters (args : Array Value) (w : World) : (callFunc 28 args).run P w = .ok (.enter 28 args) w := by kernel_rfl

/-! ### 29: stint/stintref09.plain -/
def f29.l0 (R : Value → World → Prop) (X : List PanicEntry → World → Prop) (N : Value → World → Prop) (E0 : World → Prop) (a0 x3 : Value) (w : World) : Prop :=
Do P (Builtin.len_ #[9] 3 #[a0]) w (fun t6 w =>
Do P (binOp BinOp.lss 3 x3 t6) w (fun t7 w =>
If t7
(Do P (Instr.index 9 a0 x3) w (fun t12 w =>
Do P (binOp BinOp.lss 5 t12 (Value.int IntKind.u8 33)) w (fun t13 w =>
GuardK t13 false (fun K => K a0 w) w fun t15 w =>
GuardK t13 false (fun K => K x3 w) w fun t16 w =>
GuardK t13 false (fun K => Do P (Instr.index 9 t15 t16) w K X) w fun t17 w =>
GuardK t13 false (fun K => Do P (binOp BinOp.gtr 5 t17 (Value.int IntKind.u8 126)) w K X) w fun t18 w =>
Do P (pickS t13 (Value.bool true) t18) w (fun t19 w =>
If t19
(R (Value.bool false) w)
(Do P (binOp BinOp.add 3 x3 (Value.int IntKind.i64 1)) w (fun t9 w =>
N t9 w) X)) X) X) X)
(E0 w)) X) X
def f29.f (R : Value → World → Prop) (X : List PanicEntry → World → Prop) (a0 : Value) (w : World) : Prop :=
∃ I : Nat → Value → World → Prop, (∃ k, I k (Value.int IntKind.i64 0) w) ∧ ∀ (k : Nat) (σ : Env) (w : World), I k (σ 3) w →
f29.l0 R X (fun (y3 : Value) w => ∃ k', k' < k ∧ I k' y3 w) (fun w =>
Do P (Builtin.len_ #[9] 3 #[a0]) w (fun t21 w =>
Do P (binOp BinOp.geq 3 t21 (Value.int IntKind.i64 1)) w (fun t22 w =>
GuardK t22 true (fun K => K a0 w) w fun t24 w =>
GuardK t22 true (fun K => Do P (Builtin.len_ #[9] 3 #[t24]) w K X) w fun t25 w =>
GuardK t22 true (fun K => Do P (binOp BinOp.leq 3 t25 (Value.int IntKind.i64 4096)) w K X) w fun t26 w =>
Do P (pickS t22 t26 (Value.bool false)) w (fun t27 w =>
R t27 w) X) X) X) a0 (σ 3) w
def f29.ann : Ann := [(26, [3])]
theorem f29.awp_eq (R : Value → World → Prop) (X : List PanicEntry → World → Prop) (a0 : Value) (w : World) : awp P 28 f29.ann X 1 (bodyOf Tryd.f29) (retE P [(ResultVar.tmp 2)] R) (argE [a0]) w = f29.f R X a0 w := by kernel_rfl
theorem f29.calls {R : Value → World → Prop} {X : List PanicEntry → World → Prop} {a0 : Value} {w : World} (h : f29.f R X a0 w) : Calls P 29 #[a0] w (retd R X) :=
  calls_of_awp mixed Tryd.func29 rfl Tryd.ntmps29 (by rw [Tryd.results29]) (Nat.le_of_ble_eq_true rfl) (f29.awp_eq R X a0 w ▸ h)
theorem f29.enters (args : Array Value) (w : World) : (callFunc 29 args).run P w = .ok (.enter 29 args) w := by kernel_rfl
end Go.Proofs.YtggdogncmkffpaaDoor
