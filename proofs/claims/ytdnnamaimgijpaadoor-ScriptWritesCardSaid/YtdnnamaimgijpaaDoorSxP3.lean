/- Printed forms (by sxprint.py, own work) of functions of this seat's program, each with the theorem that ties it to the code. Conditions: none. -/
import Derived.Test.YtdnnamaimgijpaaDoorSxP
set_option linter.unusedVariables false
set_option maxRecDepth 100000
namespace Go.Proofs.YtdnnamaimgijpaaDoor
open Go Go.Sx Go.Proofs

/-! ### 18: stint/stintref19.Print -/
def f18.l0 (R : Value → World → Prop) (X : List PanicEntry → World → Prop) (N : Value → Value → World → Prop) (E0 : Value → World → Prop) (t1 x5 x6 : Value) (w : World) : Prop :=
Do P (Instr.fieldAt 31 t1 1) w (fun t32 w =>
Do P (Instr.loadAt 29 t32) w (fun t33 w =>
Do P (Builtin.len_ #[29] 3 #[t33]) w (fun t34 w =>
Do P (binOp BinOp.lss 3 x6 t34) w (fun t35 w =>
If t35
(Do P (Instr.fieldAt 31 t1 1) w (fun t38 w =>
Do P (Instr.loadAt 29 t38) w (fun t39 w =>
Do P (Instr.indexAt 29 t39 x6) w (fun t41 w =>
Do P (Instr.loadAt 44 t41) w (fun t42 w =>
CallF P 47 [t42] w (fun t43 w =>
Do P (Op.unary UnOp.not t43) w (fun t44 w =>
If t44
(R (Value.tuple #[(Value.string (ByteArray.mk #[])), (Value.int IntKind.i64 192)]) w)
(Do P (Instr.fieldAt 31 t1 1) w (fun t45 w =>
Do P (Instr.loadAt 29 t45) w (fun t46 w =>
Do P (Instr.indexAt 29 t46 x6) w (fun t48 w =>
Do P (Instr.fieldAt 44 t48 2) w (fun t49 w =>
Do P (Instr.loadAt 41 t49) w (fun t50 w =>
Do P (Builtin.len_ #[41] 3 #[t50]) w (fun t51 w =>
Do P (binOp BinOp.gtr 3 t51 (Value.int IntKind.i64 1048576)) w (fun t52 w =>
If t52
(R (Value.tuple #[(Value.string (ByteArray.mk #[])), (Value.int IntKind.i64 193)]) w)
(Do P (Instr.fieldAt 31 t1 1) w (fun t54 w =>
Do P (Instr.loadAt 29 t54) w (fun t55 w =>
Do P (Instr.indexAt 29 t55 x6) w (fun t57 w =>
Do P (Instr.loadAt 44 t57) w (fun t58 w =>
CallF P 48 [t58] w (fun t59 w =>
Do P (binOp BinOp.add 9 x5 t59) w (fun t60 w =>
Do P (Builtin.len_ #[9] 3 #[t60]) w (fun t62 w =>
Do P (binOp BinOp.gtr 3 t62 (Value.int IntKind.i64 1048576)) w (fun t63 w =>
If t63
(R (Value.tuple #[(Value.string (ByteArray.mk #[])), (Value.int IntKind.i64 193)]) w)
(Do P (binOp BinOp.add 3 x6 (Value.int IntKind.i64 1)) w (fun t37 w =>
N t60 t37 w) X)) X) X) X) X) X) X) X) X)) X) X) X) X) X) X) X)) X) X) X) X) X) X)
(E0 x5 w)) X) X) X) X
def f18.f (R : Value → World → Prop) (X : List PanicEntry → World → Prop) (a0 : Value) (w : World) : Prop :=
Do P (Instr.box 31 a0) w (fun t1 w =>
Do P (Instr.fieldAt 31 t1 0) w (fun t7 w =>
Do P (Instr.loadAt 28 t7) w (fun t8 w =>
Do P (Instr.alloc 28 true (Value.tuple #[])) w (fun t4 w =>
DoU P (Instr.storeAt 28 t4 t8) w (fun _ w =>
Do P (Instr.loadAt 28 t4) w (fun t9 w =>
CallF P 45 [t9] w (fun t10 w =>
Do P (binS BinOp.neq 32 (Operand.tmp 10) (Operand.const (Value.int IntKind.i64 0)) t10 (Value.int IntKind.i64 0)) w (fun t11 w =>
If t11
(R (Value.tuple #[(Value.string (ByteArray.mk #[])), (Value.int IntKind.i64 190)]) w)
(Do P (Instr.fieldAt 31 t1 1) w (fun t12 w =>
Do P (Instr.loadAt 29 t12) w (fun t13 w =>
Do P (Builtin.len_ #[29] 3 #[t13]) w (fun t14 w =>
Do P (binOp BinOp.gtr 3 t14 (Value.int IntKind.i64 4000)) w (fun t15 w =>
If t15
(R (Value.tuple #[(Value.string (ByteArray.mk #[])), (Value.int IntKind.i64 194)]) w)
(∃ S : World → Prop, S (drewW w) ∧ (fun w =>
Take P S (Instr.fieldAt 28 t4 0) fun t16 =>
Take P S (Instr.loadAt 3 t16) fun t17 =>
Take P S (Instr.fieldAt 28 t4 1) fun t21 =>
Take P S (Instr.loadAt 3 t21) fun t22 =>
Take P S (Instr.fieldAt 28 t4 2) fun t26 =>
Take P S (Instr.loadAt 3 t26) fun t27 =>
CallF P 46 [t17] w (fun t18 w =>
S w ∧ Take P S (binOp BinOp.add 9 (Value.string (ByteArray.mk #[115, 116, 105, 110, 116, 32])) t18) fun t19 =>
Take P S (binOp BinOp.add 9 t19 (Value.string (ByteArray.mk #[32]))) fun t20 =>
CallF P 46 [t22] w (fun t23 w =>
S w ∧ Take P S (binOp BinOp.add 9 t20 t23) fun t24 =>
Take P S (binOp BinOp.add 9 t24 (Value.string (ByteArray.mk #[32]))) fun t25 =>
CallF P 46 [t27] w (fun t28 w =>
S w ∧ Take P S (binOp BinOp.add 9 t25 t28) fun t29 =>
Take P S (binOp BinOp.add 9 t29 (Value.string (ByteArray.mk #[10]))) fun t30 =>
∃ I : Nat → Value → Value → World → Prop, (∃ k, I k t30 (Value.int IntKind.i64 0) w) ∧ ∀ (k : Nat) (σ : Env) (w : World), I k (σ 5) (σ 6) w →
f18.l0 R X (fun (y5 : Value) (y6 : Value) w => ∃ k', k' < k ∧ I k' y5 y6 w) (fun (z5 : Value) w =>
R (Value.tuple #[z5, (Value.int IntKind.i64 0)]) w) t1 (σ 5) (σ 6) w) X) X) X) (drewW w))) X) X) X) X)) X) X) X) X) X) X) X) X
def f18.ann : Ann := [(62, [], (.take 0 (.take 1 (.take 5 (.take 6 (.take 10 (.take 11 (.come 2 (.take 3 (.take 4 (.come 7 (.take 8 (.take 9 (.come 12 (.take 13 (.take 14 (.take 15 .done))) .done))) .done))) .done)))))))), (506, [5, 6], .done)]
theorem f18.awp_eq (R : Value → World → Prop) (X : List PanicEntry → World → Prop) (a0 : Value) (w : World) : awp P 65 f18.ann X 1 (bodyOf Tryd.f18) (retE P [(ResultVar.tmp 2), (ResultVar.tmp 3)] R) (argE [a0]) w = f18.f R X a0 w := by kernel_rfl
theorem f18.calls {R : Value → World → Prop} {X : List PanicEntry → World → Prop} {a0 : Value} {w : World} (h : f18.f R X a0 w) : Calls P 18 #[a0] w (retd R X) :=
  calls_of_awp mixed Tryd.func18 rfl Tryd.ntmps18 (by rw [Tryd.results18]) (Nat.le_of_ble_eq_true rfl) (f18.awp_eq R X a0 w ▸ h)
theorem f18.enters (args : Array Value) (w : World) : (callFunc 18 args).run P w = .ok (.enter 18 args) w := by kernel_rfl

/-! ### 45: stint/stintref10.CheckConfig -/
def f45.f (R : Value → World → Prop) (X : List PanicEntry → World → Prop) (a0 : Value) (w : World) : Prop :=
Do P (Instr.box 28 a0) w (fun t1 w =>
Do P (Instr.fieldAt 28 t1 0) w (fun t3 w =>
Do P (Instr.loadAt 3 t3) w (fun t4 w =>
CallF P 73 [t4, (Value.int IntKind.i64 1), (Value.int IntKind.i64 65535)] w (fun t5 w =>
GuardK t5 true (fun K => Do P (Instr.fieldAt 28 t1 1) w K X) w fun t7 w =>
GuardK t5 true (fun K => Do P (Instr.loadAt 3 t7) w K X) w fun t8 w =>
GuardK t5 true (fun K => CallF P 73 [t8, (Value.int IntKind.i64 128), (Value.int IntKind.i64 1048576)] w K X) w fun t9 w =>
Do P (pickS t5 t9 (Value.bool false)) w (fun t10 w =>
GuardK t10 true (fun K => Do P (Instr.fieldAt 28 t1 2) w K X) w fun t12 w =>
GuardK t10 true (fun K => Do P (Instr.loadAt 3 t12) w K X) w fun t13 w =>
GuardK t10 true (fun K => CallF P 73 [t13, (Value.int IntKind.i64 1024), (Value.int IntKind.i64 67108864)] w K X) w fun t14 w =>
Do P (pickS t10 t14 (Value.bool false)) w (fun t15 w =>
GuardK t15 true (fun K => Do P (Instr.fieldAt 28 t1 1) w K X) w fun t17 w =>
GuardK t15 true (fun K => Do P (Instr.loadAt 3 t17) w K X) w fun t18 w =>
GuardK t15 true (fun K => Do P (binOp BinOp.mul 3 (Value.int IntKind.i64 4) t18) w K X) w fun t19 w =>
GuardK t15 true (fun K => Do P (Instr.fieldAt 28 t1 2) w K X) w fun t20 w =>
GuardK t15 true (fun K => Do P (Instr.loadAt 3 t20) w K X) w fun t21 w =>
GuardK t15 true (fun K => Do P (binOp BinOp.leq 3 t19 t21) w K X) w fun t22 w =>
Do P (pickS t15 t22 (Value.bool false)) w (fun t23 w =>
If t23
(R (Value.int IntKind.i64 0) w)
(R (Value.int IntKind.i64 103) w)) X) X) X) X) X) X) X
def f45.ann : Ann := []
theorem f45.awp_eq (R : Value → World → Prop) (X : List PanicEntry → World → Prop) (a0 : Value) (w : World) : awp P 24 f45.ann X 1 (bodyOf Tryd.f45) (retE P [(ResultVar.tmp 2)] R) (argE [a0]) w = f45.f R X a0 w := by kernel_rfl
theorem f45.calls {R : Value → World → Prop} {X : List PanicEntry → World → Prop} {a0 : Value} {w : World} (h : f45.f R X a0 w) : Calls P 45 #[a0] w (retd R X) :=
  calls_of_awp mixed Tryd.func45 rfl Tryd.ntmps45 (by rw [Tryd.results45]) (Nat.le_of_ble_eq_true rfl) (f45.awp_eq R X a0 w ▸ h)
theorem f45.enters (args : Array Value) (w : World) : (callFunc 45 args).run P w = .ok (.enter 45 args) w := by kernel_rfl

/-! ### 73: stint/stintref10.within -/
def f73.f (R : Value → World → Prop) (X : List PanicEntry → World → Prop) (a0 a1 a2 : Value) (w : World) : Prop :=
Do P (binOp BinOp.geq 3 a0 a1) w (fun t9 w =>
GuardK t9 true (fun K => K a0 w) w fun t11 w =>
GuardK t9 true (fun K => K a2 w) w fun t12 w =>
GuardK t9 true (fun K => Do P (binOp BinOp.leq 3 t11 t12) w K X) w fun t13 w =>
Do P (pickS t9 t13 (Value.bool false)) w (fun t14 w =>
R t14 w) X) X
def f73.ann : Ann := []
theorem f73.awp_eq (R : Value → World → Prop) (X : List PanicEntry → World → Prop) (a0 a1 a2 : Value) (w : World) : awp P 15 f73.ann X 1 (bodyOf Tryd.f73) (retE P [(ResultVar.tmp 6)] R) (argE [a0, a1, a2]) w = f73.f R X a0 a1 a2 w := by kernel_rfl
theorem f73.calls {R : Value → World → Prop} {X : List PanicEntry → World → Prop} {a0 a1 a2 : Value} {w : World} (h : f73.f R X a0 a1 a2 w) : Calls P 73 #[a0, a1, a2] w (retd R X) :=
  calls_of_awp mixed Tryd.func73 rfl Tryd.ntmps73 (by rw [Tryd.results73]) (Nat.le_of_ble_eq_true rfl) (f73.awp_eq R X a0 a1 a2 w ▸ h)
theorem f73.enters (args : Array Value) (w : World) : (callFunc 73 args).run P w = .ok (.enter 73 args) w := by kernel_rfl

/-! ### 46: stint/stintref01.Print -/
def f46.l0 (X : List PanicEntry → World → Prop) (N : Value → Value → World → Prop) (E0 : Value → World → Prop) (x0 x3 : Value) (w : World) : Prop :=
Do P (binOp BinOp.geq 3 x0 (Value.int IntKind.i64 10)) w (fun t13 w =>
If t13
(Do P (binOp BinOp.quo 3 x0 (Value.int IntKind.i64 10)) w (fun t15 w =>
Do P (binOp BinOp.rem 3 t15 (Value.int IntKind.i64 10)) w (fun t17 w =>
Do P (binOp BinOp.add 3 (Value.int IntKind.i64 48) t17) w (fun t18 w =>
Do P (convert 3 5 t18) w (fun t19 w =>
Do P (Instr.buildSlice 41 1 #[(0, t19)]) w (fun t20 w =>
Do P (convert 41 9 t20) w (fun t21 w =>
Do P (binOp BinOp.add 9 t21 x3) w (fun t23 w =>
N t15 t23 w) X) X) X) X) X) X) X)
(E0 x3 w)) X
def f46.f (R : Value → World → Prop) (X : List PanicEntry → World → Prop) (a0 : Value) (w : World) : Prop :=
Do P (binOp BinOp.lss 3 a0 (Value.int IntKind.i64 0)) w (fun t5 w =>
If t5
(R (Value.string (ByteArray.mk #[])) w)
(Do P (binOp BinOp.rem 3 a0 (Value.int IntKind.i64 10)) w (fun t7 w =>
Do P (binOp BinOp.add 3 (Value.int IntKind.i64 48) t7) w (fun t8 w =>
Do P (convert 3 5 t8) w (fun t9 w =>
Do P (Instr.buildSlice 41 1 #[(0, t9)]) w (fun t10 w =>
Do P (convert 41 9 t10) w (fun t11 w =>
∃ I : Nat → Value → Value → World → Prop, (∃ k, I k a0 t11 w) ∧ ∀ (k : Nat) (σ : Env) (w : World), I k (σ 0) (σ 3) w →
f46.l0 X (fun (y0 : Value) (y3 : Value) w => ∃ k', k' < k ∧ I k' y0 y3 w) (fun (z3 : Value) w =>
R z3 w) (σ 0) (σ 3) w) X) X) X) X) X)) X
def f46.ann : Ann := [(60, [0, 3], .done)]
theorem f46.awp_eq (R : Value → World → Prop) (X : List PanicEntry → World → Prop) (a0 : Value) (w : World) : awp P 25 f46.ann X 1 (bodyOf Tryd.f46) (retE P [(ResultVar.tmp 2)] R) (argE [a0]) w = f46.f R X a0 w := by kernel_rfl
theorem f46.calls {R : Value → World → Prop} {X : List PanicEntry → World → Prop} {a0 : Value} {w : World} (h : f46.f R X a0 w) : Calls P 46 #[a0] w (retd R X) :=
  calls_of_awp mixed Tryd.func46 rfl Tryd.ntmps46 (by rw [Tryd.results46]) (Nat.le_of_ble_eq_true rfl) (f46.awp_eq R X a0 w ▸ h)
theorem f46.enters (args : Array Value) (w : World) : (callFunc 46 args).run P w = .ok (.enter 46 args) w := by kernel_rfl

/-! ### 47: stint/stintref19.rightStep -/
def f47.l0 (R : Value → World → Prop) (X : List PanicEntry → World → Prop) (N : Value → World → Prop) (E0 : World → Prop) (t1 x6 : Value) (w : World) : Prop :=
Do P (Instr.fieldAt 44 t1 4) w (fun t100 w =>
Do P (Instr.loadAt 42 t100) w (fun t101 w =>
Do P (Builtin.len_ #[42] 3 #[t101]) w (fun t102 w =>
Do P (binOp BinOp.lss 3 x6 t102) w (fun t103 w =>
If t103
(Do P (Instr.fieldAt 44 t1 4) w (fun t106 w =>
Do P (Instr.loadAt 42 t106) w (fun t107 w =>
Do P (Instr.indexAt 42 t107 x6) w (fun t109 w =>
Do P (Instr.loadAt 3 t109) w (fun t110 w =>
CallF P 74 [t110] w (fun t111 w =>
Do P (Op.unary UnOp.not t111) w (fun t112 w =>
If t112
(R (Value.bool false) w)
(Do P (binOp BinOp.add 3 x6 (Value.int IntKind.i64 1)) w (fun t105 w =>
N t105 w) X)) X) X) X) X) X) X)
(E0 w)) X) X) X) X
def f47.f (R : Value → World → Prop) (X : List PanicEntry → World → Prop) (a0 : Value) (w : World) : Prop :=
Do P (Instr.box 44 a0) w (fun t1 w =>
Do P (Instr.fieldAt 44 t1 0) w (fun t7 w =>
Do P (Instr.loadAt 3 t7) w (fun t8 w =>
Do P (binS BinOp.eql 3 (Operand.tmp 9) (Operand.const (Value.int IntKind.i64 1)) t8 (Value.int IntKind.i64 1)) w (fun t10 w =>
GuardK t10 false (fun K => K t8 w) w fun t12 w =>
GuardK t10 false (fun K => Do P (binS BinOp.eql 3 (Operand.tmp 12) (Operand.const (Value.int IntKind.i64 2)) t12 (Value.int IntKind.i64 2)) w K X) w fun t13 w =>
Do P (pickS t10 (Value.bool true) t13) w (fun t14 w =>
GuardK t14 false (fun K => K t8 w) w fun t16 w =>
GuardK t14 false (fun K => Do P (binS BinOp.eql 3 (Operand.tmp 16) (Operand.const (Value.int IntKind.i64 3)) t16 (Value.int IntKind.i64 3)) w K X) w fun t17 w =>
Do P (pickS t14 (Value.bool true) t17) w (fun t18 w =>
Do P (binS BinOp.eql 3 (Operand.tmp 19) (Operand.const (Value.int IntKind.i64 2)) t8 (Value.int IntKind.i64 2)) w (fun t20 w =>
GuardK t20 false (fun K => K t8 w) w fun t22 w =>
GuardK t20 false (fun K => Do P (binS BinOp.eql 3 (Operand.tmp 22) (Operand.const (Value.int IntKind.i64 3)) t22 (Value.int IntKind.i64 3)) w K X) w fun t23 w =>
Do P (pickS t20 (Value.bool true) t23) w (fun t24 w =>
GuardK t24 false (fun K => K t8 w) w fun t26 w =>
GuardK t24 false (fun K => Do P (binS BinOp.eql 3 (Operand.tmp 26) (Operand.const (Value.int IntKind.i64 4)) t26 (Value.int IntKind.i64 4)) w K X) w fun t27 w =>
Do P (pickS t24 (Value.bool true) t27) w (fun t28 w =>
GuardK t28 false (fun K => K t8 w) w fun t30 w =>
GuardK t28 false (fun K => Do P (binS BinOp.eql 3 (Operand.tmp 30) (Operand.const (Value.int IntKind.i64 7)) t30 (Value.int IntKind.i64 7)) w K X) w fun t31 w =>
Do P (pickS t28 (Value.bool true) t31) w (fun t32 w =>
Do P (binOp BinOp.lss 3 t8 (Value.int IntKind.i64 1)) w (fun t34 w =>
GuardK t34 false (fun K => K t8 w) w fun t36 w =>
GuardK t34 false (fun K => Do P (binOp BinOp.gtr 3 t36 (Value.int IntKind.i64 7)) w K X) w fun t37 w =>
Do P (pickS t34 (Value.bool true) t37) w (fun t38 w =>
GuardK t38 false (fun K => Do P (Instr.fieldAt 44 t1 1) w K X) w fun t40 w =>
GuardK t38 false (fun K => Do P (Instr.loadAt 3 t40) w K X) w fun t41 w =>
GuardK t38 false (fun K => CallF P 74 [t41] w K X) w fun t42 w =>
GuardK t38 false (fun K => Do P (Op.unary UnOp.not t42) w K X) w fun t43 w =>
Do P (pickS t38 (Value.bool true) t43) w (fun t44 w =>
GuardK t44 false (fun K => K t18 w) w fun t46 w =>
GuardK t44 false (fun K => Do P (Op.unary UnOp.not t46) w K X) w fun t47 w =>
GuardK t44 false (fun K => K t47 w) w fun t48 w =>
GuardK t48 true (fun K => Do P (Instr.fieldAt 44 t1 1) w K X) w fun t49 w =>
GuardK t48 true (fun K => Do P (Instr.loadAt 3 t49) w K X) w fun t50 w =>
GuardK t48 true (fun K => Do P (binS BinOp.neq 3 (Operand.tmp 50) (Operand.const (Value.int IntKind.i64 0)) t50 (Value.int IntKind.i64 0)) w K X) w fun t51 w =>
GuardK t44 false (fun K => Do P (pickS t48 t51 (Value.bool false)) w K X) w fun t52 w =>
Do P (pickS t44 (Value.bool true) t52) w (fun t53 w =>
GuardK t53 false (fun K => K t8 w) w fun t55 w =>
GuardK t53 false (fun K => Do P (binS BinOp.neq 3 (Operand.tmp 55) (Operand.const (Value.int IntKind.i64 2)) t55 (Value.int IntKind.i64 2)) w K X) w fun t56 w =>
GuardK t53 false (fun K => K t56 w) w fun t57 w =>
GuardK t57 true (fun K => Do P (Instr.fieldAt 44 t1 2) w K X) w fun t58 w =>
GuardK t57 true (fun K => Do P (Instr.loadAt 41 t58) w K X) w fun t59 w =>
GuardK t57 true (fun K => Do P (Builtin.len_ #[41] 3 #[t59]) w K X) w fun t60 w =>
GuardK t57 true (fun K => Do P (binOp BinOp.gtr 3 t60 (Value.int IntKind.i64 0)) w K X) w fun t61 w =>
GuardK t53 false (fun K => Do P (pickS t57 t61 (Value.bool false)) w K X) w fun t62 w =>
Do P (pickS t53 (Value.bool true) t62) w (fun t63 w =>
If t63
(R (Value.bool false) w)
(Do P (Instr.fieldAt 44 t1 3) w (fun t64 w =>
Do P (Instr.loadAt 3 t64) w (fun t65 w =>
CallF P 74 [t65] w (fun t66 w =>
Do P (Op.unary UnOp.not t66) w (fun t67 w =>
GuardK t67 false (fun K => K t32 w) w fun t69 w =>
GuardK t67 false (fun K => Do P (Op.unary UnOp.not t69) w K X) w fun t70 w =>
GuardK t67 false (fun K => K t70 w) w fun t71 w =>
GuardK t71 true (fun K => Do P (Instr.fieldAt 44 t1 3) w K X) w fun t72 w =>
GuardK t71 true (fun K => Do P (Instr.loadAt 3 t72) w K X) w fun t73 w =>
GuardK t71 true (fun K => Do P (binS BinOp.neq 3 (Operand.tmp 73) (Operand.const (Value.int IntKind.i64 0)) t73 (Value.int IntKind.i64 0)) w K X) w fun t74 w =>
GuardK t67 false (fun K => Do P (pickS t71 t74 (Value.bool false)) w K X) w fun t75 w =>
Do P (pickS t67 (Value.bool true) t75) w (fun t76 w =>
GuardK t76 false (fun K => Do P (Instr.fieldAt 44 t1 4) w K X) w fun t78 w =>
GuardK t76 false (fun K => Do P (Instr.loadAt 42 t78) w K X) w fun t79 w =>
GuardK t76 false (fun K => Do P (Builtin.len_ #[42] 3 #[t79]) w K X) w fun t80 w =>
GuardK t76 false (fun K => Do P (binOp BinOp.gtr 3 t80 (Value.int IntKind.i64 0)) w K X) w fun t81 w =>
GuardK t76 false (fun K => K t81 w) w fun t82 w =>
GuardK t82 true (fun K => K t8 w) w fun t83 w =>
GuardK t82 true (fun K => Do P (binS BinOp.neq 3 (Operand.tmp 83) (Operand.const (Value.int IntKind.i64 6)) t83 (Value.int IntKind.i64 6)) w K X) w fun t84 w =>
GuardK t82 true (fun K => K t84 w) w fun t85 w =>
GuardK t85 true (fun K => K t32 w) w fun t86 w =>
GuardK t85 true (fun K => Do P (Op.unary UnOp.not t86) w K X) w fun t87 w =>
GuardK t82 true (fun K => Do P (pickS t85 t87 (Value.bool false)) w K X) w fun t88 w =>
GuardK t82 true (fun K => K t88 w) w fun t89 w =>
GuardK t89 false (fun K => K t32 w) w fun t90 w =>
GuardK t89 false (fun K => K t90 w) w fun t91 w =>
GuardK t91 true (fun K => Do P (Instr.fieldAt 44 t1 3) w K X) w fun t92 w =>
GuardK t91 true (fun K => Do P (Instr.loadAt 3 t92) w K X) w fun t93 w =>
GuardK t91 true (fun K => Do P (binS BinOp.eql 3 (Operand.tmp 93) (Operand.const (Value.int IntKind.i64 0)) t93 (Value.int IntKind.i64 0)) w K X) w fun t94 w =>
GuardK t89 false (fun K => Do P (pickS t91 t94 (Value.bool false)) w K X) w fun t95 w =>
GuardK t82 true (fun K => Do P (pickS t89 (Value.bool true) t95) w K X) w fun t96 w =>
GuardK t76 false (fun K => Do P (pickS t82 t96 (Value.bool false)) w K X) w fun t97 w =>
Do P (pickS t76 (Value.bool true) t97) w (fun t98 w =>
If t98
(R (Value.bool false) w)
(∃ I : Nat → Value → World → Prop, (∃ k, I k (Value.int IntKind.i64 0) w) ∧ ∀ (k : Nat) (σ : Env) (w : World), I k (σ 6) w →
f47.l0 R X (fun (y6 : Value) w => ∃ k', k' < k ∧ I k' y6 w) (fun w =>
R (Value.bool true) w) t1 (σ 6) w)) X) X) X) X) X) X)) X) X) X) X) X) X) X) X) X) X) X) X) X) X) X
def f47.ann : Ann := [(1018, [6], .done)]
theorem f47.awp_eq (R : Value → World → Prop) (X : List PanicEntry → World → Prop) (a0 : Value) (w : World) : awp P 113 f47.ann X 1 (bodyOf Tryd.f47) (retE P [(ResultVar.tmp 2)] R) (argE [a0]) w = f47.f R X a0 w := by kernel_rfl
theorem f47.calls {R : Value → World → Prop} {X : List PanicEntry → World → Prop} {a0 : Value} {w : World} (h : f47.f R X a0 w) : Calls P 47 #[a0] w (retd R X) :=
  calls_of_awp mixed Tryd.func47 rfl Tryd.ntmps47 (by rw [Tryd.results47]) (Nat.le_of_ble_eq_true rfl) (f47.awp_eq R X a0 w ▸ h)
theorem f47.enters (args : Array Value) (w : World) : (callFunc 47 args).run P w = .ok (.enter 47 args) w := by kernel_rfl

/-! ### 74: stint/stintref19.right -/
def f74.f (R : Value → World → Prop) (X : List PanicEntry → World → Prop) (a0 : Value) (w : World) : Prop :=
Do P (binOp BinOp.geq 3 a0 (Value.int IntKind.i64 0)) w (fun t4 w =>
GuardK t4 true (fun K => K a0 w) w fun t6 w =>
GuardK t4 true (fun K => Do P (binOp BinOp.leq 3 t6 (Value.int IntKind.i64 4611686018427387903)) w K X) w fun t7 w =>
Do P (pickS t4 t7 (Value.bool false)) w (fun t8 w =>
R t8 w) X) X
def f74.ann : Ann := []
theorem f74.awp_eq (R : Value → World → Prop) (X : List PanicEntry → World → Prop) (a0 : Value) (w : World) : awp P 9 f74.ann X 1 (bodyOf Tryd.f74) (retE P [(ResultVar.tmp 2)] R) (argE [a0]) w = f74.f R X a0 w := by kernel_rfl
theorem f74.calls {R : Value → World → Prop} {X : List PanicEntry → World → Prop} {a0 : Value} {w : World} (h : f74.f R X a0 w) : Calls P 74 #[a0] w (retd R X) :=
  calls_of_awp mixed Tryd.func74 rfl Tryd.ntmps74 (by rw [Tryd.results74]) (Nat.le_of_ble_eq_true rfl) (f74.awp_eq R X a0 w ▸ h)
theorem f74.enters (args : Array Value) (w : World) : (callFunc 74 args).run P w = .ok (.enter 74 args) w := by kernel_rfl

/-! ### 48: stint/stintref19.line -/
def f48.l4 (X : List PanicEntry → World → Prop) (N : Value → Value → World → Prop) (E0 : Value → World → Prop) (t1 x3_4 x4 : Value) (w : World) : Prop :=
Do P (Instr.fieldAt 44 t1 4) w (fun t54 w =>
Do P (Instr.loadAt 42 t54) w (fun t55 w =>
Do P (Builtin.len_ #[42] 3 #[t55]) w (fun t56 w =>
Do P (binOp BinOp.lss 3 x4 t56) w (fun t57 w =>
GuardK t57 true (fun K => K x3_4 w) w fun t59 w =>
GuardK t57 true (fun K => Do P (Builtin.len_ #[9] 3 #[t59]) w K X) w fun t60 w =>
GuardK t57 true (fun K => Do P (binOp BinOp.leq 3 t60 (Value.int IntKind.i64 1048576)) w K X) w fun t61 w =>
Do P (pickS t57 t61 (Value.bool false)) w (fun t62 w =>
If t62
(Do P (binOp BinOp.add 9 x3_4 (Value.string (ByteArray.mk #[32]))) w (fun t66 w =>
Do P (Instr.fieldAt 44 t1 4) w (fun t67 w =>
Do P (Instr.loadAt 42 t67) w (fun t68 w =>
Do P (Instr.indexAt 42 t68 x4) w (fun t70 w =>
Do P (Instr.loadAt 3 t70) w (fun t71 w =>
CallF P 46 [t71] w (fun t72 w =>
Do P (binOp BinOp.add 9 t66 t72) w (fun t73 w =>
Do P (binOp BinOp.add 3 x4 (Value.int IntKind.i64 1)) w (fun t64 w =>
N t73 t64 w) X) X) X) X) X) X) X) X)
(E0 x3_4 w)) X) X) X) X) X
def f48.j3 (R : Value → World → Prop) (X : List PanicEntry → World → Prop) (t1 x3_3 : Value) (w : World) : Prop :=
∃ I : Nat → Value → Value → World → Prop, (∃ k, I k x3_3 (Value.int IntKind.i64 0) w) ∧ ∀ (k : Nat) (σ : Env) (w : World), I k (σ 3) (σ 4) w →
f48.l4 X (fun (y3 : Value) (y4 : Value) w => ∃ k', k' < k ∧ I k' y3 y4 w) (fun (z3 : Value) w =>
Do P (binOp BinOp.add 9 z3 (Value.string (ByteArray.mk #[10]))) w (fun t75 w =>
R t75 w) X) t1 (σ 3) (σ 4) w
def f48.j2 (R : Value → World → Prop) (X : List PanicEntry → World → Prop) (t1 x3_2 : Value) (w : World) : Prop :=
∃ J_3 : Value → World → Prop, (∀ (σ : Env) (w : World), J_3 (σ 3) w →
f48.j3 R X t1 (σ 3) w) ∧
Do P (Instr.fieldAt 44 t1 4) w (fun t47 w =>
Do P (Instr.loadAt 42 t47) w (fun t48 w =>
Do P (Builtin.len_ #[42] 3 #[t48]) w (fun t49 w =>
Do P (binOp BinOp.gtr 3 t49 (Value.int IntKind.i64 0)) w (fun t50 w =>
If t50
(Do P (binOp BinOp.add 9 x3_2 (Value.string (ByteArray.mk #[32, 107, 101, 101, 112]))) w (fun t52 w =>
J_3 t52 w) X)
(J_3 x3_2 w)) X) X) X) X
def f48.j1 (R : Value → World → Prop) (X : List PanicEntry → World → Prop) (t1 x3_1 : Value) (w : World) : Prop :=
∃ J_2 : Value → World → Prop, (∀ (σ : Env) (w : World), J_2 (σ 3) w →
f48.j2 R X t1 (σ 3) w) ∧
Do P (Instr.fieldAt 44 t1 3) w (fun t38 w =>
Do P (Instr.loadAt 3 t38) w (fun t39 w =>
Do P (binOp BinOp.gtr 3 t39 (Value.int IntKind.i64 0)) w (fun t40 w =>
If t40
(Do P (binOp BinOp.add 9 x3_1 (Value.string (ByteArray.mk #[32, 98, 114, 101, 97, 107, 32]))) w (fun t42 w =>
Do P (Instr.fieldAt 44 t1 3) w (fun t43 w =>
Do P (Instr.loadAt 3 t43) w (fun t44 w =>
CallF P 46 [t44] w (fun t45 w =>
Do P (binOp BinOp.add 9 t42 t45) w (fun t46 w =>
J_2 t46 w) X) X) X) X) X)
(J_2 x3_1 w)) X) X) X
def f48.j0 (R : Value → World → Prop) (X : List PanicEntry → World → Prop) (t1 x3 : Value) (w : World) : Prop :=
∃ J_1 : Value → World → Prop, (∀ (σ : Env) (w : World), J_1 (σ 3) w →
f48.j1 R X t1 (σ 3) w) ∧
Do P (Instr.fieldAt 44 t1 0) w (fun t29 w =>
Do P (Instr.loadAt 3 t29) w (fun t30 w =>
Do P (binS BinOp.eql 3 (Operand.tmp 30) (Operand.const (Value.int IntKind.i64 2)) t30 (Value.int IntKind.i64 2)) w (fun t31 w =>
If t31
(Do P (binOp BinOp.add 9 x3 (Value.string (ByteArray.mk #[32]))) w (fun t33 w =>
Do P (Instr.fieldAt 44 t1 2) w (fun t34 w =>
Do P (Instr.loadAt 41 t34) w (fun t35 w =>
CallF P 75 [t35] w (fun t36 w =>
Do P (binOp BinOp.add 9 t33 t36) w (fun t37 w =>
J_1 t37 w) X) X) X) X) X)
(J_1 x3 w)) X) X) X
def f48.f (R : Value → World → Prop) (X : List PanicEntry → World → Prop) (a0 : Value) (w : World) : Prop :=
Do P (Instr.box 44 a0) w (fun t1 w =>
Do P (Instr.buildSlice 50 8 #[(0, (Value.string (ByteArray.mk #[]))), (1, (Value.string (ByteArray.mk #[111, 112, 101, 110]))), (2, (Value.string (ByteArray.mk #[102, 101, 101, 100]))), (3, (Value.string (ByteArray.mk #[104, 97, 110, 103]))), (4, (Value.string (ByteArray.mk #[116, 105, 99, 107]))), (5, (Value.string (ByteArray.mk #[100, 114, 97, 105, 110]))), (6, (Value.string (ByteArray.mk #[99, 114, 97, 115, 104]))), (7, (Value.string (ByteArray.mk #[115, 116, 97, 114, 116])))]) w (fun t5 w =>
Do P (Instr.fieldAt 44 t1 0) w (fun t6 w =>
Do P (Instr.loadAt 3 t6) w (fun t7 w =>
Do P (Instr.indexAt 50 t5 t7) w (fun t8 w =>
Do P (Instr.loadAt 9 t8) w (fun t9 w =>
∃ J : Value → World → Prop, (∀ (σ : Env) (w : World), J (σ 3) w →
f48.j0 R X t1 (σ 3) w) ∧
Do P (Instr.fieldAt 44 t1 0) w (fun t10 w =>
Do P (Instr.loadAt 3 t10) w (fun t11 w =>
Do P (binS BinOp.eql 3 (Operand.tmp 11) (Operand.const (Value.int IntKind.i64 1)) t11 (Value.int IntKind.i64 1)) w (fun t12 w =>
GuardK t12 false (fun K => Do P (Instr.fieldAt 44 t1 0) w K X) w fun t14 w =>
GuardK t12 false (fun K => Do P (Instr.loadAt 3 t14) w K X) w fun t15 w =>
GuardK t12 false (fun K => Do P (binS BinOp.eql 3 (Operand.tmp 15) (Operand.const (Value.int IntKind.i64 2)) t15 (Value.int IntKind.i64 2)) w K X) w fun t16 w =>
Do P (pickS t12 (Value.bool true) t16) w (fun t17 w =>
GuardK t17 false (fun K => Do P (Instr.fieldAt 44 t1 0) w K X) w fun t19 w =>
GuardK t17 false (fun K => Do P (Instr.loadAt 3 t19) w K X) w fun t20 w =>
GuardK t17 false (fun K => Do P (binS BinOp.eql 3 (Operand.tmp 20) (Operand.const (Value.int IntKind.i64 3)) t20 (Value.int IntKind.i64 3)) w K X) w fun t21 w =>
Do P (pickS t17 (Value.bool true) t21) w (fun t22 w =>
If t22
(Do P (binOp BinOp.add 9 t9 (Value.string (ByteArray.mk #[32]))) w (fun t24 w =>
Do P (Instr.fieldAt 44 t1 1) w (fun t25 w =>
Do P (Instr.loadAt 3 t25) w (fun t26 w =>
CallF P 46 [t26] w (fun t27 w =>
Do P (binOp BinOp.add 9 t24 t27) w (fun t28 w =>
J t28 w) X) X) X) X) X)
(J t9 w)) X) X) X) X) X) X) X) X) X) X) X
def f48.ann : Ann := [(7, [3], .done), (15, [3], .done), (31, [3], .done), (63, [3], .done), (1018, [3, 4], .done)]
theorem f48.awp_eq (R : Value → World → Prop) (X : List PanicEntry → World → Prop) (a0 : Value) (w : World) : awp P 76 f48.ann X 1 (bodyOf Tryd.f48) (retE P [(ResultVar.tmp 2)] R) (argE [a0]) w = f48.f R X a0 w := by kernel_rfl
theorem f48.calls {R : Value → World → Prop} {X : List PanicEntry → World → Prop} {a0 : Value} {w : World} (h : f48.f R X a0 w) : Calls P 48 #[a0] w (retd R X) :=
  calls_of_awp mixed Tryd.func48 rfl Tryd.ntmps48 (by rw [Tryd.results48]) (Nat.le_of_ble_eq_true rfl) (f48.awp_eq R X a0 w ▸ h)
theorem f48.enters (args : Array Value) (w : World) : (callFunc 48 args).run P w = .ok (.enter 48 args) w := by kernel_rfl

/-! ### 75: stint/stintref19.Written -/
def f75.l0 (X : List PanicEntry → World → Prop) (N : Value → Value → World → Prop) (E0 : Value → World → Prop) (a0 x3 x5 : Value) (w : World) : Prop :=
Do P (Builtin.len_ #[41] 3 #[a0]) w (fun t10 w =>
Do P (binOp BinOp.lss 3 x5 t10) w (fun t11 w =>
If t11
(Do P (Instr.indexAt 41 a0 x5) w (fun t16 w =>
Do P (Instr.loadAt 5 t16) w (fun t17 w =>
Do P (binS BinOp.eql 5 (Operand.tmp 18) (Operand.const (Value.int IntKind.u8 32)) t17 (Value.int IntKind.u8 32)) w (fun t41 w =>
If t41
(Do P (Instr.buildSlice 41 2 #[(0, (Value.int IntKind.u8 92)), (1, (Value.int IntKind.u8 115))]) w (fun t43 w =>
Do P (Builtin.append_ #[41, 41] 41 #[x3, t43]) w (fun t44 w =>
Do P (binOp BinOp.add 3 x5 (Value.int IntKind.i64 1)) w (fun t13 w =>
N t44 t13 w) X) X) X)
(Do P (binS BinOp.eql 5 (Operand.tmp 18) (Operand.const (Value.int IntKind.u8 13)) t17 (Value.int IntKind.u8 13)) w (fun t46 w =>
If t46
(Do P (Instr.buildSlice 41 2 #[(0, (Value.int IntKind.u8 92)), (1, (Value.int IntKind.u8 114))]) w (fun t48 w =>
Do P (Builtin.append_ #[41, 41] 41 #[x3, t48]) w (fun t49 w =>
Do P (binOp BinOp.add 3 x5 (Value.int IntKind.i64 1)) w (fun t13_1 w =>
N t49 t13_1 w) X) X) X)
(Do P (binS BinOp.eql 5 (Operand.tmp 18) (Operand.const (Value.int IntKind.u8 10)) t17 (Value.int IntKind.u8 10)) w (fun t51 w =>
If t51
(Do P (Instr.buildSlice 41 2 #[(0, (Value.int IntKind.u8 92)), (1, (Value.int IntKind.u8 110))]) w (fun t53 w =>
Do P (Builtin.append_ #[41, 41] 41 #[x3, t53]) w (fun t54 w =>
Do P (binOp BinOp.add 3 x5 (Value.int IntKind.i64 1)) w (fun t13_2 w =>
N t54 t13_2 w) X) X) X)
(Do P (binS BinOp.eql 5 (Operand.tmp 18) (Operand.const (Value.int IntKind.u8 92)) t17 (Value.int IntKind.u8 92)) w (fun t56 w =>
If t56
(Do P (Instr.buildSlice 41 2 #[(0, (Value.int IntKind.u8 92)), (1, (Value.int IntKind.u8 92))]) w (fun t58 w =>
Do P (Builtin.append_ #[41, 41] 41 #[x3, t58]) w (fun t59 w =>
Do P (binOp BinOp.add 3 x5 (Value.int IntKind.i64 1)) w (fun t13_3 w =>
N t59 t13_3 w) X) X) X)
(Do P (binOp BinOp.geq 5 t17 (Value.int IntKind.u8 33)) w (fun t20 w =>
GuardK t20 true (fun K => K t17 w) w fun t22 w =>
GuardK t20 true (fun K => Do P (binOp BinOp.leq 5 t22 (Value.int IntKind.u8 126)) w K X) w fun t23 w =>
Do P (pickS t20 t23 (Value.bool false)) w (fun t24 w =>
If t24
(Do P (Instr.buildSlice 41 1 #[(0, t17)]) w (fun t27 w =>
Do P (Builtin.append_ #[41, 41] 41 #[x3, t27]) w (fun t28 w =>
Do P (binOp BinOp.add 3 x5 (Value.int IntKind.i64 1)) w (fun t13_4 w =>
N t28 t13_4 w) X) X) X)
(∃ S : World → Prop, S (drewW w) ∧ (fun w =>
Take P S (binOp BinOp.quo 5 t17 (Value.int IntKind.u8 16)) fun t32 =>
Take P S (Instr.index 9 (Value.string (ByteArray.mk #[48, 49, 50, 51, 52, 53, 54, 55, 56, 57, 97, 98, 99, 100, 101, 102])) t32) fun t33 =>
Take P S (binOp BinOp.rem 5 t17 (Value.int IntKind.u8 16)) fun t36 =>
Take P S (Instr.index 9 (Value.string (ByteArray.mk #[48, 49, 50, 51, 52, 53, 54, 55, 56, 57, 97, 98, 99, 100, 101, 102])) t36) fun t37 =>
Do P (Instr.buildSlice 41 4 #[(0, (Value.int IntKind.u8 92)), (1, (Value.int IntKind.u8 120)), (2, t33), (3, t37)]) w (fun t38 w =>
S w ∧ Do P (Builtin.append_ #[41, 41] 41 #[x3, t38]) w (fun t39 w =>
S w ∧ Do P (binOp BinOp.add 3 x5 (Value.int IntKind.i64 1)) w (fun t13_5 w =>
N t39 t13_5 w) X) X) X) (drewW w))) X) X)) X)) X)) X)) X) X) X)
(E0 x3 w)) X) X
def f75.f (R : Value → World → Prop) (X : List PanicEntry → World → Prop) (a0 : Value) (w : World) : Prop :=
Do P (Instr.buildSlice 41 1 #[(0, (Value.int IntKind.u8 61))]) w (fun t7 w =>
∃ I : Nat → Value → Value → World → Prop, (∃ k, I k t7 (Value.int IntKind.i64 0) w) ∧ ∀ (k : Nat) (σ : Env) (w : World), I k (σ 3) (σ 5) w →
f75.l0 X (fun (y3 : Value) (y5 : Value) w => ∃ k', k' < k ∧ I k' y3 y5 w) (fun (z3 : Value) w =>
Do P (convert 41 9 z3) w (fun t61 w =>
R t61 w) X) a0 (σ 3) (σ 5) w) X
def f75.ann : Ann := [(122, [3, 5], .done), (16030719, [], (.take 0 (.take 1 (.take 2 (.take 3 (.take 4 (.take 5 (.take 6 (.take 7 (.take 8 (.come 9 (.come 10 (.take 11 .done) .done) .done)))))))))))]
theorem f75.awp_eq (R : Value → World → Prop) (X : List PanicEntry → World → Prop) (a0 : Value) (w : World) : awp P 62 f75.ann X 1 (bodyOf Tryd.f75) (retE P [(ResultVar.tmp 2)] R) (argE [a0]) w = f75.f R X a0 w := by kernel_rfl
theorem f75.calls {R : Value → World → Prop} {X : List PanicEntry → World → Prop} {a0 : Value} {w : World} (h : f75.f R X a0 w) : Calls P 75 #[a0] w (retd R X) :=
  calls_of_awp mixed Tryd.func75 rfl Tryd.ntmps75 (by rw [Tryd.results75]) (Nat.le_of_ble_eq_true rfl) (f75.awp_eq R X a0 w ▸ h)
theorem f75.enters (args : Array Value) (w : World) : (callFunc 75 args).run P w = .ok (.enter 75 args) w := by kernel_rfl

/-! ### 15: stint/stintlaw19.lent -/
def f15.j1 (X : List PanicEntry → World → Prop) (E0 : World → Prop) (t3 x4 : Value) (w : World) : Prop :=
Do P (Instr.fieldAt 31 t3 1) w (fun t39 w =>
Do P (Instr.loadAt 29 t39) w (fun t40 w =>
Do P (Instr.indexAt 29 t40 x4) w (fun t42 w =>
Do P (Instr.fieldAt 44 t42 4) w (fun t43 w =>
Do P (Instr.loadAt 42 t43) w (fun t44 w =>
Do P (Builtin.len_ #[42] 3 #[t44]) w (fun t45 w =>
∃ S : World → Prop, S (drewW w) ∧ (fun w =>
Take P S (Instr.fieldAt 31 t3 1) fun t46 =>
Take P S (Instr.loadAt 29 t46) fun t47 =>
Take P S (Instr.fieldAt 31 t3 1) fun t49 =>
Take P S (Instr.loadAt 29 t49) fun t50 =>
Take P S (Instr.indexAt 29 t50 x4) fun t52 =>
Take P S (Instr.fieldAt 44 t52 4) fun t53 =>
(Do P (Instr.loadAt 42 t53) w (fun t54 w =>
S w ∧ Do P (Instr.buildSlice 42 1 #[(0, (Value.int IntKind.i64 (-99)))]) w (fun t55 w =>
S w ∧ Do P (Builtin.append_ #[42, 42] 42 #[t54, t55]) w (fun t56 w =>
S w ∧ Take P S (Instr.sliceAt 42 t56 none (some t45) none) fun t58 =>
Take P S (Instr.indexAt 29 t47 x4) fun t59 =>
Take P S (Instr.fieldAt 44 t59 4) fun t60 =>
DoU P (Instr.storeAt 42 t60 t58) w (fun _ w =>
S w ∧ E0 w) X) X) X) X) ∧
(Do P (Instr.buildSlice 42 1 #[(0, (Value.int IntKind.i64 (-99)))]) w (fun t55_1 w =>
S w ∧ Do P (Instr.loadAt 42 t53) w (fun t54_1 w =>
S w ∧ Do P (Builtin.append_ #[42, 42] 42 #[t54_1, t55_1]) w (fun t56_1 w =>
S w ∧ Take P S (Instr.sliceAt 42 t56_1 none (some t45) none) fun t58_1 =>
Take P S (Instr.indexAt 29 t47 x4) fun t59_1 =>
Take P S (Instr.fieldAt 44 t59_1 4) fun t60_1 =>
DoU P (Instr.storeAt 42 t60_1 t58_1) w (fun _ w =>
S w ∧ E0 w) X) X) X) X)) (drewW w)) X) X) X) X) X) X
def f15.l0 (X : List PanicEntry → World → Prop) (N : Value → World → Prop) (E0 : World → Prop) (t3 x4 : Value) (w : World) : Prop :=
Do P (Instr.fieldAt 31 t3 1) w (fun t11 w =>
Do P (Instr.loadAt 29 t11) w (fun t12 w =>
Do P (Builtin.len_ #[29] 3 #[t12]) w (fun t13 w =>
Do P (binOp BinOp.lss 3 x4 t13) w (fun t14 w =>
If t14
(Do P (Instr.fieldAt 31 t3 1) w (fun t17 w =>
Do P (Instr.loadAt 29 t17) w (fun t18 w =>
Do P (Instr.indexAt 29 t18 x4) w (fun t20 w =>
Do P (Instr.fieldAt 44 t20 2) w (fun t21 w =>
Do P (Instr.loadAt 41 t21) w (fun t22 w =>
Do P (Builtin.len_ #[41] 3 #[t22]) w (fun t23 w =>
∃ J : World → Prop, (∀ (σ : Env) (w : World), J w →
f15.j1 X (fun w =>
Do P (binOp BinOp.add 3 x4 (Value.int IntKind.i64 1)) w (fun t16 w =>
N t16 w) X) t3 x4 w) ∧
∃ S : World → Prop, S (drewW w) ∧ (fun w =>
Take P S (Instr.fieldAt 31 t3 1) fun t24 =>
Take P S (Instr.loadAt 29 t24) fun t25 =>
Take P S (Instr.fieldAt 31 t3 1) fun t27 =>
Take P S (Instr.loadAt 29 t27) fun t28 =>
Take P S (Instr.indexAt 29 t28 x4) fun t30 =>
Take P S (Instr.fieldAt 44 t30 2) fun t31 =>
(Do P (Instr.loadAt 41 t31) w (fun t32 w =>
S w ∧ Do P (Instr.buildSlice 41 1 #[(0, (Value.int IntKind.u8 165))]) w (fun t33 w =>
S w ∧ Do P (Builtin.append_ #[41, 41] 41 #[t32, t33]) w (fun t34 w =>
S w ∧ Take P S (Instr.sliceAt 41 t34 none (some t23) none) fun t36 =>
Take P S (Instr.indexAt 29 t25 x4) fun t37 =>
Take P S (Instr.fieldAt 44 t37 2) fun t38 =>
DoU P (Instr.storeAt 41 t38 t36) w (fun _ w =>
S w ∧ J w) X) X) X) X) ∧
(Do P (Instr.buildSlice 41 1 #[(0, (Value.int IntKind.u8 165))]) w (fun t33_1 w =>
S w ∧ Do P (Instr.loadAt 41 t31) w (fun t32_1 w =>
S w ∧ Do P (Builtin.append_ #[41, 41] 41 #[t32_1, t33_1]) w (fun t34_1 w =>
S w ∧ Take P S (Instr.sliceAt 41 t34_1 none (some t23) none) fun t36_1 =>
Take P S (Instr.indexAt 29 t25 x4) fun t37_1 =>
Take P S (Instr.fieldAt 44 t37_1 2) fun t38_1 =>
DoU P (Instr.storeAt 41 t38_1 t36_1) w (fun _ w =>
S w ∧ J w) X) X) X) X)) (drewW w)) X) X) X) X) X) X)
(E0 w)) X) X) X) X
def f15.f (R : Value → World → Prop) (X : List PanicEntry → World → Prop) (a0 : Value) (w : World) : Prop :=
Do P (Instr.box 31 a0) w (fun t1 w =>
Do P (Instr.alloc 31 true (Value.tuple #[])) w (fun t2 w =>
Do P (Instr.loadAt 31 t1) w (fun t8 w =>
CallF P 19 [t8] w (fun t9 w =>
Do P (Instr.alloc 31 true (Value.tuple #[])) w (fun t3 w =>
DoU P (Instr.storeAt 31 t3 t9) w (fun _ w =>
∃ I : Nat → Value → World → Prop, (∃ k, I k (Value.int IntKind.i64 0) w) ∧ ∀ (k : Nat) (σ : Env) (w : World), I k (σ 4) w →
f15.l0 X (fun (y4 : Value) w => ∃ k', k' < k ∧ I k' y4 w) (fun w =>
Do P (Instr.fieldAt 31 t3 1) w (fun t61 w =>
Do P (Instr.loadAt 29 t61) w (fun t62 w =>
Do P (Builtin.len_ #[29] 3 #[t62]) w (fun t63 w =>
Do P (Instr.fieldAt 31 t3 1) w (fun t64 w =>
Do P (Instr.loadAt 29 t64) w (fun t65 w =>
Do P (Instr.build 44 #[(0, (Value.int IntKind.i64 (-99)))]) w (fun t66 w =>
Do P (Instr.buildSlice 29 1 #[(0, t66)]) w (fun t67 w =>
Do P (Builtin.append_ #[29, 29] 29 #[t65, t67]) w (fun t68 w =>
Do P (Instr.sliceAt 29 t68 none (some t63) none) w (fun t70 w =>
Do P (Instr.fieldAt 31 t3 1) w (fun t71 w =>
DoU P (Instr.storeAt 29 t71 t70) w (fun _ w =>
Do P (Instr.loadAt 31 t3) w (fun t72 w =>
DoU P (Instr.storeAt 31 t2 t72) w (fun _ w =>
ResC P 31 t2 w fun r =>
R r w) X) X) X) X) X) X) X) X) X) X) X) X) X) t3 (σ 4) w) X) X) X) X) X) X
def f15.ann : Ann := [(58, [4], .done), (1865, [], .done), (7463, [], (.take 0 (.take 1 (.take 2 (.take 3 (.take 4 (.take 5 (.take 6 (.take 7 (.take 11 (.come 8 (.come 9 (.come 10 (.take 12 (.take 13 (.take 14 (.come 15 .done .done)))) .done) .done) (.come 9 (.come 8 (.come 10 (.take 12 (.take 13 (.take 14 (.come 15 .done .done)))) .done) .done) .done)))))))))))), (3730, [], (.take 0 (.take 1 (.take 2 (.take 3 (.take 4 (.take 5 (.take 6 (.take 7 (.take 11 (.come 8 (.come 9 (.come 10 (.take 12 (.take 13 (.take 14 (.come 15 .done .done)))) .done) .done) (.come 9 (.come 8 (.come 10 (.take 12 (.take 13 (.take 14 (.come 15 .done .done)))) .done) .done) .done))))))))))))]
theorem f15.awp_eq (R : Value → World → Prop) (X : List PanicEntry → World → Prop) (a0 : Value) (w : World) : awp P 73 f15.ann X 1 (bodyOf Tryd.f15) (retE P [(ResultVar.cell 2 31)] R) (argE [a0]) w = f15.f R X a0 w := by kernel_rfl
theorem f15.calls {R : Value → World → Prop} {X : List PanicEntry → World → Prop} {a0 : Value} {w : World} (h : f15.f R X a0 w) : Calls P 15 #[a0] w (retd R X) :=
  calls_of_awp mixed Tryd.func15 rfl Tryd.ntmps15 (by rw [Tryd.results15]) (Nat.le_of_ble_eq_true rfl) (f15.awp_eq R X a0 w ▸ h)
theorem f15.enters (args : Array Value) (w : World) : (callFunc 15 args).run P w = .ok (.enter 15 args) w := by kernel_rfl

/-! ### 17: stint/stintlaw19.still -/
def f17.l0 (R : Value → World → Prop) (X : List PanicEntry → World → Prop) (N : Value → World → Prop) (E0 : World → Prop) (a0 a1 t7 t16 x11 : Value) (w : World) : Prop :=
Do P (binOp BinOp.lss 3 x11 t16) w (fun t37 w =>
If t37
(Do P (Instr.fieldAt 31 t7 1) w (fun t40 w =>
Do P (Instr.loadAt 29 t40) w (fun t41 w =>
Do P (Instr.indexAt 29 t41 x11) w (fun t43 w =>
Do P (Instr.fieldAt 44 t43 2) w (fun t44 w =>
Do P (Instr.loadAt 41 t44) w (fun t45 w =>
Do P (Builtin.len_ #[41] 3 #[t45]) w (fun t46 w =>
Do P (Instr.fieldAt 31 t7 1) w (fun t47 w =>
Do P (Instr.loadAt 29 t47) w (fun t48 w =>
Do P (Instr.indexAt 29 t48 x11) w (fun t50 w =>
Do P (Instr.fieldAt 44 t50 4) w (fun t51 w =>
Do P (Instr.loadAt 42 t51) w (fun t52 w =>
Do P (Builtin.len_ #[42] 3 #[t52]) w (fun t53 w =>
∃ S : World → Prop, S (drewW w) ∧ (fun w =>
Take P S (Instr.indexAt 39 a0 x11) fun t56 =>
Take P S (Instr.loadAt 41 t56) fun t57 =>
Take P S (Instr.sliceAt 41 t57 none (some t46) none) fun t59 =>
Take P S (Instr.fieldAt 31 t7 1) fun t61 =>
Take P S (Instr.loadAt 29 t61) fun t62 =>
Take P S (Instr.indexAt 29 t62 x11) fun t64 =>
Take P S (Instr.fieldAt 44 t64 2) fun t65 =>
Take P S (Instr.loadAt 41 t65) fun t66 =>
(Do P (convert 41 9 t59) w (fun t60 w =>
S w ∧ Do P (convert 41 9 t66) w (fun t67 w =>
S w ∧ Take P S (binS BinOp.neq 9 (Operand.tmp 60) (Operand.tmp 67) t60 t67) fun t68 =>
GuardT t68 false (fun K => K a0) fun t70 =>
GuardT t68 false (fun K => K x11) fun t71 =>
GuardT t68 false (fun K => Take P S (Instr.indexAt 39 t70 t71) K) fun t72 =>
GuardT t68 false (fun K => Take P S (Instr.loadAt 41 t72) K) fun t73 =>
GuardT t68 false (fun K => K t46) fun t74 =>
GuardT t68 false (fun K => Take P S (Instr.indexAt 41 t73 t74) K) fun t75 =>
GuardT t68 false (fun K => Take P S (Instr.loadAt 5 t75) K) fun t76 =>
GuardT t68 false (fun K => Take P S (binS BinOp.neq 5 (Operand.tmp 76) (Operand.const (Value.int IntKind.u8 165)) t76 (Value.int IntKind.u8 165)) K) fun t77 =>
Take P S (pickS t68 (Value.bool true) t77) fun t78 =>
GuardT t78 false (fun K => K a1) fun t80 =>
GuardT t78 false (fun K => K x11) fun t81 =>
GuardT t78 false (fun K => Take P S (Instr.indexAt 40 t80 t81) K) fun t82 =>
GuardT t78 false (fun K => Take P S (Instr.loadAt 42 t82) K) fun t83 =>
GuardT t78 false (fun K => K t53) fun t84 =>
GuardT t78 false (fun K => Take P S (Instr.indexAt 42 t83 t84) K) fun t85 =>
GuardT t78 false (fun K => Take P S (Instr.loadAt 3 t85) K) fun t86 =>
GuardT t78 false (fun K => Take P S (binS BinOp.neq 3 (Operand.tmp 86) (Operand.const (Value.int IntKind.i64 (-99))) t86 (Value.int IntKind.i64 (-99))) K) fun t87 =>
Take P S (pickS t78 (Value.bool true) t87) fun t88 =>
If t88
(R (Value.bool false) w)
(Do P (binOp BinOp.add 3 x11 (Value.int IntKind.i64 1)) w (fun t39 w =>
N t39 w) X)) X) X) ∧
(Do P (convert 41 9 t66) w (fun t67_1 w =>
S w ∧ Do P (convert 41 9 t59) w (fun t60_1 w =>
S w ∧ Take P S (binS BinOp.neq 9 (Operand.tmp 60) (Operand.tmp 67) t60_1 t67_1) fun t68_1 =>
GuardT t68_1 false (fun K => K a0) fun t70_1 =>
GuardT t68_1 false (fun K => K x11) fun t71_1 =>
GuardT t68_1 false (fun K => Take P S (Instr.indexAt 39 t70_1 t71_1) K) fun t72_1 =>
GuardT t68_1 false (fun K => Take P S (Instr.loadAt 41 t72_1) K) fun t73_1 =>
GuardT t68_1 false (fun K => K t46) fun t74_1 =>
GuardT t68_1 false (fun K => Take P S (Instr.indexAt 41 t73_1 t74_1) K) fun t75_1 =>
GuardT t68_1 false (fun K => Take P S (Instr.loadAt 5 t75_1) K) fun t76_1 =>
GuardT t68_1 false (fun K => Take P S (binS BinOp.neq 5 (Operand.tmp 76) (Operand.const (Value.int IntKind.u8 165)) t76_1 (Value.int IntKind.u8 165)) K) fun t77_1 =>
Take P S (pickS t68_1 (Value.bool true) t77_1) fun t78_1 =>
GuardT t78_1 false (fun K => K a1) fun t80_1 =>
GuardT t78_1 false (fun K => K x11) fun t81_1 =>
GuardT t78_1 false (fun K => Take P S (Instr.indexAt 40 t80_1 t81_1) K) fun t82_1 =>
GuardT t78_1 false (fun K => Take P S (Instr.loadAt 42 t82_1) K) fun t83_1 =>
GuardT t78_1 false (fun K => K t53) fun t84_1 =>
GuardT t78_1 false (fun K => Take P S (Instr.indexAt 42 t83_1 t84_1) K) fun t85_1 =>
GuardT t78_1 false (fun K => Take P S (Instr.loadAt 3 t85_1) K) fun t86_1 =>
GuardT t78_1 false (fun K => Take P S (binS BinOp.neq 3 (Operand.tmp 86) (Operand.const (Value.int IntKind.i64 (-99))) t86_1 (Value.int IntKind.i64 (-99))) K) fun t87_1 =>
Take P S (pickS t78_1 (Value.bool true) t87_1) fun t88_1 =>
If t88_1
(R (Value.bool false) w)
(Do P (binOp BinOp.add 3 x11 (Value.int IntKind.i64 1)) w (fun t39_1 w =>
N t39_1 w) X)) X) X)) (drewW w)) X) X) X) X) X) X) X) X) X) X) X) X)
(E0 w)) X
def f17.f (R : Value → World → Prop) (X : List PanicEntry → World → Prop) (a0 a1 a2 a3 : Value) (w : World) : Prop :=
Do P (Instr.box 31 a3) w (fun t7 w =>
Do P (Instr.fieldAt 31 t7 1) w (fun t14 w =>
Do P (Instr.loadAt 29 t14) w (fun t15 w =>
Do P (Builtin.len_ #[29] 3 #[t15]) w (fun t16 w =>
∃ S : World → Prop, S (drewW w) ∧ (fun w =>
Take P S (Instr.sliceAt 29 a2 none (some t16) none) fun t19 =>
Take P S (Instr.build 31 #[(1, t19)]) fun t20 =>
Take P S (Instr.fieldAt 31 t7 1) fun t21 =>
Take P S (Instr.loadAt 29 t21) fun t22 =>
Take P S (Instr.build 31 #[(1, t22)]) fun t23 =>
CallF P 13 [t20, t23] w (fun t24 w =>
S w ∧ Do P (Op.unary UnOp.not t24) w (fun t26 w =>
GuardK t26 false (fun K => K a2 w) w fun t28 w =>
GuardK t26 false (fun K => K t16 w) w fun t29 w =>
GuardK t26 false (fun K => Do P (Instr.indexAt 29 t28 t29) w K X) w fun t30 w =>
GuardK t26 false (fun K => Do P (Instr.fieldAt 44 t30 0) w K X) w fun t31 w =>
GuardK t26 false (fun K => Do P (Instr.loadAt 3 t31) w K X) w fun t32 w =>
GuardK t26 false (fun K => Do P (binS BinOp.neq 3 (Operand.tmp 32) (Operand.const (Value.int IntKind.i64 (-99))) t32 (Value.int IntKind.i64 (-99))) w K X) w fun t33 w =>
Do P (pickS t26 (Value.bool true) t33) w (fun t34 w =>
If t34
(R (Value.bool false) w)
(∃ I : Nat → Value → World → Prop, (∃ k, I k (Value.int IntKind.i64 0) w) ∧ ∀ (k : Nat) (σ : Env) (w : World), I k (σ 11) w →
f17.l0 R X (fun (y11 : Value) w => ∃ k', k' < k ∧ I k' y11 w) (fun w =>
R (Value.bool true) w) a0 a1 t7 t16 (σ 11) w)) X) X) X) (drewW w)) X) X) X) X
def f17.ann : Ann := [(14, [], (.take 0 (.take 1 (.take 2 (.take 3 (.take 4 (.take 5 (.take 6 (.come 7 (.take 8 .done) .done))))))))), (250, [11], .done), (32038, [], (.take 0 (.take 1 (.take 2 (.take 3 (.take 4 (.take 5 (.take 7 (.take 8 (.take 9 (.take 10 (.take 11 (.take 12 (.come 6 (.come 13 (.take 14 (.take 15 (.take 16 (.take 17 (.take 18 (.take 19 (.take 20 (.take 21 (.take 22 (.take 23 (.take 24 (.take 25 (.take 26 (.take 27 (.take 28 (.take 29 (.take 30 (.take 31 (.take 32 (.take 33 (.take 34 .done))))))))))))))))))))) .done) (.come 13 (.come 6 (.take 14 (.take 15 (.take 16 (.take 17 (.take 18 (.take 19 (.take 20 (.take 21 (.take 22 (.take 23 (.take 24 (.take 25 (.take 26 (.take 27 (.take 28 (.take 29 (.take 30 (.take 31 (.take 32 (.take 33 (.take 34 .done))))))))))))))))))))) .done) .done)))))))))))))))]
theorem f17.awp_eq (R : Value → World → Prop) (X : List PanicEntry → World → Prop) (a0 a1 a2 a3 : Value) (w : World) : awp P 89 f17.ann X 1 (bodyOf Tryd.f17) (retE P [(ResultVar.tmp 8)] R) (argE [a0, a1, a2, a3]) w = f17.f R X a0 a1 a2 a3 w := by kernel_rfl
theorem f17.calls {R : Value → World → Prop} {X : List PanicEntry → World → Prop} {a0 a1 a2 a3 : Value} {w : World} (h : f17.f R X a0 a1 a2 a3 w) : Calls P 17 #[a0, a1, a2, a3] w (retd R X) :=
  calls_of_awp mixed Tryd.func17 rfl Tryd.ntmps17 (by rw [Tryd.results17]) (Nat.le_of_ble_eq_true rfl) (f17.awp_eq R X a0 a1 a2 a3 w ▸ h)
theorem f17.enters (args : Array Value) (w : World) : (callFunc 17 args).run P w = .ok (.enter 17 args) w := by kernel_rfl

/-! ### 19: stint/stintlaw19.owned -/
def f19.l0 (X : List PanicEntry → World → Prop) (N : Value → World → Prop) (E0 : World → Prop) (t1 t3 x4 : Value) (w : World) : Prop :=
Do P (Instr.fieldAt 31 t1 1) w (fun t12 w =>
Do P (Instr.loadAt 29 t12) w (fun t13 w =>
Do P (Builtin.len_ #[29] 3 #[t13]) w (fun t14 w =>
Do P (binOp BinOp.lss 3 x4 t14) w (fun t15 w =>
If t15
(Do P (Instr.fieldAt 31 t1 1) w (fun t18 w =>
Do P (Instr.loadAt 29 t18) w (fun t19 w =>
Do P (Instr.indexAt 29 t19 x4) w (fun t21 w =>
Do P (Instr.loadAt 44 t21) w (fun t22 w =>
Do P (Instr.alloc 44 true (Value.tuple #[])) w (fun t5 w =>
DoU P (Instr.storeAt 44 t5 t22) w (fun _ w =>
Do P (Instr.buildSlice 41 0 #[]) w (fun t23 w =>
Do P (Instr.fieldAt 44 t5 2) w (fun t25 w =>
Do P (Instr.loadAt 41 t25) w (fun t26 w =>
Do P (Builtin.append_ #[41, 41] 41 #[t23, t26]) w (fun t27 w =>
Do P (Instr.fieldAt 44 t5 2) w (fun t28 w =>
DoU P (Instr.storeAt 41 t28 t27) w (fun _ w =>
Do P (Instr.buildSlice 42 0 #[]) w (fun t29 w =>
Do P (Instr.fieldAt 44 t5 4) w (fun t31 w =>
Do P (Instr.loadAt 42 t31) w (fun t32 w =>
Do P (Builtin.append_ #[42, 42] 42 #[t29, t32]) w (fun t33 w =>
Do P (Instr.fieldAt 44 t5 4) w (fun t34 w =>
DoU P (Instr.storeAt 42 t34 t33) w (fun _ w =>
Do P (Instr.fieldAt 31 t3 1) w (fun t35 w =>
Do P (Instr.loadAt 29 t35) w (fun t36 w =>
Do P (Instr.loadAt 44 t5) w (fun t37 w =>
Do P (Instr.buildSlice 29 1 #[(0, t37)]) w (fun t38 w =>
Do P (Builtin.append_ #[29, 29] 29 #[t36, t38]) w (fun t39 w =>
Do P (Instr.fieldAt 31 t3 1) w (fun t40 w =>
DoU P (Instr.storeAt 29 t40 t39) w (fun _ w =>
Do P (binOp BinOp.add 3 x4 (Value.int IntKind.i64 1)) w (fun t17 w =>
N t17 w) X) X) X) X) X) X) X) X) X) X) X) X) X) X) X) X) X) X) X) X) X) X) X) X) X) X)
(E0 w)) X) X) X) X
def f19.f (R : Value → World → Prop) (X : List PanicEntry → World → Prop) (a0 : Value) (w : World) : Prop :=
Do P (Instr.box 31 a0) w (fun t1 w =>
Do P (Instr.alloc 31 true (Value.tuple #[])) w (fun t2 w =>
Do P (Instr.fieldAt 31 t1 0) w (fun t8 w =>
Do P (Instr.loadAt 28 t8) w (fun t9 w =>
Do P (Instr.build 31 #[(0, t9)]) w (fun t10 w =>
Do P (Instr.alloc 31 true (Value.tuple #[])) w (fun t3 w =>
DoU P (Instr.storeAt 31 t3 t10) w (fun _ w =>
∃ I : Nat → Value → World → Prop, (∃ k, I k (Value.int IntKind.i64 0) w) ∧ ∀ (k : Nat) (σ : Env) (w : World), I k (σ 4) w →
f19.l0 X (fun (y4 : Value) w => ∃ k', k' < k ∧ I k' y4 w) (fun w =>
Do P (Instr.loadAt 31 t3) w (fun t41 w =>
DoU P (Instr.storeAt 31 t2 t41) w (fun _ w =>
ResC P 31 t2 w fun r =>
R r w) X) X) t1 t3 (σ 4) w) X) X) X) X) X) X) X
def f19.ann : Ann := [(58, [4], .done)]
theorem f19.awp_eq (R : Value → World → Prop) (X : List PanicEntry → World → Prop) (a0 : Value) (w : World) : awp P 42 f19.ann X 1 (bodyOf Tryd.f19) (retE P [(ResultVar.cell 2 31)] R) (argE [a0]) w = f19.f R X a0 w := by kernel_rfl
theorem f19.calls {R : Value → World → Prop} {X : List PanicEntry → World → Prop} {a0 : Value} {w : World} (h : f19.f R X a0 w) : Calls P 19 #[a0] w (retd R X) :=
  calls_of_awp mixed Tryd.func19 rfl Tryd.ntmps19 (by rw [Tryd.results19]) (Nat.le_of_ble_eq_true rfl) (f19.awp_eq R X a0 w ▸ h)
theorem f19.enters (args : Array Value) (w : World) : (callFunc 19 args).run P w = .ok (.enter 19 args) w := by kernel_rfl

/-! ### 4: stint/stintlaw19.ScriptWrites -/
def f4.l0 (X : List PanicEntry → World → Prop) (N : Value → Value → Value → World → Prop) (E0 : Value → Value → World → Prop) (t1 t4 t30 x7 x8 x9 : Value) (w : World) : Prop :=
Do P (binOp BinOp.lss 3 x9 t30) w (fun t40 w =>
If t40
(∃ S : World → Prop, S (drewW w) ∧ (fun w =>
Take P S (Instr.fieldAt 31 t4 1) fun t44 =>
Take P S (Instr.loadAt 29 t44) fun t45 =>
Take P S (Instr.indexAt 29 t45 x9) fun t47 =>
Take P S (Instr.fieldAt 44 t47 2) fun t48 =>
Take P S (Instr.loadAt 41 t48) fun t49 =>
Take P S (Instr.fieldAt 31 t1 1) fun t50 =>
Take P S (Instr.loadAt 29 t50) fun t51 =>
Take P S (Instr.indexAt 29 t51 x9) fun t53 =>
Take P S (Instr.fieldAt 44 t53 2) fun t54 =>
Take P S (Instr.loadAt 41 t54) fun t55 =>
Take P S (Builtin.len_ #[41] 3 #[t55]) fun t56 =>
Take P S (binOp BinOp.add 3 t56 (Value.int IntKind.i64 1)) fun t57 =>
Take P S (Instr.sliceAt 41 t49 none (some t57) none) fun t58 =>
Do P (Instr.buildSlice 39 1 #[(0, t58)]) w (fun t59 w =>
S w ∧ Do P (Builtin.append_ #[39, 39] 39 #[x7, t59]) w (fun t60 w =>
S w ∧ ∃ S : World → Prop, S (drewW w) ∧ (fun w =>
Take P S (Instr.fieldAt 31 t4 1) fun t62 =>
Take P S (Instr.loadAt 29 t62) fun t63 =>
Take P S (Instr.indexAt 29 t63 x9) fun t65 =>
Take P S (Instr.fieldAt 44 t65 4) fun t66 =>
Take P S (Instr.loadAt 42 t66) fun t67 =>
Take P S (Instr.fieldAt 31 t1 1) fun t68 =>
Take P S (Instr.loadAt 29 t68) fun t69 =>
Take P S (Instr.indexAt 29 t69 x9) fun t71 =>
Take P S (Instr.fieldAt 44 t71 4) fun t72 =>
Take P S (Instr.loadAt 42 t72) fun t73 =>
Take P S (Builtin.len_ #[42] 3 #[t73]) fun t74 =>
Take P S (binOp BinOp.add 3 t74 (Value.int IntKind.i64 1)) fun t75 =>
Take P S (Instr.sliceAt 42 t67 none (some t75) none) fun t76 =>
Do P (Instr.buildSlice 40 1 #[(0, t76)]) w (fun t77 w =>
S w ∧ Do P (Builtin.append_ #[40, 40] 40 #[x8, t77]) w (fun t78 w =>
S w ∧ Do P (binOp BinOp.add 3 x9 (Value.int IntKind.i64 1)) w (fun t42 w =>
N t60 t78 t42 w) X) X) X) (drewW w)) X) X) (drewW w))
(E0 x7 x8 w)) X
def f4.l1 (X : List PanicEntry → World → Prop) (N : Value → World → Prop) (E0 : World → Prop) (t1 t4 t17 t30 x18 : Value) (w : World) : Prop :=
Do P (binOp BinOp.lss 3 x18 t30) w (fun t129 w =>
If t129
(∃ S : World → Prop, S (drewW w) ∧ (fun w =>
Take P S (Instr.fieldAt 31 t17 1) fun t132 =>
Take P S (Instr.loadAt 29 t132) fun t133 =>
Take P S (Instr.fieldAt 31 t1 1) fun t135 =>
Take P S (Instr.loadAt 29 t135) fun t136 =>
Take P S (binOp BinOp.sub 3 t30 (Value.int IntKind.i64 1)) fun t138 =>
Take P S (binOp BinOp.sub 3 t138 x18) fun t140 =>
Take P S (Instr.indexAt 29 t136 t140) fun t141 =>
Take P S (Instr.loadAt 44 t141) fun t142 =>
Take P S (Instr.indexAt 29 t133 x18) fun t143 =>
DoU P (Instr.storeAt 44 t143 t142) w (fun _ w =>
∃ S : World → Prop, S (drewW w) ∧ (fun w =>
Take P S (Instr.fieldAt 31 t4 1) fun t144 =>
Take P S (Instr.loadAt 29 t144) fun t145 =>
Take P S (Instr.fieldAt 31 t1 1) fun t147 =>
Take P S (Instr.loadAt 29 t147) fun t148 =>
Take P S (binOp BinOp.sub 3 t30 (Value.int IntKind.i64 1)) fun t150 =>
Take P S (binOp BinOp.sub 3 t150 x18) fun t152 =>
Take P S (Instr.indexAt 29 t148 t152) fun t153 =>
Take P S (Instr.loadAt 44 t153) fun t154 =>
Take P S (Instr.indexAt 29 t145 x18) fun t155 =>
DoU P (Instr.storeAt 44 t155 t154) w (fun _ w =>
Do P (binOp BinOp.add 3 x18 (Value.int IntKind.i64 1)) w (fun t131 w =>
N t131 w) X) X) (drewW w)) X) (drewW w))
(E0 w)) X
def f4.f (R : Value → World → Prop) (X : List PanicEntry → World → Prop) (a0 : Value) (w : World) : Prop :=
Do P (Instr.box 31 a0) w (fun t1 w =>
Do P (Instr.loadAt 31 t1) w (fun t23 w =>
CallF P 14 [t23] w (fun t24 w =>
If t24
(R (Value.bool true) w)
(CallF P 8 [] w (fun t25 w =>
Do P (Instr.loadAt 31 t1) w (fun t26 w =>
CallF P 15 [t26] w (fun t27 w =>
Do P (Instr.alloc 31 true (Value.tuple #[])) w (fun t4 w =>
DoU P (Instr.storeAt 31 t4 t27) w (fun _ w =>
Do P (Instr.fieldAt 31 t1 1) w (fun t28 w =>
Do P (Instr.loadAt 29 t28) w (fun t29 w =>
Do P (Builtin.len_ #[29] 3 #[t29]) w (fun t30 w =>
Do P (Instr.fieldAt 31 t4 1) w (fun t31 w =>
Do P (Instr.loadAt 29 t31) w (fun t32 w =>
Do P (binOp BinOp.add 3 t30 (Value.int IntKind.i64 1)) w (fun t34 w =>
Do P (Instr.sliceAt 29 t32 none (some t34) none) w (fun t35 w =>
Do P (Instr.buildSlice 39 0 #[]) w (fun t36 w =>
Do P (Instr.buildSlice 40 0 #[]) w (fun t37 w =>
∃ I : Nat → Value → Value → Value → World → Prop, (∃ k, I k t36 t37 (Value.int IntKind.i64 0) w) ∧ ∀ (k : Nat) (σ : Env) (w : World), I k (σ 7) (σ 8) (σ 9) w →
f4.l0 X (fun (y7 : Value) (y8 : Value) (y9 : Value) w => ∃ k', k' < k ∧ I k' y7 y8 y9 w) (fun (z7 : Value) (z8 : Value) w =>
Do P (Instr.loadAt 31 t4) w (fun t80 w =>
CallF P 16 [t80] w (fun t81 w =>
Do P (Instr.extract t81 0) w (fun t82 w =>
Do P (Instr.extract t81 1) w (fun t83 w =>
Do P (Instr.loadAt 31 t4) w (fun t85 w =>
CallF P 16 [t85] w (fun t86 w =>
Do P (Instr.extract t86 0) w (fun t87 w =>
Do P (Instr.extract t86 1) w (fun t88 w =>
Do P (Instr.loadAt 31 t1) w (fun t92 w =>
CallF P 17 [z7, z8, t35, t92] w (fun t93 w =>
Do P (Instr.loadAt 31 t1) w (fun t95 w =>
CallF P 18 [t95] w (fun t96 w =>
Do P (Instr.extract t96 0) w (fun t97 w =>
Do P (Instr.extract t96 1) w (fun t98 w =>
Do P (Op.unary UnOp.not t25) w (fun t100 w =>
GuardK t100 false (fun K => K t93 w) w fun t102 w =>
GuardK t100 false (fun K => Do P (Op.unary UnOp.not t102) w K X) w fun t103 w =>
Do P (pickS t100 (Value.bool true) t103) w (fun t104 w =>
GuardK t104 false (fun K => K t82 w) w fun t106 w =>
GuardK t104 false (fun K => K t97 w) w fun t107 w =>
GuardK t104 false (fun K => Do P (binS BinOp.neq 9 (Operand.tmp 106) (Operand.tmp 107) t106 t107) w K X) w fun t108 w =>
Do P (pickS t104 (Value.bool true) t108) w (fun t109 w =>
GuardK t109 false (fun K => K t87 w) w fun t111 w =>
GuardK t109 false (fun K => K t97 w) w fun t112 w =>
GuardK t109 false (fun K => Do P (binS BinOp.neq 9 (Operand.tmp 111) (Operand.tmp 112) t111 t112) w K X) w fun t113 w =>
Do P (pickS t109 (Value.bool true) t113) w (fun t114 w =>
GuardK t114 false (fun K => K t83 w) w fun t116 w =>
GuardK t114 false (fun K => K t98 w) w fun t117 w =>
GuardK t114 false (fun K => Do P (binS BinOp.neq 32 (Operand.tmp 116) (Operand.tmp 117) t116 t117) w K X) w fun t118 w =>
Do P (pickS t114 (Value.bool true) t118) w (fun t119 w =>
GuardK t119 false (fun K => K t88 w) w fun t121 w =>
GuardK t119 false (fun K => K t98 w) w fun t122 w =>
GuardK t119 false (fun K => Do P (binS BinOp.neq 32 (Operand.tmp 121) (Operand.tmp 122) t121 t122) w K X) w fun t123 w =>
Do P (pickS t119 (Value.bool true) t123) w (fun t124 w =>
If t124
(R (Value.bool false) w)
(Do P (Instr.loadAt 31 t1) w (fun t125 w =>
CallF P 19 [t125] w (fun t126 w =>
Do P (Instr.alloc 31 true (Value.tuple #[])) w (fun t17 w =>
DoU P (Instr.storeAt 31 t17 t126) w (fun _ w =>
∃ I_1 : Nat → Value → World → Prop, (∃ k, I_1 k (Value.int IntKind.i64 0) w) ∧ ∀ (k_1 : Nat) (σ : Env) (w : World), I_1 k_1 (σ 18) w →
f4.l1 X (fun (y18 : Value) w => ∃ k', k' < k_1 ∧ I_1 k' y18 w) (fun w =>
Do P (Instr.loadAt 31 t4) w (fun t157 w =>
CallF P 16 [t157] w (fun t158 w =>
Do P (Instr.extract t158 0) w (fun t159 w =>
Do P (Instr.extract t158 1) w (fun t160 w =>
Do P (Instr.loadAt 31 t17) w (fun t162 w =>
CallF P 18 [t162] w (fun t163 w =>
Do P (Instr.extract t163 0) w (fun t164 w =>
Do P (Instr.extract t163 1) w (fun t165 w =>
Do P (binS BinOp.eql 9 (Operand.tmp 166) (Operand.tmp 167) t159 t164) w (fun t168 w =>
GuardK t168 true (fun K => K t160 w) w fun t170 w =>
GuardK t168 true (fun K => K t165 w) w fun t171 w =>
GuardK t168 true (fun K => Do P (binS BinOp.eql 32 (Operand.tmp 170) (Operand.tmp 171) t170 t171) w K X) w fun t172 w =>
Do P (pickS t168 t172 (Value.bool false)) w (fun t173 w =>
R t173 w) X) X) X) X) X) X) X) X) X) X) t1 t4 t17 t30 (σ 18) w) X) X) X) X)) X) X) X) X) X) X) X) X) X) X) X) X) X) X) X) X) X) X) X) X) t1 t4 t30 (σ 7) (σ 8) (σ 9) w) X) X) X) X) X) X) X) X) X) X) X) X) X) X)) X) X) X
def f4.ann : Ann := [(4090, [7, 8, 9], .done), (130888, [], (.take 0 (.take 1 (.take 2 (.take 3 (.take 4 (.take 5 (.take 6 (.take 7 (.take 8 (.take 9 (.take 10 (.take 11 (.take 12 (.take 13 (.take 14 (.take 15 (.come 16 (.come 17 (.take 18 .done) .done) .done)))))))))))))))))), (130889, [], (.take 0 (.take 1 (.take 2 (.take 3 (.take 4 (.take 5 (.take 6 (.take 7 (.take 8 (.take 9 (.take 10 (.take 11 (.take 12 (.take 13 (.take 14 (.take 15 (.come 16 (.come 17 (.take 18 .done) .done) .done)))))))))))))))))), (524282, [18], .done), (16777032, [], (.take 0 (.take 1 (.take 2 (.take 3 (.take 4 (.take 5 (.take 6 (.take 7 (.take 8 (.take 9 (.take 10 (.take 11 (.come 12 .done .done)))))))))))))), (16777033, [], (.take 0 (.take 1 (.take 2 (.take 3 (.take 4 (.take 5 (.take 6 (.take 7 (.take 8 (.take 9 (.take 10 (.take 11 (.come 12 .done .done))))))))))))))]
theorem f4.awp_eq (R : Value → World → Prop) (X : List PanicEntry → World → Prop) (a0 : Value) (w : World) : awp P 174 f4.ann X 1 (bodyOf Tryd.f4) (retE P [(ResultVar.tmp 2)] R) (argE [a0]) w = f4.f R X a0 w := by kernel_rfl
theorem f4.calls {R : Value → World → Prop} {X : List PanicEntry → World → Prop} {a0 : Value} {w : World} (h : f4.f R X a0 w) : Calls P 4 #[a0] w (retd R X) :=
  calls_of_awp mixed Tryd.func4 rfl Tryd.ntmps4 (by rw [Tryd.results4]) (Nat.le_of_ble_eq_true rfl) (f4.awp_eq R X a0 w ▸ h)
theorem f4.enters (args : Array Value) (w : World) : (callFunc 4 args).run P w = .ok (.enter 4 args) w := by kernel_rfl
end Go.Proofs.YtdnnamaimgijpaaDoor
