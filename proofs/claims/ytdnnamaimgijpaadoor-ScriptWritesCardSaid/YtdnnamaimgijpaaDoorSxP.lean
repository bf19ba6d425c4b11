/- Printed forms (by sxprint.py, own work) of functions of this seat's program, each with the theorem that ties it to the code. Conditions: none. -/
import Derived.Test.YtdnnamaimgijpaaDoorSxTy
set_option linter.unusedVariables false
set_option maxRecDepth 100000
namespace Go.Proofs.YtdnnamaimgijpaaDoor
open Go Go.Sx Go.Proofs

/-! ### 69: stint/script.word -/
def f69.f (R : Value → World → Prop) (X : List PanicEntry → World → Prop) (a0 : Value) (w : World) : Prop :=
Do P (binS BinOp.eql 3 (Operand.tmp 3) (Operand.const (Value.int IntKind.i64 1)) a0 (Value.int IntKind.i64 1)) w (fun t5 w =>
If t5
(R (Value.string (ByteArray.mk #[111, 112, 101, 110])) w)
(Do P (binS BinOp.eql 3 (Operand.tmp 3) (Operand.const (Value.int IntKind.i64 2)) a0 (Value.int IntKind.i64 2)) w (fun t7 w =>
If t7
(R (Value.string (ByteArray.mk #[102, 101, 101, 100])) w)
(Do P (binS BinOp.eql 3 (Operand.tmp 3) (Operand.const (Value.int IntKind.i64 3)) a0 (Value.int IntKind.i64 3)) w (fun t9 w =>
If t9
(R (Value.string (ByteArray.mk #[104, 97, 110, 103])) w)
(Do P (binS BinOp.eql 3 (Operand.tmp 3) (Operand.const (Value.int IntKind.i64 4)) a0 (Value.int IntKind.i64 4)) w (fun t11 w =>
If t11
(R (Value.string (ByteArray.mk #[116, 105, 99, 107])) w)
(Do P (binS BinOp.eql 3 (Operand.tmp 3) (Operand.const (Value.int IntKind.i64 5)) a0 (Value.int IntKind.i64 5)) w (fun t13 w =>
If t13
(R (Value.string (ByteArray.mk #[100, 114, 97, 105, 110])) w)
(Do P (binS BinOp.eql 3 (Operand.tmp 3) (Operand.const (Value.int IntKind.i64 6)) a0 (Value.int IntKind.i64 6)) w (fun t15 w =>
If t15
(R (Value.string (ByteArray.mk #[99, 114, 97, 115, 104])) w)
(Do P (binS BinOp.eql 3 (Operand.tmp 3) (Operand.const (Value.int IntKind.i64 7)) a0 (Value.int IntKind.i64 7)) w (fun t17 w =>
If t17
(R (Value.string (ByteArray.mk #[115, 116, 97, 114, 116])) w)
(R (Value.string (ByteArray.mk #[])) w)) X)) X)) X)) X)) X)) X)) X
def f69.ann : Ann := []
theorem f69.awp_eq (R : Value → World → Prop) (X : List PanicEntry → World → Prop) (a0 : Value) (w : World) : awp P 18 f69.ann X 1 (bodyOf Tryd.f69) (retE P [(ResultVar.tmp 2)] R) (argE [a0]) w = f69.f R X a0 w := by kernel_rfl
theorem f69.calls {R : Value → World → Prop} {X : List PanicEntry → World → Prop} {a0 : Value} {w : World} (h : f69.f R X a0 w) : Calls P 69 #[a0] w (retd R X) :=
  calls_of_awp mixed Tryd.func69 rfl Tryd.ntmps69 (by rw [Tryd.results69]) (Nat.le_of_ble_eq_true rfl) (f69.awp_eq R X a0 w ▸ h)
theorem f69.enters (args : Array Value) (w : World) : (callFunc 69 args).run P w = .ok (.enter 69 args) w := by kernel_rfl

/-! ### 53: stint/script.kindOf -/
def f53.l0 (R : Value → World → Prop) (X : List PanicEntry → World → Prop) (N : Value → World → Prop) (E0 : World → Prop) (a0 x3 : Value) (w : World) : Prop :=
Do P (binOp BinOp.leq 3 x3 (Value.int IntKind.i64 7)) w (fun t5 w =>
If t5
(CallF P 69 [x3] w (fun t9 w =>
Do P (binS BinOp.eql 9 (Operand.tmp 9) (Operand.tmp 10) t9 a0) w (fun t11 w =>
If t11
(R x3 w)
(Do P (binOp BinOp.add 3 x3 (Value.int IntKind.i64 1)) w (fun t7 w =>
N t7 w) X)) X) X)
(E0 w)) X
def f53.f (R : Value → World → Prop) (X : List PanicEntry → World → Prop) (a0 : Value) (w : World) : Prop :=
∃ I : Nat → Value → World → Prop, (∃ k, I k (Value.int IntKind.i64 1) w) ∧ ∀ (k : Nat) (σ : Env) (w : World), I k (σ 3) w →
f53.l0 R X (fun (y3 : Value) w => ∃ k', k' < k ∧ I k' y3 w) (fun w =>
R (Value.int IntKind.i64 0) w) a0 (σ 3) w
def f53.ann : Ann := [(26, [3], .done)]
theorem f53.awp_eq (R : Value → World → Prop) (X : List PanicEntry → World → Prop) (a0 : Value) (w : World) : awp P 13 f53.ann X 1 (bodyOf Tryd.f53) (retE P [(ResultVar.tmp 2)] R) (argE [a0]) w = f53.f R X a0 w := by kernel_rfl
theorem f53.calls {R : Value → World → Prop} {X : List PanicEntry → World → Prop} {a0 : Value} {w : World} (h : f53.f R X a0 w) : Calls P 53 #[a0] w (retd R X) :=
  calls_of_awp mixed Tryd.func53 rfl Tryd.ntmps53 (by rw [Tryd.results53]) (Nat.le_of_ble_eq_true rfl) (f53.awp_eq R X a0 w ▸ h)
theorem f53.enters (args : Array Value) (w : World) : (callFunc 53 args).run P w = .ok (.enter 53 args) w := by kernel_rfl

/-! ### 55: stint/script.hasConn -/
def f55.f (R : Value → World → Prop) (X : List PanicEntry → World → Prop) (a0 : Value) (w : World) : Prop :=
Do P (binS BinOp.eql 3 (Operand.tmp 3) (Operand.const (Value.int IntKind.i64 1)) a0 (Value.int IntKind.i64 1)) w (fun t4 w =>
GuardK t4 false (fun K => K a0 w) w fun t6 w =>
GuardK t4 false (fun K => Do P (binS BinOp.eql 3 (Operand.tmp 6) (Operand.const (Value.int IntKind.i64 2)) t6 (Value.int IntKind.i64 2)) w K X) w fun t7 w =>
Do P (pickS t4 (Value.bool true) t7) w (fun t8 w =>
GuardK t8 false (fun K => K a0 w) w fun t10 w =>
GuardK t8 false (fun K => Do P (binS BinOp.eql 3 (Operand.tmp 10) (Operand.const (Value.int IntKind.i64 3)) t10 (Value.int IntKind.i64 3)) w K X) w fun t11 w =>
Do P (pickS t8 (Value.bool true) t11) w (fun t12 w =>
R t12 w) X) X) X
def f55.ann : Ann := []
theorem f55.awp_eq (R : Value → World → Prop) (X : List PanicEntry → World → Prop) (a0 : Value) (w : World) : awp P 13 f55.ann X 1 (bodyOf Tryd.f55) (retE P [(ResultVar.tmp 2)] R) (argE [a0]) w = f55.f R X a0 w := by kernel_rfl
theorem f55.calls {R : Value → World → Prop} {X : List PanicEntry → World → Prop} {a0 : Value} {w : World} (h : f55.f R X a0 w) : Calls P 55 #[a0] w (retd R X) :=
  calls_of_awp mixed Tryd.func55 rfl Tryd.ntmps55 (by rw [Tryd.results55]) (Nat.le_of_ble_eq_true rfl) (f55.awp_eq R X a0 w ▸ h)
theorem f55.enters (args : Array Value) (w : World) : (callFunc 55 args).run P w = .ok (.enter 55 args) w := by kernel_rfl

/-! ### 58: stint/script.hasBreak -/
def f58.f (R : Value → World → Prop) (X : List PanicEntry → World → Prop) (a0 : Value) (w : World) : Prop :=
Do P (binS BinOp.eql 3 (Operand.tmp 3) (Operand.const (Value.int IntKind.i64 2)) a0 (Value.int IntKind.i64 2)) w (fun t4 w =>
GuardK t4 false (fun K => K a0 w) w fun t6 w =>
GuardK t4 false (fun K => Do P (binS BinOp.eql 3 (Operand.tmp 6) (Operand.const (Value.int IntKind.i64 3)) t6 (Value.int IntKind.i64 3)) w K X) w fun t7 w =>
Do P (pickS t4 (Value.bool true) t7) w (fun t8 w =>
GuardK t8 false (fun K => K a0 w) w fun t10 w =>
GuardK t8 false (fun K => Do P (binS BinOp.eql 3 (Operand.tmp 10) (Operand.const (Value.int IntKind.i64 4)) t10 (Value.int IntKind.i64 4)) w K X) w fun t11 w =>
Do P (pickS t8 (Value.bool true) t11) w (fun t12 w =>
GuardK t12 false (fun K => K a0 w) w fun t14 w =>
GuardK t12 false (fun K => Do P (binS BinOp.eql 3 (Operand.tmp 14) (Operand.const (Value.int IntKind.i64 7)) t14 (Value.int IntKind.i64 7)) w K X) w fun t15 w =>
Do P (pickS t12 (Value.bool true) t15) w (fun t16 w =>
R t16 w) X) X) X) X
def f58.ann : Ann := []
theorem f58.awp_eq (R : Value → World → Prop) (X : List PanicEntry → World → Prop) (a0 : Value) (w : World) : awp P 17 f58.ann X 1 (bodyOf Tryd.f58) (retE P [(ResultVar.tmp 2)] R) (argE [a0]) w = f58.f R X a0 w := by kernel_rfl
theorem f58.calls {R : Value → World → Prop} {X : List PanicEntry → World → Prop} {a0 : Value} {w : World} (h : f58.f R X a0 w) : Calls P 58 #[a0] w (retd R X) :=
  calls_of_awp mixed Tryd.func58 rfl Tryd.ntmps58 (by rw [Tryd.results58]) (Nat.le_of_ble_eq_true rfl) (f58.awp_eq R X a0 w ▸ h)
theorem f58.enters (args : Array Value) (w : World) : (callFunc 58 args).run P w = .ok (.enter 58 args) w := by kernel_rfl

/-! ### 70: stint/script.hasKeep -/
def f70.f (R : Value → World → Prop) (X : List PanicEntry → World → Prop) (a0 : Value) (w : World) : Prop :=
Do P (binS BinOp.eql 3 (Operand.tmp 3) (Operand.const (Value.int IntKind.i64 6)) a0 (Value.int IntKind.i64 6)) w (fun t4 w =>
GuardK t4 false (fun K => K a0 w) w fun t6 w =>
GuardK t4 false (fun K => CallF P 58 [t6] w K X) w fun t7 w =>
Do P (pickS t4 (Value.bool true) t7) w (fun t8 w =>
R t8 w) X) X
def f70.ann : Ann := []
theorem f70.awp_eq (R : Value → World → Prop) (X : List PanicEntry → World → Prop) (a0 : Value) (w : World) : awp P 9 f70.ann X 1 (bodyOf Tryd.f70) (retE P [(ResultVar.tmp 2)] R) (argE [a0]) w = f70.f R X a0 w := by kernel_rfl
theorem f70.calls {R : Value → World → Prop} {X : List PanicEntry → World → Prop} {a0 : Value} {w : World} (h : f70.f R X a0 w) : Calls P 70 #[a0] w (retd R X) :=
  calls_of_awp mixed Tryd.func70 rfl Tryd.ntmps70 (by rw [Tryd.results70]) (Nat.le_of_ble_eq_true rfl) (f70.awp_eq R X a0 w ▸ h)
theorem f70.enters (args : Array Value) (w : World) : (callFunc 70 args).run P w = .ok (.enter 70 args) w := by kernel_rfl

/-! ### 43: stint/script.fail -/
def f43.f (R : Value → World → Prop) (X : List PanicEntry → World → Prop) (a0 : Value) (w : World) : Prop :=
Do P (Instr.build 87 #[(0, a0)]) w (fun t3 w =>
Do P (Instr.makeInterface 87 t3) w (fun t4 w =>
Do P (Instr.panic t4) w (fun _ w =>
R (Value.tuple #[]) w) X) X) X
def f43.ann : Ann := []
theorem f43.awp_eq (R : Value → World → Prop) (X : List PanicEntry → World → Prop) (a0 : Value) (w : World) : awp P 5 f43.ann X 1 (bodyOf Tryd.f43) (retE P [] R) (argE [a0]) w = f43.f R X a0 w := by kernel_rfl
theorem f43.calls {R : Value → World → Prop} {X : List PanicEntry → World → Prop} {a0 : Value} {w : World} (h : f43.f R X a0 w) : Calls P 43 #[a0] w (retd R X) :=
  calls_of_awp mixed Tryd.func43 rfl Tryd.ntmps43 (by rw [Tryd.results43]) (Nat.le_of_ble_eq_true rfl) (f43.awp_eq R X a0 w ▸ h)
theorem f43.enters (args : Array Value) (w : World) : (callFunc 43 args).run P w = .ok (.enter 43 args) w := by kernel_rfl

/-! ### 23: stint/script.Parse$1 -/
def f23.f (R : Value → World → Prop) (X : List PanicEntry → World → Prop) (a0 a1 a2 : Value) (w : World) : Prop :=
Do P (Instr.loadAt 4 a0) w (fun t3 w =>
If t3
(∃ S : World → Prop, S (drewW w) ∧ (fun w =>
Take P S (Instr.fieldAt 31 a1 1) fun t4 =>
Take P S (Instr.loadAt 29 t4) fun t5 =>
Take P S (Instr.loadAt 9 a2) fun t6 =>
Take P S (Instr.fieldAt 31 a1 1) fun t7 =>
Take P S (Instr.loadAt 29 t7) fun t8 =>
Take P S (Builtin.len_ #[29] 3 #[t8]) fun t9 =>
CallF P 24 [t6, t9] w (fun t10 w =>
S w ∧ Do P (Instr.buildSlice 29 1 #[(0, t10)]) w (fun t11 w =>
S w ∧ Do P (Builtin.append_ #[29, 29] 29 #[t5, t11]) w (fun t12 w =>
S w ∧ Take P S (Instr.fieldAt 31 a1 1) fun t13 =>
DoU P (Instr.storeAt 29 t13 t12) w (fun _ w =>
R (Value.tuple #[]) w) X) X) X) X) (drewW w))
(Do P (Instr.loadAt 9 a2) w (fun t14 w =>
CallF P 25 [t14] w (fun t15 w =>
Do P (Instr.fieldAt 31 a1 0) w (fun t16 w =>
DoU P (Instr.storeAt 28 t16 t15) w (fun _ w =>
R (Value.tuple #[]) w) X) X) X) X)) X
def f23.ann : Ann := [(6, [], (.take 0 (.take 1 (.take 2 (.take 3 (.take 4 (.take 5 (.come 6 (.come 7 (.come 8 (.take 9 (.come 10 .done .done)) .done) .done) .done))))))))]
theorem f23.awp_eq (R : Value → World → Prop) (X : List PanicEntry → World → Prop) (a0 a1 a2 : Value) (w : World) : awp P 17 f23.ann X 1 (bodyOf Tryd.f23) (retE P [] R) (argE [a0, a1, a2]) w = f23.f R X a0 a1 a2 w := by kernel_rfl
theorem f23.calls {R : Value → World → Prop} {X : List PanicEntry → World → Prop} {a0 a1 a2 : Value} {w : World} (h : f23.f R X a0 a1 a2 w) : Calls P 23 #[a0, a1, a2] w (retd R X) :=
  calls_of_awp mixed Tryd.func23 rfl Tryd.ntmps23 (by rw [Tryd.results23]) (Nat.le_of_ble_eq_true rfl) (f23.awp_eq R X a0 a1 a2 w ▸ h)
theorem f23.enters (args : Array Value) (w : World) : (callFunc 23 args).run P w = .ok (.enter 23 args) w := by kernel_rfl

/-! ### 9: stint/script.Parse -/
def f9.l0 (R : Value → World → Prop) (X : List PanicEntry → World → Prop) (N : Value → World → Prop) (E0 : World → Prop) (t2 t5 t6 t16 t17 x18 : Value) (w : World) : Prop :=
Do P (binOp BinOp.lss 3 x18 t17) w (fun t19 w =>
If t19
(Do P (Instr.indexAt 50 t16 x18) w (fun t21 w =>
Do P (Instr.loadAt 9 t21) w (fun t22 w =>
Do P (Instr.alloc 9 true (Value.tuple #[])) w (fun t8 w =>
DoU P (Instr.storeAt 9 t8 t22) w (fun _ w =>
Do P (Instr.loadAt 9 t8) w (fun t23 w =>
Do P (binS BinOp.eql 9 (Operand.tmp 23) (Operand.const (Value.string (ByteArray.mk #[]))) t23 (Value.string (ByteArray.mk #[]))) w (fun t24 w =>
GuardK t24 false (fun K => Do P (Instr.loadAt 9 t8) w K X) w fun t26 w =>
GuardK t24 false (fun K => Do P (Instr.index 9 t26 (Value.int IntKind.i64 0)) w K X) w fun t27 w =>
GuardK t24 false (fun K => Do P (binS BinOp.eql 5 (Operand.tmp 27) (Operand.const (Value.int IntKind.u8 35)) t27 (Value.int IntKind.u8 35)) w K X) w fun t28 w =>
Do P (pickS t24 (Value.bool true) t28) w (fun t29 w =>
If t29
(Do P (binOp BinOp.add 3 x18 (Value.int IntKind.i64 1)) w (fun t38 w =>
N t38 w) X)
(CallF P 22 [(Value.func (Fn.func 23) #[] #[t6, t5, t8])] w (fun t31 w =>
Do P (binS BinOp.neq 32 (Operand.tmp 32) (Operand.const (Value.int IntKind.i64 0)) t31 (Value.int IntKind.i64 0)) w (fun t33 w =>
If t33
(Do P (Instr.build 31 #[]) w (fun t34 w =>
Do P (binOp BinOp.add 3 x18 (Value.int IntKind.i64 1)) w (fun t36 w =>
DoU P (Instr.storeAt 31 t2 t34) w (fun _ w =>
ResC P 31 t2 w fun r_1 =>
R (Value.tuple #[r_1, t36, t31]) w) X) X) X)
(DoU P (Instr.storeAt 4 t6 (Value.bool true)) w (fun _ w =>
Do P (binOp BinOp.add 3 x18 (Value.int IntKind.i64 1)) w (fun t38_1 w =>
N t38_1 w) X) X)) X) X)) X) X) X) X) X) X) X)
(E0 w)) X
def f9.f (R : Value → World → Prop) (X : List PanicEntry → World → Prop) (a0 : Value) (w : World) : Prop :=
Do P (Instr.alloc 31 true (Value.tuple #[])) w (fun t2 w =>
Do P (Builtin.len_ #[9] 3 #[a0]) w (fun t11 w =>
Do P (binOp BinOp.gtr 3 t11 (Value.int IntKind.i64 1048576)) w (fun t12 w =>
If t12
(Do P (Instr.build 31 #[]) w (fun t13 w =>
DoU P (Instr.storeAt 31 t2 t13) w (fun _ w =>
ResC P 31 t2 w fun r =>
R (Value.tuple #[r, (Value.int IntKind.i64 0), (Value.int IntKind.i64 193)]) w) X) X)
(Do P (Instr.alloc 31 true (Value.tuple #[])) w (fun t5 w =>
Do P (Instr.alloc 4 true (Value.tuple #[])) w (fun t6 w =>
DoU P (Instr.storeAt 4 t6 (Value.bool false)) w (fun _ w =>
CallF P 21 [a0, (Value.string (ByteArray.mk #[10]))] w (fun t15 w =>
CallF P 20 [t15, (Value.string (ByteArray.mk #[10]))] w (fun t16 w =>
Do P (Builtin.len_ #[50] 3 #[t16]) w (fun t17 w =>
∃ I : Nat → Value → World → Prop, (∃ k, I k (Value.int IntKind.i64 0) w) ∧ ∀ (k : Nat) (σ : Env) (w : World), I k (σ 18) w →
f9.l0 R X (fun (y18 : Value) w => ∃ k', k' < k ∧ I k' y18 w) (fun w =>
Do P (Instr.loadAt 4 t6) w (fun t39 w =>
Do P (Op.unary UnOp.not t39) w (fun t40 w =>
If t40
(Do P (Instr.build 31 #[]) w (fun t41 w =>
DoU P (Instr.storeAt 31 t2 t41) w (fun _ w =>
ResC P 31 t2 w fun r_2 =>
R (Value.tuple #[r_2, (Value.int IntKind.i64 0), (Value.int IntKind.i64 191)]) w) X) X)
(Do P (Instr.loadAt 31 t5) w (fun t42 w =>
DoU P (Instr.storeAt 31 t2 t42) w (fun _ w =>
ResC P 31 t2 w fun r_3 =>
R (Value.tuple #[r_3, (Value.int IntKind.i64 0), (Value.int IntKind.i64 0)]) w) X) X)) X) X) t2 t5 t6 t16 t17 (σ 18) w) X) X) X) X) X) X)) X) X) X
def f9.ann : Ann := [(250, [18], .done)]
theorem f9.awp_eq (R : Value → World → Prop) (X : List PanicEntry → World → Prop) (a0 : Value) (w : World) : awp P 43 f9.ann X 1 (bodyOf Tryd.f9) (retE P [(ResultVar.cell 2 31), (ResultVar.tmp 3), (ResultVar.tmp 4)] R) (argE [a0]) w = f9.f R X a0 w := by kernel_rfl
theorem f9.calls {R : Value → World → Prop} {X : List PanicEntry → World → Prop} {a0 : Value} {w : World} (h : f9.f R X a0 w) : Calls P 9 #[a0] w (retd R X) :=
  calls_of_awp mixed Tryd.func9 rfl Tryd.ntmps9 (by rw [Tryd.results9]) (Nat.le_of_ble_eq_true rfl) (f9.awp_eq R X a0 w ▸ h)
theorem f9.enters (args : Array Value) (w : World) : (callFunc 9 args).run P w = .ok (.enter 9 args) w := by kernel_rfl

/-! ### 52: stint/script.split -/
def f52.f (R : Value → World → Prop) (X : List PanicEntry → World → Prop) (a0 : Value) (w : World) : Prop :=
CallF P 80 [a0] w (fun t7 w =>
Do P (Instr.extract t7 0) w (fun t8 w =>
Do P (Instr.extract t7 1) w (fun t9 w =>
Do P (Op.unary UnOp.not t9) w (fun t11 w =>
If t11
(CallF P 43 [(Value.int IntKind.i64 191)] w (fun t12 w =>
R t8 w) X)
(R t8 w)) X) X) X) X
def f52.ann : Ann := []
theorem f52.awp_eq (R : Value → World → Prop) (X : List PanicEntry → World → Prop) (a0 : Value) (w : World) : awp P 14 f52.ann X 1 (bodyOf Tryd.f52) (retE P [(ResultVar.tmp 2)] R) (argE [a0]) w = f52.f R X a0 w := by kernel_rfl
theorem f52.calls {R : Value → World → Prop} {X : List PanicEntry → World → Prop} {a0 : Value} {w : World} (h : f52.f R X a0 w) : Calls P 52 #[a0] w (retd R X) :=
  calls_of_awp mixed Tryd.func52 rfl Tryd.ntmps52 (by rw [Tryd.results52]) (Nat.le_of_ble_eq_true rfl) (f52.awp_eq R X a0 w ▸ h)
theorem f52.enters (args : Array Value) (w : World) : (callFunc 52 args).run P w = .ok (.enter 52 args) w := by kernel_rfl

/-! ### 25: stint/script.config -/
def f25.j2 (R : Value → World → Prop) (X : List PanicEntry → World → Prop) (t2 x4 : Value) (w : World) : Prop :=
Do P (Instr.loadAt 28 x4) w (fun t29 w =>
CallF P 36 [t29] w (fun t30 w =>
Do P (binS BinOp.neq 32 (Operand.tmp 30) (Operand.const (Value.int IntKind.i64 0)) t30 (Value.int IntKind.i64 0)) w (fun t31 w =>
If t31
(CallF P 43 [(Value.int IntKind.i64 190)] w (fun t32 w =>
Do P (Instr.loadAt 28 x4) w (fun t33 w =>
DoU P (Instr.storeAt 28 t2 t33) w (fun _ w =>
ResC P 28 t2 w fun r =>
R r w) X) X) X)
(Do P (Instr.loadAt 28 x4) w (fun t33_1 w =>
DoU P (Instr.storeAt 28 t2 t33_1) w (fun _ w =>
ResC P 28 t2 w fun r_1 =>
R r_1 w) X) X)) X) X) X
def f25.j1 (R : Value → World → Prop) (X : List PanicEntry → World → Prop) (t2 t6 : Value) (w : World) : Prop :=
∃ J_2 : Value → World → Prop, (∀ (σ : Env) (w : World), J_2 (σ 4) w →
f25.j2 R X t2 (σ 4) w) ∧
∃ S : World → Prop, S (drewW w) ∧ (fun w =>
Take P S (Instr.indexAt 50 t6 (Value.int IntKind.i64 1)) fun t17 =>
Take P S (Instr.loadAt 9 t17) fun t18 =>
Take P S (Instr.indexAt 50 t6 (Value.int IntKind.i64 2)) fun t21 =>
Take P S (Instr.loadAt 9 t21) fun t22 =>
Take P S (Instr.indexAt 50 t6 (Value.int IntKind.i64 3)) fun t25 =>
Take P S (Instr.loadAt 9 t25) fun t26 =>
(CallF P 56 [t18] w (fun t19 w =>
S w ∧ (CallF P 56 [t22] w (fun t23 w =>
S w ∧ (CallF P 56 [t26] w (fun t27 w =>
S w ∧ Take P S (Instr.build 28 #[(0, t19), (1, t23), (2, t27)]) fun t28 =>
Do P (Instr.alloc 28 true (Value.tuple #[])) w (fun t4 w =>
S w ∧ DoU P (Instr.storeAt 28 t4 t28) w (fun _ w =>
J_2 t4 w) X) X) X) ∧
(Do P (Instr.alloc 28 true (Value.tuple #[])) w (fun t4_1 w =>
S w ∧ CallF P 56 [t26] w (fun t27_1 w =>
S w ∧ Take P S (Instr.build 28 #[(0, t19), (1, t23), (2, t27_1)]) fun t28_1 =>
DoU P (Instr.storeAt 28 t4_1 t28_1) w (fun _ w =>
J_2 t4_1 w) X) X) X)) X) ∧
(Do P (Instr.alloc 28 true (Value.tuple #[])) w (fun t4_2 w =>
S w ∧ CallF P 56 [t22] w (fun t23_1 w =>
S w ∧ CallF P 56 [t26] w (fun t27_2 w =>
S w ∧ Take P S (Instr.build 28 #[(0, t19), (1, t23_1), (2, t27_2)]) fun t28_2 =>
DoU P (Instr.storeAt 28 t4_2 t28_2) w (fun _ w =>
J_2 t4_2 w) X) X) X) X)) X) ∧
(Do P (Instr.alloc 28 true (Value.tuple #[])) w (fun t4_3 w =>
S w ∧ CallF P 56 [t18] w (fun t19_1 w =>
S w ∧ CallF P 56 [t22] w (fun t23_2 w =>
S w ∧ CallF P 56 [t26] w (fun t27_3 w =>
S w ∧ Take P S (Instr.build 28 #[(0, t19_1), (1, t23_2), (2, t27_3)]) fun t28_3 =>
DoU P (Instr.storeAt 28 t4_3 t28_3) w (fun _ w =>
J_2 t4_3 w) X) X) X) X) X)) (drewW w)
def f25.j0 (R : Value → World → Prop) (X : List PanicEntry → World → Prop) (t2 t6 : Value) (w : World) : Prop :=
∃ J_1 : World → Prop, (∀ (σ : Env) (w : World), J_1 w →
f25.j1 R X t2 t6 w) ∧
Do P (Builtin.len_ #[50] 3 #[t6]) w (fun t13 w =>
Do P (binS BinOp.neq 3 (Operand.tmp 13) (Operand.const (Value.int IntKind.i64 4)) t13 (Value.int IntKind.i64 4)) w (fun t14 w =>
If t14
(CallF P 43 [(Value.int IntKind.i64 192)] w (fun t15 w =>
J_1 w) X)
(J_1 w)) X) X
def f25.f (R : Value → World → Prop) (X : List PanicEntry → World → Prop) (a0 : Value) (w : World) : Prop :=
Do P (Instr.alloc 28 true (Value.tuple #[])) w (fun t2 w =>
CallF P 52 [a0] w (fun t6 w =>
∃ J : World → Prop, (∀ (σ : Env) (w : World), J w →
f25.j0 R X t2 t6 w) ∧
Do P (Instr.indexAt 50 t6 (Value.int IntKind.i64 0)) w (fun t8 w =>
Do P (Instr.loadAt 9 t8) w (fun t9 w =>
Do P (binS BinOp.neq 9 (Operand.tmp 9) (Operand.const (Value.string (ByteArray.mk #[115, 116, 105, 110, 116]))) t9 (Value.string (ByteArray.mk #[115, 116, 105, 110, 116]))) w (fun t10 w =>
If t10
(CallF P 43 [(Value.int IntKind.i64 191)] w (fun t11 w =>
J w) X)
(J w)) X) X) X) X) X
def f25.ann : Ann := [(7, [], .done), (15, [], .done), (31, [4], .done), (62, [], (.take 0 (.take 1 (.take 2 (.take 4 (.take 5 (.take 6 (.take 8 (.take 9 (.take 10 (.come 3 (.come 7 (.come 11 (.take 12 (.come 13 (.come 14 .done .done) .done)) (.come 13 (.come 11 (.take 12 (.come 14 .done .done)) .done) .done)) (.come 13 (.come 7 (.come 11 (.take 12 (.come 14 .done .done)) .done) .done) .done)) (.come 13 (.come 3 (.come 7 (.come 11 (.take 12 (.come 14 .done .done)) .done) .done) .done) .done))))))))))))]
theorem f25.awp_eq (R : Value → World → Prop) (X : List PanicEntry → World → Prop) (a0 : Value) (w : World) : awp P 34 f25.ann X 1 (bodyOf Tryd.f25) (retE P [(ResultVar.cell 2 28)] R) (argE [a0]) w = f25.f R X a0 w := by kernel_rfl
theorem f25.calls {R : Value → World → Prop} {X : List PanicEntry → World → Prop} {a0 : Value} {w : World} (h : f25.f R X a0 w) : Calls P 25 #[a0] w (retd R X) :=
  calls_of_awp mixed Tryd.func25 rfl Tryd.ntmps25 (by rw [Tryd.results25]) (Nat.le_of_ble_eq_true rfl) (f25.awp_eq R X a0 w ▸ h)
theorem f25.enters (args : Array Value) (w : World) : (callFunc 25 args).run P w = .ok (.enter 25 args) w := by kernel_rfl

/-! ### 56: stint/script.number -/
def f56.f (R : Value → World → Prop) (X : List PanicEntry → World → Prop) (a0 : Value) (w : World) : Prop :=
CallF P 81 [a0, (Value.int IntKind.i64 4611686018427387903)] w (fun t7 w =>
Do P (Instr.extract t7 0) w (fun t8 w =>
Do P (Instr.extract t7 1) w (fun t9 w =>
Do P (Op.unary UnOp.not t9) w (fun t11 w =>
If t11
(CallF P 43 [(Value.int IntKind.i64 192)] w (fun t12 w =>
R t8 w) X)
(R t8 w)) X) X) X) X
def f56.ann : Ann := []
theorem f56.awp_eq (R : Value → World → Prop) (X : List PanicEntry → World → Prop) (a0 : Value) (w : World) : awp P 14 f56.ann X 1 (bodyOf Tryd.f56) (retE P [(ResultVar.tmp 2)] R) (argE [a0]) w = f56.f R X a0 w := by kernel_rfl
theorem f56.calls {R : Value → World → Prop} {X : List PanicEntry → World → Prop} {a0 : Value} {w : World} (h : f56.f R X a0 w) : Calls P 56 #[a0] w (retd R X) :=
  calls_of_awp mixed Tryd.func56 rfl Tryd.ntmps56 (by rw [Tryd.results56]) (Nat.le_of_ble_eq_true rfl) (f56.awp_eq R X a0 w ▸ h)
theorem f56.enters (args : Array Value) (w : World) : (callFunc 56 args).run P w = .ok (.enter 56 args) w := by kernel_rfl

/-! ### 24: stint/script.step -/
def f24.j5 (R : Value → World → Prop) (X : List PanicEntry → World → Prop) (t4 t5 t6 : Value) (w : World) : Prop :=
Do P (Instr.loadAt 50 t5) w (fun t92 w =>
Do P (Builtin.len_ #[50] 3 #[t92]) w (fun t93 w =>
Do P (binOp BinOp.gtr 3 t93 (Value.int IntKind.i64 0)) w (fun t94 w =>
If t94
(CallF P 43 [(Value.int IntKind.i64 192)] w (fun t95 w =>
Do P (Instr.loadAt 44 t6) w (fun t96 w =>
DoU P (Instr.storeAt 44 t4 t96) w (fun _ w =>
ResC P 44 t4 w fun r =>
R r w) X) X) X)
(Do P (Instr.loadAt 44 t6) w (fun t96_1 w =>
DoU P (Instr.storeAt 44 t4 t96_1) w (fun _ w =>
ResC P 44 t4 w fun r_1 =>
R r_1 w) X) X)) X) X) X
def f24.l7 (X : List PanicEntry → World → Prop) (N : World → Prop) (E0 : World → Prop) (t5 t6 : Value) (w : World) : Prop :=
Do P (Instr.loadAt 50 t5) w (fun t81 w =>
Do P (Builtin.len_ #[50] 3 #[t81]) w (fun t82 w =>
Do P (binOp BinOp.gtr 3 t82 (Value.int IntKind.i64 0)) w (fun t83 w =>
If t83
(∃ S : World → Prop, S (drewW w) ∧ (fun w =>
Take P S (Instr.fieldAt 44 t6 4) fun t84 =>
Take P S (Instr.loadAt 42 t84) fun t85 =>
CallF P 54 [t5] w (fun t87 w =>
S w ∧ CallF P 56 [t87] w (fun t88 w =>
S w ∧ Do P (Instr.buildSlice 42 1 #[(0, t88)]) w (fun t89 w =>
S w ∧ Do P (Builtin.append_ #[42, 42] 42 #[t85, t89]) w (fun t90 w =>
S w ∧ Take P S (Instr.fieldAt 44 t6 4) fun t91 =>
DoU P (Instr.storeAt 42 t91 t90) w (fun _ w =>
N w) X) X) X) X) X) (drewW w))
(E0 w)) X) X) X
def f24.j6 (X : List PanicEntry → World → Prop) (E0 : World → Prop) (t5 t6 : Value) (w : World) : Prop :=
∃ S : World → Prop, S (drewW w) ∧ (fun w =>
Take P S (Instr.fieldAt 44 t6 4) fun t73 =>
Take P S (Instr.loadAt 42 t73) fun t74 =>
CallF P 54 [t5] w (fun t76 w =>
S w ∧ CallF P 56 [t76] w (fun t77 w =>
S w ∧ Do P (Instr.buildSlice 42 1 #[(0, t77)]) w (fun t78 w =>
S w ∧ Do P (Builtin.append_ #[42, 42] 42 #[t74, t78]) w (fun t79 w =>
S w ∧ Take P S (Instr.fieldAt 44 t6 4) fun t80 =>
DoU P (Instr.storeAt 42 t80 t79) w (fun _ w =>
∃ I : Nat → World → Prop, (∃ k, I k  w) ∧ ∀ (k : Nat) (σ : Env) (w : World), I k w →
f24.l7 X (fun w => ∃ k', k' < k ∧ I k' w) (fun w =>
E0 w) t5 t6 w) X) X) X) X) X) (drewW w)
def f24.j4 (R : Value → World → Prop) (X : List PanicEntry → World → Prop) (t4 t5 t6 x8 : Value) (w : World) : Prop :=
∃ J_5 : World → Prop, (∀ (σ : Env) (w : World), J_5 w →
f24.j5 R X t4 t5 t6 w) ∧
GuardK x8 true (fun K => Do P (Instr.loadAt 50 t5) w K X) w fun t65 w =>
GuardK x8 true (fun K => Do P (Builtin.len_ #[50] 3 #[t65]) w K X) w fun t66 w =>
GuardK x8 true (fun K => Do P (binOp BinOp.gtr 3 t66 (Value.int IntKind.i64 0)) w K X) w fun t67 w =>
Do P (pickS x8 t67 (Value.bool false)) w (fun t68 w =>
If t68
(∃ J_6 : World → Prop, (∀ (σ : Env) (w : World), J_6 w →
f24.j6 X (fun w =>
J_5 w) t5 t6 w) ∧
CallF P 54 [t5] w (fun t70 w =>
Do P (binS BinOp.neq 9 (Operand.tmp 70) (Operand.const (Value.string (ByteArray.mk #[107, 101, 101, 112]))) t70 (Value.string (ByteArray.mk #[107, 101, 101, 112]))) w (fun t71 w =>
If t71
(CallF P 43 [(Value.int IntKind.i64 192)] w (fun t72 w =>
J_6 w) X)
(J_6 w)) X) X)
(J_5 w)) X
def f24.j8 (X : List PanicEntry → World → Prop) (E0 : Value → World → Prop) (t5 t6 : Value) (w : World) : Prop :=
CallF P 54 [t5] w (fun t56 w =>
CallF P 56 [t56] w (fun t57 w =>
Do P (Instr.fieldAt 44 t6 3) w (fun t58 w =>
DoU P (Instr.storeAt 3 t58 t57) w (fun _ w =>
Do P (Instr.fieldAt 44 t6 3) w (fun t59 w =>
Do P (Instr.loadAt 3 t59) w (fun t60 w =>
Do P (binOp BinOp.lss 3 t60 (Value.int IntKind.i64 1)) w (fun t61 w =>
If t61
(CallF P 43 [(Value.int IntKind.i64 192)] w (fun t62 w =>
E0 (Value.bool true) w) X)
(E0 (Value.bool true) w)) X) X) X) X) X) X) X
def f24.j3 (R : Value → World → Prop) (X : List PanicEntry → World → Prop) (t4 t5 t6 : Value) (w : World) : Prop :=
Do P (Instr.fieldAt 44 t6 0) w (fun t40 w =>
Do P (Instr.loadAt 3 t40) w (fun t41 w =>
Do P (binS BinOp.eql 3 (Operand.tmp 41) (Operand.const (Value.int IntKind.i64 6)) t41 (Value.int IntKind.i64 6)) w (fun t42 w =>
∃ J_4 : Value → World → Prop, (∀ (σ : Env) (w : World), J_4 (σ 8) w →
f24.j4 R X t4 t5 t6 (σ 8) w) ∧
Do P (Instr.fieldAt 44 t6 0) w (fun t43 w =>
Do P (Instr.loadAt 3 t43) w (fun t44 w =>
CallF P 58 [t44] w (fun t45 w =>
GuardK t45 true (fun K => Do P (Instr.loadAt 50 t5) w K X) w fun t47 w =>
GuardK t45 true (fun K => Do P (Builtin.len_ #[50] 3 #[t47]) w K X) w fun t48 w =>
GuardK t45 true (fun K => Do P (binOp BinOp.gtr 3 t48 (Value.int IntKind.i64 0)) w K X) w fun t49 w =>
Do P (pickS t45 t49 (Value.bool false)) w (fun t50 w =>
If t50
(∃ J_7 : World → Prop, (∀ (σ : Env) (w : World), J_7 w →
f24.j8 X (fun (z8 : Value) w =>
J_4 z8 w) t5 t6 w) ∧
CallF P 54 [t5] w (fun t52 w =>
Do P (binS BinOp.neq 9 (Operand.tmp 52) (Operand.const (Value.string (ByteArray.mk #[98, 114, 101, 97, 107]))) t52 (Value.string (ByteArray.mk #[98, 114, 101, 97, 107]))) w (fun t53 w =>
If t53
(CallF P 43 [(Value.int IntKind.i64 192)] w (fun t54 w =>
J_7 w) X)
(J_7 w)) X) X)
(J_4 t42 w)) X) X) X) X) X) X) X
def f24.j2 (R : Value → World → Prop) (X : List PanicEntry → World → Prop) (t4 t5 t6 : Value) (w : World) : Prop :=
∃ J_3 : World → Prop, (∀ (σ : Env) (w : World), J_3 w →
f24.j3 R X t4 t5 t6 w) ∧
Do P (Instr.fieldAt 44 t6 0) w (fun t33 w =>
Do P (Instr.loadAt 3 t33) w (fun t34 w =>
Do P (binS BinOp.eql 3 (Operand.tmp 34) (Operand.const (Value.int IntKind.i64 2)) t34 (Value.int IntKind.i64 2)) w (fun t35 w =>
If t35
(CallF P 54 [t5] w (fun t37 w =>
CallF P 57 [t37] w (fun t38 w =>
Do P (Instr.fieldAt 44 t6 2) w (fun t39 w =>
DoU P (Instr.storeAt 41 t39 t38) w (fun _ w =>
J_3 w) X) X) X) X)
(J_3 w)) X) X) X
def f24.j1 (R : Value → World → Prop) (X : List PanicEntry → World → Prop) (t4 t5 t6 : Value) (w : World) : Prop :=
Do P (Instr.loadAt 50 t5) w (fun t23 w =>
Do P (Instr.sliceAt 50 t23 (some (Value.int IntKind.i64 1)) none none) w (fun t24 w =>
DoU P (Instr.storeAt 50 t5 t24) w (fun _ w =>
∃ J_2 : World → Prop, (∀ (σ : Env) (w : World), J_2 w →
f24.j2 R X t4 t5 t6 w) ∧
Do P (Instr.fieldAt 44 t6 0) w (fun t26 w =>
Do P (Instr.loadAt 3 t26) w (fun t27 w =>
CallF P 55 [t27] w (fun t28 w =>
If t28
(CallF P 54 [t5] w (fun t30 w =>
CallF P 56 [t30] w (fun t31 w =>
Do P (Instr.fieldAt 44 t6 1) w (fun t32 w =>
DoU P (Instr.storeAt 3 t32 t31) w (fun _ w =>
J_2 w) X) X) X) X)
(J_2 w)) X) X) X) X) X) X
def f24.j0 (R : Value → World → Prop) (X : List PanicEntry → World → Prop) (a1 t4 t5 t6 : Value) (w : World) : Prop :=
∃ J_1 : World → Prop, (∀ (σ : Env) (w : World), J_1 w →
f24.j1 R X t4 t5 t6 w) ∧
Do P (binOp BinOp.geq 3 a1 (Value.int IntKind.i64 4000)) w (fun t21 w =>
If t21
(CallF P 43 [(Value.int IntKind.i64 194)] w (fun t22 w =>
J_1 w) X)
(J_1 w)) X
def f24.f (R : Value → World → Prop) (X : List PanicEntry → World → Prop) (a0 a1 : Value) (w : World) : Prop :=
Do P (Instr.alloc 44 true (Value.tuple #[])) w (fun t4 w =>
CallF P 52 [a0] w (fun t10 w =>
Do P (Instr.alloc 50 true (Value.tuple #[])) w (fun t5 w =>
DoU P (Instr.storeAt 50 t5 t10) w (fun _ w =>
Do P (Instr.loadAt 50 t5) w (fun t11 w =>
Do P (Instr.indexAt 50 t11 (Value.int IntKind.i64 0)) w (fun t12 w =>
Do P (Instr.loadAt 9 t12) w (fun t13 w =>
CallF P 53 [t13] w (fun t14 w =>
Do P (Instr.build 44 #[(0, t14)]) w (fun t15 w =>
Do P (Instr.alloc 44 true (Value.tuple #[])) w (fun t6 w =>
DoU P (Instr.storeAt 44 t6 t15) w (fun _ w =>
∃ J : World → Prop, (∀ (σ : Env) (w : World), J w →
f24.j0 R X a1 t4 t5 t6 w) ∧
Do P (Instr.fieldAt 44 t6 0) w (fun t16 w =>
Do P (Instr.loadAt 3 t16) w (fun t17 w =>
Do P (binS BinOp.eql 3 (Operand.tmp 17) (Operand.const (Value.int IntKind.i64 0)) t17 (Value.int IntKind.i64 0)) w (fun t18 w =>
If t18
(CallF P 43 [(Value.int IntKind.i64 191)] w (fun t19 w =>
J w) X)
(J w)) X) X) X) X) X) X) X) X) X) X) X) X) X) X
def f24.ann : Ann := [(15, [], .done), (31, [], .done), (255, [], .done), (511, [], .done), (2047, [8], .done), (4095, [], .done), (32762, [], .done), (131050, [], (.take 0 (.take 1 (.take 2 (.come 3 (.come 4 (.come 5 (.come 6 (.take 7 (.come 8 .done .done)) .done) .done) .done) .done))))), (262102, [], .done), (2096818, [], (.take 0 (.take 1 (.take 2 (.come 3 (.come 4 (.come 5 (.come 6 (.take 7 (.come 8 .done .done)) .done) .done) .done) .done))))), (16378, [], .done)]
theorem f24.awp_eq (R : Value → World → Prop) (X : List PanicEntry → World → Prop) (a0 a1 : Value) (w : World) : awp P 97 f24.ann X 1 (bodyOf Tryd.f24) (retE P [(ResultVar.cell 4 44)] R) (argE [a0, a1]) w = f24.f R X a0 a1 w := by kernel_rfl
theorem f24.calls {R : Value → World → Prop} {X : List PanicEntry → World → Prop} {a0 a1 : Value} {w : World} (h : f24.f R X a0 a1 w) : Calls P 24 #[a0, a1] w (retd R X) :=
  calls_of_awp mixed Tryd.func24 rfl Tryd.ntmps24 (by rw [Tryd.results24]) (Nat.le_of_ble_eq_true rfl) (f24.awp_eq R X a0 a1 w ▸ h)
theorem f24.enters (args : Array Value) (w : World) : (callFunc 24 args).run P w = .ok (.enter 24 args) w := by kernel_rfl

/-! ### 54: stint/script.step$1 -/
def f54.j0 (R : Value → World → Prop) (X : List PanicEntry → World → Prop) (a0 : Value) (w : World) : Prop :=
Do P (Instr.loadAt 50 a0) w (fun t7 w =>
Do P (Instr.indexAt 50 t7 (Value.int IntKind.i64 0)) w (fun t8 w =>
Do P (Instr.loadAt 9 t8) w (fun t9 w =>
Do P (Instr.loadAt 50 a0) w (fun t10 w =>
Do P (Instr.sliceAt 50 t10 (some (Value.int IntKind.i64 1)) none none) w (fun t11 w =>
DoU P (Instr.storeAt 50 a0 t11) w (fun _ w =>
R t9 w) X) X) X) X) X) X
def f54.f (R : Value → World → Prop) (X : List PanicEntry → World → Prop) (a0 : Value) (w : World) : Prop :=
∃ J : World → Prop, (∀ (σ : Env) (w : World), J w →
f54.j0 R X a0 w) ∧
Do P (Instr.loadAt 50 a0) w (fun t3 w =>
Do P (Builtin.len_ #[50] 3 #[t3]) w (fun t4 w =>
Do P (binS BinOp.eql 3 (Operand.tmp 4) (Operand.const (Value.int IntKind.i64 0)) t4 (Value.int IntKind.i64 0)) w (fun t5 w =>
If t5
(CallF P 43 [(Value.int IntKind.i64 192)] w (fun t6 w =>
J w) X)
(J w)) X) X) X
def f54.ann : Ann := [(3, [], .done)]
theorem f54.awp_eq (R : Value → World → Prop) (X : List PanicEntry → World → Prop) (a0 : Value) (w : World) : awp P 13 f54.ann X 1 (bodyOf Tryd.f54) (retE P [(ResultVar.tmp 1)] R) (argE [a0]) w = f54.f R X a0 w := by kernel_rfl
theorem f54.calls {R : Value → World → Prop} {X : List PanicEntry → World → Prop} {a0 : Value} {w : World} (h : f54.f R X a0 w) : Calls P 54 #[a0] w (retd R X) :=
  calls_of_awp mixed Tryd.func54 rfl Tryd.ntmps54 (by rw [Tryd.results54]) (Nat.le_of_ble_eq_true rfl) (f54.awp_eq R X a0 w ▸ h)
theorem f54.enters (args : Array Value) (w : World) : (callFunc 54 args).run P w = .ok (.enter 54 args) w := by kernel_rfl

/-! ### 57: stint/script.bytesOf -/
def f57.j4 (X : List PanicEntry → World → Prop) (E0 : Value → Value → World → Prop) (t30 t72 t77 x3 : Value) (w : World) : Prop :=
Do P (binOp BinOp.shl 3 t72 (Value.int IntKind.u64 4)) w (fun t87 w =>
Do P (binOp BinOp.or 3 t87 t77) w (fun t89 w =>
Do P (convert 3 5 t89) w (fun t90 w =>
Do P (Instr.buildSlice 41 1 #[(0, t90)]) w (fun t91 w =>
Do P (Builtin.append_ #[41, 41] 41 #[x3, t91]) w (fun t92 w =>
Do P (binOp BinOp.add 3 t30 (Value.int IntKind.i64 2)) w (fun t94 w =>
E0 t92 t94 w) X) X) X) X) X) X
def f57.j3 (X : List PanicEntry → World → Prop) (E0 : Value → Value → World → Prop) (t12 t30 x3 : Value) (w : World) : Prop :=
∃ S : World → Prop, S (drewW w) ∧ (fun w =>
Take P S (binOp BinOp.add 3 t30 (Value.int IntKind.i64 1)) fun t70 =>
Take P S (Instr.index 9 t12 t70) fun t71 =>
Take P S (binOp BinOp.add 3 t30 (Value.int IntKind.i64 2)) fun t75 =>
Take P S (Instr.index 9 t12 t75) fun t76 =>
CallF P 82 [(Value.string (ByteArray.mk #[48, 49, 50, 51, 52, 53, 54, 55, 56, 57, 97, 98, 99, 100, 101, 102])), t71] w (fun t72 w =>
S w ∧ CallF P 82 [(Value.string (ByteArray.mk #[48, 49, 50, 51, 52, 53, 54, 55, 56, 57, 97, 98, 99, 100, 101, 102])), t76] w (fun t77 w =>
S w ∧ ∃ J_3 : World → Prop, (∀ (σ : Env) (w : World), J_3 w →
f57.j4 X (fun (z3 : Value) (z4 : Value) w =>
E0 z3 z4 w) t30 t72 t77 x3 w) ∧
Do P (binOp BinOp.lss 3 t72 (Value.int IntKind.i64 0)) w (fun t79 w =>
GuardK t79 false (fun K => K t77 w) w fun t81 w =>
GuardK t79 false (fun K => Do P (binOp BinOp.lss 3 t81 (Value.int IntKind.i64 0)) w K X) w fun t82 w =>
Do P (pickS t79 (Value.bool true) t82) w (fun t83 w =>
If t83
(CallF P 43 [(Value.int IntKind.i64 192)] w (fun t84 w =>
J_3 w) X)
(J_3 w)) X) X) X) X) (drewW w)
def f57.j2 (X : List PanicEntry → World → Prop) (E0 : Value → Value → World → Prop) (t12 t30 x3 : Value) (w : World) : Prop :=
Do P (Instr.index 9 t12 t30) w (fun t38 w =>
Do P (binS BinOp.eql 5 (Operand.tmp 38) (Operand.const (Value.int IntKind.u8 115)) t38 (Value.int IntKind.u8 115)) w (fun t41 w =>
If t41
(Do P (Instr.buildSlice 41 1 #[(0, (Value.int IntKind.u8 32))]) w (fun t43 w =>
Do P (Builtin.append_ #[41, 41] 41 #[x3, t43]) w (fun t44 w =>
E0 t44 t30 w) X) X)
(Do P (binS BinOp.eql 5 (Operand.tmp 38) (Operand.const (Value.int IntKind.u8 114)) t38 (Value.int IntKind.u8 114)) w (fun t46 w =>
If t46
(Do P (Instr.buildSlice 41 1 #[(0, (Value.int IntKind.u8 13))]) w (fun t48 w =>
Do P (Builtin.append_ #[41, 41] 41 #[x3, t48]) w (fun t49 w =>
E0 t49 t30 w) X) X)
(Do P (binS BinOp.eql 5 (Operand.tmp 38) (Operand.const (Value.int IntKind.u8 110)) t38 (Value.int IntKind.u8 110)) w (fun t51 w =>
If t51
(Do P (Instr.buildSlice 41 1 #[(0, (Value.int IntKind.u8 10))]) w (fun t53 w =>
Do P (Builtin.append_ #[41, 41] 41 #[x3, t53]) w (fun t54 w =>
E0 t54 t30 w) X) X)
(Do P (binS BinOp.eql 5 (Operand.tmp 38) (Operand.const (Value.int IntKind.u8 92)) t38 (Value.int IntKind.u8 92)) w (fun t56 w =>
If t56
(Do P (Instr.buildSlice 41 1 #[(0, (Value.int IntKind.u8 92))]) w (fun t58 w =>
Do P (Builtin.append_ #[41, 41] 41 #[x3, t58]) w (fun t59 w =>
E0 t59 t30 w) X) X)
(Do P (binS BinOp.eql 5 (Operand.tmp 38) (Operand.const (Value.int IntKind.u8 120)) t38 (Value.int IntKind.u8 120)) w (fun t61 w =>
If t61
(∃ J_2 : World → Prop, (∀ (σ : Env) (w : World), J_2 w →
f57.j3 X (fun (z3_1 : Value) (z4_1 : Value) w =>
E0 z3_1 z4_1 w) t12 t30 x3 w) ∧
Do P (Builtin.len_ #[9] 3 #[t12]) w (fun t63 w =>
Do P (binOp BinOp.sub 3 t63 t30) w (fun t65 w =>
Do P (binOp BinOp.lss 3 t65 (Value.int IntKind.i64 3)) w (fun t66 w =>
If t66
(CallF P 43 [(Value.int IntKind.i64 192)] w (fun t67 w =>
J_2 w) X)
(J_2 w)) X) X) X)
(CallF P 43 [(Value.int IntKind.i64 192)] w (fun t39 w =>
E0 x3 t30 w) X)) X)) X)) X)) X)) X) X
def f57.l1 (X : List PanicEntry → World → Prop) (N : Value → Value → World → Prop) (E0 : Value → World → Prop) (t12 x3 x4 : Value) (w : World) : Prop :=
Do P (Builtin.len_ #[9] 3 #[t12]) w (fun t15 w =>
Do P (binOp BinOp.lss 3 x4 t15) w (fun t16 w =>
If t16
(Do P (Instr.index 9 t12 x4) w (fun t21 w =>
Do P (binS BinOp.neq 5 (Operand.tmp 21) (Operand.const (Value.int IntKind.u8 92)) t21 (Value.int IntKind.u8 92)) w (fun t22 w =>
If t22
(Do P (Instr.index 9 t12 x4) w (fun t26 w =>
Do P (Instr.buildSlice 41 1 #[(0, t26)]) w (fun t27 w =>
Do P (Builtin.append_ #[41, 41] 41 #[x3, t27]) w (fun t28 w =>
Do P (binOp BinOp.add 3 x4 (Value.int IntKind.i64 1)) w (fun t18 w =>
N t28 t18 w) X) X) X) X)
(Do P (binOp BinOp.add 3 x4 (Value.int IntKind.i64 1)) w (fun t30 w =>
∃ J_1 : World → Prop, (∀ (σ : Env) (w : World), J_1 w →
f57.j2 X (fun (z3_2 : Value) (z4_2 : Value) w =>
Do P (binOp BinOp.add 3 z4_2 (Value.int IntKind.i64 1)) w (fun t18_1 w =>
N z3_2 t18_1 w) X) t12 t30 x3 w) ∧
Do P (Builtin.len_ #[9] 3 #[t12]) w (fun t33 w =>
Do P (binS BinOp.eql 3 (Operand.tmp 31) (Operand.tmp 33) t30 t33) w (fun t34 w =>
If t34
(CallF P 43 [(Value.int IntKind.i64 192)] w (fun t35 w =>
J_1 w) X)
(J_1 w)) X) X) X)) X) X)
(E0 x3 w)) X) X
def f57.j0 (R : Value → World → Prop) (X : List PanicEntry → World → Prop) (a0 : Value) (w : World) : Prop :=
Do P (Instr.sliceAt 9 a0 (some (Value.int IntKind.i64 1)) none none) w (fun t12 w =>
∃ I : Nat → Value → Value → World → Prop, (∃ k, I k (Value.slice none 0 0) (Value.int IntKind.i64 0) w) ∧ ∀ (k : Nat) (σ : Env) (w : World), I k (σ 3) (σ 4) w →
f57.l1 X (fun (y3 : Value) (y4 : Value) w => ∃ k', k' < k ∧ I k' y3 y4 w) (fun (z3_3 : Value) w =>
R z3_3 w) t12 (σ 3) (σ 4) w) X
def f57.f (R : Value → World → Prop) (X : List PanicEntry → World → Prop) (a0 : Value) (w : World) : Prop :=
∃ J : World → Prop, (∀ (σ : Env) (w : World), J w →
f57.j0 R X a0 w) ∧
Do P (Instr.index 9 a0 (Value.int IntKind.i64 0)) w (fun t8 w =>
Do P (binS BinOp.neq 5 (Operand.tmp 8) (Operand.const (Value.int IntKind.u8 61)) t8 (Value.int IntKind.u8 61)) w (fun t9 w =>
If t9
(CallF P 43 [(Value.int IntKind.i64 192)] w (fun t10 w =>
J w) X)
(J w)) X) X
def f57.ann : Ann := [(3, [], .done), (250, [3, 4], .done), (16019, [], .done), (131234814, [], .done), (524939258, [], (.take 0 (.take 1 (.take 2 (.take 3 (.take 5 (.take 6 (.take 7 (.take 8 (.come 4 (.come 9 (.take 10 (.take 11 .done)) .done) .done)))))))))), (524939259, [], .done)]
theorem f57.awp_eq (R : Value → World → Prop) (X : List PanicEntry → World → Prop) (a0 : Value) (w : World) : awp P 96 f57.ann X 1 (bodyOf Tryd.f57) (retE P [(ResultVar.tmp 2)] R) (argE [a0]) w = f57.f R X a0 w := by kernel_rfl
theorem f57.calls {R : Value → World → Prop} {X : List PanicEntry → World → Prop} {a0 : Value} {w : World} (h : f57.f R X a0 w) : Calls P 57 #[a0] w (retd R X) :=
  calls_of_awp mixed Tryd.func57 rfl Tryd.ntmps57 (by rw [Tryd.results57]) (Nat.le_of_ble_eq_true rfl) (f57.awp_eq R X a0 w ▸ h)
theorem f57.enters (args : Array Value) (w : World) : (callFunc 57 args).run P w = .ok (.enter 57 args) w := by kernel_rfl

/-! ### 72: stint/script.data -/
def f72.l0 (X : List PanicEntry → World → Prop) (N : Value → World → Prop) (E0 : World → Prop) (a0 t3 t8 x9 : Value) (w : World) : Prop :=
Do P (binOp BinOp.lss 3 x9 t8) w (fun t10 w =>
If t10
(Do P (Instr.indexAt 41 a0 x9) w (fun t11 w =>
Do P (Instr.loadAt 5 t11) w (fun t12 w =>
Do P (binS BinOp.eql 5 (Operand.tmp 23) (Operand.const (Value.int IntKind.u8 32)) t12 (Value.int IntKind.u8 32)) w (fun t24 w =>
If t24
(CallF P 37 [t3, (Value.string (ByteArray.mk #[92, 115]))] w (fun t25 w =>
Do P (binOp BinOp.add 3 x9 (Value.int IntKind.i64 1)) w (fun t47 w =>
N t47 w) X) X)
(Do P (binS BinOp.eql 5 (Operand.tmp 27) (Operand.const (Value.int IntKind.u8 13)) t12 (Value.int IntKind.u8 13)) w (fun t28 w =>
If t28
(CallF P 37 [t3, (Value.string (ByteArray.mk #[92, 114]))] w (fun t29 w =>
Do P (binOp BinOp.add 3 x9 (Value.int IntKind.i64 1)) w (fun t47_1 w =>
N t47_1 w) X) X)
(Do P (binS BinOp.eql 5 (Operand.tmp 31) (Operand.const (Value.int IntKind.u8 10)) t12 (Value.int IntKind.u8 10)) w (fun t32 w =>
If t32
(CallF P 37 [t3, (Value.string (ByteArray.mk #[92, 110]))] w (fun t33 w =>
Do P (binOp BinOp.add 3 x9 (Value.int IntKind.i64 1)) w (fun t47_2 w =>
N t47_2 w) X) X)
(Do P (binS BinOp.eql 5 (Operand.tmp 35) (Operand.const (Value.int IntKind.u8 92)) t12 (Value.int IntKind.u8 92)) w (fun t36 w =>
If t36
(CallF P 37 [t3, (Value.string (ByteArray.mk #[92, 92]))] w (fun t37 w =>
Do P (binOp BinOp.add 3 x9 (Value.int IntKind.i64 1)) w (fun t47_3 w =>
N t47_3 w) X) X)
(Do P (binOp BinOp.geq 5 t12 (Value.int IntKind.u8 33)) w (fun t40 w =>
GuardK t40 true (fun K => K t12 w) w fun t42 w =>
GuardK t40 true (fun K => Do P (binOp BinOp.leq 5 t42 (Value.int IntKind.u8 126)) w K X) w fun t43 w =>
Do P (pickS t40 t43 (Value.bool false)) w (fun t44 w =>
If t44
(CallF P 87 [t3, t12] w (fun t46 w =>
Do P (binOp BinOp.add 3 x9 (Value.int IntKind.i64 1)) w (fun t47_4 w =>
N t47_4 w) X) X)
(CallF P 37 [t3, (Value.string (ByteArray.mk #[92, 120]))] w (fun t13 w =>
Do P (binOp BinOp.shr 5 t12 (Value.int IntKind.u64 4)) w (fun t15 w =>
Do P (Instr.index 9 (Value.string (ByteArray.mk #[48, 49, 50, 51, 52, 53, 54, 55, 56, 57, 97, 98, 99, 100, 101, 102])) t15) w (fun t16 w =>
CallF P 87 [t3, t16] w (fun t17 w =>
Do P (binOp BinOp.and 5 t12 (Value.int IntKind.u8 15)) w (fun t19 w =>
Do P (Instr.index 9 (Value.string (ByteArray.mk #[48, 49, 50, 51, 52, 53, 54, 55, 56, 57, 97, 98, 99, 100, 101, 102])) t19) w (fun t20 w =>
CallF P 87 [t3, t20] w (fun t21 w =>
Do P (binOp BinOp.add 3 x9 (Value.int IntKind.i64 1)) w (fun t47_5 w =>
N t47_5 w) X) X) X) X) X) X) X) X)) X) X)) X)) X)) X)) X) X) X)
(E0 w)) X
def f72.f (R : Value → World → Prop) (X : List PanicEntry → World → Prop) (a0 : Value) (w : World) : Prop :=
Do P (Instr.alloc 73 true (Value.tuple #[])) w (fun t3 w =>
CallF P 87 [t3, (Value.int IntKind.u8 61)] w (fun t6 w =>
Do P (Builtin.len_ #[41] 3 #[a0]) w (fun t8 w =>
∃ I : Nat → Value → World → Prop, (∃ k, I k (Value.int IntKind.i64 0) w) ∧ ∀ (k : Nat) (σ : Env) (w : World), I k (σ 9) w →
f72.l0 X (fun (y9 : Value) w => ∃ k', k' < k ∧ I k' y9 w) (fun w =>
CallF P 44 [t3] w (fun t48 w =>
R t48 w) X) a0 t3 t8 (σ 9) w) X) X) X
def f72.ann : Ann := [(122, [9], .done)]
theorem f72.awp_eq (R : Value → World → Prop) (X : List PanicEntry → World → Prop) (a0 : Value) (w : World) : awp P 49 f72.ann X 1 (bodyOf Tryd.f72) (retE P [(ResultVar.tmp 2)] R) (argE [a0]) w = f72.f R X a0 w := by kernel_rfl
theorem f72.calls {R : Value → World → Prop} {X : List PanicEntry → World → Prop} {a0 : Value} {w : World} (h : f72.f R X a0 w) : Calls P 72 #[a0] w (retd R X) :=
  calls_of_awp mixed Tryd.func72 rfl Tryd.ntmps72 (by rw [Tryd.results72]) (Nat.le_of_ble_eq_true rfl) (f72.awp_eq R X a0 w ▸ h)
theorem f72.enters (args : Array Value) (w : World) : (callFunc 72 args).run P w = .ok (.enter 72 args) w := by kernel_rfl

/-! ### 71: stint/script.wordOf -/
def f71.f (R : Value → World → Prop) (X : List PanicEntry → World → Prop) (a0 : Value) (w : World) : Prop :=
Do P (binOp BinOp.lss 3 a0 (Value.int IntKind.i64 0)) w (fun t4 w =>
GuardK t4 false (fun K => K a0 w) w fun t6 w =>
GuardK t4 false (fun K => Do P (binOp BinOp.gtr 3 t6 (Value.int IntKind.i64 4611686018427387903)) w K X) w fun t7 w =>
Do P (pickS t4 (Value.bool true) t7) w (fun t8 w =>
If t8
(CallF P 43 [(Value.int IntKind.i64 192)] w (fun t9 w =>
CallF P 39 [a0] w (fun t11 w =>
R t11 w) X) X)
(CallF P 39 [a0] w (fun t11_1 w =>
R t11_1 w) X)) X) X
def f71.ann : Ann := []
theorem f71.awp_eq (R : Value → World → Prop) (X : List PanicEntry → World → Prop) (a0 : Value) (w : World) : awp P 12 f71.ann X 1 (bodyOf Tryd.f71) (retE P [(ResultVar.tmp 2)] R) (argE [a0]) w = f71.f R X a0 w := by kernel_rfl
theorem f71.calls {R : Value → World → Prop} {X : List PanicEntry → World → Prop} {a0 : Value} {w : World} (h : f71.f R X a0 w) : Calls P 71 #[a0] w (retd R X) :=
  calls_of_awp mixed Tryd.func71 rfl Tryd.ntmps71 (by rw [Tryd.results71]) (Nat.le_of_ble_eq_true rfl) (f71.awp_eq R X a0 w ▸ h)
theorem f71.enters (args : Array Value) (w : World) : (callFunc 71 args).run P w = .ok (.enter 71 args) w := by kernel_rfl

/-! ### 41: stint/script.written -/
def f41.l6 (X : List PanicEntry → World → Prop) (N : Value → Value → World → Prop) (E0 : Value → World → Prop) (t112 t113 x4_4 x114 : Value) (w : World) : Prop :=
Do P (binOp BinOp.lss 3 x114 t113) w (fun t115 w =>
If t115
(Do P (Instr.indexAt 42 t112 x114) w (fun t116 w =>
Do P (Instr.loadAt 3 t116) w (fun t117 w =>
CallF P 71 [t117] w (fun t120 w =>
Do P (Instr.buildSlice 50 1 #[(0, t120)]) w (fun t121 w =>
Do P (Builtin.append_ #[50, 50] 50 #[x4_4, t121]) w (fun t122 w =>
Do P (binOp BinOp.add 3 x114 (Value.int IntKind.i64 1)) w (fun t123 w =>
N t122 t123 w) X) X) X) X) X) X)
(E0 x4_4 w)) X
def f41.j5 (R : Value → World → Prop) (X : List PanicEntry → World → Prop) (t1 x4_3 : Value) (w : World) : Prop :=
Do P (Instr.fieldAt 44 t1 4) w (fun t111 w =>
Do P (Instr.loadAt 42 t111) w (fun t112 w =>
Do P (Builtin.len_ #[42] 3 #[t112]) w (fun t113 w =>
∃ I : Nat → Value → Value → World → Prop, (∃ k, I k x4_3 (Value.int IntKind.i64 0) w) ∧ ∀ (k : Nat) (σ : Env) (w : World), I k (σ 4) (σ 114) w →
f41.l6 X (fun (y4 : Value) (y114 : Value) w => ∃ k', k' < k ∧ I k' y4 y114 w) (fun (z4 : Value) w =>
CallF P 38 [z4, (Value.string (ByteArray.mk #[32]))] w (fun t125 w =>
Do P (binOp BinOp.add 9 t125 (Value.string (ByteArray.mk #[10]))) w (fun t126 w =>
R t126 w) X) X) t112 t113 (σ 4) (σ 114) w) X) X) X
def f41.j4 (R : Value → World → Prop) (X : List PanicEntry → World → Prop) (t1 x4_2 : Value) (w : World) : Prop :=
∃ J_5 : Value → World → Prop, (∀ (σ : Env) (w : World), J_5 (σ 4) w →
f41.j5 R X t1 (σ 4) w) ∧
Do P (Instr.fieldAt 44 t1 4) w (fun t104 w =>
Do P (Instr.loadAt 42 t104) w (fun t105 w =>
Do P (Builtin.len_ #[42] 3 #[t105]) w (fun t106 w =>
Do P (binOp BinOp.gtr 3 t106 (Value.int IntKind.i64 0)) w (fun t107 w =>
If t107
(Do P (Instr.buildSlice 50 1 #[(0, (Value.string (ByteArray.mk #[107, 101, 101, 112])))]) w (fun t109 w =>
Do P (Builtin.append_ #[50, 50] 50 #[x4_2, t109]) w (fun t110 w =>
J_5 t110 w) X) X)
(J_5 x4_2 w)) X) X) X) X
def f41.j3 (R : Value → World → Prop) (X : List PanicEntry → World → Prop) (t1 x4_1 : Value) (w : World) : Prop :=
∃ J_4 : Value → World → Prop, (∀ (σ : Env) (w : World), J_4 (σ 4) w →
f41.j4 R X t1 (σ 4) w) ∧
Do P (Instr.fieldAt 44 t1 3) w (fun t95 w =>
Do P (Instr.loadAt 3 t95) w (fun t96 w =>
Do P (binS BinOp.neq 3 (Operand.tmp 96) (Operand.const (Value.int IntKind.i64 0)) t96 (Value.int IntKind.i64 0)) w (fun t97 w =>
If t97
(Do P (Instr.fieldAt 44 t1 3) w (fun t99 w =>
Do P (Instr.loadAt 3 t99) w (fun t100 w =>
CallF P 71 [t100] w (fun t101 w =>
Do P (Instr.buildSlice 50 2 #[(0, (Value.string (ByteArray.mk #[98, 114, 101, 97, 107]))), (1, t101)]) w (fun t102 w =>
Do P (Builtin.append_ #[50, 50] 50 #[x4_1, t102]) w (fun t103 w =>
J_4 t103 w) X) X) X) X) X)
(J_4 x4_1 w)) X) X) X
def f41.j2 (R : Value → World → Prop) (X : List PanicEntry → World → Prop) (t1 x4 : Value) (w : World) : Prop :=
∃ J_3 : Value → World → Prop, (∀ (σ : Env) (w : World), J_3 (σ 4) w →
f41.j3 R X t1 (σ 4) w) ∧
Do P (Instr.fieldAt 44 t1 0) w (fun t86 w =>
Do P (Instr.loadAt 3 t86) w (fun t87 w =>
Do P (binS BinOp.eql 3 (Operand.tmp 87) (Operand.const (Value.int IntKind.i64 2)) t87 (Value.int IntKind.i64 2)) w (fun t88 w =>
If t88
(Do P (Instr.fieldAt 44 t1 2) w (fun t90 w =>
Do P (Instr.loadAt 41 t90) w (fun t91 w =>
CallF P 72 [t91] w (fun t92 w =>
Do P (Instr.buildSlice 50 1 #[(0, t92)]) w (fun t93 w =>
Do P (Builtin.append_ #[50, 50] 50 #[x4, t93]) w (fun t94 w =>
J_3 t94 w) X) X) X) X) X)
(J_3 x4 w)) X) X) X
def f41.j1 (R : Value → World → Prop) (X : List PanicEntry → World → Prop) (t1 : Value) (w : World) : Prop :=
Do P (Instr.fieldAt 44 t1 0) w (fun t73 w =>
Do P (Instr.loadAt 3 t73) w (fun t74 w =>
CallF P 69 [t74] w (fun t75 w =>
Do P (Instr.buildSlice 50 1 #[(0, t75)]) w (fun t76 w =>
∃ J_2 : Value → World → Prop, (∀ (σ : Env) (w : World), J_2 (σ 4) w →
f41.j2 R X t1 (σ 4) w) ∧
Do P (Instr.fieldAt 44 t1 0) w (fun t77 w =>
Do P (Instr.loadAt 3 t77) w (fun t78 w =>
CallF P 55 [t78] w (fun t79 w =>
If t79
(Do P (Instr.fieldAt 44 t1 1) w (fun t81 w =>
Do P (Instr.loadAt 3 t81) w (fun t82 w =>
CallF P 71 [t82] w (fun t83 w =>
Do P (Instr.buildSlice 50 1 #[(0, t83)]) w (fun t84 w =>
Do P (Builtin.append_ #[50, 50] 50 #[t76, t84]) w (fun t85 w =>
J_2 t85 w) X) X) X) X) X)
(J_2 t76 w)) X) X) X) X) X) X) X
def f41.j0 (R : Value → World → Prop) (X : List PanicEntry → World → Prop) (t1 : Value) (w : World) : Prop :=
Do P (Instr.fieldAt 44 t1 0) w (fun t12 w =>
Do P (Instr.loadAt 3 t12) w (fun t13 w =>
CallF P 55 [t13] w (fun t14 w =>
Do P (Op.unary UnOp.not t14) w (fun t15 w =>
GuardK t15 true (fun K => Do P (Instr.fieldAt 44 t1 1) w K X) w fun t17 w =>
GuardK t15 true (fun K => Do P (Instr.loadAt 3 t17) w K X) w fun t18 w =>
GuardK t15 true (fun K => Do P (binS BinOp.neq 3 (Operand.tmp 18) (Operand.const (Value.int IntKind.i64 0)) t18 (Value.int IntKind.i64 0)) w K X) w fun t19 w =>
Do P (pickS t15 t19 (Value.bool false)) w (fun t20 w =>
GuardK t20 false (fun K => Do P (Instr.fieldAt 44 t1 0) w K X) w fun t22 w =>
GuardK t20 false (fun K => Do P (Instr.loadAt 3 t22) w K X) w fun t23 w =>
GuardK t20 false (fun K => Do P (binS BinOp.neq 3 (Operand.tmp 23) (Operand.const (Value.int IntKind.i64 2)) t23 (Value.int IntKind.i64 2)) w K X) w fun t24 w =>
GuardK t20 false (fun K => K t24 w) w fun t25 w =>
GuardK t25 true (fun K => Do P (Instr.fieldAt 44 t1 2) w K X) w fun t26 w =>
GuardK t25 true (fun K => Do P (Instr.loadAt 41 t26) w K X) w fun t27 w =>
GuardK t25 true (fun K => Do P (Builtin.len_ #[41] 3 #[t27]) w K X) w fun t28 w =>
GuardK t25 true (fun K => Do P (binOp BinOp.gtr 3 t28 (Value.int IntKind.i64 0)) w K X) w fun t29 w =>
GuardK t20 false (fun K => Do P (pickS t25 t29 (Value.bool false)) w K X) w fun t30 w =>
Do P (pickS t20 (Value.bool true) t30) w (fun t31 w =>
GuardK t31 false (fun K => Do P (Instr.fieldAt 44 t1 0) w K X) w fun t33 w =>
GuardK t31 false (fun K => Do P (Instr.loadAt 3 t33) w K X) w fun t34 w =>
GuardK t31 false (fun K => CallF P 58 [t34] w K X) w fun t35 w =>
GuardK t31 false (fun K => Do P (Op.unary UnOp.not t35) w K X) w fun t36 w =>
GuardK t31 false (fun K => K t36 w) w fun t37 w =>
GuardK t37 true (fun K => Do P (Instr.fieldAt 44 t1 3) w K X) w fun t38 w =>
GuardK t37 true (fun K => Do P (Instr.loadAt 3 t38) w K X) w fun t39 w =>
GuardK t37 true (fun K => Do P (binS BinOp.neq 3 (Operand.tmp 39) (Operand.const (Value.int IntKind.i64 0)) t39 (Value.int IntKind.i64 0)) w K X) w fun t40 w =>
GuardK t31 false (fun K => Do P (pickS t37 t40 (Value.bool false)) w K X) w fun t41 w =>
Do P (pickS t31 (Value.bool true) t41) w (fun t42 w =>
GuardK t42 false (fun K => Do P (Instr.fieldAt 44 t1 0) w K X) w fun t44 w =>
GuardK t42 false (fun K => Do P (Instr.loadAt 3 t44) w K X) w fun t45 w =>
GuardK t42 false (fun K => CallF P 70 [t45] w K X) w fun t46 w =>
GuardK t42 false (fun K => Do P (Op.unary UnOp.not t46) w K X) w fun t47 w =>
GuardK t42 false (fun K => K t47 w) w fun t48 w =>
GuardK t48 true (fun K => Do P (Instr.fieldAt 44 t1 4) w K X) w fun t49 w =>
GuardK t48 true (fun K => Do P (Instr.loadAt 42 t49) w K X) w fun t50 w =>
GuardK t48 true (fun K => Do P (Builtin.len_ #[42] 3 #[t50]) w K X) w fun t51 w =>
GuardK t48 true (fun K => Do P (binOp BinOp.gtr 3 t51 (Value.int IntKind.i64 0)) w K X) w fun t52 w =>
GuardK t42 false (fun K => Do P (pickS t48 t52 (Value.bool false)) w K X) w fun t53 w =>
Do P (pickS t42 (Value.bool true) t53) w (fun t54 w =>
∃ J_1 : World → Prop, (∀ (σ : Env) (w : World), J_1 w →
f41.j1 R X t1 w) ∧
GuardK t54 false (fun K => Do P (Instr.fieldAt 44 t1 0) w K X) w fun t57 w =>
GuardK t54 false (fun K => Do P (Instr.loadAt 3 t57) w K X) w fun t58 w =>
GuardK t54 false (fun K => Do P (binS BinOp.neq 3 (Operand.tmp 58) (Operand.const (Value.int IntKind.i64 6)) t58 (Value.int IntKind.i64 6)) w K X) w fun t59 w =>
GuardK t54 false (fun K => K t59 w) w fun t60 w =>
GuardK t60 true (fun K => Do P (Instr.fieldAt 44 t1 3) w K X) w fun t61 w =>
GuardK t60 true (fun K => Do P (Instr.loadAt 3 t61) w K X) w fun t62 w =>
GuardK t60 true (fun K => Do P (binS BinOp.eql 3 (Operand.tmp 62) (Operand.const (Value.int IntKind.i64 0)) t62 (Value.int IntKind.i64 0)) w K X) w fun t63 w =>
GuardK t54 false (fun K => Do P (pickS t60 t63 (Value.bool false)) w K X) w fun t64 w =>
GuardK t54 false (fun K => K t64 w) w fun t65 w =>
GuardK t65 true (fun K => Do P (Instr.fieldAt 44 t1 4) w K X) w fun t66 w =>
GuardK t65 true (fun K => Do P (Instr.loadAt 42 t66) w K X) w fun t67 w =>
GuardK t65 true (fun K => Do P (Builtin.len_ #[42] 3 #[t67]) w K X) w fun t68 w =>
GuardK t65 true (fun K => Do P (binOp BinOp.gtr 3 t68 (Value.int IntKind.i64 0)) w K X) w fun t69 w =>
GuardK t54 false (fun K => Do P (pickS t65 t69 (Value.bool false)) w K X) w fun t70 w =>
Do P (pickS t54 (Value.bool true) t70) w (fun t71 w =>
If t71
(CallF P 43 [(Value.int IntKind.i64 192)] w (fun t72 w =>
J_1 w) X)
(J_1 w)) X) X) X) X) X) X) X) X) X
def f41.f (R : Value → World → Prop) (X : List PanicEntry → World → Prop) (a0 : Value) (w : World) : Prop :=
Do P (Instr.box 44 a0) w (fun t1 w =>
∃ J : World → Prop, (∀ (σ : Env) (w : World), J w →
f41.j0 R X t1 w) ∧
Do P (Instr.fieldAt 44 t1 0) w (fun t7 w =>
Do P (Instr.loadAt 3 t7) w (fun t8 w =>
CallF P 69 [t8] w (fun t9 w =>
Do P (binS BinOp.eql 9 (Operand.tmp 9) (Operand.const (Value.string (ByteArray.mk #[]))) t9 (Value.string (ByteArray.mk #[]))) w (fun t10 w =>
If t10
(CallF P 43 [(Value.int IntKind.i64 192)] w (fun t11 w =>
J w) X)
(J w)) X) X) X) X) X
def f41.ann : Ann := [(3, [], .done), (15, [], .done), (63, [4], .done), (127, [4], .done), (255, [4], .done), (511, [4], .done), (8186, [4, 114], .done)]
theorem f41.awp_eq (R : Value → World → Prop) (X : List PanicEntry → World → Prop) (a0 : Value) (w : World) : awp P 127 f41.ann X 1 (bodyOf Tryd.f41) (retE P [(ResultVar.tmp 2)] R) (argE [a0]) w = f41.f R X a0 w := by kernel_rfl
theorem f41.calls {R : Value → World → Prop} {X : List PanicEntry → World → Prop} {a0 : Value} {w : World} (h : f41.f R X a0 w) : Calls P 41 #[a0] w (retd R X) :=
  calls_of_awp mixed Tryd.func41 rfl Tryd.ntmps41 (by rw [Tryd.results41]) (Nat.le_of_ble_eq_true rfl) (f41.awp_eq R X a0 w ▸ h)
theorem f41.enters (args : Array Value) (w : World) : (callFunc 41 args).run P w = .ok (.enter 41 args) w := by kernel_rfl

/-! ### 16: stint/script.Print -/
def f16.l0 (R : Value → World → Prop) (X : List PanicEntry → World → Prop) (N : Value → World → Prop) (E0 : World → Prop) (t5 t32 t33 x34 : Value) (w : World) : Prop :=
Do P (binOp BinOp.lss 3 x34 t33) w (fun t35 w =>
If t35
(Do P (Instr.indexAt 29 t32 x34) w (fun t36 w =>
Do P (Instr.loadAt 44 t36) w (fun t37 w =>
Do P (Instr.alloc 44 true (Value.tuple #[])) w (fun t7 w =>
DoU P (Instr.storeAt 44 t7 t37) w (fun _ w =>
CallF P 22 [(Value.func (Fn.func 40) #[] #[t7, t5])] w (fun t39 w =>
Do P (binS BinOp.neq 32 (Operand.tmp 40) (Operand.const (Value.int IntKind.i64 0)) t39 (Value.int IntKind.i64 0)) w (fun t41 w =>
If t41
(R (Value.tuple #[(Value.string (ByteArray.mk #[])), t39]) w)
(Do P (binOp BinOp.add 3 x34 (Value.int IntKind.i64 1)) w (fun t43 w =>
N t43 w) X)) X) X) X) X) X) X)
(E0 w)) X
def f16.f (R : Value → World → Prop) (X : List PanicEntry → World → Prop) (a0 : Value) (w : World) : Prop :=
Do P (Instr.box 31 a0) w (fun t1 w =>
Do P (Instr.fieldAt 31 t1 0) w (fun t9 w =>
Do P (Instr.loadAt 28 t9) w (fun t10 w =>
Do P (Instr.alloc 28 true (Value.tuple #[])) w (fun t4 w =>
DoU P (Instr.storeAt 28 t4 t10) w (fun _ w =>
Do P (Instr.loadAt 28 t4) w (fun t11 w =>
CallF P 36 [t11] w (fun t12 w =>
Do P (binS BinOp.neq 32 (Operand.tmp 12) (Operand.const (Value.int IntKind.i64 0)) t12 (Value.int IntKind.i64 0)) w (fun t13 w =>
If t13
(R (Value.tuple #[(Value.string (ByteArray.mk #[])), (Value.int IntKind.i64 190)]) w)
(Do P (Instr.fieldAt 31 t1 1) w (fun t14 w =>
Do P (Instr.loadAt 29 t14) w (fun t15 w =>
Do P (Builtin.len_ #[29] 3 #[t15]) w (fun t16 w =>
Do P (binOp BinOp.gtr 3 t16 (Value.int IntKind.i64 4000)) w (fun t17 w =>
If t17
(R (Value.tuple #[(Value.string (ByteArray.mk #[])), (Value.int IntKind.i64 194)]) w)
(Do P (Instr.alloc 73 true (Value.tuple #[])) w (fun t5 w =>
∃ S : World → Prop, S (drewW w) ∧ (fun w =>
Take P S (Instr.fieldAt 28 t4 0) fun t18 =>
Take P S (Instr.loadAt 3 t18) fun t19 =>
Take P S (Instr.fieldAt 28 t4 1) fun t21 =>
Take P S (Instr.loadAt 3 t21) fun t22 =>
Take P S (Instr.fieldAt 28 t4 2) fun t24 =>
Take P S (Instr.loadAt 3 t24) fun t25 =>
CallF P 39 [t19] w (fun t20 w =>
S w ∧ CallF P 39 [t22] w (fun t23 w =>
S w ∧ CallF P 39 [t25] w (fun t26 w =>
S w ∧ Do P (Instr.buildSlice 50 4 #[(0, (Value.string (ByteArray.mk #[115, 116, 105, 110, 116]))), (1, t20), (2, t23), (3, t26)]) w (fun t27 w =>
S w ∧ CallF P 38 [t27, (Value.string (ByteArray.mk #[32]))] w (fun t28 w =>
S w ∧ Take P S (binOp BinOp.add 9 t28 (Value.string (ByteArray.mk #[10]))) fun t29 =>
CallF P 37 [t5, t29] w (fun t30 w =>
S w ∧ Do P (Instr.fieldAt 31 t1 1) w (fun t31 w =>
Do P (Instr.loadAt 29 t31) w (fun t32 w =>
Do P (Builtin.len_ #[29] 3 #[t32]) w (fun t33 w =>
∃ I : Nat → Value → World → Prop, (∃ k, I k (Value.int IntKind.i64 0) w) ∧ ∀ (k : Nat) (σ : Env) (w : World), I k (σ 34) w →
f16.l0 R X (fun (y34 : Value) w => ∃ k', k' < k ∧ I k' y34 w) (fun w =>
CallF P 44 [t5] w (fun t44 w =>
R (Value.tuple #[t44, (Value.int IntKind.i64 0)]) w) X) t5 t32 t33 (σ 34) w) X) X) X) X) X) X) X) X) X) (drewW w)) X)) X) X) X) X)) X) X) X) X) X) X) X) X
def f16.ann : Ann := [(126, [], (.take 0 (.take 1 (.take 3 (.take 4 (.take 6 (.take 7 (.come 2 (.come 5 (.come 8 (.come 9 (.come 10 (.take 11 (.come 12 .done .done)) .done) .done) .done) .done) .done)))))))), (1018, [34], .done)]
theorem f16.awp_eq (R : Value → World → Prop) (X : List PanicEntry → World → Prop) (a0 : Value) (w : World) : awp P 45 f16.ann X 1 (bodyOf Tryd.f16) (retE P [(ResultVar.tmp 2), (ResultVar.tmp 3)] R) (argE [a0]) w = f16.f R X a0 w := by kernel_rfl
theorem f16.calls {R : Value → World → Prop} {X : List PanicEntry → World → Prop} {a0 : Value} {w : World} (h : f16.f R X a0 w) : Calls P 16 #[a0] w (retd R X) :=
  calls_of_awp mixed Tryd.func16 rfl Tryd.ntmps16 (by rw [Tryd.results16]) (Nat.le_of_ble_eq_true rfl) (f16.awp_eq R X a0 w ▸ h)
theorem f16.enters (args : Array Value) (w : World) : (callFunc 16 args).run P w = .ok (.enter 16 args) w := by kernel_rfl

/-! ### 40: stint/script.Print$1 -/
def f40.f (R : Value → World → Prop) (X : List PanicEntry → World → Prop) (a0 a1 : Value) (w : World) : Prop :=
Do P (Instr.loadAt 44 a0) w (fun t3 w =>
CallF P 41 [t3] w (fun t4 w =>
CallF P 42 [a1] w (fun t5 w =>
Do P (Builtin.len_ #[9] 3 #[t4]) w (fun t7 w =>
Do P (binOp BinOp.add 3 t5 t7) w (fun t8 w =>
Do P (binOp BinOp.gtr 3 t8 (Value.int IntKind.i64 1048576)) w (fun t9 w =>
If t9
(CallF P 43 [(Value.int IntKind.i64 193)] w (fun t10 w =>
CallF P 37 [a1, t4] w (fun t12 w =>
R (Value.tuple #[]) w) X) X)
(CallF P 37 [a1, t4] w (fun t12_1 w =>
R (Value.tuple #[]) w) X)) X) X) X) X) X) X
def f40.ann : Ann := []
theorem f40.awp_eq (R : Value → World → Prop) (X : List PanicEntry → World → Prop) (a0 a1 : Value) (w : World) : awp P 13 f40.ann X 1 (bodyOf Tryd.f40) (retE P [] R) (argE [a0, a1]) w = f40.f R X a0 a1 w := by kernel_rfl
theorem f40.calls {R : Value → World → Prop} {X : List PanicEntry → World → Prop} {a0 a1 : Value} {w : World} (h : f40.f R X a0 a1 w) : Calls P 40 #[a0, a1] w (retd R X) :=
  calls_of_awp mixed Tryd.func40 rfl Tryd.ntmps40 (by rw [Tryd.results40]) (Nat.le_of_ble_eq_true rfl) (f40.awp_eq R X a0 a1 w ▸ h)
theorem f40.enters (args : Array Value) (w : World) : (callFunc 40 args).run P w = .ok (.enter 40 args) w := by kernel_rfl

/-! ### 80: stint/digits.Split -/
def f80.f (R : Value → World → Prop) (X : List PanicEntry → World → Prop) (a0 : Value) (w : World) : Prop :=
CallF P 20 [a0, (Value.string (ByteArray.mk #[32]))] w (fun t6 w =>
CallF P 92 [t6] w (fun t8 w =>
Do P (Op.unary UnOp.not t8) w (fun t9 w =>
If t9
(R (Value.tuple #[(Value.slice none 0 0), (Value.bool false)]) w)
(R (Value.tuple #[t6, (Value.bool true)]) w)) X) X) X
def f80.ann : Ann := []
theorem f80.awp_eq (R : Value → World → Prop) (X : List PanicEntry → World → Prop) (a0 : Value) (w : World) : awp P 11 f80.ann X 1 (bodyOf Tryd.f80) (retE P [(ResultVar.tmp 2), (ResultVar.tmp 3)] R) (argE [a0]) w = f80.f R X a0 w := by kernel_rfl
theorem f80.calls {R : Value → World → Prop} {X : List PanicEntry → World → Prop} {a0 : Value} {w : World} (h : f80.f R X a0 w) : Calls P 80 #[a0] w (retd R X) :=
  calls_of_awp mixed Tryd.func80 rfl Tryd.ntmps80 (by rw [Tryd.results80]) (Nat.le_of_ble_eq_true rfl) (f80.awp_eq R X a0 w ▸ h)
theorem f80.enters (args : Array Value) (w : World) : (callFunc 80 args).run P w = .ok (.enter 80 args) w := by kernel_rfl

/-! ### 81: stint/digits.Parse -/
def f81.l0 (R : Value → World → Prop) (X : List PanicEntry → World → Prop) (N : Value → World → Prop) (E0 : Value → World → Prop) (a1 t17 x6 : Value) (w : World) : Prop :=
Do P (Instr.next t17 true 0) w (fun t18 w =>
Do P (Instr.extract t18 0) w (fun t19 w =>
If t19
(Do P (Instr.extract t18 2) w (fun t20 w =>
Do P (binOp BinOp.lss 21 t20 (Value.int IntKind.i32 48)) w (fun t22 w =>
GuardK t22 false (fun K => K t20 w) w fun t24 w =>
GuardK t22 false (fun K => Do P (binOp BinOp.gtr 21 t24 (Value.int IntKind.i32 57)) w K X) w fun t25 w =>
Do P (pickS t22 (Value.bool true) t25) w (fun t26 w =>
If t26
(R (Value.tuple #[(Value.int IntKind.i64 0), (Value.bool false)]) w)
(Do P (binOp BinOp.sub 21 t20 (Value.int IntKind.i32 48)) w (fun t28 w =>
Do P (convert 21 3 t28) w (fun t29 w =>
Do P (binOp BinOp.quo 3 a1 (Value.int IntKind.i64 10)) w (fun t32 w =>
Do P (binOp BinOp.gtr 3 x6 t32) w (fun t33 w =>
GuardK t33 false (fun K => K x6 w) w fun t35 w =>
GuardK t33 false (fun K => Do P (binOp BinOp.mul 3 t35 (Value.int IntKind.i64 10)) w K X) w fun t36 w =>
GuardK t33 false (fun K => K a1 w) w fun t37 w =>
GuardK t33 false (fun K => K t29 w) w fun t38 w =>
GuardK t33 false (fun K => Do P (binOp BinOp.sub 3 t37 t38) w K X) w fun t39 w =>
GuardK t33 false (fun K => Do P (binOp BinOp.gtr 3 t36 t39) w K X) w fun t40 w =>
Do P (pickS t33 (Value.bool true) t40) w (fun t41 w =>
If t41
(R (Value.tuple #[(Value.int IntKind.i64 0), (Value.bool false)]) w)
(Do P (binOp BinOp.mul 3 x6 (Value.int IntKind.i64 10)) w (fun t43 w =>
Do P (binOp BinOp.add 3 t43 t29) w (fun t45 w =>
N t45 w) X) X)) X) X) X) X) X)) X) X) X)
(E0 x6 w)) X) X
def f81.f (R : Value → World → Prop) (X : List PanicEntry → World → Prop) (a0 a1 : Value) (w : World) : Prop :=
Do P (binS BinOp.eql 9 (Operand.tmp 10) (Operand.const (Value.string (ByteArray.mk #[]))) a0 (Value.string (ByteArray.mk #[]))) w (fun t11 w =>
GuardK t11 false (fun K => K a1 w) w fun t13 w =>
GuardK t11 false (fun K => Do P (binOp BinOp.lss 3 t13 (Value.int IntKind.i64 0)) w K X) w fun t14 w =>
Do P (pickS t11 (Value.bool true) t14) w (fun t15 w =>
If t15
(R (Value.tuple #[(Value.int IntKind.i64 0), (Value.bool false)]) w)
(Do P (Instr.range 9 a0) w (fun t17 w =>
∃ I : Nat → Value → World → Prop, (∃ k, I k (Value.int IntKind.i64 0) w) ∧ ∀ (k : Nat) (σ : Env) (w : World), I k (σ 6) w →
f81.l0 R X (fun (y6 : Value) w => ∃ k', k' < k ∧ I k' y6 w) (fun (z6 : Value) w =>
R (Value.tuple #[z6, (Value.bool true)]) w) a1 t17 (σ 6) w) X)) X) X
def f81.ann : Ann := [(122, [6], .done)]
theorem f81.awp_eq (R : Value → World → Prop) (X : List PanicEntry → World → Prop) (a0 a1 : Value) (w : World) : awp P 47 f81.ann X 1 (bodyOf Tryd.f81) (retE P [(ResultVar.tmp 4), (ResultVar.tmp 5)] R) (argE [a0, a1]) w = f81.f R X a0 a1 w := by kernel_rfl
theorem f81.calls {R : Value → World → Prop} {X : List PanicEntry → World → Prop} {a0 a1 : Value} {w : World} (h : f81.f R X a0 a1 w) : Calls P 81 #[a0, a1] w (retd R X) :=
  calls_of_awp mixed Tryd.func81 rfl Tryd.ntmps81 (by rw [Tryd.results81]) (Nat.le_of_ble_eq_true rfl) (f81.awp_eq R X a0 a1 w ▸ h)
theorem f81.enters (args : Array Value) (w : World) : (callFunc 81 args).run P w = .ok (.enter 81 args) w := by kernel_rfl

/-! ### 92: stint/digits.words -/
def f92.l0 (R : Value → World → Prop) (X : List PanicEntry → World → Prop) (N : Value → World → Prop) (E0 : World → Prop) (a0 t6 x7 : Value) (w : World) : Prop :=
Do P (binOp BinOp.lss 3 x7 t6) w (fun t8 w =>
If t8
(Do P (Instr.indexAt 50 a0 x7) w (fun t9 w =>
Do P (Instr.loadAt 9 t9) w (fun t10 w =>
CallF P 100 [t10] w (fun t12 w =>
Do P (Op.unary UnOp.not t12) w (fun t13 w =>
If t13
(R (Value.bool false) w)
(Do P (binOp BinOp.add 3 x7 (Value.int IntKind.i64 1)) w (fun t14 w =>
N t14 w) X)) X) X) X) X)
(E0 w)) X
def f92.f (R : Value → World → Prop) (X : List PanicEntry → World → Prop) (a0 : Value) (w : World) : Prop :=
Do P (Builtin.len_ #[50] 3 #[a0]) w (fun t6 w =>
∃ I : Nat → Value → World → Prop, (∃ k, I k (Value.int IntKind.i64 0) w) ∧ ∀ (k : Nat) (σ : Env) (w : World), I k (σ 7) w →
f92.l0 R X (fun (y7 : Value) w => ∃ k', k' < k ∧ I k' y7 w) (fun w =>
Do P (Builtin.len_ #[50] 3 #[a0]) w (fun t16 w =>
Do P (binOp BinOp.gtr 3 t16 (Value.int IntKind.i64 0)) w (fun t17 w =>
R t17 w) X) X) a0 t6 (σ 7) w) X
def f92.ann : Ann := [(26, [7], .done)]
theorem f92.awp_eq (R : Value → World → Prop) (X : List PanicEntry → World → Prop) (a0 : Value) (w : World) : awp P 18 f92.ann X 1 (bodyOf Tryd.f92) (retE P [(ResultVar.tmp 2)] R) (argE [a0]) w = f92.f R X a0 w := by kernel_rfl
theorem f92.calls {R : Value → World → Prop} {X : List PanicEntry → World → Prop} {a0 : Value} {w : World} (h : f92.f R X a0 w) : Calls P 92 #[a0] w (retd R X) :=
  calls_of_awp mixed Tryd.func92 rfl Tryd.ntmps92 (by rw [Tryd.results92]) (Nat.le_of_ble_eq_true rfl) (f92.awp_eq R X a0 w ▸ h)
theorem f92.enters (args : Array Value) (w : World) : (callFunc 92 args).run P w = .ok (.enter 92 args) w := by kernel_rfl

/-! ### 100: stint/digits.Word -/
def f100.l0 (R : Value → World → Prop) (X : List PanicEntry → World → Prop) (N : World → Prop) (E0 : World → Prop) (t6 : Value) (w : World) : Prop :=
Do P (Instr.next t6 true 0) w (fun t7 w =>
Do P (Instr.extract t7 0) w (fun t8 w =>
If t8
(Do P (Instr.extract t7 2) w (fun t9 w =>
Do P (binOp BinOp.lss 21 t9 (Value.int IntKind.i32 33)) w (fun t11 w =>
GuardK t11 false (fun K => K t9 w) w fun t13 w =>
GuardK t11 false (fun K => Do P (binOp BinOp.gtr 21 t13 (Value.int IntKind.i32 126)) w K X) w fun t14 w =>
Do P (pickS t11 (Value.bool true) t14) w (fun t15 w =>
If t15
(R (Value.bool false) w)
(N w)) X) X) X)
(E0 w)) X) X
def f100.f (R : Value → World → Prop) (X : List PanicEntry → World → Prop) (a0 : Value) (w : World) : Prop :=
Do P (Instr.range 9 a0) w (fun t6 w =>
∃ I : Nat → World → Prop, (∃ k, I k  w) ∧ ∀ (k : Nat) (σ : Env) (w : World), I k w →
f100.l0 R X (fun w => ∃ k', k' < k ∧ I k' w) (fun w =>
Do P (binS BinOp.neq 9 (Operand.tmp 16) (Operand.const (Value.string (ByteArray.mk #[]))) a0 (Value.string (ByteArray.mk #[]))) w (fun t17 w =>
R t17 w) X) t6 w) X
def f100.ann : Ann := [(26, [], .done)]
theorem f100.awp_eq (R : Value → World → Prop) (X : List PanicEntry → World → Prop) (a0 : Value) (w : World) : awp P 18 f100.ann X 1 (bodyOf Tryd.f100) (retE P [(ResultVar.tmp 2)] R) (argE [a0]) w = f100.f R X a0 w := by kernel_rfl
theorem f100.calls {R : Value → World → Prop} {X : List PanicEntry → World → Prop} {a0 : Value} {w : World} (h : f100.f R X a0 w) : Calls P 100 #[a0] w (retd R X) :=
  calls_of_awp mixed Tryd.func100 rfl Tryd.ntmps100 (by rw [Tryd.results100]) (Nat.le_of_ble_eq_true rfl) (f100.awp_eq R X a0 w ▸ h)
theorem f100.enters (args : Array Value) (w : World) : (callFunc 100 args).run P w = .ok (.enter 100 args) w := by kernel_rfl

/-! ### 39: stint/digits.Print -/
def f39.f (R : Value → World → Prop) (X : List PanicEntry → World → Prop) (a0 : Value) (w : World) : Prop :=
Do P (binOp BinOp.lss 3 a0 (Value.int IntKind.i64 0)) w (fun t4 w =>
If t4
(R (Value.string (ByteArray.mk #[])) w)
(CallF P 68 [a0] w (fun t6 w =>
R t6 w) X)) X
def f39.ann : Ann := []
theorem f39.awp_eq (R : Value → World → Prop) (X : List PanicEntry → World → Prop) (a0 : Value) (w : World) : awp P 7 f39.ann X 1 (bodyOf Tryd.f39) (retE P [(ResultVar.tmp 2)] R) (argE [a0]) w = f39.f R X a0 w := by kernel_rfl
theorem f39.calls {R : Value → World → Prop} {X : List PanicEntry → World → Prop} {a0 : Value} {w : World} (h : f39.f R X a0 w) : Calls P 39 #[a0] w (retd R X) :=
  calls_of_awp mixed Tryd.func39 rfl Tryd.ntmps39 (by rw [Tryd.results39]) (Nat.le_of_ble_eq_true rfl) (f39.awp_eq R X a0 w ▸ h)
theorem f39.enters (args : Array Value) (w : World) : (callFunc 39 args).run P w = .ok (.enter 39 args) w := by kernel_rfl

/-! ### 36: stint/record.CheckConfig -/
def f36.f (R : Value → World → Prop) (X : List PanicEntry → World → Prop) (a0 : Value) (w : World) : Prop :=
Do P (Instr.box 28 a0) w (fun t1 w =>
Do P (Instr.fieldAt 28 t1 0) w (fun t4 w =>
Do P (Instr.loadAt 3 t4) w (fun t5 w =>
CallF P 65 [t5, (Value.int IntKind.i64 1), (Value.int IntKind.i64 65535)] w (fun t6 w =>
GuardK t6 true (fun K => Do P (Instr.fieldAt 28 t1 1) w K X) w fun t8 w =>
GuardK t6 true (fun K => Do P (Instr.loadAt 3 t8) w K X) w fun t9 w =>
GuardK t6 true (fun K => CallF P 65 [t9, (Value.int IntKind.i64 128), (Value.int IntKind.i64 1048576)] w K X) w fun t10 w =>
Do P (pickS t6 t10 (Value.bool false)) w (fun t11 w =>
GuardK t11 true (fun K => Do P (Instr.fieldAt 28 t1 2) w K X) w fun t13 w =>
GuardK t11 true (fun K => Do P (Instr.loadAt 3 t13) w K X) w fun t14 w =>
GuardK t11 true (fun K => CallF P 65 [t14, (Value.int IntKind.i64 1024), (Value.int IntKind.i64 67108864)] w K X) w fun t15 w =>
Do P (pickS t11 t15 (Value.bool false)) w (fun t16 w =>
GuardK t16 true (fun K => Do P (Instr.fieldAt 28 t1 1) w K X) w fun t18 w =>
GuardK t16 true (fun K => Do P (Instr.loadAt 3 t18) w K X) w fun t19 w =>
GuardK t16 true (fun K => Do P (binOp BinOp.mul 3 (Value.int IntKind.i64 4) t19) w K X) w fun t20 w =>
GuardK t16 true (fun K => Do P (Instr.fieldAt 28 t1 2) w K X) w fun t21 w =>
GuardK t16 true (fun K => Do P (Instr.loadAt 3 t21) w K X) w fun t22 w =>
GuardK t16 true (fun K => Do P (binOp BinOp.leq 3 t20 t22) w K X) w fun t23 w =>
Do P (pickS t16 t23 (Value.bool false)) w (fun t24 w =>
Do P (Op.unary UnOp.not t24) w (fun t26 w =>
If t26
(R (Value.int IntKind.i64 103) w)
(R (Value.int IntKind.i64 0) w)) X) X) X) X) X) X) X) X
def f36.ann : Ann := []
theorem f36.awp_eq (R : Value → World → Prop) (X : List PanicEntry → World → Prop) (a0 : Value) (w : World) : awp P 27 f36.ann X 1 (bodyOf Tryd.f36) (retE P [(ResultVar.tmp 2)] R) (argE [a0]) w = f36.f R X a0 w := by kernel_rfl
theorem f36.calls {R : Value → World → Prop} {X : List PanicEntry → World → Prop} {a0 : Value} {w : World} (h : f36.f R X a0 w) : Calls P 36 #[a0] w (retd R X) :=
  calls_of_awp mixed Tryd.func36 rfl Tryd.ntmps36 (by rw [Tryd.results36]) (Nat.le_of_ble_eq_true rfl) (f36.awp_eq R X a0 w ▸ h)
theorem f36.enters (args : Array Value) (w : World) : (callFunc 36 args).run P w = .ok (.enter 36 args) w := by kernel_rfl

/-! ### 65: stint/record.within -/
def f65.f (R : Value → World → Prop) (X : List PanicEntry → World → Prop) (a0 a1 a2 : Value) (w : World) : Prop :=
Do P (binOp BinOp.geq 3 a0 a1) w (fun t9 w =>
GuardK t9 true (fun K => K a0 w) w fun t11 w =>
GuardK t9 true (fun K => K a2 w) w fun t12 w =>
GuardK t9 true (fun K => Do P (binOp BinOp.leq 3 t11 t12) w K X) w fun t13 w =>
Do P (pickS t9 t13 (Value.bool false)) w (fun t14 w =>
R t14 w) X) X
def f65.ann : Ann := []
theorem f65.awp_eq (R : Value → World → Prop) (X : List PanicEntry → World → Prop) (a0 a1 a2 : Value) (w : World) : awp P 15 f65.ann X 1 (bodyOf Tryd.f65) (retE P [(ResultVar.tmp 6)] R) (argE [a0, a1, a2]) w = f65.f R X a0 a1 a2 w := by kernel_rfl
theorem f65.calls {R : Value → World → Prop} {X : List PanicEntry → World → Prop} {a0 a1 a2 : Value} {w : World} (h : f65.f R X a0 a1 a2 w) : Calls P 65 #[a0, a1, a2] w (retd R X) :=
  calls_of_awp mixed Tryd.func65 rfl Tryd.ntmps65 (by rw [Tryd.results65]) (Nat.le_of_ble_eq_true rfl) (f65.awp_eq R X a0 a1 a2 w ▸ h)
theorem f65.enters (args : Array Value) (w : World) : (callFunc 65 args).run P w = .ok (.enter 65 args) w := by kernel_rfl

/-! ### 8: stint/stintlaw19.shown -/
def f8.f (R : Value → World → Prop) (X : List PanicEntry → World → Prop) (w : World) : Prop :=
CallF P 9 [(Value.string (ByteArray.mk (List.toArray (List.append [115, 116, 105, 110, 116, 32, 49, 48, 48, 32, 50, 53, 54, 32, 52, 48, 57, 54, 10, 35, 32, 97, 32, 114, 101, 109, 97, 114, 107, 10, 111, 112, 101, 110, 32, 49, 10, 102, 101, 101, 100, 32, 49] [32, 61, 97, 92, 115, 92, 120, 48, 48, 92, 114, 92, 110, 32, 98, 114, 101, 97, 107, 32, 51, 32, 107, 101, 101, 112, 32, 48, 32, 55, 10, 99, 114, 97, 115, 104, 32, 107, 101, 101, 112, 32, 53, 10]))))] w (fun t13 w =>
Do P (Instr.extract t13 0) w (fun t14 w =>
Do P (Instr.extract t13 1) w (fun t15 w =>
Do P (Instr.extract t13 2) w (fun t16 w =>
Do P (Instr.alloc 31 true (Value.tuple #[])) w (fun t2 w =>
DoU P (Instr.storeAt 31 t2 t14) w (fun _ w =>
Do P (binS BinOp.neq 32 (Operand.tmp 17) (Operand.const (Value.int IntKind.i64 0)) t16 (Value.int IntKind.i64 0)) w (fun t18 w =>
GuardK t18 false (fun K => K t15 w) w fun t20 w =>
GuardK t18 false (fun K => Do P (binS BinOp.neq 3 (Operand.tmp 20) (Operand.const (Value.int IntKind.i64 0)) t20 (Value.int IntKind.i64 0)) w K X) w fun t21 w =>
Do P (pickS t18 (Value.bool true) t21) w (fun t22 w =>
GuardK t22 false (fun K => Do P (Instr.fieldAt 31 t2 0) w K X) w fun t24 w =>
GuardK t22 false (fun K => Do P (Instr.loadAt 28 t24) w K X) w fun t25 w =>
GuardK t22 false (fun K => Do P (Instr.build 28 #[(0, (Value.int IntKind.i64 100)), (1, (Value.int IntKind.i64 256)), (2, (Value.int IntKind.i64 4096))]) w K X) w fun t26 w =>
GuardK t22 false (fun K => Do P (binS BinOp.neq 28 (Operand.tmp 25) (Operand.tmp 26) t25 t26) w K X) w fun t27 w =>
Do P (pickS t22 (Value.bool true) t27) w (fun t28 w =>
GuardK t28 false (fun K => Do P (Instr.fieldAt 31 t2 1) w K X) w fun t30 w =>
GuardK t28 false (fun K => Do P (Instr.loadAt 29 t30) w K X) w fun t31 w =>
GuardK t28 false (fun K => Do P (Builtin.len_ #[29] 3 #[t31]) w K X) w fun t32 w =>
GuardK t28 false (fun K => Do P (binS BinOp.neq 3 (Operand.tmp 32) (Operand.const (Value.int IntKind.i64 3)) t32 (Value.int IntKind.i64 3)) w K X) w fun t33 w =>
Do P (pickS t28 (Value.bool true) t33) w (fun t34 w =>
If t34
(R (Value.bool false) w)
(Do P (Instr.fieldAt 31 t2 1) w (fun t35 w =>
Do P (Instr.loadAt 29 t35) w (fun t36 w =>
Do P (Instr.indexAt 29 t36 (Value.int IntKind.i64 1)) w (fun t37 w =>
Do P (Instr.loadAt 44 t37) w (fun t38 w =>
Do P (Instr.alloc 44 true (Value.tuple #[])) w (fun t5 w =>
DoU P (Instr.storeAt 44 t5 t38) w (fun _ w =>
Do P (Instr.loadAt 31 t2) w (fun t40 w =>
CallF P 16 [t40] w (fun t41 w =>
Do P (Instr.extract t41 0) w (fun t42 w =>
Do P (Instr.extract t41 1) w (fun t43 w =>
CallF P 9 [(Value.string (ByteArray.mk #[115, 116, 105, 110, 116, 32, 49, 48, 48, 32, 50, 53, 54, 32, 52, 48, 57, 54, 10, 84, 105, 99, 107]))] w (fun t45 w =>
Do P (Instr.extract t45 0) w (fun t46 w =>
Do P (Instr.extract t45 1) w (fun t47 w =>
Do P (Instr.extract t45 2) w (fun t48 w =>
Do P (Instr.alloc 31 true (Value.tuple #[])) w (fun t8 w =>
DoU P (Instr.storeAt 31 t8 t46) w (fun _ w =>
∃ S : World → Prop, S (drewW w) ∧ (fun w =>
Take P S (Instr.fieldAt 44 t5 0) fun t49 =>
Take P S (Instr.loadAt 3 t49) fun t50 =>
Take P S (binS BinOp.eql 3 (Operand.tmp 50) (Operand.const (Value.int IntKind.i64 2)) t50 (Value.int IntKind.i64 2)) fun t51 =>
GuardT t51 true (fun K => Take P S (Instr.fieldAt 44 t5 1) K) fun t53 =>
GuardT t51 true (fun K => Take P S (Instr.loadAt 3 t53) K) fun t54 =>
GuardT t51 true (fun K => Take P S (binS BinOp.eql 3 (Operand.tmp 54) (Operand.const (Value.int IntKind.i64 1)) t54 (Value.int IntKind.i64 1)) K) fun t55 =>
Take P S (pickS t51 t55 (Value.bool false)) fun t56 =>
GuardT t56 true (fun K => Take P S (Instr.fieldAt 44 t5 2) K) fun t58 =>
GuardT t56 true (fun K => Take P S (Instr.loadAt 41 t58) K) fun t59 =>
GuardK t56 true (fun K => Do P (convert 41 9 t59) w K X) w fun t60 w =>
S w ∧ GuardT t56 true (fun K => Take P S (binS BinOp.eql 9 (Operand.tmp 60) (Operand.const (Value.string (ByteArray.mk #[97, 32, 0, 13, 10]))) t60 (Value.string (ByteArray.mk #[97, 32, 0, 13, 10]))) K) fun t61 =>
Take P S (pickS t56 t61 (Value.bool false)) fun t62 =>
GuardT t62 true (fun K => Take P S (Instr.fieldAt 44 t5 3) K) fun t64 =>
GuardT t62 true (fun K => Take P S (Instr.loadAt 3 t64) K) fun t65 =>
GuardT t62 true (fun K => Take P S (binS BinOp.eql 3 (Operand.tmp 65) (Operand.const (Value.int IntKind.i64 3)) t65 (Value.int IntKind.i64 3)) K) fun t66 =>
Take P S (pickS t62 t66 (Value.bool false)) fun t67 =>
GuardT t67 true (fun K => Take P S (Instr.fieldAt 44 t5 4) K) fun t69 =>
GuardT t67 true (fun K => Take P S (Instr.loadAt 42 t69) K) fun t70 =>
GuardT t67 true (fun K => Take P S (Builtin.len_ #[42] 3 #[t70]) K) fun t71 =>
GuardT t67 true (fun K => Take P S (binS BinOp.eql 3 (Operand.tmp 71) (Operand.const (Value.int IntKind.i64 2)) t71 (Value.int IntKind.i64 2)) K) fun t72 =>
Take P S (pickS t67 t72 (Value.bool false)) fun t73 =>
GuardT t73 true (fun K => Take P S (Instr.fieldAt 44 t5 4) K) fun t75 =>
GuardT t73 true (fun K => Take P S (Instr.loadAt 42 t75) K) fun t76 =>
GuardT t73 true (fun K => Take P S (Instr.indexAt 42 t76 (Value.int IntKind.i64 1)) K) fun t77 =>
GuardT t73 true (fun K => Take P S (Instr.loadAt 3 t77) K) fun t78 =>
GuardT t73 true (fun K => Take P S (binS BinOp.eql 3 (Operand.tmp 78) (Operand.const (Value.int IntKind.i64 7)) t78 (Value.int IntKind.i64 7)) K) fun t79 =>
Take P S (pickS t73 t79 (Value.bool false)) fun t80 =>
GuardT t80 true (fun K => K t43) fun t82 =>
GuardT t80 true (fun K => Take P S (binS BinOp.eql 32 (Operand.tmp 82) (Operand.const (Value.int IntKind.i64 0)) t82 (Value.int IntKind.i64 0)) K) fun t83 =>
Take P S (pickS t80 t83 (Value.bool false)) fun t84 =>
GuardT t84 true (fun K => K t42) fun t86 =>
GuardT t84 true (fun K => K (Value.string (ByteArray.mk (List.toArray (List.append [115, 116, 105, 110, 116, 32, 49, 48, 48, 32, 50, 53, 54, 32, 52, 48, 57, 54, 10, 35, 32, 97, 32, 114, 101, 109, 97, 114, 107, 10, 111, 112, 101, 110, 32, 49, 10, 102, 101, 101, 100, 32, 49] [32, 61, 97, 92, 115, 92, 120, 48, 48, 92, 114, 92, 110, 32, 98, 114, 101, 97, 107, 32, 51, 32, 107, 101, 101, 112, 32, 48, 32, 55, 10, 99, 114, 97, 115, 104, 32, 107, 101, 101, 112, 32, 53, 10]))))) fun t87 =>
GuardT t84 true (fun K => Take P S (Instr.sliceAt 9 t87 none (some (Value.int IntKind.i64 19)) none) K) fun t88 =>
GuardT t84 true (fun K => K (Value.string (ByteArray.mk (List.toArray (List.append [115, 116, 105, 110, 116, 32, 49, 48, 48, 32, 50, 53, 54, 32, 52, 48, 57, 54, 10, 35, 32, 97, 32, 114, 101, 109, 97, 114, 107, 10, 111, 112, 101, 110, 32, 49, 10, 102, 101, 101, 100, 32, 49] [32, 61, 97, 92, 115, 92, 120, 48, 48, 92, 114, 92, 110, 32, 98, 114, 101, 97, 107, 32, 51, 32, 107, 101, 101, 112, 32, 48, 32, 55, 10, 99, 114, 97, 115, 104, 32, 107, 101, 101, 112, 32, 53, 10]))))) fun t89 =>
GuardT t84 true (fun K => Take P S (Instr.sliceAt 9 t89 (some (Value.int IntKind.i64 30)) none none) K) fun t90 =>
GuardT t84 true (fun K => Take P S (binOp BinOp.add 9 t88 t90) K) fun t91 =>
GuardT t84 true (fun K => Take P S (binS BinOp.eql 9 (Operand.tmp 86) (Operand.tmp 91) t86 t91) K) fun t92 =>
Take P S (pickS t84 t92 (Value.bool false)) fun t93 =>
GuardT t93 true (fun K => K t47) fun t95 =>
GuardT t93 true (fun K => Take P S (binS BinOp.eql 3 (Operand.tmp 95) (Operand.const (Value.int IntKind.i64 2)) t95 (Value.int IntKind.i64 2)) K) fun t96 =>
Take P S (pickS t93 t96 (Value.bool false)) fun t97 =>
GuardT t97 true (fun K => K t48) fun t99 =>
GuardT t97 true (fun K => Take P S (binS BinOp.eql 32 (Operand.tmp 99) (Operand.const (Value.int IntKind.i64 191)) t99 (Value.int IntKind.i64 191)) K) fun t100 =>
Take P S (pickS t97 t100 (Value.bool false)) fun t101 =>
R t101 w) (drewW w)) X) X) X) X) X) X) X) X) X) X) X) X) X) X) X) X)) X) X) X) X) X) X) X) X) X) X
def f8.ann : Ann := [(510, [], (.take 0 (.take 1 (.take 2 (.take 3 (.take 4 (.take 5 (.take 6 (.take 7 (.take 8 (.take 9 (.take 10 (.come 11 (.take 12 (.take 13 (.take 14 (.take 15 (.take 16 (.take 17 (.take 18 (.take 19 (.take 20 (.take 21 (.take 22 (.take 23 (.take 24 (.take 25 (.take 26 (.take 27 (.take 28 (.take 29 (.take 30 (.take 31 (.take 32 (.take 33 (.take 34 (.take 35 (.take 36 (.take 37 (.take 38 (.take 39 (.take 40 (.take 41 (.take 42 (.take 43 (.take 44 (.take 45 (.take 46 (.take 47 (.take 48 (.take 49 (.take 50 (.take 51 (.take 52 (.take 53 .done)))))))))))))))))))))))))))))))))))))))))) .done)))))))))))))]
theorem f8.awp_eq (R : Value → World → Prop) (X : List PanicEntry → World → Prop) (w : World) : awp P 102 f8.ann X 1 (bodyOf Tryd.f8) (retE P [(ResultVar.tmp 0)] R) (argE []) w = f8.f R X w := by kernel_rfl
theorem f8.calls {R : Value → World → Prop} {X : List PanicEntry → World → Prop} {w : World} (h : f8.f R X w) : Calls P 8 #[] w (retd R X) :=
  calls_of_awp mixed Tryd.func8 rfl Tryd.ntmps8 (by rw [Tryd.results8]) (Nat.le_of_ble_eq_true rfl) (f8.awp_eq R X w ▸ h)
theorem f8.enters (args : Array Value) (w : World) : (callFunc 8 args).run P w = .ok (.enter 8 args) w := by kernel_rfl

/-! ### 13: stint/stintlaw19.same -/
def f13.l0 (R : Value → World → Prop) (X : List PanicEntry → World → Prop) (N : Value → World → Prop) (E0 : World → Prop) (t2 t3 x5 : Value) (w : World) : Prop :=
Do P (Instr.fieldAt 31 t2 1) w (fun t22 w =>
Do P (Instr.loadAt 29 t22) w (fun t23 w =>
Do P (Builtin.len_ #[29] 3 #[t23]) w (fun t24 w =>
Do P (binOp BinOp.lss 3 x5 t24) w (fun t25 w =>
If t25
(∃ S : World → Prop, S (drewW w) ∧ (fun w =>
Take P S (Instr.fieldAt 31 t2 1) fun t28 =>
Take P S (Instr.loadAt 29 t28) fun t29 =>
Take P S (Instr.indexAt 29 t29 x5) fun t31 =>
Take P S (Instr.loadAt 44 t31) fun t32 =>
Take P S (Instr.fieldAt 31 t3 1) fun t33 =>
Take P S (Instr.loadAt 29 t33) fun t34 =>
Take P S (Instr.indexAt 29 t34 x5) fun t36 =>
Take P S (Instr.loadAt 44 t36) fun t37 =>
CallF P 35 [t32, t37] w (fun t38 w =>
S w ∧ Do P (Op.unary UnOp.not t38) w (fun t40 w =>
If t40
(R (Value.bool false) w)
(Do P (binOp BinOp.add 3 x5 (Value.int IntKind.i64 1)) w (fun t27 w =>
N t27 w) X)) X) X) (drewW w))
(E0 w)) X) X) X) X
def f13.f (R : Value → World → Prop) (X : List PanicEntry → World → Prop) (a0 a1 : Value) (w : World) : Prop :=
Do P (Instr.box 31 a0) w (fun t2 w =>
Do P (Instr.box 31 a1) w (fun t3 w =>
Do P (Instr.fieldAt 31 t2 0) w (fun t7 w =>
Do P (Instr.loadAt 28 t7) w (fun t8 w =>
Do P (Instr.fieldAt 31 t3 0) w (fun t9 w =>
Do P (Instr.loadAt 28 t9) w (fun t10 w =>
Do P (binS BinOp.neq 28 (Operand.tmp 8) (Operand.tmp 10) t8 t10) w (fun t11 w =>
GuardK t11 false (fun K => Do P (Instr.fieldAt 31 t2 1) w K X) w fun t13 w =>
GuardK t11 false (fun K => Do P (Instr.loadAt 29 t13) w K X) w fun t14 w =>
GuardK t11 false (fun K => Do P (Builtin.len_ #[29] 3 #[t14]) w K X) w fun t15 w =>
GuardK t11 false (fun K => Do P (Instr.fieldAt 31 t3 1) w K X) w fun t16 w =>
GuardK t11 false (fun K => Do P (Instr.loadAt 29 t16) w K X) w fun t17 w =>
GuardK t11 false (fun K => Do P (Builtin.len_ #[29] 3 #[t17]) w K X) w fun t18 w =>
GuardK t11 false (fun K => Do P (binS BinOp.neq 3 (Operand.tmp 15) (Operand.tmp 18) t15 t18) w K X) w fun t19 w =>
Do P (pickS t11 (Value.bool true) t19) w (fun t20 w =>
If t20
(R (Value.bool false) w)
(∃ I : Nat → Value → World → Prop, (∃ k, I k (Value.int IntKind.i64 0) w) ∧ ∀ (k : Nat) (σ : Env) (w : World), I k (σ 5) w →
f13.l0 R X (fun (y5 : Value) w => ∃ k', k' < k ∧ I k' y5 w) (fun w =>
R (Value.bool true) w) t2 t3 (σ 5) w)) X) X) X) X) X) X) X) X
def f13.ann : Ann := [(58, [5], .done), (1864, [], (.take 0 (.take 1 (.take 2 (.take 3 (.take 4 (.take 5 (.take 6 (.take 7 (.take 8 (.take 9 (.come 10 (.take 11 .done) .done))))))))))))]
theorem f13.awp_eq (R : Value → World → Prop) (X : List PanicEntry → World → Prop) (a0 a1 : Value) (w : World) : awp P 41 f13.ann X 1 (bodyOf Tryd.f13) (retE P [(ResultVar.tmp 4)] R) (argE [a0, a1]) w = f13.f R X a0 a1 w := by kernel_rfl
theorem f13.calls {R : Value → World → Prop} {X : List PanicEntry → World → Prop} {a0 a1 : Value} {w : World} (h : f13.f R X a0 a1 w) : Calls P 13 #[a0, a1] w (retd R X) :=
  calls_of_awp mixed Tryd.func13 rfl Tryd.ntmps13 (by rw [Tryd.results13]) (Nat.le_of_ble_eq_true rfl) (f13.awp_eq R X a0 a1 w ▸ h)
theorem f13.enters (args : Array Value) (w : World) : (callFunc 13 args).run P w = .ok (.enter 13 args) w := by kernel_rfl

/-! ### 35: stint/stintlaw19.sameStep -/
def f35.f (R : Value → World → Prop) (X : List PanicEntry → World → Prop) (a0 a1 : Value) (w : World) : Prop :=
Do P (Instr.box 44 a0) w (fun t2 w =>
Do P (Instr.box 44 a1) w (fun t3 w =>
Do P (Instr.fieldAt 44 t2 4) w (fun t6 w =>
Do P (Instr.loadAt 42 t6) w (fun t7 w =>
Do P (Instr.fieldAt 44 t3 4) w (fun t8 w =>
Do P (Instr.loadAt 42 t8) w (fun t9 w =>
CallF P 64 [t7, t9] w (fun t10 w =>
GuardK t10 true (fun K => Do P (Instr.fieldAt 44 t2 0) w K X) w fun t13 w =>
GuardK t10 true (fun K => Do P (Instr.loadAt 3 t13) w K X) w fun t14 w =>
GuardK t10 true (fun K => Do P (Instr.fieldAt 44 t3 0) w K X) w fun t15 w =>
GuardK t10 true (fun K => Do P (Instr.loadAt 3 t15) w K X) w fun t16 w =>
GuardK t10 true (fun K => Do P (binS BinOp.eql 3 (Operand.tmp 14) (Operand.tmp 16) t14 t16) w K X) w fun t17 w =>
Do P (pickS t10 t17 (Value.bool false)) w (fun t18 w =>
GuardK t18 true (fun K => Do P (Instr.fieldAt 44 t2 1) w K X) w fun t20 w =>
GuardK t18 true (fun K => Do P (Instr.loadAt 3 t20) w K X) w fun t21 w =>
GuardK t18 true (fun K => Do P (Instr.fieldAt 44 t3 1) w K X) w fun t22 w =>
GuardK t18 true (fun K => Do P (Instr.loadAt 3 t22) w K X) w fun t23 w =>
GuardK t18 true (fun K => Do P (binS BinOp.eql 3 (Operand.tmp 21) (Operand.tmp 23) t21 t23) w K X) w fun t24 w =>
Do P (pickS t18 t24 (Value.bool false)) w (fun t25 w =>
GuardK t25 true (fun K => Do P (Instr.fieldAt 44 t2 3) w K X) w fun t27 w =>
GuardK t25 true (fun K => Do P (Instr.loadAt 3 t27) w K X) w fun t28 w =>
GuardK t25 true (fun K => Do P (Instr.fieldAt 44 t3 3) w K X) w fun t29 w =>
GuardK t25 true (fun K => Do P (Instr.loadAt 3 t29) w K X) w fun t30 w =>
GuardK t25 true (fun K => Do P (binS BinOp.eql 3 (Operand.tmp 28) (Operand.tmp 30) t28 t30) w K X) w fun t31 w =>
Do P (pickS t25 t31 (Value.bool false)) w (fun t32 w =>
GuardK t32 true (fun K => Do P (Instr.fieldAt 44 t2 2) w K X) w fun t34 w =>
GuardK t32 true (fun K => Do P (Instr.loadAt 41 t34) w K X) w fun t35 w =>
GuardK t32 true (fun K => Do P (convert 41 9 t35) w K X) w fun t36 w =>
GuardK t32 true (fun K => Do P (Instr.fieldAt 44 t3 2) w K X) w fun t37 w =>
GuardK t32 true (fun K => Do P (Instr.loadAt 41 t37) w K X) w fun t38 w =>
GuardK t32 true (fun K => Do P (convert 41 9 t38) w K X) w fun t39 w =>
GuardK t32 true (fun K => Do P (binS BinOp.eql 9 (Operand.tmp 36) (Operand.tmp 39) t36 t39) w K X) w fun t40 w =>
Do P (pickS t32 t40 (Value.bool false)) w (fun t41 w =>
R t41 w) X) X) X) X) X) X) X) X) X) X) X
def f35.ann : Ann := []
theorem f35.awp_eq (R : Value → World → Prop) (X : List PanicEntry → World → Prop) (a0 a1 : Value) (w : World) : awp P 42 f35.ann X 1 (bodyOf Tryd.f35) (retE P [(ResultVar.tmp 4)] R) (argE [a0, a1]) w = f35.f R X a0 a1 w := by kernel_rfl
theorem f35.calls {R : Value → World → Prop} {X : List PanicEntry → World → Prop} {a0 a1 : Value} {w : World} (h : f35.f R X a0 a1 w) : Calls P 35 #[a0, a1] w (retd R X) :=
  calls_of_awp mixed Tryd.func35 rfl Tryd.ntmps35 (by rw [Tryd.results35]) (Nat.le_of_ble_eq_true rfl) (f35.awp_eq R X a0 a1 w ▸ h)
theorem f35.enters (args : Array Value) (w : World) : (callFunc 35 args).run P w = .ok (.enter 35 args) w := by kernel_rfl

/-! ### 64: stint/stintlaw19.numbers -/
def f64.l0 (R : Value → World → Prop) (X : List PanicEntry → World → Prop) (N : Value → World → Prop) (E0 : World → Prop) (a0 a1 x5 : Value) (w : World) : Prop :=
Do P (Builtin.len_ #[42] 3 #[a0]) w (fun t13 w =>
Do P (binOp BinOp.lss 3 x5 t13) w (fun t14 w =>
If t14
(∃ S : World → Prop, S (drewW w) ∧ (fun w =>
Take P S (Instr.indexAt 42 a0 x5) fun t19 =>
Take P S (Instr.loadAt 3 t19) fun t20 =>
Take P S (Instr.indexAt 42 a1 x5) fun t23 =>
Take P S (Instr.loadAt 3 t23) fun t24 =>
Take P S (binS BinOp.neq 3 (Operand.tmp 20) (Operand.tmp 24) t20 t24) fun t25 =>
If t25
(R (Value.bool false) w)
(Do P (binOp BinOp.add 3 x5 (Value.int IntKind.i64 1)) w (fun t16 w =>
N t16 w) X)) (drewW w))
(E0 w)) X) X
def f64.f (R : Value → World → Prop) (X : List PanicEntry → World → Prop) (a0 a1 : Value) (w : World) : Prop :=
Do P (Builtin.len_ #[42] 3 #[a0]) w (fun t7 w =>
Do P (Builtin.len_ #[42] 3 #[a1]) w (fun t9 w =>
Do P (binS BinOp.neq 3 (Operand.tmp 7) (Operand.tmp 9) t7 t9) w (fun t10 w =>
If t10
(R (Value.bool false) w)
(∃ I : Nat → Value → World → Prop, (∃ k, I k (Value.int IntKind.i64 0) w) ∧ ∀ (k : Nat) (σ : Env) (w : World), I k (σ 5) w →
f64.l0 R X (fun (y5 : Value) w => ∃ k', k' < k ∧ I k' y5 w) (fun w =>
R (Value.bool true) w) a0 a1 (σ 5) w)) X) X) X
def f64.ann : Ann := [(58, [5], .done), (1864, [], (.take 0 (.take 1 (.take 2 (.take 3 (.take 4 (.take 5 (.take 6 (.take 7 (.take 8 .done))))))))))]
theorem f64.awp_eq (R : Value → World → Prop) (X : List PanicEntry → World → Prop) (a0 a1 : Value) (w : World) : awp P 26 f64.ann X 1 (bodyOf Tryd.f64) (retE P [(ResultVar.tmp 4)] R) (argE [a0, a1]) w = f64.f R X a0 a1 w := by kernel_rfl
theorem f64.calls {R : Value → World → Prop} {X : List PanicEntry → World → Prop} {a0 a1 : Value} {w : World} (h : f64.f R X a0 a1 w) : Calls P 64 #[a0, a1] w (retd R X) :=
  calls_of_awp mixed Tryd.func64 rfl Tryd.ntmps64 (by rw [Tryd.results64]) (Nat.le_of_ble_eq_true rfl) (f64.awp_eq R X a0 a1 w ▸ h)
theorem f64.enters (args : Array Value) (w : World) : (callFunc 64 args).run P w = .ok (.enter 64 args) w := by kernel_rfl

/-! ### 14: stint/stintlaw19.beyond -/
def f14.l0 (R : Value → World → Prop) (X : List PanicEntry → World → Prop) (N : Value → Value → World → Prop) (E0 : World → Prop) (t1 x3 x4 : Value) (w : World) : Prop :=
Do P (Instr.fieldAt 31 t1 1) w (fun t6 w =>
Do P (Instr.loadAt 29 t6) w (fun t7 w =>
Do P (Builtin.len_ #[29] 3 #[t7]) w (fun t8 w =>
Do P (binOp BinOp.lss 3 x4 t8) w (fun t9 w =>
If t9
(Do P (binOp BinOp.add 3 x3 (Value.int IntKind.i64 1)) w (fun t13 w =>
Do P (binOp BinOp.geq 3 t13 (Value.int IntKind.i64 2147483647)) w (fun t15 w =>
GuardK t15 false (fun K => Do P (Instr.fieldAt 31 t1 1) w K X) w fun t17 w =>
GuardK t15 false (fun K => Do P (Instr.loadAt 29 t17) w K X) w fun t18 w =>
GuardK t15 false (fun K => K x4 w) w fun t19 w =>
GuardK t15 false (fun K => Do P (Instr.indexAt 29 t18 t19) w K X) w fun t20 w =>
GuardK t15 false (fun K => Do P (Instr.fieldAt 44 t20 2) w K X) w fun t21 w =>
GuardK t15 false (fun K => Do P (Instr.loadAt 41 t21) w K X) w fun t22 w =>
GuardK t15 false (fun K => Do P (Builtin.len_ #[41] 3 #[t22]) w K X) w fun t23 w =>
GuardK t15 false (fun K => K t13 w) w fun t24 w =>
GuardK t15 false (fun K => Do P (binOp BinOp.sub 3 (Value.int IntKind.i64 2147483647) t24) w K X) w fun t25 w =>
GuardK t15 false (fun K => Do P (binOp BinOp.gtr 3 t23 t25) w K X) w fun t26 w =>
Do P (pickS t15 (Value.bool true) t26) w (fun t27 w =>
If t27
(R (Value.bool true) w)
(Do P (Instr.fieldAt 31 t1 1) w (fun t29 w =>
Do P (Instr.loadAt 29 t29) w (fun t30 w =>
Do P (Instr.indexAt 29 t30 x4) w (fun t32 w =>
Do P (Instr.fieldAt 44 t32 2) w (fun t33 w =>
Do P (Instr.loadAt 41 t33) w (fun t34 w =>
Do P (Builtin.len_ #[41] 3 #[t34]) w (fun t35 w =>
Do P (binOp BinOp.add 3 t13 t35) w (fun t36 w =>
Do P (Instr.fieldAt 31 t1 1) w (fun t37 w =>
Do P (Instr.loadAt 29 t37) w (fun t38 w =>
Do P (Instr.indexAt 29 t38 x4) w (fun t40 w =>
Do P (Instr.fieldAt 44 t40 4) w (fun t41 w =>
Do P (Instr.loadAt 42 t41) w (fun t42 w =>
Do P (Builtin.len_ #[42] 3 #[t42]) w (fun t43 w =>
Do P (binOp BinOp.sub 3 (Value.int IntKind.i64 2147483647) t36) w (fun t45 w =>
Do P (binOp BinOp.gtr 3 t43 t45) w (fun t46 w =>
If t46
(R (Value.bool true) w)
(Do P (Instr.fieldAt 31 t1 1) w (fun t48 w =>
Do P (Instr.loadAt 29 t48) w (fun t49 w =>
Do P (Instr.indexAt 29 t49 x4) w (fun t51 w =>
Do P (Instr.fieldAt 44 t51 4) w (fun t52 w =>
Do P (Instr.loadAt 42 t52) w (fun t53 w =>
Do P (Builtin.len_ #[42] 3 #[t53]) w (fun t54 w =>
Do P (binOp BinOp.add 3 t36 t54) w (fun t55 w =>
Do P (binOp BinOp.add 3 x4 (Value.int IntKind.i64 1)) w (fun t11 w =>
N t55 t11 w) X) X) X) X) X) X) X) X)) X) X) X) X) X) X) X) X) X) X) X) X) X) X) X)) X) X) X)
(E0 w)) X) X) X) X
def f14.f (R : Value → World → Prop) (X : List PanicEntry → World → Prop) (a0 : Value) (w : World) : Prop :=
Do P (Instr.box 31 a0) w (fun t1 w =>
∃ I : Nat → Value → Value → World → Prop, (∃ k, I k (Value.int IntKind.i64 0) (Value.int IntKind.i64 0) w) ∧ ∀ (k : Nat) (σ : Env) (w : World), I k (σ 3) (σ 4) w →
f14.l0 R X (fun (y3 : Value) (y4 : Value) w => ∃ k', k' < k ∧ I k' y3 y4 w) (fun w =>
R (Value.bool false) w) t1 (σ 3) (σ 4) w) X
def f14.ann : Ann := [(58, [3, 4], .done)]
theorem f14.awp_eq (R : Value → World → Prop) (X : List PanicEntry → World → Prop) (a0 : Value) (w : World) : awp P 56 f14.ann X 1 (bodyOf Tryd.f14) (retE P [(ResultVar.tmp 2)] R) (argE [a0]) w = f14.f R X a0 w := by kernel_rfl
theorem f14.calls {R : Value → World → Prop} {X : List PanicEntry → World → Prop} {a0 : Value} {w : World} (h : f14.f R X a0 w) : Calls P 14 #[a0] w (retd R X) :=
  calls_of_awp mixed Tryd.func14 rfl Tryd.ntmps14 (by rw [Tryd.results14]) (Nat.le_of_ble_eq_true rfl) (f14.awp_eq R X a0 w ▸ h)
theorem f14.enters (args : Array Value) (w : World) : (callFunc 14 args).run P w = .ok (.enter 14 args) w := by kernel_rfl

/-! ### 6: stint/stintlaw19.ScriptRemarks -/
def f6.l0 (X : List PanicEntry → World → Prop) (N : Value → Value → World → Prop) (E0 : Value → World → Prop) (a1 x11 x12 : Value) (w : World) : Prop :=
Do P (Builtin.len_ #[9] 3 #[a1]) w (fun t32 w =>
Do P (binOp BinOp.lss 3 x12 t32) w (fun t33 w =>
If t33
(Do P (Instr.index 9 a1 x12) w (fun t38 w =>
Do P (binS BinOp.neq 5 (Operand.tmp 38) (Operand.const (Value.int IntKind.u8 10)) t38 (Value.int IntKind.u8 10)) w (fun t39 w =>
If t39
(Do P (Instr.index 9 a1 x12) w (fun t43 w =>
Do P (Instr.buildSlice 41 1 #[(0, t43)]) w (fun t44 w =>
Do P (Builtin.append_ #[41, 41] 41 #[x11, t44]) w (fun t45 w =>
Do P (binOp BinOp.add 3 x12 (Value.int IntKind.i64 1)) w (fun t35 w =>
N t45 t35 w) X) X) X) X)
(Do P (binOp BinOp.add 3 x12 (Value.int IntKind.i64 1)) w (fun t35_1 w =>
N x11 t35_1 w) X)) X) X)
(E0 x11 w)) X) X
def f6.l2 (X : List PanicEntry → World → Prop) (N : Value → Value → Value → Value → World → Prop) (E0 : Value → Value → World → Prop) (a0 t27 t53 z11 x13 x14 x15 x16 : Value) (w : World) : Prop :=
Do P (Builtin.len_ #[9] 3 #[a0]) w (fun t63 w =>
Do P (binOp BinOp.lss 3 x16 t63) w (fun t64 w =>
GuardK t64 true (fun K => K x13 w) w fun t66 w =>
GuardK t64 true (fun K => Do P (Builtin.len_ #[41] 3 #[t66]) w K X) w fun t67 w =>
GuardK t64 true (fun K => Do P (binOp BinOp.leq 3 t67 (Value.int IntKind.i64 1048576)) w K X) w fun t68 w =>
Do P (pickS t64 t68 (Value.bool false)) w (fun t69 w =>
If t69
(Do P (Instr.index 9 a0 x16) w (fun t75 w =>
Do P (Instr.buildSlice 41 1 #[(0, t75)]) w (fun t76 w =>
Do P (Builtin.append_ #[41, 41] 41 #[x13, t76]) w (fun t77 w =>
Do P (Instr.index 9 a0 x16) w (fun t80 w =>
Do P (binS BinOp.neq 5 (Operand.tmp 80) (Operand.const (Value.int IntKind.u8 10)) t80 (Value.int IntKind.u8 10)) w (fun t81 w =>
If t81
(Do P (binOp BinOp.add 3 x16 (Value.int IntKind.i64 1)) w (fun t71 w =>
N t77 x14 x15 t71 w) X)
(Do P (binOp BinOp.add 3 x15 (Value.int IntKind.i64 1)) w (fun t83 w =>
Do P (binOp BinOp.rem 3 t83 t53) w (fun t86 w =>
Do P (binS BinOp.eql 3 (Operand.tmp 86) (Operand.const (Value.int IntKind.i64 0)) t86 (Value.int IntKind.i64 0)) w (fun t87 w =>
If t87
(Do P (Instr.buildSlice 41 1 #[(0, (Value.int IntKind.u8 10))]) w (fun t89 w =>
Do P (Builtin.append_ #[41, 41] 41 #[t77, t89]) w (fun t90 w =>
Do P (Builtin.append_ #[41, 41] 41 #[t90, z11]) w (fun t93 w =>
Do P (Instr.buildSlice 41 1 #[(0, (Value.int IntKind.u8 10))]) w (fun t95 w =>
Do P (Builtin.append_ #[41, 41] 41 #[t93, t95]) w (fun t96 w =>
Do P (binOp BinOp.lss 3 t83 t27) w (fun t99 w =>
If t99
(Do P (binOp BinOp.add 3 x14 (Value.int IntKind.i64 2)) w (fun t101 w =>
Do P (binOp BinOp.add 3 x16 (Value.int IntKind.i64 1)) w (fun t71_1 w =>
N t96 t101 t83 t71_1 w) X) X)
(Do P (binOp BinOp.add 3 x16 (Value.int IntKind.i64 1)) w (fun t71_2 w =>
N t96 x14 t83 t71_2 w) X)) X) X) X) X) X) X)
(Do P (binOp BinOp.add 3 x16 (Value.int IntKind.i64 1)) w (fun t71_3 w =>
N t77 x14 t83 t71_3 w) X)) X) X) X)) X) X) X) X) X)
(E0 x13 x14 w)) X) X) X
def f6.j3 (R : Value → World → Prop) (X : List PanicEntry → World → Prop) (t8 t17 t22 t28 t111 t112 x20 : Value) (w : World) : Prop :=
Do P (Instr.loadAt 31 t8) w (fun t119 w =>
Do P (Instr.loadAt 31 t17) w (fun t120 w =>
CallF P 13 [t119, t120] w (fun t121 w =>
GuardK t22 true (fun K => K t121 w) w fun t124 w =>
Do P (pickS t22 t124 (Value.bool false)) w (fun t125 w =>
GuardK t125 true (fun K => K t28 w) w fun t127 w =>
GuardK t125 true (fun K => K t112 w) w fun t128 w =>
GuardK t125 true (fun K => Do P (binS BinOp.eql 32 (Operand.tmp 127) (Operand.tmp 128) t127 t128) w K X) w fun t129 w =>
Do P (pickS t125 t129 (Value.bool false)) w (fun t130 w =>
GuardK t130 true (fun K => K t111 w) w fun t132 w =>
GuardK t130 true (fun K => K x20 w) w fun t133 w =>
GuardK t130 true (fun K => Do P (binS BinOp.eql 3 (Operand.tmp 132) (Operand.tmp 133) t132 t133) w K X) w fun t134 w =>
Do P (pickS t130 t134 (Value.bool false)) w (fun t135 w =>
R t135 w) X) X) X) X) X) X
def f6.j1 (R : Value → World → Prop) (X : List PanicEntry → World → Prop) (a0 t8 t22 t27 t28 z11 x2 : Value) (w : World) : Prop :=
Do P (binOp BinOp.rem 3 x2 (Value.int IntKind.i64 3)) w (fun t52 w =>
Do P (binOp BinOp.add 3 (Value.int IntKind.i64 1) t52) w (fun t53 w =>
Do P (Instr.buildSlice 41 0 #[]) w (fun t54 w =>
Do P (Builtin.append_ #[41, 41] 41 #[t54, z11]) w (fun t57 w =>
Do P (Instr.buildSlice 41 2 #[(0, (Value.int IntKind.u8 10)), (1, (Value.int IntKind.u8 10))]) w (fun t59 w =>
Do P (Builtin.append_ #[41, 41] 41 #[t57, t59]) w (fun t60 w =>
∃ I_1 : Nat → Value → Value → Value → Value → World → Prop, (∃ k, I_1 k t60 (Value.int IntKind.i64 2) (Value.int IntKind.i64 0) (Value.int IntKind.i64 0) w) ∧ ∀ (k_1 : Nat) (σ : Env) (w : World), I_1 k_1 (σ 13) (σ 14) (σ 15) (σ 16) w →
f6.l2 X (fun (y13 : Value) (y14 : Value) (y15 : Value) (y16 : Value) w => ∃ k', k' < k_1 ∧ I_1 k' y13 y14 y15 y16 w) (fun (z13 : Value) (z14 : Value) w =>
Do P (Builtin.len_ #[41] 3 #[z13]) w (fun t103 w =>
Do P (binOp BinOp.gtr 3 t103 (Value.int IntKind.i64 1048576)) w (fun t104 w =>
If t104
(R t22 w)
(Do P (convert 41 9 z13) w (fun t108 w =>
CallF P 9 [t108] w (fun t109 w =>
Do P (Instr.extract t109 0) w (fun t110 w =>
Do P (Instr.extract t109 1) w (fun t111 w =>
Do P (Instr.extract t109 2) w (fun t112 w =>
Do P (Instr.alloc 31 true (Value.tuple #[])) w (fun t17 w =>
DoU P (Instr.storeAt 31 t17 t110) w (fun _ w =>
∃ J_1 : Value → World → Prop, (∀ (σ : Env) (w : World), J_1 (σ 20) w →
f6.j3 R X t8 t17 t22 t28 t111 t112 (σ 20) w) ∧
Do P (binOp BinOp.gtr 3 t27 (Value.int IntKind.i64 0)) w (fun t115 w =>
If t115
(Do P (binOp BinOp.add 3 t27 z14) w (fun t118 w =>
J_1 t118 w) X)
(J_1 t27 w)) X) X) X) X) X) X) X) X)) X) X) a0 t27 t53 z11 (σ 13) (σ 14) (σ 15) (σ 16) w) X) X) X) X) X) X
def f6.f (R : Value → World → Prop) (X : List PanicEntry → World → Prop) (a0 a1 a2 : Value) (w : World) : Prop :=
CallF P 8 [] w (fun t22 w =>
CallF P 9 [a0] w (fun t25 w =>
Do P (Instr.extract t25 0) w (fun t26 w =>
Do P (Instr.extract t25 1) w (fun t27 w =>
Do P (Instr.extract t25 2) w (fun t28 w =>
Do P (Instr.alloc 31 true (Value.tuple #[])) w (fun t8 w =>
DoU P (Instr.storeAt 31 t8 t26) w (fun _ w =>
Do P (Instr.buildSlice 41 1 #[(0, (Value.int IntKind.u8 35))]) w (fun t29 w =>
∃ I : Nat → Value → Value → World → Prop, (∃ k, I k t29 (Value.int IntKind.i64 0) w) ∧ ∀ (k : Nat) (σ : Env) (w : World), I k (σ 11) (σ 12) w →
f6.l0 X (fun (y11 : Value) (y12 : Value) w => ∃ k', k' < k ∧ I k' y11 y12 w) (fun (z11 : Value) w =>
∃ J : Value → World → Prop, (∀ (σ : Env) (w : World), J (σ 2) w →
f6.j1 R X a0 t8 t22 t27 t28 z11 (σ 2) w) ∧
Do P (binOp BinOp.lss 3 a2 (Value.int IntKind.i64 0)) w (fun t47 w =>
If t47
(Do P (binOp BinOp.add 3 a2 (Value.int IntKind.i64 1)) w (fun t49 w =>
Do P (Op.unary UnOp.neg t49) w (fun t50 w =>
J t50 w) X) X)
(J a2 w)) X) a1 (σ 11) (σ 12) w) X) X) X) X) X) X) X) X
def f6.ann : Ann := [(250, [11, 12], .done), (63, [2], .done), (65530, [13, 14, 15, 16], .done), (131071, [20], .done)]
theorem f6.awp_eq (R : Value → World → Prop) (X : List PanicEntry → World → Prop) (a0 a1 a2 : Value) (w : World) : awp P 136 f6.ann X 1 (bodyOf Tryd.f6) (retE P [(ResultVar.tmp 6)] R) (argE [a0, a1, a2]) w = f6.f R X a0 a1 a2 w := by kernel_rfl
theorem f6.calls {R : Value → World → Prop} {X : List PanicEntry → World → Prop} {a0 a1 a2 : Value} {w : World} (h : f6.f R X a0 a1 a2 w) : Calls P 6 #[a0, a1, a2] w (retd R X) :=
  calls_of_awp mixed Tryd.func6 rfl Tryd.ntmps6 (by rw [Tryd.results6]) (Nat.le_of_ble_eq_true rfl) (f6.awp_eq R X a0 a1 a2 w ▸ h)
theorem f6.enters (args : Array Value) (w : World) : (callFunc 6 args).run P w = .ok (.enter 6 args) w := by kernel_rfl

/-! ### 5: stint/stintlaw19.ScriptBack -/
def f5.j0 (R : Value → World → Prop) (X : List PanicEntry → World → Prop) (a1 t23 : Value) (w : World) : Prop :=
CallF P 9 [a1] w (fun t57 w =>
Do P (Instr.extract t57 0) w (fun t58 w =>
Do P (Instr.extract t57 1) w (fun t59 w =>
Do P (Instr.extract t57 2) w (fun t60 w =>
Do P (Instr.alloc 31 true (Value.tuple #[])) w (fun t12 w =>
DoU P (Instr.storeAt 31 t12 t58) w (fun _ w =>
Do P (binS BinOp.neq 32 (Operand.tmp 61) (Operand.const (Value.int IntKind.i64 0)) t60 (Value.int IntKind.i64 0)) w (fun t62 w =>
If t62
(GuardK t23 true (fun K => Do P (Instr.fieldAt 31 t12 1) w K X) w fun t65 w =>
GuardK t23 true (fun K => Do P (Instr.loadAt 29 t65) w K X) w fun t66 w =>
GuardK t23 true (fun K => Do P (Builtin.len_ #[29] 3 #[t66]) w K X) w fun t67 w =>
GuardK t23 true (fun K => Do P (binS BinOp.eql 3 (Operand.tmp 67) (Operand.const (Value.int IntKind.i64 0)) t67 (Value.int IntKind.i64 0)) w K X) w fun t68 w =>
Do P (pickS t23 t68 (Value.bool false)) w (fun t69 w =>
R t69 w) X)
(Do P (Instr.loadAt 31 t12) w (fun t71 w =>
CallF P 16 [t71] w (fun t72 w =>
Do P (Instr.extract t72 0) w (fun t73 w =>
Do P (Instr.extract t72 1) w (fun t74 w =>
Do P (binS BinOp.neq 32 (Operand.tmp 75) (Operand.const (Value.int IntKind.i64 0)) t74 (Value.int IntKind.i64 0)) w (fun t76 w =>
If t76
(GuardK t23 true (fun K => K t74 w) w fun t79 w =>
GuardK t23 true (fun K => Do P (binS BinOp.eql 32 (Operand.tmp 79) (Operand.const (Value.int IntKind.i64 193)) t79 (Value.int IntKind.i64 193)) w K X) w fun t80 w =>
Do P (pickS t23 t80 (Value.bool false)) w (fun t81 w =>
GuardK t81 true (fun K => K a1 w) w fun t83 w =>
GuardK t81 true (fun K => Do P (Builtin.len_ #[9] 3 #[t83]) w K X) w fun t84 w =>
GuardK t81 true (fun K => Do P (binS BinOp.eql 3 (Operand.tmp 84) (Operand.const (Value.int IntKind.i64 1048576)) t84 (Value.int IntKind.i64 1048576)) w K X) w fun t85 w =>
Do P (pickS t81 t85 (Value.bool false)) w (fun t86 w =>
R t86 w) X) X)
(CallF P 9 [t73] w (fun t89 w =>
Do P (Instr.extract t89 0) w (fun t90 w =>
Do P (Instr.extract t89 1) w (fun t91 w =>
Do P (Instr.extract t89 2) w (fun t92 w =>
Do P (Instr.alloc 31 true (Value.tuple #[])) w (fun t17 w =>
DoU P (Instr.storeAt 31 t17 t90) w (fun _ w =>
Do P (Instr.loadAt 31 t17) w (fun t93 w =>
Do P (Instr.loadAt 31 t12) w (fun t94 w =>
CallF P 13 [t93, t94] w (fun t95 w =>
GuardK t23 true (fun K => K t92 w) w fun t98 w =>
GuardK t23 true (fun K => Do P (binS BinOp.eql 32 (Operand.tmp 98) (Operand.const (Value.int IntKind.i64 0)) t98 (Value.int IntKind.i64 0)) w K X) w fun t99 w =>
Do P (pickS t23 t99 (Value.bool false)) w (fun t100 w =>
GuardK t100 true (fun K => K t95 w) w fun t102 w =>
Do P (pickS t100 t102 (Value.bool false)) w (fun t103 w =>
GuardK t103 true (fun K => K t73 w) w fun t105 w =>
GuardK t103 true (fun K => Do P (Builtin.len_ #[9] 3 #[t105]) w K X) w fun t106 w =>
GuardK t103 true (fun K => K a1 w) w fun t107 w =>
GuardK t103 true (fun K => Do P (Builtin.len_ #[9] 3 #[t107]) w K X) w fun t108 w =>
GuardK t103 true (fun K => Do P (binOp BinOp.add 3 t108 (Value.int IntKind.i64 1)) w K X) w fun t109 w =>
GuardK t103 true (fun K => Do P (binOp BinOp.leq 3 t106 t109) w K X) w fun t110 w =>
Do P (pickS t103 t110 (Value.bool false)) w (fun t111 w =>
R t111 w) X) X) X) X) X) X) X) X) X) X) X) X)) X) X) X) X) X)) X) X) X) X) X) X) X
def f5.f (R : Value → World → Prop) (X : List PanicEntry → World → Prop) (a0 a1 : Value) (w : World) : Prop :=
Do P (Instr.box 31 a0) w (fun t2 w =>
Do P (Instr.loadAt 31 t2) w (fun t21 w =>
CallF P 14 [t21] w (fun t22 w =>
If t22
(R (Value.bool true) w)
(CallF P 8 [] w (fun t23 w =>
Do P (Instr.loadAt 31 t2) w (fun t25 w =>
CallF P 16 [t25] w (fun t26 w =>
Do P (Instr.extract t26 0) w (fun t27 w =>
Do P (Instr.extract t26 1) w (fun t28 w =>
∃ J : World → Prop, (∀ (σ : Env) (w : World), J w →
f5.j0 R X a1 t23 w) ∧
Do P (binS BinOp.eql 32 (Operand.tmp 29) (Operand.const (Value.int IntKind.i64 0)) t28 (Value.int IntKind.i64 0)) w (fun t30 w =>
If t30
(CallF P 9 [t27] w (fun t33 w =>
Do P (Instr.extract t33 0) w (fun t34 w =>
Do P (Instr.extract t33 1) w (fun t35 w =>
Do P (Instr.extract t33 2) w (fun t36 w =>
Do P (Instr.alloc 31 true (Value.tuple #[])) w (fun t8 w =>
DoU P (Instr.storeAt 31 t8 t34) w (fun _ w =>
Do P (Instr.loadAt 31 t8) w (fun t37 w =>
Do P (Instr.loadAt 31 t2) w (fun t38 w =>
CallF P 13 [t37, t38] w (fun t39 w =>
Do P (Op.unary UnOp.not t39) w (fun t41 w =>
GuardK t41 false (fun K => K t35 w) w fun t43 w =>
GuardK t41 false (fun K => Do P (binS BinOp.neq 3 (Operand.tmp 43) (Operand.const (Value.int IntKind.i64 0)) t43 (Value.int IntKind.i64 0)) w K X) w fun t44 w =>
Do P (pickS t41 (Value.bool true) t44) w (fun t45 w =>
GuardK t45 false (fun K => K t36 w) w fun t47 w =>
GuardK t45 false (fun K => Do P (binS BinOp.neq 32 (Operand.tmp 47) (Operand.const (Value.int IntKind.i64 0)) t47 (Value.int IntKind.i64 0)) w K X) w fun t48 w =>
Do P (pickS t45 (Value.bool true) t48) w (fun t49 w =>
GuardK t49 false (fun K => K t27 w) w fun t51 w =>
GuardK t49 false (fun K => Do P (Builtin.len_ #[9] 3 #[t51]) w K X) w fun t52 w =>
GuardK t49 false (fun K => Do P (binOp BinOp.gtr 3 t52 (Value.int IntKind.i64 1048576)) w K X) w fun t53 w =>
Do P (pickS t49 (Value.bool true) t53) w (fun t54 w =>
If t54
(R (Value.bool false) w)
(J w)) X) X) X) X) X) X) X) X) X) X) X) X) X)
(J w)) X) X) X) X) X) X)) X) X) X
def f5.ann : Ann := [(31, [], .done)]
theorem f5.awp_eq (R : Value → World → Prop) (X : List PanicEntry → World → Prop) (a0 a1 : Value) (w : World) : awp P 112 f5.ann X 1 (bodyOf Tryd.f5) (retE P [(ResultVar.tmp 4)] R) (argE [a0, a1]) w = f5.f R X a0 a1 w := by kernel_rfl
theorem f5.calls {R : Value → World → Prop} {X : List PanicEntry → World → Prop} {a0 a1 : Value} {w : World} (h : f5.f R X a0 a1 w) : Calls P 5 #[a0, a1] w (retd R X) :=
  calls_of_awp mixed Tryd.func5 rfl Tryd.ntmps5 (by rw [Tryd.results5]) (Nat.le_of_ble_eq_true rfl) (f5.awp_eq R X a0 a1 w ▸ h)
theorem f5.enters (args : Array Value) (w : World) : (callFunc 5 args).run P w = .ok (.enter 5 args) w := by kernel_rfl

/-! ### 7: stint/stintlaw19.ScriptNumbers -/
def f7.f (R : Value → World → Prop) (X : List PanicEntry → World → Prop) (w : World) : Prop :=
CallF P 8 [] w (fun t2 w =>
Do P (pickS t2 (Value.bool true) (Value.bool false)) w (fun t5 w =>
Do P (pickS t5 (Value.bool true) (Value.bool false)) w (fun t7 w =>
Do P (pickS t7 (Value.bool true) (Value.bool false)) w (fun t9 w =>
Do P (pickS t9 (Value.bool true) (Value.bool false)) w (fun t11 w =>
Do P (pickS t11 (Value.bool true) (Value.bool false)) w (fun t13 w =>
Do P (pickS t13 (Value.bool true) (Value.bool false)) w (fun t15 w =>
Do P (pickS t15 (Value.bool true) (Value.bool false)) w (fun t17 w =>
Do P (pickS t17 (Value.bool true) (Value.bool false)) w (fun t19 w =>
Do P (pickS t19 (Value.bool true) (Value.bool false)) w (fun t21 w =>
Do P (pickS t21 (Value.bool true) (Value.bool false)) w (fun t23 w =>
Do P (pickS t23 (Value.bool true) (Value.bool false)) w (fun t25 w =>
Do P (pickS t25 (Value.bool true) (Value.bool false)) w (fun t27 w =>
Do P (pickS t27 (Value.bool true) (Value.bool false)) w (fun t29 w =>
Do P (pickS t29 (Value.bool true) (Value.bool false)) w (fun t31 w =>
Do P (pickS t31 (Value.bool true) (Value.bool false)) w (fun t33 w =>
R t33 w) X) X) X) X) X) X) X) X) X) X) X) X) X) X) X) X
def f7.ann : Ann := []
theorem f7.awp_eq (R : Value → World → Prop) (X : List PanicEntry → World → Prop) (w : World) : awp P 34 f7.ann X 1 (bodyOf Tryd.f7) (retE P [(ResultVar.tmp 0)] R) (argE []) w = f7.f R X w := by kernel_rfl
theorem f7.calls {R : Value → World → Prop} {X : List PanicEntry → World → Prop} {w : World} (h : f7.f R X w) : Calls P 7 #[] w (retd R X) :=
  calls_of_awp mixed Tryd.func7 rfl Tryd.ntmps7 (by rw [Tryd.results7]) (Nat.le_of_ble_eq_true rfl) (f7.awp_eq R X w ▸ h)
theorem f7.enters (args : Array Value) (w : World) : (callFunc 7 args).run P w = .ok (.enter 7 args) w := by kernel_rfl
end Go.Proofs.YtdnnamaimgijpaaDoor
