/- Printed forms (by sxprint.py, own work) of functions of this seat's program, each with the theorem that ties it to the code. Conditions: none. -/
import Derived.Test.YtggdogncmkffpaaDoorSxTy
set_option linter.unusedVariables false
set_option maxRecDepth 100000
namespace Go.Proofs.YtggdogncmkffpaaDoor
open Go Go.Sx Go.Proofs

/-! ### 4: stint/stintlaw13.shown -/
def f4.f (R : Value → World → Prop) (X : List PanicEntry → World → Prop) (w : World) : Prop :=
Do P (Instr.build 30 #[(0, (Value.string (ByteArray.mk #[97]))), (8, (Value.int IntKind.i64 5)), (9, (Value.int IntKind.i64 12))]) w (fun t2 w =>
CallF P 6 [t2, (Value.int IntKind.i64 10)] w (fun t3 w =>
Do P (convert 24 9 t3) w (fun t5 w =>
Do P (binS BinOp.eql 9 (Operand.tmp 5) (Operand.const (Value.string (ByteArray.mk (List.toArray (List.append (List.append [45, 45, 45, 10, 110, 97, 109, 101, 58, 32, 97, 10, 99, 117, 114, 114, 101, 110, 116, 45, 106, 111, 98, 115, 45, 117, 114, 103, 101, 110, 116, 58, 32, 48, 10, 99, 117, 114, 114, 101, 110, 116, 45, 106, 111, 98, 115, 45, 114, 101, 97, 100, 121, 58, 32, 48, 10, 99, 117, 114, 114, 101, 110, 116] (List.append [45, 106, 111, 98, 115, 45, 114, 101, 115, 101, 114, 118, 101, 100, 58, 32, 48, 10, 99, 117, 114, 114, 101, 110, 116, 45, 106, 111, 98, 115, 45, 100] [101, 108, 97, 121, 101, 100, 58, 32, 48, 10, 99, 117, 114, 114, 101, 110, 116, 45, 106, 111, 98, 115, 45, 98, 117, 114, 105, 101, 100, 58, 32, 48, 10])) (List.append (List.append [116, 111, 116, 97, 108, 45, 106, 111, 98, 115, 58, 32, 48, 10, 99, 117, 114, 114, 101, 110, 116, 45, 117, 115, 105, 110, 103, 58, 32, 48, 10, 99] [117, 114, 114, 101, 110, 116, 45, 119, 97, 105, 116, 105, 110, 103, 58, 32, 48, 10, 99, 117, 114, 114, 101, 110, 116, 45, 119, 97, 116, 99, 104, 105, 110]) (List.append [103, 58, 32, 48, 10, 112, 97, 117, 115, 101, 58, 32, 53, 10, 99, 109, 100, 45, 100, 101, 108, 101, 116, 101, 58, 32, 48, 10, 99, 109, 100, 45] [112, 97, 117, 115, 101, 45, 116, 117, 98, 101, 58, 32, 48, 10, 112, 97, 117, 115, 101, 45, 116, 105, 109, 101, 45, 108, 101, 102, 116, 58, 32, 50, 10]))))))) t5 (Value.string (ByteArray.mk (List.toArray (List.append (List.append [45, 45, 45, 10, 110, 97, 109, 101, 58, 32, 97, 10, 99, 117, 114, 114, 101, 110, 116, 45, 106, 111, 98, 115, 45, 117, 114, 103, 101, 110, 116, 58, 32, 48, 10, 99, 117, 114, 114, 101, 110, 116, 45, 106, 111, 98, 115, 45, 114, 101, 97, 100, 121, 58, 32, 48, 10, 99, 117, 114, 114, 101, 110, 116] (List.append [45, 106, 111, 98, 115, 45, 114, 101, 115, 101, 114, 118, 101, 100, 58, 32, 48, 10, 99, 117, 114, 114, 101, 110, 116, 45, 106, 111, 98, 115, 45, 100] [101, 108, 97, 121, 101, 100, 58, 32, 48, 10, 99, 117, 114, 114, 101, 110, 116, 45, 106, 111, 98, 115, 45, 98, 117, 114, 105, 101, 100, 58, 32, 48, 10])) (List.append (List.append [116, 111, 116, 97, 108, 45, 106, 111, 98, 115, 58, 32, 48, 10, 99, 117, 114, 114, 101, 110, 116, 45, 117, 115, 105, 110, 103, 58, 32, 48, 10, 99] [117, 114, 114, 101, 110, 116, 45, 119, 97, 105, 116, 105, 110, 103, 58, 32, 48, 10, 99, 117, 114, 114, 101, 110, 116, 45, 119, 97, 116, 99, 104, 105, 110]) (List.append [103, 58, 32, 48, 10, 112, 97, 117, 115, 101, 58, 32, 53, 10, 99, 109, 100, 45, 100, 101, 108, 101, 116, 101, 58, 32, 48, 10, 99, 109, 100, 45] [112, 97, 117, 115, 101, 45, 116, 117, 98, 101, 58, 32, 48, 10, 112, 97, 117, 115, 101, 45, 116, 105, 109, 101, 45, 108, 101, 102, 116, 58, 32, 50, 10]))))))) w (fun t6 w =>
R t6 w) X) X) X) X
def f4.ann : Ann := []
theorem f4.awp_eq (R : Value → World → Prop) (X : List PanicEntry → World → Prop) (w : World) : awp P 7 f4.ann X 1 (bodyOf Tryd.f4) (retE P [(ResultVar.tmp 0)] R) (argE []) w = f4.f R X w := by kernel_rfl
theorem f4.calls {R : Value → World → Prop} {X : List PanicEntry → World → Prop} {w : World} (h : f4.f R X w) : Calls P 4 #[] w (retd R X) :=
  calls_of_awp mixed Tryd.func4 rfl Tryd.ntmps4 (by rw [Tryd.results4]) (Nat.le_of_ble_eq_true rfl) (f4.awp_eq R X w ▸ h)
theorem f4.enters (args : Array Value) (w : World) : (callFunc 4 args).run P w = .ok (.enter 4 args) w := by kernel_rfl

/-! ### 5: stint/figures.Job -/
def f5.f (R : Value → World → Prop) (X : List PanicEntry → World → Prop) (a0 a1 a2 : Value) (w : World) : Prop :=
Do P (Instr.box 26 a0) w (fun t3 w =>
Do P (Instr.box 3 a1) w (fun t4 w =>
Do P (Instr.box 3 a2) w (fun t5 w =>
CallF P 11 [(Value.func (Fn.func 12) #[] #[t3, t5, t4])] w (fun t8 w =>
R t8 w) X) X) X) X
def f5.ann : Ann := []
theorem f5.awp_eq (R : Value → World → Prop) (X : List PanicEntry → World → Prop) (a0 a1 a2 : Value) (w : World) : awp P 9 f5.ann X 1 (bodyOf Tryd.f5) (retE P [(ResultVar.tmp 6)] R) (argE [a0, a1, a2]) w = f5.f R X a0 a1 a2 w := by kernel_rfl
theorem f5.calls {R : Value → World → Prop} {X : List PanicEntry → World → Prop} {a0 a1 a2 : Value} {w : World} (h : f5.f R X a0 a1 a2 w) : Calls P 5 #[a0, a1, a2] w (retd R X) :=
  calls_of_awp mixed Tryd.func5 rfl Tryd.ntmps5 (by rw [Tryd.results5]) (Nat.le_of_ble_eq_true rfl) (f5.awp_eq R X a0 a1 a2 w ▸ h)
theorem f5.enters (args : Array Value) (w : World) : (callFunc 5 args).run P w = .ok (.enter 5 args) w := by kernel_rfl

/-! ### 6: stint/figures.Tube -/
def f6.f (R : Value → World → Prop) (X : List PanicEntry → World → Prop) (a0 a1 : Value) (w : World) : Prop :=
Do P (Instr.box 30 a0) w (fun t2 w =>
Do P (Instr.box 3 a1) w (fun t3 w =>
CallF P 11 [(Value.func (Fn.func 15) #[] #[t2, t3])] w (fun t6 w =>
R t6 w) X) X) X
def f6.ann : Ann := []
theorem f6.awp_eq (R : Value → World → Prop) (X : List PanicEntry → World → Prop) (a0 a1 : Value) (w : World) : awp P 7 f6.ann X 1 (bodyOf Tryd.f6) (retE P [(ResultVar.tmp 4)] R) (argE [a0, a1]) w = f6.f R X a0 a1 w := by kernel_rfl
theorem f6.calls {R : Value → World → Prop} {X : List PanicEntry → World → Prop} {a0 a1 : Value} {w : World} (h : f6.f R X a0 a1 w) : Calls P 6 #[a0, a1] w (retd R X) :=
  calls_of_awp mixed Tryd.func6 rfl Tryd.ntmps6 (by rw [Tryd.results6]) (Nat.le_of_ble_eq_true rfl) (f6.awp_eq R X a0 a1 w ▸ h)
theorem f6.enters (args : Array Value) (w : World) : (callFunc 6 args).run P w = .ok (.enter 6 args) w := by kernel_rfl

/-! ### 7: stint/figures.Shop -/
def f7.f (R : Value → World → Prop) (X : List PanicEntry → World → Prop) (a0 : Value) (w : World) : Prop :=
Do P (Instr.box 33 a0) w (fun t1 w =>
CallF P 11 [(Value.func (Fn.func 17) #[] #[t1])] w (fun t4 w =>
R t4 w) X) X
def f7.ann : Ann := []
theorem f7.awp_eq (R : Value → World → Prop) (X : List PanicEntry → World → Prop) (a0 : Value) (w : World) : awp P 5 f7.ann X 1 (bodyOf Tryd.f7) (retE P [(ResultVar.tmp 2)] R) (argE [a0]) w = f7.f R X a0 w := by kernel_rfl
theorem f7.calls {R : Value → World → Prop} {X : List PanicEntry → World → Prop} {a0 : Value} {w : World} (h : f7.f R X a0 w) : Calls P 7 #[a0] w (retd R X) :=
  calls_of_awp mixed Tryd.func7 rfl Tryd.ntmps7 (by rw [Tryd.results7]) (Nat.le_of_ble_eq_true rfl) (f7.awp_eq R X a0 w ▸ h)
theorem f7.enters (args : Array Value) (w : World) : (callFunc 7 args).run P w = .ok (.enter 7 args) w := by kernel_rfl

/-! ### 11: stint/figures.told -/
def f11.f (R : Value → World → Prop) (X : List PanicEntry → World → Prop) (a0 : Value) (w : World) : Prop :=
Do P (Instr.alloc 38 true (Value.tuple #[])) w (fun t3 w =>
Do P (Instr.alloc 49 true (Value.tuple #[])) w (fun t4 w =>
DoU P (Instr.storeAt 49 t4 (Value.func (Fn.func 23) #[] #[t3])) w (fun _ w =>
Do P (Instr.loadAt 49 t4) w (fun t9 w =>
CallV P a0 [t9, (Value.func (Fn.func 24) #[] #[t4])] w (fun t11 w =>
Do P (Instr.loadAt 38 t3) w (fun t13 w =>
CallF P 26 [t13] w (fun t14 w =>
Do P (Instr.extract t14 0) w (fun t15 w =>
Do P (Instr.extract t14 1) w (fun t16 w =>
R t15 w) X) X) X) X) X) X) X) X) X
def f11.ann : Ann := []
theorem f11.awp_eq (R : Value → World → Prop) (X : List PanicEntry → World → Prop) (a0 : Value) (w : World) : awp P 18 f11.ann X 1 (bodyOf Tryd.f11) (retE P [(ResultVar.tmp 2)] R) (argE [a0]) w = f11.f R X a0 w := by kernel_rfl
theorem f11.calls {R : Value → World → Prop} {X : List PanicEntry → World → Prop} {a0 : Value} {w : World} (h : f11.f R X a0 w) : Calls P 11 #[a0] w (retd R X) :=
  calls_of_awp mixed Tryd.func11 rfl Tryd.ntmps11 (by rw [Tryd.results11]) (Nat.le_of_ble_eq_true rfl) (f11.awp_eq R X a0 w ▸ h)
theorem f11.enters (args : Array Value) (w : World) : (callFunc 11 args).run P w = .ok (.enter 11 args) w := by kernel_rfl

/-! ### 12: stint/figures.Job$1 -/
def f12.j0 (X : List PanicEntry → World → Prop) (E0 : World → Prop) (a0 a1 a2 a3 a4 x7 : Value) (w : World) : Prop :=
Do P (Instr.fieldAt 26 a2 0) w (fun t21 w =>
Do P (Instr.loadAt 3 t21) w (fun t22 w =>
CallV P a1 [(Value.string (ByteArray.mk #[105, 100])), t22] w (fun t23 w =>
Do P (Instr.fieldAt 26 a2 10) w (fun t25 w =>
Do P (Instr.loadAt 9 t25) w (fun t26 w =>
CallV P a0 [(Value.string (ByteArray.mk #[116, 117, 98, 101])), t26] w (fun t27 w =>
Do P (Instr.fieldAt 26 a2 5) w (fun t29 w =>
Do P (Instr.loadAt 3 t29) w (fun t30 w =>
CallF P 14 [t30] w (fun t31 w =>
CallV P a0 [(Value.string (ByteArray.mk #[115, 116, 97, 116, 101])), t31] w (fun t32 w =>
Do P (Instr.fieldAt 26 a2 1) w (fun t34 w =>
Do P (Instr.loadAt 3 t34) w (fun t35 w =>
CallV P a1 [(Value.string (ByteArray.mk #[112, 114, 105])), t35] w (fun t36 w =>
Do P (Instr.loadAt 3 a3) w (fun t38 w =>
Do P (Instr.fieldAt 26 a2 4) w (fun t39 w =>
Do P (Instr.loadAt 3 t39) w (fun t40 w =>
CallF P 13 [t38, t40] w (fun t41 w =>
CallV P a1 [(Value.string (ByteArray.mk #[97, 103, 101])), t41] w (fun t42 w =>
Do P (Instr.fieldAt 26 a2 2) w (fun t44 w =>
Do P (Instr.loadAt 3 t44) w (fun t45 w =>
CallV P a1 [(Value.string (ByteArray.mk #[100, 101, 108, 97, 121])), t45] w (fun t46 w =>
Do P (Instr.fieldAt 26 a2 3) w (fun t48 w =>
Do P (Instr.loadAt 3 t48) w (fun t49 w =>
CallV P a1 [(Value.string (ByteArray.mk #[116, 116, 114])), t49] w (fun t50 w =>
CallV P a1 [(Value.string (ByteArray.mk #[116, 105, 109, 101, 45, 108, 101, 102, 116])), x7] w (fun t53 w =>
Do P (Instr.loadAt 3 a4) w (fun t55 w =>
CallV P a1 [(Value.string (ByteArray.mk #[102, 105, 108, 101])), t55] w (fun t56 w =>
Do P (Instr.fieldAt 26 a2 9) w (fun t58 w =>
Do P (Instr.fieldAt 23 t58 0) w (fun t59 w =>
Do P (Instr.loadAt 3 t59) w (fun t60 w =>
CallV P a1 [(Value.string (ByteArray.mk #[114, 101, 115, 101, 114, 118, 101, 115])), t60] w (fun t61 w =>
Do P (Instr.fieldAt 26 a2 9) w (fun t63 w =>
Do P (Instr.fieldAt 23 t63 1) w (fun t64 w =>
Do P (Instr.loadAt 3 t64) w (fun t65 w =>
CallV P a1 [(Value.string (ByteArray.mk #[116, 105, 109, 101, 111, 117, 116, 115])), t65] w (fun t66 w =>
Do P (Instr.fieldAt 26 a2 9) w (fun t68 w =>
Do P (Instr.fieldAt 23 t68 2) w (fun t69 w =>
Do P (Instr.loadAt 3 t69) w (fun t70 w =>
CallV P a1 [(Value.string (ByteArray.mk #[114, 101, 108, 101, 97, 115, 101, 115])), t70] w (fun t71 w =>
Do P (Instr.fieldAt 26 a2 9) w (fun t73 w =>
Do P (Instr.fieldAt 23 t73 3) w (fun t74 w =>
Do P (Instr.loadAt 3 t74) w (fun t75 w =>
CallV P a1 [(Value.string (ByteArray.mk #[98, 117, 114, 105, 101, 115])), t75] w (fun t76 w =>
Do P (Instr.fieldAt 26 a2 9) w (fun t78 w =>
Do P (Instr.fieldAt 23 t78 4) w (fun t79 w =>
Do P (Instr.loadAt 3 t79) w (fun t80 w =>
CallV P a1 [(Value.string (ByteArray.mk #[107, 105, 99, 107, 115])), t80] w (fun t81 w =>
E0 w) X) X) X) X) X) X) X) X) X) X) X) X) X) X) X) X) X) X) X) X) X) X) X) X) X) X) X) X) X) X) X) X) X) X) X) X) X) X) X) X) X) X) X) X) X) X) X
def f12.f (R : Value → World → Prop) (X : List PanicEntry → World → Prop) (a0 a1 a2 a3 a4 : Value) (w : World) : Prop :=
∃ J : Value → World → Prop, (∀ (σ : Env) (w : World), J (σ 7) w →
f12.j0 X (fun w =>
R (Value.tuple #[]) w) a0 a1 a2 a3 a4 (σ 7) w) ∧
Do P (Instr.fieldAt 26 a2 5) w (fun t8 w =>
Do P (Instr.loadAt 3 t8) w (fun t9 w =>
Do P (binS BinOp.eql 3 (Operand.tmp 9) (Operand.const (Value.int IntKind.i64 2)) t9 (Value.int IntKind.i64 2)) w (fun t10 w =>
GuardK t10 false (fun K => Do P (Instr.fieldAt 26 a2 5) w K X) w fun t12 w =>
GuardK t10 false (fun K => Do P (Instr.loadAt 3 t12) w K X) w fun t13 w =>
GuardK t10 false (fun K => Do P (binS BinOp.eql 3 (Operand.tmp 13) (Operand.const (Value.int IntKind.i64 3)) t13 (Value.int IntKind.i64 3)) w K X) w fun t14 w =>
Do P (pickS t10 (Value.bool true) t14) w (fun t15 w =>
If t15
(Do P (Instr.fieldAt 26 a2 6) w (fun t16 w =>
Do P (Instr.loadAt 3 t16) w (fun t17 w =>
Do P (Instr.loadAt 3 a3) w (fun t18 w =>
CallF P 13 [t17, t18] w (fun t19 w =>
J t19 w) X) X) X) X)
(J (Value.int IntKind.i64 0) w)) X) X) X) X
def f12.ann : Ann := [(3, [7])]
theorem f12.awp_eq (R : Value → World → Prop) (X : List PanicEntry → World → Prop) (a0 a1 a2 a3 a4 : Value) (w : World) : awp P 82 f12.ann X 1 (bodyOf Tryd.f12) (retE P [] R) (argE [a0, a1, a2, a3, a4]) w = f12.f R X a0 a1 a2 a3 a4 w := by kernel_rfl
theorem f12.calls {R : Value → World → Prop} {X : List PanicEntry → World → Prop} {a0 a1 a2 a3 a4 : Value} {w : World} (h : f12.f R X a0 a1 a2 a3 a4 w) : Calls P 12 #[a0, a1, a2, a3, a4] w (retd R X) :=
  calls_of_awp mixed Tryd.func12 rfl Tryd.ntmps12 (by rw [Tryd.results12]) (Nat.le_of_ble_eq_true rfl) (f12.awp_eq R X a0 a1 a2 a3 a4 w ▸ h)
theorem f12.enters (args : Array Value) (w : World) : (callFunc 12 args).run P w = .ok (.enter 12 args) w := by kernel_rfl

/-! ### 13: stint/figures.less -/
def f13.f (R : Value → World → Prop) (X : List PanicEntry → World → Prop) (a0 a1 : Value) (w : World) : Prop :=
Do P (binOp BinOp.gtr 3 a0 a1) w (fun t7 w =>
If t7
(Do P (binOp BinOp.sub 3 a0 a1) w (fun t10 w =>
R t10 w) X)
(R (Value.int IntKind.i64 0) w)) X
def f13.ann : Ann := []
theorem f13.awp_eq (R : Value → World → Prop) (X : List PanicEntry → World → Prop) (a0 a1 : Value) (w : World) : awp P 11 f13.ann X 1 (bodyOf Tryd.f13) (retE P [(ResultVar.tmp 4)] R) (argE [a0, a1]) w = f13.f R X a0 a1 w := by kernel_rfl
theorem f13.calls {R : Value → World → Prop} {X : List PanicEntry → World → Prop} {a0 a1 : Value} {w : World} (h : f13.f R X a0 a1 w) : Calls P 13 #[a0, a1] w (retd R X) :=
  calls_of_awp mixed Tryd.func13 rfl Tryd.ntmps13 (by rw [Tryd.results13]) (Nat.le_of_ble_eq_true rfl) (f13.awp_eq R X a0 a1 w ▸ h)
theorem f13.enters (args : Array Value) (w : World) : (callFunc 13 args).run P w = .ok (.enter 13 args) w := by kernel_rfl

/-! ### 14: stint/figures.state -/
def f14.f (R : Value → World → Prop) (X : List PanicEntry → World → Prop) (a0 : Value) (w : World) : Prop :=
Do P (binS BinOp.eql 3 (Operand.tmp 3) (Operand.const (Value.int IntKind.i64 1)) a0 (Value.int IntKind.i64 1)) w (fun t5 w =>
If t5
(R (Value.string (ByteArray.mk #[114, 101, 97, 100, 121])) w)
(Do P (binS BinOp.eql 3 (Operand.tmp 3) (Operand.const (Value.int IntKind.i64 2)) a0 (Value.int IntKind.i64 2)) w (fun t7 w =>
If t7
(R (Value.string (ByteArray.mk #[100, 101, 108, 97, 121, 101, 100])) w)
(Do P (binS BinOp.eql 3 (Operand.tmp 3) (Operand.const (Value.int IntKind.i64 3)) a0 (Value.int IntKind.i64 3)) w (fun t9 w =>
If t9
(R (Value.string (ByteArray.mk #[114, 101, 115, 101, 114, 118, 101, 100])) w)
(Do P (binS BinOp.eql 3 (Operand.tmp 3) (Operand.const (Value.int IntKind.i64 4)) a0 (Value.int IntKind.i64 4)) w (fun t11 w =>
If t11
(R (Value.string (ByteArray.mk #[98, 117, 114, 105, 101, 100])) w)
(R (Value.string (ByteArray.mk #[])) w)) X)) X)) X)) X
def f14.ann : Ann := []
theorem f14.awp_eq (R : Value → World → Prop) (X : List PanicEntry → World → Prop) (a0 : Value) (w : World) : awp P 12 f14.ann X 1 (bodyOf Tryd.f14) (retE P [(ResultVar.tmp 2)] R) (argE [a0]) w = f14.f R X a0 w := by kernel_rfl
theorem f14.calls {R : Value → World → Prop} {X : List PanicEntry → World → Prop} {a0 : Value} {w : World} (h : f14.f R X a0 w) : Calls P 14 #[a0] w (retd R X) :=
  calls_of_awp mixed Tryd.func14 rfl Tryd.ntmps14 (by rw [Tryd.results14]) (Nat.le_of_ble_eq_true rfl) (f14.awp_eq R X a0 w ▸ h)
theorem f14.enters (args : Array Value) (w : World) : (callFunc 14 args).run P w = .ok (.enter 14 args) w := by kernel_rfl

/-! ### 15: stint/figures.Tube$1 -/
def f15.j0 (X : List PanicEntry → World → Prop) (E0 : World → Prop) (a0 a1 a2 x6 : Value) (w : World) : Prop :=
Do P (Instr.fieldAt 30 a2 0) w (fun t15 w =>
Do P (Instr.loadAt 9 t15) w (fun t16 w =>
CallV P a0 [(Value.string (ByteArray.mk #[110, 97, 109, 101])), t16] w (fun t17 w =>
Do P (Instr.fieldAt 30 a2 1) w (fun t18 w =>
Do P (Instr.loadAt 28 t18) w (fun t19 w =>
CallF P 16 [t19, a1] w (fun t21 w =>
Do P (Instr.fieldAt 30 a2 5) w (fun t23 w =>
Do P (Instr.loadAt 3 t23) w (fun t24 w =>
CallV P a1 [(Value.string (ByteArray.mk #[116, 111, 116, 97, 108, 45, 106, 111, 98, 115])), t24] w (fun t25 w =>
Do P (Instr.fieldAt 30 a2 2) w (fun t27 w =>
Do P (Instr.loadAt 3 t27) w (fun t28 w =>
CallV P a1 [(Value.string (ByteArray.mk #[99, 117, 114, 114, 101, 110, 116, 45, 117, 115, 105, 110, 103])), t28] w (fun t29 w =>
Do P (Instr.fieldAt 30 a2 4) w (fun t31 w =>
Do P (Instr.loadAt 3 t31) w (fun t32 w =>
CallV P a1 [(Value.string (ByteArray.mk #[99, 117, 114, 114, 101, 110, 116, 45, 119, 97, 105, 116, 105, 110, 103])), t32] w (fun t33 w =>
Do P (Instr.fieldAt 30 a2 3) w (fun t35 w =>
Do P (Instr.loadAt 3 t35) w (fun t36 w =>
CallV P a1 [(Value.string (ByteArray.mk #[99, 117, 114, 114, 101, 110, 116, 45, 119, 97, 116, 99, 104, 105, 110, 103])), t36] w (fun t37 w =>
Do P (Instr.fieldAt 30 a2 8) w (fun t39 w =>
Do P (Instr.loadAt 3 t39) w (fun t40 w =>
CallV P a1 [(Value.string (ByteArray.mk #[112, 97, 117, 115, 101])), t40] w (fun t41 w =>
Do P (Instr.fieldAt 30 a2 6) w (fun t43 w =>
Do P (Instr.loadAt 3 t43) w (fun t44 w =>
CallV P a1 [(Value.string (ByteArray.mk #[99, 109, 100, 45, 100, 101, 108, 101, 116, 101])), t44] w (fun t45 w =>
Do P (Instr.fieldAt 30 a2 7) w (fun t47 w =>
Do P (Instr.loadAt 3 t47) w (fun t48 w =>
CallV P a1 [(Value.string (ByteArray.mk #[99, 109, 100, 45, 112, 97, 117, 115, 101, 45, 116, 117, 98, 101])), t48] w (fun t49 w =>
CallV P a1 [(Value.string (ByteArray.mk #[112, 97, 117, 115, 101, 45, 116, 105, 109, 101, 45, 108, 101, 102, 116])), x6] w (fun t52 w =>
E0 w) X) X) X) X) X) X) X) X) X) X) X) X) X) X) X) X) X) X) X) X) X) X) X) X) X) X) X) X
def f15.f (R : Value → World → Prop) (X : List PanicEntry → World → Prop) (a0 a1 a2 a3 : Value) (w : World) : Prop :=
∃ J : Value → World → Prop, (∀ (σ : Env) (w : World), J (σ 6) w →
f15.j0 X (fun w =>
R (Value.tuple #[]) w) a0 a1 a2 (σ 6) w) ∧
Do P (Instr.fieldAt 30 a2 8) w (fun t7 w =>
Do P (Instr.loadAt 3 t7) w (fun t8 w =>
Do P (binS BinOp.neq 3 (Operand.tmp 8) (Operand.const (Value.int IntKind.i64 0)) t8 (Value.int IntKind.i64 0)) w (fun t9 w =>
If t9
(Do P (Instr.fieldAt 30 a2 9) w (fun t10 w =>
Do P (Instr.loadAt 3 t10) w (fun t11 w =>
Do P (Instr.loadAt 3 a3) w (fun t12 w =>
CallF P 13 [t11, t12] w (fun t13 w =>
J t13 w) X) X) X) X)
(J (Value.int IntKind.i64 0) w)) X) X) X
def f15.ann : Ann := [(3, [6])]
theorem f15.awp_eq (R : Value → World → Prop) (X : List PanicEntry → World → Prop) (a0 a1 a2 a3 : Value) (w : World) : awp P 53 f15.ann X 1 (bodyOf Tryd.f15) (retE P [] R) (argE [a0, a1, a2, a3]) w = f15.f R X a0 a1 a2 a3 w := by kernel_rfl
theorem f15.calls {R : Value → World → Prop} {X : List PanicEntry → World → Prop} {a0 a1 a2 a3 : Value} {w : World} (h : f15.f R X a0 a1 a2 a3 w) : Calls P 15 #[a0, a1, a2, a3] w (retd R X) :=
  calls_of_awp mixed Tryd.func15 rfl Tryd.ntmps15 (by rw [Tryd.results15]) (Nat.le_of_ble_eq_true rfl) (f15.awp_eq R X a0 a1 a2 a3 w ▸ h)
theorem f15.enters (args : Array Value) (w : World) : (callFunc 15 args).run P w = .ok (.enter 15 args) w := by kernel_rfl

/-! ### 16: stint/figures.sums -/
def f16.f (R : Value → World → Prop) (X : List PanicEntry → World → Prop) (a0 a1 : Value) (w : World) : Prop :=
Do P (Instr.box 28 a0) w (fun t2 w =>
Do P (Instr.fieldAt 28 t2 4) w (fun t5 w =>
Do P (Instr.loadAt 3 t5) w (fun t6 w =>
CallV P a1 [(Value.string (ByteArray.mk #[99, 117, 114, 114, 101, 110, 116, 45, 106, 111, 98, 115, 45, 117, 114, 103, 101, 110, 116])), t6] w (fun t7 w =>
Do P (Instr.fieldAt 28 t2 0) w (fun t9 w =>
Do P (Instr.loadAt 3 t9) w (fun t10 w =>
CallV P a1 [(Value.string (ByteArray.mk #[99, 117, 114, 114, 101, 110, 116, 45, 106, 111, 98, 115, 45, 114, 101, 97, 100, 121])), t10] w (fun t11 w =>
Do P (Instr.fieldAt 28 t2 2) w (fun t13 w =>
Do P (Instr.loadAt 3 t13) w (fun t14 w =>
CallV P a1 [(Value.string (ByteArray.mk #[99, 117, 114, 114, 101, 110, 116, 45, 106, 111, 98, 115, 45, 114, 101, 115, 101, 114, 118, 101, 100])), t14] w (fun t15 w =>
Do P (Instr.fieldAt 28 t2 1) w (fun t17 w =>
Do P (Instr.loadAt 3 t17) w (fun t18 w =>
CallV P a1 [(Value.string (ByteArray.mk #[99, 117, 114, 114, 101, 110, 116, 45, 106, 111, 98, 115, 45, 100, 101, 108, 97, 121, 101, 100])), t18] w (fun t19 w =>
Do P (Instr.fieldAt 28 t2 3) w (fun t21 w =>
Do P (Instr.loadAt 3 t21) w (fun t22 w =>
CallV P a1 [(Value.string (ByteArray.mk #[99, 117, 114, 114, 101, 110, 116, 45, 106, 111, 98, 115, 45, 98, 117, 114, 105, 101, 100])), t22] w (fun t23 w =>
R (Value.tuple #[]) w) X) X) X) X) X) X) X) X) X) X) X) X) X) X) X) X
def f16.ann : Ann := []
theorem f16.awp_eq (R : Value → World → Prop) (X : List PanicEntry → World → Prop) (a0 a1 : Value) (w : World) : awp P 24 f16.ann X 1 (bodyOf Tryd.f16) (retE P [] R) (argE [a0, a1]) w = f16.f R X a0 a1 w := by kernel_rfl
theorem f16.calls {R : Value → World → Prop} {X : List PanicEntry → World → Prop} {a0 a1 : Value} {w : World} (h : f16.f R X a0 a1 w) : Calls P 16 #[a0, a1] w (retd R X) :=
  calls_of_awp mixed Tryd.func16 rfl Tryd.ntmps16 (by rw [Tryd.results16]) (Nat.le_of_ble_eq_true rfl) (f16.awp_eq R X a0 a1 w ▸ h)
theorem f16.enters (args : Array Value) (w : World) : (callFunc 16 args).run P w = .ok (.enter 16 args) w := by kernel_rfl

/-! ### 17: stint/figures.Shop$1 -/
def f17.l0 (X : List PanicEntry → World → Prop) (N : Value → World → Prop) (E0 : World → Prop) (a1 a2 x11 : Value) (w : World) : Prop :=
Do P (binOp BinOp.lss 3 x11 (Value.int IntKind.i64 24)) w (fun t12 w =>
If t12
(∃ S : World → Prop, S (drewW w) ∧ (fun w =>
Take P S (binOp BinOp.add 3 x11 (Value.int IntKind.i64 1)) fun t16 =>
Take P S (binOp BinOp.add 3 x11 (Value.int IntKind.i64 1)) fun t20 =>
Take P S (Instr.fieldAt 33 a2 3) fun t21 =>
Take P S (Instr.indexAt 31 t21 t20) fun t22 =>
Take P S (Instr.loadAt 3 t22) fun t23 =>
CallF P 18 [t16] w (fun t17 w =>
S w ∧ Take P S (binOp BinOp.add 9 (Value.string (ByteArray.mk #[99, 109, 100, 45])) t17) fun t18 =>
CallV P a1 [t18, t23] w (fun t24 w =>
S w ∧ Do P (binOp BinOp.add 3 x11 (Value.int IntKind.i64 1)) w (fun t25 w =>
N t25 w) X) X) X) (drewW w))
(E0 w)) X
def f17.f (R : Value → World → Prop) (X : List PanicEntry → World → Prop) (a0 a1 a2 : Value) (w : World) : Prop :=
Do P (Instr.fieldAt 33 a2 2) w (fun t7 w =>
Do P (Instr.loadAt 28 t7) w (fun t8 w =>
CallF P 16 [t8, a1] w (fun t10 w =>
∃ I : Nat → Value → World → Prop, (∃ k, I k (Value.int IntKind.i64 0) w) ∧ ∀ (k : Nat) (σ : Env) (w : World), I k (σ 11) w →
f17.l0 X (fun (y11 : Value) w => ∃ k', k' < k ∧ I k' y11 w) (fun w =>
Do P (Instr.fieldAt 33 a2 4) w (fun t27 w =>
Do P (Instr.loadAt 3 t27) w (fun t28 w =>
CallV P a1 [(Value.string (ByteArray.mk #[106, 111, 98, 45, 116, 105, 109, 101, 111, 117, 116, 115])), t28] w (fun t29 w =>
Do P (Instr.fieldAt 33 a2 5) w (fun t31 w =>
Do P (Instr.loadAt 3 t31) w (fun t32 w =>
CallV P a1 [(Value.string (ByteArray.mk #[116, 111, 116, 97, 108, 45, 106, 111, 98, 115])), t32] w (fun t33 w =>
Do P (Instr.fieldAt 33 a2 12) w (fun t35 w =>
Do P (Instr.loadAt 3 t35) w (fun t36 w =>
CallV P a1 [(Value.string (ByteArray.mk #[109, 97, 120, 45, 106, 111, 98, 45, 115, 105, 122, 101])), t36] w (fun t37 w =>
Do P (Instr.fieldAt 33 a2 7) w (fun t39 w =>
Do P (Instr.loadAt 3 t39) w (fun t40 w =>
CallV P a1 [(Value.string (ByteArray.mk #[99, 117, 114, 114, 101, 110, 116, 45, 116, 117, 98, 101, 115])), t40] w (fun t41 w =>
Do P (Instr.fieldAt 33 a2 8) w (fun t43 w =>
Do P (Instr.loadAt 3 t43) w (fun t44 w =>
CallV P a1 [(Value.string (ByteArray.mk #[99, 117, 114, 114, 101, 110, 116, 45, 99, 111, 110, 110, 101, 99, 116, 105, 111, 110, 115])), t44] w (fun t45 w =>
Do P (Instr.fieldAt 33 a2 9) w (fun t47 w =>
Do P (Instr.loadAt 3 t47) w (fun t48 w =>
CallV P a1 [(Value.string (ByteArray.mk #[99, 117, 114, 114, 101, 110, 116, 45, 112, 114, 111, 100, 117, 99, 101, 114, 115])), t48] w (fun t49 w =>
Do P (Instr.fieldAt 33 a2 10) w (fun t51 w =>
Do P (Instr.loadAt 3 t51) w (fun t52 w =>
CallV P a1 [(Value.string (ByteArray.mk #[99, 117, 114, 114, 101, 110, 116, 45, 119, 111, 114, 107, 101, 114, 115])), t52] w (fun t53 w =>
Do P (Instr.fieldAt 33 a2 11) w (fun t55 w =>
Do P (Instr.loadAt 3 t55) w (fun t56 w =>
CallV P a1 [(Value.string (ByteArray.mk #[99, 117, 114, 114, 101, 110, 116, 45, 119, 97, 105, 116, 105, 110, 103])), t56] w (fun t57 w =>
Do P (Instr.fieldAt 33 a2 6) w (fun t59 w =>
Do P (Instr.loadAt 3 t59) w (fun t60 w =>
CallV P a1 [(Value.string (ByteArray.mk #[116, 111, 116, 97, 108, 45, 99, 111, 110, 110, 101, 99, 116, 105, 111, 110, 115])), t60] w (fun t61 w =>
Do P (Instr.fieldAt 33 a2 0) w (fun t63 w =>
Do P (Instr.loadAt 3 t63) w (fun t64 w =>
Do P (Instr.fieldAt 33 a2 1) w (fun t65 w =>
Do P (Instr.loadAt 3 t65) w (fun t66 w =>
CallF P 13 [t64, t66] w (fun t67 w =>
CallV P a1 [(Value.string (ByteArray.mk #[117, 112, 116, 105, 109, 101])), t67] w (fun t68 w =>
Do P (Instr.fieldAt 33 a2 13) w (fun t70 w =>
Do P (Instr.loadAt 3 t70) w (fun t71 w =>
CallV P a1 [(Value.string (ByteArray.mk #[98, 105, 110, 108, 111, 103, 45, 111, 108, 100, 101, 115, 116, 45, 105, 110, 100, 101, 120])), t71] w (fun t72 w =>
Do P (Instr.fieldAt 33 a2 14) w (fun t74 w =>
Do P (Instr.loadAt 3 t74) w (fun t75 w =>
CallV P a1 [(Value.string (ByteArray.mk #[98, 105, 110, 108, 111, 103, 45, 99, 117, 114, 114, 101, 110, 116, 45, 105, 110, 100, 101, 120])), t75] w (fun t76 w =>
Do P (Instr.fieldAt 33 a2 15) w (fun t78 w =>
Do P (Instr.loadAt 3 t78) w (fun t79 w =>
CallV P a1 [(Value.string (ByteArray.mk #[98, 105, 110, 108, 111, 103, 45, 114, 101, 99, 111, 114, 100, 115, 45, 109, 105, 103, 114, 97, 116, 101, 100])), t79] w (fun t80 w =>
Do P (Instr.fieldAt 33 a2 16) w (fun t82 w =>
Do P (Instr.loadAt 3 t82) w (fun t83 w =>
CallV P a1 [(Value.string (ByteArray.mk #[98, 105, 110, 108, 111, 103, 45, 114, 101, 99, 111, 114, 100, 115, 45, 119, 114, 105, 116, 116, 101, 110])), t83] w (fun t84 w =>
Do P (Instr.fieldAt 33 a2 18) w (fun t86 w =>
Do P (Instr.loadAt 3 t86) w (fun t87 w =>
CallV P a1 [(Value.string (ByteArray.mk #[98, 105, 110, 108, 111, 103, 45, 109, 97, 120, 45, 115, 105, 122, 101])), t87] w (fun t88 w =>
Do P (Instr.fieldAt 33 a2 19) w (fun t89 w =>
Do P (Instr.loadAt 4 t89) w (fun t90 w =>
If t90
(CallV P a0 [(Value.string (ByteArray.mk #[100, 114, 97, 105, 110, 105, 110, 103])), (Value.string (ByteArray.mk #[116, 114, 117, 101]))] w (fun t93 w =>
R (Value.tuple #[]) w) X)
(CallV P a0 [(Value.string (ByteArray.mk #[100, 114, 97, 105, 110, 105, 110, 103])), (Value.string (ByteArray.mk #[102, 97, 108, 115, 101]))] w (fun t93_1 w =>
R (Value.tuple #[]) w) X)) X) X) X) X) X) X) X) X) X) X) X) X) X) X) X) X) X) X) X) X) X) X) X) X) X) X) X) X) X) X) X) X) X) X) X) X) X) X) X) X) X) X) X) X) X) X) X) X) X) X) a1 a2 (σ 11) w) X) X) X
def f17.ann : Ann := [(26, [11]), (1689, [0, 2, 4, 10, 12, 14, 16, 18, 7, 8, 21])]
theorem f17.awp_eq (R : Value → World → Prop) (X : List PanicEntry → World → Prop) (a0 a1 a2 : Value) (w : World) : awp P 94 f17.ann X 1 (bodyOf Tryd.f17) (retE P [] R) (argE [a0, a1, a2]) w = f17.f R X a0 a1 a2 w := by kernel_rfl
theorem f17.calls {R : Value → World → Prop} {X : List PanicEntry → World → Prop} {a0 a1 a2 : Value} {w : World} (h : f17.f R X a0 a1 a2 w) : Calls P 17 #[a0, a1, a2] w (retd R X) :=
  calls_of_awp mixed Tryd.func17 rfl Tryd.ntmps17 (by rw [Tryd.results17]) (Nat.le_of_ble_eq_true rfl) (f17.awp_eq R X a0 a1 a2 w ▸ h)
theorem f17.enters (args : Array Value) (w : World) : (callFunc 17 args).run P w = .ok (.enter 17 args) w := by kernel_rfl

/-! ### 18: stint/verbs.Name -/
def f18.f (R : Value → World → Prop) (X : List PanicEntry → World → Prop) (a0 : Value) (w : World) : Prop :=
CallF P 27 [a0] w (fun t7 w =>
Do P (Instr.extract t7 0) w (fun t8 w =>
Do P (Instr.extract t7 1) w (fun t9 w =>
Do P (Instr.alloc 63 true (Value.tuple #[])) w (fun t3 w =>
DoU P (Instr.storeAt 63 t3 t8) w (fun _ w =>
Do P (Instr.fieldAt 63 t3 0) w (fun t10 w =>
Do P (Instr.loadAt 9 t10) w (fun t11 w =>
R t11 w) X) X) X) X) X) X) X
def f18.ann : Ann := []
theorem f18.awp_eq (R : Value → World → Prop) (X : List PanicEntry → World → Prop) (a0 : Value) (w : World) : awp P 12 f18.ann X 1 (bodyOf Tryd.f18) (retE P [(ResultVar.tmp 2)] R) (argE [a0]) w = f18.f R X a0 w := by kernel_rfl
theorem f18.calls {R : Value → World → Prop} {X : List PanicEntry → World → Prop} {a0 : Value} {w : World} (h : f18.f R X a0 w) : Calls P 18 #[a0] w (retd R X) :=
  calls_of_awp mixed Tryd.func18 rfl Tryd.ntmps18 (by rw [Tryd.results18]) (Nat.le_of_ble_eq_true rfl) (f18.awp_eq R X a0 w ▸ h)
theorem f18.enters (args : Array Value) (w : World) : (callFunc 18 args).run P w = .ok (.enter 18 args) w := by kernel_rfl

/-! ### 23: stint/figures.told$1 -/
def f23.f (R : Value → World → Prop) (X : List PanicEntry → World → Prop) (a0 a1 a2 : Value) (w : World) : Prop :=
Do P (Instr.loadAt 38 a2) w (fun t5 w =>
Do P (Instr.build 44 #[(0, a0), (1, a1)]) w (fun t8 w =>
Do P (Instr.buildSlice 38 1 #[(0, t8)]) w (fun t9 w =>
Do P (Builtin.append_ #[38, 38] 38 #[t5, t9]) w (fun t10 w =>
DoU P (Instr.storeAt 38 a2 t10) w (fun _ w =>
R (Value.tuple #[]) w) X) X) X) X) X
def f23.ann : Ann := []
theorem f23.awp_eq (R : Value → World → Prop) (X : List PanicEntry → World → Prop) (a0 a1 a2 : Value) (w : World) : awp P 11 f23.ann X 1 (bodyOf Tryd.f23) (retE P [] R) (argE [a0, a1, a2]) w = f23.f R X a0 a1 a2 w := by kernel_rfl
theorem f23.calls {R : Value → World → Prop} {X : List PanicEntry → World → Prop} {a0 a1 a2 : Value} {w : World} (h : f23.f R X a0 a1 a2 w) : Calls P 23 #[a0, a1, a2] w (retd R X) :=
  calls_of_awp mixed Tryd.func23 rfl Tryd.ntmps23 (by rw [Tryd.results23]) (Nat.le_of_ble_eq_true rfl) (f23.awp_eq R X a0 a1 a2 w ▸ h)
theorem f23.enters (args : Array Value) (w : World) : (callFunc 23 args).run P w = .ok (.enter 23 args) w := by kernel_rfl

/-! ### 24: stint/figures.told$2 -/
def f24.f (R : Value → World → Prop) (X : List PanicEntry → World → Prop) (a0 a1 a2 : Value) (w : World) : Prop :=
∃ S : World → Prop, S (drewW w) ∧ (fun w =>
Take P S (Instr.loadAt 49 a2) fun t5 =>
CallF P 25 [a1] w (fun t8 w =>
S w ∧ CallV P t5 [a0, t8] w (fun t9 w =>
S w ∧ R (Value.tuple #[]) w) X) X) (drewW w)
def f24.ann : Ann := [(1, [0, 2, 4, 7, 9])]
theorem f24.awp_eq (R : Value → World → Prop) (X : List PanicEntry → World → Prop) (a0 a1 a2 : Value) (w : World) : awp P 10 f24.ann X 1 (bodyOf Tryd.f24) (retE P [] R) (argE [a0, a1, a2]) w = f24.f R X a0 a1 a2 w := by kernel_rfl
theorem f24.calls {R : Value → World → Prop} {X : List PanicEntry → World → Prop} {a0 a1 a2 : Value} {w : World} (h : f24.f R X a0 a1 a2 w) : Calls P 24 #[a0, a1, a2] w (retd R X) :=
  calls_of_awp mixed Tryd.func24 rfl Tryd.ntmps24 (by rw [Tryd.results24]) (Nat.le_of_ble_eq_true rfl) (f24.awp_eq R X a0 a1 a2 w ▸ h)
theorem f24.enters (args : Array Value) (w : World) : (callFunc 24 args).run P w = .ok (.enter 24 args) w := by kernel_rfl

/-! ### 25: stint/digits.Print -/
def f25.f (R : Value → World → Prop) (X : List PanicEntry → World → Prop) (a0 : Value) (w : World) : Prop :=
Do P (binOp BinOp.lss 3 a0 (Value.int IntKind.i64 0)) w (fun t4 w =>
If t4
(R (Value.string (ByteArray.mk #[])) w)
(CallF P 30 [a0] w (fun t6 w =>
R t6 w) X)) X
def f25.ann : Ann := []
theorem f25.awp_eq (R : Value → World → Prop) (X : List PanicEntry → World → Prop) (a0 : Value) (w : World) : awp P 7 f25.ann X 1 (bodyOf Tryd.f25) (retE P [(ResultVar.tmp 2)] R) (argE [a0]) w = f25.f R X a0 w := by kernel_rfl
theorem f25.calls {R : Value → World → Prop} {X : List PanicEntry → World → Prop} {a0 : Value} {w : World} (h : f25.f R X a0 w) : Calls P 25 #[a0] w (retd R X) :=
  calls_of_awp mixed Tryd.func25 rfl Tryd.ntmps25 (by rw [Tryd.results25]) (Nat.le_of_ble_eq_true rfl) (f25.awp_eq R X a0 w ▸ h)
theorem f25.enters (args : Array Value) (w : World) : (callFunc 25 args).run P w = .ok (.enter 25 args) w := by kernel_rfl

/-! ### 26: stint/yaml.Dict -/
def f26.l0 (R : Value → World → Prop) (X : List PanicEntry → World → Prop) (N : Value → World → Prop) (E0 : World → Prop) (a0 t4 t12 x13 : Value) (w : World) : Prop :=
Do P (binOp BinOp.lss 3 x13 t12) w (fun t14 w =>
If t14
(Do P (Instr.indexAt 38 a0 x13) w (fun t16 w =>
Do P (Instr.loadAt 44 t16) w (fun t17 w =>
Do P (Instr.alloc 44 true (Value.tuple #[])) w (fun t6 w =>
DoU P (Instr.storeAt 44 t6 t17) w (fun _ w =>
∃ S : World → Prop, S (drewW w) ∧ (fun w =>
Take P S (Instr.fieldAt 44 t6 0) fun t18 =>
Take P S (Instr.loadAt 9 t18) fun t19 =>
CallF P 32 [t19] w (fun t20 w =>
S w ∧ Take P S (Op.unary UnOp.not t20) fun t21 =>
GuardT t21 false (fun K => K a0) fun t23 =>
GuardT t21 false (fun K => K x13) fun t24 =>
GuardT t21 false (fun K => Take P S (Instr.sliceAt 38 t23 none (some t24) none) K) fun t25 =>
GuardT t21 false (fun K => Take P S (Instr.fieldAt 44 t6 0) K) fun t26 =>
GuardT t21 false (fun K => Take P S (Instr.loadAt 9 t26) K) fun t27 =>
GuardK t21 false (fun K => CallF P 33 [t25, t27] w K X) w fun t28 w =>
S w ∧ Take P S (pickS t21 (Value.bool true) t28) fun t29 =>
If t29
(R (Value.tuple #[(Value.slice none 0 0), (Value.int IntKind.i64 90)]) w)
(Do P (Instr.fieldAt 44 t6 1) w (fun t30 w =>
Do P (Instr.loadAt 9 t30) w (fun t31 w =>
CallF P 34 [t31] w (fun t32 w =>
Do P (Op.unary UnOp.not t32) w (fun t33 w =>
If t33
(R (Value.tuple #[(Value.slice none 0 0), (Value.int IntKind.i64 91)]) w)
(Do P (Instr.fieldAt 44 t6 0) w (fun t34 w =>
Do P (Instr.loadAt 9 t34) w (fun t35 w =>
Do P (Instr.fieldAt 44 t6 1) w (fun t36 w =>
Do P (Instr.loadAt 9 t36) w (fun t37 w =>
Do P (Instr.buildSlice 55 3 #[(0, t35), (1, (Value.string (ByteArray.mk #[58, 32]))), (2, t37)]) w (fun t38 w =>
CallF P 35 [t4, t38] w (fun t39 w =>
Do P (binOp BinOp.add 3 x13 (Value.int IntKind.i64 1)) w (fun t40 w =>
N t40 w) X) X) X) X) X) X) X)) X) X) X) X)) X) (drewW w)) X) X) X) X)
(E0 w)) X
def f26.f (R : Value → World → Prop) (X : List PanicEntry → World → Prop) (a0 : Value) (w : World) : Prop :=
Do P (Builtin.len_ #[38] 3 #[a0]) w (fun t8 w =>
Do P (binOp BinOp.gtr 3 t8 (Value.int IntKind.i64 256)) w (fun t9 w =>
If t9
(R (Value.tuple #[(Value.slice none 0 0), (Value.int IntKind.i64 1)]) w)
(Do P (Instr.alloc 70 true (Value.tuple #[])) w (fun t4 w =>
CallF P 31 [t4, (Value.string (ByteArray.mk #[45, 45, 45, 10]))] w (fun t10 w =>
Do P (Builtin.len_ #[38] 3 #[a0]) w (fun t12 w =>
∃ I : Nat → Value → World → Prop, (∃ k, I k (Value.int IntKind.i64 0) w) ∧ ∀ (k : Nat) (σ : Env) (w : World), I k (σ 13) w →
f26.l0 R X (fun (y13 : Value) w => ∃ k', k' < k ∧ I k' y13 w) (fun w =>
CallF P 36 [t4] w (fun t41 w =>
R (Value.tuple #[t41, (Value.int IntKind.i64 0)]) w) X) a0 t4 t12 (σ 13) w) X) X) X)) X) X
def f26.ann : Ann := [(250, [13]), (64100, [0, 2, 5, 6, 8, 10, 12, 14, 16, 18, 21, 22])]
theorem f26.awp_eq (R : Value → World → Prop) (X : List PanicEntry → World → Prop) (a0 : Value) (w : World) : awp P 42 f26.ann X 1 (bodyOf Tryd.f26) (retE P [(ResultVar.tmp 2), (ResultVar.tmp 3)] R) (argE [a0]) w = f26.f R X a0 w := by kernel_rfl
theorem f26.calls {R : Value → World → Prop} {X : List PanicEntry → World → Prop} {a0 : Value} {w : World} (h : f26.f R X a0 w) : Calls P 26 #[a0] w (retd R X) :=
  calls_of_awp mixed Tryd.func26 rfl Tryd.ntmps26 (by rw [Tryd.results26]) (Nat.le_of_ble_eq_true rfl) (f26.awp_eq R X a0 w ▸ h)
theorem f26.enters (args : Array Value) (w : World) : (callFunc 26 args).run P w = .ok (.enter 26 args) w := by kernel_rfl

/-! ### 27: stint/verbs.formOf -/
def f27.f (R : Value → World → Prop) (X : List PanicEntry → World → Prop) (a0 : Value) (w : World) : Prop :=
Do P (Instr.alloc 63 true (Value.tuple #[])) w (fun t2 w =>
Do P (binOp BinOp.lss 3 a0 (Value.int IntKind.i64 1)) w (fun t5 w =>
GuardK t5 false (fun K => K a0 w) w fun t7 w =>
GuardK t5 false (fun K => Do P (binOp BinOp.gtr 3 t7 (Value.int IntKind.i64 25)) w K X) w fun t8 w =>
Do P (pickS t5 (Value.bool true) t8) w (fun t9 w =>
If t9
(Do P (Instr.build 63 #[]) w (fun t10 w =>
DoU P (Instr.storeAt 63 t2 t10) w (fun _ w =>
ResC P 63 t2 w fun r =>
R (Value.tuple #[r, (Value.bool false)]) w) X) X)
(CallF P 37 [] w (fun t11 w =>
Do P (Instr.index 79 t11 a0) w (fun t13 w =>
DoU P (Instr.storeAt 63 t2 t13) w (fun _ w =>
ResC P 63 t2 w fun r_1 =>
R (Value.tuple #[r_1, (Value.bool true)]) w) X) X) X)) X) X) X
def f27.ann : Ann := []
theorem f27.awp_eq (R : Value → World → Prop) (X : List PanicEntry → World → Prop) (a0 : Value) (w : World) : awp P 14 f27.ann X 1 (bodyOf Tryd.f27) (retE P [(ResultVar.cell 2 63), (ResultVar.tmp 3)] R) (argE [a0]) w = f27.f R X a0 w := by kernel_rfl
theorem f27.calls {R : Value → World → Prop} {X : List PanicEntry → World → Prop} {a0 : Value} {w : World} (h : f27.f R X a0 w) : Calls P 27 #[a0] w (retd R X) :=
  calls_of_awp mixed Tryd.func27 rfl Tryd.ntmps27 (by rw [Tryd.results27]) (Nat.le_of_ble_eq_true rfl) (f27.awp_eq R X a0 w ▸ h)
theorem f27.enters (args : Array Value) (w : World) : (callFunc 27 args).run P w = .ok (.enter 27 args) w := by kernel_rfl

/-! ### 32: stint/yaml.right -/
def f32.l0 (R : Value → World → Prop) (X : List PanicEntry → World → Prop) (N : Value → World → Prop) (E0 : World → Prop) (t6 t7 x8 : Value) (w : World) : Prop :=
Do P (binOp BinOp.lss 3 x8 t7) w (fun t9 w =>
If t9
(Do P (Instr.indexAt 24 t6 x8) w (fun t10 w =>
Do P (Instr.loadAt 5 t10) w (fun t11 w =>
Do P (binS BinOp.neq 5 (Operand.tmp 12) (Operand.const (Value.int IntKind.u8 45)) t11 (Value.int IntKind.u8 45)) w (fun t13 w =>
GuardK t13 true (fun K => K t11 w) w fun t15 w =>
GuardK t13 true (fun K => Do P (binOp BinOp.lss 5 t15 (Value.int IntKind.u8 48)) w K X) w fun t16 w =>
GuardK t13 true (fun K => K t16 w) w fun t17 w =>
GuardK t17 false (fun K => K t11 w) w fun t18 w =>
GuardK t17 false (fun K => Do P (binOp BinOp.gtr 5 t18 (Value.int IntKind.u8 57)) w K X) w fun t19 w =>
GuardK t13 true (fun K => Do P (pickS t17 (Value.bool true) t19) w K X) w fun t20 w =>
Do P (pickS t13 t20 (Value.bool false)) w (fun t21 w =>
GuardK t21 true (fun K => K t11 w) w fun t23 w =>
GuardK t21 true (fun K => Do P (binOp BinOp.lss 5 t23 (Value.int IntKind.u8 97)) w K X) w fun t24 w =>
GuardK t21 true (fun K => K t24 w) w fun t25 w =>
GuardK t25 false (fun K => K t11 w) w fun t26 w =>
GuardK t25 false (fun K => Do P (binOp BinOp.gtr 5 t26 (Value.int IntKind.u8 122)) w K X) w fun t27 w =>
GuardK t21 true (fun K => Do P (pickS t25 (Value.bool true) t27) w K X) w fun t28 w =>
Do P (pickS t21 t28 (Value.bool false)) w (fun t29 w =>
If t29
(R (Value.bool false) w)
(Do P (binOp BinOp.add 3 x8 (Value.int IntKind.i64 1)) w (fun t30 w =>
N t30 w) X)) X) X) X) X) X)
(E0 w)) X
def f32.f (R : Value → World → Prop) (X : List PanicEntry → World → Prop) (a0 : Value) (w : World) : Prop :=
Do P (convert 9 24 a0) w (fun t6 w =>
Do P (Builtin.len_ #[24] 3 #[t6]) w (fun t7 w =>
∃ I : Nat → Value → World → Prop, (∃ k, I k (Value.int IntKind.i64 0) w) ∧ ∀ (k : Nat) (σ : Env) (w : World), I k (σ 8) w →
f32.l0 R X (fun (y8 : Value) w => ∃ k', k' < k ∧ I k' y8 w) (fun w =>
Do P (binS BinOp.neq 9 (Operand.tmp 31) (Operand.const (Value.string (ByteArray.mk #[]))) a0 (Value.string (ByteArray.mk #[]))) w (fun t32 w =>
GuardK t32 true (fun K => K a0 w) w fun t34 w =>
GuardK t32 true (fun K => Do P (Builtin.len_ #[9] 3 #[t34]) w K X) w fun t35 w =>
GuardK t32 true (fun K => Do P (binOp BinOp.leq 3 t35 (Value.int IntKind.i64 64)) w K X) w fun t36 w =>
Do P (pickS t32 t36 (Value.bool false)) w (fun t37 w =>
R t37 w) X) X) t6 t7 (σ 8) w) X) X
def f32.ann : Ann := [(26, [8])]
theorem f32.awp_eq (R : Value → World → Prop) (X : List PanicEntry → World → Prop) (a0 : Value) (w : World) : awp P 38 f32.ann X 1 (bodyOf Tryd.f32) (retE P [(ResultVar.tmp 2)] R) (argE [a0]) w = f32.f R X a0 w := by kernel_rfl
theorem f32.calls {R : Value → World → Prop} {X : List PanicEntry → World → Prop} {a0 : Value} {w : World} (h : f32.f R X a0 w) : Calls P 32 #[a0] w (retd R X) :=
  calls_of_awp mixed Tryd.func32 rfl Tryd.ntmps32 (by rw [Tryd.results32]) (Nat.le_of_ble_eq_true rfl) (f32.awp_eq R X a0 w ▸ h)
theorem f32.enters (args : Array Value) (w : World) : (callFunc 32 args).run P w = .ok (.enter 32 args) w := by kernel_rfl

/-! ### 33: stint/yaml.has -/
def f33.l0 (R : Value → World → Prop) (X : List PanicEntry → World → Prop) (N : Value → World → Prop) (E0 : World → Prop) (a0 a1 t8 x9 : Value) (w : World) : Prop :=
Do P (binOp BinOp.lss 3 x9 t8) w (fun t10 w =>
If t10
(Do P (Instr.indexAt 38 a0 x9) w (fun t11 w =>
Do P (Instr.loadAt 44 t11) w (fun t12 w =>
Do P (Instr.alloc 44 true (Value.tuple #[])) w (fun t6 w =>
DoU P (Instr.storeAt 44 t6 t12) w (fun _ w =>
Do P (Instr.fieldAt 44 t6 0) w (fun t13 w =>
Do P (Instr.loadAt 9 t13) w (fun t14 w =>
Do P (binS BinOp.eql 9 (Operand.tmp 14) (Operand.tmp 15) t14 a1) w (fun t16 w =>
If t16
(R (Value.bool true) w)
(Do P (binOp BinOp.add 3 x9 (Value.int IntKind.i64 1)) w (fun t17 w =>
N t17 w) X)) X) X) X) X) X) X) X)
(E0 w)) X
def f33.f (R : Value → World → Prop) (X : List PanicEntry → World → Prop) (a0 a1 : Value) (w : World) : Prop :=
Do P (Builtin.len_ #[38] 3 #[a0]) w (fun t8 w =>
∃ I : Nat → Value → World → Prop, (∃ k, I k (Value.int IntKind.i64 0) w) ∧ ∀ (k : Nat) (σ : Env) (w : World), I k (σ 9) w →
f33.l0 R X (fun (y9 : Value) w => ∃ k', k' < k ∧ I k' y9 w) (fun w =>
R (Value.bool false) w) a0 a1 t8 (σ 9) w) X
def f33.ann : Ann := [(26, [9])]
theorem f33.awp_eq (R : Value → World → Prop) (X : List PanicEntry → World → Prop) (a0 a1 : Value) (w : World) : awp P 18 f33.ann X 1 (bodyOf Tryd.f33) (retE P [(ResultVar.tmp 4)] R) (argE [a0, a1]) w = f33.f R X a0 a1 w := by kernel_rfl
theorem f33.calls {R : Value → World → Prop} {X : List PanicEntry → World → Prop} {a0 a1 : Value} {w : World} (h : f33.f R X a0 a1 w) : Calls P 33 #[a0, a1] w (retd R X) :=
  calls_of_awp mixed Tryd.func33 rfl Tryd.ntmps33 (by rw [Tryd.results33]) (Nat.le_of_ble_eq_true rfl) (f33.awp_eq R X a0 a1 w ▸ h)
theorem f33.enters (args : Array Value) (w : World) : (callFunc 33 args).run P w = .ok (.enter 33 args) w := by kernel_rfl

/-! ### 34: stint/yaml.plain -/
def f34.l0 (R : Value → World → Prop) (X : List PanicEntry → World → Prop) (N : Value → World → Prop) (E0 : World → Prop) (t6 t7 x8 : Value) (w : World) : Prop :=
Do P (binOp BinOp.lss 3 x8 t7) w (fun t9 w =>
If t9
(Do P (Instr.indexAt 24 t6 x8) w (fun t10 w =>
Do P (Instr.loadAt 5 t10) w (fun t11 w =>
Do P (binOp BinOp.lss 5 t11 (Value.int IntKind.u8 33)) w (fun t13 w =>
GuardK t13 false (fun K => K t11 w) w fun t15 w =>
GuardK t13 false (fun K => Do P (binOp BinOp.gtr 5 t15 (Value.int IntKind.u8 126)) w K X) w fun t16 w =>
Do P (pickS t13 (Value.bool true) t16) w (fun t17 w =>
If t17
(R (Value.bool false) w)
(Do P (binOp BinOp.add 3 x8 (Value.int IntKind.i64 1)) w (fun t18 w =>
N t18 w) X)) X) X) X) X)
(E0 w)) X
def f34.f (R : Value → World → Prop) (X : List PanicEntry → World → Prop) (a0 : Value) (w : World) : Prop :=
Do P (convert 9 24 a0) w (fun t6 w =>
Do P (Builtin.len_ #[24] 3 #[t6]) w (fun t7 w =>
∃ I : Nat → Value → World → Prop, (∃ k, I k (Value.int IntKind.i64 0) w) ∧ ∀ (k : Nat) (σ : Env) (w : World), I k (σ 8) w →
f34.l0 R X (fun (y8 : Value) w => ∃ k', k' < k ∧ I k' y8 w) (fun w =>
Do P (binS BinOp.neq 9 (Operand.tmp 19) (Operand.const (Value.string (ByteArray.mk #[]))) a0 (Value.string (ByteArray.mk #[]))) w (fun t20 w =>
GuardK t20 true (fun K => K a0 w) w fun t22 w =>
GuardK t20 true (fun K => Do P (Builtin.len_ #[9] 3 #[t22]) w K X) w fun t23 w =>
GuardK t20 true (fun K => Do P (binOp BinOp.leq 3 t23 (Value.int IntKind.i64 4096)) w K X) w fun t24 w =>
Do P (pickS t20 t24 (Value.bool false)) w (fun t25 w =>
R t25 w) X) X) t6 t7 (σ 8) w) X) X
def f34.ann : Ann := [(26, [8])]
theorem f34.awp_eq (R : Value → World → Prop) (X : List PanicEntry → World → Prop) (a0 : Value) (w : World) : awp P 26 f34.ann X 1 (bodyOf Tryd.f34) (retE P [(ResultVar.tmp 2)] R) (argE [a0]) w = f34.f R X a0 w := by kernel_rfl
theorem f34.calls {R : Value → World → Prop} {X : List PanicEntry → World → Prop} {a0 : Value} {w : World} (h : f34.f R X a0 w) : Calls P 34 #[a0] w (retd R X) :=
  calls_of_awp mixed Tryd.func34 rfl Tryd.ntmps34 (by rw [Tryd.results34]) (Nat.le_of_ble_eq_true rfl) (f34.awp_eq R X a0 w ▸ h)
theorem f34.enters (args : Array Value) (w : World) : (callFunc 34 args).run P w = .ok (.enter 34 args) w := by kernel_rfl

/-! ### 35: stint/yaml.line -/
def f35.l0 (X : List PanicEntry → World → Prop) (N : Value → World → Prop) (E0 : World → Prop) (a0 a1 t7 x8 : Value) (w : World) : Prop :=
Do P (binOp BinOp.lss 3 x8 t7) w (fun t9 w =>
If t9
(Do P (Instr.indexAt 55 a1 x8) w (fun t10 w =>
Do P (Instr.loadAt 9 t10) w (fun t11 w =>
CallF P 31 [a0, t11] w (fun t14 w =>
Do P (binOp BinOp.add 3 x8 (Value.int IntKind.i64 1)) w (fun t15 w =>
N t15 w) X) X) X) X)
(E0 w)) X
def f35.f (R : Value → World → Prop) (X : List PanicEntry → World → Prop) (a0 a1 : Value) (w : World) : Prop :=
Do P (Builtin.len_ #[55] 3 #[a1]) w (fun t7 w =>
∃ I : Nat → Value → World → Prop, (∃ k, I k (Value.int IntKind.i64 0) w) ∧ ∀ (k : Nat) (σ : Env) (w : World), I k (σ 8) w →
f35.l0 X (fun (y8 : Value) w => ∃ k', k' < k ∧ I k' y8 w) (fun w =>
CallF P 41 [a0, (Value.int IntKind.u8 10)] w (fun t17 w =>
R (Value.tuple #[]) w) X) a0 a1 t7 (σ 8) w) X
def f35.ann : Ann := [(10, [8])]
theorem f35.awp_eq (R : Value → World → Prop) (X : List PanicEntry → World → Prop) (a0 a1 : Value) (w : World) : awp P 18 f35.ann X 1 (bodyOf Tryd.f35) (retE P [] R) (argE [a0, a1]) w = f35.f R X a0 a1 w := by kernel_rfl
theorem f35.calls {R : Value → World → Prop} {X : List PanicEntry → World → Prop} {a0 a1 : Value} {w : World} (h : f35.f R X a0 a1 w) : Calls P 35 #[a0, a1] w (retd R X) :=
  calls_of_awp mixed Tryd.func35 rfl Tryd.ntmps35 (by rw [Tryd.results35]) (Nat.le_of_ble_eq_true rfl) (f35.awp_eq R X a0 a1 w ▸ h)
theorem f35.enters (args : Array Value) (w : World) : (callFunc 35 args).run P w = .ok (.enter 35 args) w := by kernel_rfl

/-! ### 37: stint/verbs.forms -/
def f37.f (R : Value → World → Prop) (X : List PanicEntry → World → Prop) (w : World) : Prop :=
Do P (Instr.alloc 79 true (Value.tuple #[])) w (fun t0 w =>
Do P (Instr.build 63 #[(0, (Value.string (ByteArray.mk #[112, 117, 116]))), (1, (Value.string (ByteArray.mk #[112, 100, 116, 110])))]) w (fun t1 w =>
Do P (Instr.build 63 #[(0, (Value.string (ByteArray.mk #[117, 115, 101]))), (1, (Value.string (ByteArray.mk #[117])))]) w (fun t2 w =>
Do P (Instr.build 63 #[(0, (Value.string (ByteArray.mk #[114, 101, 115, 101, 114, 118, 101]))), (1, (Value.string (ByteArray.mk #[])))]) w (fun t3 w =>
Do P (Instr.build 63 #[(0, (Value.string (ByteArray.mk #[114, 101, 115, 101, 114, 118, 101, 45, 119, 105, 116, 104, 45, 116, 105, 109, 101, 111, 117, 116]))), (1, (Value.string (ByteArray.mk #[110])))]) w (fun t4 w =>
Do P (Instr.build 63 #[(0, (Value.string (ByteArray.mk #[114, 101, 115, 101, 114, 118, 101, 45, 106, 111, 98]))), (1, (Value.string (ByteArray.mk #[105])))]) w (fun t5 w =>
Do P (Instr.build 63 #[(0, (Value.string (ByteArray.mk #[100, 101, 108, 101, 116, 101]))), (1, (Value.string (ByteArray.mk #[105])))]) w (fun t6 w =>
Do P (Instr.build 63 #[(0, (Value.string (ByteArray.mk #[114, 101, 108, 101, 97, 115, 101]))), (1, (Value.string (ByteArray.mk #[105, 112, 100])))]) w (fun t7 w =>
Do P (Instr.build 63 #[(0, (Value.string (ByteArray.mk #[98, 117, 114, 121]))), (1, (Value.string (ByteArray.mk #[105, 112])))]) w (fun t8 w =>
Do P (Instr.build 63 #[(0, (Value.string (ByteArray.mk #[116, 111, 117, 99, 104]))), (1, (Value.string (ByteArray.mk #[105])))]) w (fun t9 w =>
Do P (Instr.build 63 #[(0, (Value.string (ByteArray.mk #[119, 97, 116, 99, 104]))), (1, (Value.string (ByteArray.mk #[117])))]) w (fun t10 w =>
Do P (Instr.build 63 #[(0, (Value.string (ByteArray.mk #[105, 103, 110, 111, 114, 101]))), (1, (Value.string (ByteArray.mk #[117])))]) w (fun t11 w =>
Do P (Instr.build 63 #[(0, (Value.string (ByteArray.mk #[112, 101, 101, 107]))), (1, (Value.string (ByteArray.mk #[105])))]) w (fun t12 w =>
Do P (Instr.build 63 #[(0, (Value.string (ByteArray.mk #[112, 101, 101, 107, 45, 114, 101, 97, 100, 121]))), (1, (Value.string (ByteArray.mk #[])))]) w (fun t13 w =>
Do P (Instr.build 63 #[(0, (Value.string (ByteArray.mk #[112, 101, 101, 107, 45, 100, 101, 108, 97, 121, 101, 100]))), (1, (Value.string (ByteArray.mk #[])))]) w (fun t14 w =>
Do P (Instr.build 63 #[(0, (Value.string (ByteArray.mk #[112, 101, 101, 107, 45, 98, 117, 114, 105, 101, 100]))), (1, (Value.string (ByteArray.mk #[])))]) w (fun t15 w =>
Do P (Instr.build 63 #[(0, (Value.string (ByteArray.mk #[107, 105, 99, 107]))), (1, (Value.string (ByteArray.mk #[110])))]) w (fun t16 w =>
Do P (Instr.build 63 #[(0, (Value.string (ByteArray.mk #[107, 105, 99, 107, 45, 106, 111, 98]))), (1, (Value.string (ByteArray.mk #[105])))]) w (fun t17 w =>
Do P (Instr.build 63 #[(0, (Value.string (ByteArray.mk #[115, 116, 97, 116, 115, 45, 106, 111, 98]))), (1, (Value.string (ByteArray.mk #[105])))]) w (fun t18 w =>
Do P (Instr.build 63 #[(0, (Value.string (ByteArray.mk #[115, 116, 97, 116, 115, 45, 116, 117, 98, 101]))), (1, (Value.string (ByteArray.mk #[117])))]) w (fun t19 w =>
Do P (Instr.build 63 #[(0, (Value.string (ByteArray.mk #[115, 116, 97, 116, 115]))), (1, (Value.string (ByteArray.mk #[])))]) w (fun t20 w =>
Do P (Instr.build 63 #[(0, (Value.string (ByteArray.mk #[108, 105, 115, 116, 45, 116, 117, 98, 101, 115]))), (1, (Value.string (ByteArray.mk #[])))]) w (fun t21 w =>
Do P (Instr.build 63 #[(0, (Value.string (ByteArray.mk #[108, 105, 115, 116, 45, 116, 117, 98, 101, 45, 117, 115, 101, 100]))), (1, (Value.string (ByteArray.mk #[])))]) w (fun t22 w =>
Do P (Instr.build 63 #[(0, (Value.string (ByteArray.mk #[108, 105, 115, 116, 45, 116, 117, 98, 101, 115, 45, 119, 97, 116, 99, 104, 101, 100]))), (1, (Value.string (ByteArray.mk #[])))]) w (fun t23 w =>
Do P (Instr.build 63 #[(0, (Value.string (ByteArray.mk #[112, 97, 117, 115, 101, 45, 116, 117, 98, 101]))), (1, (Value.string (ByteArray.mk #[117, 110])))]) w (fun t24 w =>
Do P (Instr.build 63 #[(0, (Value.string (ByteArray.mk #[113, 117, 105, 116]))), (1, (Value.string (ByteArray.mk #[])))]) w (fun t25 w =>
Do P (Instr.build 79 #[(1, t1), (2, t2), (3, t3), (4, t4), (5, t5), (6, t6), (7, t7), (8, t8), (9, t9), (10, t10), (11, t11), (12, t12), (13, t13), (14, t14), (15, t15), (16, t16), (17, t17), (18, t18), (19, t19), (20, t20), (21, t21), (22, t22), (23, t23), (24, t24), (25, t25)]) w (fun t26 w =>
DoU P (Instr.storeAt 79 t0 t26) w (fun _ w =>
ResC P 79 t0 w fun r =>
R r w) X) X) X) X) X) X) X) X) X) X) X) X) X) X) X) X) X) X) X) X) X) X) X) X) X) X) X) X
def f37.ann : Ann := []
theorem f37.awp_eq (R : Value → World → Prop) (X : List PanicEntry → World → Prop) (w : World) : awp P 27 f37.ann X 1 (bodyOf Tryd.f37) (retE P [(ResultVar.cell 0 79)] R) (argE []) w = f37.f R X w := by kernel_rfl
theorem f37.calls {R : Value → World → Prop} {X : List PanicEntry → World → Prop} {w : World} (h : f37.f R X w) : Calls P 37 #[] w (retd R X) :=
  calls_of_awp mixed Tryd.func37 rfl Tryd.ntmps37 (by rw [Tryd.results37]) (Nat.le_of_ble_eq_true rfl) (f37.awp_eq R X w ▸ h)
theorem f37.enters (args : Array Value) (w : World) : (callFunc 37 args).run P w = .ok (.enter 37 args) w := by kernel_rfl
end Go.Proofs.YtggdogncmkffpaaDoor
