/- Printed forms (by sxprint.py, own work) of functions of this seat's program, each with the theorem that ties it to the code. Conditions: none. -/
import Derived.Test.YtdnnamaimgijpaaDoorSxP
set_option linter.unusedVariables false
set_option maxRecDepth 100000
namespace Go.Proofs.YtdnnamaimgijpaaDoor
open Go Go.Sx Go.Proofs

/-! ### 37: (*strings.Builder).WriteString -/
def f37.f (R : Value → World → Prop) (X : List PanicEntry → World → Prop) (a0 a1 : Value) (w : World) : Prop :=
CallF P 66 [a0] w (fun t7 w =>
Do P (nilS a0) w (fun t10 w =>
Do P (Instr.fieldAt 73 t10 1) w (fun t11 w =>
Do P (Instr.loadAt 41 t11) w (fun t12 w =>
Do P (Builtin.append_ #[41, 9] 41 #[t12, a1]) w (fun t14 w =>
Do P (nilS a0) w (fun t15 w =>
Do P (Instr.fieldAt 73 t15 1) w (fun t16 w =>
DoU P (Instr.storeAt 41 t16 t14) w (fun _ w =>
Do P (Builtin.len_ #[9] 3 #[a1]) w (fun t18 w =>
R (Value.tuple #[t18, Value.nilIface]) w) X) X) X) X) X) X) X) X) X
def f37.ann : Ann := []
theorem f37.awp_eq (R : Value → World → Prop) (X : List PanicEntry → World → Prop) (a0 a1 : Value) (w : World) : awp P 19 f37.ann X 1 (bodyOf Tryd.f37) (retE P [(ResultVar.tmp 4), (ResultVar.tmp 5)] R) (argE [a0, a1]) w = f37.f R X a0 a1 w := by kernel_rfl
theorem f37.calls {R : Value → World → Prop} {X : List PanicEntry → World → Prop} {a0 a1 : Value} {w : World} (h : f37.f R X a0 a1 w) : Calls P 37 #[a0, a1] w (retd R X) :=
  calls_of_awp mixed Tryd.func37 rfl Tryd.ntmps37 (by rw [Tryd.results37]) (Nat.le_of_ble_eq_true rfl) (f37.awp_eq R X a0 a1 w ▸ h)
theorem f37.enters (args : Array Value) (w : World) : (callFunc 37 args).run P w = .ok (.enter 37 args) w := by kernel_rfl

/-! ### 87: (*strings.Builder).WriteByte -/
def f87.f (R : Value → World → Prop) (X : List PanicEntry → World → Prop) (a0 a1 : Value) (w : World) : Prop :=
CallF P 66 [a0] w (fun t6 w =>
Do P (nilS a0) w (fun t9 w =>
Do P (Instr.fieldAt 73 t9 1) w (fun t10 w =>
Do P (Instr.loadAt 41 t10) w (fun t11 w =>
Do P (Instr.buildSlice 41 1 #[(0, a1)]) w (fun t13 w =>
Do P (Builtin.append_ #[41, 41] 41 #[t11, t13]) w (fun t14 w =>
Do P (nilS a0) w (fun t15 w =>
Do P (Instr.fieldAt 73 t15 1) w (fun t16 w =>
DoU P (Instr.storeAt 41 t16 t14) w (fun _ w =>
R Value.nilIface w) X) X) X) X) X) X) X) X) X
def f87.ann : Ann := []
theorem f87.awp_eq (R : Value → World → Prop) (X : List PanicEntry → World → Prop) (a0 a1 : Value) (w : World) : awp P 17 f87.ann X 1 (bodyOf Tryd.f87) (retE P [(ResultVar.tmp 4)] R) (argE [a0, a1]) w = f87.f R X a0 a1 w := by kernel_rfl
theorem f87.calls {R : Value → World → Prop} {X : List PanicEntry → World → Prop} {a0 a1 : Value} {w : World} (h : f87.f R X a0 a1 w) : Calls P 87 #[a0, a1] w (retd R X) :=
  calls_of_awp mixed Tryd.func87 rfl Tryd.ntmps87 (by rw [Tryd.results87]) (Nat.le_of_ble_eq_true rfl) (f87.awp_eq R X a0 a1 w ▸ h)
theorem f87.enters (args : Array Value) (w : World) : (callFunc 87 args).run P w = .ok (.enter 87 args) w := by kernel_rfl
end Go.Proofs.YtdnnamaimgijpaaDoor
