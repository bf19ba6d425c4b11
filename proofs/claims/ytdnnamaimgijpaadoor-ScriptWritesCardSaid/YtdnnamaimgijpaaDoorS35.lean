/- The reference's rightStep: pieces (written by gen35.py). Conditions: none. -/
import Derived.Test.YtdnnamaimgijpaaDoorS34
set_option linter.unusedVariables false
set_option linter.unusedSectionVars false
set_option maxRecDepth 10000
namespace Go.Proofs.YtdnnamaimgijpaaDoor
open Go Go.Sx Go.Proofs Go.Lib Go.RowKit
section
variable {w0 : World} {b1 : Nat} {s : StepV} {d k : Value} {X : List PanicEntry → World → Prop}
  (hd : SlAt 5 1 w0 d s.data.length (byteCells s.data)) (hk : SlAt 3 1 w0 k s.keep.length (ints s.keep))
include hd hk
theorem rsA1 {w : World} (H : Has w0 w [boxB b1 s d k]) {p q : Bool} {KK : Value → World → Prop} (h : KK (.bool (hasConnB s.kind)) w) :
Do P (binS BinOp.eql 3 (Operand.tmp 9) (Operand.const (Value.int IntKind.i64 1)) (.int .i64 s.kind) (Value.int IntKind.i64 1)) w (fun t10 w =>
GuardK t10 false (fun K => K (.int .i64 s.kind) w) w fun t12 w =>
GuardK t10 false (fun K => Do P (binS BinOp.eql 3 (Operand.tmp 12) (Operand.const (Value.int IntKind.i64 2)) t12 (Value.int IntKind.i64 2)) w K X) w fun t13 w =>
Do P (pickS t10 (Value.bool true) t13) w (fun t14 w =>
GuardK t14 false (fun K => K (.int .i64 s.kind) w) w fun t16 w =>
GuardK t14 false (fun K => Do P (binS BinOp.eql 3 (Operand.tmp 16) (Operand.const (Value.int IntKind.i64 3)) t16 (Value.int IntKind.i64 3)) w K X) w fun t17 w =>
Do P (pickS t14 (Value.bool true) t17) w (fun t18 w => KK t18 w) X) X) X := by
  have ldK : ∀ {K : Value → World → Prop}, K (.int .i64 s.kind) w → Do P (Instr.loadAt 3 (.pointer (some ⟨b1, 0 + 0, none⟩))) w K X := fun h => Do.ld H 0 rfl rfl h
  have ldC : ∀ {K : Value → World → Prop}, K (.int .i64 s.conn) w → Do P (Instr.loadAt 3 (.pointer (some ⟨b1, 0 + 1, none⟩))) w K X := fun h => Do.ld H 0 rfl rfl h
  have ldD : ∀ {K : Value → World → Prop}, K d w → Do P (Instr.loadAt 41 (.pointer (some ⟨b1, 0 + 2, none⟩))) w K X := fun h => Do.ld H 0 rfl rfl h
  have ldB : ∀ {K : Value → World → Prop}, K (.int .i64 s.brk) w → Do P (Instr.loadAt 3 (.pointer (some ⟨b1, 0 + 3, none⟩))) w K X := fun h => Do.ld H 0 rfl rfl h
  have ldP : ∀ {K : Value → World → Prop}, K k w → Do P (Instr.loadAt 42 (.pointer (some ⟨b1, 0 + 4, none⟩))) w K X := fun h => Do.ld H 0 rfl rfl h
  have lnD : ∀ {K : Value → World → Prop}, K (.int .i64 s.data.length) w → Do P (Builtin.len_ #[41] 3 #[d]) w K X := fun h => Do.ok hd.len h
  have lnP : ∀ {K : Value → World → Prop}, K (.int .i64 s.keep.length) w → Do P (Builtin.len_ #[42] 3 #[k]) w K X := fun h => Do.ok hk.len h
  have rgC : ∀ {K : Value → World → Prop}, K (.bool (rightB s.conn)) w → CallF P 74 [.int .i64 s.conn] w K X := fun h => CallF.ret (f74.enters _ _) (right74_ret s.conn w) (by rintro _ _ ⟨rfl, rfl⟩; exact h)
  have rgB : ∀ {K : Value → World → Prop}, K (.bool (rightB s.brk)) w → CallF P 74 [.int .i64 s.brk] w K X := fun h => CallF.ret (f74.enters _ _) (right74_ret s.brk w) (by rintro _ _ ⟨rfl, rfl⟩; exact h)
  unfold hasConnB at h
  all_goals (repeat' (with_reducible first | refine rgC ?_ | refine rgB ?_ | refine ldK ?_ | refine ldC ?_ | refine ldD ?_ | refine ldB ?_ | refine ldP ?_ | refine lnD ?_ | refine lnP ?_ | refine Do.dec run_gtr (fun _ => ?_) (fun _ => ?_) | refine Do.dec run_lss (fun _ => ?_) (fun _ => ?_) | refine Do.dec run_eqi (fun _ => ?_) (fun _ => ?_) | refine Do.dec run_nei (fun _ => ?_) (fun _ => ?_) | refine Do.ok run_pickT ?_ | refine Do.ok run_pickF ?_ | refine Do.ok run_notT ?_ | refine Do.ok run_notF ?_ | refine GuardK.tt ?_ | refine GuardK.ff ?_ | refine GuardK.tf ?_ | refine GuardK.ft ?_ | refine GuardK.un ?_ | refine Do.ok run_fld ?_))
  all_goals first | (simpa [*] using h) | (rename_i q; simp at q; simpa [*] using h) | (simp_all; done)
theorem rsA2 {w : World} (H : Has w0 w [boxB b1 s d k]) {p q : Bool} {KK : Value → World → Prop} (h : KK (.bool (hasBreakB s.kind)) w) :
Do P (binS BinOp.eql 3 (Operand.tmp 19) (Operand.const (Value.int IntKind.i64 2)) (.int .i64 s.kind) (Value.int IntKind.i64 2)) w (fun t20 w =>
GuardK t20 false (fun K => K (.int .i64 s.kind) w) w fun t22 w =>
GuardK t20 false (fun K => Do P (binS BinOp.eql 3 (Operand.tmp 22) (Operand.const (Value.int IntKind.i64 3)) t22 (Value.int IntKind.i64 3)) w K X) w fun t23 w =>
Do P (pickS t20 (Value.bool true) t23) w (fun t24 w =>
GuardK t24 false (fun K => K (.int .i64 s.kind) w) w fun t26 w =>
GuardK t24 false (fun K => Do P (binS BinOp.eql 3 (Operand.tmp 26) (Operand.const (Value.int IntKind.i64 4)) t26 (Value.int IntKind.i64 4)) w K X) w fun t27 w =>
Do P (pickS t24 (Value.bool true) t27) w (fun t28 w =>
GuardK t28 false (fun K => K (.int .i64 s.kind) w) w fun t30 w =>
GuardK t28 false (fun K => Do P (binS BinOp.eql 3 (Operand.tmp 30) (Operand.const (Value.int IntKind.i64 7)) t30 (Value.int IntKind.i64 7)) w K X) w fun t31 w =>
Do P (pickS t28 (Value.bool true) t31) w (fun t32 w => KK t32 w) X) X) X) X := by
  have ldK : ∀ {K : Value → World → Prop}, K (.int .i64 s.kind) w → Do P (Instr.loadAt 3 (.pointer (some ⟨b1, 0 + 0, none⟩))) w K X := fun h => Do.ld H 0 rfl rfl h
  have ldC : ∀ {K : Value → World → Prop}, K (.int .i64 s.conn) w → Do P (Instr.loadAt 3 (.pointer (some ⟨b1, 0 + 1, none⟩))) w K X := fun h => Do.ld H 0 rfl rfl h
  have ldD : ∀ {K : Value → World → Prop}, K d w → Do P (Instr.loadAt 41 (.pointer (some ⟨b1, 0 + 2, none⟩))) w K X := fun h => Do.ld H 0 rfl rfl h
  have ldB : ∀ {K : Value → World → Prop}, K (.int .i64 s.brk) w → Do P (Instr.loadAt 3 (.pointer (some ⟨b1, 0 + 3, none⟩))) w K X := fun h => Do.ld H 0 rfl rfl h
  have ldP : ∀ {K : Value → World → Prop}, K k w → Do P (Instr.loadAt 42 (.pointer (some ⟨b1, 0 + 4, none⟩))) w K X := fun h => Do.ld H 0 rfl rfl h
  have lnD : ∀ {K : Value → World → Prop}, K (.int .i64 s.data.length) w → Do P (Builtin.len_ #[41] 3 #[d]) w K X := fun h => Do.ok hd.len h
  have lnP : ∀ {K : Value → World → Prop}, K (.int .i64 s.keep.length) w → Do P (Builtin.len_ #[42] 3 #[k]) w K X := fun h => Do.ok hk.len h
  have rgC : ∀ {K : Value → World → Prop}, K (.bool (rightB s.conn)) w → CallF P 74 [.int .i64 s.conn] w K X := fun h => CallF.ret (f74.enters _ _) (right74_ret s.conn w) (by rintro _ _ ⟨rfl, rfl⟩; exact h)
  have rgB : ∀ {K : Value → World → Prop}, K (.bool (rightB s.brk)) w → CallF P 74 [.int .i64 s.brk] w K X := fun h => CallF.ret (f74.enters _ _) (right74_ret s.brk w) (by rintro _ _ ⟨rfl, rfl⟩; exact h)
  unfold hasBreakB at h
  all_goals (repeat' (with_reducible first | refine rgC ?_ | refine rgB ?_ | refine ldK ?_ | refine ldC ?_ | refine ldD ?_ | refine ldB ?_ | refine ldP ?_ | refine lnD ?_ | refine lnP ?_ | refine Do.dec run_gtr (fun _ => ?_) (fun _ => ?_) | refine Do.dec run_lss (fun _ => ?_) (fun _ => ?_) | refine Do.dec run_eqi (fun _ => ?_) (fun _ => ?_) | refine Do.dec run_nei (fun _ => ?_) (fun _ => ?_) | refine Do.ok run_pickT ?_ | refine Do.ok run_pickF ?_ | refine Do.ok run_notT ?_ | refine Do.ok run_notF ?_ | refine GuardK.tt ?_ | refine GuardK.ff ?_ | refine GuardK.tf ?_ | refine GuardK.ft ?_ | refine GuardK.un ?_ | refine Do.ok run_fld ?_))
  all_goals first | (simpa [*] using h) | (rename_i q; simp at q; simpa [*] using h) | (simp_all; done)
theorem rsA3 {w : World} (H : Has w0 w [boxB b1 s d k]) {p q : Bool} {KK : Value → World → Prop} (h : KK (.bool (decide (s.kind < 1) || decide (7 < s.kind))) w) :
Do P (binOp BinOp.lss 3 (.int .i64 s.kind) (Value.int IntKind.i64 1)) w (fun t34 w =>
GuardK t34 false (fun K => K (.int .i64 s.kind) w) w fun t36 w =>
GuardK t34 false (fun K => Do P (binOp BinOp.gtr 3 t36 (Value.int IntKind.i64 7)) w K X) w fun t37 w =>
Do P (pickS t34 (Value.bool true) t37) w (fun t38 w => KK t38 w) X) X := by
  have ldK : ∀ {K : Value → World → Prop}, K (.int .i64 s.kind) w → Do P (Instr.loadAt 3 (.pointer (some ⟨b1, 0 + 0, none⟩))) w K X := fun h => Do.ld H 0 rfl rfl h
  have ldC : ∀ {K : Value → World → Prop}, K (.int .i64 s.conn) w → Do P (Instr.loadAt 3 (.pointer (some ⟨b1, 0 + 1, none⟩))) w K X := fun h => Do.ld H 0 rfl rfl h
  have ldD : ∀ {K : Value → World → Prop}, K d w → Do P (Instr.loadAt 41 (.pointer (some ⟨b1, 0 + 2, none⟩))) w K X := fun h => Do.ld H 0 rfl rfl h
  have ldB : ∀ {K : Value → World → Prop}, K (.int .i64 s.brk) w → Do P (Instr.loadAt 3 (.pointer (some ⟨b1, 0 + 3, none⟩))) w K X := fun h => Do.ld H 0 rfl rfl h
  have ldP : ∀ {K : Value → World → Prop}, K k w → Do P (Instr.loadAt 42 (.pointer (some ⟨b1, 0 + 4, none⟩))) w K X := fun h => Do.ld H 0 rfl rfl h
  have lnD : ∀ {K : Value → World → Prop}, K (.int .i64 s.data.length) w → Do P (Builtin.len_ #[41] 3 #[d]) w K X := fun h => Do.ok hd.len h
  have lnP : ∀ {K : Value → World → Prop}, K (.int .i64 s.keep.length) w → Do P (Builtin.len_ #[42] 3 #[k]) w K X := fun h => Do.ok hk.len h
  have rgC : ∀ {K : Value → World → Prop}, K (.bool (rightB s.conn)) w → CallF P 74 [.int .i64 s.conn] w K X := fun h => CallF.ret (f74.enters _ _) (right74_ret s.conn w) (by rintro _ _ ⟨rfl, rfl⟩; exact h)
  have rgB : ∀ {K : Value → World → Prop}, K (.bool (rightB s.brk)) w → CallF P 74 [.int .i64 s.brk] w K X := fun h => CallF.ret (f74.enters _ _) (right74_ret s.brk w) (by rintro _ _ ⟨rfl, rfl⟩; exact h)
  skip
  all_goals (repeat' (with_reducible first | refine rgC ?_ | refine rgB ?_ | refine ldK ?_ | refine ldC ?_ | refine ldD ?_ | refine ldB ?_ | refine ldP ?_ | refine lnD ?_ | refine lnP ?_ | refine Do.dec run_gtr (fun _ => ?_) (fun _ => ?_) | refine Do.dec run_lss (fun _ => ?_) (fun _ => ?_) | refine Do.dec run_eqi (fun _ => ?_) (fun _ => ?_) | refine Do.dec run_nei (fun _ => ?_) (fun _ => ?_) | refine Do.ok run_pickT ?_ | refine Do.ok run_pickF ?_ | refine Do.ok run_notT ?_ | refine Do.ok run_notF ?_ | refine GuardK.tt ?_ | refine GuardK.ff ?_ | refine GuardK.tf ?_ | refine GuardK.ft ?_ | refine GuardK.un ?_ | refine Do.ok run_fld ?_))
  all_goals first | (simpa [*] using h) | (rename_i q; simp at q; simpa [*] using h) | (simp_all; done)
theorem rsA4 {w : World} (H : Has w0 w [boxB b1 s d k]) {p q : Bool} {KK : Value → World → Prop} (h : KK (.bool (p || !rightB s.conn)) w) :
GuardK (.bool p) false (fun K => Do P (Instr.fieldAt 44 (pt b1) 1) w K X) w fun t40 w =>
GuardK (.bool p) false (fun K => Do P (Instr.loadAt 3 t40) w K X) w fun t41 w =>
GuardK (.bool p) false (fun K => CallF P 74 [t41] w K X) w fun t42 w =>
GuardK (.bool p) false (fun K => Do P (Op.unary UnOp.not t42) w K X) w fun t43 w =>
Do P (pickS (.bool p) (Value.bool true) t43) w (fun t44 w => KK t44 w) X := by
  have ldK : ∀ {K : Value → World → Prop}, K (.int .i64 s.kind) w → Do P (Instr.loadAt 3 (.pointer (some ⟨b1, 0 + 0, none⟩))) w K X := fun h => Do.ld H 0 rfl rfl h
  have ldC : ∀ {K : Value → World → Prop}, K (.int .i64 s.conn) w → Do P (Instr.loadAt 3 (.pointer (some ⟨b1, 0 + 1, none⟩))) w K X := fun h => Do.ld H 0 rfl rfl h
  have ldD : ∀ {K : Value → World → Prop}, K d w → Do P (Instr.loadAt 41 (.pointer (some ⟨b1, 0 + 2, none⟩))) w K X := fun h => Do.ld H 0 rfl rfl h
  have ldB : ∀ {K : Value → World → Prop}, K (.int .i64 s.brk) w → Do P (Instr.loadAt 3 (.pointer (some ⟨b1, 0 + 3, none⟩))) w K X := fun h => Do.ld H 0 rfl rfl h
  have ldP : ∀ {K : Value → World → Prop}, K k w → Do P (Instr.loadAt 42 (.pointer (some ⟨b1, 0 + 4, none⟩))) w K X := fun h => Do.ld H 0 rfl rfl h
  have lnD : ∀ {K : Value → World → Prop}, K (.int .i64 s.data.length) w → Do P (Builtin.len_ #[41] 3 #[d]) w K X := fun h => Do.ok hd.len h
  have lnP : ∀ {K : Value → World → Prop}, K (.int .i64 s.keep.length) w → Do P (Builtin.len_ #[42] 3 #[k]) w K X := fun h => Do.ok hk.len h
  have rgC : ∀ {K : Value → World → Prop}, K (.bool (rightB s.conn)) w → CallF P 74 [.int .i64 s.conn] w K X := fun h => CallF.ret (f74.enters _ _) (right74_ret s.conn w) (by rintro _ _ ⟨rfl, rfl⟩; exact h)
  have rgB : ∀ {K : Value → World → Prop}, K (.bool (rightB s.brk)) w → CallF P 74 [.int .i64 s.brk] w K X := fun h => CallF.ret (f74.enters _ _) (right74_ret s.brk w) (by rintro _ _ ⟨rfl, rfl⟩; exact h)
  generalize rightB s.conn = c at rgC h
  cases p <;> cases c
  all_goals (repeat' (with_reducible first | refine rgC ?_ | refine rgB ?_ | refine ldK ?_ | refine ldC ?_ | refine ldD ?_ | refine ldB ?_ | refine ldP ?_ | refine lnD ?_ | refine lnP ?_ | refine Do.dec run_gtr (fun _ => ?_) (fun _ => ?_) | refine Do.dec run_lss (fun _ => ?_) (fun _ => ?_) | refine Do.dec run_eqi (fun _ => ?_) (fun _ => ?_) | refine Do.dec run_nei (fun _ => ?_) (fun _ => ?_) | refine Do.ok run_pickT ?_ | refine Do.ok run_pickF ?_ | refine Do.ok run_notT ?_ | refine Do.ok run_notF ?_ | refine GuardK.tt ?_ | refine GuardK.ff ?_ | refine GuardK.tf ?_ | refine GuardK.ft ?_ | refine GuardK.un ?_ | refine Do.ok run_fld ?_))
  all_goals first | (simpa [*] using h) | (rename_i q; simp at q; simpa [*] using h) | (simp_all; done)
theorem rsA5 {w : World} (H : Has w0 w [boxB b1 s d k]) {p q : Bool} {KK : Value → World → Prop} (h : KK (.bool (p || (!q && decide (s.conn ≠ 0)))) w) :
GuardK (.bool p) false (fun K => K (.bool q) w) w fun t46 w =>
GuardK (.bool p) false (fun K => Do P (Op.unary UnOp.not t46) w K X) w fun t47 w =>
GuardK (.bool p) false (fun K => K t47 w) w fun t48 w =>
GuardK t48 true (fun K => Do P (Instr.fieldAt 44 (pt b1) 1) w K X) w fun t49 w =>
GuardK t48 true (fun K => Do P (Instr.loadAt 3 t49) w K X) w fun t50 w =>
GuardK t48 true (fun K => Do P (binS BinOp.neq 3 (Operand.tmp 50) (Operand.const (Value.int IntKind.i64 0)) t50 (Value.int IntKind.i64 0)) w K X) w fun t51 w =>
GuardK (.bool p) false (fun K => Do P (pickS t48 t51 (Value.bool false)) w K X) w fun t52 w =>
Do P (pickS (.bool p) (Value.bool true) t52) w (fun t53 w => KK t53 w) X := by
  have ldK : ∀ {K : Value → World → Prop}, K (.int .i64 s.kind) w → Do P (Instr.loadAt 3 (.pointer (some ⟨b1, 0 + 0, none⟩))) w K X := fun h => Do.ld H 0 rfl rfl h
  have ldC : ∀ {K : Value → World → Prop}, K (.int .i64 s.conn) w → Do P (Instr.loadAt 3 (.pointer (some ⟨b1, 0 + 1, none⟩))) w K X := fun h => Do.ld H 0 rfl rfl h
  have ldD : ∀ {K : Value → World → Prop}, K d w → Do P (Instr.loadAt 41 (.pointer (some ⟨b1, 0 + 2, none⟩))) w K X := fun h => Do.ld H 0 rfl rfl h
  have ldB : ∀ {K : Value → World → Prop}, K (.int .i64 s.brk) w → Do P (Instr.loadAt 3 (.pointer (some ⟨b1, 0 + 3, none⟩))) w K X := fun h => Do.ld H 0 rfl rfl h
  have ldP : ∀ {K : Value → World → Prop}, K k w → Do P (Instr.loadAt 42 (.pointer (some ⟨b1, 0 + 4, none⟩))) w K X := fun h => Do.ld H 0 rfl rfl h
  have lnD : ∀ {K : Value → World → Prop}, K (.int .i64 s.data.length) w → Do P (Builtin.len_ #[41] 3 #[d]) w K X := fun h => Do.ok hd.len h
  have lnP : ∀ {K : Value → World → Prop}, K (.int .i64 s.keep.length) w → Do P (Builtin.len_ #[42] 3 #[k]) w K X := fun h => Do.ok hk.len h
  have rgC : ∀ {K : Value → World → Prop}, K (.bool (rightB s.conn)) w → CallF P 74 [.int .i64 s.conn] w K X := fun h => CallF.ret (f74.enters _ _) (right74_ret s.conn w) (by rintro _ _ ⟨rfl, rfl⟩; exact h)
  have rgB : ∀ {K : Value → World → Prop}, K (.bool (rightB s.brk)) w → CallF P 74 [.int .i64 s.brk] w K X := fun h => CallF.ret (f74.enters _ _) (right74_ret s.brk w) (by rintro _ _ ⟨rfl, rfl⟩; exact h)
  cases p <;> cases q
  all_goals (repeat' (with_reducible first | refine rgC ?_ | refine rgB ?_ | refine ldK ?_ | refine ldC ?_ | refine ldD ?_ | refine ldB ?_ | refine ldP ?_ | refine lnD ?_ | refine lnP ?_ | refine Do.dec run_gtr (fun _ => ?_) (fun _ => ?_) | refine Do.dec run_lss (fun _ => ?_) (fun _ => ?_) | refine Do.dec run_eqi (fun _ => ?_) (fun _ => ?_) | refine Do.dec run_nei (fun _ => ?_) (fun _ => ?_) | refine Do.ok run_pickT ?_ | refine Do.ok run_pickF ?_ | refine Do.ok run_notT ?_ | refine Do.ok run_notF ?_ | refine GuardK.tt ?_ | refine GuardK.ff ?_ | refine GuardK.tf ?_ | refine GuardK.ft ?_ | refine GuardK.un ?_ | refine Do.ok run_fld ?_))
  all_goals first | (simpa [*] using h) | (rename_i q; simp at q; simpa [*] using h) | (simp_all; done)
theorem rsA6 {w : World} (H : Has w0 w [boxB b1 s d k]) {p q : Bool} {KK : Value → World → Prop} (h : KK (.bool (p || (decide (s.kind ≠ 2) && decide (0 < s.data.length)))) w) :
GuardK (.bool p) false (fun K => K (.int .i64 s.kind) w) w fun t55 w =>
GuardK (.bool p) false (fun K => Do P (binS BinOp.neq 3 (Operand.tmp 55) (Operand.const (Value.int IntKind.i64 2)) t55 (Value.int IntKind.i64 2)) w K X) w fun t56 w =>
GuardK (.bool p) false (fun K => K t56 w) w fun t57 w =>
GuardK t57 true (fun K => Do P (Instr.fieldAt 44 (pt b1) 2) w K X) w fun t58 w =>
GuardK t57 true (fun K => Do P (Instr.loadAt 41 t58) w K X) w fun t59 w =>
GuardK t57 true (fun K => Do P (Builtin.len_ #[41] 3 #[t59]) w K X) w fun t60 w =>
GuardK t57 true (fun K => Do P (binOp BinOp.gtr 3 t60 (Value.int IntKind.i64 0)) w K X) w fun t61 w =>
GuardK (.bool p) false (fun K => Do P (pickS t57 t61 (Value.bool false)) w K X) w fun t62 w =>
Do P (pickS (.bool p) (Value.bool true) t62) w (fun t63 w => KK t63 w) X := by
  have ldK : ∀ {K : Value → World → Prop}, K (.int .i64 s.kind) w → Do P (Instr.loadAt 3 (.pointer (some ⟨b1, 0 + 0, none⟩))) w K X := fun h => Do.ld H 0 rfl rfl h
  have ldC : ∀ {K : Value → World → Prop}, K (.int .i64 s.conn) w → Do P (Instr.loadAt 3 (.pointer (some ⟨b1, 0 + 1, none⟩))) w K X := fun h => Do.ld H 0 rfl rfl h
  have ldD : ∀ {K : Value → World → Prop}, K d w → Do P (Instr.loadAt 41 (.pointer (some ⟨b1, 0 + 2, none⟩))) w K X := fun h => Do.ld H 0 rfl rfl h
  have ldB : ∀ {K : Value → World → Prop}, K (.int .i64 s.brk) w → Do P (Instr.loadAt 3 (.pointer (some ⟨b1, 0 + 3, none⟩))) w K X := fun h => Do.ld H 0 rfl rfl h
  have ldP : ∀ {K : Value → World → Prop}, K k w → Do P (Instr.loadAt 42 (.pointer (some ⟨b1, 0 + 4, none⟩))) w K X := fun h => Do.ld H 0 rfl rfl h
  have lnD : ∀ {K : Value → World → Prop}, K (.int .i64 s.data.length) w → Do P (Builtin.len_ #[41] 3 #[d]) w K X := fun h => Do.ok hd.len h
  have lnP : ∀ {K : Value → World → Prop}, K (.int .i64 s.keep.length) w → Do P (Builtin.len_ #[42] 3 #[k]) w K X := fun h => Do.ok hk.len h
  have rgC : ∀ {K : Value → World → Prop}, K (.bool (rightB s.conn)) w → CallF P 74 [.int .i64 s.conn] w K X := fun h => CallF.ret (f74.enters _ _) (right74_ret s.conn w) (by rintro _ _ ⟨rfl, rfl⟩; exact h)
  have rgB : ∀ {K : Value → World → Prop}, K (.bool (rightB s.brk)) w → CallF P 74 [.int .i64 s.brk] w K X := fun h => CallF.ret (f74.enters _ _) (right74_ret s.brk w) (by rintro _ _ ⟨rfl, rfl⟩; exact h)
  cases p
  all_goals (repeat' (with_reducible first | refine rgC ?_ | refine rgB ?_ | refine ldK ?_ | refine ldC ?_ | refine ldD ?_ | refine ldB ?_ | refine ldP ?_ | refine lnD ?_ | refine lnP ?_ | refine Do.dec run_gtr (fun _ => ?_) (fun _ => ?_) | refine Do.dec run_lss (fun _ => ?_) (fun _ => ?_) | refine Do.dec run_eqi (fun _ => ?_) (fun _ => ?_) | refine Do.dec run_nei (fun _ => ?_) (fun _ => ?_) | refine Do.ok run_pickT ?_ | refine Do.ok run_pickF ?_ | refine Do.ok run_notT ?_ | refine Do.ok run_notF ?_ | refine GuardK.tt ?_ | refine GuardK.ff ?_ | refine GuardK.tf ?_ | refine GuardK.ft ?_ | refine GuardK.un ?_ | refine Do.ok run_fld ?_))
  all_goals first | (simpa [*] using h) | (rename_i q; simp at q; simpa [*] using h) | (simp_all; done)
theorem rsB2 {w : World} (H : Has w0 w [boxB b1 s d k]) {p q : Bool} {KK : Value → World → Prop} (h : KK (.bool (p || (!q && decide (s.brk ≠ 0)))) w) :
GuardK (.bool p) false (fun K => K (.bool q) w) w fun t69 w =>
GuardK (.bool p) false (fun K => Do P (Op.unary UnOp.not t69) w K X) w fun t70 w =>
GuardK (.bool p) false (fun K => K t70 w) w fun t71 w =>
GuardK t71 true (fun K => Do P (Instr.fieldAt 44 (pt b1) 3) w K X) w fun t72 w =>
GuardK t71 true (fun K => Do P (Instr.loadAt 3 t72) w K X) w fun t73 w =>
GuardK t71 true (fun K => Do P (binS BinOp.neq 3 (Operand.tmp 73) (Operand.const (Value.int IntKind.i64 0)) t73 (Value.int IntKind.i64 0)) w K X) w fun t74 w =>
GuardK (.bool p) false (fun K => Do P (pickS t71 t74 (Value.bool false)) w K X) w fun t75 w =>
Do P (pickS (.bool p) (Value.bool true) t75) w (fun t76 w => KK t76 w) X := by
  have ldK : ∀ {K : Value → World → Prop}, K (.int .i64 s.kind) w → Do P (Instr.loadAt 3 (.pointer (some ⟨b1, 0 + 0, none⟩))) w K X := fun h => Do.ld H 0 rfl rfl h
  have ldC : ∀ {K : Value → World → Prop}, K (.int .i64 s.conn) w → Do P (Instr.loadAt 3 (.pointer (some ⟨b1, 0 + 1, none⟩))) w K X := fun h => Do.ld H 0 rfl rfl h
  have ldD : ∀ {K : Value → World → Prop}, K d w → Do P (Instr.loadAt 41 (.pointer (some ⟨b1, 0 + 2, none⟩))) w K X := fun h => Do.ld H 0 rfl rfl h
  have ldB : ∀ {K : Value → World → Prop}, K (.int .i64 s.brk) w → Do P (Instr.loadAt 3 (.pointer (some ⟨b1, 0 + 3, none⟩))) w K X := fun h => Do.ld H 0 rfl rfl h
  have ldP : ∀ {K : Value → World → Prop}, K k w → Do P (Instr.loadAt 42 (.pointer (some ⟨b1, 0 + 4, none⟩))) w K X := fun h => Do.ld H 0 rfl rfl h
  have lnD : ∀ {K : Value → World → Prop}, K (.int .i64 s.data.length) w → Do P (Builtin.len_ #[41] 3 #[d]) w K X := fun h => Do.ok hd.len h
  have lnP : ∀ {K : Value → World → Prop}, K (.int .i64 s.keep.length) w → Do P (Builtin.len_ #[42] 3 #[k]) w K X := fun h => Do.ok hk.len h
  have rgC : ∀ {K : Value → World → Prop}, K (.bool (rightB s.conn)) w → CallF P 74 [.int .i64 s.conn] w K X := fun h => CallF.ret (f74.enters _ _) (right74_ret s.conn w) (by rintro _ _ ⟨rfl, rfl⟩; exact h)
  have rgB : ∀ {K : Value → World → Prop}, K (.bool (rightB s.brk)) w → CallF P 74 [.int .i64 s.brk] w K X := fun h => CallF.ret (f74.enters _ _) (right74_ret s.brk w) (by rintro _ _ ⟨rfl, rfl⟩; exact h)
  cases p <;> cases q
  all_goals (repeat' (with_reducible first | refine rgC ?_ | refine rgB ?_ | refine ldK ?_ | refine ldC ?_ | refine ldD ?_ | refine ldB ?_ | refine ldP ?_ | refine lnD ?_ | refine lnP ?_ | refine Do.dec run_gtr (fun _ => ?_) (fun _ => ?_) | refine Do.dec run_lss (fun _ => ?_) (fun _ => ?_) | refine Do.dec run_eqi (fun _ => ?_) (fun _ => ?_) | refine Do.dec run_nei (fun _ => ?_) (fun _ => ?_) | refine Do.ok run_pickT ?_ | refine Do.ok run_pickF ?_ | refine Do.ok run_notT ?_ | refine Do.ok run_notF ?_ | refine GuardK.tt ?_ | refine GuardK.ff ?_ | refine GuardK.tf ?_ | refine GuardK.ft ?_ | refine GuardK.un ?_ | refine Do.ok run_fld ?_))
  all_goals first | (simpa [*] using h) | (rename_i q; simp at q; simpa [*] using h) | (simp_all; done)
theorem rsB3 {w : World} (H : Has w0 w [boxB b1 s d k]) {p q : Bool} {KK : Value → World → Prop} (h : KK (.bool (p || (decide (0 < s.keep.length) && ((decide (s.kind ≠ 6) && !q) || (q && decide (s.brk = 0)))))) w) :
GuardK (.bool p) false (fun K => Do P (Instr.fieldAt 44 (pt b1) 4) w K X) w fun t78 w =>
GuardK (.bool p) false (fun K => Do P (Instr.loadAt 42 t78) w K X) w fun t79 w =>
GuardK (.bool p) false (fun K => Do P (Builtin.len_ #[42] 3 #[t79]) w K X) w fun t80 w =>
GuardK (.bool p) false (fun K => Do P (binOp BinOp.gtr 3 t80 (Value.int IntKind.i64 0)) w K X) w fun t81 w =>
GuardK (.bool p) false (fun K => K t81 w) w fun t82 w =>
GuardK t82 true (fun K => K (.int .i64 s.kind) w) w fun t83 w =>
GuardK t82 true (fun K => Do P (binS BinOp.neq 3 (Operand.tmp 83) (Operand.const (Value.int IntKind.i64 6)) t83 (Value.int IntKind.i64 6)) w K X) w fun t84 w =>
GuardK t82 true (fun K => K t84 w) w fun t85 w =>
GuardK t85 true (fun K => K (.bool q) w) w fun t86 w =>
GuardK t85 true (fun K => Do P (Op.unary UnOp.not t86) w K X) w fun t87 w =>
GuardK t82 true (fun K => Do P (pickS t85 t87 (Value.bool false)) w K X) w fun t88 w =>
GuardK t82 true (fun K => K t88 w) w fun t89 w =>
GuardK t89 false (fun K => K (.bool q) w) w fun t90 w =>
GuardK t89 false (fun K => K t90 w) w fun t91 w =>
GuardK t91 true (fun K => Do P (Instr.fieldAt 44 (pt b1) 3) w K X) w fun t92 w =>
GuardK t91 true (fun K => Do P (Instr.loadAt 3 t92) w K X) w fun t93 w =>
GuardK t91 true (fun K => Do P (binS BinOp.eql 3 (Operand.tmp 93) (Operand.const (Value.int IntKind.i64 0)) t93 (Value.int IntKind.i64 0)) w K X) w fun t94 w =>
GuardK t89 false (fun K => Do P (pickS t91 t94 (Value.bool false)) w K X) w fun t95 w =>
GuardK t82 true (fun K => Do P (pickS t89 (Value.bool true) t95) w K X) w fun t96 w =>
GuardK (.bool p) false (fun K => Do P (pickS t82 t96 (Value.bool false)) w K X) w fun t97 w =>
Do P (pickS (.bool p) (Value.bool true) t97) w (fun t98 w => KK t98 w) X := by
  have ldK : ∀ {K : Value → World → Prop}, K (.int .i64 s.kind) w → Do P (Instr.loadAt 3 (.pointer (some ⟨b1, 0 + 0, none⟩))) w K X := fun h => Do.ld H 0 rfl rfl h
  have ldC : ∀ {K : Value → World → Prop}, K (.int .i64 s.conn) w → Do P (Instr.loadAt 3 (.pointer (some ⟨b1, 0 + 1, none⟩))) w K X := fun h => Do.ld H 0 rfl rfl h
  have ldD : ∀ {K : Value → World → Prop}, K d w → Do P (Instr.loadAt 41 (.pointer (some ⟨b1, 0 + 2, none⟩))) w K X := fun h => Do.ld H 0 rfl rfl h
  have ldB : ∀ {K : Value → World → Prop}, K (.int .i64 s.brk) w → Do P (Instr.loadAt 3 (.pointer (some ⟨b1, 0 + 3, none⟩))) w K X := fun h => Do.ld H 0 rfl rfl h
  have ldP : ∀ {K : Value → World → Prop}, K k w → Do P (Instr.loadAt 42 (.pointer (some ⟨b1, 0 + 4, none⟩))) w K X := fun h => Do.ld H 0 rfl rfl h
  have lnD : ∀ {K : Value → World → Prop}, K (.int .i64 s.data.length) w → Do P (Builtin.len_ #[41] 3 #[d]) w K X := fun h => Do.ok hd.len h
  have lnP : ∀ {K : Value → World → Prop}, K (.int .i64 s.keep.length) w → Do P (Builtin.len_ #[42] 3 #[k]) w K X := fun h => Do.ok hk.len h
  have rgC : ∀ {K : Value → World → Prop}, K (.bool (rightB s.conn)) w → CallF P 74 [.int .i64 s.conn] w K X := fun h => CallF.ret (f74.enters _ _) (right74_ret s.conn w) (by rintro _ _ ⟨rfl, rfl⟩; exact h)
  have rgB : ∀ {K : Value → World → Prop}, K (.bool (rightB s.brk)) w → CallF P 74 [.int .i64 s.brk] w K X := fun h => CallF.ret (f74.enters _ _) (right74_ret s.brk w) (by rintro _ _ ⟨rfl, rfl⟩; exact h)
  cases p <;> cases q
  all_goals (repeat' (with_reducible first | refine rgC ?_ | refine rgB ?_ | refine ldK ?_ | refine ldC ?_ | refine ldD ?_ | refine ldB ?_ | refine ldP ?_ | refine lnD ?_ | refine lnP ?_ | refine Do.dec run_gtr (fun _ => ?_) (fun _ => ?_) | refine Do.dec run_lss (fun _ => ?_) (fun _ => ?_) | refine Do.dec run_eqi (fun _ => ?_) (fun _ => ?_) | refine Do.dec run_nei (fun _ => ?_) (fun _ => ?_) | refine Do.ok run_pickT ?_ | refine Do.ok run_pickF ?_ | refine Do.ok run_notT ?_ | refine Do.ok run_notF ?_ | refine GuardK.tt ?_ | refine GuardK.ff ?_ | refine GuardK.tf ?_ | refine GuardK.ft ?_ | refine GuardK.un ?_ | refine Do.ok run_fld ?_))
  all_goals first | (simpa [*] using h) | (rename_i q; simp at q; simpa [*] using h) | (simp_all; done)
end
end Go.Proofs.YtdnnamaimgijpaaDoor
