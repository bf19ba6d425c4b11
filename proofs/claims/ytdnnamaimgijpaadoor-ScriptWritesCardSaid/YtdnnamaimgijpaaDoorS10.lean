/- Contract: try. Conditions: none. -/
import Derived.Test.YtdnnamaimgijpaaDoorS9
import Derived.Tactics2
import Derived.Defers
import Derived.Recover
import Derived.Laws.Pointers
set_option linter.unusedVariables false
set_option linter.unusedSectionVars false
set_option maxRecDepth 10000
namespace Go.Proofs.YtdnnamaimgijpaaDoor
open Go Go.Sx Go.Proofs Go.Lib Go.RowKit

/-- The code of try's deferred function behind recover's call. -/
noncomputable def code51 : Code :=
  match Tryd.f51.body with
  | some (.seq _ c) => c
  | _ => .skip
theorem ta87 (n : Int) (w : World) : (Instr.typeAssert (.iface 87 (.agg #[.int .i64 n])) 20 87 true).run P w = .ok (.tuple #[.agg #[.int .i64 n], .bool true]) w := by kernel_rfl
theorem eqn20 (n : Int) (w : World) : (binS .eql 20 (.tmp 4) (.const .nilIface) (.iface 87 (.agg #[.int .i64 n])) .nilIface).run P w = .ok (.bool false) w := by kernel_rfl
theorem eqn20n (w : World) : (binS .eql 20 (.tmp 4) (.const .nilIface) .nilIface .nilIface).run P w = .ok (.bool true) w := by kernel_rfl
def g51 (Q : Exit → Env → World → Prop) (X : List PanicEntry → World → Prop) (ρ : Env) (a0 t4 : Value) (w : World) : Prop :=
  Do P (binS .eql 20 (.tmp 4) (.const .nilIface) t4 .nilIface) w (fun t6 w =>
  If t6
  (Q .normal (upd 12 (upd 12 ρ 6 t6) 1 t4) w)
  (Do P (Instr.typeAssert t4 20 87 true) w (fun t7 w =>
   Do P (Instr.extract t7 1) w (fun t8 w =>
   Do P (Instr.extract t7 0) w (fun t9 w =>
   If t8
   (Do P (Instr.alloc 87 true (.tuple #[])) w (fun t2 w =>
    DoU P (Instr.storeAt 87 t2 t9) w (fun _ w =>
    Do P (Instr.fieldAt 87 t2 0) w (fun t10 w =>
    Do P (Instr.loadAt 32 t10) w (fun t11 w =>
    DoU P (Instr.storeAt 32 a0 t11) w (fun _ w => Q .normal (upd 12 (upd 12 (upd 12 (upd 12 (upd 12 (upd 12 (upd 12 ρ 6 t6) 7 t7) 8 t8) 9 t9) 2 t2) 10 t10) 11 t11) w) X) X) X) X) X)
   (Do P (Instr.panic t4) w (fun _ w => Q .normal (upd 12 (upd 12 (upd 12 (upd 12 (upd 12 (upd 12 ρ 6 t6) 7 t7) 8 t8) 9 t9) 3 t4) 5 t4) w) X)) X) X) X)) X
theorem g51_eq (Q : Exit → Env → World → Prop) (X : List PanicEntry → World → Prop) (ρ : Env) (w : World) : awp P 12 [] X 1 code51 Q ρ w = g51 (blockE 0 Q) X ρ (ρ 0) (ρ 4) w := by kernel_rfl
theorem catch51 {n b : Nat} {c : Int} {older : List PanicEntry} {w0 w : World} {L : List (Nat × Obj)} {x : Int} (H : Has w0 w ((b, .cells #[.int .i64 x] 32 (0, 0)) :: L)) :
    CallsD P 51 #[.pointer (some ⟨b, 0, none⟩)] (.panicking ({ v := .iface 87 (.agg #[.int .i64 c]), recovered := false } :: older)) w fun e u' w' =>
      e = .returned (.tuple #[]) ∧ u' = .panicking ({ v := .iface 87 (.agg #[.int .i64 c]), recovered := true } :: older) ∧ Has w0 w' ((b, .cells #[.int .i64 c] 32 (0, 0)) :: L) := by
  refine callsD_of_wpS Tryd.func51 rfl fun c₀ cs hu => ?_
  apply wpS_seq
  apply wpS_region
  simp [wpOpsS, go_sem, recoverD, hu, Tryd.ntmps51, Exit.thenS]
  refine wpS_of_wp ?_
  show code51.wp _ _ _ _
  generalize ha : ({ tmps := #[Value.pointer (some ⟨b, 0, none⟩)] ++ (Array.replicate 11 undef).setIfInBounds 3 (Value.iface 87 (Value.agg #[Value.int IntKind.i64 c])), defers := [] } : Act) = a
  have hr : Rep 12 [] a := by rw [← ha]; exact ⟨by simp, rfl⟩
  have e0 : envOf a 0 = .pointer (some ⟨b, 0, none⟩) := by rw [← ha]; rfl
  have e4 : envOf a 4 = .iface 87 (.agg #[.int .i64 c]) := by rw [← ha]; rfl
  have key : awp P 12 [] (fun _ _ => False) 1 code51 (fun e _ w' => e = .normal ∧ Has w0 w' ((b, .cells #[.int .i64 c] 32 (0, 0)) :: L)) (envOf a) w := by
    rw [g51_eq, e0, e4]
    unfold g51
    refine Do.ok (eqn20 c w) (If.f (Do.ok (ta87 c w) (Do.ok (run_ext rfl) (Do.ok (run_ext rfl) (If.t ?_)))))
    refine Do.alloc H ?_
    intro b2 w2 H2
    refine DoU.stAll H2 0 rfl rfl rfl (by simp) (fun j _ => by simp [open_]) ?_
    intro w3 H3
    refine Do.ok run_fld (Do.ld H3 0 rfl rfl ?_)
    refine DoU.st H3 1 rfl rfl (fun q => ⟨by simp, by simp⟩) (by simp) (by simp [open_]) ?_
    intro w4 H4
    exact ⟨rfl, H4.tail⟩
  refine wp_mono (awp_sound mixed [] code51 1 _ a w hr key) fun e a' w' hl => ?_
  cases e with
  | normal => exact ⟨hl.1.defers, _, rfl, .tuple #[], by simp [results, Tryd.results51], rfl, rfl, hl.2.2.2⟩
  | panic c => exact hl.2.elim
  | outgrown => exact hl.elim
  | ret => exact absurd hl.2.2.1 (by simp)
  | exit id => exact absurd hl.2.2.1 (by simp)
  | goto l => exact absurd hl.2.2.1 (by simp)
theorem idle51 {b : Nat} {w : World} :
    CallsD P 51 #[.pointer (some ⟨b, 0, none⟩)] .returning w fun e u' w' => e = .returned (.tuple #[]) ∧ u' = .returning ∧ w' = w := by
  refine callsD_of_wpS Tryd.func51 rfl fun c₀ cs hu => ?_
  apply wpS_seq
  apply wpS_region
  simp [wpOpsS, go_sem, recoverD, hu, Tryd.ntmps51, Exit.thenS]
  refine wpS_of_wp ?_
  show code51.wp _ _ _ _
  generalize ha : ({ tmps := #[Value.pointer (some ⟨b, 0, none⟩)] ++ (Array.replicate 11 undef).setIfInBounds 3 Value.nilIface, defers := [] } : Act) = a
  have hr : Rep 12 [] a := by rw [← ha]; exact ⟨by simp, rfl⟩
  have e4 : envOf a 4 = .nilIface := by rw [← ha]; rfl
  have key : awp P 12 [] (fun _ _ => False) 1 code51 (fun e _ w' => e = .normal ∧ w' = w) (envOf a) w := by
    rw [g51_eq, e4]
    unfold g51
    exact Do.ok (eqn20n w) (If.t ⟨rfl, rfl⟩)
  refine wp_mono (awp_sound mixed [] code51 1 _ a w hr key) fun e a' w' hl => ?_
  cases e with
  | normal =>
    refine ⟨hl.1.defers, .returning, ?_, .tuple #[], by simp [results, Tryd.results51], rfl, rfl, hl.2.2.2⟩
    cases c₀
    simp_all
  | panic c => exact hl.2.elim
  | outgrown => exact hl.elim
  | ret => exact absurd hl.2.2.1 (by simp)
  | exit id => exact absurd hl.2.2.1 (by simp)
  | goto l => exact absurd hl.2.2.1 (by simp)
noncomputable def code22 : Code := .seq (.region 3 #[{ dst := none, op := Op.store 32 (Operand.tmp 2) (Operand.const (Value.int IntKind.i64 0)), type := 0, pos := "script.go:75", after := #[], guard := none }] false) .ret
theorem g22_eq (Q : Exit → Env → World → Prop) (X : List PanicEntry → World → Prop) (ρ : Env) (w : World) : awp P 6 [] X 1 code22 Q ρ w = DoU P (Instr.storeAt 32 (ρ 2) (.int .i64 0)) w (fun _ w => Q .ret ρ w) X := by kernel_rfl
/-- 'try': its function's value 'do' has the blocks 'caps' at hand; it leaves R, or gives up with a 'wrong' of X's. -/
theorem try_ret {w0 w : World} {L : List (Nat × Obj)} {g : FuncId} {caps : Array Value} {R : List (Nat × Obj) → Prop} {X : Int → List (Nat × Obj) → Prop} (H : Has w0 w L)
    (he : ∀ w, (callFunc g caps).run P w = .ok (.enter g caps) w)
    (h : ∀ b w1, Has w0 w1 ((b, .cells #[.int .i64 0] 32 (0, 0)) :: L) →
      Calls P g caps w1 (retd (fun _ w' => ∃ L', R L' ∧ Has w0 w' ((b, .cells #[.int .i64 0] 32 (0, 0)) :: L')) (fun c w' => ∃ n L', c = wrongE n ∧ X n L' ∧ Has w0 w' ((b, .cells #[.int .i64 0] 32 (0, 0)) :: L')))) :
    Ret P 22 #[.func (.func g) #[] caps] w (fun v w' => (∃ L', v = .int .i64 0 ∧ R L' ∧ Has w0 w' L') ∨ (∃ n L', v = .int .i64 n ∧ X n L' ∧ Has w0 w' L')) := by
  have hmf : ∀ (fn : Fn) (first cap : Array Value) (w : World), (Instr.makeFunc fn first cap).run Tryd.prog w = .ok (.func fn first cap) w := fun _ _ _ _ => rfl
  unfold Ret
  go_enter_defers Tryd.func22, Tryd.ntmps22
  go_wp2
  rename_i Q K1 h1 K2 h2
  refine Calls.mono (h w.heap.size _ (H.alloc _)) ?_
  intro e w' he'
  cases e with
  | outgrown => exact he'.elim
  | returned v =>
    obtain ⟨L', hR, H'⟩ := he'
    refine h2 _ _ (h1 _ _ ?_)
    generalize ha : Act.mk _ _ = a
    have hr : Rep 6 [{ target := Target.fn (Fn.func 51) #[Value.pointer (some { block := w.heap.size, off := 0 })], args := #[] }] a := by rw [← ha]; exact ⟨rfl, rfl⟩
    have e2 : envOf a 2 = .pointer (some ⟨w.heap.size, 0, none⟩) := by rw [← ha]; rfl
    have key : awp P 6 [] (fun _ _ => False) 1 code22 (fun e ρ w' => e = .ret ∧ ρ 2 = .pointer (some ⟨w.heap.size, 0, none⟩) ∧ Has w0 w' ((w.heap.size, .cells #[.int .i64 0] 32 (0, 0)) :: L')) (envOf a) w' := by
      rw [g22_eq, e2]
      refine DoU.st H' 0 rfl rfl (fun q => ⟨by simp, by simp⟩) (by simp) (open0 _) ?_
      intro w4 H4
      exact ⟨rfl, rfl, H4⟩
    refine wp_mono (awp_sound mixed _ code22 1 _ a w' hr key) fun e a' w'' hl => ?_
    cases e with
    | normal => exact absurd hl.2.2.1 (by simp)
    | panic c => exact hl.2.elim
    | outgrown => exact hl.elim
    | exit id => exact absurd hl.2.2.1 (by simp)
    | goto l => exact absurd hl.2.2.1 (by simp)
    | ret =>
      obtain ⟨hr', _, _, e2', H''⟩ := hl
      show Leaves P Tryd.f22 a'.tmps _ a'.defers .returning w''
      rw [hr'.defers]
      refine leaves_cons (f := 51) (args := #[.pointer (some ⟨w.heap.size, 0, none⟩)]) (by simp) (by kernel_rfl) ?_
      refine (idle51 (b := w.heap.size) (w := w'')).mono ?_
      rintro e u' w3 ⟨rfl, rfl, rfl⟩
      obtain ⟨r, hres, hk⟩ := resWp_results (P := P) (fn := Tryd.f22) (a := a') (w := w3) (K := fun v w => v = .int .i64 0 ∧ w = w3) (by
        show ResC P 32 (envOf a' 2) w3 _
        rw [e2']
        exact ResC.ok (run_load1 ((cell_of_blk (H''.get 0 rfl) _).trans rfl)) ⟨rfl, rfl⟩)
      exact ⟨r, hres, .inl ⟨L', hk.1, hR, H''.tail⟩⟩
  | panicked c =>
    obtain ⟨n, L', rfl, hX, H'⟩ := he'
    show Leaves P Tryd.f22 _ _ [_] (.panicking _) w'
    refine leaves_cons (f := 51) (args := #[.pointer (some ⟨w.heap.size, 0, none⟩)]) (by simp) (by kernel_rfl) ?_
    refine (catch51 (n := 0) (older := []) H').mono ?_
    rintro e u' w3 ⟨rfl, rfl, H''⟩
    refine ⟨.int .i64 n, ?_, .inr ⟨n, L', rfl, hX, H''.tail⟩⟩
    have := run_load1 (P := P) (t := 32) (w := w3) (a := ⟨w.heap.size, 0, none⟩) ((cell_of_blk (H''.get 0 rfl) _).trans rfl)
    have hld : (loadVar 32 ⟨w.heap.size, 0, none⟩).run P w3 = .ok (.int .i64 n) w3 := this
    simp [results, Tryd.results22, asAddr, hld]
end Go.Proofs.YtdnnamaimgijpaaDoor
