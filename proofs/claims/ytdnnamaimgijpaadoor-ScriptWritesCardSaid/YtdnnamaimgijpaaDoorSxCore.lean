/-
  Sx: weakest preconditions of a function's code over environments (slot -> value): 'awp', computed by recursion on the code, so that the kernel can hold a printed form of it against the code.
  Conditions: none. Own work (session 1); nothing in it is trusted.
-/
import Derived.OrdersHeld
import Derived.Tactics
import Derived.Scope
import Derived.KernelRfl
namespace Go.Sx

abbrev Env := Nat → Value
def ev (ρ : Env) : Operand → Value
  | .tmp t => ρ t
  | .const v => v
  | .global g => .pointer (some ⟨g, 0, none⟩)
  | .func f => .func (.func f) #[] #[]
def envOf (a : Act) : Env := fun t => a.tmps.getD t undef
theorem eval_envOf (a : Act) : a.eval = ev (envOf a) := by funext x; cases x <;> rfl
def upd (n : Nat) (ρ : Env) (d : Nat) (v : Value) : Env := fun j => bif Nat.beq j d && Nat.blt d n then v else ρ j
def putE (n : Nat) (ρ : Env) : Option Tmp → Value → Env
  | none, _ => ρ
  | some d, v => upd n ρ d v
def mem (j : Nat) : List Nat → Bool
  | [] => false
  | x :: l => bif Nat.beq j x then true else mem j l
theorem mem_iff (j : Nat) (l : List Nat) : mem j l = true ↔ j ∈ l := by
  induction l with
  | nil => simp [mem]
  | cons x l ih =>
    simp only [mem, List.mem_cons]
    cases h : Nat.beq j x with
    | true => simp [Nat.eq_of_beq_eq_true h]
    | false => simp [ih, Nat.ne_of_beq_eq_false h]
def mix (M : List Nat) (σ ρ : Env) : Env := fun j => bif mem j M then σ j else ρ j
theorem envOf_put {n : Nat} {a : Act} (h : a.tmps.size = n) (dst : Option Tmp) (v : Value) : envOf (a.put dst v) = putE n (envOf a) dst v := by
  cases dst with
  | none => rfl
  | some d =>
    funext j
    simp only [envOf, Act.put, putE, upd]
    by_cases hj : j = d
    · subst hj
      by_cases hd : j < a.tmps.size
      · have : Nat.blt j n = true := by rw [← h]; simpa [Nat.blt_eq] using hd
        simp [this, hd]
      · have h1 : Nat.blt j n = false := by rw [← h]; exact Bool.eq_false_iff.2 (fun e => hd (by simpa [Nat.blt_eq] using e))
        rw [h1, Array.setIfInBounds_eq_of_size_le (by omega)]
        simp
    · have : Nat.beq j d = false := Bool.eq_false_iff.2 (fun e => hj (Nat.eq_of_beq_eq_true e))
      simp [this, Array.getElem?_setIfInBounds_ne (Ne.symm hj)]
theorem size_put {n : Nat} {a : Act} (h : a.tmps.size = n) (dst : Option Tmp) (v : Value) : (a.put dst v).tmps.size = n := by
  cases dst <;> simp [Act.put, h]
theorem defers_put (a : Act) (dst : Option Tmp) (v : Value) : (a.put dst v).defers = a.defers := by cases dst <;> rfl

/-! ### One operation -/
def Do (P : Program) (s : Sem Value) (w : World) (K : Value → World → Prop) (X : List PanicEntry → World → Prop) : Prop :=
  match s.run P w with
  | .ok v w' => K v w'
  | .halt (.panic v) w' => X [{ v, recovered := false }] w'
  | _ => False
def DoU (P : Program) (s : Sem Unit) (w : World) (K : Value → World → Prop) (X : List PanicEntry → World → Prop) : Prop :=
  match s.run P w with
  | .ok _ w' => K undef w'
  | .halt (.panic v) w' => X [{ v, recovered := false }] w'
  | _ => False
/-- How a call ends, for what follows: 'K' where it returns, 'X' where it panics. -/
def retd (K : Value → World → Prop) (X : List PanicEntry → World → Prop) : Ending → World → Prop
  | .returned v, w => K v w
  | .panicked c, w => X c w
  | .outgrown, _ => False
def DoN (P : Program) (s : Sem Next) (w : World) (K : Value → World → Prop) (X : List PanicEntry → World → Prop) : Prop :=
  match s.run P w with
  | .ok (.value v) w' => K v w'
  | .ok .skip w' => K undef w'
  | .ok (.enter f args) w' => Calls P f args w' (retd K X)
  | .ok (.row row args) w' => Rows P row args w' K
  | .halt (.panic v) w' => X [{ v, recovered := false }] w'
  | _ => False
/-- A call of function 'g'. -/
def CallF (P : Program) (g : FuncId) (args : List Value) (w : World) (K : Value → World → Prop) (X : List PanicEntry → World → Prop) : Prop :=
  DoN P (callFunc g args.toArray) w K X
def CallV (P : Program) (v : Value) (args : List Value) (w : World) (K : Value → World → Prop) (X : List PanicEntry → World → Prop) : Prop :=
  match v with
  | .func (.func g) first captured => CallF P g (first.toList ++ (args ++ captured.toList)) w K X
  | v => DoN P (do let d ← Deferred.ofValue v args.toArray; invoke d.target d.args) w K X
def pickS (c a b : Value) : Sem Value := do pure (if ← asBool c then a else b)
def nilS (x : Value) : Sem Value :=
  match x with
  | .pointer none | .nilIface | .nilFunc => stuck "nil"
  | .func (.method _) _ _ => stuck "a method's value"
  | x => pure x
def binS (op : BinOp) (t : TypeId) (x y : Operand) (a b : Value) : Sem Value := do eqGuard op t x y a b; binOp op t a b
def builtinS (b : Builtin) (argTypes : List TypeId) (type : TypeId) (args : List Value) : Option (Sem Value) :=
  match b with
  | .append => some (Builtin.append_ argTypes.toArray type args.toArray)
  | .cap => some (Builtin.cap_ argTypes.toArray type args.toArray)
  | .clear => some (Builtin.clear_ argTypes.toArray type args.toArray)
  | .copy => some (Builtin.copy_ argTypes.toArray type args.toArray)
  | .delete => some (Builtin.delete_ argTypes.toArray type args.toArray)
  | .len => some (Builtin.len_ argTypes.toArray type args.toArray)
  | .max => some (Builtin.max_ argTypes.toArray type args.toArray)
  | .min => some (Builtin.min_ argTypes.toArray type args.toArray)
  | _ => none
def evs (ρ : Env) (l : Array Operand) : List Value := l.toList.map (ev ρ)
def callWp (P : Program) (ρ : Env) (c : Call) (type : TypeId) (w : World) (K : Value → World → Prop) (X : List PanicEntry → World → Prop) : Prop :=
  match c.callee with
  | .builtin b =>
    match builtinS b c.argTypes.toList type (evs ρ c.args) with
    | some s => Do P s w K X
    | none => False
  | .value f => CallV P (ev ρ f) (evs ρ c.args) w K X
  | .invoke r m => DoN P (callMethod (ev ρ r) m (evs ρ c.args).toArray) w K X
def opWp (P : Program) (o : Oper) (ρ : Env) (w : World) (K : Value → World → Prop) (X : List PanicEntry → World → Prop) : Prop :=
  match o.op with
  | .move x | .assign x => K (ev ρ x) w
  | .pick c a b => Do P (pickS (ev ρ c) (ev ρ a) (ev ρ b)) w K X
  | .alloc t => Do P (Instr.alloc t true (.tuple #[])) w K X
  | .box t x => Do P (Instr.box t (ev ρ x)) w K X
  | .build t ps => Do P (Instr.build t (ps.toList.map fun p => (p.1, ev ρ p.2)).toArray) w K X
  | .buildSlice t n ps => Do P (Instr.buildSlice t n (ps.toList.map fun p => (p.1, ev ρ p.2)).toArray) w K X
  | .load t a => Do P (Instr.loadAt t (ev ρ a)) w K X
  | .store t a x => DoU P (Instr.storeAt t (ev ρ a) (ev ρ x)) w K X
  | .nilCheck x => Do P (nilS (ev ρ x)) w K X
  | .binOp op t x y _ => Do P (binS op t x y (ev ρ x) (ev ρ y)) w K X
  | .unOp op _ x => Do P (Op.unary op (ev ρ x)) w K X
  | .convert s d x => Do P (convert s d (ev ρ x)) w K X
  | .makeInterface t x => Do P (Instr.makeInterface t (ev ρ x)) w K X
  | .makeFunc fn first captured => K (.func fn (evs ρ first).toArray (evs ρ captured).toArray) w
  | .makeMap t r => Do P (Instr.makeMap t (r.map (ev ρ))) w K X
  | .makeSlice t l c => Do P (Instr.makeSlice t (ev ρ l) (ev ρ c)) w K X
  | .slice t x lo hi mx => Do P (Instr.sliceAt t (ev ρ x) (lo.map (ev ρ)) (hi.map (ev ρ)) (mx.map (ev ρ))) w K X
  | .fieldAddr s x f => Do P (Instr.fieldAt s (ev ρ x) f) w K X
  | .field t x f => Do P (Instr.field t (ev ρ x) f) w K X
  | .indexAddr t x ix => Do P (Instr.indexAt t (ev ρ x) (ev ρ ix)) w K X
  | .index t x ix => Do P (Instr.index t (ev ρ x) (ev ρ ix)) w K X
  | .lookup t x ix ok => Do P (Instr.lookup t (ev ρ x) (ev ρ ix) ok) w K X
  | .mapUpdate t m k x | .insert t m k x => DoU P (Instr.mapUpdate t (ev ρ m) (ev ρ k) (ev ρ x)) w K X
  | .mapEntry t m k => Do P (Instr.mapEntry t (ev ρ m) (ev ρ k)) w K X
  | .entryStore t m s x => DoU P (Instr.entryStore t (ev ρ m) (ev ρ s) (ev ρ x)) w K X
  | .range t x => Do P (Instr.range t (ev ρ x)) w K X
  | .next it b => Do P (Instr.next (ev ρ it) b o.type) w K X
  | .entry it => Do P (Instr.entry (ev ρ it)) w K X
  | .typeAssert x t u ok => Do P (Instr.typeAssert (ev ρ x) t u ok) w K X
  | .extract t i => Do P (Instr.extract (ev ρ t) i) w K X
  | .panic x => Do P (Instr.panic (ev ρ x)) w K X
  | .call c => callWp P ρ c o.type w K X
  | _ => False

theorem Do.next {P : Program} {s : Sem Value} {w : World} {K : Value → World → Prop} {X : List PanicEntry → World → Prop} (h : Do P s w K X) :
    DoN P (do pure (.value (← s))) w K X := by
  unfold Do at h
  unfold DoN
  simp only [Sem.run_bind]
  cases hs : s.run P w with
  | ok v w' => rw [hs] at h; exact h
  | halt x w' => rw [hs] at h; cases x <;> exact h
theorem DoU.next {P : Program} {s : Sem Unit} {w : World} {K : Value → World → Prop} {X : List PanicEntry → World → Prop} (h : DoU P s w K X) :
    DoN P (do s; pure .skip) w K X := by
  unfold DoU at h
  unfold DoN
  simp only [Sem.run_bind]
  cases hs : s.run P w with
  | ok v w' => rw [hs] at h; exact h
  | halt x w' => rw [hs] at h; cases x <;> exact h

theorem evs_toArray (ρ : Env) (l : Array Operand) : (evs ρ l).toArray = l.map (ev ρ) := by
  rw [evs, ← List.map_toArray, Array.toArray_toList]
theorem pairs_toArray (ρ : Env) (ps : Array (Nat × Operand)) : (ps.toList.map fun p => (p.1, ev ρ p.2)).toArray = ps.map fun (i, x) => (i, ev ρ x) := by
  rw [← List.map_toArray, Array.toArray_toList]
theorem builtin_next {P : Program} {b : Builtin} {ts : Array TypeId} {type : TypeId} {consts : Array Bool} {args : List Value} {s : Sem Value} {w : World}
    {K : Value → World → Prop} {X : List PanicEntry → World → Prop} (hs : builtinS b ts.toList type args = some s) (h : Do P s w K X) :
    DoN P (builtin b ts type consts args.toArray) w K X := by
  unfold builtinS at hs
  cases b <;> simp only [Option.some.injEq, reduceCtorEq] at hs <;> subst hs <;> simp only [builtin] <;> exact h.next
theorem callWp_next {P : Program} {ρ : Env} {c : Call} {type : TypeId} {w : World} {K : Value → World → Prop} {X : List PanicEntry → World → Prop}
    (h : callWp P ρ c type w K X) : DoN P (do let d ← resolve (ev ρ) c type; invoke d.target d.args) w K X := by
  unfold callWp at h
  unfold resolve
  cases hc : c.callee with
  | builtin b =>
    simp only [hc] at h
    cases hs : builtinS b c.argTypes.toList type (evs ρ c.args) with
    | none => simp [hs] at h
    | some s =>
      simp only [hs] at h
      have := builtin_next (ts := c.argTypes) (consts := c.args.map fun | .const _ => true | _ => false) hs h
      rw [evs_toArray] at this
      exact this
  | invoke r m =>
    simp only [hc] at h
    rw [evs_toArray] at h
    have e0 : (#[ev ρ r] ++ c.args.map (ev ρ))[0]? = some (ev ρ r) := by simp [Array.getElem?_append]
    have e1 : (#[ev ρ r] ++ c.args.map (ev ρ)).extract 1 (#[ev ρ r] ++ c.args.map (ev ρ)).size = c.args.map (ev ρ) := by
      apply Array.ext'; simp
      exact List.take_of_length_le (by simp)
    have e2 : ∀ xs : Array Value, xs[0]? = some (ev ρ r) → xs.extract 1 xs.size = c.args.map (ev ρ) →
        invoke (.fn (.method m) #[]) xs = callMethod (ev ρ r) m (c.args.map (ev ρ)) := fun xs h0 h1 => by simp only [invoke, h0, h1]
    unfold DoN at h ⊢
    simp only [Sem.run_bind, Sem.run_pure]
    show (match (invoke (.fn (.method m) #[]) (#[ev ρ r] ++ c.args.map (ev ρ))).run P w with
      | .ok (.value v) w' => K v w'
      | .ok .skip w' => K undef w'
      | .ok (.enter f args) w' => Calls P f args w' (retd K X)
      | .ok (.row row args) w' => Rows P row args w' K
      | .halt (.panic v) w' => X [{ v, recovered := false }] w'
      | _ => False)
    rw [e2 _ e0 e1]
    exact h
  | value f =>
    simp only [hc] at h
    unfold CallV at h
    split at h
    · rename_i g first captured hf
      have he : (first.toList ++ (evs ρ c.args ++ captured.toList)).toArray = (first ++ c.args.map (ev ρ)) ++ captured := by
        apply Array.ext'
        simp [evs]
      unfold CallF at h
      rw [he] at h
      unfold DoN at h ⊢
      simp only [hf, Deferred.ofValue]
      exact h
    · unfold DoN at h ⊢
      rw [evs_toArray] at h
      exact h
theorem opWp_next {P : Program} {o : Oper} {ρ : Env} {w : World} {K : Value → World → Prop} {X : List PanicEntry → World → Prop}
    (h : opWp P o ρ w K X) : DoN P (execOp (ev ρ) o) w K X := by
  unfold opWp at h
  unfold execOp
  split at h
  all_goals (rename_i ho; simp only [ho])
  all_goals first
    | exact h
    | exact Do.next h
    | exact DoU.next h
    | exact callWp_next h
    | skip
  · unfold pickS at h
    have := h.next
    unfold DoN at this ⊢
    simp only [Sem.run_bind] at this ⊢
    cases hb : (asBool _).run P w with
    | ok b w' => rw [hb] at this; exact this
    | halt x w' => rw [hb] at this; cases x <;> exact this
  · rw [pairs_toArray] at h; exact h.next
  · rw [pairs_toArray] at h; exact h.next
  · rename_i x
    unfold nilS at h
    generalize ev ρ x = v at h ⊢
    unfold Do at h
    unfold DoN
    cases v with
    | pointer a => cases a with
      | none => exact h.elim
      | some a => exact h
    | func fn first captured => cases fn <;> first | exact h | exact h.elim
    | _ => first | exact h | exact h.elim
  · rw [evs_toArray, evs_toArray] at h; exact h
  · exact h.elim

/-! ### The operations of a statement, in the text's order -/
def beqB : Bool → Bool → Bool
  | true, b => b
  | false, b => !b
def GuardK (g : Value) (want : Bool) (A : (Value → World → Prop) → Prop) (w : World) (K : Value → World → Prop) : Prop :=
  match g with
  | .bool c => bif beqB c want then A K else K undef w
  | _ => K undef w
def dstAt : List Oper → Nat → Option Tmp
  | [], _ => none
  | o :: _, 0 => o.dst
  | _ :: l, n + 1 => dstAt l n
theorem dstAt_eq (l : List Oper) (j : Nat) : dstAt l j = (l[j]?).bind (·.dst) := by
  induction l generalizing j with
  | nil => rfl
  | cons o l ih => cases j <;> simp [dstAt, ih]
def guardVal (n : Nat) (ops : List Oper) (ρ : Env) (j : Nat) : Value :=
  match dstAt ops j with
  | some t => bif Nat.blt t n then ρ t else undef
  | none => undef
theorem guardVal_yielded {n : Nat} {ops : Array Oper} {a : Act} (h : a.tmps.size = n) (j : Nat) :
    yielded ops a.tmps j = (match guardVal n ops.toList (envOf a) j with | .bool b => some b | _ => none) := by
  unfold yielded guardVal
  rw [dstAt_eq, Array.getElem?_toList]
  cases (ops[j]?).bind (·.dst) with
  | none => rfl
  | some t =>
    simp only [Option.bind_some, envOf]
    by_cases hlt : t < a.tmps.size
    · have : Nat.blt t n = true := by rw [← h]; simpa [Nat.blt_eq] using hlt
      simp [this, hlt]
      cases a.tmps[t] <;> rfl
    · have : Nat.blt t n = false := by rw [← h]; exact Bool.eq_false_iff.2 (fun e => hlt (by simpa [Nat.blt_eq] using e))
      simp [this, hlt, undef]
def oneWp (P : Program) (n : Nat) (ops : List Oper) (o : Oper) (ρ : Env) (w : World) (K : Value → World → Prop) (X : List PanicEntry → World → Prop) : Prop :=
  match o.guard with
  | none => opWp P o ρ w K X
  | some (j, b) => GuardK (guardVal n ops ρ j) b (fun K => opWp P o ρ w K X) w K
def opsWp (P : Program) (n : Nat) (ops : List Oper) (N : Env → World → Prop) (X : List PanicEntry → World → Prop) : List Oper → Env → World → Prop
  | [], ρ, w => N ρ w
  | o :: rest, ρ, w => oneWp P n ops o ρ w (fun v w' => opsWp P n ops N X rest (putE n ρ o.dst v) w') X

/-- What holds of a frame, for what is said of an environment. -/
structure Rep (n : Nat) (ds : List Deferred) (a : Act) : Prop where
  size : a.tmps.size = n
  defers : a.defers = ds
theorem Rep.put {n : Nat} {ds : List Deferred} {a : Act} (h : Rep n ds a) (dst : Option Tmp) (v : Value) : Rep n ds (a.put dst v) := ⟨size_put h.size _ _, (defers_put _ _ _).trans h.defers⟩
theorem DoN.upon {P : Program} {s : Sem Next} {w : World} {K : Value → World → Prop} {X : List PanicEntry → World → Prop} (h : DoN P s w K X) {o : Oper} {a : Act}
    {next : Act → World → Prop} {Q : Exit → Act → World → Prop} (hK : ∀ v w', K v w' → next (a.put o.dst v) w') (hX : ∀ c w', X c w' → Q (.panic c) a w') :
    o.upon P a next Q (s.run P w) := by
  unfold DoN at h
  cases hs : s.run P w with
  | ok x w' =>
    rw [hs] at h
    cases x <;> first | exact hK _ _ h | skip
    case enter f args =>
      refine Calls.mono h fun e w'' he => ?_
      cases e with
      | returned v => exact hK _ _ he
      | panicked c => exact hX _ _ he
      | outgrown => exact he.elim
    case row row args => exact Rows.mono h fun v w'' he => hK _ _ he
    all_goals exact h.elim
  | halt x w' =>
    rw [hs] at h
    cases x <;> first | exact hX _ _ h | exact h.elim
theorem oneWp_wpOp {P : Program} {n : Nat} {ds : List Deferred} {ops : Array Oper} {o : Oper} {a : Act} {w : World} {K : Value → World → Prop} {X : List PanicEntry → World → Prop}
    (hr : Rep n ds a) (h : oneWp P n ops.toList o (envOf a) w K X) {next : Act → World → Prop} {Q : Exit → Act → World → Prop}
    (hK : ∀ v w', K v w' → next (a.put o.dst v) w') (hX : ∀ c w', X c w' → Q (.panic c) a w') :
    if Region.wanted o (yielded ops a.tmps) then o.wp P a w next Q else next (a.put o.dst undef) w := by
  have hop : opWp P o (envOf a) w K X → o.wp P a w next Q := fun h => by
    unfold Oper.wp
    rw [eval_envOf]
    exact (opWp_next h).upon hK hX
  unfold oneWp at h
  unfold Region.wanted
  cases hg : o.guard with
  | none => simp only [hg] at h; simpa using hop h
  | some jb =>
    obtain ⟨j, b⟩ := jb
    simp only [hg] at h ⊢
    simp only [guardVal_yielded hr.size]
    unfold GuardK at h
    cases hv : guardVal n ops.toList (envOf a) j with
    | bool c =>
      rw [hv] at h
      cases c <;> cases b <;> first | exact hop h | exact hK _ _ h
    | _ => rw [hv] at h; exact hK _ _ h
theorem opsWp_wpList {P : Program} {n : Nat} {ds : List Deferred} {ops : Array Oper} {N : Env → World → Prop} {X : List PanicEntry → World → Prop} {Q : Exit → Act → World → Prop} {G : Env → Prop}
    (hN : ∀ a w, Rep n ds a → G (envOf a) → N (envOf a) w → Q .normal a w) (hX : ∀ c a w, Rep n ds a → X c w → Q (.panic c) a w) (l : List Oper)
    (hG : ∀ o ∈ l, ∀ ρ v, G ρ → G (putE n ρ o.dst v)) :
    ∀ a w, Rep n ds a → G (envOf a) → opsWp P n ops.toList N X l (envOf a) w → wpList P ops Q l a w := by
  induction l with
  | nil => exact fun a w hr hg h => hN a w hr hg h
  | cons o rest ih =>
    intro a w hr hg h
    have h1 := oneWp_wpOp (next := wpList P ops Q rest) (Q := Q) hr h (fun v w' hk => ih (fun o ho => hG o (List.mem_cons_of_mem _ ho)) _ _ (hr.put _ _)
      (by rw [envOf_put hr.size]; exact hG o (by simp) _ _ hg) (by rw [envOf_put hr.size]; exact hk)) (fun c w' hx => hX c a w' hr hx)
    unfold wpList
    split
    · rename_i hw; rw [if_pos hw] at h1; exact .inl h1
    · rename_i hw; rw [if_neg hw] at h1; exact h1

/-! ### A statement that draws its order: by a plan -/
/-- A value that is the same in every world that meets 'S'. -/
def Take (P : Program) (S : World → Prop) (s : Sem Value) (K : Value → Prop) : Prop := ∃ v, (∀ w, S w → s.run P w = .ok v w) ∧ K v
def takeWp (P : Program) (S : World → Prop) (o : Oper) (ρ : Env) (K : Value → Prop) : Prop :=
  match o.op with
  | .move x | .assign x => K (ev ρ x)
  | .pick c a b => Take P S (pickS (ev ρ c) (ev ρ a) (ev ρ b)) K
  | .load t a => Take P S (Instr.loadAt t (ev ρ a)) K
  | .nilCheck x => Take P S (nilS (ev ρ x)) K
  | .binOp op t x y _ => Take P S (binS op t x y (ev ρ x) (ev ρ y)) K
  | .unOp op _ x => Take P S (Op.unary op (ev ρ x)) K
  | .convert s d x => Take P S (convert s d (ev ρ x)) K
  | .build t ps => Take P S (Instr.build t (ps.toList.map fun p => (p.1, ev ρ p.2)).toArray) K
  | .slice t x lo hi mx => Take P S (Instr.sliceAt t (ev ρ x) (lo.map (ev ρ)) (hi.map (ev ρ)) (mx.map (ev ρ))) K
  | .fieldAddr s x f => Take P S (Instr.fieldAt s (ev ρ x) f) K
  | .field t x f => Take P S (Instr.field t (ev ρ x) f) K
  | .indexAddr t x ix => Take P S (Instr.indexAt t (ev ρ x) (ev ρ ix)) K
  | .index t x ix => Take P S (Instr.index t (ev ρ x) (ev ρ ix)) K
  | .lookup t x ix ok => Take P S (Instr.lookup t (ev ρ x) (ev ρ ix) ok) K
  | .extract t i => Take P S (Instr.extract (ev ρ t) i) K
  | .makeInterface t x => Take P S (Instr.makeInterface t (ev ρ x)) K
  | .makeFunc fn first captured => K (.func fn (evs ρ first).toArray (evs ρ captured).toArray)
  | .call c =>
    match c.callee with
    | .builtin b =>
      match builtinS b c.argTypes.toList o.type (evs ρ c.args) with
      | some s => Take P S s K
      | none => False
    | _ => False
  | _ => False
def Gives (P : Program) (S : World → Prop) (o : Oper) (ρ : Env) (K : Value → Prop) : Prop := ∃ v, (∀ w, S w → (execOp (ev ρ) o).run P w = .ok (.value v) w) ∧ K v
theorem Take.gives {P : Program} {S : World → Prop} {o : Oper} {ρ : Env} {K : Value → Prop} {s : Sem Value} (h : Take P S s K)
    (he : ∀ w v, s.run P w = .ok v w → (execOp (ev ρ) o).run P w = .ok (.value v) w) : Gives P S o ρ K := by
  obtain ⟨v, h, hk⟩ := h
  exact ⟨v, fun w hw => he w v (h w hw), hk⟩
theorem run_value {P : Program} {s : Sem Value} {w : World} {v : Value} (h : s.run P w = .ok v w) : (do pure (Next.value (← s)) : Sem Next).run P w = .ok (.value v) w := by
  simp only [Sem.run_bind]; rw [h]; rfl
theorem takeWp_gives {P : Program} {S : World → Prop} {o : Oper} {ρ : Env} {K : Value → Prop} (h : takeWp P S o ρ K) : Gives P S o ρ K := by
  unfold takeWp at h
  split at h
  case h_1 x ho => exact ⟨_, fun w _ => by unfold execOp; rw [ho]; rfl, h⟩
  case h_2 x ho => exact ⟨_, fun w _ => by unfold execOp; rw [ho]; rfl, h⟩
  case h_3 c a b ho =>
    refine h.gives fun w v hv => ?_
    unfold execOp; rw [ho]; unfold pickS at hv
    simp only [Sem.run_bind] at hv ⊢
    cases hb : (asBool (ev ρ c)).run P w with
    | ok b w' => rw [hb] at hv; simp only [Result.andThen, Sem.run_pure, Result.ok.injEq] at hv ⊢; obtain ⟨rfl, rfl⟩ := hv; exact ⟨rfl, rfl⟩
    | halt x w' => rw [hb] at hv; cases hv
  case h_5 x ho =>
    refine h.gives fun w v hv => ?_
    unfold execOp; simp only [ho]; unfold nilS at hv
    generalize ev ρ x = u at hv ⊢
    cases u with
    | pointer a => cases a with
      | none => cases hv
      | some a => cases hv; rfl
    | func fn first captured => cases fn <;> first | (cases hv; done) | (cases hv; rfl)
    | _ => first | (cases hv; done) | (cases hv; rfl)
  case h_18 fn first captured ho =>
    rw [evs_toArray, evs_toArray] at h
    exact ⟨_, fun w _ => by unfold execOp; rw [ho]; rfl, h⟩
  case h_19 c ho =>
    split at h
    · rename_i b hb
      split at h
      · rename_i s hs
        refine h.gives fun w v hv => ?_
        have hd : Do P s w (fun v' w' => v' = v ∧ w' = w) (fun _ _ => False) := by unfold Do; rw [hv]; exact ⟨rfl, rfl⟩
        have := builtin_next (ts := c.argTypes) (consts := c.args.map fun | .const _ => true | _ => false) hs hd
        have hx : (execOp (ev ρ) o) = (do let d ← resolve (ev ρ) c o.type; invoke d.target d.args) := by unfold execOp; rw [ho]
        rw [hx]; unfold resolve; simp only [hb]
        show (builtin b c.argTypes o.type (c.args.map fun | .const _ => true | _ => false) (c.args.map (ev ρ))).run P w = _
        rw [evs_toArray] at this
        unfold builtinS at hs
        cases b <;> simp only [Option.some.injEq, reduceCtorEq] at hs <;> subst hs <;> simp only [builtin] <;> (rw [evs_toArray, Array.toArray_toList] at hv; exact run_value hv)
      · exact h.elim
    · exact h.elim
  case h_20 => exact h.elim
  all_goals
    rename_i ho
    refine h.gives fun w v hv => ?_
    unfold execOp
    rw [ho]
    first
      | exact run_value hv
      | (rw [pairs_toArray] at hv; exact run_value hv)
def GuardT (g : Value) (want : Bool) (A : (Value → Prop) → Prop) (K : Value → Prop) : Prop :=
  match g with
  | .bool c => bif beqB c want then A K else K undef
  | _ => K undef
def oneTake (P : Program) (n : Nat) (ops : List Oper) (S : World → Prop) (o : Oper) (ρ : Env) (K : Value → Prop) : Prop :=
  match o.guard with
  | none => takeWp P S o ρ K
  | some (j, b) => GuardT (guardVal n ops ρ j) b (fun K => takeWp P S o ρ K) K
theorem oneTake_yields {P : Program} {n : Nat} {ds : List Deferred} {ops : Array Oper} {S : World → Prop} {o : Oper} {a : Act} {K : Value → Prop} (hr : Rep n ds a)
    (h : oneTake P n ops.toList S o (envOf a) K) : ∃ v, YieldsIf P ops S o v a ∧ K v := by
  have go : (hw : Region.wanted o (yielded ops a.tmps) = true) → takeWp P S o (envOf a) K → ∃ v, YieldsIf P ops S o v a ∧ K v := fun hw h => by
    obtain ⟨v, h, hk⟩ := takeWp_gives h
    exact ⟨v, .inl ⟨hw, by rw [eval_envOf]; exact h⟩, hk⟩
  unfold oneTake at h
  cases hg : o.guard with
  | none => simp only [hg] at h; exact go (by simp [Region.wanted, hg]) h
  | some jb =>
    obtain ⟨j, b⟩ := jb
    simp only [hg] at h
    have hw : Region.wanted o (yielded ops a.tmps) = (yielded ops a.tmps j == some b) := by simp only [Region.wanted, hg]
    rw [guardVal_yielded hr.size] at hw
    unfold GuardT at h
    cases hv : guardVal n ops.toList (envOf a) j with
    | bool c =>
      rw [hv] at h hw
      cases c <;> cases b <;> first | exact go (by rw [hw]; rfl) h | exact ⟨_, .inr ⟨by rw [hw]; rfl, rfl⟩, h⟩
    | _ => rw [hv] at h hw; exact ⟨_, .inr ⟨by rw [hw]; rfl, rfl⟩, h⟩
/-! ### 'wpAnyH' of the kit, but S is asked only behind operations that may come before one that was taken ('late': all of T come before it) -/
def lateBy (o : Oper) (T : List Nat) : Bool := T.all fun k => o.after.any fun e => Region.binds .any e && e.on == k
def lateAt (ops : Array Oper) (T : List Nat) (j : Nat) : Bool :=
  match ops[j]? with
  | some o => lateBy o T
  | none => false
def wpAnyK (P : Program) (ops : Array Oper) (Q : Exit → Act → World → Prop) (S : World → Prop) (T : List Nat) : Nat → Array Bool → Act → World → Prop
  | 0, listed, a, w => Region.ready .any ops listed = [] ∧ Q .normal a w
  | fuel + 1, listed, a, w =>
    (Region.ready .any ops listed = [] → Q .normal a w) ∧
    ∀ i ∈ Region.ready .any ops listed, wpOp P ops Q i (fun a' w' => (lateAt ops T i = false → S w') ∧ wpAnyK P ops Q S T fuel (listed.setIfInBounds i true) a' w') a w
section
variable {P : Program} {ops : Array Oper} {Q : Exit → Act → World → Prop} {S : World → Prop} {T : List Nat}
theorem wpAny_of_K : ∀ (fuel : Nat) (listed : Array Bool) (a : Act) (w : World), wpAnyK P ops Q S T fuel listed a w → wpAny P .any ops Q fuel listed a w
  | 0, _, _, _, h => h
  | fuel + 1, _, _, _, h => ⟨h.1, fun i hi => wpOp_mono (fun a' w' h' => wpAny_of_K fuel _ a' w' h'.2) (h.2 i hi)⟩
theorem late_false {oj : Oper} {i j : Nat} (hoj : ops[j]? = some oj) (hi : i ∈ T) (hnot : ∀ e ∈ oj.after, Region.binds .any e = true → e.on ≠ i) : lateAt ops T j = false := by
  unfold lateAt lateBy
  simp only [hoj]
  rw [List.all_eq_false]
  refine ⟨i, hi, fun h => ?_⟩
  obtain ⟨e, he, hb⟩ := Array.any_eq_true'.1 h
  simp only [Bool.and_eq_true, beq_iff_eq] at hb
  exact hnot e he hb.1 hb.2
theorem wpAnyK_first {i : Nat} {oi : Oper} {v : Value} (hi : ops[i]? = some oi) (hT : i ∈ T) (hsel : ∀ (j : Nat) (o : Oper) cs b, ops[j]? = some o → o.op ≠ .select cs b)
    (hQ : ∀ c a w, Q (.panic c) (a.put oi.dst v) w → Q (.panic c) a w) :
    ∀ (fuel : Nat) (listed : Array Bool) (a : Act) (w : World),
      (∀ j oj, ops[j]? = some oj → j ≠ i → listed.getD j true = false → (∀ e ∈ oj.after, Region.binds .any e = true → e.on ≠ i) → oi.apart ops oj = true) →
      i ∈ Region.ready .any ops listed → YieldsIf P ops S oi v a → S w →
      wpAnyK P ops Q S T fuel (listed.setIfInBounds i true) (a.put oi.dst v) w → wpAnyK P ops Q S T (fuel + 1) listed a w := by
  intro fuel
  induction fuel with
  | zero =>
    intro listed a w _ hr hy hS H
    refine ⟨fun h => (by rw [h] at hr; cases hr), fun j hj => ?_⟩
    by_cases hji : j = i
    · subst hji; exact hy.wpOp hi hS ⟨fun _ => hS, H⟩
    · have := ready_mono hj hji
      rw [H.1] at this
      cases this
  | succ fuel ih =>
    intro listed a w hfree hr hy hS H
    refine ⟨fun h => (by rw [h] at hr; cases hr), fun j hj => ?_⟩
    by_cases hji : j = i
    · subst hji; exact hy.wpOp hi hS ⟨fun _ => hS, H⟩
    · have h1 := H.2 j (ready_mono hj hji)
      obtain ⟨hjun, oj, hoj, hall⟩ := mem_ready.1 hj
      have hnot : ∀ e ∈ oj.after, Region.binds .any e = true → e.on ≠ i := fun e he hb heq => by
        have h1 := hall e he hb
        have h0 := (mem_ready.1 hr).1
        rw [heq] at h1
        rcases Nat.lt_or_ge i listed.size with h' | h'
        · simp [h'] at h0 h1; rw [h0] at h1; cases h1
        · simp [Array.getElem?_eq_none h'] at h1
      have hlate := late_false hoj hT hnot
      have h2 := wpOp_putIf hoj (hfree j oj hoj hji hjun hnot) (fun cs b => hsel i oi cs b hi) (fun cs b => hsel j oj cs b hoj) hQ hy h1
      have hfree' : ∀ k ok, ops[k]? = some ok → k ≠ i → (listed.setIfInBounds j true).getD k true = false →
          (∀ e ∈ ok.after, Region.binds .any e = true → e.on ≠ i) → oi.apart ops ok = true := fun k ok hk hki hun hno => by
        refine hfree k ok hk hki ?_ hno
        by_cases hjk : j = k
        · subst hjk; exact hjun
        · rw [getD_set_ne true hjk] at hun; exact hun
      refine wpOp_mono (fun a' w' h3 => ⟨fun _ => h3.2.1 hlate, ih (listed.setIfInBounds j true) a' w' hfree' (ready_mono hr (Ne.symm hji)) h3.1 (h3.2.1 hlate) ?_⟩) h2
      rw [Array.setIfInBounds_comm _ _ hji]
      exact h3.2.2
theorem wpAnyK_take {i : Nat} {oi : Oper} {v : Value} {fuel : Nat} {listed : Array Bool} {a : Act} {w : World} (hi : ops[i]? = some oi) (hT : i ∈ T)
    (hs : Region.noSelect ops = true) (hf : Region.free .any ops listed i = true) (hr : (Region.ready .any ops listed).contains i = true)
    (hQ : ∀ c a w, Q (.panic c) (a.put oi.dst v) w → Q (.panic c) a w) (hy : YieldsIf P ops S oi v a) (hS : S w)
    (h : wpAnyK P ops Q S T fuel (listed.setIfInBounds i true) (a.put oi.dst v) w) : wpAnyK P ops Q S T (fuel + 1) listed a w :=
  wpAnyK_first hi hT (Region.noSelect_spec hs) hQ fuel listed a w (Region.free_spec hi hf) (by simpa using hr) hy hS h
theorem wpAnyK_all {rs : List Nat} {fuel : Nat} {listed : Array Bool} {a : Act} {w : World} (hr : Region.ready .any ops listed = rs) (hne : rs ≠ [])
    (h : ∀ i ∈ rs, wpOp P ops Q i (fun a' w' => (lateAt ops T i = false → S w') ∧ wpAnyK P ops Q S T fuel (listed.setIfInBounds i true) a' w') a w) : wpAnyK P ops Q S T (fuel + 1) listed a w :=
  ⟨fun h0 => absurd (hr ▸ h0) hne, hr ▸ h⟩
theorem wpAnyK_done {listed : Array Bool} {a : Act} {w : World} (hr : Region.ready .any ops listed = []) (h : Q .normal a w) :
    ∀ fuel, wpAnyK P ops Q S T fuel listed a w
  | 0 => ⟨hr, h⟩
  | _ + 1 => ⟨fun _ => h, by rw [hr]; simp⟩
end
/-- A plan, a tree: 'take i p': number i is taken first (it reads at most); 'come i p q': number i may come up (then p), or one of q ('done': no other may). -/
inductive Plan
  | done
  | take (i : Nat) (p : Plan)
  | come (i : Nat) (p : Plan) (q : Plan)
def Plan.depth : Plan → Nat
  | .done => 0
  | .take _ p => p.depth + 1
  | .come _ p q => Nat.max (p.depth + 1) q.depth
/-- What a plan takes first. -/
def Plan.takes : Plan → List Nat
  | .done => []
  | .take i p => i :: p.takes
  | .come _ p q => p.takes ++ q.takes
def Plan.list : Plan → List Nat
  | .come i _ q => i :: q.list
  | _ => []
def opAt : List Oper → Nat → Option Oper
  | [], _ => none
  | o :: _, 0 => some o
  | _ :: l, n + 1 => opAt l n
theorem opAt_eq (l : List Oper) (j : Nat) : opAt l j = l[j]? := by
  induction l generalizing j with
  | nil => rfl
  | cons o l ih => cases j <;> simp [opAt, ih]
def planOk (ops : Array Oper) : Plan → Bool → Array Bool → Bool
  | .done, first, listed => bif first then (Region.ready .any ops listed).isEmpty else true
  | .take i p, first, listed => first && (Region.free .any ops listed i && (Region.ready .any ops listed).contains i && planOk ops p true (listed.setIfInBounds i true))
  | .come i p q, first, listed => (bif first then Region.ready .any ops listed == (Plan.come i p q).list else true) && (planOk ops p true (listed.setIfInBounds i true) && planOk ops q false listed)
/-- Behind this operation nothing that was taken is to come, and nothing is taken any more. -/
def lateP (o : Oper) (T : List Nat) (p : Plan) : Bool :=
  match p.takes with
  | [] => lateBy o T
  | _ => false
theorem lateP_spec {o : Oper} {T : List Nat} {p : Plan} (h : lateP o T p = true) : lateBy o T = true ∧ p.takes = [] := by
  unfold lateP at h
  split at h
  · rename_i he; exact ⟨h, he⟩
  · cases h
def planWp (P : Program) (n : Nat) (ops : List Oper) (S : World → Prop) (T : List Nat) (N : Env → World → Prop) (X : List PanicEntry → World → Prop) : Plan → Env → World → Prop
  | .done, ρ, w => N ρ w
  | .take i p, ρ, w =>
    match opAt ops i with
    | none => False
    | some o => oneTake P n ops S o ρ (fun v => planWp P n ops S T N X p (putE n ρ o.dst v) w)
  | .come i p q, ρ, w =>
    match opAt ops i with
    | none => False
    | some o =>
      match lateP o T p with
      | true =>
        match q with
        | .done => oneWp P n ops o ρ w (fun v w' => planWp P n ops S T N X p (putE n ρ o.dst v) w') X
        | _ => oneWp P n ops o ρ w (fun v w' => planWp P n ops S T N X p (putE n ρ o.dst v) w') X ∧ planWp P n ops S T N X q ρ w
      | false =>
        match q with
        | .done => oneWp P n ops o ρ w (fun v w' => S w' ∧ planWp P n ops S T N X p (putE n ρ o.dst v) w') X
        | _ => oneWp P n ops o ρ w (fun v w' => S w' ∧ planWp P n ops S T N X p (putE n ρ o.dst v) w') X ∧ planWp P n ops S T N X q ρ w
theorem planWp_any {P : Program} {n : Nat} {ds : List Deferred} {ops : Array Oper} {S : World → Prop} {T : List Nat} {N : Env → World → Prop} {X : List PanicEntry → World → Prop} {Q : Exit → Act → World → Prop} {G : Env → Prop}
    (hsel : Region.noSelect ops = true) (hN : ∀ a w, Rep n ds a → G (envOf a) → N (envOf a) w → Q .normal a w) (hX : ∀ c a w, Rep n ds a → X c w → Q (.panic c) a w)
    (hQ : ∀ c a dst v w, Q (.panic c) (a.put dst v) w → Q (.panic c) a w) (hG : ∀ o ∈ ops, ∀ ρ v, G ρ → G (putE n ρ o.dst v)) (plan : Plan) :
    ∀ (listed : Array Bool) (fuel : Nat) a w, Rep n ds a → G (envOf a) → S w ∨ (∀ i ∈ plan.takes, False) → (∀ i ∈ plan.takes, i ∈ T) → planWp P n ops.toList S T N X plan (envOf a) w →
      (plan.depth ≤ fuel → planOk ops plan true listed = true → wpAnyK P ops Q S T fuel listed a w) ∧
      (plan.depth ≤ fuel + 1 → planOk ops plan false listed = true → ∀ i ∈ plan.list, wpOp P ops Q i (fun a' w' => (lateAt ops T i = false → S w') ∧ wpAnyK P ops Q S T fuel (listed.setIfInBounds i true) a' w') a w) := by
  induction plan with
  | done =>
    intro listed fuel a w hr hg hS hT h
    exact ⟨fun _ hok => wpAnyK_done (by simpa [planOk, List.isEmpty_iff] using hok) (hN a w hr hg h) fuel, fun _ _ i hi => by simp [Plan.list] at hi⟩
  | take j p ih =>
    intro listed fuel a w hr hg hS hT h
    refine ⟨fun hl hok => ?_, fun _ hok => by simp [planOk] at hok⟩
    obtain ⟨fuel, rfl⟩ : ∃ k, fuel = k + 1 := ⟨fuel - 1, by simp [Plan.depth] at hl; omega⟩
    have hl' : p.depth ≤ fuel := by simpa [Plan.depth] using hl
    have hS : S w := hS.resolve_right fun h => h j (by simp [Plan.takes])
    simp only [planOk, Bool.and_eq_true, Bool.true_and] at hok
    obtain ⟨⟨h1, h1'⟩, h2⟩ := hok
    unfold planWp at h
    rw [opAt_eq, Array.getElem?_toList] at h
    cases ho : ops[j]? with
    | none => rw [ho] at h; exact h.elim
    | some o =>
      have hgo := hG o (Array.mem_of_getElem? ho)
      simp only [ho] at h
      obtain ⟨v, hy, hk⟩ := oneTake_yields hr h
      refine wpAnyK_take ho (hT j (by simp [Plan.takes])) hsel h1 h1' (fun c a w => hQ c a _ _ w) hy hS ?_
      exact (ih _ _ _ _ (hr.put _ _) (by rw [envOf_put hr.size]; exact hgo _ _ hg) (.inl hS) (fun i hi => hT i (by simp [Plan.takes, hi])) (by rw [envOf_put hr.size]; exact hk)).1 hl' h2
  | come j p q ihp ihq =>
    intro listed fuel a w hr hg hS hT h
    have hTp : ∀ i ∈ p.takes, i ∈ T := fun i hi => hT i (by simp [Plan.takes, hi])
    have hTq : ∀ i ∈ q.takes, i ∈ T := fun i hi => hT i (by simp [Plan.takes, hi])
    have key : ∀ fuel, (Plan.come j p q).depth ≤ fuel + 1 → planOk ops p true (listed.setIfInBounds j true) = true → planOk ops q false listed = true →
        ∀ i ∈ (Plan.come j p q).list, wpOp P ops Q i (fun a' w' => (lateAt ops T i = false → S w') ∧ wpAnyK P ops Q S T fuel (listed.setIfInBounds i true) a' w') a w := by
      intro fuel hl hp hq i hi
      have hd : p.depth + 1 ≤ fuel + 1 ∧ q.depth ≤ fuel + 1 := by
        simp only [Plan.depth] at hl
        exact ⟨Nat.le_trans (Nat.le_max_left _ _) hl, Nat.le_trans (Nat.le_max_right _ _) hl⟩
      unfold planWp at h
      rw [opAt_eq, Array.getElem?_toList] at h
      cases ho : ops[j]? with
      | none => rw [ho] at h; exact h.elim
      | some o =>
        have hgo := hG o (Array.mem_of_getElem? ho)
        simp only [ho] at h
        have hla : lateAt ops T j = lateBy o T := by unfold lateAt; simp only [ho]
        have both : (if Region.wanted o (yielded ops a.tmps) then o.wp P a w (fun a' w' => (lateAt ops T j = false → S w') ∧ wpAnyK P ops Q S T fuel (listed.setIfInBounds j true) a' w') Q
            else (fun a' w' => (lateAt ops T j = false → S w') ∧ wpAnyK P ops Q S T fuel (listed.setIfInBounds j true) a' w') (a.put o.dst undef) w) ∧ (q = .done ∨ planWp P n ops.toList S T N X q (envOf a) w) := by
          cases hb : lateP o T p with
          | true =>
            obtain ⟨hb1, hb2⟩ := lateP_spec hb
            have go : oneWp P n ops.toList o (envOf a) w (fun v w' => planWp P n ops.toList S T N X p (putE n (envOf a) o.dst v) w') X → (if Region.wanted o (yielded ops a.tmps) then o.wp P a w (fun a' w' => (lateAt ops T j = false → S w') ∧ wpAnyK P ops Q S T fuel (listed.setIfInBounds j true) a' w') Q
            else (fun a' w' => (lateAt ops T j = false → S w') ∧ wpAnyK P ops Q S T fuel (listed.setIfInBounds j true) a' w') (a.put o.dst undef) w) := fun h1 =>
              oneWp_wpOp (next := fun a' w' => (lateAt ops T j = false → S w') ∧ wpAnyK P ops Q S T fuel (listed.setIfInBounds j true) a' w') (Q := Q) hr h1
                (fun v w' hk => ⟨fun h => (by rw [hla, hb1] at h; cases h), (ihp _ _ _ _ (hr.put _ _) (by rw [envOf_put hr.size]; exact hgo _ _ hg) (.inr fun i hi => by rw [hb2] at hi; cases hi) hTp (by rw [envOf_put hr.size]; exact hk)).1 (by omega) hp⟩)
                (fun c w' hx => hX c a w' hr hx)
            rw [hb] at h
            cases q with
            | done => exact ⟨go h, .inl rfl⟩
            | take => exact ⟨go h.1, .inr h.2⟩
            | come => exact ⟨go h.1, .inr h.2⟩
          | false =>
            have go : oneWp P n ops.toList o (envOf a) w (fun v w' => S w' ∧ planWp P n ops.toList S T N X p (putE n (envOf a) o.dst v) w') X → (if Region.wanted o (yielded ops a.tmps) then o.wp P a w (fun a' w' => (lateAt ops T j = false → S w') ∧ wpAnyK P ops Q S T fuel (listed.setIfInBounds j true) a' w') Q
            else (fun a' w' => (lateAt ops T j = false → S w') ∧ wpAnyK P ops Q S T fuel (listed.setIfInBounds j true) a' w') (a.put o.dst undef) w) := fun h1 =>
              oneWp_wpOp (next := fun a' w' => (lateAt ops T j = false → S w') ∧ wpAnyK P ops Q S T fuel (listed.setIfInBounds j true) a' w') (Q := Q) hr h1
                (fun v w' hk => ⟨fun _ => hk.1, (ihp _ _ _ _ (hr.put _ _) (by rw [envOf_put hr.size]; exact hgo _ _ hg) (.inl hk.1) hTp (by rw [envOf_put hr.size]; exact hk.2)).1 (by omega) hp⟩)
                (fun c w' hx => hX c a w' hr hx)
            rw [hb] at h
            cases q with
            | done => exact ⟨go h, .inl rfl⟩
            | take => exact ⟨go h.1, .inr h.2⟩
            | come => exact ⟨go h.1, .inr h.2⟩
        simp only [Plan.list, List.mem_cons] at hi
        rcases hi with rfl | hi
        · have hw := both.1
          unfold wpOp
          simp only [ho]
          split
          · rename_i hw'; rw [if_pos hw'] at hw; exact .inl hw
          · rename_i hw'; rw [if_neg hw'] at hw; exact hw
        · rcases both.2 with rfl | hq'
          · simp [Plan.list] at hi
          · exact (ihq listed fuel a w hr hg (hS.imp id fun h i hi => h i (by simp [Plan.takes, hi])) hTq hq').2 hd.2 hq i hi
    refine ⟨fun hl hok => ?_, fun hl hok => ?_⟩
    · obtain ⟨fuel, rfl⟩ : ∃ k, fuel = k + 1 := ⟨fuel - 1, by
        have : p.depth + 1 ≤ fuel := Nat.le_trans (Nat.le_max_left _ _) (by simpa [Plan.depth] using hl)
        omega⟩
      simp only [planOk, Bool.and_eq_true, cond_true] at hok
      have hrd : Region.ready .any ops listed = (Plan.come j p q).list := by simpa using hok.1
      exact wpAnyK_all hrd (by simp [Plan.list]) (key fuel hl hok.2.1 hok.2.2)
    · simp only [planOk, Bool.and_eq_true, cond_false] at hok
      exact key fuel hl hok.2.1 hok.2.2

/-! ### The code -/
def JTy : Nat → Type
  | 0 => World → Prop
  | k + 1 => Value → JTy k
def app : (L : List Nat) → JTy L.length → Env → World → Prop
  | [], J, _, w => J w
  | s :: L, J, ρ, w => app L (J (ρ s)) ρ w
def asg : Code → List Nat
  | .region _ ops _ => ops.toList.filterMap (·.dst)
  | .seq a b => asg a ++ asg b
  | .cond _ x y => asg x ++ asg y
  | .block _ c => asg c
  | .loop c => asg c
  | .scope c => asg c
  | _ => []
/-- Marks: at a code's number, the slots that live there (seq, loop) or the plan (region). -/
def Ann := List (Nat × List Nat × Plan)
def Ann.find : Ann → Nat → Option (List Nat)
  | [], _ => none
  | (j, l, _) :: A, i => bif Nat.beq j i then some l else Ann.find A i
def Ann.plan : Ann → Nat → Option Plan
  | [], _ => none
  | (j, _, p) :: A, i => bif Nat.beq j i then some p else Ann.plan A i
def If (c : Value) (A B : Prop) : Prop :=
  match c with
  | .bool true => A
  | .bool false => B
  | _ => False
def thenE (N : Env → World → Prop) (Q : Exit → Env → World → Prop) : Exit → Env → World → Prop
  | .normal, ρ, w => N ρ w
  | e, ρ, w => Q e ρ w
def blockE (id : Nat) (Q : Exit → Env → World → Prop) : Exit → Env → World → Prop
  | .exit j, ρ, w => bif Nat.beq j id then Q .normal ρ w else Q (.exit j) ρ w
  | e, ρ, w => Q e ρ w
def scopeE (Q : Exit → Env → World → Prop) : Exit → Env → World → Prop
  | .goto _, _, _ => False
  | e, ρ, w => Q e ρ w
def drewW (w : World) : World := { w with drawn := w.drawn + 1 }
/-- 'Q': how the code is left (never by a panic); 'X': where it panics. -/
def awp (P : Program) (n : Nat) (A : Ann) (X : List PanicEntry → World → Prop) : Nat → Code → (Exit → Env → World → Prop) → Env → World → Prop
  | _, .skip, Q, ρ, w => Q .normal ρ w
  | _, .label _, Q, ρ, w => Q .normal ρ w
  | _, .region _ ops false, Q, ρ, w => opsWp P n ops.toList (Q .normal) X ops.toList ρ w
  | i, .region _ ops true, Q, ρ, w =>
    match A.plan i with
    | some plan =>
      bif planOk ops plan true (Array.replicate ops.size false) && (Region.noSelect ops && Nat.ble plan.depth ops.size) then
        ∃ S : World → Prop, S (drewW w) ∧ planWp P n ops.toList S plan.takes (Q .normal) X plan ρ (drewW w)
      else False
    | none => False
  | i, .seq a b, Q, ρ, w =>
    match A.find i with
    | none => awp P n A X (2 * i) a (thenE (awp P n A X (2 * i + 1) b Q) Q) ρ w
    | some L => ∃ J : JTy L.length, (∀ (σ : Env) (w' : World), app L J (mix (asg a) σ ρ) w' → awp P n A X (2 * i + 1) b Q (mix (asg a) σ ρ) w') ∧
        awp P n A X (2 * i) a (thenE (app L J) Q) ρ w
  | i, .cond c x y, Q, ρ, w => If (ev ρ c) (awp P n A X (2 * i) x Q ρ w) (awp P n A X (2 * i + 1) y Q ρ w)
  | i, .block id c, Q, ρ, w => awp P n A X (2 * i) c (blockE id Q) ρ w
  | i, .loop c, Q, ρ, w =>
    match A.find i with
    | none => False
    | some L => ∃ I : Nat → JTy L.length, (∃ k, app L (I k) ρ w) ∧ ∀ (k : Nat) (σ : Env) (w' : World), app L (I k) (mix (asg c) σ ρ) w' →
        awp P n A X (2 * i) c (thenE (fun ρ' w'' => ∃ k', k' < k ∧ app L (I k') ρ' w'') Q) (mix (asg c) σ ρ) w'
  | i, .scope c, Q, ρ, w => awp P n A X (2 * i) c (scopeE Q) ρ w
  | _, .exit id, Q, ρ, w => Q (.exit id) ρ w
  | _, .ret, Q, ρ, w => Q .ret ρ w
  | _, _, _, _, _ => False

/-- What 'Q' and 'X' say of a frame: all slots that the code doesn't write are as they were. -/
def Lift (n : Nat) (ds : List Deferred) (M : List Nat) (ρ : Env) (Q : Exit → Env → World → Prop) (X : List PanicEntry → World → Prop) : Exit → Act → World → Prop
  | .panic c, a, w => a.defers = ds ∧ X c w
  | .outgrown, _, _ => False
  | e, a, w => Rep n ds a ∧ (∀ j, mem j M = false → envOf a j = ρ j) ∧ Q e (envOf a) w
theorem mem_append (j : Nat) (l m : List Nat) : mem j (l ++ m) = false ↔ mem j l = false ∧ mem j m = false := by
  rw [Bool.eq_false_iff, Bool.eq_false_iff, Bool.eq_false_iff]
  simp only [ne_eq, mem_iff, List.mem_append, not_or]
theorem mix_self {M : List Nat} {ρ ρ' : Env} (h : ∀ j, mem j M = false → ρ' j = ρ j) : mix M ρ' ρ = ρ' := by
  funext j
  unfold mix
  cases hm : mem j M with
  | true => rfl
  | false => exact (h j hm).symm
theorem Lift.mono {n : Nat} {ds : List Deferred} {M M' : List Nat} {ρ ρ' : Env} {Q Q' : Exit → Env → World → Prop} {X : List PanicEntry → World → Prop} {e : Exit} {a : Act} {w : World}
    (h : Lift n ds M ρ Q X e a w) (hM : ∀ j, mem j M' = false → mem j M = false ∧ ρ' j = ρ j) (hQ : Q e (envOf a) w → Q' e (envOf a) w) : Lift n ds M' ρ' Q' X e a w := by
  cases e with
  | panic c => exact h
  | outgrown => exact h
  | _ => exact ⟨h.1, fun j hj => (h.2.1 j (hM j hj).1).trans (hM j hj).2.symm, hQ h.2.2⟩
theorem mem_dsts {l : List Oper} {o : Oper} {d : Nat} (ho : o ∈ l) (hd : o.dst = some d) : mem d (l.filterMap (·.dst)) = true := by
  rw [mem_iff, List.mem_filterMap]; exact ⟨o, ho, hd⟩
theorem putE_out {n : Nat} {ρ : Env} {dst : Option Tmp} {v : Value} {j : Nat} (h : ∀ d, dst = some d → d ≠ j) : putE n ρ dst v j = ρ j := by
  cases dst with
  | none => rfl
  | some d =>
    have : Nat.beq j d = false := Bool.eq_false_iff.2 fun e => h d rfl (Nat.eq_of_beq_eq_true e).symm
    simp [putE, upd, this]
theorem rep_lift {n : Nat} {ds : List Deferred} {M : List Nat} {ρ : Env} {Q : Exit → Env → World → Prop} {X : List PanicEntry → World → Prop} {a : Act} {w : World} {e : Exit}
    (hr : Rep n ds a) (hg : ∀ j, mem j M = false → envOf a j = ρ j) (h : Q e (envOf a) w) (he : ∀ c, e ≠ .panic c) (ho : e ≠ .outgrown) : Lift n ds M ρ Q X e a w := by
  cases e with
  | panic c => exact absurd rfl (he c)
  | outgrown => exact absurd rfl ho
  | _ => exact ⟨hr, hg, h⟩
theorem mem_asg {ops : Array Oper} {o : Oper} {d : Nat} (ho : o ∈ ops.toList) (hd : o.dst = some d) : mem d (ops.toList.filterMap (·.dst)) = true := mem_dsts ho hd
theorem least {p : Nat → Prop} (h : ∃ k, p k) : ∃ k, p k ∧ ∀ j, p j → k ≤ j := by
  obtain ⟨k, hk⟩ := h
  induction k using Nat.strongRecOn with
  | _ k ih =>
    by_cases hex : ∃ j, j < k ∧ p j
    · obtain ⟨j, hj, hp⟩ := hex
      exact ih j hj hp
    · exact ⟨k, hk, fun j hj => Nat.le_of_not_lt fun hlt => hex ⟨j, hlt, hj⟩⟩
theorem awp_sound {P : Program} {n : Nat} {A : Ann} {X : List PanicEntry → World → Prop} (hm : P.follows .mixedOrders = true) (ds : List Deferred) (c : Code) :
    ∀ (i : Nat) (Q : Exit → Env → World → Prop) (a : Act) (w : World), Rep n ds a → awp P n A X i c Q (envOf a) w → c.wp P (Lift n ds (asg c) (envOf a) Q X) a w := by
  induction c with
  | skip => exact fun i Q a w hr h => wp_skip (rep_lift hr (fun _ _ => rfl) h (by simp) (by simp))
  | label l => exact fun i Q a w hr h => wp_label (rep_lift hr (fun _ _ => rfl) h (by simp) (by simp))
  | exit id => exact fun i Q a w hr h => wp_exit (rep_lift hr (fun _ _ => rfl) h (by simp) (by simp))
  | ret => exact fun i Q a w hr h => wp_ret (rep_lift hr (fun _ _ => rfl) h (by simp) (by simp))
  | goto l => exact fun i Q a w hr h => h.elim
  | refuse s => exact fun i Q a w hr h => h.elim
  | rangeFunc f ps x y => exact fun i Q a w hr h => h.elim
  | region id ops draw =>
    intro i Q a w hr h
    have hG : ∀ o ∈ ops.toList, ∀ (ρ : Env) (v : Value), (∀ j, mem j (asg (.region id ops draw)) = false → ρ j = envOf a j) → ∀ j, mem j (asg (.region id ops draw)) = false → putE n ρ o.dst v j = envOf a j :=
      fun o ho ρ v hg j hj => (putE_out fun d hd e => by
        subst e
        have := mem_asg ho hd
        exact absurd (this.symm.trans hj) (by simp)).trans (hg j hj)
    cases draw with
    | false =>
      refine wp_region_list ?_
      exact opsWp_wpList (G := fun ρ => ∀ j, mem j (asg (.region id ops false)) = false → ρ j = envOf a j)
        (fun a' w' hr' hg' h' => ⟨hr', hg', h'⟩) (fun c a' w' hr' h' => ⟨hr'.defers, h'⟩) ops.toList hG a w hr (fun _ _ => rfl) h
    | true =>
      unfold awp at h
      cases hp : A.plan i with
      | none => simp only [hp] at h
      | some plan =>
        simp only [hp] at h
        cases hb : (planOk ops plan true (Array.replicate ops.size false) && (Region.noSelect ops && Nat.ble plan.depth ops.size)) with
        | false => rw [hb] at h; exact h.elim
        | true =>
        rw [hb] at h
        simp only [Bool.and_eq_true] at hb
        obtain ⟨hok, hsel, hl⟩ := hb
        have hlen := Nat.le_of_ble_eq_true hl
        obtain ⟨S, hS, h⟩ := h
        refine wp_region_any hm (wpAny_of_K (S := S) (T := plan.takes) _ _ _ _ ?_)
        exact (planWp_any (G := fun ρ => ∀ j, mem j (asg (.region id ops true)) = false → ρ j = envOf a j) hsel
          (fun a' w' hr' hg' h' => ⟨hr', hg', h'⟩) (fun c a' w' hr' h' => ⟨hr'.defers, h'⟩) (fun c a' dst v w' h' => ⟨(defers_put _ _ _).symm.trans h'.1, h'.2⟩)
          (fun o ho => hG o (by simpa using ho)) plan _ _ a _ hr (fun _ _ => rfl) (.inl hS) (fun _ h => h) h).1 hlen hok
  | seq x y ihx ihy =>
    intro i Q a w hr h
    unfold awp at h
    refine wp_seq ?_
    cases hA : A.find i with
    | none =>
      simp only [hA] at h
      refine wp_mono (ihx _ _ _ _ hr h) fun e a' w' hl => ?_
      cases e with
      | normal =>
        obtain ⟨hr', hg', h'⟩ := hl
        refine wp_mono (ihy _ _ _ _ hr' h') fun e a'' w'' hl' => hl'.mono (fun j hj => ?_) id
        have := (mem_append _ _ _).1 hj
        exact ⟨this.2, (hg' j this.1).symm⟩
      | panic c => exact hl
      | outgrown => exact hl
      | _ => exact Lift.mono hl (fun j hj => ⟨((mem_append _ _ _).1 hj).1, rfl⟩) id
    | some L =>
      simp only [hA] at h
      obtain ⟨J, hJ, h⟩ := h
      refine wp_mono (ihx _ _ _ _ hr h) fun e a' w' hl => ?_
      cases e with
      | normal =>
        obtain ⟨hr', hg', h'⟩ := hl
        have hmix := mix_self hg'
        have h2 := hJ (envOf a') w' (by rw [hmix]; exact h')
        rw [hmix] at h2
        refine wp_mono (ihy _ _ _ _ hr' h2) fun e a'' w'' hl' => hl'.mono (fun j hj => ?_) id
        have := (mem_append _ _ _).1 hj
        exact ⟨this.2, (hg' j this.1).symm⟩
      | panic c => exact hl
      | outgrown => exact hl
      | _ => exact Lift.mono hl (fun j hj => ⟨((mem_append _ _ _).1 hj).1, rfl⟩) id
  | cond c x y ihx ihy =>
    intro i Q a w hr h
    unfold awp If at h
    have hc : a.eval c = ev (envOf a) c := congrFun (eval_envOf a) c
    split at h
    · rename_i hv
      refine wp_cond_true (hc.trans hv) (wp_mono (ihx _ _ _ _ hr h) fun e a' w' hl => hl.mono (fun j hj => ⟨((mem_append _ _ _).1 hj).1, rfl⟩) id)
    · rename_i hv
      refine wp_cond_false (hc.trans hv) (wp_mono (ihy _ _ _ _ hr h) fun e a' w' hl => hl.mono (fun j hj => ⟨((mem_append _ _ _).1 hj).2, rfl⟩) id)
    · exact h.elim
  | block id c ih =>
    intro i Q a w hr h
    unfold awp at h
    refine wp_block (wp_mono (ih _ _ _ _ hr h) fun e a' w' hl => ?_)
    cases e with
    | exit j =>
      obtain ⟨hr', hg', h'⟩ := hl
      change (bif Nat.beq j id then Q .normal (envOf a') w' else Q (.exit j) (envOf a') w') at h'
      show (if j = id then Lift n ds (asg c) (envOf a) Q X .normal a' w' else Lift n ds (asg c) (envOf a) Q X (.exit j) a' w')
      by_cases hj : j = id
      · rw [if_pos hj]
        subst hj
        simp only [Nat.beq_refl, cond_true] at h'
        exact ⟨hr', hg', h'⟩
      · rw [if_neg hj]
        have : Nat.beq j id = false := Bool.eq_false_iff.2 fun e => hj (Nat.eq_of_beq_eq_true e)
        simp only [this, cond_false] at h'
        exact ⟨hr', hg', h'⟩
    | _ => exact hl
  | scope c ih =>
    intro i Q a w hr h
    unfold awp at h
    refine wp_scope_straight (wp_mono (ih _ _ _ _ hr h) fun e a' w' hl => ?_)
    cases e with
    | goto l => exact hl.2.2.elim
    | _ => exact hl
  | loop c ih =>
    intro i Q a w hr h
    unfold awp at h
    cases hA : A.find i with
    | none => simp only [hA] at h
    | some L =>
      simp only [hA] at h
      obtain ⟨I, h0, hI⟩ := h
      classical
      let Inv : Act → World → Prop := fun a' w' => Rep n ds a' ∧ (∀ j, mem j (asg c) = false → envOf a' j = envOf a j) ∧ ∃ k, app L (I k) (envOf a') w'
      let μ : Act → World → Nat := fun a' w' => if h : ∃ k, app L (I k) (envOf a') w' then Classical.choose (least h) else 0
      refine wp_loop Inv μ ⟨hr, fun _ _ => rfl, h0⟩ fun a' w' hinv => ?_
      obtain ⟨hr', hg', hk⟩ := hinv
      have hmix := mix_self hg'
      have hμ : μ a' w' = Classical.choose (least hk) := dif_pos hk
      have h1 := hI (Classical.choose (least hk)) (envOf a') w' (by rw [hmix]; exact (Classical.choose_spec (least hk)).1)
      rw [hmix] at h1
      refine wp_mono (ih _ _ _ _ hr' h1) fun e a'' w'' hl => ?_
      cases e with
      | normal =>
        obtain ⟨hr'', hg'', k', hlt, hk'⟩ := hl
        refine ⟨⟨hr'', fun j hj => (hg'' j hj).trans (hg' j hj), k', hk'⟩, ?_⟩
        have hex : ∃ k, app L (I k) (envOf a'') w'' := ⟨k', hk'⟩
        have : μ a'' w'' = Classical.choose (least hex) := dif_pos hex
        rw [this, hμ]
        exact Nat.lt_of_le_of_lt ((Classical.choose_spec (least hex)).2 _ hk') hlt
      | panic c => exact hl
      | outgrown => exact hl
      | _ => exact Lift.mono hl (fun j hj => ⟨hj, (hg' j hj).symm⟩) id

/-! ### A function -/
/-- A result that lies in memory: read when the function returns. -/
def ResC (P : Program) (t : TypeId) (p : Value) (w : World) (K : Value → Prop) : Prop :=
  match p with
  | .pointer (some x) => ∃ v, (loadVar t x).run P w = .ok v w ∧ K v
  | _ => False
theorem ResC.get {P : Program} {t : TypeId} {p : Value} {w : World} {K : Value → Prop} (h : ResC P t p w K) :
    ∃ x v, p = .pointer (some x) ∧ (loadVar t x).run P w = .ok v w ∧ K v := by
  unfold ResC at h
  split at h
  · obtain ⟨v, h⟩ := h; exact ⟨_, v, rfl, h⟩
  · exact h.elim
/-- The results, read off the frame. -/
def resWp (P : Program) (ρ : Env) (w : World) (K : Value → World → Prop) : List ResultVar → Prop
  | [] => K (.tuple #[]) w
  | [.tmp t] => K (ρ t) w
  | [.cell a t] => ResC P t (ρ a) w fun v => K v w
  | [.tmp t, .tmp u] => K (.tuple #[ρ t, ρ u]) w
  | [.cell a t, .tmp u] => ResC P t (ρ a) w fun v => K (.tuple #[v, ρ u]) w
  | [.tmp u, .cell a t] => ResC P t (ρ a) w fun v => K (.tuple #[ρ u, v]) w
  | [.cell a t, .cell b u] => ResC P t (ρ a) w fun v => ResC P u (ρ b) w fun v' => K (.tuple #[v, v']) w
  | [.tmp t, .tmp u, .tmp v] => K (.tuple #[ρ t, ρ u, ρ v]) w
  | [.cell a t, .tmp u, .tmp v] => ResC P t (ρ a) w fun x => K (.tuple #[x, ρ u, ρ v]) w
  | [.tmp t, .tmp u, .tmp v, .tmp x] => K (.tuple #[ρ t, ρ u, ρ v, ρ x]) w
  | _ => False
theorem resWp_results {P : Program} {fn : Func} {a : Act} {w : World} {K : Value → World → Prop} (h : resWp P (envOf a) w K fn.results.toList) :
    ∃ v, (results fn a.tmps).run P w = .ok v w ∧ K v w := by
  obtain ⟨l, hl⟩ : ∃ l, fn.results = List.toArray l := ⟨fn.results.toList, by simp⟩
  have hl' : fn.results.toList = l := by rw [hl]
  rw [hl'] at h
  unfold resWp at h
  split at h
  · exact ⟨_, by simp [results, hl], h⟩
  · exact ⟨_, by simp [results, hl, envOf], h⟩
  · obtain ⟨x, v, hp, hv, hk⟩ := h.get
    simp only [envOf, Array.getD_eq_getD_getElem?] at hp
    exact ⟨v, by simp [results, hl, hp, asAddr, hv], hk⟩
  · exact ⟨_, by simp [results, hl, envOf], h⟩
  · obtain ⟨x, v, hp, hv, hk⟩ := h.get
    simp only [envOf, Array.getD_eq_getD_getElem?] at hp
    exact ⟨_, by simp [results, hl, hp, asAddr, hv, envOf], hk⟩
  · obtain ⟨x, v, hp, hv, hk⟩ := h.get
    simp only [envOf, Array.getD_eq_getD_getElem?] at hp
    exact ⟨_, by simp [results, hl, hp, asAddr, hv, envOf], hk⟩
  · obtain ⟨x, v, hp, hv, h⟩ := h.get
    obtain ⟨x', v', hp', hv', hk⟩ := h.get
    simp only [envOf, Array.getD_eq_getD_getElem?] at hp hp'
    exact ⟨_, by simp [results, hl, hp, hp', asAddr, hv, hv'], hk⟩
  · exact ⟨_, by simp [results, hl, envOf], h⟩
  · obtain ⟨x, v, hp, hv, hk⟩ := h.get
    simp only [envOf, Array.getD_eq_getD_getElem?] at hp
    exact ⟨_, by simp [results, hl, hp, asAddr, hv, envOf], hk⟩
  · exact ⟨_, by simp [results, hl, envOf], h⟩
  · exact h.elim
/-- How a function's code is left, for its caller. -/
def retE (P : Program) (res : List ResultVar) (R : Value → World → Prop) : Exit → Env → World → Prop
  | .normal, ρ, w => resWp P ρ w R res
  | .ret, ρ, w => resWp P ρ w R res
  | _, _, _ => False
def argE : List Value → Env
  | [], _ => undef
  | v :: _, 0 => v
  | _ :: l, n + 1 => argE l n
theorem argE_eq (args : List Value) (k : Nat) : envOf { tmps := args.toArray ++ Array.replicate k undef, defers := [] } = argE args := by
  funext j
  simp only [envOf]
  induction args generalizing j with
  | nil => simp [argE]; cases Nat.lt_or_ge j k <;> simp_all
  | cons v l ih => cases j with
    | zero => simp [argE, Array.getElem?_append]
    | succ j => simp only [argE]; rw [← ih j]; simp [Array.getElem?_append]
def bodyOf (fn : Func) : Code :=
  match fn.body with
  | some c => c
  | none => .skip
/-- A function's contract: what 'awp' says of its body. -/
theorem calls_of_awp {P : Program} {A : Ann} {f : FuncId} {fn : Func} {args : List Value} {w : World} {R : Value → World → Prop} {X : List PanicEntry → World → Prop} {n : Nat} {res : List ResultVar}
    (hm : P.follows .mixedOrders = true) (hf : P.funcs[f]? = some fn) (hb : fn.body = some (bodyOf fn)) (hn : fn.ntmps = n) (hres : fn.results.toList = res) (hlen : args.length ≤ n)
    (h : awp P n A X 1 (bodyOf fn) (retE P res R) (argE args) w) : Calls P f args.toArray w (retd R X) := by
  refine calls_of_wp hf hb ?_
  have hr : Rep n [] { tmps := args.toArray ++ Array.replicate (fn.ntmps - args.toArray.size) undef, defers := [] } := ⟨by simp; omega, rfl⟩
  refine wp_mono (awp_sound hm [] (bodyOf fn) 1 (retE P res R) _ w hr (by rw [argE_eq]; exact h)) fun e a' w' hl => ?_
  cases e with
  | normal => obtain ⟨hr', _, h'⟩ := hl; subst hres; obtain ⟨v, hv, hk⟩ := resWp_results h'; exact ⟨hr'.defers, v, hv, hk⟩
  | ret => obtain ⟨hr', _, h'⟩ := hl; subst hres; obtain ⟨v, hv, hk⟩ := resWp_results h'; exact ⟨hr'.defers, v, hv, hk⟩
  | panic c => exact hl
  | outgrown => exact hl
  | exit id => exact hl.2.2.elim
  | goto l => exact hl.2.2.elim
end Go.Sx
