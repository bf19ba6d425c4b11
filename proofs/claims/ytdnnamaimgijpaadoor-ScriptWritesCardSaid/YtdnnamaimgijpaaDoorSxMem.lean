/-
  Sx: memory of one's own as a list of blocks ('Has'), and the rules of single operations over it.
  Conditions: none. Own work; nothing in it is trusted.
-/
import Derived.Test.YtdnnamaimgijpaaDoorSxCore
import Derived.Below
import Derived.IntWalk
import Derived.Laws.Strings
import Derived.Laws.AppendOwn
import Derived.Lib.AppendStr
set_option linter.unusedVariables false
namespace Go.Sx
open Go.RowKit Go.Lib

/-! ### The types -/
class Und (P : Program) (t : TypeId) (d : outParam TypeDesc) : Prop where
  h : P.underlying t = some d
class Ty (P : Program) (t : TypeId) (agg : outParam Bool) (sz : outParam Nat) (z : outParam Value) (bytes : outParam Nat) : Prop where
  agg : ∀ w, (isAgg t).run P w = .ok agg w
  size : ∀ w, (sizeOf t).run P w = .ok sz w
  zero : ∀ w, (zeroValue t).run P w = .ok z w
  info : ∃ i, P.info? t = some i ∧ i.size = sz ∧ i.zero = some z ∧ i.bytes = bytes
  zs : z.cells.size = sz
class Fld (P : Program) (s f : Nat) (off : outParam Nat) : Prop where
  h : ∀ b o w, (Instr.fieldAt s (.pointer (some ⟨b, o, none⟩)) f).run P w = .ok (.pointer (some ⟨b, o + off, none⟩)) w
theorem run_und {P : Program} {t : TypeId} {d : TypeDesc} [h : Und P t d] (w : World) : (underlying t).run P w = .ok d w := by
  simp [underlying, program, Sem.run, h.h]
theorem run_typeInfo {P : Program} {t : TypeId} {i : TypeInfo} (h : P.info? t = some i) (w : World) : (typeInfo t).run P w = .ok i w := by
  simp [typeInfo, program, Sem.run, h]

/-! ### Blocks -/
theorem cell_of_blk {w : World} {b : Nat} {cs : Array Value} {T : TypeId} {fz : Nat × Nat} (h : w.heap[b]? = some (.cells cs T fz)) (o : Nat) : w.cell? ⟨b, o, none⟩ = cs[o]? := by
  simp [World.cell?, h]
theorem frozen_of_blk {w : World} {b : Nat} {cs : Array Value} {T : TypeId} {fz : Nat × Nat} (h : w.heap[b]? = some (.cells cs T fz)) (o : Nat) :
    w.frozen? ⟨b, o, none⟩ = (decide (fz.1 ≤ o) && decide (o < fz.2)) := by
  simp [World.frozen?, h]
theorem add_blk (b o k : Nat) : (⟨b, o, none⟩ : Addr).add k = ⟨b, o + k, none⟩ := by unfold Addr.add; split <;> simp_all

/-- What is ours: the blocks of 'L' are laid behind those of 'w0', are apart, and are just so in 'w'; all that lay in 'w0' is as it was. -/
structure Has (w0 w : World) (L : List (Nat × Obj)) : Prop where
  os : w.os = w0.os
  tape : w.tape = w0.tape
  output : w.output = w0.output
  size : w0.heap.size ≤ w.heap.size
  base : ∀ b, b < w0.heap.size → w.heap[b]? = w0.heap[b]?
  own : ∀ p ∈ L, w0.heap.size ≤ p.1 ∧ w.heap[p.1]? = some p.2
  nd : (L.map (·.1)).Nodup
theorem Has.init (w : World) : Has w w [] := ⟨rfl, rfl, rfl, Nat.le_refl _, fun _ _ => rfl, by simp, by simp⟩
theorem Has.lt {w0 w : World} {L : List (Nat × Obj)} (H : Has w0 w L) {p : Nat × Obj} (hp : p ∈ L) : p.1 < w.heap.size :=
  (Array.getElem?_eq_some_iff.1 (H.own p hp).2).1
theorem Has.get {w0 w : World} {L : List (Nat × Obj)} (H : Has w0 w L) (i : Nat) {b : Nat} {o : Obj} (h : L[i]? = some (b, o)) : w.heap[b]? = some o :=
  (H.own _ (List.mem_of_getElem? h)).2
theorem Has.perm {w0 w : World} {L L' : List (Nat × Obj)} (H : Has w0 w L) (h : L.Perm L') : Has w0 w L' :=
  ⟨H.os, H.tape, H.output, H.size, H.base, fun p hp => H.own p (h.mem_iff.2 hp), (h.map _).nodup_iff.1 H.nd⟩
theorem Has.sub {w0 w : World} {L L' : List (Nat × Obj)} (H : Has w0 w L) (h : L'.Sublist L) : Has w0 w L' :=
  ⟨H.os, H.tape, H.output, H.size, H.base, fun p hp => H.own p (h.subset hp), H.nd.sublist (h.map _)⟩
theorem Has.swap {w0 w : World} {A B : List (Nat × Obj)} (H : Has w0 w (A ++ B)) : Has w0 w (B ++ A) := H.perm List.perm_append_comm
theorem Has.left {w0 w : World} {A B : List (Nat × Obj)} (H : Has w0 w (A ++ B)) : Has w0 w A := H.sub (List.sublist_append_left A B)
theorem Has.right {w0 w : World} {A B : List (Nat × Obj)} (H : Has w0 w (A ++ B)) : Has w0 w B := H.sub (List.sublist_append_right A B)
theorem Has.tail {w0 w : World} {p : Nat × Obj} {B : List (Nat × Obj)} (H : Has w0 w (p :: B)) : Has w0 w B := H.sub (List.sublist_cons_self p B)
theorem Has.swap3 {w0 w : World} {A B C : List (Nat × Obj)} (H : Has w0 w (A ++ (B ++ C))) : Has w0 w (B ++ (A ++ C)) :=
  H.perm (by rw [← List.append_assoc, ← List.append_assoc]; exact List.Perm.append_right C List.perm_append_comm)
theorem Has.snd {w0 w : World} {p q : Nat × Obj} {B : List (Nat × Obj)} (H : Has w0 w (p :: q :: B)) : Has w0 w (q :: p :: B) := H.perm (List.Perm.swap q p B)
theorem Has.drew {w0 w : World} {L : List (Nat × Obj)} (H : Has w0 w L) : Has w0 (drewW w) L := ⟨H.os, H.tape, H.output, H.size, H.base, H.own, H.nd⟩
theorem Has.below {w0 w w' : World} {L : List (Nat × Obj)} (H : Has w0 w L) (hb : Below w.heap.size w w') : Has w0 w' L :=
  ⟨hb.os.trans H.os, hb.tape.trans H.tape, hb.output.trans H.output, Nat.le_trans H.size hb.size, fun b h => (hb.block b (Nat.lt_of_lt_of_le h H.size)).trans (H.base b h),
    fun p hp => ⟨(H.own p hp).1, (hb.block _ (H.lt hp)).trans (H.own p hp).2⟩, H.nd⟩
theorem Has.toBelow {w0 w : World} {L : List (Nat × Obj)} (H : Has w0 w L) : Below w0.heap.size w0 w := ⟨H.os, H.tape, H.output, H.size, H.base⟩
theorem heap_push {w : World} {o : Obj} : (w.alloc o).heap = w.heap.push o := rfl
theorem Has.alloc {w0 w : World} {L : List (Nat × Obj)} (H : Has w0 w L) (o : Obj) : Has w0 (w.alloc o) ((w.heap.size, o) :: L) := by
  refine ⟨H.os, H.tape, H.output, by rw [heap_push]; simp; have := H.size; omega, fun b h => ?_, fun p hp => ?_, ?_⟩
  · rw [heap_push, Array.getElem?_push]
    have := H.size
    rw [if_neg (by omega)]; exact H.base b h
  · rw [heap_push, Array.getElem?_push]
    rcases List.mem_cons.1 hp with rfl | hp
    · exact ⟨H.size, by simp⟩
    · have := H.lt hp
      rw [if_neg (by omega)]; exact H.own p hp
  · simp only [List.map_cons, List.nodup_cons]
    refine ⟨fun hm => ?_, H.nd⟩
    obtain ⟨p, hp, he⟩ := List.mem_map.1 hm
    have := H.lt hp
    omega
/-- A world with another object at a block of ours. -/
def putW (w : World) (b : Nat) (o : Obj) : World := { w with heap := w.heap.setIfInBounds b o }
theorem Has.put {w0 w : World} {L : List (Nat × Obj)} {b : Nat} {o : Obj} (H : Has w0 w ((b, o) :: L)) (o' : Obj) : Has w0 (putW w b o') ((b, o') :: L) := by
  have hb := H.own (b, o) (by simp)
  have hlt := H.lt (p := (b, o)) (by simp)
  have hnd := H.nd
  simp only [List.map_cons, List.nodup_cons] at hnd
  refine ⟨H.os, H.tape, H.output, by simp [putW]; exact H.size, fun c h => ?_, fun p hp => ?_, by simpa using hnd⟩
  · simp only [putW]
    rw [Array.getElem?_setIfInBounds_ne (by have := hb.1; simp at this; omega)]; exact H.base c h
  · simp only [putW]
    rcases List.mem_cons.1 hp with rfl | hp
    · exact ⟨hb.1, by simp only [Array.getElem?_setIfInBounds_self]; simp at hlt; simp [hlt]⟩
    · have hne : b ≠ p.1 := fun e => hnd.1 (List.mem_map.2 ⟨p, hp, e.symm⟩)
      rw [Array.getElem?_setIfInBounds_ne hne]; exact H.own p (List.mem_cons_of_mem _ hp)
theorem getElem?_cons_perm {α : Type} {L : List α} {i : Nat} {x : α} (h : L[i]? = some x) : L.Perm (x :: L.eraseIdx i) := by
  induction L generalizing i with
  | nil => simp at h
  | cons y l ih =>
    cases i with
    | zero => simp at h; subst h; exact List.Perm.refl _
    | succ i => simp at h; exact (List.Perm.cons y (ih h)).trans (List.Perm.swap x y _)
/-- Entry i comes to the front. -/
theorem Has.front {w0 w : World} {L : List (Nat × Obj)} (H : Has w0 w L) (i : Nat) {p : Nat × Obj} (h : L[i]? = some p) : Has w0 w (p :: L.eraseIdx i) := H.perm (getElem?_cons_perm h)
theorem set_perm {α : Type} {L : List α} {i : Nat} {x y : α} (h : L[i]? = some x) : (y :: L.eraseIdx i).Perm (L.set i y) := by
  induction L generalizing i with
  | nil => simp at h
  | cons z l ih =>
    cases i with
    | zero => exact List.Perm.refl _
    | succ i => simp at h; exact (List.Perm.swap z y _).trans (List.Perm.cons z (ih h))
theorem Has.putAt {w0 w : World} {L : List (Nat × Obj)} (H : Has w0 w L) (i : Nat) {b : Nat} {o : Obj} (h : L[i]? = some (b, o)) (o' : Obj) : Has w0 (putW w b o') (L.set i (b, o')) :=
  ((H.front i h).put o').perm (set_perm h)

/-! ### Steps -/
section
variable {P : Program} {w : World} {K : Value → World → Prop} {X : List PanicEntry → World → Prop}
theorem Do.ok {s : Sem Value} {v : Value} {w' : World} (h : s.run P w = .ok v w') (k : K v w') : Do P s w K X := by unfold Do; rw [h]; exact k
theorem DoU.ok {s : Sem Unit} {u : Unit} {w' : World} (h : s.run P w = .ok u w') (k : K undef w') : DoU P s w K X := by unfold DoU; rw [h]; exact k
theorem Take.ok {S : World → Prop} {s : Sem Value} {v : Value} {K : Value → Prop} (h : ∀ w, S w → s.run P w = .ok v w) (k : K v) : Take P S s K := ⟨v, h, k⟩
theorem GuardK.on {want : Bool} {A : (Value → World → Prop) → Prop} (h : A K) : GuardK (.bool want) want A w K := by unfold GuardK; cases want <;> exact h
theorem GuardK.off {c want : Bool} {A : (Value → World → Prop) → Prop} (hc : c ≠ want) (h : K undef w) : GuardK (.bool c) want A w K := by
  unfold GuardK; cases c <;> cases want <;> first | exact h | exact absurd rfl hc
theorem GuardT.on {want : Bool} {A : (Value → Prop) → Prop} {K : Value → Prop} (h : A K) : GuardT (.bool want) want A K := by unfold GuardT; cases want <;> exact h
theorem GuardT.off {c want : Bool} {A : (Value → Prop) → Prop} {K : Value → Prop} (hc : c ≠ want) (h : K undef) : GuardT (.bool c) want A K := by
  unfold GuardT; cases c <;> cases want <;> first | exact h | exact absurd rfl hc
theorem If.t {A B : Prop} (h : A) : If (.bool true) A B := h
theorem If.f {A B : Prop} (h : B) : If (.bool false) A B := h
theorem If.split {c : Bool} {A B : Prop} (h : c = true → A) (h' : c = false → B) : If (.bool c) A B := by cases c; exact h' rfl; exact h rfl
/-- A test on a proposition. -/
theorem If.dec {p : Prop} {_ : Decidable p} {A B : Prop} (h : p → A) (h' : ¬ p → B) : If (.bool (decide p)) A B := by
  by_cases hp : p
  · rw [decide_eq_true hp]; exact h hp
  · rw [decide_eq_false hp]; exact h' hp

/-- A call that returns. -/
def Ret (P : Program) (g : FuncId) (args : Array Value) (w : World) (R : Value → World → Prop) : Prop := Calls P g args w (retd R fun _ _ => False)
theorem Ret.mono {g : FuncId} {args : Array Value} {R R' : Value → World → Prop} (h : Ret P g args w R) (hr : ∀ v w', R v w' → R' v w') : Ret P g args w R' :=
  Calls.mono h fun e w' he => by cases e <;> first | exact hr _ _ he | exact he
theorem CallF.ret {g : FuncId} {args : List Value} {R : Value → World → Prop} (he : (callFunc g args.toArray).run P w = .ok (.enter g args.toArray) w) (h : Ret P g args.toArray w R)
    (k : ∀ v w', R v w' → K v w') : CallF P g args w K X := by
  unfold CallF DoN
  rw [he]
  exact Calls.mono h fun e w' he => by cases e <;> first | exact k _ _ he | exact he.elim | exact he
theorem CallF.gen {g : FuncId} {args : List Value} (he : (callFunc g args.toArray).run P w = .ok (.enter g args.toArray) w) (h : Calls P g args.toArray w (retd K X)) : CallF P g args w K X := by
  unfold CallF DoN
  rw [he]; exact h

/-! numbers, strings, bools -/
theorem run_lss {t : TypeId} {k : IntKind} {a b : Int} : (binOp .lss t (.int k a) (.int k b)).run P w = .ok (.bool (decide (a < b))) w := by simp [binOp, Op.intCmp]
theorem run_leq {t : TypeId} {k : IntKind} {a b : Int} : (binOp .leq t (.int k a) (.int k b)).run P w = .ok (.bool (decide (a ≤ b))) w := by simp [binOp, Op.intCmp]
theorem run_gtr {t : TypeId} {k : IntKind} {a b : Int} : (binOp .gtr t (.int k a) (.int k b)).run P w = .ok (.bool (decide (b < a))) w := by simp [binOp, Op.intCmp]
theorem run_geq {t : TypeId} {k : IntKind} {a b : Int} : (binOp .geq t (.int k a) (.int k b)).run P w = .ok (.bool (decide (b ≤ a))) w := by simp [binOp, Op.intCmp]
theorem run_add {t : TypeId} {k : IntKind} {a b : Int} : (binOp .add t (.int k a) (.int k b)).run P w = .ok (.int k (k.wrap (a + b))) w := by simp [binOp, Op.intArith]
theorem run_sub {t : TypeId} {k : IntKind} {a b : Int} : (binOp .sub t (.int k a) (.int k b)).run P w = .ok (.int k (k.wrap (a - b))) w := by simp [binOp, Op.intArith]
theorem run_mul {t : TypeId} {k : IntKind} {a b : Int} : (binOp .mul t (.int k a) (.int k b)).run P w = .ok (.int k (k.wrap (a * b))) w := by simp [binOp, Op.intArith]
theorem wrap_id {a : Int} (h : -9223372036854775808 ≤ a ∧ a ≤ 9223372036854775807) : IntKind.i64.wrap a = a := IntWalk.i64_in _ h
theorem run_addi {t : TypeId} {a b : Int} (h : -9223372036854775808 ≤ a + b ∧ a + b ≤ 9223372036854775807) : (binOp .add t (.int .i64 a) (.int .i64 b)).run P w = .ok (.int .i64 (a + b)) w := by
  rw [run_add, wrap_id h]
theorem run_subi {t : TypeId} {a b : Int} (h : -9223372036854775808 ≤ a - b ∧ a - b ≤ 9223372036854775807) : (binOp .sub t (.int .i64 a) (.int .i64 b)).run P w = .ok (.int .i64 (a - b)) w := by
  rw [run_sub, wrap_id h]
theorem run_muli {t : TypeId} {a b : Int} (h : -9223372036854775808 ≤ a * b ∧ a * b ≤ 9223372036854775807) : (binOp .mul t (.int .i64 a) (.int .i64 b)).run P w = .ok (.int .i64 (a * b)) w := by
  rw [run_mul, wrap_id h]
theorem run_eqi {t : TypeId} {x y : Operand} {k : IntKind} {a b : Int} : (binS .eql t x y (.int k a) (.int k b)).run P w = .ok (.bool (decide (a = b))) w := by
  simp [binS, eqGuard, binOp, Op.intCmp]; rfl
theorem run_nei {t : TypeId} {x y : Operand} {k : IntKind} {a b : Int} : (binS .neq t x y (.int k a) (.int k b)).run P w = .ok (.bool (decide (a ≠ b))) w := by
  simp [binS, eqGuard, binOp, Op.intCmp, bne]; rfl
theorem run_eqs {t : TypeId} {x y : Operand} {a b : ByteArray} : (binS .eql t x y (.string a) (.string b)).run P w = .ok (.bool (decide (a.data.toList = b.data.toList))) w := by
  simp [binS, eqGuard, binOp, Op.stringOp, ByteArray.toList_eq]
  exact Bool.eq_iff_iff.2 (by simp)
theorem run_nes {t : TypeId} {x y : Operand} {a b : ByteArray} : (binS .neq t x y (.string a) (.string b)).run P w = .ok (.bool (decide (a.data.toList ≠ b.data.toList))) w := by
  simp [binS, eqGuard, binOp, Op.stringOp, ByteArray.toList_eq]
  exact Bool.eq_iff_iff.2 (by simp)
theorem run_cat {t : TypeId} {a b : ByteArray} (h : a.size + b.size ≤ 9223372036854775807) : (binOp .add t (.string a) (.string b)).run P w = .ok (.string (a ++ b)) w := by
  simp only [binOp, Op.stringOp]
  rw [if_neg (by simp only [IntKind.max, IntKind.bits, IntKind.signed]; omega)]
  rfl
theorem run_not {b : Bool} : (Op.unary .not (.bool b)).run P w = .ok (.bool (!b)) w := rfl
theorem run_pick {c : Bool} {a b : Value} : (pickS (.bool c) a b).run P w = .ok (if c then a else b) w := by simp [pickS, asBool]
theorem run_nilp {a : Addr} : (nilS (.pointer (some a))).run P w = .ok (.pointer (some a)) w := rfl
theorem run_ext {vs : Array Value} {i : Nat} {v : Value} (h : vs[i]? = some v) : (Instr.extract (.tuple vs) i).run P w = .ok v w := by simp [Instr.extract, h]
end

/-! ### Memory -/
section
variable {P : Program} {w0 w : World} {L : List (Nat × Obj)} {K : Value → World → Prop} {X : List PanicEntry → World → Prop}
theorem Do.alloc (H : Has w0 w L) {t : TypeId} {agg : Bool} {sz : Nat} {z : Value} {by_ : Nat} [ty : Ty P t agg sz z by_] {x : Value}
    (k : ∀ b w', Has w0 w' ((b, .cells z.cells t) :: L) → K (.pointer (some ⟨b, 0, none⟩)) w') : Do P (Instr.alloc t true x) w K X := by
  refine Do.ok (v := .pointer (some ⟨w.heap.size, 0, none⟩)) (w' := w.alloc (.cells z.cells t)) ?_ (k _ _ (H.alloc _))
  simp only [Instr.alloc, Sem.run_bind, ty.zero, Result.andThen]
  rfl
theorem Do.box (H : Has w0 w L) {t : TypeId} {v : Value}
    (k : ∀ b w', Has w0 w' ((b, .cells v.cells t) :: L) → K (.pointer (some ⟨b, 0, none⟩)) w') : Do P (Instr.box t v) w K X :=
  Do.ok (v := .pointer (some ⟨w.heap.size, 0, none⟩)) (w' := w.alloc (.cells v.cells t)) rfl (k _ _ (H.alloc _))
theorem run_load1 {t : TypeId} {sz : Nat} {z : Value} {by_ : Nat} [ty : Ty P t false sz z by_] {a : Addr} {v : Value} (h : w.cell? a = some v) :
    (Instr.loadAt t (.pointer (some a))).run P w = .ok v w := by
  simp [Instr.loadAt, Instr.sureAddr, loadVar, ty.agg, load, Sem.run, h]
theorem Do.ld (H : Has w0 w L) (i : Nat) {t : TypeId} {sz : Nat} {z : Value} {by_ : Nat} [ty : Ty P t false sz z by_] {b o : Nat} {cs : Array Value} {T : TypeId} {fz : Nat × Nat} {v : Value}
    (hi : L[i]? = some (b, .cells cs T fz)) (hv : cs[o]? = some v) (k : K v w) : Do P (Instr.loadAt t (.pointer (some ⟨b, o, none⟩))) w K X :=
  Do.ok (run_load1 ((cell_of_blk (H.get i hi) o).trans hv)) k
theorem run_loadCellsFrom {a : Addr} {vs : Array Value} (h : ∀ j, j < vs.size → w.cell? (a.add j) = vs[j]?) : ∀ n i acc, i + n = vs.size →
    (loadCellsFrom a i n acc).run P w = .ok (acc ++ vs.extract i vs.size) w := by
  intro n
  induction n with
  | zero => intro i acc hi; simp [loadCellsFrom]; omega
  | succ n ih =>
    intro i acc hi
    have hlt : i < vs.size := by omega
    have hc := h i hlt
    rw [Array.getElem?_eq_getElem hlt] at hc
    simp only [loadCellsFrom, Sem.run_bind]
    have hl : (load (a.add i)).run P w = .ok vs[i] w := by simp [load, Sem.run, hc]
    rw [hl]
    simp only [Result.andThen]
    rw [ih (i + 1) _ (by omega)]
    congr 1
    apply Array.ext'
    simp only [Array.toList_append, Array.toList_push, Array.toList_extract, List.extract_eq_take_drop, List.append_assoc, List.singleton_append]
    congr 1
    rw [List.take_of_length_le (by simp), List.take_of_length_le (by simp), List.drop_eq_getElem_cons (i := i) (by simpa using hlt)]
    simp
theorem run_loadN {t : TypeId} {sz : Nat} {z : Value} {by_ : Nat} [ty : Ty P t true sz z by_] {b o : Nat} {cs : Array Value} {T : TypeId} {fz : Nat × Nat}
    (hb : w.heap[b]? = some (.cells cs T fz)) (ho : o + sz ≤ cs.size) :
    (Instr.loadAt t (.pointer (some ⟨b, o, none⟩))).run P w = .ok (.agg (cs.extract o (o + sz))) w := by
  have hn : (cs.extract o (o + sz)).size = sz := by simp; omega
  have := run_loadCellsFrom (P := P) (w := w) (a := ⟨b, o, none⟩) (vs := cs.extract o (o + sz)) (fun j hj => by
    rw [add_blk, cell_of_blk hb, Array.getElem?_extract]
    rw [hn] at hj
    rw [if_pos (by omega)]) sz 0 #[] (by omega)
  simp only [Instr.loadAt, Instr.sureAddr, loadVar, Sem.run_bind, Sem.run_pure, Result.andThen, ty.agg, ty.size, loadCells, if_true]
  rw [this]
  simp [hn]
theorem Do.ldN (H : Has w0 w L) (i : Nat) {t : TypeId} {sz : Nat} {z : Value} {by_ : Nat} [ty : Ty P t true sz z by_] {b o : Nat} {cs : Array Value} {T : TypeId} {fz : Nat × Nat}
    (hi : L[i]? = some (b, .cells cs T fz)) (ho : o + sz ≤ cs.size) (k : K (.agg (cs.extract o (o + sz))) w) : Do P (Instr.loadAt t (.pointer (some ⟨b, o, none⟩))) w K X :=
  Do.ok (run_loadN (H.get i hi) ho) k
/-- Which places of a block may be written. -/
def open_ (fz : Nat × Nat) (o : Nat) : Prop := ¬ (fz.1 ≤ o ∧ o < fz.2)
theorem run_store_cells {w : World} {b : Nat} {T : TypeId} {fz : Nat × Nat} : ∀ (vs : List Value) (cs : Array Value) (o i : Nat), (∀ v ∈ vs, ∀ q, v ≠ .agg q ∧ v ≠ .tuple q) → b < w.heap.size →
    o + i + vs.length ≤ cs.size → (∀ j, i ≤ j → j < i + vs.length → open_ fz (o + j)) →
    (storeCells ⟨b, o, none⟩ vs i).run P (putW w b (.cells cs T fz)) = .ok () (putW w b (.cells (vs.zipIdx.foldl (fun c (v, j) => c.setIfInBounds (o + i + j) v) cs) T fz)) := by
  intro vs
  induction vs with
  | nil => intro cs o i _ _ _ _; simp [storeCells]
  | cons v rest ih =>
    intro cs o i hv hb ho hfz
    have hblk : (putW w b (.cells cs T fz)).heap[b]? = some (.cells cs T fz) := by simp [putW, hb]
    have hcell : (putW w b (.cells cs T fz)).cell? ⟨b, o + i, none⟩ = some (cs[o + i]'(by simp at ho; omega)) := by
      rw [cell_of_blk hblk, Array.getElem?_eq_getElem]
    have hfr : (putW w b (.cells cs T fz)).frozen? ⟨b, o + i, none⟩ = false := by
      rw [frozen_of_blk hblk]
      have := hfz i (Nat.le_refl _) (by simp)
      unfold open_ at this
      simpa [Bool.and_eq_false_iff, Decidable.not_and_iff_or_not] using this
    have hset : (putW w b (.cells cs T fz)).setCell ⟨b, o + i, none⟩ v = putW w b (.cells (cs.setIfInBounds (o + i) v) T fz) := by
      unfold putW World.setCell
      congr 1
      apply Array.ext_getElem?
      intro j
      simp only [Array.getElem?_modify, Array.getElem?_setIfInBounds]
      by_cases h : b = j
      · subst h; simp [hb]
      · simp [h]
    simp only [storeCells, Sem.run_bind]
    rw [add_blk]
    have hst : (store ⟨b, o + i, none⟩ v).run P (putW w b (.cells cs T fz)) = .ok () (putW w b (.cells (cs.setIfInBounds (o + i) v) T fz)) := by
      have h1 := hv v (by simp)
      unfold store
      cases v with
      | agg q => exact absurd rfl (h1 q).1
      | tuple q => exact absurd rfl (h1 q).2
      | _ => simp only [Sem.run, hcell, hfr, hset, Bool.false_eq_true, if_false]
    rw [hst]
    simp only [Result.andThen]
    rw [ih _ o (i + 1) (fun v h => hv v (List.mem_cons_of_mem _ h)) hb (by simp at ho ⊢; omega) (fun j h1 h2 => hfz j (by omega) (by simp; omega))]
    congr 3
    rw [List.zipIdx_cons, List.foldl_cons]
    simp only [Nat.add_zero]
    rw [List.zipIdx_succ, List.foldl_map]
    congr 1
    funext c p
    obtain ⟨x, j⟩ := p
    show c.setIfInBounds (o + (i + 1) + j) x = c.setIfInBounds (o + i + (j + 1)) x
    congr 1
    omega
theorem putW_self {b : Nat} {o : Obj} (h : w.heap[b]? = some o) : putW w b o = w := by
  unfold putW
  have : w.heap.setIfInBounds b o = w.heap := by
    apply Array.ext
    · simp
    · intro j h1 h2
      rw [Array.getElem_setIfInBounds]
      split
      · rename_i e; subst e; rw [Array.getElem?_eq_getElem h2] at h; exact (Option.some.inj h).symm
      · rfl
  rw [this]
theorem run_store {t : TypeId} {agg : Bool} {sz : Nat} {z : Value} {by_ : Nat} [ty : Ty P t agg sz z by_] {b o : Nat} {cs : Array Value} {T : TypeId} {fz : Nat × Nat} {v : Value}
    (hb : w.heap[b]? = some (.cells cs T fz)) (hsz : v.cells.size = sz) (hv : ∀ x ∈ v.cells.toList, ∀ q, x ≠ .agg q ∧ x ≠ .tuple q) (ho : o + sz ≤ cs.size) (hfz : ∀ j, j < sz → open_ fz (o + j)) :
    (Instr.storeAt t (.pointer (some ⟨b, o, none⟩)) v).run P w = .ok () (putW w b (.cells (v.cells.toList.zipIdx.foldl (fun c (v, j) => c.setIfInBounds (o + j) v) cs) T fz)) := by
  have := run_store_cells (P := P) (w := w) (b := b) (T := T) (fz := fz) v.cells.toList cs o 0 hv (Array.getElem?_eq_some_iff.1 hb).1 (by simp [hsz]; omega) (fun j _ h2 => hfz j (by simp [hsz] at h2; omega))
  rw [putW_self hb] at this
  simp only [Instr.storeAt, Instr.sureAddr, storeVar, Sem.run_bind, Sem.run_pure, Result.andThen, ty.size, hsz]
  simpa using this
/-- A store of one cell. -/
theorem DoU.st (H : Has w0 w L) (i : Nat) {t : TypeId} {z : Value} {by_ : Nat} [ty : Ty P t false 1 z by_] {b o : Nat} {cs : Array Value} {T : TypeId} {fz : Nat × Nat} {v : Value}
    (hi : L[i]? = some (b, .cells cs T fz)) (hv : v.cells = #[v]) (hv' : ∀ q, v ≠ .agg q ∧ v ≠ .tuple q) (ho : o < cs.size) (hfz : open_ fz o)
    (k : ∀ w', Has w0 w' (L.set i (b, .cells (cs.setIfInBounds o v) T fz)) → K undef w') : DoU P (Instr.storeAt t (.pointer (some ⟨b, o, none⟩)) v) w K X := by
  refine DoU.ok (run_store (H.get i hi) (by rw [hv]; rfl) (by rw [hv]; simpa using hv') (by omega) (fun j hj => by
    have hj0 : j = 0 := by omega
    subst hj0; exact hfz)) ?_
  rw [hv]
  exact k _ (H.putAt i hi _)
/-- A store of a struct. -/
theorem DoU.stN (H : Has w0 w L) (i : Nat) {t : TypeId} {sz : Nat} {z : Value} {by_ : Nat} [ty : Ty P t true sz z by_] {b o : Nat} {cs : Array Value} {T : TypeId} {fz : Nat × Nat} {vs : Array Value}
    (hi : L[i]? = some (b, .cells cs T fz)) (hsz : vs.size = sz) (hv : ∀ x ∈ vs.toList, ∀ q, x ≠ .agg q ∧ x ≠ .tuple q) (ho : o + sz ≤ cs.size) (hfz : ∀ j, j < sz → open_ fz (o + j))
    (k : ∀ w', Has w0 w' (L.set i (b, .cells (vs.toList.zipIdx.foldl (fun c (v, j) => c.setIfInBounds (o + j) v) cs) T fz)) → K undef w') :
    DoU P (Instr.storeAt t (.pointer (some ⟨b, o, none⟩)) (.agg vs)) w K X :=
  DoU.ok (run_store (H.get i hi) hsz hv ho hfz) (k _ (H.putAt i hi _))
theorem run_fld {s f off : Nat} [h : Fld P s f off] {b o : Nat} : (Instr.fieldAt s (.pointer (some ⟨b, o, none⟩)) f).run P w = .ok (.pointer (some ⟨b, o + off, none⟩)) w := h.h b o w
theorem run_idx {t e : TypeId} [u : Und P t (.slice e)] {agg : Bool} {sz : Nat} {z : Value} {by_ : Nat} [ty : Ty P e agg sz z by_] {b o n c : Nat} {i : Int} (h0 : 0 ≤ i) (h1 : i < n) :
    (Instr.indexAt t (.slice (some ⟨b, o, none⟩) n c) (.int .i64 i)).run P w = .ok (.pointer (some ⟨b, o + i.toNat * sz, none⟩)) w := by
  simp only [Instr.indexAt, asIntOf, Sem.run_bind, Sem.run_pure, Result.andThen, run_und, ty.size]
  rw [if_pos ⟨h0, h1⟩]
  simp only [Sem.run_bind, ty.size, Result.andThen, Sem.run_pure, add_blk]
theorem run_lenS {t e : TypeId} [u : Und P t (.slice e)] {ty : TypeId} {a : Option Addr} {n c : Nat} : (Builtin.len_ #[t] ty #[.slice a n c]).run P w = .ok (.int .i64 n) w := by
  simp [Builtin.len_, run_und, goInt]
theorem run_lenStr {t : TypeId} [u : Und P t .string] {ty : TypeId} {s : ByteArray} : (Builtin.len_ #[t] ty #[.string s]).run P w = .ok (.int .i64 s.size) w := by
  simp [Builtin.len_, run_und, goInt]

/-! ### Slices of our own -/
/-- 'v' is a slice of 'n' elements of type T ('sz' cells each) with the cells 'xs', nil or at the head of a block of ours; 'I': that block. -/
inductive Row (T : TypeId) (sz : Nat) : Value → Nat → List Value → List (Nat × Obj) → Prop
  | nil : Row T sz (.slice none 0 0) 0 [] []
  | row {b n c : Nat} {xs sp : List Value} (hn : xs.length = n * sz) (hc : xs.length + sp.length = c * sz) (hnc : n ≤ c) (hcm : c ≤ maxLen) : Row T sz (.slice (some ⟨b, 0, none⟩) n c) n xs [(b, .cells (xs ++ sp).toArray T (0, 0))]
theorem Row.len {T sz : Nat} {v : Value} {n : Nat} {xs : List Value} {I : List (Nat × Obj)} (h : Row T sz v n xs I) : xs.length = n * sz := by cases h <;> simp_all
theorem Row.slice {T sz : Nat} {v : Value} {n : Nat} {xs : List Value} {I : List (Nat × Obj)} (h : Row T sz v n xs I) : ∃ a c, v = .slice a n c := by cases h <;> exact ⟨_, _, rfl⟩
structure Src (P : Program) (w : World) (sz : Nat) (x : Value) (m : Nat) (ys : List Value) : Prop where
  len : ∀ w, (Builtin.lenOf x).run P w = .ok m w
  cells : ∀ n, (Builtin.firstCells sz m x).run P { w with drawn := n } = .ok ys.toArray { w with drawn := n }
  n : ys.length = m * sz
  one : ∀ y ∈ ys, y.oneCell' = true
theorem Src.blk {w : World} {sz b o m c : Nat} {ys : List Value} {cs : Array Value} {T : TypeId} {fz : Nat × Nat} (hb : w.heap[b]? = some (.cells cs T fz)) (hn : ys.length = m * sz)
    (hc : ∀ j y, ys[j]? = some y → cs[o + j]? = some y) (h1 : ∀ y ∈ ys, y.oneCell' = true) : Src P w sz (.slice (some ⟨b, o, none⟩) m c) m ys :=
  ⟨fun w => by simp [Builtin.lenOf], fun n => run_firstCells_some (P := P) { w with drawn := n } sz m ⟨b, o, none⟩ m c ys hn (fun j y hj => by
    rw [add_blk]; exact (cell_of_blk (w := { w with drawn := n }) hb _).trans (hc j y hj)), hn, h1⟩
theorem Src.nil {w : World} {sz c : Nat} : Src P w sz (.slice none 0 c) 0 [] :=
  ⟨fun w => by simp [Builtin.lenOf], fun n => by simp [Builtin.firstCells], by simp, by simp⟩
theorem Src.str {w : World} {s : ByteArray} : Src P w 1 (.string s) s.size (strCells s) :=
  ⟨fun w => by simp [Builtin.lenOf], fun n => run_firstCells_string (P := P) _ 1 s, by simp [strCells], fun y hy => by
    simp only [strCells, List.mem_map] at hy
    obtain ⟨c, _, rfl⟩ := hy; rfl⟩
theorem setRow_put {w : World} {g : Nat} {cs cs' : Array Value} {T : TypeId} {fz : Nat × Nat} (h : w.heap[g]? = some (.cells cs T fz)) : w.setRow g cs' = putW w g (.cells cs' T fz) := by
  unfold World.setRow putW
  congr 1
  apply Array.ext_getElem?
  intro j
  simp only [Array.getElem?_modify, Array.getElem?_setIfInBounds]
  by_cases hj : g = j
  · subst hj
    have hlt : g < w.heap.size := (Array.getElem?_eq_some_iff.1 h).1
    have : w.heap[g] = .cells cs T fz := by rw [Array.getElem?_eq_getElem hlt] at h; exact Option.some.inj h
    simp [hlt, this]
  · simp [hj]
/-- 'append(v, x...)'. -/
theorem run_append {t t2 T : TypeId} {d2 : TypeDesc} [u : Und P t (.slice T)] [u2 : Und P t2 d2] (hd2 : d2 = .string ∨ ∃ e, d2 = .slice e) {agg : Bool} {sz : Nat} {z : Value} {bytes : Nat} [ty : Ty P T agg sz z bytes]
    {v : Value} {n : Nat} {xs : List Value} {I : List (Nat × Obj)} (H : Has w0 w (I ++ L)) (hr : Row T sz v n xs I) {x : Value} {m : Nat} {ys : List Value} (hs : Src P w sz x m ys)
    (h63 : n + m ≤ 9223372036854775807) (hb : (n + m) * bytes ≤ 140737488355328) {rt : TypeId} :
    ∃ v' I' w', (Builtin.append_ #[t, t2] rt #[v, x]).run P w = .ok v' w' ∧ Row T sz v' (n + m) (xs ++ ys) I' ∧ Has w0 w' (I' ++ L) ∧ (v' = .slice none 0 0 ↔ v = .slice none 0 0 ∧ m = 0) := by
  obtain ⟨i, hi, his, hiz, hib⟩ := ty.info
  have hz := ty.zs
  have hlen : (xs ++ ys).length = (n + m) * sz := by rw [List.length_append, hr.len, hs.n, Nat.add_mul]
  subst his
  subst hib
  have hsl := hs.len
  have eZ : ∀ (l : List Value) (Z : Array Value), (l ++ Z.toList).toArray = l.toArray ++ Z := fun l Z => by apply Array.ext'; simp
  have hc0 : (Builtin.firstCells i.size m x).run P w = .ok ys.toArray w := hs.cells w.drawn
  have hc1 : (Builtin.firstCells i.size m x).run P w.drew = .ok ys.toArray w.drew := hs.cells (w.drawn + 1)
  cases hr with
  | nil =>
    by_cases hm : m = 0
    · subst hm
      have hy : ys = [] := List.eq_nil_of_length_eq_zero (by simpa using hs.n)
      subst hy
      refine ⟨.slice none 0 0, [], w, ?_, .nil, H, by simp⟩
      rcases hd2 with rfl | ⟨e, rfl⟩ <;>
        simp [Builtin.append_, run_underlying u.h, run_underlying u2.h, sizeOf, typeInfo, zeroValue, hi, hiz, hsl, hc0]
    · have hge := grownCap_ge w m 0 T
      have h63' : ¬ (9223372036854775807 < (m : Int)) := by omega
      have h48' : ¬ (281474976710656 < Builtin.nextslicecap m 0 * i.bytes) := by rw [nextslicecap_zero (by omega)]; simp only [Nat.zero_add] at hb; omega
      refine ⟨.slice (some ⟨w.heap.size, 0, none⟩) (0 + m) (grownCap w m 0 T), [(w.heap.size, .cells (([] ++ ys) ++ (Builtin.zeroCells z.cells (grownCap w m 0 T - m)).toList).toArray T (0, 0))],
        w.drew.alloc (.cells (([] ++ ys) ++ (Builtin.zeroCells z.cells (grownCap w m 0 T - m)).toList).toArray T (0, 0)), ?_, ?_, ?_, by simp [hm]⟩
      · rcases hd2 with rfl | ⟨e, rfl⟩ <;>
          simp [Builtin.append_, run_underlying u.h, run_underlying u2.h, sizeOf, typeInfo, zeroValue, hi, hiz, hsl, hc1, hm, h63', h48', Question.forced, run_firstCells_none, newRow, grownCap, eZ]
      · exact Row.row (by simpa using hlen) (by
          rw [hlen, Array.length_toList, size_zeroCells, hz, ← Nat.add_mul]; congr 1; omega) (by omega) (grownCap_le_maxLen w m 0 T (by simp only [maxLen]; omega))
      · exact (H.drew).alloc _
  | @row b _ c xs sp hn hc hnc hcm =>
    have hblk : w.heap[b]? = some (.cells (xs ++ sp).toArray T (0, 0)) := H.get 0 rfl
    by_cases hroom : n + m ≤ c
    · have hfit : 0 + n * i.size + ys.length ≤ (xs ++ sp).toArray.size := by
        rw [List.size_toArray, List.length_append, hc, hs.n, Nat.zero_add, ← Nat.add_mul]; exact Nat.mul_le_mul_right _ hroom
      have hst := run_storeCells_at P b (n * i.size) T ys 0 (xs ++ sp).toArray w hblk (by simpa using hfit) hs.one
      simp only [Nat.add_zero] at hst
      rw [setRow_put hblk] at hst
      have hst' : (storeCells ⟨b, n * i.size, none⟩ ys 0).run P w = .ok () (putW w b (.cells (List.take (n * i.size) (xs ++ sp) ++ (ys ++ List.drop (n * i.size + ys.length) (xs ++ sp))).toArray T (0, 0))) := by
        rw [hst]; simp
      have hrun : (Builtin.append_ #[t, t2] rt #[.slice (some ⟨b, 0, none⟩) n c, x]).run P w = .ok (.slice (some ⟨b, 0, none⟩) (n + m) c) (putW w b (.cells ((xs ++ sp).toArray.toList.take (n * i.size) ++ ys ++ (xs ++ sp).toArray.toList.drop (n * i.size + ys.length)).toArray T (0, 0))) := by
        rcases hd2 with rfl | ⟨e, rfl⟩ <;>
          simp [Builtin.append_, run_underlying u.h, run_underlying u2.h, sizeOf, typeInfo, hi, hsl, hroom, hc0, Addr.add_lit, hst']
      have e1 : ((xs ++ sp).toArray.toList.take (n * i.size) ++ ys ++ (xs ++ sp).toArray.toList.drop (n * i.size + ys.length)) = (xs ++ ys) ++ sp.drop ys.length := by
        have h1 : (xs ++ sp).take (n * i.size) = xs := by rw [← hn]; exact List.take_left
        have h2 : (xs ++ sp).drop (n * i.size + ys.length) = sp.drop ys.length := by rw [← hn, List.drop_append]; simp
        simp only [h1, h2]
      rw [e1] at hrun
      refine ⟨_, [(b, _)], _, hrun, Row.row hlen ?_ hroom hcm, Has.put H _, by simp⟩
      rw [hlen, List.length_drop, hs.n]
      have : (n + m) * i.size ≤ c * i.size := Nat.mul_le_mul_right _ hroom
      have e2 : (n + m) * i.size = n * i.size + m * i.size := Nat.add_mul ..
      omega
    · have hge := grownCap_ge w (n + m) c T
      have h63' : ¬ (9223372036854775807 < ((n : Int) + (m : Int))) := by omega
      have hfit : Builtin.nextslicecap (n + m) c * i.bytes ≤ 281474976710656 := growslice_fits (by omega) hb
      have h48' : ¬ (281474976710656 < Builtin.nextslicecap (n + m) c * i.bytes) := by omega
      have hold : (Builtin.firstCells i.size n (.slice (some ⟨b, 0, none⟩) n c)).run P w.drew = .ok xs.toArray w.drew :=
        run_firstCells_some (P := P) w.drew i.size n ⟨b, 0, none⟩ n c xs hn (fun j y hj => by
          rw [add_blk]
          refine (cell_of_blk (w := w.drew) hblk _).trans ?_
          have hlt : j < xs.length := (List.getElem?_eq_some_iff.1 hj).1
          simp only [Nat.zero_add, List.getElem?_toArray]
          rw [List.getElem?_append_left hlt]; exact hj)
      refine ⟨.slice (some ⟨w.heap.size, 0, none⟩) (n + m) (grownCap w (n + m) c T), [(w.heap.size, .cells ((xs ++ ys) ++ (Builtin.zeroCells z.cells (grownCap w (n + m) c T - (n + m))).toList).toArray T (0, 0))],
        w.drew.alloc (.cells ((xs ++ ys) ++ (Builtin.zeroCells z.cells (grownCap w (n + m) c T - (n + m))).toList).toArray T (0, 0)), ?_, ?_, ?_, by simp⟩
      · have hold' : (Builtin.firstCells i.size n (.slice (some ⟨b, 0, none⟩) n c)).run P w.drew = .ok xs.toArray w.drew := hold
        rcases hd2 with rfl | ⟨e, rfl⟩ <;>
          simp [Builtin.append_, run_underlying u.h, run_underlying u2.h, sizeOf, typeInfo, zeroValue, hi, hiz, hsl, hc1, hroom, h63', h48', Question.forced, hold', newRow, grownCap, eZ]
      · exact Row.row hlen (by rw [hlen, Array.length_toList, size_zeroCells, hz, ← Nat.add_mul]; congr 1; omega) hge (grownCap_le_maxLen w (n + m) c T (by simp only [maxLen]; omega))
      · exact ((Has.right H).drew).alloc _
theorem Do.append {t t2 T : TypeId} {d2 : TypeDesc} [u : Und P t (.slice T)] [u2 : Und P t2 d2] (hd2 : d2 = .string ∨ ∃ e, d2 = .slice e) {agg : Bool} {sz : Nat} {z : Value} {bytes : Nat} [ty : Ty P T agg sz z bytes]
    {v : Value} {n : Nat} {xs : List Value} {I : List (Nat × Obj)} (H : Has w0 w (I ++ L)) (hr : Row T sz v n xs I) {x : Value} {m : Nat} {ys : List Value} (hs : Src P w sz x m ys)
    (h63 : n + m ≤ 9223372036854775807) (hb : (n + m) * bytes ≤ 140737488355328) {rt : TypeId}
    (k : ∀ v' I' w', Row T sz v' (n + m) (xs ++ ys) I' → Has w0 w' (I' ++ L) → (v' = .slice none 0 0 ↔ v = .slice none 0 0 ∧ m = 0) → K v' w') : Do P (Builtin.append_ #[t, t2] rt #[v, x]) w K X := by
  obtain ⟨v', I', w', hrun, h1, h2, h3⟩ := run_append (P := P) (t := t) (t2 := t2) hd2 H hr hs h63 hb (rt := rt)
  exact Do.ok hrun (k v' I' w' h1 h2 h3)
end
end Go.Sx
