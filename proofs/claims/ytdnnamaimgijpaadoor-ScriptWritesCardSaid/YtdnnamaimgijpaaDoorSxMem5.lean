/- Sx: a contract's blocks joined to ours; one element laid and appended. Conditions: none. -/
import Derived.Test.YtdnnamaimgijpaaDoorSxMem4
set_option linter.unusedVariables false
namespace Go.Sx
open Go Go.RowKit Go.Lib
section
variable {P : Program} {K : Value → World → Prop} {X : List PanicEntry → World → Prop} {w0 w w' : World} {L I : List (Nat × Obj)}
theorem Has.more (H : Has w0 w L) (H' : Has w w' I) : Has w0 w' (I ++ L) := by
  refine ⟨H'.os.trans H.os, H'.tape.trans H.tape, H'.output.trans H.output, Nat.le_trans H.size H'.size, fun b hb => (H'.base b (Nat.lt_of_lt_of_le hb H.size)).trans (H.base b hb), fun p hp => ?_, ?_⟩
  · rcases List.mem_append.1 hp with h | h
    · exact ⟨Nat.le_trans H.size (H'.own p h).1, (H'.own p h).2⟩
    · exact ⟨(H.own p h).1, (H'.base _ (H.lt h)).trans (H.own p h).2⟩
  · rw [List.map_append, List.nodup_append]
    refine ⟨H'.nd, H.nd, fun a ha b hb e => ?_⟩
    obtain ⟨p, hp, rfl⟩ := List.mem_map.1 ha
    obtain ⟨q, hq, rfl⟩ := List.mem_map.1 hb
    have h1 := (H'.own p hp).1
    have h2 := H.lt hq
    omega
theorem Has.onto {w1 : World} (hb : Below w0.heap.size w0 w1) (H : Has w1 w L) : Has w0 w L := by
  have := (Has.init w0).below hb
  simpa using this.more H
/-- A new block of elements. -/
theorem Do.bs {t T : TypeId} {m : Nat} {parts : Array (Nat × Value)} {ys : Array Value} (H : Has w0 w L)
    (hbs : ∀ w, (Instr.buildSlice t m parts).run P w = .ok (.slice (some ⟨w.heap.size, 0, none⟩) m m) (w.alloc (.cells ys T)))
    (k : ∀ b w', Has w0 w' ((b, .cells ys T (0, 0)) :: L) → K (.slice (some ⟨b, 0, none⟩) m m) w') : Do P (Instr.buildSlice t m parts) w K X :=
  Do.ok (hbs w) (k _ _ (H.alloc _))
/-- 'append(v, x...)' where x is a block of ours that is done with. -/
theorem Do.append2 {t T : TypeId} [u : Und P t (.slice T)] {agg : Bool} {sz : Nat} {z : Value} {bytes : Nat} [ty : Ty P T agg sz z bytes]
    {v : Value} {n : Nat} {xs : List Value} {b m : Nat} {ys : Array Value} {T' : TypeId} {fz : Nat × Nat} (H : Has w0 w ((b, .cells ys T' fz) :: (I ++ L))) (hr : Row T sz v n xs I) (hy : ys.size = m * sz) (h1 : ∀ y ∈ ys.toList, y.oneCell' = true)
    (h63 : n + m ≤ 9223372036854775807) (hb : (n + m) * bytes ≤ 140737488355328) {rt : TypeId}
    (k : ∀ v' I' w', Row T sz v' (n + m) (xs ++ ys.toList) I' → Has w0 w' (I' ++ L) → (v' = .slice none 0 0 ↔ v = .slice none 0 0 ∧ m = 0) → K v' w') : Do P (Builtin.append_ #[t, t] rt #[v, .slice (some ⟨b, 0, none⟩) m m]) w K X := by
  have H2 : Has w0 w (I ++ ((b, .cells ys T' fz) :: L)) := H.perm (by classical exact List.perm_iff_count.2 (fun a => by simp only [List.count_append, List.count_cons, List.count_nil, List.set_cons_zero, List.set_cons_succ, List.setIfInBounds_toArray, List.cons_append, List.nil_append, List.append_assoc]; omega))
  refine Do.append (t := t) (t2 := t) (.inr ⟨_, rfl⟩) H2 hr (Src.blk (ys := ys.toList) (H.own (b, .cells ys T' fz) (by simp)).2 (by simpa using hy) (fun j y hj => by simpa using hj) h1) h63 hb ?_
  intro v' I' w' hr' H' hn
  have H3 : Has w0 w' ((b, .cells ys T' fz) :: (I' ++ L)) := H'.perm (by classical exact List.perm_iff_count.2 (fun a => by simp only [List.count_append, List.count_cons, List.count_nil, List.set_cons_zero, List.set_cons_succ, List.setIfInBounds_toArray, List.cons_append, List.nil_append, List.append_assoc]; omega))
  exact k v' I' w' hr' H3.tail hn
theorem Row.one {T sz : Nat} {v : Value} {n : Nat} {xs : List Value} {I : List (Nat × Obj)} (h : Row T sz v n xs I) : v.cells = #[v] ∧ ∀ q, v ≠ .agg q ∧ v ≠ .tuple q := by
  cases h <;> exact ⟨rfl, fun q => ⟨by simp, by simp⟩⟩
theorem Row.lenV {t e : TypeId} [u : Und P t (.slice e)] {ty : TypeId} {T sz : Nat} {v : Value} {n : Nat} {xs : List Value} {I : List (Nat × Obj)} (h : Row T sz v n xs I) : (Builtin.len_ #[t] ty #[v]).run P w = .ok (.int .i64 n) w := by
  cases h <;> exact run_lenS
theorem ResC.ok {t : TypeId} {a : Addr} {v : Value} {K : Value → Prop} (h : (Instr.loadAt t (.pointer (some a))).run P w = .ok v w) (k : K v) : ResC P t (.pointer (some a)) w K := ⟨v, h, k⟩
theorem fold_set (l : List Value) : ∀ (k o : Nat) (cs : Array Value), o + k + l.length ≤ cs.size →
    (l.zipIdx k).foldl (fun c (x : Value × Nat) => c.setIfInBounds (o + x.2) x.1) cs = (cs.toList.take (o + k) ++ l ++ cs.toList.drop (o + k + l.length)).toArray := by
  induction l with
  | nil => intro k o cs h; apply Array.ext'; simp
  | cons x l ih =>
    intro k o cs h
    rw [List.zipIdx_cons, List.foldl_cons]
    simp only [List.length_cons] at h
    rw [ih (k + 1) o _ (by simp; omega)]
    apply Array.ext'
    simp only [Array.toList_setIfInBounds, List.length_cons]
    have e1 : o + (k + 1) = (o + k) + 1 := by omega
    have e2 : o + (k + 1) + l.length = o + k + (l.length + 1) := by omega
    rw [e2, e1]
    have hlt : o + k < cs.toList.length := by simp; omega
    rw [List.take_set, List.drop_set_of_lt (by omega), List.take_add_one, List.getElem?_eq_getElem hlt]
    rw [List.set_append_right _ _ (by simp; omega)]
    have : o + k - (List.take (o + k) cs.toList).length = 0 := by simp; omega
    rw [this]
    simp
theorem fold_all (vs cs : Array Value) (h : vs.size = cs.size) : vs.toList.zipIdx.foldl (fun c (x : Value × Nat) => c.setIfInBounds (0 + x.2) x.1) cs = vs := by
  rw [fold_set vs.toList 0 0 cs (by simp; omega)]
  apply Array.ext'
  simp [List.drop_eq_nil_of_le, h]
/-- A load, a store of a whole block. -/
theorem Do.ldAll (H : Has w0 w L) (i : Nat) {t : TypeId} {sz : Nat} {z : Value} {by_ : Nat} [ty : Ty P t true sz z by_] {b : Nat} {cs : Array Value} {T : TypeId} {fz : Nat × Nat}
    (hL : L[i]? = some (b, .cells cs T fz)) (hsz : cs.size = sz) (k : K (.agg cs) w) : Do P (Instr.loadAt t (.pointer (some ⟨b, 0, none⟩))) w K X :=
  Do.ldN H i hL (by omega) (by
    have e : cs.extract 0 (0 + sz) = cs := by rw [Nat.zero_add, ← hsz, Array.extract_size]
    rw [e]; exact k)
theorem ResC.all (H : Has w0 w L) (i : Nat) {t : TypeId} {sz : Nat} {z : Value} {by_ : Nat} [ty : Ty P t true sz z by_] {b : Nat} {cs : Array Value} {T : TypeId} {fz : Nat × Nat}
    (hL : L[i]? = some (b, .cells cs T fz)) (hsz : cs.size = sz) {K : Value → Prop} (k : K (.agg cs)) : ResC P t (.pointer (some ⟨b, 0, none⟩)) w K := by
  have e : cs.extract 0 (0 + sz) = cs := by rw [Nat.zero_add, ← hsz, Array.extract_size]
  have := run_loadN (P := P) (t := t) (H.get i hL) (o := 0) (by omega)
  rw [e] at this
  exact ResC.ok this k
theorem DoU.stAll (H : Has w0 w L) (i : Nat) {t : TypeId} {sz : Nat} {z : Value} {by_ : Nat} [ty : Ty P t true sz z by_] {b : Nat} {cs : Array Value} {T : TypeId} {fz : Nat × Nat} {vs : Array Value}
    (hi : L[i]? = some (b, .cells cs T fz)) (hcs : cs.size = sz) (hsz : vs.size = sz) (hv : ∀ x ∈ vs.toList, ∀ q, x ≠ .agg q ∧ x ≠ .tuple q) (hfz : ∀ j, j < sz → open_ fz j)
    (k : ∀ w', Has w0 w' (L.set i (b, .cells vs T fz)) → K undef w') : DoU P (Instr.storeAt t (.pointer (some ⟨b, 0, none⟩)) (.agg vs)) w K X := by
  refine DoU.stN H i hi hsz hv (by omega) (fun j hj => by rw [Nat.zero_add]; exact hfz j hj) ?_
  intro w' H'
  rw [fold_all vs cs (by omega)] at H'
  exact k w' H'
end
end Go.Sx
