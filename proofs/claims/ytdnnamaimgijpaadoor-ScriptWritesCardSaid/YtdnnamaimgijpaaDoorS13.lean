/- strings.Builder in this seat's words; digits' Print as a word; data. Conditions: none. -/
import Derived.Test.YtdnnamaimgijpaaDoorS12
import Derived.Test.YtdnnamaimgijpaaDoorSxP2
import Derived.Shelf.Strings.Builder1
set_option linter.unusedVariables false
set_option linter.unusedSectionVars false
set_option maxRecDepth 10000
namespace Go.Proofs.YtdnnamaimgijpaaDoor
open Go Go.Sx Go.Proofs Go.Lib Go.RowKit Go.Shelf

def ren240 : Ren := ⟨fun | 240 => 66 | 276 => 84 | n => n, fun | 70 => 71 | 72 => 73 | 37 => 41 | 164 => 108 | n => n, fun | n => n⟩
theorem lays240 : Go.Proofs.Lays.n240 Tryd.prog ren240 := {
  mixed := by kernel_rfl
  f240 := Tryd.func66.trans (congrArg some (by kernel_rfl))
  f276 := Tryd.func84.trans (congrArg some (by kernel_rfl))
  t0 := Tryd.underlying0
  a0 := Tryd.isAgg0
  z0 := Tryd.sizeOf0
  v0 := Tryd.zeroValue0
  t4 := Tryd.underlying4
  a4 := Tryd.isAgg4
  z4 := Tryd.sizeOf4
  v4 := Tryd.zeroValue4
  t9 := Tryd.underlying9
  a9 := Tryd.isAgg9
  z9 := Tryd.sizeOf9
  v9 := Tryd.zeroValue9
  t20 := Tryd.underlying20
  a20 := Tryd.isAgg20
  z20 := Tryd.sizeOf20
  v20 := Tryd.zeroValue20
  t70 := Tryd.underlying71
  a70 := Tryd.isAgg71
  z70 := Tryd.sizeOf71
  v70 := Tryd.zeroValue71
  t72 := Tryd.underlying73
  a72 := Tryd.isAgg73
  z72 := Tryd.sizeOf73
  v72 := Tryd.zeroValue73
  t164 := Tryd.underlying108
  a164 := Tryd.isAgg108
  z164 := Tryd.sizeOf108
  v164 := Tryd.zeroValue108 }
theorem x72_240 : Builder.X72 Tryd.prog ren240 := {
  sizeBuilder := by kernel_rfl
  liesBuilder := by kernel_rfl }
theorem setCell_put {w : World} {b o : Nat} {cs : Array Value} {T : TypeId} {fz : Nat × Nat} {v : Value} (h : w.heap[b]? = some (.cells cs T fz)) : w.setCell ⟨b, o, none⟩ v = putW w b (.cells (cs.setIfInBounds o v) T fz) := by
  unfold putW World.setCell
  congr 1
  apply Array.ext_getElem?
  intro j
  have hlt := (Array.getElem?_eq_some_iff.1 h).1
  have he : w.heap[b] = .cells cs T fz := (Array.getElem?_eq_some_iff.1 h).2
  simp only [Array.getElem?_modify, Array.getElem?_setIfInBounds]
  by_cases hj : b = j
  · subst hj; simp [hlt, he]
  · simp [hj]
/-- A builder of ours that holds 'l'; L0: its blocks. -/
def Bld (b : Nat) (l : List UInt8) (L0 : List (Nat × Obj)) : Prop :=
  ∃ p v I, (p = .pointer none ∨ p = .pointer (some ⟨b, 0, none⟩)) ∧ BRow v l I ∧ L0 = (b, .cells #[p, v] 73 (0, 0)) :: I
theorem Bld.new (b : Nat) : Bld b [] [(b, .cells #[.pointer none, .slice none 0 0] 73 (0, 0))] := ⟨_, _, [], .inl rfl, .nil, rfl⟩
theorem Row.own {T sz : Nat} {v : Value} {n : Nat} {xs : List Value} {I : List (Nat × Obj)} (h : Row T sz v n xs I) : (v.ownBlock = none ∧ I = []) ∨ ∃ g o, v.ownBlock = some g ∧ I = [(g, o)] := by
  cases h with
  | nil => exact .inl ⟨rfl, rfl⟩
  | row => exact .inr ⟨_, _, rfl, rfl⟩
section
variable {w0 w : World} {L L0 : List (Nat × Obj)} {b : Nat} {l : List UInt8} {K : Value → World → Prop} {X : List PanicEntry → World → Prop}
theorem copyCheck {v p : Value} (H : Has w0 w ((b, .cells #[p, v] 73 (0, 0)) :: L)) (hp : p = .pointer none ∨ p = .pointer (some ⟨b, 0, none⟩)) (k : ∀ r w', Has w0 w' ((b, .cells #[.pointer (some ⟨b, 0, none⟩), v] 73 (0, 0)) :: L) → K r w') : CallF P 66 [pt b] w K X := by
  have hb := H.get 0 rfl
  rcases hp with rfl | rfl
  · refine CallF.ret (enters66 _ _) (Ret.ofCalls (Any.Builder_copyCheck_fresh lays240 x72_240 b w ((cell_of_blk hb 0).trans rfl) (by simp [World.shape?, hb]; rfl) (by simp [World.frozen?, hb]))) ?_
    rintro r _ ⟨_, rfl⟩
    rw [setCell_put hb]
    exact k _ _ (H.put _)
  · refine CallF.ret (enters66 _ _) (Ret.ofCalls (Any.Builder_copyCheck_used lays240 x72_240 b w ((cell_of_blk hb 0).trans rfl))) ?_
    rintro r _ ⟨_, rfl⟩
    exact k _ _ H
theorem writeString (H : Has w0 w (L0 ++ L)) (hb : Bld b l L0) (s : ByteArray) (hlen : l.length + s.size ≤ 140737488355328) (k : ∀ r w' L0', Bld b (l ++ s.data.toList) L0' → Has w0 w' (L0' ++ L) → K r w') : CallF P 37 [pt b, .string s] w K X := by
  obtain ⟨p, v, I, hp, hr, rfl⟩ := hb
  refine CallF.gen (f37.enters _ _) (f37.calls ?_)
  unfold f37.f
  have H : Has w0 w ((b, .cells #[p, v] 73 (0, 0)) :: (I ++ L)) := H
  refine copyCheck H hp ?_
  intro _ w2 H2
  refine Do.ok run_nilp (Do.ok run_fld (Do.ld H2 0 rfl rfl ?_))
  have H2' : Has w0 w2 (I ++ ((b, .cells #[.pointer (some ⟨b, 0, none⟩), v] 73 (0, 0)) :: L)) := H2.perm (by classical exact List.perm_iff_count.2 (fun a => by simp only [List.count_append, List.count_cons, List.count_nil, List.set_cons_zero, List.set_cons_succ, List.setIfInBounds_toArray, List.cons_append, List.nil_append, List.append_assoc]; omega))
  refine Do.append (t := 41) (t2 := 9) (.inl rfl) H2' hr Src.str (by omega) (by omega) ?_
  intro v' I' w3 hr' H3 _
  have H3' : Has w0 w3 ((b, .cells #[.pointer (some ⟨b, 0, none⟩), v] 73 (0, 0)) :: (I' ++ L)) := H3.perm (by classical exact List.perm_iff_count.2 (fun a => by simp only [List.count_append, List.count_cons, List.count_nil, List.set_cons_zero, List.set_cons_succ, List.setIfInBounds_toArray, List.cons_append, List.nil_append, List.append_assoc]; omega))
  refine Do.ok run_nilp (Do.ok run_fld (DoU.st H3' 0 rfl hr'.one.1 hr'.one.2 (by simp) (open0 _) ?_))
  intro w4 H4
  refine Do.ok run_lenStr (k _ w4 ((b, .cells #[.pointer (some ⟨b, 0, none⟩), v'] 73 (0, 0)) :: I') ⟨_, v', I', .inr rfl, ?_, rfl⟩ H4)
  unfold BRow
  have e : byteCells (l ++ s.data.toList) = byteCells l ++ strCells s := by rw [Sx.strCells_eq]; simp [byteCells]
  rw [e, List.length_append]
  simpa using hr'
theorem writeByte (H : Has w0 w (L0 ++ L)) (hb : Bld b l L0) (c : UInt8) (hlen : l.length + 1 ≤ 140737488355328) (k : ∀ r w' L0', Bld b (l ++ [c]) L0' → Has w0 w' (L0' ++ L) → K r w') : CallF P 87 [pt b, .int .u8 (c.toNat : Int)] w K X := by
  obtain ⟨p, v, I, hp, hr, rfl⟩ := hb
  refine CallF.gen (f87.enters _ _) (f87.calls ?_)
  unfold f87.f
  have H : Has w0 w ((b, .cells #[p, v] 73 (0, 0)) :: (I ++ L)) := H
  refine copyCheck H hp ?_
  intro _ w2 H2
  refine Do.ok run_nilp (Do.ok run_fld (Do.ld H2 0 rfl rfl ?_))
  have H2' : Has w0 w2 (I ++ ((b, .cells #[.pointer (some ⟨b, 0, none⟩), v] 73 (0, 0)) :: L)) := H2.perm (by classical exact List.perm_iff_count.2 (fun a => by simp only [List.count_append, List.count_cons, List.count_nil, List.set_cons_zero, List.set_cons_succ, List.setIfInBounds_toArray, List.cons_append, List.nil_append, List.append_assoc]; omega))
  refine app1 H2' hr c hlen ?_
  intro v' I' w3 hr' H3
  have H3' : Has w0 w3 ((b, .cells #[.pointer (some ⟨b, 0, none⟩), v] 73 (0, 0)) :: (I' ++ L)) := H3.perm (by classical exact List.perm_iff_count.2 (fun a => by simp only [List.count_append, List.count_cons, List.count_nil, List.set_cons_zero, List.set_cons_succ, List.setIfInBounds_toArray, List.cons_append, List.nil_append, List.append_assoc]; omega))
  refine Do.ok run_nilp (Do.ok run_fld (DoU.st H3' 0 rfl (Row.one hr').1 (Row.one hr').2 (by simp) (open0 _) ?_))
  intro w4 H4
  exact k _ w4 ((b, .cells #[.pointer (some ⟨b, 0, none⟩), v'] 73 (0, 0)) :: I') ⟨_, v', I', .inr rfl, hr', rfl⟩ H4
theorem Bld.is (H : Has w0 w (L0 ++ L)) (hb : Bld b l L0) : IsBuilder 73 5 w0.heap.size b (byteCells l) w := by
  obtain ⟨p, v, I, hp, hr, rfl⟩ := hb
  have hx := H.own (b, .cells #[p, v] 73 (0, 0)) (by simp)
  have hlen : (byteCells l).length = l.length := by simp [byteCells]
  have hw : w.ownsRow w0.heap.size 5 1 v (byteCells l).length (byteCells l) := by
    rw [hlen]
    exact Row.owns hr (L := (b, .cells #[p, v] 73 (0, 0)) :: L) (H.perm (by classical exact List.perm_iff_count.2 (fun a => by simp only [List.count_append, List.count_cons, List.count_nil, List.set_cons_zero, List.set_cons_succ, List.setIfInBounds_toArray, List.cons_append, List.nil_append, List.append_assoc]; omega)))
  have hne : v.ownBlock ≠ some b := by
    intro e
    have hnd := H.nd
    rcases Row.own hr with ⟨h, _⟩ | ⟨g, o, h, rfl⟩
    · rw [h] at e; cases e
    · rw [h] at e
      injection e with e
      subst e
      simp at hnd
  rcases hp with rfl | rfl
  · exact .inl ⟨hx.1, v, hx.2, hw, hne⟩
  · exact .inr ⟨hx.1, v, hx.2, hw, hne⟩
theorem bldString (H : Has w0 w (L0 ++ L)) (hb : Bld b l L0) (k : ∀ w', Below w0.heap.size w0 w' → K (.string ⟨l.toArray⟩) w') : CallF P 44 [pt b] w K X := by
  refine CallF.ret (enters44 _ _) (Ret.ofCalls (Tryd.Builder_String_any w0.heap.size b l w (hb.is H) H.size)) ?_
  rintro _ w' ⟨rfl, h⟩
  have h0 := H.toBelow
  exact k w' ⟨h.os.trans h0.os, h.tape.trans h0.tape, h.output.trans h0.output, Nat.le_trans h0.size h.size, fun c hc => (h.block c hc).trans (h0.block c hc)⟩
theorem bldLen (H : Has w0 w (L0 ++ L)) (hb : Bld b l L0) (k : K (.int .i64 l.length) w) : CallF P 42 [pt b] w K X := by
  refine CallF.ret (enters42 _ _) (Ret.ofCalls (Tryd.Builder_Len w0.heap.size b (byteCells l) w (hb.is H))) ?_
  rintro _ w' ⟨rfl, rfl⟩
  have : (byteCells l).length = l.length := by simp [byteCells]
  rw [this]
  exact k
end
end Go.Proofs.YtdnnamaimgijpaaDoor
