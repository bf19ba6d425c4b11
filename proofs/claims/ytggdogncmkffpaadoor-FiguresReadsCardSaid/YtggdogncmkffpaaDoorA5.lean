/- Contracts: digits.Print, told, and what its two closures do. Conditions: none. -/
import Derived.Test.YtggdogncmkffpaaDoorA1
import Derived.Test.YtggdogncmkffpaaDoorA4
set_option linter.unusedVariables false
set_option maxRecDepth 10000
namespace Go.Proofs.YtggdogncmkffpaaDoor
open Go Go.Sx Go.Proofs Go.Lib Go.RowKit

/-- A number's text. -/
def dec (n : Int) : ByteArray := if n < 0 then ⟨#[]⟩ else ⟨(itoa n).toArray⟩
def Tab (w : World) : Prop := TabIs Tryd.prog w "internal/strconv.uint64pow10" .u64 pow10Tab
theorem Tab.below {w w' : World} (h : Tab w) (hb : Below w.heap.size w w') : Tab w' := by
  unfold Tab TabIs World.var? at *
  cases hg : Tryd.prog.globalNamed "internal/strconv.uint64pow10" with
  | none => rw [hg] at h; simp at h
  | some g =>
    rw [hg] at h
    simp only [Option.bind_some] at h ⊢
    rcases Nat.lt_or_ge g w.heap.size with hl | hl
    · rw [hb.block g hl]; exact h
    · rw [Array.getElem?_eq_none hl] at h; simp at h
theorem Tab.has {w0 w : World} {L : List (Nat × Obj)} (h : Tab w0) (H : Has w0 w L) : Tab w := h.below H.toBelow
def i64 (n : Int) : Prop := -9223372036854775808 ≤ n ∧ n ≤ 9223372036854775807
theorem grow_below (w : World) (k : Nat) (os : Array Obj) : Below w.heap.size w (Sort.grow (w.drewN k) os) := by
  refine ⟨rfl, rfl, rfl, ?_, fun b hb => ?_⟩
  · simp [Sort.grow]
  · show (w.heap ++ os)[b]? = w.heap[b]?
    rw [Array.getElem?_append_left hb]
theorem print_ret (n : Int) (hn : i64 n) (w : World) (ht : Tab w) : Ret P 25 #[.int .i64 n] w (fun v w' => v = .string (dec n) ∧ Below w.heap.size w w') := by
  refine f25.calls ?_
  unfold f25.f
  refine Do.dec run_lss (fun h => If.t ?_) (fun h => If.f ?_)
  · exact ⟨by rw [dec, if_pos h], Below.refl _ _⟩
  · refine CallF.ret (enters30 _ _) (Ret.ofCalls (Tryd.strconv_Itoa n hn.1 hn.2 w ht)) ?_
    rintro _ w' ⟨rfl, k, os, rfl⟩
    exact ⟨by rw [dec, if_neg h], grow_below w k os⟩

def flatP (ps : List Pr) : List Value := (ps.map pairCells).flatten
theorem flatP_snoc (ps : List Pr) (p : Pr) : flatP (ps ++ [p]) = flatP ps ++ pairCells p := by simp [flatP]
theorem flatP_get (ps : List Pr) (j : Nat) (h : j < ps.length) : (flatP ps)[2 * j]? = some (.string ps[j].1) ∧ (flatP ps)[2 * j + 1]? = some (.string ps[j].2) := by
  induction ps generalizing j with
  | nil => simp at h
  | cons p ps ih =>
    cases j with
    | zero => simp [flatP, pairCells]
    | succ j =>
      have := ih j (by simpa using h)
      have e1 : 2 * (j + 1) = 2 * j + 1 + 1 := by omega
      have e2 : 2 * (j + 1) + 1 = (2 * j + 1) + 1 + 1 := by omega
      simp only [flatP, List.map_cons, List.flatten_cons, pairCells, List.cons_append, List.nil_append, e1, List.getElem?_cons_succ, List.getElem_cons_succ]
      exact this
abbrev textV (b3 : Nat) : Value := .func (.func 23) #[] #[.pointer (some ⟨b3, 0, none⟩)]
abbrev numV (b4 : Nat) : Value := .func (.func 24) #[] #[.pointer (some ⟨b4, 0, none⟩)]
/-- What told has laid down so far. -/
def St (w0 w : World) (b3 b4 : Nat) (ps : List Pr) (L : List (Nat × Obj)) : Prop :=
  ∃ v I, Row 44 2 v ps.length (flatP ps) I ∧ Has w0 w ((b3, .cells #[v] 38 (0, 0)) :: (I ++ ((b4, .cells #[textV b3] 49 (0, 0)) :: L)))
theorem St.all {w0 w : World} {b3 b4 : Nat} {ps : List Pr} {L : List (Nat × Obj)} (h : St w0 w b3 b4 ps L) : Has w0 w L := by
  obtain ⟨v, I, _, H⟩ := h
  exact H.sub ((List.Sublist.trans (List.sublist_cons_self _ _) (List.sublist_append_right I _)).cons _)
theorem St.push {w0 w : World} {b3 b4 : Nat} {ps : List Pr} {L : List (Nat × Obj)} (h : St w0 w b3 b4 ps L) (o : Obj) : St w0 (w.alloc o) b3 b4 ps ((w.heap.size, o) :: L) := by
  obtain ⟨v, I, hr, H⟩ := h
  exact ⟨v, I, hr, (H.alloc o).perm (by classical exact List.perm_iff_count.2 (fun a => by simp only [List.count_append, List.count_cons, List.count_nil, List.set_cons_zero, List.set_cons_succ, List.setIfInBounds_toArray, List.cons_append, List.nil_append, List.append_assoc]; omega))⟩
theorem St.pop {w0 w : World} {b3 b4 : Nat} {ps : List Pr} {p : Nat × Obj} {L : List (Nat × Obj)} (h : St w0 w b3 b4 ps (p :: L)) : St w0 w b3 b4 ps L := by
  obtain ⟨v, I, hr, H⟩ := h
  exact ⟨v, I, hr, H.sub ((List.Sublist.append_left ((List.sublist_cons_self _ _).cons_cons _) I).cons_cons _)⟩
theorem St.has {w0 w : World} {b3 b4 : Nat} {ps : List Pr} {L : List (Nat × Obj)} (h : St w0 w b3 b4 ps L) : ∃ L, Has w0 w L := by obtain ⟨v, I, _, H⟩ := h; exact ⟨_, H⟩
theorem St.below {w0 w w' : World} {b3 b4 : Nat} {ps : List Pr} {L : List (Nat × Obj)} (h : St w0 w b3 b4 ps L) (hb : Below w.heap.size w w') : St w0 w' b3 b4 ps L := by
  obtain ⟨v, I, hr, H⟩ := h; exact ⟨v, I, hr, H.below hb⟩
theorem St.drew {w0 w : World} {b3 b4 : Nat} {ps : List Pr} {L : List (Nat × Obj)} (h : St w0 w b3 b4 ps L) : St w0 (drewW w) b3 b4 ps L := by
  obtain ⟨v, I, hr, H⟩ := h; exact ⟨v, I, hr, H.drew⟩
theorem St.var {w0 w : World} {b3 b4 : Nat} {ps : List Pr} {L : List (Nat × Obj)} (h : St w0 w b3 b4 ps L) : w.heap[b4]? = some (.cells #[textV b3] 49 (0, 0)) := by
  obtain ⟨v, I, _, H⟩ := h
  exact (H.own (b4, .cells #[textV b3] 49 (0, 0)) (by simp)).2
section
variable {K : Value → World → Prop} {X : List PanicEntry → World → Prop} {w0 w : World} {b3 b4 : Nat} {ps : List Pr} {L : List (Nat × Obj)}
theorem textK (hs : St w0 w b3 b4 ps L) (hn : ps.length ≤ 500) {k s : ByteArray} (h : ∀ v w', St w0 w' b3 b4 (ps ++ [(k, s)]) L → K v w') : CallV P (textV b3) [.string k, .string s] w K X := by
  obtain ⟨v, I, hr, H⟩ := hs
  show CallF P 23 [.string k, .string s, .pointer (some ⟨b3, 0, none⟩)] w K X
  refine CallF.ret (f23.enters _ _) (text_ret H hr (by omega) k s) ?_
  rintro _ w' ⟨v', I', hr', H'⟩
  refine h _ _ ⟨v', I', ?_, H'⟩
  rw [flatP_snoc, List.length_append]
  exact hr'
theorem numK (ht : Tab w0) (hs : St w0 w b3 b4 ps L) (hn : ps.length ≤ 500) {k : ByteArray} {n : Int} (hi : i64 n) (h : ∀ v w', St w0 w' b3 b4 (ps ++ [(k, dec n)]) L → K v w') : CallV P (numV b4) [.string k, .int .i64 n] w K X := by
  show CallF P 24 [.string k, .int .i64 n, .pointer (some ⟨b4, 0, none⟩)] w K X
  refine CallF.gen (f24.enters _ _) (f24.calls ?_)
  unfold f24.f
  refine ⟨fun w' => w'.heap[b4]? = some (.cells #[textV b3] 49 (0, 0)), hs.drew.var, ?_⟩
  dsimp only
  have hs1 := hs.drew
  refine Take.ok (v := textV b3) (fun w' hS => run_load1 ((cell_of_blk hS _).trans rfl)) ?_
  obtain ⟨L, H⟩ := hs1.has
  refine CallF.ret (f25.enters _ _) (print_ret n hi _ (ht.has H)) ?_
  rintro _ w1 ⟨rfl, hb⟩
  have hs2 := hs1.below hb
  refine ⟨hs2.var, textK hs2 hn ?_⟩
  intro v w' hs3
  exact ⟨hs3.var, h _ _ hs3⟩
end

/-! ### told -/
/-- The closure with which told is called lays these pairs down. -/
def Lays (w0 : World) (g : FuncId) (caps : Array Value) (ps : List Pr) : Prop :=
  ∀ w b3 b4, St w0 w b3 b4 [] [] → Ret P g (#[textV b3, numV b4] ++ caps) w (fun _ w' => St w0 w' b3 b4 ps [])
theorem told_ret {w : World} {g : FuncId} {caps : List Value} {ps : List Pr} (he : ∀ args w, (callFunc g args).run P w = .ok (.enter g args) w) (hl : Lays w g caps.toArray ps) (hs : sizeOk ps) (hn : ps.length ≤ 500) :
    Ret P 11 #[.func (.func g) #[] caps.toArray] w (fun u w' => ∃ e, DictPost w ps (.tuple #[u, .int .i64 e]) w') := by
  refine f11.calls ?_
  unfold f11.f
  refine Do.alloc (Has.init w) ?_
  intro b3 w1 H1
  refine Do.alloc H1 ?_
  intro b4 w2 H2
  refine DoU.st H2 0 rfl rfl (by simp) (by simp [Value.cells]) (by simp [open_]) ?_
  intro w3 H3
  have H3 : Has w w3 ((b4, .cells #[textV b3] 49 (0, 0)) :: (b3, .cells #[.slice none 0 0] 38 (0, 0)) :: []) := H3
  refine Do.ld H3 0 (v := textV b3) rfl rfl ?_
  have hst : St w w3 b3 b4 [] [] := ⟨_, [], .nil, H3.snd⟩
  show CallF P g ([] ++ ([textV b3, numV b4] ++ caps)) w3 _ _
  refine CallF.ret (he _ _) (R := fun _ w' => St w w' b3 b4 ps []) ?_ ?_
  · have := hl w3 b3 b4 hst
    simpa using this
  rintro _ w4 hst4
  obtain ⟨v, I, hr, H⟩ := hst4
  refine Do.ld H 0 (v := v) rfl rfl ?_
  have hv : PairsAt w4 v ps := by
    have hr' := hr
    generalize hm : flatP ps = xs at hr'
    generalize hn' : ps.length = n at hr'
    cases hr' with
    | nil => exact ⟨none, 0, by rw [hn'], by omega, by omega, fun h => absurd h (by omega)⟩
    | @row b _ c xs sp h1 h2 h3 h4 =>
      subst hn'
      refine ⟨some ⟨b, 0, none⟩, c, rfl, h3, by omega, fun _ => ⟨b, _, _, rfl, (H.own (b, .cells (xs ++ sp).toArray 44 (0, 0)) (by simp)).2, fun j hj => ?_⟩⟩
      subst hm
      have := flatP_get ps j hj
      have hlt1 := (List.getElem?_eq_some_iff.1 this.1).1
      have hlt2 := (List.getElem?_eq_some_iff.1 this.2).1
      simp only [List.getElem?_toArray]
      rw [List.getElem?_append_left hlt1, List.getElem?_append_left hlt2]
      exact this
  refine CallF.ret (f26.enters _ _) (dict_ret v ps w4 hv hs) ?_
  rintro _ w5 ⟨u, e, rfl, hb, hpost⟩
  refine Do.ok (run_ext rfl) (Do.ok (run_ext rfl) ?_)
  have H5 := H.below hb
  refine ⟨e, u, e, rfl, H5.toBelow, ?_⟩
  rcases hpost with ⟨h1, h2⟩ | h
  · refine .inl ⟨h1, h2.1, ?_⟩
    rcases h2.2 with h | ⟨g, cap, cur, h1, h2, h3⟩
    · exact .inl h
    · exact .inr ⟨g, cap, cur, h1, Nat.le_trans H.size h2, h3⟩
  · exact .inr h
end Go.Proofs.YtggdogncmkffpaaDoor
