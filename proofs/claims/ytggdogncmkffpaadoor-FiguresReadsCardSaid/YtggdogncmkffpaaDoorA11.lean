/- Contracts: what figures.Job, figures.Tube and figures.Shop answer. Conditions: none. -/
import Derived.Test.YtggdogncmkffpaaDoorA10
import Derived.Lib.ItoaLen
set_option linter.unusedVariables false
set_option maxRecDepth 100000
namespace Go.Proofs.YtggdogncmkffpaaDoor
open Go Go.Sx Go.Proofs Go.Lib Go.RowKit

theorem dec_size {n : Int} (h : i64 n) : (dec n).size ≤ 9223372036854775807 := by
  unfold dec
  split
  · decide
  · have := itoa_length_le n h.1 h.2
    show (itoa n).toArray.size ≤ _
    simp
    omega
theorem stateV_size (n : Int) : (stateV n).size ≤ 9223372036854775807 := by
  unfold stateV
  repeat' split
  all_goals decide
theorem forms26_small : forms26.all (fun p => decide (p.1.size ≤ 100)) = true := by kernel_rfl
theorem verbOf_size (k : Nat) : (verbOf k).size ≤ 100 := by
  unfold verbOf
  cases h : forms26[k]? with
  | none => decide
  | some p =>
    have := List.all_eq_true.1 forms26_small p (List.mem_of_getElem? h)
    simpa using this
theorem cmdKey_size (k : Nat) : (cmdKey k).size ≤ 9223372036854775807 := by
  have := verbOf_size k
  rw [cmdKey, ByteArray.size_append]
  have e : (⟨#[99, 109, 100, 45]⟩ : ByteArray).size = 4 := rfl
  omega
theorem sizeOk_nil : sizeOk [] := fun _ h => by simp at h
theorem sizeOk_cons {k v : ByteArray} {ps : List Pr} (h1 : k.size ≤ 9223372036854775807) (h2 : v.size ≤ 9223372036854775807) (h : sizeOk ps) : sizeOk ((k, v) :: ps) := fun q hq => by
  rcases List.mem_cons.1 hq with rfl | hq
  · exact ⟨h1, h2⟩
  · exact h q hq
theorem sizeOk_append {ps qs : List Pr} (h1 : sizeOk ps) (h2 : sizeOk qs) : sizeOk (ps ++ qs) := fun q hq => (List.mem_append.1 hq).elim (h1 q) (h2 q)
theorem sumsPairs_size {s : SumsD} (h : s.ok) : sizeOk (sumsPairs s) := by
  obtain ⟨h0, h1, h2, h3, h4⟩ := h
  unfold sumsPairs
  repeat (refine sizeOk_cons (by decide) (dec_size (by assumption)) ?_)
  exact sizeOk_nil
theorem jobPairs_size {j : JobD} (hj : j.ok) {file now : Int} (hf : i64 file) (hw : i64 now) : sizeOk (jobPairs j file now) := by
  obtain ⟨h0, h1, h2, h3, h4, h5, h6, h7, h8, h9, h10, h11, h12, h13, htube⟩ := hj
  have hjl := jobLeft_i64 j now
  have hle := lessV_i64 now j.born
  unfold jobPairs
  repeat (refine sizeOk_cons (by decide) (by first | exact dec_size (by assumption) | exact stateV_size _ | exact htube) ?_)
  exact sizeOk_nil
theorem tubePairs_size {t : TubeD} (hj : t.ok) {now : Int} (hw : i64 now) : sizeOk (tubePairs t now) := by
  obtain ⟨hn, hsum, h0, h1, h2, h3, h4, h5, h6, h7⟩ := hj
  have hjl := tubeLeft_i64 t now
  unfold tubePairs
  refine sizeOk_append (sizeOk_append (sizeOk_cons (by decide) hn sizeOk_nil) (sumsPairs_size hsum)) ?_
  repeat (refine sizeOk_cons (by decide) (dec_size (by assumption)) ?_)
  exact sizeOk_nil
theorem shopPairs_size {s : ShopD} (hj : s.ok) : sizeOk (shopPairs s) := by
  obtain ⟨h0, h1, h2, h3, h4, h5, h6, h7, h8, h9, h10, h11, h12, h13, h14, h15, h16, hsum, hd⟩ := hj
  have hle := lessV_i64 s.now s.start
  rw [shopPairs_eq]
  have hc : sizeOk (cmdPairs s 24) := fun p hp => by
    obtain ⟨k, _, rfl⟩ := List.mem_map.1 hp
    exact ⟨cmdKey_size _, dec_size (hd _)⟩
  have hl : sizeOk [lastPair s] := by
    unfold lastPair
    split <;> exact sizeOk_cons (by decide) (by decide) sizeOk_nil
  refine sizeOk_append ?_ hl
  repeat (refine sizeOk_append ?_ (sizeOk_cons (by decide) (dec_size (by assumption)) sizeOk_nil))
  exact sizeOk_append (sizeOk_append sizeOk_nil (sumsPairs_size hsum)) hc
theorem DictPost.over {w0 w w' : World} {L : List (Nat × Obj)} {ps : List Pr} {u : Value} (H : Has w0 w L) (h : ∃ e, DictPost w ps (.tuple #[u, .int .i64 e]) w') : 
    Below w0.heap.size w0 w' ∧ ((dictOk ps ∧ w'.ownsRow w0.heap.size 5 1 u (dictBytes ps).length (byteCells (dictBytes ps))) ∨ (¬ dictOk ps ∧ u = .slice none 0 0)) := by
  obtain ⟨e, u', e', he, hb, hpost⟩ := h
  have : u' = u := by
    have := congrArg (fun v => match v with | Value.tuple a => a[0]? | _ => none) he
    simpa using this.symm
  subst this
  refine ⟨(H.below hb).toBelow, ?_⟩
  rcases hpost with ⟨h1, h2⟩ | h
  · refine .inl ⟨h1, h2.1, ?_⟩
    rcases h2.2 with h | ⟨g, cap, cur, h1, h2, h3⟩
    · exact .inl h
    · exact .inr ⟨g, cap, cur, h1, Nat.le_trans H.size h2, h3⟩
  · exact .inr h
/-- What a figure answers: a dictionary of its own, or nothing. -/
def Told (ps : List Pr) (w0 : World) (u : Value) (w' : World) : Prop :=
  Below w0.heap.size w0 w' ∧ ((dictOk ps ∧ w'.ownsRow w0.heap.size 5 1 u (dictBytes ps).length (byteCells (dictBytes ps))) ∨ (¬ dictOk ps ∧ u = .slice none 0 0))
theorem job_fn {w : World} (ht : Tab w) {j : JobD} (hj : j.ok) {file now : Int} (hf : i64 file) (hw : i64 now) :
    Ret P 5 #[.agg j.cells, .int .i64 file, .int .i64 now] w (Told (jobPairs j file now) w) := by
  refine f5.calls ?_
  unfold f5.f
  refine Do.box (Has.init w) ?_
  intro bj w1 H1
  refine Do.box H1 ?_
  intro bf w2 H2
  refine Do.box H2 ?_
  intro bn w3 H3
  refine CallF.ret (f11.enters _ _) (told_ret (f12.enters) (job_lays (ht.has H3) hj hf hw (H3.get 2 rfl) (H3.get 0 rfl) (H3.get 1 rfl)) (jobPairs_size hj hf hw) (by simp [jobPairs])) ?_
  intro u w' h
  exact DictPost.over H3 h
theorem tube_fn {w : World} (ht : Tab w) {t : TubeD} (hj : t.ok) {now : Int} (hw : i64 now) :
    Ret P 6 #[.agg t.cells, .int .i64 now] w (Told (tubePairs t now) w) := by
  refine f6.calls ?_
  unfold f6.f
  refine Do.box (Has.init w) ?_
  intro bj w1 H1
  refine Do.box H1 ?_
  intro bn w3 H3
  refine CallF.ret (f11.enters _ _) (told_ret (f15.enters) (tube_lays (ht.has H3) hj hw (H3.get 1 rfl) (H3.get 0 rfl)) (tubePairs_size hj hw) (by simp [tubePairs, sumsPairs])) ?_
  intro u w' h
  exact DictPost.over H3 h
theorem shop_fn {w : World} (ht : Tab w) {s : ShopD} (hj : s.ok) : Ret P 7 #[.agg s.cells] w (Told (shopPairs s) w) := by
  refine f7.calls ?_
  unfold f7.f
  refine Do.box (Has.init w) ?_
  intro bj w3 H3
  refine CallF.ret (f11.enters _ _) (told_ret (f17.enters) (shop_lays (ht.has H3) hj (H3.get 0 rfl)) (shopPairs_size hj) (by simp [shopPairs, sumsPairs, cmdPairs])) ?_
  intro u w' h
  exact DictPost.over H3 h
end Go.Proofs.YtggdogncmkffpaaDoor
