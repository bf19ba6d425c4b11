/- Contracts: the reference's Dict and ReadDict over a dictionary. Conditions: none. -/
import Derived.Test.YtggdogncmkffpaaDoorA13
import Derived.Test.YtggdogncmkffpaaDoorSxMem3
set_option linter.unusedVariables false
set_option maxRecDepth 10000
namespace Go.Proofs.YtggdogncmkffpaaDoor
open Go Go.Sx Go.Proofs Go.Lib Go.RowKit

theorem BytesAt.ofRow {w0 w : World} {v : Value} {bs : List UInt8} {I L : List (Nat × Obj)} (hl : bs.length ≤ 4611686018427387904) (hr : Row 5 1 v bs.length (byteCells bs) I) (H : Has w0 w (I ++ L)) : BytesAt w v bs := by
  generalize hn : bs.length = n at hr
  generalize hx : byteCells bs = xs at hr
  cases hr with
  | nil => exact ⟨none, 0, by rw [hn], by omega, by omega, fun h => absurd h (by omega)⟩
  | @row b _ c _ sp e1 e2 e3 e4 =>
    subst hn hx
    refine ⟨some ⟨b, 0, none⟩, c, rfl, e3, hl, fun _ => ⟨b, _, _, rfl, H.get 0 rfl, fun j hj => ?_⟩⟩
    simp only [List.getElem?_toArray]
    rw [List.getElem?_append_left (by rw [byteCells_length]; exact hj)]
    exact byteCells_get _ j hj
theorem PairsAt.ofRow {w0 w : World} {v : Value} {ps : List Pr} {I L : List (Nat × Obj)} (hm : ps.length ≤ 1000000) (hr : Row 44 2 v ps.length (flatP ps) I) (H : Has w0 w (I ++ L)) : PairsAt w v ps := by
  generalize hn : ps.length = n at hr
  generalize hx : flatP ps = xs at hr
  cases hr with
  | nil => exact ⟨none, 0, by rw [hn], by omega, by omega, fun h => absurd h (by omega)⟩
  | @row b _ c _ sp e1 e2 e3 e4 =>
    subst hn hx
    refine ⟨some ⟨b, 0, none⟩, c, rfl, e3, hm, fun _ => ⟨b, _, _, rfl, H.get 0 rfl, fun j hj => ?_⟩⟩
    have := flatP_get ps j hj
    have hlt1 := (List.getElem?_eq_some_iff.1 this.1).1
    have hlt2 := (List.getElem?_eq_some_iff.1 this.2).1
    simp only [List.getElem?_toArray]
    rw [List.getElem?_append_left hlt1, List.getElem?_append_left hlt2]
    exact this
theorem run_build4 (w : World) : (Instr.buildSlice 24 4 #[(0, .int .u8 45), (1, .int .u8 45), (2, .int .u8 45), (3, .int .u8 10)]).run P w =
  .ok (.slice (some ⟨w.heap.size, 0, none⟩) 4 4) (w.alloc (.cells #[.int .u8 45, .int .u8 45, .int .u8 45, .int .u8 10] 5)) := by kernel_rfl
theorem run_build10 (w : World) : (Instr.buildSlice 24 1 #[(0, .int .u8 10)]).run P w = .ok (.slice (some ⟨w.heap.size, 0, none⟩) 1 1) (w.alloc (.cells #[.int .u8 10] 5)) := by kernel_rfl
theorem run_conv24 (w : World) (C : Array Value) (n c : Nat) : (convert 24 24 (.slice (some ⟨w.heap.size, 0, none⟩) n c)).run P (w.alloc (.cells C 5)) = .ok (.slice (some ⟨w.heap.size, 0, none⟩) n c) (w.alloc (.cells C 5 (C.size, C.size + 1))) :=
  run_convert_bytes_const w 24 5 C n c (by kernel_rfl) (by kernel_rfl)
def RowF (v : Value) (n : Nat) (xs : List Value) (J : List (Nat × Obj)) : Prop :=
  Row 5 1 v n xs J ∨ ∃ b fz, v = .slice (some ⟨b, 0, none⟩) n n ∧ xs.length = n ∧ J = [(b, .cells xs.toArray 5 fz)]
theorem Do.appendF {K : Value → World → Prop} {X : List PanicEntry → World → Prop} {w0 w : World} {L J : List (Nat × Obj)} {t2 : TypeId} {d2 : TypeDesc} [u2 : Und P t2 d2] (hd2 : d2 = .string ∨ ∃ e, d2 = .slice e)
    {v : Value} {n : Nat} {xs : List Value} (H : Has w0 w (J ++ L)) (hr : RowF v n xs J) {x : Value} {m : Nat} {ys : List Value} (hs : Src P w 1 x m ys) (hm : 0 < m) (hb : n + m ≤ 140737488355328)
    (k : ∀ v' I' w', Row 5 1 v' (n + m) (xs ++ ys) I' → Has w0 w' (I' ++ L) → K v' w') : Do P (Builtin.append_ #[24, t2] 24 #[v, x]) w K X := by
  rcases hr with hr | ⟨b, fz, rfl, hl, rfl⟩
  · exact Do.append hd2 H hr hs (by omega) (by omega) (fun v' I' w' h1 h2 _ => k v' I' w' h1 h2)
  · exact Do.appendFull hd2 H (H.get 0 rfl) (by omega) hs hm (by omega) (by omega) (fun v' I' w' h1 h2 => k v' I' w' h1 (h2.sub (List.Sublist.append_left (List.sublist_cons_self _ _) _)))
theorem BytesAt.ofRowF {w0 w : World} {v : Value} {bs : List UInt8} {J L : List (Nat × Obj)} (hl : bs.length ≤ 4611686018427387904) (hr : RowF v bs.length (byteCells bs) J) (H : Has w0 w (J ++ L)) : BytesAt w v bs := by
  rcases hr with hr | ⟨b, fz, rfl, hx, rfl⟩
  · exact BytesAt.ofRow hl hr H
  · exact ⟨_, _, rfl, Nat.le_refl _, hl, fun _ => ⟨b, _, _, rfl, H.get 0 rfl, fun j hj => (List.getElem?_toArray).trans (byteCells_get _ j hj)⟩⟩
theorem dictBytes_len {ps : List Pr} {i : Nat} (hi : i ≤ ps.length) (h2 : ps.length ≤ 256) (h : okTo ps ps.length) : (dictBytes (ps.take i)).length ≤ 1100000 := by
  have := dict_len i hi (fun j hj hji => h j hj hj)
  omega
theorem refdict_ret (v : Value) (ps : List Pr) (w : World) (hv : PairsAt w v ps) (hs : sizeOk ps) (hd : dictOk ps) :
    Ret P 20 #[v] w (fun r w' => ∃ u, r = .tuple #[u, .int .i64 0] ∧ BytesAt w' u (dictBytes ps) ∧ Below w.heap.size w w') := by
  obtain ⟨x, c, rfl, hc, hm, hp⟩ := hv
  obtain ⟨hn, hok⟩ := hd
  refine f20.calls ?_
  unfold f20.f
  refine Do.ok run_lenS (Do.dec run_gtr (fun h => by omega) (fun _ => If.f ?_))
  refine Do.ok (run_build4 w) (Do.ok (run_conv24 w _ _ _) (Do.ok run_lenS ?_))
  have H0 := (Has.init w).alloc (.cells #[.int .u8 45, .int .u8 45, .int .u8 45, .int .u8 10] 5 (4, 5))
  have hr0 : RowF (.slice (some ⟨w.heap.size, 0, none⟩) 4 4) 4 (byteCells first4) [(w.heap.size, .cells #[.int .u8 45, .int .u8 45, .int .u8 45, .int .u8 10] 5 (4, 5))] :=
    .inr ⟨_, _, rfl, rfl, rfl⟩
  refine ⟨fun k x4 x16 w' => ∃ (i : Nat) (I : List (Nat × Obj)), k + i = ps.length ∧ x16 = .int .i64 i ∧ RowF x4 (dictBytes (ps.take i)).length (byteCells (dictBytes (ps.take i))) I ∧ Has w w' (I ++ []),
    ⟨ps.length, 0, _, by simp, rfl, by simpa [dictBytes, first4] using hr0, H0⟩, ?_⟩
  rintro k σ w2 ⟨i, I, hk, hx, hr, H⟩
  rw [hx]
  generalize σ 4 = x4 at hr
  unfold f20.l0
  refine Do.dec run_lss (fun hlt => If.t ?_) (fun hge => If.f ?_)
  · have hi : i < ps.length := by omega
    obtain ⟨b, cs, fz, rfl, hb, hcs⟩ := hp (by omega)
    obtain ⟨h0, h1⟩ := hcs i hi
    obtain ⟨he, hsz⟩ := extract2 h0 h1
    have hsi := hs ps[i] (List.getElem_mem _)
    obtain ⟨hkr, hkh, hkp⟩ := hok i hi hi
    refine Do.ok (run_idx (by omega) (by omega)) ?_
    have ei : 0 + (i : Int).toNat * 2 = 2 * i := by omega
    rw [ei]
    refine Do.ok (run_loadBaseN H hb hsz) ?_
    rw [he]
    refine Do.alloc H ?_
    intro b6 w3 H3
    refine DoU.stN H3 0 rfl rfl (by simp) (by simp [Value.cells]) (fun j _ => by simp [open_]) ?_
    intro w4 H4
    have H4 : Has w w4 ((b6, .cells #[.string ps[i].1, .string ps[i].2] 44 (0, 0)) :: (I ++ [])) := H4
    refine Do.ok run_fld (Do.ld H4 0 (v := .string ps[i].1) rfl rfl ?_)
    refine CallF.ret (f28.enters _ _) (refkey_ret ps[i].1 _ (by omega)) ?_
    rintro _ w5 ⟨rfl, hb5⟩
    have H5 := H4.below hb5
    rw [hkr]
    refine Do.ok run_notT (If.f ?_)
    refine Do.ok (run_slice (b := i) (a := 0) (.inr ⟨rfl, rfl⟩) (.inl rfl) (by omega) (by omega)) ?_
    have ex : (if c = 0 then (some ⟨b, 0, none⟩ : Option Addr) else (some (⟨b, 0, none⟩ : Addr)).map (·.add (0 * 2))) = some ⟨b, 0, none⟩ := by
      split <;> simp [add_blk]
    rw [ex, Nat.sub_zero, Nat.sub_zero]
    refine Do.ok run_lenS ?_
    refine ⟨fun k1 x29 w' => ∃ q : Nat, k1 + q = i ∧ x29 = .int .i64 q ∧ Has w w' ((b6, .cells #[.string ps[i].1, .string ps[i].2] 44 (0, 0)) :: (I ++ [])), ⟨i, 0, by omega, rfl, H5⟩, ?_⟩
    rintro k1 σ1 w6 ⟨q, hq, hx9, H6⟩
    rw [hx9]
    unfold f20.l1
    refine Do.dec run_lss (fun hlt1 => If.t ?_) (fun hge1 => If.f ?_)
    · have hqi : q < ps.length := by omega
      obtain ⟨g0, g1⟩ := hcs q hqi
      obtain ⟨ge, gsz⟩ := extract2 g0 g1
      refine Do.ok (run_idx (by omega) (by omega)) ?_
      rw [show 0 + (q : Int).toNat * 2 = 2 * q by omega]
      refine Do.ok (run_loadBaseN H6 hb gsz) ?_
      rw [ge]
      refine Do.alloc H6 ?_
      intro b8 w7 H7
      refine DoU.stN H7 0 rfl rfl (by simp) (by simp [Value.cells]) (fun j _ => by simp [open_]) ?_
      intro w8 H8
      refine Do.ok run_fld (Do.ld H8 0 (v := .string ps[q].1) rfl rfl ?_)
      refine Do.ok run_fld (Do.ld H8 1 (v := .string ps[i].1) rfl rfl ?_)
      refine Do.dec run_eqs (fun h => absurd h ?_) (fun _ => If.f ?_)
      · rw [hasB, List.any_eq_false] at hkh
        have := hkh ps[q] (List.mem_take_iff_getElem.2 ⟨q, by omega, rfl⟩)
        simpa using this
      · exact Do.ok (run_addi (a := (q : Int)) (b := 1) (by omega)) (show ∃ k', k' < k1 ∧ _ from ⟨k1 - 1, by omega, q + 1, by omega, rfl, H8.tail⟩)
    · refine Do.ok run_fld (Do.ld H6 0 (v := .string ps[i].2) rfl rfl ?_)
      refine CallF.ret (f29.enters _ _) (refplain_ret ps[i].2 _ (by omega)) ?_
      rintro _ w7 ⟨rfl, hb7⟩
      have H7 := H6.below hb7
      rw [hkp]
      refine Do.ok run_notT (If.f ?_)
      refine Do.ok run_fld (Do.ld H7 0 (v := .string ps[i].1) rfl rfl ?_)
      have hlr := rightB_len hkr
      have hlp := plainB_len hkp
      have hdl := dictBytes_len (i := i) (by omega) hn hok
      have hz1 : ps[i].1.data.toList.length = ps[i].1.size := by simp
      have hz2 : ps[i].2.data.toList.length = ps[i].2.size := by simp
      have hz3 : (⟨#[58, 32]⟩ : ByteArray).size = 2 := rfl
      have G7 := H7.perm (L' := I ++ [(b6, .cells #[.string ps[i].1, .string ps[i].2] 44 (0, 0))]) (by classical exact List.perm_iff_count.2 (fun a => by simp only [List.count_append, List.count_cons, List.count_nil, List.set_cons_zero, List.set_cons_succ, List.setIfInBounds_toArray, List.cons_append, List.nil_append, List.append_assoc]; omega))
      have hk0 : 0 < ps[i].1.size := by
        rcases Nat.eq_zero_or_pos ps[i].1.size with h | h
        · have : ps[i].1.data.toList = [] := List.eq_nil_of_length_eq_zero (by omega)
          rw [this] at hkr; cases hkr
        · exact h
      refine Do.appendF (.inl rfl) G7 hr Src.str hk0 (by omega) ?_
      intro v1 I1 w8 hr1 G8
      refine Do.append (.inl rfl) G8 hr1 Src.str (by omega) (by omega) ?_
      intro v2 I2 w9 hr2 G9 _
      have H9 := G9.perm (L' := (b6, .cells #[.string ps[i].1, .string ps[i].2] 44 (0, 0)) :: (I2 ++ [])) (by classical exact List.perm_iff_count.2 (fun a => by simp only [List.count_append, List.count_cons, List.count_nil, List.set_cons_zero, List.set_cons_succ, List.setIfInBounds_toArray, List.cons_append, List.nil_append, List.append_assoc]; omega))
      refine Do.ok run_fld (Do.ld H9 0 (v := .string ps[i].2) rfl rfl ?_)
      refine Do.append (.inl rfl) G9 hr2 Src.str (by omega) (by omega) ?_
      intro v3 I3 w10 hr3 G10 _
      refine Do.ok (run_build10 _) ?_
      have H11 := G10.alloc (.cells #[.int .u8 10] 5)
      generalize w10.heap.size = b10 at H11 ⊢
      have G11 := H11.perm (L' := I3 ++ [(b10, .cells #[.int .u8 10] 5), (b6, .cells #[.string ps[i].1, .string ps[i].2] 44 (0, 0))]) (by classical exact List.perm_iff_count.2 (fun a => by simp only [List.count_append, List.count_cons, List.count_nil, List.set_cons_zero, List.set_cons_succ, List.setIfInBounds_toArray, List.cons_append, List.nil_append, List.append_assoc]; omega))
      refine Do.append (.inr ⟨_, rfl⟩) G11 hr3 (Src.blk (ys := [.int .u8 10]) (m := 1) (o := 0) (H11.get 0 rfl) rfl (by intro j y hj; cases j <;> simp_all) (by simp [Value.oneCell'])) (by omega) (by omega) ?_
      intro v4 I4 w12 hr4 G12 _
      refine Do.ok (run_addi (a := (i : Int)) (b := 1) (by omega)) (show ∃ k', k' < k ∧ _ from ⟨k - 1, by omega, i + 1, I4, by omega, rfl, ?_, G12.sub (List.Sublist.append_left (List.nil_sublist _) _)⟩)
      have e1 : dictBytes (ps.take (i + 1)) = dictBytes (ps.take i) ++ ps[i].1.data.toList ++ [58, 32] ++ ps[i].2.data.toList ++ [10] := by
        rw [lines_take hi]; simp [lineOf]
      have e2 : byteCells (dictBytes (ps.take (i + 1))) = byteCells (dictBytes (ps.take i)) ++ strCells ps[i].1 ++ strCells ⟨#[58, 32]⟩ ++ strCells ps[i].2 ++ [.int .u8 10] := by
        rw [e1, byteCells_append, byteCells_append, byteCells_append, byteCells_append]; rfl
      have e3 : (dictBytes (ps.take (i + 1))).length = (dictBytes (ps.take i)).length + ps[i].1.size + (⟨#[58, 32]⟩ : ByteArray).size + ps[i].2.size + 1 := by
        rw [e1]; simp only [List.length_append, hz1, hz2]; rfl
      rw [e2, e3]
      exact .inl hr4
  · have hi : i = ps.length := by omega
    subst hi
    rw [List.take_length] at hr
    have hdl := dictBytes_len (i := ps.length) (by omega) hn hok
    rw [List.take_length] at hdl
    exact ⟨_, rfl, BytesAt.ofRowF (by omega) hr H, H.toBelow⟩
end Go.Proofs.YtggdogncmkffpaaDoor
