/- Contract: the reference's ReadDict over a dictionary. Conditions: none. -/
import Derived.Test.YtggdogncmkffpaaDoorA14
set_option linter.unusedVariables false
set_option maxRecDepth 10000
namespace Go.Proofs.YtggdogncmkffpaaDoor
open Go Go.Sx Go.Proofs Go.Lib Go.RowKit

def lineStr (p : Pr) : ByteArray := ⟨(p.1.data.toList ++ [58, 32] ++ p.2.data.toList).toArray⟩
theorem lineStr_list (p : Pr) : (lineStr p).data.toList = p.1.data.toList ++ [58, 32] ++ p.2.data.toList := by simp [lineStr]
theorem lineStr_size (p : Pr) : (lineStr p).size = p.1.size + 2 + p.2.size := by
  have : (lineStr p).data.toList.length = (lineStr p).size := by simp
  rw [← this, lineStr_list]
  simp
  omega
theorem dict_flatN (ps : List Pr) : dictBytes ps = flatN ((⟨#[45, 45, 45]⟩ : ByteArray) :: ps.map lineStr) := by
  have h : ∀ ps : List Pr, (ps.map lineOf).flatten = flatN (ps.map lineStr) := by
    intro ps
    induction ps with
    | nil => rfl
    | cons p ps ih =>
      rw [List.map_cons, List.flatten_cons, ih]
      simp only [flatN, List.map_cons, List.flatten_cons, lineStr_list, lineOf]
  rw [dictBytes, h]
  rfl
theorem keyByte_all {l : List UInt8} (h : rightB l = true) : ∀ c ∈ l, keyByte c = true := by
  simp only [rightB, Bool.and_eq_true, List.all_eq_true] at h; exact h.1.1
theorem plainByte_all {l : List UInt8} (h : plainB l = true) : ∀ c ∈ l, plainByte c = true := by
  simp only [plainB, Bool.and_eq_true, List.all_eq_true] at h; exact h.1.1
theorem line_no10 {p : Pr} (h1 : rightB p.1.data.toList = true) (h2 : plainB p.2.data.toList = true) : (10 : UInt8) ∉ (lineStr p).data.toList := by
  rw [lineStr_list]
  intro hm
  simp only [List.mem_append, List.mem_cons, List.not_mem_nil, or_false] at hm
  rcases hm with (hm | hm | hm) | hm
  · have := keyByte_all h1 _ hm; revert this; decide
  · revert hm; decide
  · revert hm; decide
  · have := plainByte_all h2 _ hm; revert this; decide
theorem dictOk.at {ps : List Pr} (h : dictOk ps) {p : Pr} (hp : p ∈ ps) : rightB p.1.data.toList = true ∧ plainB p.2.data.toList = true := by
  obtain ⟨j, hj, rfl⟩ := List.getElem_of_mem hp
  exact ⟨(h.2 j hj hj).1, (h.2 j hj hj).2.2⟩
theorem dictOk.size {ps : List Pr} (h : dictOk ps) : sizeOk ps := fun p hp => by
  have := h.at hp
  have h1 := rightB_len this.1
  have h2 := plainB_len this.2
  have hz1 : p.1.data.toList.length = p.1.size := by simp
  have hz2 : p.2.data.toList.length = p.2.size := by simp
  omega
theorem extract_key (p : Pr) : (lineStr p).extract 0 p.1.size = p.1 := by
  apply ByteArray.ext
  apply Array.ext'
  rw [ByteArray.data_extract, Array.toList_extract, lineStr_list]
  have hz1 : p.1.data.toList.length = p.1.size := by simp
  rw [List.extract_eq_take_drop, List.drop_zero, Nat.sub_zero, List.append_assoc, ← hz1, List.take_left]
theorem extract_val (p : Pr) : (lineStr p).extract (p.1.size + 2) (lineStr p).size = p.2 := by
  apply ByteArray.ext
  apply Array.ext'
  rw [ByteArray.data_extract, Array.toList_extract, lineStr_list, lineStr_size]
  have hz1 : p.1.data.toList.length = p.1.size := by simp
  have hz2 : p.2.data.toList.length = p.2.size := by simp
  have e : p.1.size + 2 = (p.1.data.toList ++ [58, 32]).length := by simp
  rw [List.extract_eq_take_drop, e, List.drop_left, Nat.add_sub_cancel_left, ← hz2, List.take_length]
theorem read_ret (v : Value) (ps : List Pr) (w : World) (hd : dictOk ps) (hv : BytesAt w v (dictBytes ps)) :
    Ret P 8 #[v] w (fun r w' => ∃ u, r = .tuple #[u, .int .i64 0] ∧ PairsAt w' u ps ∧ Below w.heap.size w w') := by
  have hn := hd.1
  refine f8.calls ?_
  unfold f8.f
  refine CallF.ret (f19.enters _ _) (lines_ret v (ps.map lineStr) w (by simp; omega) ?_ (by rw [← dict_flatN]; exact hv)) ?_
  · intro o ho
    obtain ⟨p, hp, rfl⟩ := List.mem_map.1 ho
    exact line_no10 (hd.at hp).1 (hd.at hp).2
  rintro _ w1 ⟨u, rfl, hu, hb1⟩
  have H1 := (Has.init w).below hb1
  obtain ⟨x, c, rfl, hc, hp⟩ := hu
  have hlm : (ps.map lineStr).length = ps.length := by simp
  rw [hlm] at hc ⊢
  refine Do.ok (run_ext rfl) (Do.ok (run_ext rfl) (Do.ok run_notT (GuardK.ff (GuardK.ff (Do.ok run_lenS (GuardK.ff (Do.dec run_gtr (fun h => by omega) (fun _ => Do.ok run_pickF (If.f (Do.ok run_lenS ?_))))))))))
  refine ⟨fun k x6 x26 w' => ∃ (i : Nat) (I : List (Nat × Obj)), k + i = ps.length ∧ x26 = .int .i64 i ∧ Row 44 2 x6 i (flatP (ps.take i)) I ∧ Has w1 w' (I ++ []),
    ⟨ps.length, 0, [], by simp, rfl, by simpa [flatP] using Row.nil, Has.init w1⟩, ?_⟩
  rintro k σ w2 ⟨i, I, hk, hx, hr, H⟩
  rw [hx]
  generalize σ 6 = x6 at hr
  unfold f8.l0
  refine Do.dec run_lss (fun hlt => If.t ?_) (fun hge => If.f ?_)
  · have hi : i < ps.length := by omega
    obtain ⟨b, o, cs, fz, rfl, hb, hcs⟩ := hp (by omega)
    have hci := hcs i (by omega)
    rw [List.getElem_map] at hci
    have hpi := hd.at (List.getElem_mem hi)
    have hlr := rightB_len hpi.1
    have hlp := plainB_len hpi.2
    have hz1 : ps[i].1.data.toList.length = ps[i].1.size := by simp
    have hz2 : ps[i].2.data.toList.length = ps[i].2.size := by simp
    have hsz := lineStr_size ps[i]
    have hls := lineStr_list ps[i]
    have hlen : (lineStr ps[i]).data.toList.length = (lineStr ps[i]).size := by simp
    refine Do.ok (run_idx (by omega) (by omega)) (Do.ok (run_loadBase H hb (v := .string (lineStr ps[i])) (by rw [show o + (i : Int).toNat * 1 = o + i by omega]; exact hci)) ?_)
    refine ⟨fun k1 x9 w' => ∃ q : Nat, k1 + q = ps[i].1.size ∧ x9 = .int .i64 q ∧ w' = w2, ⟨ps[i].1.size, 0, by omega, rfl, rfl⟩, ?_⟩
    rintro k1 σ1 w6 ⟨q, hq, hx9, rfl⟩
    rw [hx9]
    unfold f8.l1
    have hql : q < (lineStr ps[i]).size := by omega
    refine Do.ok run_lenStr (Do.dec run_lss (fun _ => ?_) (fun h => by omega))
    refine GuardK.tt (GuardK.tt (GuardK.tt (Do.ok (run_idxS (by omega) (by omega)) (GuardK.tt ?_))))
    simp only [Int.toNat_natCast]
    rcases Nat.lt_or_ge q ps[i].1.size with hqk | hqk
    · refine Do.dec run_nei (fun _ => Do.ok run_pickT (If.t ?_)) (fun h => ?_)
      · exact Do.ok (run_addi (a := (q : Int)) (b := 1) (by omega)) (show ∃ k', k' < k1 ∧ _ from ⟨k1 - 1, by omega, q + 1, by omega, rfl, rfl⟩)
      · exfalso
        have hkb : keyByte ((lineStr ps[i]).data.toList[q]'(by omega)) = true := by
          have : (lineStr ps[i]).data.toList[q]'(by omega) = ps[i].1.data.toList[q]'(by omega) := by
            simp only [hls]
            rw [List.getElem_append_left (by simp; omega), List.getElem_append_left (by omega)]
          rw [this]
          exact keyByte_all hpi.1 _ (List.getElem_mem _)
        have h58 : (((lineStr ps[i]).data.toList[q]'(by omega)).toNat : Int) = 58 := Decidable.not_not.1 h
        simp only [keyByte, decide_eq_true_eq] at hkb
        omega
    · have hqe : q = ps[i].1.size := by omega
      have h58 : ((lineStr ps[i]).data.toList[q]'(by omega)) = 58 := by
        simp only [hls, List.append_assoc]
        rw [List.getElem_append_right (by omega)]
        simp [hqe, hz1]
      rw [h58]
      refine Do.dec run_nei (fun h => absurd rfl h) (fun _ => ?_)
      refine Do.ok run_pickT (If.f ?_)
      subst hqe
      refine Do.ok (run_addi (a := (ps[i].1.size : Int)) (b := 2) (by omega)) (Do.ok run_lenStr (Do.dec run_gtr (fun h => by omega) (fun _ => If.f ?_)))
      refine ⟨fun _ => True, trivial, ?_⟩
      dsimp only
      refine Take.ok (fun _ _ => run_sliceStr (s := lineStr ps[i]) (a := 0) (b := ps[i].1.size) (.inr ⟨rfl, rfl⟩) (.inl rfl) (by omega) (by omega)) ?_
      refine Take.ok (fun _ _ => run_addi (a := (ps[i].1.size : Int)) (b := 2) (by omega)) ?_
      refine Take.ok (fun _ _ => run_sliceStr (s := lineStr ps[i]) (a := ps[i].1.size + 2) (b := (lineStr ps[i]).size) (.inl (by congr 1)) (.inr ⟨rfl, rfl⟩) (by omega) (by omega)) ?_
      rw [extract_key, extract_val]
      refine Take.ok (fun w _ => build44 _ _ w) ?_
      refine Do.ok (bs38 _ _ _) ⟨trivial, ?_⟩
      have H1 := H.drew.alloc (.cells #[.string ps[i].1, .string ps[i].2] 44)
      generalize (drewW w6).heap.size = b8 at H1 ⊢
      have G1 := H1.perm (L' := I ++ [(b8, .cells #[.string ps[i].1, .string ps[i].2] 44 (0, 0))]) (by classical exact List.perm_iff_count.2 (fun a => by simp only [List.count_append, List.count_cons, List.count_nil, List.set_cons_zero, List.set_cons_succ, List.setIfInBounds_toArray, List.cons_append, List.nil_append, List.append_assoc]; omega))
      refine Do.append (t := 38) (t2 := 38) (.inr ⟨_, rfl⟩) G1 hr (Src.blk (ys := pairCells ps[i]) (m := 1) (o := 0) (H1.get 0 rfl) rfl
        (fun j y hj => by simpa [pairCells] using hj) (by simp [pairCells, Value.oneCell'])) (by omega) (by omega) ?_
      intro v4 I4 w12 hr4 G12 _
      refine ⟨trivial, Do.ok (run_addi (a := (i : Int)) (b := 1) (by omega)) (show ∃ k', k' < k ∧ _ from ⟨k - 1, by omega, i + 1, I4, by omega, rfl, ?_, G12.sub (List.Sublist.append_left (List.nil_sublist _) _)⟩)⟩
      rw [List.take_succ_eq_append_getElem hi, flatP_snoc]
      exact hr4
  · have hi : i = ps.length := by omega
    subst hi
    rw [List.take_length] at hr
    have hpz := PairsAt.ofRow (by omega) hr H
    have H0 := H1.below H.toBelow
    refine CallF.ret (f20.enters _ _) (refdict_ret x6 ps w2 hpz hd.size hd) ?_
    rintro _ w3 ⟨u2, rfl, hu2, hb3⟩
    have H3 := H0.below hb3
    refine Do.ok (run_ext rfl) (Do.ok (run_ext rfl) (Do.dec run_nei (fun h => absurd rfl h) (fun _ => ?_)))
    refine GuardK.ff (GuardK.ff (GuardK.ff (CallF.ret (f21.enters _ _) (same_ret u2 v (dictBytes ps) w3 hu2 (hv.below H3.toBelow)) ?_)))
    rintro _ w4 ⟨rfl, hb4⟩
    have H4 := H3.below hb4
    refine GuardK.ff (Do.ok run_notT (Do.ok run_pickF (If.f ?_)))
    exact ⟨_, rfl, (hpz.below hb3).below hb4, H4.toBelow⟩
end Go.Proofs.YtggdogncmkffpaaDoor
