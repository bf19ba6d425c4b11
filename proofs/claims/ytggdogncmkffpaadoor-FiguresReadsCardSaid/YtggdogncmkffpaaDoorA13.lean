/- Contract of the reference's lines. Conditions: none. -/
import Derived.Test.YtggdogncmkffpaaDoorA12
set_option linter.unusedVariables false
set_option maxRecDepth 10000
namespace Go.Proofs.YtggdogncmkffpaaDoor
open Go Go.Sx Go.Proofs Go.Lib Go.RowKit

def flatN (outs : List ByteArray) : List UInt8 := (outs.map fun o => o.data.toList ++ [10]).flatten
theorem flatN_split {outs : List ByteArray} {m : Nat} (h : m < outs.length) : flatN outs = flatN (outs.take m) ++ (outs[m].data.toList ++ [10]) ++ flatN (outs.drop (m + 1)) := by
  have e : outs = outs.take m ++ outs[m] :: outs.drop (m + 1) := by rw [← List.drop_eq_getElem_cons h, List.take_append_drop]
  have h2 : flatN (outs.take m ++ outs[m] :: outs.drop (m + 1)) = flatN (outs.take m) ++ (outs[m].data.toList ++ [10]) ++ flatN (outs.drop (m + 1)) := by
    simp only [flatN, List.map_append, List.map_cons, List.flatten_append, List.flatten_cons, List.append_assoc]
  rw [← e] at h2
  exact h2
theorem flatN_get {outs : List ByteArray} {m q : Nat} (h : m < outs.length) (hq : q ≤ outs[m].size) : (flatN outs)[(flatN (outs.take m)).length + q]? = (outs[m].data.toList ++ [10])[q]? := by
  have hl : (outs[m].data.toList ++ [10]).length = outs[m].size + 1 := by simp
  rw [flatN_split h, List.append_assoc, List.getElem?_append_right (by omega), Nat.add_sub_cancel_left, List.getElem?_append_left (by omega)]
theorem flatN_take {outs : List ByteArray} {m : Nat} (h : m < outs.length) : flatN (outs.take (m + 1)) = flatN (outs.take m) ++ (outs[m].data.toList ++ [10]) := by
  rw [List.take_succ_eq_append_getElem h]
  simp only [flatN, List.map_append, List.map_cons, List.flatten_append, List.flatten_cons, List.map_nil, List.flatten_nil, List.append_nil]
theorem flatN_len {outs : List ByteArray} {m : Nat} (h : m < outs.length) : (flatN (outs.take m)).length + outs[m].size + 1 ≤ (flatN outs).length := by
  rw [flatN_split h]
  simp
  omega
def StrsAt (w : World) (v : Value) (ss : List ByteArray) : Prop :=
  ∃ x c, v = .slice x ss.length c ∧ ss.length ≤ c ∧ (0 < ss.length → ∃ b o cs fz, x = some ⟨b, o, none⟩ ∧ w.heap[b]? = some (.cells cs 9 fz) ∧ ∀ j (h : j < ss.length), cs[o + j]? = some (.string ss[j]))
theorem StrsAt.below {w w' : World} {v : Value} {bs : List ByteArray} (h : StrsAt w v bs) (hb : Below w.heap.size w w') : StrsAt w' v bs := by
  obtain ⟨x, c, he, hc, hp⟩ := h
  refine ⟨x, c, he, hc, fun h0 => ?_⟩
  obtain ⟨b, o, cs, fz, hx, hw, hcs⟩ := hp h0
  exact ⟨b, o, cs, fz, hx, (hb.block b (Array.getElem?_eq_some_iff.1 hw).1).trans hw, hcs⟩
theorem run_build1 (s : ByteArray) (w : World) : (Instr.buildSlice 55 1 #[(0, .string s)]).run P w = .ok (.slice (some ⟨w.heap.size, 0, none⟩) 1 1) (w.alloc (.cells #[.string s] 9)) := by kernel_rfl

theorem lines_ret (v : Value) (rest : List ByteArray) (w : World) (hn : rest.length ≤ 100000) (h10 : ∀ o ∈ rest, (10 : UInt8) ∉ o.data.toList)
    (hv : BytesAt w v (flatN ((⟨#[45, 45, 45]⟩ : ByteArray) :: rest))) :
    Ret P 19 #[v] w (fun r w' => ∃ u, r = .tuple #[u, .bool true] ∧ StrsAt w' u rest ∧ Below w.heap.size w w') := by
  generalize ho : ((⟨#[45, 45, 45]⟩ : ByteArray) :: rest) = outs at hv
  have h10 : ∀ o ∈ outs, (10 : UInt8) ∉ o.data.toList := by
    subst ho
    intro o hm
    rcases List.mem_cons.1 hm with rfl | hm
    · decide
    · exact h10 o hm
  have hlen : outs.length = rest.length + 1 := by subst ho; simp
  obtain ⟨x, c, rfl, hc, hm, hp⟩ := hv
  refine f19.calls ?_
  unfold f19.f
  refine Do.ok run_lenS ?_
  refine ⟨fun k x4 x5 x10 w' => ∃ (m q : Nat) (I : List (Nat × Obj)), k + ((flatN (outs.take m)).length + q) = (flatN outs).length ∧ x10 = .int .i64 ((flatN (outs.take m)).length + q : Nat) ∧
      x5 = .int .i64 (flatN (outs.take m)).length ∧ m ≤ outs.length ∧ (∀ h : m < outs.length, q ≤ outs[m].size) ∧ (m = outs.length → q = 0) ∧
      Row 9 1 x4 m ((outs.take m).map Value.string) I ∧ Has w w' (I ++ []),
    ⟨(flatN outs).length, 0, 0, [], by simp [flatN], by simp [flatN], by simp [flatN], by omega, by omega, by omega, .nil, Has.init w⟩, ?_⟩
  rintro k σ w2 ⟨m, q, I, hk, hx10, hx5, hmo, hq, hq0, hr, H⟩
  rw [hx10, hx5]
  generalize σ 4 = x4 at hr
  unfold f19.l0
  have htake : m = outs.length → (flatN (outs.take m)).length = (flatN outs).length := fun e => by rw [e, List.take_length]
  refine Do.dec run_lss (fun hlt => If.t ?_) (fun hge => If.f ?_)
  · have hml : m < outs.length := by
      rcases Nat.lt_or_ge m outs.length with h | h
      · exact h
      · have h1 := htake (by omega)
        have h2 := hq0 (by omega)
        omega
    have hi : (flatN (outs.take m)).length + q < (flatN outs).length := by omega
    obtain ⟨b, cs, fz, rfl, hb, hcs⟩ := hp (by omega)
    have hq := hq hml
    have hget := flatN_get hml hq
    have hcb := hcs _ hi
    rw [List.getElem?_eq_getElem hi] at hget
    generalize (flatN outs)[(flatN (outs.take m)).length + q] = ch at hget hcb
    refine Do.ok (run_idx (by omega) (by omega)) (Do.ok (run_loadBase H hb (v := .int .u8 (ch.toNat : Int)) (by rw [show 0 + ((((flatN (outs.take m)).length + q : Nat) : Int).toNat * 1) = (flatN (outs.take m)).length + q by omega]; exact hcb)) ?_)
    have hsz : outs[m].data.toList.length = outs[m].size := by simp
    have hrest := flatN_len hml
    refine Do.dec run_eqi (fun h => If.t ?_) (fun h => If.f ?_)
    · have hqe : q = outs[m].size := by
        rcases Nat.lt_or_ge q outs[m].size with h' | h'
        · exfalso
          rw [List.getElem?_append_left (by omega), List.getElem?_eq_getElem (by omega)] at hget
          have : ch = 10 := by
            apply UInt8.toNat_inj.1
            have : (10 : UInt8).toNat = 10 := rfl
            omega
          rw [this] at hget
          simp only [Option.some.injEq] at hget
          exact h10 outs[m] (List.getElem_mem _) (hget ▸ List.getElem_mem _)
        · omega
      refine Do.ok (run_slice (a := (flatN (outs.take m)).length) (b := (flatN (outs.take m)).length + q) (.inl rfl) (.inl rfl) (by omega) (by omega)) ?_
      rw [if_neg (by omega), Option.map_some, add_blk, show (flatN (outs.take m)).length + q - (flatN (outs.take m)).length = outs[m].data.toList.length by omega]
      refine Do.ok (run_toStr (H.baseBlk hb) (l := outs[m].data.toList) ?_) ?_
      · intro j hj
        have hj' : (flatN (outs.take m)).length + j < (flatN outs).length := by omega
        have h1 := hcs _ hj'
        have h2 := flatN_get hml (q := j) (by omega)
        rw [List.getElem?_eq_getElem hj', List.getElem?_append_left (by omega), List.getElem?_eq_getElem hj, Option.some.injEq] at h2
        rw [h2] at h1
        simpa using h1
      have es : (⟨outs[m].data.toList.toArray⟩ : ByteArray) = outs[m] := by simp
      rw [es]
      refine Do.ok (run_build1 _ _) ?_
      have H3 := H.alloc (.cells #[.string outs[m]] 9)
      generalize w2.heap.size = b3 at H3 ⊢
      have H4 := H3.perm (L' := I ++ ((b3, .cells #[.string outs[m]] 9) :: [])) (by classical exact List.perm_iff_count.2 (fun a => by simp only [List.count_append, List.count_cons, List.count_nil, List.set_cons_zero, List.set_cons_succ, List.setIfInBounds_toArray, List.cons_append, List.nil_append, List.append_assoc]; omega))
      refine Do.append (.inr ⟨_, rfl⟩) H4 hr (Src.blk (ys := [.string outs[m]]) (m := 1) (o := 0) (H3.get 0 rfl) rfl (by intro j y hj; cases j <;> simp_all) (by simp [Value.oneCell'])) (by omega) (by omega) ?_
      intro x4' I' w4 hr4 H5 _
      refine Do.ok (run_addi (a := (((flatN (outs.take m)).length + q : Nat) : Int)) (b := 1) (by omega)) (Do.ok (run_addi (a := (((flatN (outs.take m)).length + q : Nat) : Int)) (b := 1) (by omega)) ?_)
      have hf := congrArg List.length (flatN_take hml)
      rw [List.length_append, List.length_append, hsz, List.length_singleton] at hf
      refine ⟨k - 1, by omega, m + 1, 0, I', by omega, by congr 1; omega, by congr 1; omega, by omega, by omega, by omega, ?_, H5.sub (List.Sublist.append_left (List.sublist_cons_self _ _) _)⟩
      rw [List.take_succ_eq_append_getElem hml, List.map_append]
      exact hr4
    · have hqe : q < outs[m].size := by
        rcases Nat.lt_or_ge q outs[m].size with h' | h'
        · exact h'
        · exfalso
          have : q = outs[m].data.toList.length := by omega
          rw [this, List.getElem?_concat_length, Option.some.injEq] at hget
          rw [hget] at h
          exact h rfl
      refine Do.ok (run_addi (a := (((flatN (outs.take m)).length + q : Nat) : Int)) (b := 1) (by omega)) ?_
      exact ⟨k - 1, by omega, m, q + 1, I, by omega, by congr 1, rfl, hmo, fun _ => by omega, by omega, hr, H⟩
  · have hml : m = outs.length := by
      rcases Nat.lt_or_ge m outs.length with h | h
      · have := hq h
        have := flatN_len h
        omega
      · omega
    have h1 := htake hml
    have h2 := hq0 hml
    rw [h1]
    refine Do.ok run_lenS (Do.dec run_nei (fun h => absurd rfl h) (fun _ => ?_))
    rw [hml, List.take_length] at hr
    generalize hgn : outs.length = nn at hr
    generalize hgx : outs.map Value.string = xs at hr
    cases hr with
    | nil => omega
    | @row b _ c' _ sp e1 e2 e3 e4 =>
      subst hgn hgx
      have hblk := H.get (b := b) (i := 0) rfl
      have hget : ∀ j (hj : j < outs.length), (((outs.map Value.string) ++ sp).toArray)[j]? = some (.string outs[j]) := by
        intro j hj
        simp only [List.getElem?_toArray]
        rw [List.getElem?_append_left (by simpa using hj)]
        simp [hj]
      refine GuardK.ff (GuardK.ff (Do.ok run_lenS (GuardK.ff (Do.dec run_eqi (fun h => by omega) (fun _ => Do.ok run_pickF ?_)))))
      refine GuardK.ff (GuardK.ff (Do.ok (run_idx (by omega) (by omega)) (GuardK.ff (Do.ok (run_load1 (v := .string outs[0]) ((cell_of_blk hblk _).trans (by simpa using hget 0 (by omega)))) (GuardK.ff ?_)))))
      have h0 : outs[0]'(by omega) = (⟨#[45, 45, 45]⟩ : ByteArray) := by subst ho; rfl
      rw [h0]
      refine Do.dec run_nes (fun h => absurd rfl h) (fun _ => Do.ok run_pickF (If.f ?_))
      refine Do.ok (run_slice (a := 1) (b := outs.length) (.inl rfl) (.inr ⟨rfl, rfl⟩) (by omega) (by omega)) ?_
      refine ⟨_, rfl, ⟨_, c' - 1, by rw [show outs.length - 1 = rest.length by omega], by omega, fun h0 => ⟨b, 1, _, _, ?_, hblk, ?_⟩⟩, H.toBelow⟩
      · rw [if_neg (by omega)]
        simp [add_blk]
      · intro j hj
        rw [Nat.add_comm 1 j, hget (j + 1) (by omega)]
        subst ho
        simp
end Go.Proofs.YtggdogncmkffpaaDoor
