/- Arguments: what the row's reading says of a play and of a string; beyond. Conditions: none. -/
import Derived.Test.YtdnnamaimgijpaaDoorS25
import Derived.ChangeArms
import Derived.DataReads
set_option linter.unusedVariables false
set_option linter.unusedSectionVars false
set_option maxRecDepth 10000
namespace Go.Proofs.YtdnnamaimgijpaaDoor
open Go Go.Sx Go.Proofs Go.Lib Go.RowKit

section
variable {H : Type} {enc : TypeId × Value → H} {W : World} {sp : Nat → Bool} {held : Bool}
theorem cells_of {w : World} {base : Nat} {a : Addr} {n : Nat} {cs : List Value} (h : w.cells? base a n = some cs) : cs.length = n ∧ ∀ i, i < n → w.cell? (a.add i) = cs[i]? := by
  unfold World.cells? at h
  split at h
  · have hl := mapM_some_length h
    rw [List.length_range] at hl
    exact ⟨hl, fun i hi => mapM_some_get h i i (by simp [hi])⟩
  · cases h
theorem cell_blk {w : World} {a : Addr} {v : Value} (h : w.cell? a = some v) : ∃ cs T fz, w.heap[a.block]? = some (.cells cs T fz) ∧ a.spot = none ∧ cs[a.off]? = some v := by
  unfold World.cell? at h
  split at h
  · rename_i cs T fz hb
    split at h
    · cases h
    · rename_i hs
      exact ⟨cs, T, fz, hb, by simpa using hs, h⟩
  · cases h
theorem slice_reads {t e T sz : Nat} (ht : P.underlying t = some (.slice e)) (hc : P.cellsOf e = sz) (h0 : 0 < sz) {base fuel : Nat} {v : Value} {x : DataW H × List MemPlace} (h : DataW.trod enc P W base sp held fuel t [v] = some x) :
    ∃ n xs, SlAt T sz W v n xs ∧ ∀ i, i < n → ∃ fu y, DataW.trod enc P W base sp held fu e ((xs.drop (i * sz)).take sz) = some y := by
  rcases DataW.trod_slice ht h with ⟨hcs, _⟩ | ⟨a, len, cap, elems, rest, n, _, hcs, _, hb, hlc, hcm, hel, hr, _, _⟩
  · obtain rfl : v = .slice none 0 0 := by simpa using hcs
    exact ⟨0, [], ⟨none, 0, rfl, ⟨Nat.le_refl _, Nat.zero_le _⟩, by simp, fun h => absurd h (by omega)⟩, fun i hi => absurd hi (by omega)⟩
  · obtain rfl : v = .slice (some a) len cap := by simpa using hcs
    rw [hc] at hr
    have hget : ∀ i, i < len → ∃ ci y, W.cells? base (a.add (i * sz)) sz = some ci ∧ DataW.trod enc P W base sp held n e ci = some y := by
      intro i hi
      have h1 := hr i hi
      rw [List.getElem?_eq_getElem (by omega)] at h1
      cases hci : W.cells? base (a.add (i * sz)) sz with
      | none => rw [hci] at h1; cases h1
      | some ci =>
        rw [hci] at h1
        exact ⟨ci, _, rfl, h1⟩
    rcases Nat.eq_zero_or_pos len with rfl | hpos
    · exact ⟨0, [], ⟨some a, cap, rfl, ⟨hlc, hcm⟩, by simp, fun h => absurd h (by omega)⟩, fun i hi => absurd hi (by omega)⟩
    obtain ⟨c0, y0, hc0, _⟩ := hget 0 hpos
    obtain ⟨hl0, hcell0⟩ := cells_of hc0
    have hx := hcell0 0 h0
    rw [List.getElem?_eq_getElem (by omega)] at hx
    obtain ⟨cs, T', fz, hblk, hsp, _⟩ := cell_blk hx
    have ea : (a.add (0 * sz)).add 0 = a := by simp [Addr.add]
    rw [ea] at hblk hsp
    obtain ⟨b, o, spot⟩ := a
    simp only at hblk hsp
    subst hsp
    have hce : ∀ k, W.cell? ⟨b, o + k, none⟩ = cs[o + k]? := fun k => cell_of_blk hblk _
    have hci : ∀ i, i < len → ∀ ci, W.cells? base ((⟨b, o, none⟩ : Addr).add (i * sz)) sz = some ci → ci.length = sz ∧ ∀ j, j < sz → cs[o + (i * sz + j)]? = ci[j]? := by
      intro i hi ci hh
      obtain ⟨g1, g2⟩ := cells_of hh
      refine ⟨g1, fun j hj => ?_⟩
      have := g2 j hj
      rw [add_blk, add_blk, Nat.add_assoc, hce] at this
      exact this
    have hsize : o + len * sz ≤ cs.size := by
      obtain ⟨ci, _, q1, _⟩ := hget (len - 1) (by omega)
      obtain ⟨g1, g2⟩ := hci _ (by omega) ci q1
      have := g2 (sz - 1) (by omega)
      rw [List.getElem?_eq_getElem (by omega)] at this
      have hlt := (Array.getElem?_eq_some_iff.1 this).1
      have e : (len - 1) * sz + sz = len * sz := by
        rw [Nat.sub_mul, Nat.one_mul]
        have : 1 * sz ≤ len * sz := Nat.mul_le_mul_right _ hpos
        omega
      omega
    refine ⟨len, (cs.toList.drop o).take (len * sz), ⟨some ⟨b, o, none⟩, cap, rfl, ⟨hlc, hcm⟩, ?_, fun _ => ⟨b, o, cs, (T', fz), rfl, hblk, fun j hj => ?_⟩⟩, fun i hi => ?_⟩
    · rw [List.length_take, List.length_drop, Array.length_toList]; omega
    · rw [List.getElem_take, List.getElem_drop, Array.getElem_toList, Array.getElem?_eq_getElem]
    · obtain ⟨ci, y, q1, q2⟩ := hget i hi
      obtain ⟨g1, g2⟩ := hci i hi ci q1
      refine ⟨n, y, ?_⟩
      have hle : (i + 1) * sz ≤ len * sz := Nat.mul_le_mul_right _ hi
      rw [Nat.add_mul, Nat.one_mul] at hle
      have : (((cs.toList.drop o).take (len * sz)).drop (i * sz)).take sz = ci := by
        apply List.ext_getElem?
        intro j
        by_cases hj : j < sz
        · rw [← g2 j hj, List.getElem?_take, if_pos hj, List.getElem?_drop, List.getElem?_take, if_pos (by omega), List.getElem?_drop, Array.getElem?_toList]
        · rw [List.getElem?_eq_none (by rw [List.length_take]; omega), List.getElem?_eq_none (by omega)]
      rw [this]; exact q2
theorem chunk1 {xs : List Value} {i : Nat} {v : Value} (h : (xs.drop (i * 1)).take 1 = [v]) : xs[i]? = some v := by
  have := congrArg (fun l : List Value => l[0]?) h
  simpa using this
theorem ints_reads {base fuel : Nat} {v : Value} {x : DataW H × List MemPlace} (h : DataW.trod enc P W base sp held fuel 42 [v] = some x) : ∃ l : List Int, SlAt 3 1 W v l.length (ints l) := by
  obtain ⟨n, xs, hs, hel⟩ := slice_reads (T := 3) (e := 3) (sz := 1) (by kernel_rfl) (by kernel_rfl) (by omega) h
  have hlen : xs.length = n := by obtain ⟨_, _, _, _, hl, _⟩ := hs; omega
  have hx : ∀ i, i < n → ∃ k, xs[i]? = some (.int .i64 k) := by
    intro i hi
    obtain ⟨fu, y, hy⟩ := hel i hi
    obtain ⟨k, hk, _⟩ := DataW.trod_int (P := P) (by kernel_rfl : P.underlying 3 = some (.int .i64)) hy
    exact ⟨k, chunk1 hk⟩
  refine ⟨xs.map fun v => match v with | .int _ k => k | _ => 0, ?_⟩
  have e : ints (xs.map fun v => match v with | .int _ k => k | _ => 0) = xs := by
    apply List.ext_getElem?
    intro i
    simp only [ints, List.map_map, List.getElem?_map]
    rcases Nat.lt_or_ge i n with hi | hi
    · obtain ⟨k, hk⟩ := hx i hi
      rw [hk]; rfl
    · rw [List.getElem?_eq_none (by omega)]; rfl
  rw [e, List.length_map, hlen]
  exact hs
theorem bytes_reads {base fuel : Nat} {v : Value} {x : DataW H × List MemPlace} (h : DataW.trod enc P W base sp held fuel 41 [v] = some x) : ∃ l : List UInt8, SlAt 5 1 W v l.length (byteCells l) := by
  obtain ⟨n, xs, hs, hel⟩ := slice_reads (T := 5) (e := 5) (sz := 1) (by kernel_rfl) (by kernel_rfl) (by omega) h
  have hlen : xs.length = n := by obtain ⟨_, _, _, _, hl, _⟩ := hs; omega
  have hx : ∀ i, i < n → ∃ k : Int, xs[i]? = some (.int .u8 k) ∧ 0 ≤ k ∧ k ≤ 255 := by
    intro i hi
    obtain ⟨fu, y, hy⟩ := hel i hi
    obtain ⟨k, hk, _, hw⟩ := DataW.trod_int (P := P) (by kernel_rfl : P.underlying 5 = some (.int .u8)) hy
    refine ⟨k, chunk1 hk, ?_⟩
    simp only [Lit.wf, IntKind.has, IntKind.min, IntKind.max, IntKind.signed, IntKind.bits] at hw
    simp at hw
    omega
  refine ⟨xs.map fun v => match v with | .int _ k => UInt8.ofNat k.toNat | _ => 0, ?_⟩
  have e : byteCells (xs.map fun v => match v with | .int _ k => UInt8.ofNat k.toNat | _ => 0) = xs := by
    apply List.ext_getElem?
    intro i
    simp only [byteCells, List.map_map, List.getElem?_map]
    rcases Nat.lt_or_ge i n with hi | hi
    · obtain ⟨k, hk, k0, k1⟩ := hx i hi
      rw [hk]
      simp only [Option.map_some, Function.comp]
      congr 2
      rw [UInt8.toNat_ofNat']; omega
    · rw [List.getElem?_eq_none (by omega)]; rfl
  rw [e, List.length_map, hlen]
  exact hs
theorem one_of {xs : List Value} {c : List Value} {k : Nat} {v : Value} (h : (c.drop k).take 1 = [v]) : c[k]? = some v := by
  have := congrArg (fun l : List Value => l[0]?) h
  simpa using this
theorem step_reads {base fuel : Nat} {c : List Value} {x : DataW H × List MemPlace} (h : DataW.trod enc P W base sp held fuel 44 c = some x) : ∃ s : StepV, StepIn W c.toArray s := by
  obtain ⟨xs, n, _, _, hl, hxl, hf⟩ := DataW.trod_struct (P := P) (by kernel_rfl : P.underlying 44 = some (.struct (P.fieldsOf 44))) h
  have hl : c.length = 5 := hl.trans (by kernel_rfl)
  have hx5 : xs.length = 5 := hxl.trans (by kernel_rfl)
  have c3 : P.cellsOf 3 = 1 := by kernel_rfl
  have c41 : P.cellsOf 41 = 1 := by kernel_rfl
  have c42 : P.cellsOf 42 = 1 := by kernel_rfl
  have fget : ∀ (i : Nat) (f : Field), (P.fieldsOf 44)[i]? = some f → ∃ y, DataW.trod enc P W base sp held n f.type ((c.drop f.offset).take (P.cellsOf f.type)) = some y := by
    intro i f hfi
    have hlt : i < xs.length := by rw [hxl]; exact (Array.getElem?_eq_some_iff.1 hfi).1
    exact ⟨xs[i], (hf i f hfi).trans (List.getElem?_eq_getElem hlt)⟩
  have f0 : (P.fieldsOf 44).map (fun f => (f.type, f.offset)) = #[(3, 0), (3, 1), (41, 2), (3, 3), (42, 4)] := by kernel_rfl
  have get : ∀ (i t o : Nat), (#[(3, 0), (3, 1), (41, 2), (3, 3), (42, 4)] : Array (Nat × Nat))[i]? = some (t, o) → ∃ y, DataW.trod enc P W base sp held n t ((c.drop o).take (P.cellsOf t)) = some y := by
    intro i t o hi
    rw [← f0, Array.getElem?_map] at hi
    cases hfi : (P.fieldsOf 44)[i]? with
    | none => rw [hfi] at hi; cases hi
    | some f =>
      rw [hfi] at hi
      simp only [Option.map_some, Option.some.injEq, Prod.mk.injEq] at hi
      obtain ⟨rfl, rfl⟩ := hi
      exact fget i f hfi
  have int : ∀ (i o : Nat), (#[(3, 0), (3, 1), (41, 2), (3, 3), (42, 4)] : Array (Nat × Nat))[i]? = some (3, o) → ∃ k, c[o]? = some (.int .i64 k) := by
    intro i o hi
    obtain ⟨y, hy⟩ := get i 3 o hi
    rw [c3] at hy
    obtain ⟨k, hk, _⟩ := DataW.trod_int (P := P) (by kernel_rfl : P.underlying 3 = some (.int .i64)) hy
    exact ⟨k, one_of (xs := c) hk⟩
  obtain ⟨k0, e0⟩ := int 0 0 rfl
  obtain ⟨k1, e1⟩ := int 1 1 rfl
  obtain ⟨k3, e3⟩ := int 3 3 rfl
  match c, hl with
  | [v0, v1, v2, v3, v4], _ =>
    obtain ⟨y2, hy2⟩ := get 2 41 2 rfl
    obtain ⟨y4, hy4⟩ := get 4 42 4 rfl
    rw [c41] at hy2
    rw [c42] at hy4
    obtain ⟨l2, s2⟩ := bytes_reads hy2
    obtain ⟨l4, s4⟩ := ints_reads hy4
    simp at e0 e1 e3
    subst e0 e1 e3
    exact ⟨⟨k0, k1, l2, k3, l4⟩, v2, v4, rfl, s2, s4⟩
theorem play_reads {base fuel : Nat} {c : Array Value} {x : DataW H × List MemPlace} (h : DataW.trod enc P W base sp held fuel 31 c.toList = some x) : ∃ (cf : Cfg) (ss : List StepV), PlayIn W c cf ss := by
  obtain ⟨xs, n, _, _, hl, hxl, hf⟩ := DataW.trod_struct (P := P) (by kernel_rfl : P.underlying 31 = some (.struct (P.fieldsOf 31))) h
  have hl : c.toList.length = 4 := hl.trans (by kernel_rfl)
  have fget : ∀ (i : Nat) (f : Field), (P.fieldsOf 31)[i]? = some f → ∃ y, DataW.trod enc P W base sp held n f.type ((c.toList.drop f.offset).take (P.cellsOf f.type)) = some y := by
    intro i f hfi
    have hlt : i < xs.length := by rw [hxl]; exact (Array.getElem?_eq_some_iff.1 hfi).1
    exact ⟨xs[i], (hf i f hfi).trans (List.getElem?_eq_getElem hlt)⟩
  have f0 : (P.fieldsOf 31).map (fun f => (f.type, f.offset)) = #[(28, 0), (29, 3)] := by kernel_rfl
  have get : ∀ (i t o : Nat), (#[(28, 0), (29, 3)] : Array (Nat × Nat))[i]? = some (t, o) → ∃ y, DataW.trod enc P W base sp held n t ((c.toList.drop o).take (P.cellsOf t)) = some y := by
    intro i t o hi
    rw [← f0, Array.getElem?_map] at hi
    cases hfi : (P.fieldsOf 31)[i]? with
    | none => rw [hfi] at hi; cases hi
    | some f =>
      rw [hfi] at hi
      simp only [Option.map_some, Option.some.injEq, Prod.mk.injEq] at hi
      obtain ⟨rfl, rfl⟩ := hi
      exact fget i f hfi
  obtain ⟨y0, hy0⟩ := get 0 28 0 rfl
  obtain ⟨y1, hy1⟩ := get 1 29 3 rfl
  have c28 : P.cellsOf 28 = 3 := by kernel_rfl
  have c29 : P.cellsOf 29 = 1 := by kernel_rfl
  have c3 : P.cellsOf 3 = 1 := by kernel_rfl
  rw [c28] at hy0
  rw [c29] at hy1
  -- the config
  obtain ⟨ys, m, _, _, _, hyl, hg⟩ := DataW.trod_struct (P := P) (by kernel_rfl : P.underlying 28 = some (.struct (P.fieldsOf 28))) hy0
  have g0 : (P.fieldsOf 28).map (fun f => (f.type, f.offset)) = #[(3, 0), (3, 1), (3, 2)] := by kernel_rfl
  have int : ∀ (i o : Nat), (#[(3, 0), (3, 1), (3, 2)] : Array (Nat × Nat))[i]? = some (3, o) → ∃ k, ((c.toList.drop 0).take 3)[o]? = some (.int .i64 k) := by
    intro i o hi
    rw [← g0, Array.getElem?_map] at hi
    cases hfi : (P.fieldsOf 28)[i]? with
    | none => rw [hfi] at hi; cases hi
    | some f =>
      rw [hfi] at hi
      simp only [Option.map_some, Option.some.injEq, Prod.mk.injEq] at hi
      obtain ⟨h1, rfl⟩ := hi
      have hlt : i < ys.length := by rw [hyl]; exact (Array.getElem?_eq_some_iff.1 hfi).1
      have hy := (hg i f hfi).trans (List.getElem?_eq_getElem hlt)
      rw [h1, c3] at hy
      obtain ⟨k, hk, _⟩ := DataW.trod_int (P := P) (by kernel_rfl : P.underlying 3 = some (.int .i64)) hy
      exact ⟨k, one_of (xs := c.toList) hk⟩
  obtain ⟨k0, e0⟩ := int 0 0 rfl
  obtain ⟨k1, e1⟩ := int 1 1 rfl
  obtain ⟨k2, e2⟩ := int 2 2 rfl
  obtain ⟨cl⟩ := c
  simp only at hl e0 e1 e2 hy1
  match cl, hl with
  | [v0, v1, v2, v3], _ =>
    simp at e0 e1 e2
    subst e0 e1 e2
    obtain ⟨nn, zs, hs, hel⟩ := slice_reads (T := 44) (e := 44) (sz := 5) (by kernel_rfl : P.underlying 29 = some (.slice 44)) (by kernel_rfl) (by omega) (v := v3) hy1
    have hlen : zs.length = nn * 5 := by obtain ⟨_, _, _, _, hl, _⟩ := hs; exact hl
    have build : ∀ m, m ≤ nn → ∃ ss : List StepV, ss.length = m ∧ StepsIn W ss (zs.take (m * 5)) := by
      intro m
      induction m with
      | zero => intro _; exact ⟨[], rfl, by simpa using StepsIn.nil⟩
      | succ m ih =>
        intro hm
        obtain ⟨ss, hsl, hss⟩ := ih (by omega)
        obtain ⟨fu, y, hy⟩ := hel m (by omega)
        obtain ⟨s, hsi⟩ := step_reads hy
        refine ⟨ss ++ [s], by simp [hsl], ?_⟩
        have e : zs.take ((m + 1) * 5) = zs.take (m * 5) ++ (((zs.drop (m * 5)).take 5).toArray).toList := by
          rw [Nat.add_mul, Nat.one_mul, List.take_add]
        rw [e]
        exact .snoc hss hsi
    obtain ⟨ss, hsl, hss⟩ := build nn (Nat.le_refl _)
    rw [List.take_of_length_le (by omega)] at hss
    exact ⟨⟨k0, k1, k2⟩, ss, v3, zs, rfl, by rw [hsl]; exact hs, hss⟩
end
end Go.Proofs.YtdnnamaimgijpaaDoor
