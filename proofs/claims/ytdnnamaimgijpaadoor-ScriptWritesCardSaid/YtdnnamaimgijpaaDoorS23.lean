/- Plain laws: lines and words, numbers, data. Conditions: none. -/
import Derived.Test.YtdnnamaimgijpaaDoorS21
set_option linter.unusedVariables false
set_option linter.unusedSectionVars false
set_option maxRecDepth 10000
namespace Go.Proofs.YtdnnamaimgijpaaDoor
open Go Go.Sx Go.Proofs Go.Lib Go.RowKit

/-! ### cutting -/
theorem cut_app {c : UInt8} {rest : List UInt8} : ∀ {x : List UInt8}, (∀ b ∈ x, b ≠ c) → cut c (x ++ c :: rest) = x :: cut c rest
  | [], _ => by simp [cut]
  | b :: x, h => by
    have hb := h b (by simp)
    have ih := cut_app (rest := rest) (x := x) fun y hy => h y (by simp [hy])
    rw [List.cons_append, cut, if_neg hb, ih]
theorem cut_one {c : UInt8} : ∀ {x : List UInt8}, (∀ b ∈ x, b ≠ c) → cut c x = [x]
  | [], _ => rfl
  | b :: x, h => by
    have hb := h b (by simp)
    have ih := cut_one (x := x) fun y hy => h y (by simp [hy])
    rw [cut, if_neg hb, ih]
theorem cut_end (c : UInt8) : ∀ x : List UInt8, cut c (x ++ [c]) = cut c x ++ [[]]
  | [] => by simp [cut]
  | b :: x => by
    have ih := cut_end c x
    by_cases hb : b = c
    · rw [List.cons_append, cut, if_pos hb, cut, if_pos hb, ih]; rfl
    · rw [List.cons_append, cut, if_neg hb, cut, if_neg hb, ih]
      cases hc : cut c x with
      | nil => exact absurd hc (cut_ne c x)
      | cons h t => rfl
theorem cut_no (c : UInt8) : ∀ (x q : List UInt8), q ∈ cut c x → ∀ b ∈ q, b ≠ c
  | [], q, hq, b, hb => by simp [cut] at hq; subst hq; simp at hb
  | a :: x, q, hq, b, hb => by
    have ih := cut_no c x
    by_cases ha : a = c
    · rw [cut, if_pos ha] at hq
      rcases List.mem_cons.1 hq with rfl | hq
      · simp at hb
      · exact ih q hq b hb
    · rw [cut, if_neg ha] at hq
      cases hc : cut c x with
      | nil => exact absurd hc (cut_ne c x)
      | cons h t =>
        rw [hc] at hq ih
        rcases List.mem_cons.1 hq with rfl | hq
        · rcases List.mem_cons.1 hb with rfl | hb
          · exact ha
          · exact ih h (by simp) b hb
        · exact ih q (by simp [hq]) b hb
def len1 (l : List (List UInt8)) : Nat := (l.map fun x => x.length + 1).sum
theorem cut_len1 (c : UInt8) : ∀ x : List UInt8, len1 (cut c x) = x.length + 1
  | [] => rfl
  | b :: x => by
    have ih := cut_len1 c x
    by_cases hb : b = c
    · rw [cut, if_pos hb]; simp only [len1, List.map_cons, List.sum_cons, List.length_nil, List.length_cons] at ih ⊢; omega
    · rw [cut, if_neg hb]
      cases hc : cut c x with
      | nil => exact absurd hc (cut_ne c x)
      | cons h t => rw [hc] at ih; simp only [len1, List.map_cons, List.sum_cons, List.length_cons] at ih ⊢; omega
theorem join_cons2 (x y : List UInt8) (r : List (List UInt8)) (c : UInt8) : Lib.join (x :: y :: r) [c] = x ++ c :: Lib.join (y :: r) [c] := by
  rw [Lib.join_cons, Lib.join_cons]
  simp [Lib.joinTail]
theorem cut_join {c : UInt8} : ∀ (x : List UInt8) (r : List (List UInt8)), (∀ w ∈ x :: r, ∀ b ∈ w, b ≠ c) → cut c (Lib.join (x :: r) [c]) = x :: r
  | x, [], h => by rw [Lib.join_one]; exact cut_one (h x (by simp))
  | x, y :: r, h => by
    rw [join_cons2, cut_app (h x (by simp)), cut_join y r fun w hw => h w (by simp [hw])]
theorem join_len1 : ∀ (x : List UInt8) (r : List (List UInt8)) (c : UInt8), (Lib.join (x :: r) [c]).length + 1 = len1 (x :: r)
  | x, [], c => by rw [Lib.join_one]; rfl
  | x, y :: r, c => by
    rw [join_cons2]
    have ih := join_len1 y r c
    simp only [List.length_append, List.length_cons, len1, List.map_cons, List.sum_cons] at ih ⊢
    omega
theorem pieces_join {c : UInt8} {ws : List ByteArray} (h0 : ws ≠ []) (h : ∀ w ∈ ws, ∀ b ∈ w.data.toList, b ≠ c) : pieces c ⟨(Lib.join (ws.map (·.data.toList)) [c]).toArray⟩ = ws := by
  obtain ⟨x, r, rfl⟩ := List.exists_cons_of_ne_nil h0
  unfold pieces
  have : (⟨(Lib.join ((x :: r).map (·.data.toList)) [c]).toArray⟩ : ByteArray).data.toList = Lib.join ((x :: r).map (·.data.toList)) [c] := rfl
  rw [this, List.map_cons, cut_join _ _ (by
    intro w hw
    rw [← List.map_cons (f := fun x : ByteArray => x.data.toList)] at hw
    obtain ⟨y, hy, rfl⟩ := List.mem_map.1 hw
    exact h y hy), ← List.map_cons (f := fun x : ByteArray => x.data.toList), List.map_map]
  have : ((fun l : List UInt8 => (⟨l.toArray⟩ : ByteArray)) ∘ fun x : ByteArray => x.data.toList) = id := by funext x; rfl
  rw [this, List.map_id]

/-! ### the end of a text -/
theorem pass_nil : passB ⟨#[]⟩ = true := rfl
theorem parseLines_trail : ∀ (ls : List ByteArray) (i : Nat) (b : Bool) (c : Cfg) (ss : List StepV), parseLines (ls ++ [⟨#[]⟩]) i b c ss = parseLines ls i b c ss
  | [], i, b, c, ss => by simp [parseLines, pass_nil]
  | l :: ls, i, b, c, ss => by
    rw [List.cons_append, parseLines, parseLines]
    split
    · exact parseLines_trail ls _ _ _ _
    · split
      · rfl
      · exact parseLines_trail ls _ _ _ _
theorem suffix_end {l : List UInt8} (h : hasSuffix l [10] = true) : ∃ x, l = x ++ [10] ∧ trimSuffix l [10] = x := by
  have h' := h
  unfold hasSuffix at h
  obtain ⟨x, rfl⟩ := List.isSuffixOf_iff_suffix.1 h
  exact ⟨x, rfl, by unfold trimSuffix; rw [if_pos h']; simp⟩
theorem parse_cut {s : ByteArray} (h : s.size ≤ 1048576) : parseP s = parseLines (pieces 10 s) 0 false cfg0 [] := by
  rw [parseP, if_neg (by omega)]
  unfold trim
  cases hx : hasSuffix s.data.toList [10] with
  | true =>
    obtain ⟨x, e1, e2⟩ := suffix_end hx
    rw [e2]
    have : pieces 10 s = pieces 10 ⟨x.toArray⟩ ++ [⟨#[]⟩] := by
      unfold pieces
      rw [e1, cut_end, List.map_append]
      rfl
    rw [this, parseLines_trail]
  | false =>
    unfold trimSuffix
    rw [hx]
    rfl

/-! ### numbers -/
def vl (a : Int) (l : List UInt8) : Int := l.foldl (fun a c => a * 10 + ((c.toNat : Int) - 48)) a
def dig (c : UInt8) : Prop := 48 ≤ c.toNat ∧ c.toNat ≤ 57
theorem vl_ge : ∀ (l : List UInt8) (a : Int), 0 ≤ a → (∀ c ∈ l, dig c) → a ≤ vl a l
  | [], a, _, _ => by simp [vl]
  | c :: l, a, h, hd => by
    have hc := hd c (by simp)
    unfold dig at hc
    have := vl_ge l (a * 10 + ((c.toNat : Int) - 48)) (by omega) fun x hx => hd x (by simp [hx])
    show a ≤ vl (a * 10 + ((c.toNat : Int) - 48)) l
    omega
theorem parseN_vl (most : Int) : ∀ (l : List UInt8) (a : Int), 0 ≤ a → (∀ c ∈ l, dig c) → vl a l ≤ most → parseN most l a = some (vl a l)
  | [], a, _, _, _ => by simp [parseN, vl]
  | c :: l, a, h, hd, hm => by
    have hc := hd c (by simp)
    unfold dig at hc
    have hm' : vl (a * 10 + ((c.toNat : Int) - 48)) l ≤ most := hm
    have hge := vl_ge l (a * 10 + ((c.toNat : Int) - 48)) (by omega) fun x hx => hd x (by simp [hx])
    rw [parseN, if_neg (by omega), if_neg (by omega)]
    exact parseN_vl most l _ (by omega) (fun x hx => hd x (by simp [hx])) hm'
theorem digF_dig : ∀ (k u : Nat), ∀ c ∈ digF k u, dig c
  | 0, _, c, h => by simp [digF] at h
  | k + 1, u, c, h => by
    rw [digF] at h
    have e : ∀ n : Nat, n < 10 → dig (UInt8.ofNat (48 + n)) := fun n hn => by unfold dig; rw [UInt8.toNat_ofNat']; omega
    split at h
    · rename_i hu
      rw [List.mem_singleton] at h; subst h; exact e u hu
    · rcases List.mem_append.1 h with h | h
      · exact digF_dig k _ c h
      · rw [List.mem_singleton] at h; subst h; exact e _ (Nat.mod_lt _ (by omega))
theorem digF_vl : ∀ (k u : Nat), u < 10 ^ k → 0 < k → vl 0 (digF k u) = u
  | 0, _, _, h => absurd h (by omega)
  | k + 1, u, hu, _ => by
    have e : ∀ n : Nat, n < 10 → (((UInt8.ofNat (48 + n)).toNat : Int) - 48) = n := fun n hn => by rw [UInt8.toNat_ofNat']; omega
    rw [digF]
    by_cases h : u < 10
    · rw [if_pos h]
      show (0 : Int) * 10 + _ = _
      rw [e u h]; omega
    · rw [if_neg h]
      cases k with
      | zero => exact absurd hu (by omega)
      | succ k =>
        have ih := digF_vl (k + 1) (u / 10) (by rw [Nat.pow_succ] at hu; omega) (by omega)
        unfold vl at ih ⊢
        rw [List.foldl_append, ih]
        show ((u / 10 : Nat) : Int) * 10 + _ = _
        rw [e _ (Nat.mod_lt _ (by omega))]
        omega
theorem digF_ne {k u : Nat} (h : 0 < k) : digF k u ≠ [] := by
  cases k with
  | zero => omega
  | succ k => rw [digF]; split <;> simp
theorem numV_dec {n : Int} (h0 : 0 ≤ n) (h1 : n ≤ 4611686018427387903) : numV (dec n) = some n := by
  have e : (dec n).data.toList = digF 20 n.toNat := by rw [dec, if_neg (by omega)]
  have hv := digF_vl 20 n.toNat (by omega) (by omega)
  rw [numV, parseV, e, if_neg (digF_ne (by omega)), parseN_vl _ _ _ (by omega) (digF_dig _ _) (by rw [hv]; omega), hv]
  congr 1
  omega
theorem parseN_lt (most : Int) : ∀ (l : List UInt8) (a n : Int), 0 ≤ a → a ≤ most → parseN most l a = some n → 0 ≤ n ∧ n ≤ most ∧ n < (a + 1) * 10 ^ l.length
  | [], a, n, h0, h1, h => by rw [parseN] at h; cases h; simp; omega
  | c :: l, a, n, h0, h1, h => by
    rw [parseN] at h
    split at h
    · cases h
    · split at h
      · cases h
      · rename_i h2 h3
        obtain ⟨x1, x2, x3⟩ := parseN_lt most l _ n (by omega) (by omega) h
        refine ⟨x1, x2, ?_⟩
        rw [List.length_cons, Int.pow_succ]
        have hp : (0 : Int) < 10 ^ l.length := Int.pow_pos (by decide)
        have h4 : (a * 10 + ((c.toNat : Int) - 48) + 1) * 10 ^ l.length ≤ ((a + 1) * 10) * 10 ^ l.length := Int.mul_le_mul_of_nonneg_right (by omega) (by omega)
        have h5 : (a + 1) * (10 ^ l.length * 10) = ((a + 1) * 10) * 10 ^ l.length := by rw [Int.mul_comm (10 ^ l.length) 10, ← Int.mul_assoc]
        omega
theorem digF_len : ∀ (k u j : Nat), u < 10 ^ j → 0 < j → (digF k u).length ≤ j
  | 0, _, _, _, _ => by simp [digF]
  | k + 1, u, j, h, hj => by
    rw [digF]
    split
    · simp; omega
    · rename_i hu
      cases j with
      | zero => omega
      | succ j =>
        cases j with
        | zero => omega
        | succ j =>
          have := digF_len k (u / 10) (j + 1) (by rw [Nat.pow_succ] at h; omega) (by omega)
          simp; omega
theorem numV_some {s : ByteArray} {n : Int} (h : numV s = some n) : 0 ≤ n ∧ n ≤ 4611686018427387903 ∧ (dec n).size ≤ s.size := by
  rw [numV, parseV] at h
  split at h
  · cases h
  · rename_i hne
    obtain ⟨h1, h2, h3⟩ := parseN_lt _ _ _ _ (by omega) (by omega) h
    refine ⟨h1, h2, ?_⟩
    have hl : 0 < s.data.toList.length := List.length_pos_iff.2 hne
    have hs : s.data.toList.length = s.size := by simp
    have hlt : n.toNat < 10 ^ s.data.toList.length := by
      have e : ((10 ^ s.data.toList.length : Nat) : Int) = 10 ^ s.data.toList.length := by simp
      omega
    rw [dec, if_neg (by omega)]
    show (digF 20 n.toNat).toArray.size ≤ s.size
    have := digF_len 20 n.toNat _ hlt hl
    rw [List.size_toArray]; omega
theorem wnum_some {n : Int} {s : ByteArray} (h : wnum n = some s) : 0 ≤ n ∧ n ≤ 4611686018427387903 ∧ s = dec n := by
  unfold wnum at h
  split at h
  · cases h
  · cases h; exact ⟨by omega, by omega, rfl⟩
theorem wnum_of {n : Int} (h0 : 0 ≤ n) (h1 : n ≤ 4611686018427387903) : wnum n = some (dec n) := by rw [wnum, if_neg (by omega)]

/-! ### data -/
theorem hexI_hexD : ∀ n : Fin 16, hexI (hexD n.1) = n.1 := by decide +kernel
theorem unesc_esc (c : UInt8) (r acc : List UInt8) : unesc (esc c ++ r) acc = unesc r (acc ++ [c]) := by
  unfold esc
  split
  · rename_i h; subst h; simp [unesc_cons]
  · split
    · rename_i h; subst h; simp [unesc_cons]
    · split
      · rename_i h; subst h; simp [unesc_cons]
      · split
        · rename_i h; subst h; simp [unesc_cons]
        · rename_i h92
          split
          · rw [List.singleton_append, unesc_cons, if_pos h92]
          · have hr := c.toNat_lt
            have e1 := hexI_hexD ⟨c.toNat / 16, by omega⟩
            have e2 := hexI_hexD ⟨c.toNat % 16, by omega⟩
            simp only at e1 e2
            simp only [List.cons_append, List.nil_append]
            rw [unesc_cons, if_neg (by simp)]
            simp only [show (120 : UInt8) ≠ 115 by decide, show (120 : UInt8) ≠ 114 by decide, show (120 : UInt8) ≠ 110 by decide, show (120 : UInt8) ≠ 92 by decide, if_false, if_true]
            rw [e1, e2, if_neg (by omega)]
            have : UInt8.ofNat (16 * ((c.toNat / 16 : Nat) : Int).toNat + ((c.toNat % 16 : Nat) : Int).toNat) = c := by
              apply UInt8.toNat_inj.1
              rw [UInt8.toNat_ofNat']
              omega
            rw [this]
theorem unesc_all : ∀ (l acc : List UInt8), unesc (l.flatMap esc) acc = some (acc ++ l)
  | [], acc => by simp [unesc]
  | c :: l, acc => by rw [List.flatMap_cons, unesc_esc, unesc_all l]; simp
theorem bytesV_data (l : List UInt8) : bytesV ⟨(dataV l).toArray⟩ = some l := by
  rw [bytesV]
  show (match dataV l with | [] => none | c :: r => if c = 61 then unesc r [] else none) = _
  rw [dataV]
  simp only [if_true]
  rw [unesc_all]; simp
theorem esc_plain (c : UInt8) : ∀ b ∈ esc c, plainByte b = true := by
  have hx : ∀ n : Fin 16, plainByte (hexD n.1) = true := by decide +kernel
  have hr := c.toNat_lt
  unfold esc
  intro b hb
  repeat' (split at hb)
  all_goals simp only [List.mem_cons, List.not_mem_nil, or_false] at hb
  · rcases hb with rfl | rfl <;> rfl
  · rcases hb with rfl | rfl <;> rfl
  · rcases hb with rfl | rfl <;> rfl
  · rcases hb with rfl | rfl <;> rfl
  · subst hb; rename_i h; simpa [plainByte] using h
  · rcases hb with rfl | rfl | rfl | rfl
    · rfl
    · rfl
    · exact hx ⟨c.toNat / 16, by omega⟩
    · exact hx ⟨c.toNat % 16, by omega⟩
theorem esc_len_plain {c : UInt8} (hp : plainByte c = true) (h : c ≠ 92) : (esc c).length = 1 := by
  simp only [plainByte, decide_eq_true_eq] at hp
  have n1 : c ≠ 32 := by rintro rfl; simp at hp
  have n2 : c ≠ 13 := by rintro rfl; simp at hp
  have n3 : c ≠ 10 := by rintro rfl; simp at hp
  rw [esc, if_neg n1, if_neg n2, if_neg n3, if_neg h, if_pos hp]; rfl
theorem unesc_len : ∀ (n : Nat) (l acc d : List UInt8), l.length ≤ n → (∀ c ∈ l, plainByte c = true) → unesc l acc = some d → ∃ e, d = acc ++ e ∧ (e.flatMap esc).length ≤ l.length
  | n, [], acc, d, _, _, h => by rw [unesc] at h; cases h; exact ⟨[], by simp, by simp⟩
  | 0, _ :: _, _, _, hn, _, _ => by simp at hn
  | n + 1, c :: l, acc, d, hn, hp, h => by
    simp only [List.length_cons] at hn
    have one : ∀ (r : List UInt8) (x : UInt8) (k : Nat), r.length + k ≤ l.length + 1 → 0 < k → (∀ c ∈ r, plainByte c = true) → (esc x).length ≤ k → unesc r (acc ++ [x]) = some d → ∃ e, d = acc ++ e ∧ (e.flatMap esc).length ≤ l.length + 1 := by
      intro r x k hk hk0 hpr hx hu
      obtain ⟨e, he, hl⟩ := unesc_len n r (acc ++ [x]) d (by omega) hpr hu
      refine ⟨x :: e, by rw [he]; simp, ?_⟩
      rw [List.flatMap_cons, List.length_append]; omega
    rw [unesc_cons] at h
    by_cases hc : c ≠ 92
    · rw [if_pos hc] at h
      exact one l c 1 (by omega) (by omega) (fun x hx => hp x (by simp [hx])) (by rw [esc_len_plain (hp c (by simp)) hc]; omega) h
    · rw [if_neg hc] at h
      cases l with
      | nil => cases h
      | cons d1 r =>
        simp only [List.length_cons] at one hn ⊢
        have hpr : ∀ x ∈ r, plainByte x = true := fun x hx => hp x (by simp [hx])
        simp only at h
        split at h
        · exact one r 32 2 (by omega) (by omega) hpr (by decide) h
        · split at h
          · exact one r 13 2 (by omega) (by omega) hpr (by decide) h
          · split at h
            · exact one r 10 2 (by omega) (by omega) hpr (by decide) h
            · split at h
              · exact one r 92 2 (by omega) (by omega) hpr (by decide) h
              · split at h
                · match r, h with
                  | a :: b :: r, h =>
                    simp only at h
                    split at h
                    · cases h
                    · exact one r _ 4 (by simp) (by omega) (fun x hx => hpr x (by simp [hx])) (esc_len _) h
                  | [_], h => cases h
                  | [], h => cases h
                · cases h
theorem bytesV_some {s : ByteArray} {d : List UInt8} (hp : ∀ c ∈ s.data.toList, plainByte c = true) (h : bytesV s = some d) : (dataV d).length ≤ s.size := by
  have hs : s.data.toList.length = s.size := by simp
  rw [bytesV] at h
  split at h
  · cases h
  · rename_i c r hcr
    split at h
    · rw [hcr] at hp hs
      obtain ⟨e, he, hl⟩ := unesc_len r.length r [] d (Nat.le_refl _) (fun x hx => hp x (by simp [hx])) h
      simp at he
      subst he
      rw [dataV, List.length_cons]
      simp at hs; omega
    · cases h
end Go.Proofs.YtdnnamaimgijpaaDoor
