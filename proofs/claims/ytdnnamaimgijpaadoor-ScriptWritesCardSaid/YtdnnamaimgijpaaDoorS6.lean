/- What the shelf says, in this seat's words: the tables, digits.Print, digits.Split, split. Conditions: none. -/
import Derived.Test.YtdnnamaimgijpaaDoorS5
import Derived.Test.YtdnnamaimgijpaaDoorSxMem5
import Derived.Test.YtdnnamaimgijpaaDoorShelf
set_option linter.unusedVariables false
set_option maxRecDepth 10000
namespace Go.Proofs.YtdnnamaimgijpaaDoor
open Go Go.Sx Go.Proofs Go.Lib Go.RowKit

theorem Ret.ofCalls {g : FuncId} {args : Array Value} {w : World} {v0 : Value} {Q : World → Prop} (h : Calls P g args w fun e w' => e = .returned v0 ∧ Q w') : Ret P g args w (fun v w' => v = v0 ∧ Q w') :=
  Calls.mono h (by rintro e w' ⟨rfl, h⟩; exact ⟨rfl, h⟩)
/-- A number's text. -/
def digF : Nat → Nat → List UInt8
  | 0, _ => []
  | k + 1, u => if u < 10 then [UInt8.ofNat (48 + u)] else digF k (u / 10) ++ [UInt8.ofNat (48 + u % 10)]
theorem digF_eq : ∀ (k u : Nat), u < 10 ^ k → 0 < k → digF k u = decDigits u
  | 0, _, _, h => absurd h (by omega)
  | k + 1, u, hu, _ => by
    rw [digF, decDigits]
    by_cases h : u < 10
    · rw [if_pos h, dif_pos h]
    · rw [if_neg h, dif_neg h]
      cases k with
      | zero => exact absurd hu (by omega)
      | succ k => rw [digF_eq (k + 1) (u / 10) (by rw [Nat.pow_succ] at hu; omega) (by omega)]
def dec (n : Int) : ByteArray := if n < 0 then ⟨#[]⟩ else ⟨(digF 20 n.toNat).toArray⟩
theorem dec_itoa {n : Int} (h0 : 0 ≤ n) (h1 : n ≤ 9223372036854775807) : dec n = ⟨(itoa n).toArray⟩ := by
  rw [dec, if_neg (by omega), itoa, if_neg (by omega), digF_eq 20 n.toNat (by omega) (by omega)]
def Tab (w : World) : Prop := TabIs Tryd.prog w "internal/strconv.uint64pow10" .u64 pow10Tab
theorem Tab.below {w w' : World} (h : Tab w) (hb : Below w.heap.size w w') : Tab w' := by
  unfold Tab TabIs World.var? at *
  cases hg : Tryd.prog.globalNamed "internal/strconv.uint64pow10" with
  | none => rw [hg] at h; simp at h
  | some g =>
    rw [hg] at h
    simp only [Option.bind_some] at h ⊢
    rcases Nat.lt_or_ge g w.heap.size with hl | hl
    · rw [hb.block g hl]; exact h
    · rw [Array.getElem?_eq_none hl] at h; simp at h
/-- What the library's variables are. -/
def Glb (w : World) : Prop := Tab w ∧ ∃ m, w.cell? ⟨0, 0, none⟩ = some (.int .i64 m)
theorem Glb.below {w w' : World} (h : Glb w) (hb : Below w.heap.size w w') : Glb w' := by
  obtain ⟨h1, m, h2⟩ := h
  refine ⟨h1.below hb, m, ?_⟩
  have hl : 0 < w.heap.size := World.block_lt_of_cell? _ _ h2
  unfold World.cell? at h2 ⊢
  simp only [hb.block 0 hl]
  exact h2
theorem Glb.has {w0 w : World} {L : List (Nat × Obj)} (h : Glb w0) (H : Has w0 w L) : Glb w := h.below H.toBelow
def i64 (n : Int) : Prop := -9223372036854775808 ≤ n ∧ n ≤ 9223372036854775807
theorem grow_below (w : World) (k : Nat) (os : Array Obj) : Below w.heap.size w (Sort.grow (w.drewN k) os) := by
  refine ⟨rfl, rfl, rfl, ?_, fun b hb => ?_⟩
  · simp [Sort.grow]
  · show (w.heap ++ os)[b]? = w.heap[b]?
    rw [Array.getElem?_append_left hb]
theorem enters68 (args : Array Value) (w : World) : (callFunc 68 args).run P w = .ok (.enter 68 args) w := by kernel_rfl
theorem enters20 (args : Array Value) (w : World) : (callFunc 20 args).run P w = .ok (.enter 20 args) w := by kernel_rfl
theorem enters21 (args : Array Value) (w : World) : (callFunc 21 args).run P w = .ok (.enter 21 args) w := by kernel_rfl
theorem enters38 (args : Array Value) (w : World) : (callFunc 38 args).run P w = .ok (.enter 38 args) w := by kernel_rfl
theorem enters82 (args : Array Value) (w : World) : (callFunc 82 args).run P w = .ok (.enter 82 args) w := by kernel_rfl
theorem enters42 (args : Array Value) (w : World) : (callFunc 42 args).run P w = .ok (.enter 42 args) w := by kernel_rfl
theorem enters44 (args : Array Value) (w : World) : (callFunc 44 args).run P w = .ok (.enter 44 args) w := by kernel_rfl
theorem enters66 (args : Array Value) (w : World) : (callFunc 66 args).run P w = .ok (.enter 66 args) w := by kernel_rfl
theorem print_ret (n : Int) (hn : i64 n) (w : World) (ht : Glb w) : Ret P 39 #[.int .i64 n] w (fun v w' => v = .string (dec n) ∧ Below w.heap.size w w') := by
  refine f39.calls ?_
  unfold f39.f
  refine Do.dec run_lss (fun h => If.t ?_) (fun h => If.f ?_)
  · exact ⟨by rw [dec, if_pos h], Below.refl _ _⟩
  · refine CallF.ret (enters68 _ _) (Ret.ofCalls (Tryd.strconv_Itoa n hn.1 hn.2 w ht.1)) ?_
    rintro _ w' ⟨rfl, k, os, rfl⟩
    exact ⟨by rw [dec_itoa (by omega) hn.2], grow_below w k os⟩

/-! ### strings.Split at one byte -/
def cut (c : UInt8) : List UInt8 → List (List UInt8)
  | [] => [[]]
  | b :: l => if b = c then [] :: cut c l else match cut c l with
    | [] => [[b]]
    | h :: t => (b :: h) :: t
theorem cut_ne (c : UInt8) (l : List UInt8) : cut c l ≠ [] := by
  cases l with
  | nil => simp [cut]
  | cons b l => unfold cut; split; simp; split <;> simp
theorem cut_splitK (c : UInt8) (l : List UInt8) : splitK [c] 0 (count l [c]) l = cut c l := by
  induction l with
  | nil => rw [count_miss (by simp [index])]; rfl
  | cons b l ih =>
    by_cases h : b = c
    · subst h
      have hix : index (b :: l) [b] = 0 := by rw [index]; simp [List.isPrefixOf]
      rw [count_cons_eq, Nat.add_comm, splitK, hix, if_neg (by decide)]
      simp only [cut, if_true, ← ih]
      rfl
    · rw [count_cons_ne b c l h]
      have hp : ([c] : List UInt8).isPrefixOf (b :: l) = false := by simp [List.isPrefixOf, Ne.symm h]
      have hix : index (b :: l) [c] = if index l [c] == -1 then -1 else index l [c] + 1 := by rw [index, hp]; simp
      rw [cut, if_neg h, ← ih]
      cases hc : count l [c] with
      | zero => simp [splitK]
      | succ k =>
        have hge := index_ge l [c]
        have hne : ¬ index l [c] = -1 := fun e => by rw [count_miss e] at hc; cases hc
        rw [if_neg (by simpa using hne)] at hix
        rw [splitK, splitK, hix, if_neg (by simpa using (by omega : ¬ index l [c] + 1 = -1)), if_neg (by simpa using hne)]
        have e1 : (index l [c] + 1).toNat = (index l [c]).toNat + 1 := by omega
        simp only [e1, List.take_succ_cons, List.drop_succ_cons, Nat.add_zero, Nat.add_right_comm _ 1 _]
def pieces (c : UInt8) (s : ByteArray) : List ByteArray := (cut c s.data.toList).map fun l => ⟨l.toArray⟩
theorem splitB_pieces (c : UInt8) (s : ByteArray) : splitB ⟨#[c]⟩ 0 (countB s ⟨#[c]⟩) s = pieces c s := by
  have h := splitB_data ⟨#[c]⟩ 0 (countB s ⟨#[c]⟩) s
  have e : countB s ⟨#[c]⟩ = count s.data.toList [c] := rfl
  rw [e] at h ⊢
  have h2 := h.trans (cut_splitK c s.data.toList)
  rw [pieces, ← h2, List.map_map]
  have : ((fun l : List UInt8 => (⟨l.toArray⟩ : ByteArray)) ∘ fun x : ByteArray => x.data.toList) = id := by funext x; rfl
  rw [this, List.map_id]
theorem pieces_len (c : UInt8) (s : ByteArray) : (pieces c s).length = countB s ⟨#[c]⟩ + 1 := by
  rw [← splitB_pieces]
  exact splitB_all ⟨#[c]⟩ (by simp [ByteArray.size]) 0 _ s rfl
theorem pieces_le (c : UInt8) (s : ByteArray) : (pieces c s).length ≤ s.size + 1 := by
  rw [pieces_len]
  have := countB_le ⟨#[c]⟩ (by simp [ByteArray.size]) s.size s (Nat.le_refl _)
  omega
def strsObj (ss : List ByteArray) : Obj := .cells (ss.map Value.string).toArray 9 (0, 0)
theorem split_calls (c : UInt8) (s : ByteArray) (hs : s.size < 4294967281) (w : World) (hg : Glb w) :
    Ret P 20 #[.string s, .string ⟨#[c]⟩] w (fun v w' => ∃ b, v = .slice (some ⟨b, 0, none⟩) (pieces c s).length (pieces c s).length ∧ Has w w' [(b, strsObj (pieces c s))]) := by
  obtain ⟨_, m, hm⟩ := hg
  refine Calls.mono (Tryd.strings_Split s ⟨#[c]⟩ m w hs hm (by simp [ByteArray.size])) ?_
  rintro e w' ⟨rfl, rfl⟩
  refine ⟨w.heap.size, by rw [pieces_len], ?_⟩
  rw [splitB_pieces]
  exact (Has.init w).alloc _
theorem StrsAt.ofBlk {w : World} {b : Nat} {ss : List ByteArray} (h : w.heap[b]? = some (strsObj ss)) (hm : ss.length ≤ 4611686018427387904) : StrsAt w (.slice (some ⟨b, 0, none⟩) ss.length ss.length) ss :=
  ⟨_, _, rfl, Nat.le_refl _, hm, fun _ => ⟨b, 0, _, _, rfl, h, fun j hj => by simp [hj]⟩⟩
theorem digitsSplit_ret (s : ByteArray) (hs : s.size < 4294967281) (w : World) (hg : Glb w) : Ret P 80 #[.string s] w (fun v w' =>
    (wordsB (pieces 32 s) = true ∧ ∃ b, v = .tuple #[.slice (some ⟨b, 0, none⟩) (pieces 32 s).length (pieces 32 s).length, .bool true] ∧ Has w w' [(b, strsObj (pieces 32 s))]) ∨
    (wordsB (pieces 32 s) = false ∧ v = .tuple #[.slice none 0 0, .bool false] ∧ Below w.heap.size w w')) := by
  refine f80.calls ?_
  unfold f80.f
  refine CallF.ret (enters20 _ _) (split_calls 32 s hs w hg) ?_
  rintro _ w1 ⟨b, rfl, H⟩
  have hle := pieces_le 32 s
  refine CallF.ret (f92.enters _ _) (words_ret _ (pieces 32 s) w1 (.ofBlk (H.get 0 rfl) (by omega))) ?_
  rintro _ w2 ⟨rfl, hb⟩
  cases h : wordsB (pieces 32 s) with
  | true => exact Do.ok run_notT (If.f (.inl ⟨rfl, b, rfl, H.below hb⟩))
  | false => exact Do.ok run_notF (If.t (.inr ⟨rfl, rfl, (H.below hb).toBelow⟩))
theorem split_try (s : ByteArray) (hs : s.size < 4294967281) (w : World) (hg : Glb w) : Try 52 #[.string s] w
    (fun v w' => wordsB (pieces 32 s) = true ∧ ∃ b, v = .slice (some ⟨b, 0, none⟩) (pieces 32 s).length (pieces 32 s).length ∧ Has w w' [(b, strsObj (pieces 32 s))])
    (fun c w' => wordsB (pieces 32 s) = false ∧ c = 191 ∧ Below w.heap.size w w') := by
  refine f52.calls ?_
  unfold f52.f
  refine CallF.ret (f80.enters _ _) (digitsSplit_ret s hs w hg) ?_
  rintro _ w1 (⟨hw, b, rfl, H⟩ | ⟨hw, rfl, hb⟩)
  · exact Do.ok (run_ext rfl) (Do.ok (run_ext rfl) (Do.ok run_notT (If.f ⟨hw, b, rfl, H⟩)))
  · exact Do.ok (run_ext rfl) (Do.ok (run_ext rfl) (Do.ok run_notF (If.t (CallF.fail ⟨191, rfl, hw, rfl, hb⟩))))
end Go.Proofs.YtdnnamaimgijpaaDoor
