/- Contracts: the functions of yaml that go over pairs. Conditions: none. -/
import Derived.Test.YtggdogncmkffpaaDoorA2
import Derived.Test.YtggdogncmkffpaaDoorShelf
set_option linter.unusedVariables false
set_option maxRecDepth 10000
namespace Go.Proofs.YtggdogncmkffpaaDoor
open Go Go.Sx Go.Proofs Go.Lib Go.RowKit

abbrev Pr := ByteArray × ByteArray
def PairsAt (w : World) (v : Value) (ps : List Pr) : Prop :=
  ∃ x c, v = .slice x ps.length c ∧ ps.length ≤ c ∧ ps.length ≤ 1000000 ∧ (0 < ps.length → ∃ b cs fz, x = some ⟨b, 0, none⟩ ∧ w.heap[b]? = some (.cells cs 44 fz) ∧
    ∀ j (h : j < ps.length), cs[2 * j]? = some (.string ps[j].1) ∧ cs[2 * j + 1]? = some (.string ps[j].2))
theorem extract2 {cs : Array Value} {o : Nat} {a b : Value} (h0 : cs[o]? = some a) (h1 : cs[o + 1]? = some b) : cs.extract o (o + 2) = #[a, b] ∧ o + 2 ≤ cs.size := by
  obtain ⟨l0, e0⟩ := Array.getElem?_eq_some_iff.1 h0
  obtain ⟨l1, e1⟩ := Array.getElem?_eq_some_iff.1 h1
  refine ⟨?_, by omega⟩
  apply Array.ext
  · simp; omega
  · intro i h h'
    have hi : i = 0 ∨ i = 1 := by simp at h'; omega
    rcases hi with rfl | rfl
    · simp [e0]
    · simp [e1]
theorem PairsAt.take {w : World} {x : Option Addr} {c : Nat} {ps : List Pr} (h : PairsAt w (.slice x ps.length c) ps) (i : Nat) (hi : i ≤ ps.length) : PairsAt w (.slice x i c) (ps.take i) := by
  obtain ⟨x', c', he, hc, hm, hb⟩ := h
  simp only [Value.slice.injEq] at he
  obtain ⟨rfl, _, rfl⟩ := he
  have hl : (ps.take i).length = i := by simp; omega
  refine ⟨x, c, by rw [hl], by omega, by omega, fun h0 => ?_⟩
  obtain ⟨b, cs, fz, hx, hw, hcs⟩ := hb (by omega)
  refine ⟨b, cs, fz, hx, hw, fun j hj => ?_⟩
  have := hcs j (by omega)
  simpa using this
theorem PairsAt.below {w w' : World} {v : Value} {ps : List Pr} (h : PairsAt w v ps) (hb : Below w.heap.size w w') : PairsAt w' v ps := by
  obtain ⟨x, c, he, hc, hm, hp⟩ := h
  refine ⟨x, c, he, hc, hm, fun h0 => ?_⟩
  obtain ⟨b, cs, fz, hx, hw, hcs⟩ := hp h0
  exact ⟨b, cs, fz, hx, (hb.block b (Array.getElem?_eq_some_iff.1 hw).1).trans hw, hcs⟩
def hasB (ps : List Pr) (key : ByteArray) : Bool := ps.any fun p => decide (p.1.data.toList = key.data.toList)

theorem has_ret (v : Value) (ps : List Pr) (key : ByteArray) (w : World) (hv : PairsAt w v ps) : Ret P 33 #[v, .string key] w (fun r w' => r = .bool (hasB ps key) ∧ Below w.heap.size w w') := by
  obtain ⟨x, c, rfl, hc, hm, hp⟩ := hv
  refine f33.calls ?_
  unfold f33.f
  (repeat' (with_reducible first | refine Do.dec run_lss (fun _ => ?_) (fun _ => ?_) | refine Do.dec run_gtr (fun _ => ?_) (fun _ => ?_) | refine Do.dec run_leq (fun _ => ?_) (fun _ => ?_) | refine Do.dec run_geq (fun _ => ?_) (fun _ => ?_) | refine Do.dec run_eqi (fun _ => ?_) (fun _ => ?_) | refine Do.dec run_nei (fun _ => ?_) (fun _ => ?_) | refine Do.dec run_eqs (fun _ => ?_) (fun _ => ?_) | refine Do.dec run_nes (fun _ => ?_) (fun _ => ?_) | refine Do.ok run_pickT ?_ | refine Do.ok run_pickF ?_ | refine Do.ok run_notT ?_ | refine Do.ok run_notF ?_ | refine GuardK.tt ?_ | refine GuardK.ff ?_ | refine GuardK.tf ?_ | refine GuardK.ft ?_ | refine GuardK.un ?_ | refine If.t ?_ | refine If.f ?_ | refine Do.ok run_lenS ?_ | refine Do.ok run_lenStr ?_ | refine Do.ok run_nilp ?_ | refine Do.ok run_fld ?_ | refine Do.ok (run_ext rfl) ?_ | refine GuardT.tt ?_ | refine GuardT.ff ?_ | refine GuardT.tf ?_ | refine GuardT.ft ?_ | refine GuardT.un ?_ | refine Take.ok (fun _ _ => run_fld) ?_ | refine Take.ok (fun _ _ => run_pickT) ?_ | refine Take.ok (fun _ _ => run_pickF) ?_ | refine Take.ok (fun _ _ => run_notT) ?_ | refine Take.ok (fun _ _ => run_notF) ?_ | refine Take.dec (fun _ => run_lss) (fun _ => ?_) (fun _ => ?_) | refine Take.dec (fun _ => run_gtr) (fun _ => ?_) (fun _ => ?_) | refine Take.dec (fun _ => run_leq) (fun _ => ?_) (fun _ => ?_) | refine Take.dec (fun _ => run_eqi) (fun _ => ?_) (fun _ => ?_) | refine Take.dec (fun _ => run_nei) (fun _ => ?_) (fun _ => ?_) | refine Take.dec (fun _ => run_eqs) (fun _ => ?_) (fun _ => ?_)))
  refine ⟨fun k x w' => ∃ i : Nat, k + i = ps.length ∧ x = .int .i64 i ∧ (∀ j (h : j < ps.length), j < i → ps[j].1.data.toList ≠ key.data.toList) ∧ Has w w' [],
    ⟨ps.length, 0, by simp, rfl, fun j h hj => absurd hj (by omega), Has.init w⟩, ?_⟩
  rintro k σ w2 ⟨i, hk, hx, hall, H⟩
  rw [hx]
  unfold f33.l0
  refine Do.dec run_lss (fun hlt => If.t ?_) (fun hge => If.f ?_)
  · have hi : i < ps.length := by omega
    obtain ⟨b, cs, fz, rfl, hb, hcs⟩ := hp (by omega)
    obtain ⟨h0, h1⟩ := hcs i hi
    obtain ⟨he, hsz⟩ := extract2 h0 h1
    refine Do.ok (run_idx (by omega) (by omega)) ?_
    have ei : 0 + (i : Int).toNat * 2 = 2 * i := by omega
    rw [ei]
    refine Do.ok (run_loadBaseN H hb hsz) ?_
    rw [he]
    refine Do.alloc H ?_
    intro b6 w3 H3
    refine DoU.stN H3 0 rfl rfl (by simp) (by simp [Value.cells]) (fun j _ => by simp [open_]) ?_
    intro w4 H4
    refine Do.ok run_fld (Do.ld H4 0 (v := .string ps[i].1) rfl rfl ?_)
    refine Do.dec run_eqs (fun h => If.t ?_) (fun h => If.f ?_)
    · refine ⟨?_, H4.toBelow⟩
      have : hasB ps key = true := by
        rw [hasB, List.any_eq_true]
        exact ⟨ps[i], List.getElem_mem _, by simpa using h⟩
      rw [this]
    · refine Do.ok (run_addi (a := (i : Int)) (b := 1) (by omega)) (show ∃ k', k' < k ∧ _ from ⟨k - 1, by omega, i + 1, by omega, rfl, fun j h' hj => ?_, H4.tail⟩)
      by_cases hji : j = i
      · subst hji; exact h
      · exact hall j h' (by omega)
  · refine ⟨?_, H.toBelow⟩
    have : hasB ps key = false := by
      rw [hasB, List.any_eq_false]
      intro p hp'
      obtain ⟨j, hj, rfl⟩ := List.getElem_of_mem hp'
      simpa using hall j hj (by omega)
    rw [this]

/-! ### what Go's library does -/
theorem enters30 (args : Array Value) (w : World) : (callFunc 30 args).run P w = .ok (.enter 30 args) w := by kernel_rfl
theorem enters31 (args : Array Value) (w : World) : (callFunc 31 args).run P w = .ok (.enter 31 args) w := by kernel_rfl
theorem enters36 (args : Array Value) (w : World) : (callFunc 36 args).run P w = .ok (.enter 36 args) w := by kernel_rfl
theorem enters41 (args : Array Value) (w : World) : (callFunc 41 args).run P w = .ok (.enter 41 args) w := by kernel_rfl
theorem Ret.ofCalls {g : FuncId} {args : Array Value} {w : World} {v0 : Value} {Q : World → Prop} (h : Calls P g args w fun e w' => e = .returned v0 ∧ Q w') : Ret P g args w (fun v w' => v = v0 ∧ Q w') :=
  Calls.mono h (by rintro e w' ⟨rfl, h⟩; exact ⟨rfl, h⟩)
theorem byteCells_one' (l : List UInt8) : ∀ v ∈ byteCells l, v.oneCell' = true := by
  intro v hv
  simp only [byteCells, List.mem_map] at hv
  obtain ⟨c, _, rfl⟩ := hv
  rfl
/-- The buffer at block b: its own block, and its row. -/
def BufI (b : Nat) (bs : List UInt8) (I : List (Nat × Obj)) : Prop := ∃ v lr J, Row 5 1 v bs.length (byteCells bs) J ∧ I = (b, .cells #[v, .int .i64 0, .int .i8 lr] 70 (0, 0)) :: J
def noU8 (L : List (Nat × Obj)) : Prop := ∀ p ∈ L, ∀ c fz, p.2 ≠ .cells c 5 fz
theorem BufI.is {w0 w : World} {b : Nat} {bs : List UInt8} {I L : List (Nat × Obj)} (h : BufI b bs I) (H : Has w0 w (I ++ L)) : IsBuffer 70 5 w0.heap.size b (byteCells bs) w := by
  obtain ⟨v, lr, J, hr, rfl⟩ := h
  have hb := H.own _ (List.mem_cons_self)
  have hnd := H.nd
  refine ⟨hb.1, v, lr, hb.2, ?_, ?_⟩
  · have := Row.owns (L := L) (w0 := w0) (w := w) hr (H.sub (List.sublist_cons_self _ _))
    rwa [byteCells_length]
  · generalize bs.length = m at hr
    generalize byteCells bs = xs at hr
    cases hr with
    | nil => simp [Value.ownBlock]
    | row hn hc hnc hcm =>
      simp only [List.cons_append, List.map_cons, List.nodup_cons, List.nil_append, List.mem_cons, not_or] at hnd
      simp only [Value.ownBlock, ne_eq, Option.some.injEq]
      exact fun e => hnd.1.1 e.symm
theorem BufI.of {w0 w w' : World} {b : Nat} {bs bs' : List UInt8} {I L : List (Nat × Obj)} (h : BufI b bs I) (H : Has w0 w (I ++ L)) (hL : noU8 L)
    (hi : IsBuffer 70 5 w0.heap.size b (byteCells bs') w') (hb : Below w0.heap.size w w') (hk : OthersKept 5 (some b) w w') : ∃ I', BufI b bs' I' ∧ Has w0 w' (I' ++ L) := by
  obtain ⟨v, lr, J, hr, rfl⟩ := h
  obtain ⟨hB, v', lr', hb', ho, hne⟩ := hi
  obtain ⟨J', hr', hJ'⟩ := Row.of_owns ho
  rw [byteCells_length] at hr'
  have hbL : ∀ p ∈ L, p.1 ≠ b := fun p hp e => by
    have hnd := H.nd
    simp only [List.cons_append, List.map_cons, List.nodup_cons, List.map_append, List.mem_append, not_or] at hnd
    exact hnd.1.2 (List.mem_map.2 ⟨p, hp, e⟩)
  have HL : Has w0 w' L := Has.kept (H.sub (((List.sublist_append_right J L).cons _))) hb hk (Nat.le_refl _) (fun p hp => .inr ⟨by simpa using hbL p hp, hL p hp⟩)
  refine ⟨_, ⟨v', lr', J', hr', rfl⟩, HL.os, HL.tape, HL.output, HL.size, HL.base, fun p hp => ?_, ?_⟩
  · simp only [List.cons_append, List.mem_cons, List.mem_append] at hp
    rcases hp with rfl | hp | hp
    · exact ⟨hB, hb'⟩
    · exact ⟨(hJ' p hp).2.1, (hJ' p hp).2.2.1⟩
    · exact HL.own p hp
  · simp only [List.cons_append, List.map_cons, List.map_append, List.nodup_cons, List.mem_append, not_or]
    refine ⟨⟨fun hm => ?_, fun hm => ?_⟩, ?_⟩
    · obtain ⟨p, hp, e⟩ := List.mem_map.1 hm
      have := (hJ' p hp).1
      rw [e] at this
      exact hne this
    · obtain ⟨p, hp, e⟩ := List.mem_map.1 hm
      exact hbL p hp e
    · rw [List.nodup_append]
      refine ⟨?_, HL.nd, fun x hx y hy e => ?_⟩
      · rcases J' with _ | ⟨p, r⟩
        · simp
        · have := (hJ' p (by simp)).2.2.2.2
          rw [this]; simp
      · obtain ⟨p, hp, rfl⟩ := List.mem_map.1 hx
        obtain ⟨q, hq, rfl⟩ := List.mem_map.1 hy
        obtain ⟨c, hc⟩ := (hJ' p hp).2.2.2.1
        have h1 := (hJ' p hp).2.2.1
        have h2 := (HL.own q hq).2
        rw [← e, h1, Option.some.injEq] at h2
        exact hL q hq c (0, 0) (h2.symm.trans hc)
theorem writeString_ret {w0 w : World} {b : Nat} {bs : List UInt8} {I L : List (Nat × Obj)} (hB : BufI b bs I) (H : Has w0 w (I ++ L)) (hL : noU8 L) (s : ByteArray) (hlim : bs.length + s.size ≤ 140737488355328) :
    Ret P 31 #[.pointer (some ⟨b, 0, none⟩), .string s] w (fun _ w' => ∃ I', BufI b (bs ++ s.data.toList) I' ∧ Has w0 w' (I' ++ L)) := by
  refine Ret.mono (Ret.ofCalls (Tryd.Buffer_WriteString_k w0.heap.size b (byteCells bs) s w (hB.is H) H.size (byteCells_one' bs) (by rw [byteCells_length]; exact hlim))) ?_
  rintro v w' ⟨_, h1, h2, h3⟩
  rw [← byteCells_append] at h1
  exact hB.of H hL h1 h2 h3
theorem writeByte_ret {w0 w : World} {b : Nat} {bs : List UInt8} {I L : List (Nat × Obj)} (hB : BufI b bs I) (H : Has w0 w (I ++ L)) (hL : noU8 L) (c : UInt8) (hlim : bs.length + 1 ≤ 140737488355328) :
    Ret P 41 #[.pointer (some ⟨b, 0, none⟩), .int .u8 (c.toNat : Int)] w (fun _ w' => ∃ I', BufI b (bs ++ [c]) I' ∧ Has w0 w' (I' ++ L)) := by
  refine Ret.mono (Ret.ofCalls (Tryd.Buffer_WriteByte_k w0.heap.size b (byteCells bs) c.toNat w (hB.is H) H.size (byteCells_one' bs) (by rw [byteCells_length]; exact hlim))) ?_
  rintro v w' ⟨_, h1, h2, h3⟩
  have e : byteCells bs ++ [Value.int .u8 (c.toNat : Int)] = byteCells (bs ++ [c]) := by rw [byteCells_append]; rfl
  rw [e] at h1
  exact hB.of H hL h1 h2 h3
def flatS (parts : List ByteArray) : List UInt8 := (parts.map fun p => p.data.toList).flatten
theorem flatS_take {parts : List ByteArray} {i : Nat} (h : i < parts.length) : flatS (parts.take (i + 1)) = flatS (parts.take i) ++ parts[i].data.toList := by
  rw [flatS, flatS, List.take_succ_eq_append_getElem h, List.map_append, List.flatten_append]
  simp only [List.map_cons, List.map_nil, List.flatten_cons, List.flatten_nil, List.append_nil]
theorem flatS_le {parts : List ByteArray} {i : Nat} : (flatS (parts.take i)).length ≤ (flatS parts).length := by
  have : flatS parts = flatS (parts.take i) ++ flatS (parts.drop i) := by
    rw [flatS, flatS, flatS, ← List.flatten_append, ← List.map_append, List.take_append_drop]
  rw [this, List.length_append]; omega
theorem line_ret {w0 w : World} {b bp : Nat} {bs : List UInt8} {parts : List ByteArray} {I L : List (Nat × Obj)}
    (hB : BufI b bs I) (H : Has w0 w (I ++ ((bp, .cells (parts.map Value.string).toArray 9 (0, 0)) :: L))) (hL : noU8 L) (hlim : bs.length + (flatS parts).length ≤ 1000000000) (hn : parts.length ≤ 1000000) :
    Ret P 35 #[.pointer (some ⟨b, 0, none⟩), .slice (some ⟨bp, 0, none⟩) parts.length parts.length] w (fun _ w' => ∃ I', BufI b (bs ++ flatS parts ++ [10]) I' ∧ Has w0 w' (I' ++ L)) := by
  have hL' : noU8 ((bp, .cells (parts.map Value.string).toArray 9 (0, 0)) :: L) := by
    intro p hp c fz
    rcases List.mem_cons.1 hp with rfl | hp
    · simp
    · exact hL p hp c fz
  refine f35.calls ?_
  unfold f35.f
  (repeat' (with_reducible first | refine Do.dec run_lss (fun _ => ?_) (fun _ => ?_) | refine Do.dec run_gtr (fun _ => ?_) (fun _ => ?_) | refine Do.dec run_leq (fun _ => ?_) (fun _ => ?_) | refine Do.dec run_geq (fun _ => ?_) (fun _ => ?_) | refine Do.dec run_eqi (fun _ => ?_) (fun _ => ?_) | refine Do.dec run_nei (fun _ => ?_) (fun _ => ?_) | refine Do.dec run_eqs (fun _ => ?_) (fun _ => ?_) | refine Do.dec run_nes (fun _ => ?_) (fun _ => ?_) | refine Do.ok run_pickT ?_ | refine Do.ok run_pickF ?_ | refine Do.ok run_notT ?_ | refine Do.ok run_notF ?_ | refine GuardK.tt ?_ | refine GuardK.ff ?_ | refine GuardK.tf ?_ | refine GuardK.ft ?_ | refine GuardK.un ?_ | refine If.t ?_ | refine If.f ?_ | refine Do.ok run_lenS ?_ | refine Do.ok run_lenStr ?_ | refine Do.ok run_nilp ?_ | refine Do.ok run_fld ?_ | refine Do.ok (run_ext rfl) ?_ | refine GuardT.tt ?_ | refine GuardT.ff ?_ | refine GuardT.tf ?_ | refine GuardT.ft ?_ | refine GuardT.un ?_ | refine Take.ok (fun _ _ => run_fld) ?_ | refine Take.ok (fun _ _ => run_pickT) ?_ | refine Take.ok (fun _ _ => run_pickF) ?_ | refine Take.ok (fun _ _ => run_notT) ?_ | refine Take.ok (fun _ _ => run_notF) ?_ | refine Take.dec (fun _ => run_lss) (fun _ => ?_) (fun _ => ?_) | refine Take.dec (fun _ => run_gtr) (fun _ => ?_) (fun _ => ?_) | refine Take.dec (fun _ => run_leq) (fun _ => ?_) (fun _ => ?_) | refine Take.dec (fun _ => run_eqi) (fun _ => ?_) (fun _ => ?_) | refine Take.dec (fun _ => run_nei) (fun _ => ?_) (fun _ => ?_) | refine Take.dec (fun _ => run_eqs) (fun _ => ?_) (fun _ => ?_)))
  refine ⟨fun k x w' => ∃ (i : Nat) (I' : List (Nat × Obj)), k + i = parts.length ∧ x = .int .i64 i ∧ BufI b (bs ++ flatS (parts.take i)) I' ∧ Has w0 w' (I' ++ ((bp, .cells (parts.map Value.string).toArray 9 (0, 0)) :: L)),
    ⟨parts.length, 0, I, by simp, rfl, by simpa [flatS] using hB, H⟩, ?_⟩
  rintro k σ w2 ⟨i, I', hk, hx, hB2, H2⟩
  rw [hx]
  unfold f35.l0
  have hle := flatS_le (parts := parts) (i := i)
  refine Do.dec run_lss (fun hlt => If.t ?_) (fun hge => If.f ?_)
  · have hi : i < parts.length := by omega
    have hs := flatS_take hi
    have hle' := flatS_le (parts := parts) (i := i + 1)
    rw [hs, List.length_append] at hle'
    have hsz : parts[i].data.toList.length = parts[i].size := by simp
    have hbk := (H2.own (bp, .cells (parts.map Value.string).toArray 9 (0, 0)) (by simp)).2
    refine Do.ok (run_idx (by omega) (by omega)) (Do.ok (run_load1 (v := .string parts[i]) ((cell_of_blk hbk _).trans (by simp [hi]))) ?_)
    refine CallF.ret (enters31 _ _) (writeString_ret hB2 H2 hL' parts[i] (by rw [List.length_append]; omega)) ?_
    rintro _ w3 ⟨I3, hB3, H3⟩
    refine Do.ok (run_addi (a := (i : Int)) (b := 1) (by omega)) (show ∃ k', k' < k ∧ _ from ⟨k - 1, by omega, i + 1, I3, by omega, rfl, ?_, H3⟩)
    rw [hs, ← List.append_assoc]; exact hB3
  · have hi : i = parts.length := by omega
    subst hi
    rw [List.take_length] at hB2
    refine CallF.ret (enters41 _ _) (writeByte_ret hB2 H2 hL' 10 (by rw [List.length_append]; omega)) ?_
    rintro _ w3 ⟨I3, hB3, H3⟩
    exact ⟨I3, hB3, H3.sub (List.Sublist.append_left (List.sublist_cons_self _ _) _)⟩
end Go.Proofs.YtggdogncmkffpaaDoor
