/- The walk of ScriptRemarks. Conditions: none. -/
import Derived.Test.YtdnnamaimgijpaaDoorS31
set_option linter.unusedVariables false
set_option linter.unusedSectionVars false
set_option maxRecDepth 100000
namespace Go.Proofs.YtdnnamaimgijpaaDoor
open Go Go.Sx Go.Proofs Go.Lib Go.RowKit

theorem run_rem {t : TypeId} {a b : Int} {w : World} (h0 : 0 ≤ a) (h1 : 0 < b) : (binOp .rem t (.int .i64 a) (.int .i64 b)).run P w = .ok (.int .i64 (a % b)) w := by
  have hb : b ≠ 0 := by omega
  have e : a.tmod b = a % b := Int.tmod_eq_emod_of_nonneg h0
  simp [binOp, Op.intDiv, hb, e]
theorem run_neg {a : Int} {w : World} (h : -9223372036854775807 ≤ a ∧ a ≤ 9223372036854775807) : (Op.unary .neg (.int .i64 a)).run P w = .ok (.int .i64 (-a)) w := by
  have e : IntKind.i64.wrap (0 - a) = -a := by rw [wrap_id (by omega)]; omega
  simp [Op.unary, Op.intArith]
  simpa using e
theorem bs41_0 (w : World) : (Instr.buildSlice 41 0 #[]).run P w = .ok (.slice (some ⟨w.heap.size, 0, none⟩) 0 0) (w.alloc (.cells #[] 5)) := by kernel_rfl
theorem bs41_2 (w : World) : (Instr.buildSlice 41 2 #[(0, .int .u8 10), (1, .int .u8 10)]).run P w = .ok (.slice (some ⟨w.heap.size, 0, none⟩) 2 2) (w.alloc (.cells #[.int .u8 10, .int .u8 10] 5)) := by kernel_rfl
theorem byteCells_append (a b : List UInt8) : byteCells (a ++ b) = byteCells a ++ byteCells b := by simp [byteCells]
theorem byteCells_len (a : List UInt8) : (byteCells a).length = a.length := by simp [byteCells]
theorem byteCells_one (a : List UInt8) : ∀ y ∈ byteCells a, y.oneCell' = true := by
  intro y hy
  simp only [byteCells, List.mem_map] at hy
  obtain ⟨c, _, rfl⟩ := hy; rfl
theorem BRow.src {v : Value} {l : List UInt8} {I L : List (Nat × Obj)} {w0 w : World} (h : BRow v l I) (H : Has w0 w (I ++ L)) : Src P w 1 v l.length (byteCells l) := by
  have h' : Row 5 1 v l.length (byteCells l) I := h
  generalize hn : l.length = n at h'
  generalize hx : byteCells l = xs at h'
  cases h' with
  | nil => exact Src.nil
  | @row b _ c _ sp hxn hc hnc hcm =>
    refine Src.blk (H.get 0 rfl) (by rw [hxn]) (fun j y hj => ?_) (by rw [← hx]; exact byteCells_one l)
    have hlt := (List.getElem?_eq_some_iff.1 hj).1
    simp [List.getElem?_append_left hlt, hj]
section
variable {w0 w : World} {L I : List (Nat × Obj)} {v : Value} {acc : List UInt8} {K : Value → World → Prop} {X : List PanicEntry → World → Prop}
/-- 'append(v, x...)' of a slice of bytes of ours that goes on. -/
theorem appB {Ix : List (Nat × Obj)} {x : Value} {l : List UInt8} (H : Has w0 w (I ++ (Ix ++ L))) (hr : BRow v acc I) (hx : BRow x l Ix) (hlen : acc.length + l.length ≤ 140737488355328) {rt : TypeId}
    (k : ∀ v' I' w', BRow v' (acc ++ l) I' → Has w0 w' (I' ++ (Ix ++ L)) → K v' w') : Do P (Builtin.append_ #[41, 41] rt #[v, x]) w K X := by
  refine Do.append (t := 41) (t2 := 41) (.inr ⟨_, rfl⟩) H hr (hx.src H.swap3) (by omega) (by omega) ?_
  intro v' I' w' hr' H' _
  refine k v' I' w' ?_ H'
  unfold BRow
  rw [byteCells_append, List.length_append]
  exact hr'
theorem app2tens (H : Has w0 w (I ++ L)) (hr : BRow v acc I) (hlen : acc.length + 2 ≤ 140737488355328) {rt : TypeId} (k : ∀ v' I' w', BRow v' (acc ++ [10, 10]) I' → Has w0 w' (I' ++ L) → K v' w') :
    Do P (Instr.buildSlice 41 2 #[(0, .int .u8 10), (1, .int .u8 10)]) w (fun t w => Do P (Builtin.append_ #[41, 41] rt #[v, t]) w K X) X := by
  refine Do.bs H bs41_2 ?_
  intro b w1 H1
  refine Do.append2 (t := 41) H1 hr rfl (by simp [Value.oneCell']) (by omega) (by omega) ?_
  intro v' I' w' hr' H' _
  refine k v' I' w' ?_ H'
  unfold BRow
  rw [byteCells_append, List.length_append]
  exact hr'
end
def noTens (l : List UInt8) : List UInt8 := l.filter fun b => decide (b ≠ 10)
theorem noTens_no (l : List UInt8) : ∀ b ∈ noTens l, b ≠ 10 := by
  intro b hb
  simp only [noTens, List.mem_filter, decide_eq_true_eq] at hb
  exact hb.2
theorem noTens_len (l : List UInt8) : (noTens l).length ≤ l.length := List.length_filter_le _ _
theorem outT_snoc (E : Nat) (q l : List UInt8) (b : UInt8) : outT E q (l ++ [b]) = outT E q l ++ (if b = 10 then (if (tens l + 1) % E = 0 then 10 :: 10 :: ((35 :: q) ++ [10]) else [10]) else [b]) := by
  unfold outT
  rw [insT_snoc, Nat.zero_add]
  simp
theorem tens_snoc (l : List UInt8) (b : UInt8) : tens (l ++ [b]) = tens l + (if b = 10 then 1 else 0) := by
  unfold tens
  rw [List.count_append]
  by_cases hb : b = 10
  · subst hb; simp
  · rw [if_neg hb]; simp [hb]
theorem tens_le (l : List UInt8) : tens l ≤ l.length := List.count_le_length
theorem outT_ge (E : Nat) (q l : List UInt8) : q.length + 3 ≤ (outT E q l).length := by unfold outT; simp
theorem insT_ge (E : Nat) (p : List UInt8) : ∀ (l : List UInt8) (m : Nat), l.length ≤ (insT E p m l).length
  | [], m => by simp
  | b :: l, m => by
    have h1 := insT_ge E p l m
    have h2 := insT_ge E p l (m + 1)
    rw [insT]
    repeat' split
    all_goals simp; omega
section
variable {w0 : World} {text : ByteArray} {line e : Int} {pb8 : Nat} {cs : Array Value} {I8 : List (Nat × Obj)} {q : List UInt8} {E : Nat}
theorem rem_j3 {w : World} {L : List (Nat × Obj)} {b17 : Nat} {cs2 : Array Value} {I2 : List (Nat × Obj)} {c : Cfg} {ss : List StepV} {line2 want : Int} (hp : PlayAt cs c ss I8) (hp2 : PlayAt cs2 c ss I2)
    (H : Has w0 w ((pb8, .cells cs 31 (0, 0)) :: (b17, .cells cs2 31 (0, 0)) :: (I8 ++ (I2 ++ L)))) (hk : ∀ s ∈ ss, s.keep.length ≤ 4611686018427387904) (hss : ss.length ≤ 4611686018427387904) (hw : line2 = want) :
    f6.j3 (retT w0) (fun _ _ => False) (pt pb8) (pt b17) (.bool true) (.int .i64 e) (.int .i64 line2) (.int .i64 e) (.int .i64 want) w := by
  unfold f6.j3
  have Ha : Has w0 w (I8 ++ ((pb8, .cells cs 31 (0, 0)) :: (b17, .cells cs2 31 (0, 0)) :: (I2 ++ L))) := H.perm (by classical exact List.perm_iff_count.2 (fun a => by simp only [List.count_append, List.count_cons, List.count_nil, List.set_cons_zero, List.set_cons_succ, List.setIfInBounds_toArray, List.cons_append, List.nil_append, List.append_assoc]; omega))
  have Hb : Has w0 w (I2 ++ ((pb8, .cells cs 31 (0, 0)) :: (b17, .cells cs2 31 (0, 0)) :: (I8 ++ L))) := H.perm (by classical exact List.perm_iff_count.2 (fun a => by simp only [List.count_append, List.count_cons, List.count_nil, List.set_cons_zero, List.set_cons_succ, List.setIfInBounds_toArray, List.cons_append, List.nil_append, List.append_assoc]; omega))
  refine Do.ldAll H 0 rfl hp.shape.1 (Do.ldAll H 1 rfl hp2.shape.1 ?_)
  refine CallF.ret (f13.enters _ _) (same_ret w (hp.reads Ha) (hp2.reads Hb) hk hss) ?_
  rintro _ w2 ⟨b, rfl, hbs, hb2⟩
  have hbt : b = true := hbs.2 ⟨rfl, rfl⟩
  subst hbt
  refine GuardK.tt (Do.ok run_pickT (GuardK.tt (GuardK.tt (GuardK.tt (Do.dec run_eqi (fun _ => Do.ok run_pickT ?_) (fun h => absurd rfl h))))))
  refine GuardK.tt (GuardK.tt (GuardK.tt (Do.dec run_eqi (fun _ => Do.ok run_pickT ⟨rfl, (H.below hb2).toBelow⟩) (fun h => absurd hw h))))
end
section
variable {w0 : World} {text remark : ByteArray} {every : Int} (hg : Glb w0) (ht : text.size ≤ 140737488351232) (hr : remark.size ≤ 140737488351232) (hev : i64 every)
include hg ht
theorem remarks_j1 {w : World} {b8 : Nat} {cs : Array Value} {I8 Iz : List (Nat × Obj)} {z : Value} {q : List UInt8} {x : Int} (hq : ∀ b ∈ q, b ≠ 10) (hql : q.length ≤ 140737488351232) (hx : 0 ≤ x ∧ x ≤ 9223372036854775807)
    (hp : PlayAt cs (parseP text).cfg (parseP text).steps I8) (hz : BRow z (35 :: q) Iz) (H : Has w0 w (Iz ++ ((b8, .cells cs 31 (0, 0)) :: I8))) :
    f6.j1 (retT w0) (fun _ _ => False) (.string text) (pt b8) (.bool true) (.int .i64 (parseP text).line) (.int .i64 (parseP text).err) z (.int .i64 x) w := by
  unfold f6.j1
  obtain ⟨E, hE, hE1, hE2⟩ : ∃ E : Nat, 1 + x % 3 = (E : Int) ∧ 1 ≤ E ∧ E ≤ 3 := ⟨(1 + x % 3).toNat, by omega, by omega, by omega⟩
  refine Do.ok (run_rem hx.1 (by omega)) (Do.ok (run_addi (a := 1) (b := x % 3) (by omega)) ?_)
  rw [hE]
  refine Do.bs H bs41_0 ?_
  intro b w1 H1
  have hr0 : BRow (.slice (some ⟨b, 0, none⟩) 0 0) [] [(b, .cells (([] : List Value) ++ []).toArray 5 (0, 0))] := Row.row (T := 5) (sz := 1) (n := 0) (c := 0) (xs := []) (sp := []) rfl rfl (Nat.le_refl _) (Nat.zero_le _)
  refine appB (L := (b8, .cells cs 31 (0, 0)) :: I8) H1 hr0 hz (by simp; omega) ?_
  intro v2 I2 w2 hr2 H2
  rw [List.nil_append] at hr2
  refine app2tens H2 hr2 (by simp; omega) ?_
  intro v3 I3 w3 hr3 H3
  refine ⟨fun k x13 x14 x15 x16 w' => ∃ (i : Nat) (I : List (Nat × Obj)), k + i = text.size ∧ BRow x13 (outT E q (text.data.toList.take i)) I ∧ x14 = .int .i64 ((2 + 2 * cl E (parseP text).line (tens (text.data.toList.take i)) : Nat) : Int) ∧
      x15 = .int .i64 (tens (text.data.toList.take i)) ∧ x16 = .int .i64 i ∧ Has w0 w' (I ++ (Iz ++ ((b8, .cells cs 31 (0, 0)) :: I8))), ⟨text.size, 0, I3, by omega, ?_, rfl, rfl, rfl, H3⟩, ?_⟩
  · have : outT E q (text.data.toList.take 0) = (35 :: q) ++ [10, 10] := by simp [outT, insT]
    rw [this]; exact hr3
  rintro k σ w4 ⟨i, I, hk, hr4, h14, h15, h16, H4⟩
  rw [h14, h15, h16]
  have hl : text.data.toList.length = text.size := by simp
  have hge := outT_ge E q (text.data.toList.take i)
  have hlen : (Builtin.len_ #[41] 3 #[σ 13]).run P w4 = .ok (.int .i64 ((outT E q (text.data.toList.take i)).length : Nat)) w4 := Row.lenV hr4
  unfold f6.l2
  -- how the loop is left
  have leave : (text.size ≤ i ∨ 1048576 < (outT E q (text.data.toList.take i)).length) →
      Do P (Builtin.len_ #[41] 3 #[σ 13]) w4 (fun t103 w =>
        Do P (binOp BinOp.gtr 3 t103 (Value.int IntKind.i64 1048576)) w (fun t104 w =>
        If t104
        (retT w0 (.bool true) w)
        (Do P (convert 41 9 (σ 13)) w (fun t108 w =>
        CallF P 9 [t108] w (fun t109 w =>
        Do P (Instr.extract t109 0) w (fun t110 w =>
        Do P (Instr.extract t109 1) w (fun t111 w =>
        Do P (Instr.extract t109 2) w (fun t112 w =>
        Do P (Instr.alloc 31 true (Value.tuple #[])) w (fun t17 w =>
        DoU P (Instr.storeAt 31 t17 t110) w (fun _ w =>
        ∃ J_1 : Value → World → Prop, (∀ (σ : Env) (w : World), J_1 (σ 20) w →
        f6.j3 (retT w0) (fun _ _ => False) (pt b8) t17 (.bool true) (.int .i64 (parseP text).err) t111 t112 (σ 20) w) ∧
        Do P (binOp BinOp.gtr 3 (.int .i64 (parseP text).line) (Value.int IntKind.i64 0)) w (fun t115 w =>
        If t115
        (Do P (binOp BinOp.add 3 (.int .i64 (parseP text).line) (.int .i64 ((2 + 2 * cl E (parseP text).line (tens (text.data.toList.take i)) : Nat) : Int))) w (fun t118 w =>
        J_1 t118 w) (fun _ _ => False))
        (J_1 (.int .i64 (parseP text).line) w)) (fun _ _ => False)) (fun _ _ => False)) (fun _ _ => False)) (fun _ _ => False)) (fun _ _ => False)) (fun _ _ => False)) (fun _ _ => False)) (fun _ _ => False))) (fun _ _ => False)) (fun _ _ => False) := by
    intro hleave
    refine Do.ok hlen (Do.dec run_gtr (fun h => If.t ⟨rfl, H4.toBelow⟩) (fun h => If.f ?_))
    have hlo : (outT E q (text.data.toList.take i)).length ≤ 1048576 := by omega
    have hi : text.size ≤ i := by omega
    have htk : text.data.toList.take i = text.data.toList := List.take_of_length_le (by omega)
    rw [htk] at hr4 hlo ⊢
    have hsl : SlAt 5 1 w4 (σ 13) (outT E q text.data.toList).length (byteCells (outT E q text.data.toList)) := Row.reads hr4 H4
    refine Do.ok (run_toStrSl (Has.init w4) hsl) ?_
    refine CallF.ret (f9.enters _ _) (parse_ret' ⟨(outT E q text.data.toList).toArray⟩ w4 (hg.has H4)) ?_
    rintro _ w5 ⟨cs2, I2, rfl, hp2, H5⟩
    have H5 := H4.more H5
    refine Do.ok (run_ext rfl) (Do.ok (run_ext rfl) (Do.ok (run_ext rfl) (Do.alloc H5 ?_)))
    intro b17 w6 H6
    refine DoU.stAll H6 0 rfl rfl hp2.shape.1 hp2.shape.2 (fun j _ => open0 _) ?_
    intro w7 H7
    have H7 : Has w0 w7 ((b17, .cells cs2 31 (0, 0)) :: (I2 ++ (I ++ (Iz ++ ((b8, .cells cs 31 (0, 0)) :: I8))))) := H7
    have H7' : Has w0 w7 ((b8, .cells cs 31 (0, 0)) :: (b17, .cells cs2 31 (0, 0)) :: (I8 ++ (I2 ++ (I ++ Iz)))) := H7.perm (by classical exact List.perm_iff_count.2 (fun a => by simp only [List.count_append, List.count_cons, List.count_nil, List.set_cons_zero, List.set_cons_succ, List.setIfInBounds_toArray, List.cons_append, List.nil_append, List.append_assoc]; omega))
    have hts : text.size ≤ 1048576 := by
      have := insT_ge E (35 :: q) text.data.toList 0
      unfold outT at hlo
      simp at hlo
      omega
    obtain ⟨⟨a1, a2, a3⟩, hline⟩ := remarks_law E q hq text hts hlo
    have hsz : (mkB (outT E q text.data.toList)) = ⟨(outT E q text.data.toList).toArray⟩ := rfl
    rw [hsz] at a1 a2 a3 hline
    rw [a1, a2] at hp2
    rw [a3]
    have hsmall : (∀ s ∈ (parseP text).steps, s.keep.length ≤ 4611686018427387904) ∧ (parseP text).steps.length ≤ 4611686018427387904 := by
      by_cases he : (parseP text).err = 0
      · obtain ⟨s1, s2⟩ := read_small he
        exact ⟨fun s hs => by have := (s1 s hs).2; omega, by omega⟩
      · rw [parseP_err he]; simp
    generalize (parseP ⟨(outT E q text.data.toList).toArray⟩).line = line2 at *
    refine ⟨fun y w' => y = .int .i64 line2 ∧ w' = w7, ?_, ?_⟩
    · rintro σ2 w8 ⟨hy, rfl⟩
      rw [hy]
      exact rem_j3 hp hp2 H7' hsmall.1 hsmall.2 rfl
    rcases hline with ⟨e1, e2⟩ | ⟨k', hk', e1, e2⟩
    · rw [e1, e2]
      exact Do.dec run_gtr (fun h => absurd h (by decide)) (fun _ => If.f ⟨rfl, rfl⟩)
    · rw [cut_tens] at hk'
      have htl := tens_le text.data.toList
      have hcl : cl E (parseP text).line (tens text.data.toList) = cnt E 0 k' := by
        rw [e1, cl_eq]
        congr 1
        omega
      have hcn : ∀ k m, cnt E m k ≤ k := by
        intro k
        induction k with
        | zero => intro m; simp [cnt]
        | succ k ih =>
          intro m
          rw [cnt]
          have := ih (m + 1)
          split <;> omega
      have hcn' := hcn k' 0
      rw [hcl, e1, e2]
      refine Do.dec run_gtr (fun _ => If.t (Do.ok (run_addi (by omega)) ⟨?_, rfl⟩)) (fun h => absurd (by omega) h)
      congr 1
      omega
  refine Do.ok run_lenStr (Do.dec run_lss (fun hlt => ?_) (fun hge => ?_))
  case refine_2 =>
    exact GuardK.ft (GuardK.ft (GuardK.ft (Do.ok run_pickF (If.f (leave (.inl (by omega)))))))
  have hi : i < text.size := by omega
  with_reducible refine GuardK.tt ?_
  with_reducible refine GuardK.tt ?_
  refine Do.ok hlen ?_
  with_reducible refine GuardK.tt ?_
  with_reducible refine Do.dec run_leq (fun hle => ?_) (fun hle => ?_)
  case refine_2 =>
    refine Do.ok run_pickT ?_
    exact If.f (leave (.inr (by omega)))
  refine Do.ok run_pickT (If.t ?_)
  have hil : i < text.data.toList.length := by omega
  have hidx : ∀ w, (Instr.index 9 (.string text) (.int .i64 (i : Int))).run P w = .ok (.int .u8 ((text.data.toList[i]'hil).toNat : Int)) w := fun w => by
    have := run_idxS (P := P) (w := w) (t := 9) (s := text) (i := (i : Int)) (by omega) (by omega)
    rw [this]
    congr 3
  have htk : text.data.toList.take (i + 1) = text.data.toList.take i ++ [text.data.toList[i]] := by rw [List.take_add_one, List.getElem?_eq_getElem hil]; rfl
  have hO := outT_snoc E q (text.data.toList.take i) text.data.toList[i]
  have hT := tens_snoc (text.data.toList.take i) text.data.toList[i]
  rw [← htk] at hO hT
  have htl : tens (text.data.toList.take i) ≤ i := Nat.le_trans (tens_le _) (by simp; omega)
  have hcll : ∀ n, cl E (parseP text).line n ≤ n := by
    intro n
    induction n with
    | zero => simp [cl]
    | succ n ih => rw [cl]; split <;> omega
  have hcl1 := hcll (tens (text.data.toList.take i))
  have hcs : cl E (parseP text).line (tens (text.data.toList.take i) + 1) = cl E (parseP text).line (tens (text.data.toList.take i)) + (if (tens (text.data.toList.take i) + 1) % E = 0 ∧ ((tens (text.data.toList.take i) + 1 : Nat) : Int) < (parseP text).line then 1 else 0) := rfl
  generalize hOn : outT E q (text.data.toList.take i) = O at *
  generalize hOn1 : outT E q (text.data.toList.take (i + 1)) = O1 at *
  generalize hTn : tens (text.data.toList.take i) = T at *
  generalize hTn1 : tens (text.data.toList.take (i + 1)) = T1 at *
  generalize text.data.toList[i] = c at *
  have hadd : ∀ w, (binOp .add 3 (.int .i64 (i : Int)) (.int .i64 1)).run P w = .ok (.int .i64 ((i : Int) + 1)) w := fun w => run_addi (by omega)
  refine Do.ok (hidx w4) (app1 H4 hr4 c (by omega) ?_)
  intro v5 I5 w5 hr5 H5
  refine Do.ok (hidx w5) (Do.dec run_nei (fun hne => If.t ?_) (fun heq => If.f ?_))
  · have hne : c ≠ 10 := fun e => by rw [e] at hne; exact hne rfl
    rw [if_neg hne] at hO hT
    refine Do.ok (hadd w5) ⟨k - 1, by omega, i + 1, I5, by omega, by rw [hOn1, hO]; exact hr5, by rw [hTn1, hT]; rfl, by rw [hTn1, hT]; rfl, rfl, H5⟩
  have heq : c = 10 := u8_of (d := 10) (Decidable.not_not.1 heq)
  rw [if_pos heq] at hO hT
  have hmod : ∀ w, (binOp .rem 3 (.int .i64 ((T : Int) + 1)) (.int .i64 (E : Int))).run P w = .ok (.int .i64 (((T + 1) % E : Nat) : Int)) w := fun w => by
    rw [run_rem (by omega) (by omega)]
    congr 2
  refine Do.ok (run_addi (a := (T : Int)) (b := 1) (by omega)) (Do.ok (hmod w5) (Do.dec run_eqi (fun hz0 => If.t ?_) (fun hz0 => If.f ?_)))
  case refine_2 =>
    have hz0 : ¬ (T + 1) % E = 0 := by omega
    rw [if_neg hz0] at hO
    rw [if_neg (fun h => hz0 h.1)] at hcs
    refine Do.ok (hadd w5) ⟨k - 1, by omega, i + 1, I5, by omega, by rw [hOn1, hO, ← heq]; exact hr5, ?_, by rw [hTn1, hT]; rfl, rfl, H5⟩
    rw [hTn1, hT, hcs]; rfl
  have hz0 : (T + 1) % E = 0 := by omega
  rw [if_pos hz0] at hO
  refine app1 H5 hr5 10 (by simp; omega) ?_
  intro v6 I6 w6 hr6 H6
  refine appB (L := (b8, .cells cs 31 (0, 0)) :: I8) H6 hr6 hz (by simp; omega) ?_
  intro v7 I7 w7 hr7 H7
  refine app1 H7 hr7 10 (by simp; omega) ?_
  intro v8 I8' w8 hr8 H8
  have hfin : BRow v8 (outT E q (text.data.toList.take (i + 1))) I8' := by
    rw [hOn1, hO]
    have e : O ++ 10 :: 10 :: (35 :: q ++ [10]) = O ++ [c] ++ [10] ++ (35 :: q) ++ [10] := by rw [heq]; simp
    rw [e]; exact hr8
  refine Do.dec run_lss (fun hlt2 => If.t (Do.ok (run_addi (by omega)) (Do.ok (hadd w8) ?_))) (fun hlt2 => If.f (Do.ok (hadd w8) ?_))
  · rw [if_pos ⟨hz0, by omega⟩] at hcs
    refine ⟨k - 1, by omega, i + 1, I8', by omega, hfin, ?_, by rw [hTn1, hT]; rfl, rfl, H8⟩
    rw [hTn1, hT, hcs]
    congr 1
  · rw [if_neg (by omega)] at hcs
    refine ⟨k - 1, by omega, i + 1, I8', by omega, hfin, ?_, by rw [hTn1, hT]; rfl, rfl, H8⟩
    rw [hTn1, hT, hcs]; rfl
include hr hev
theorem remarks_ret : Ret P 6 #[.string text, .string remark, .int .i64 every] w0 (retT w0) := by
  refine f6.calls ?_
  unfold f6.f
  refine CallF.ret (f8.enters _ _) (shown_ret w0 hg) ?_
  rintro _ w1 ⟨rfl, hb1⟩
  have H1 := (Has.init w0).below hb1
  refine CallF.ret (f9.enters _ _) (parse_ret' text w1 (hg.has H1)) ?_
  rintro _ w2 ⟨cs, I8, rfl, hp, H2⟩
  have H2 : Has w0 w2 (I8 ++ []) := H1.more H2
  refine Do.ok (run_ext rfl) (Do.ok (run_ext rfl) (Do.ok (run_ext rfl) (Do.alloc H2 ?_)))
  intro b8 w3 H3
  refine DoU.stAll H3 0 rfl rfl hp.shape.1 hp.shape.2 (fun j _ => open0 _) ?_
  intro w4 H4
  have H4 : Has w0 w4 ((b8, .cells cs 31 (0, 0)) :: (I8 ++ [])) := H4
  rw [List.append_nil] at H4
  refine Do.bs H4 (bs41 35) ?_
  intro b w5 H5
  have hr0 : BRow (.slice (some ⟨b, 0, none⟩) 1 1) [35] [(b, .cells ((byteCells [35]) ++ []).toArray 5 (0, 0))] := Row.row (by simp [byteCells]) (by simp [byteCells]) (Nat.le_refl _) (by simp [maxLen])
  have hrl : remark.data.toList.length = remark.size := by simp
  refine ⟨fun k x11 x12 w' => ∃ (i : Nat) (I : List (Nat × Obj)), k + i = remark.size ∧ BRow x11 (35 :: noTens (remark.data.toList.take i)) I ∧ x12 = .int .i64 i ∧ Has w0 w' (I ++ ((b8, .cells cs 31 (0, 0)) :: I8)),
    ⟨remark.size, 0, _, by omega, by simpa [noTens] using hr0, rfl, H5⟩, ?_⟩
  rintro k σ w6 ⟨i, I, hk, hr6, hx, H6⟩
  rw [hx]
  unfold f6.l0
  refine Do.ok run_lenStr (Do.dec run_lss (fun hlt => If.t ?_) (fun hge => If.f ?_))
  · have hi : i < remark.data.toList.length := by omega
    have hidx : ∀ w, (Instr.index 9 (.string remark) (.int .i64 (i : Int))).run P w = .ok (.int .u8 ((remark.data.toList[i]'hi).toNat : Int)) w := fun w => by
      have := run_idxS (P := P) (w := w) (t := 9) (s := remark) (i := (i : Int)) (by omega) (by omega)
      rw [this]
      congr 3
    have htk : noTens (remark.data.toList.take (i + 1)) = noTens (remark.data.toList.take i) ++ (if remark.data.toList[i] ≠ 10 then [remark.data.toList[i]] else []) := by
      rw [List.take_add_one, List.getElem?_eq_getElem hi]
      unfold noTens
      rw [List.filter_append]
      congr 1
      generalize remark.data.toList[i] = cc
      show List.filter _ [cc] = _
      by_cases hb : cc = 10
      · simp [hb]
      · rw [if_pos hb]; simp [hb]
    have hnl := noTens_len (remark.data.toList.take i)
    have htl : (remark.data.toList.take i).length ≤ i := by simp; omega
    have hadd : ∀ w, (binOp .add 3 (.int .i64 (i : Int)) (.int .i64 1)).run P w = .ok (.int .i64 ((i : Int) + 1)) w := fun w => run_addi (by omega)
    refine Do.ok (hidx w6) (Do.dec run_nei (fun hne => If.t ?_) (fun heq => If.f ?_))
    · have hne : remark.data.toList[i] ≠ 10 := fun e => by rw [e] at hne; exact hne rfl
      rw [if_pos hne] at htk
      refine Do.ok (hidx w6) (app1 H6 hr6 _ (by simp; omega) ?_)
      intro v' I' w7 hr7 H7
      refine Do.ok (hadd w7) ⟨k - 1, by omega, i + 1, I', by omega, by rw [htk]; exact hr7, rfl, H7⟩
    · have heq : remark.data.toList[i] = 10 := u8_of (d := 10) (Decidable.not_not.1 heq)
      rw [if_neg (by simp [heq]), List.append_nil] at htk
      refine Do.ok (hadd w6) ⟨k - 1, by omega, i + 1, I, by omega, by rw [htk]; exact hr6, rfl, H6⟩
  · have htk : remark.data.toList.take i = remark.data.toList := List.take_of_length_le (by omega)
    rw [htk] at hr6
    unfold i64 at hev
    have hnl := noTens_len remark.data.toList
    refine ⟨fun y w' => ∃ x : Int, y = .int .i64 x ∧ 0 ≤ x ∧ x ≤ 9223372036854775807 ∧ w' = w6, ?_, ?_⟩
    · rintro σ2 w7 ⟨x, hy, hx0, hx1, rfl⟩
      rw [hy]
      exact remarks_j1 hg ht (noTens_no _) (by omega) ⟨hx0, hx1⟩ hp hr6 H6
    · refine Do.dec run_lss (fun h => If.t (Do.ok (run_addi (a := every) (b := 1) (by omega)) (Do.ok (run_neg (by omega)) ⟨_, rfl, by omega, by omega, rfl⟩))) (fun h => If.f ⟨every, rfl, by omega, by omega, rfl⟩)
end
end Go.Proofs.YtdnnamaimgijpaaDoor
