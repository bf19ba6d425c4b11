/- Contract: Parse. Conditions: none. -/
import Derived.Test.YtdnnamaimgijpaaDoorS11
set_option linter.unusedVariables false
set_option linter.unusedSectionVars false
set_option maxRecDepth 10000
namespace Go.Proofs.YtdnnamaimgijpaaDoor
open Go Go.Sx Go.Proofs Go.Lib Go.RowKit

theorem enters22 (args : Array Value) (w : World) : (callFunc 22 args).run P w = .ok (.enter 22 args) w := by kernel_rfl
structure Out where
  cfg : Cfg
  steps : List StepV
  line : Int
  err : Int
def cfg0 : Cfg := ⟨0, 0, 0⟩
/-- Is a line passed over? -/
def passB (l : ByteArray) : Bool := decide (l.data.toList = []) || decide (l.data.toList.head? = some 35)
def parseLines : List ByteArray → Nat → Bool → Cfg → List StepV → Out
  | [], _, begun, c, ss => if begun = true then ⟨c, ss, 0, 0⟩ else ⟨cfg0, [], 0, 191⟩
  | l :: r, i, begun, c, ss =>
    if passB l = true then parseLines r (i + 1) begun c ss else
    match nextE begun c ss l with
    | .error e => ⟨cfg0, [], (i + 1 : Nat), e⟩
    | .ok (c', ss') => parseLines r (i + 1) true c' ss'
def trim (s : ByteArray) : ByteArray := ⟨(trimSuffix s.data.toList [10]).toArray⟩
def parseP (s : ByteArray) : Out := if 1048576 < s.size then ⟨cfg0, [], 0, 193⟩ else parseLines (pieces 10 (trim s)) 0 false cfg0 []
theorem trim_size (s : ByteArray) : (trim s).size ≤ s.size := by
  show (trimSuffix s.data.toList [10]).toArray.size ≤ s.size
  have : s.size = s.data.toList.length := by simp
  rw [this]
  unfold trimSuffix
  split <;> simp
theorem build31 (w : World) : (Instr.build 31 #[]).run P w = .ok (.agg (playCells cfg0 (.slice none 0 0))) w := by kernel_rfl
theorem play_flat {c : Cfg} {v : Value} (hv : ∀ q, v ≠ .agg q ∧ v ≠ .tuple q) : ∀ x ∈ (playCells c v).toList, ∀ q, x ≠ .agg q ∧ x ≠ .tuple q := by
  intro x hx q
  simp only [playCells, List.mem_cons, List.not_mem_nil, or_false] at hx
  rcases hx with rfl | rfl | rfl | rfl <;> first | exact hv q | simp
theorem play_empty : PlayAt (playCells cfg0 (.slice none 0 0)) cfg0 [] [] := ⟨.slice none 0 0, [], [], [], rfl, .nil, .nil, rfl⟩
def ParseRet (s : ByteArray) (w : World) (v : Value) (w' : World) : Prop :=
  ∃ cs I, v = .tuple #[.agg cs, .int .i64 (parseP s).line, .int .i64 (parseP s).err] ∧ PlayAt cs (parseP s).cfg (parseP s).steps I ∧ Has w w' I
theorem strsObj_at {all : List ByteArray} {o : Nat} (h : o < all.length) : (all.map Value.string).toArray[o]? = some (.string all[o]) := strsObj_get (by simp [h])
theorem out_ret {w0 w : World} {L : List (Nat × Obj)} {i b2 : Nat} {cs0 cs : Array Value} {K : Value → World → Prop} {X : List PanicEntry → World → Prop} (H : Has w0 w L) (hL : L[i]? = some (b2, .cells cs0 31 (0, 0))) (h0 : cs0.size = 4) (h1 : cs.size = 4)
    (hf : ∀ x ∈ cs.toList, ∀ q, x ≠ .agg q ∧ x ≠ .tuple q) (k : ∀ w', Has w0 w' (L.set i (b2, .cells cs 31 (0, 0))) → K (.agg cs) w') : DoU P (Instr.storeAt 31 (pt b2) (.agg cs)) w (fun _ w => ResC P 31 (pt b2) w fun r => K r w) X := by
  refine DoU.stAll H i hL h0 h1 hf (fun j _ => open0 _) ?_
  intro w2 H2
  refine ResC.all H2 i (b := b2) (cs := cs) (T := 31) (fz := (0, 0)) ?_ h1 (k w2 H2)
  rw [List.getElem?_set_self (List.getElem?_eq_some_iff.1 hL).1]
theorem slice_flat {x : Option Addr} {n c : Nat} : ∀ q, Value.slice x n c ≠ .agg q ∧ Value.slice x n c ≠ .tuple q := fun q => ⟨by simp, by simp⟩
theorem parse_ret' (s : ByteArray) (w : World) (hg : Glb w) : Ret P 9 #[.string s] w (ParseRet s w) := by
  refine f9.calls ?_
  unfold f9.f
  refine Do.alloc (Has.init w) ?_
  intro b2 w1 H1
  have H1 : Has w w1 [(b2, .cells (playCells cfg0 (.slice none 0 0)) 31 (0, 0))] := H1
  refine Do.ok run_lenStr (Do.dec run_gtr (fun h => If.t ?_) (fun h => If.f ?_))
  · refine Do.ok (build31 _) (out_ret (K := fun r w' => ParseRet s w (.tuple #[r, .int .i64 0, .int .i64 193]) w') H1 (i := 0) rfl rfl rfl (play_flat slice_flat) ?_)
    intro w2 H2
    have e : parseP s = ⟨cfg0, [], 0, 193⟩ := by rw [parseP, if_pos (by omega)]
    exact ⟨_, [], by rw [e], by rw [e]; exact play_empty, H2.tail⟩
  have hsz : ¬ 1048576 < s.size := by omega
  refine Do.alloc H1 ?_
  intro b5 w2 H2
  refine Do.alloc H2 ?_
  intro b6 w3 H3
  have H3 : Has w w3 (begB b6 false :: (b5, .cells (playCells cfg0 (.slice none 0 0)) 31 (0, 0)) :: (b2, .cells (playCells cfg0 (.slice none 0 0)) 31 (0, 0)) :: []) := H3
  refine DoU.st H3 0 rfl rfl (fun q => ⟨by simp, by simp⟩) (by simp) (open0 _) ?_
  intro w4 H4
  have H4 : Has w w4 (begB b6 false :: (b5, .cells (playCells cfg0 (.slice none 0 0)) 31 (0, 0)) :: (b2, .cells (playCells cfg0 (.slice none 0 0)) 31 (0, 0)) :: []) := H4
  refine CallF.ret (enters21 _ _) (Ret.ofCalls (Tryd.strings_TrimSuffix s ⟨#[10]⟩ w4 (by omega))) ?_
  rintro _ w5 ⟨rfl, rfl⟩
  have hts := trim_size s
  refine CallF.ret (enters20 _ _) (split_calls 10 (trim s) (by omega) w5 (hg.has H4)) ?_
  rintro _ w6 ⟨bl, rfl, H6⟩
  have H6 := H4.more H6
  have epar : parseP s = parseLines (pieces 10 (trim s)) 0 false cfg0 [] := by rw [parseP, if_neg hsz]
  have hps := pieces_size 10 (trim s)
  have hpl := pieces_le 10 (trim s)
  unfold ParseRet
  rw [epar]
  generalize pieces 10 (trim s) = lines at *
  refine Do.ok run_lenS ?_
  refine ⟨fun k x w' => ∃ (i : Nat) (begun : Bool) (c : Cfg) (ss : List StepV) (v : Value) (xs : List Value) (Iv Is : List (Nat × Obj)), k + i = lines.length ∧ x = .int .i64 i ∧ SRow v ss.length xs Iv ∧ StepsAt ss xs Is ∧
      Has w w' (begB b6 begun :: (b5, .cells (playCells c v) 31 (0, 0)) :: (Iv ++ (Is ++ [(b2, .cells (playCells cfg0 (.slice none 0 0)) 31 (0, 0)), (bl, strsObj lines)]))) ∧ parseLines lines 0 false cfg0 [] = parseLines (lines.drop i) i begun c ss,
    ⟨lines.length, 0, false, cfg0, [], .slice none 0 0, [], [], [], by omega, rfl, .nil, .nil, H6.perm (by classical exact List.perm_iff_count.2 (fun a => by simp only [List.count_append, List.count_cons, List.count_nil, List.set_cons_zero, List.set_cons_succ, List.setIfInBounds_toArray, List.cons_append, List.nil_append, List.append_assoc]; omega)), rfl⟩, ?_⟩
  rintro k σ w7 ⟨i, begun, c, ss, v, xs, Iv, Is, hk, hx, hr, hst, H, hp⟩
  rw [hx, hp]
  unfold f9.l0
  refine Do.dec run_lss (fun hlt => If.t ?_) (fun hge => If.f ?_)
  case refine_2 =>
    rw [List.drop_eq_nil_of_le (by omega)]
    refine Do.ld H 0 rfl rfl ?_
    have H' : Has w w7 ((b2, .cells (playCells cfg0 (.slice none 0 0)) 31 (0, 0)) :: (b5, .cells (playCells c v) 31 (0, 0)) :: (Iv ++ (Is ++ [begB b6 begun, (bl, strsObj lines)]))) := H.perm (by classical exact List.perm_iff_count.2 (fun a => by simp only [List.count_append, List.count_cons, List.count_nil, List.set_cons_zero, List.set_cons_succ, List.setIfInBounds_toArray, List.cons_append, List.nil_append, List.append_assoc]; omega))
    cases begun with
    | false =>
      refine Do.ok run_notF (If.t (Do.ok (build31 _) (out_ret (K := fun r w' => ∃ cs I, Value.tuple #[r, .int .i64 0, .int .i64 191] = _ ∧ _ ∧ _) H' (i := 0) rfl rfl rfl (play_flat slice_flat) ?_)))
      intro w8 H8
      exact ⟨_, [], rfl, play_empty, H8.toBelow |> fun hb => (Has.init w).below hb⟩
    | true =>
      refine Do.ok run_notT (If.f (Do.ldAll H' 1 rfl rfl (out_ret (K := fun r w' => ∃ cs I, Value.tuple #[r, .int .i64 0, .int .i64 0] = _ ∧ _ ∧ _) H' (i := 0) rfl rfl rfl (play_flat hr.one.2) ?_)))
      intro w8 H8
      have H8 : Has w w8 ((Iv ++ Is) ++ ([(b2, .cells (playCells c v) 31 (0, 0)), (b5, .cells (playCells c v) 31 (0, 0)), begB b6 true, (bl, strsObj lines)])) := H8.perm (by classical exact List.perm_iff_count.2 (fun a => by simp only [List.count_append, List.count_cons, List.count_nil, List.set_cons_zero, List.set_cons_succ, List.setIfInBounds_toArray, List.cons_append, List.nil_append, List.append_assoc]; omega))
      exact ⟨_, Iv ++ Is, rfl, ⟨v, xs, Iv, Is, rfl, hr, hst, rfl⟩, H8.left⟩
  have hi : i < lines.length := by omega
  rw [List.drop_eq_getElem_cons hi]
  have hll : lines[i].size ≤ 1048576 := by have := hps _ (List.getElem_mem hi); omega
  have Hl : Has w w7 ((bl, strsObj lines) :: begB b6 begun :: (b5, .cells (playCells c v) 31 (0, 0)) :: (Iv ++ (Is ++ [(b2, .cells (playCells cfg0 (.slice none 0 0)) 31 (0, 0))]))) := H.perm (by classical exact List.perm_iff_count.2 (fun a => by simp only [List.count_append, List.count_cons, List.count_nil, List.set_cons_zero, List.set_cons_succ, List.setIfInBounds_toArray, List.cons_append, List.nil_append, List.append_assoc]; omega))
  refine Do.ok (strs_idx hi w7) (Do.ld Hl 0 rfl (strsObj_at hi) (Do.alloc Hl ?_))
  intro b8 w8 H8
  refine DoU.st H8 0 rfl rfl (fun q => ⟨by simp, by simp⟩) (by simp [Value.cells]) (open0 _) ?_
  intro w9 H9
  have H9 : Has w w9 (strB b8 lines[i] :: (bl, strsObj lines) :: begB b6 begun :: (b5, .cells (playCells c v) 31 (0, 0)) :: (Iv ++ (Is ++ [(b2, .cells (playCells cfg0 (.slice none 0 0)) 31 (0, 0))]))) := H9
  generalize lines[i] = line at *
  have back : ∀ {w' : World} {begun' : Bool} {c' : Cfg} {ss' : List StepV} {v' : Value} {xs' : List Value} {Iv' Is' : List (Nat × Obj)}, SRow v' ss'.length xs' Iv' → StepsAt ss' xs' Is' →
      Has w w' (begB b6 begun' :: (b5, .cells (playCells c' v') 31 (0, 0)) :: strB b8 line :: (Iv' ++ (Is' ++ [(b2, .cells (playCells cfg0 (.slice none 0 0)) 31 (0, 0)), (bl, strsObj lines)]))) →
      ∀ {o : Out}, o = parseLines (lines.drop (i + 1)) (i + 1) begun' c' ss' →
      ∃ k', k' < k ∧ ∃ (j : Nat) (begun : Bool) (c : Cfg) (ss : List StepV) (v : Value) (xs : List Value) (Iv Is : List (Nat × Obj)), k' + j = lines.length ∧ Value.int .i64 ((i : Int) + 1) = .int .i64 j ∧ SRow v ss.length xs Iv ∧ StepsAt ss xs Is ∧
        Has w w' (begB b6 begun :: (b5, .cells (playCells c v) 31 (0, 0)) :: (Iv ++ (Is ++ [(b2, .cells (playCells cfg0 (.slice none 0 0)) 31 (0, 0)), (bl, strsObj lines)]))) ∧ o = parseLines (lines.drop j) j begun c ss := by
    intro w' begun' c' ss' v' xs' Iv' Is' hr' hst' H' o ho
    have H'' : Has w w' (strB b8 line :: (begB b6 begun' :: (b5, .cells (playCells c' v') 31 (0, 0)) :: (Iv' ++ (Is' ++ [(b2, .cells (playCells cfg0 (.slice none 0 0)) 31 (0, 0)), (bl, strsObj lines)])))) := H'.perm (by classical exact List.perm_iff_count.2 (fun a => by simp only [List.count_append, List.count_cons, List.count_nil, List.set_cons_zero, List.set_cons_succ, List.setIfInBounds_toArray, List.cons_append, List.nil_append, List.append_assoc]; omega))
    exact ⟨k - 1, by omega, i + 1, begun', c', ss', v', xs', Iv', Is', by omega, rfl, hr', hst', H''.tail, ho⟩
  have H9' : Has w w9 (begB b6 begun :: (b5, .cells (playCells c v) 31 (0, 0)) :: strB b8 line :: (Iv ++ (Is ++ [(b2, .cells (playCells cfg0 (.slice none 0 0)) 31 (0, 0)), (bl, strsObj lines)]))) := H9.perm (by classical exact List.perm_iff_count.2 (fun a => by simp only [List.count_append, List.count_cons, List.count_nil, List.set_cons_zero, List.set_cons_succ, List.setIfInBounds_toArray, List.cons_append, List.nil_append, List.append_assoc]; omega))
  have hadd : ∀ w, (binOp .add 3 (.int .i64 (i : Int)) (.int .i64 1)).run P w = .ok (.int .i64 ((i : Int) + 1)) w := fun w => run_addi (by omega)
  refine Do.ld H9' 2 rfl rfl (Do.dec run_eqs (fun he => ?_) (fun hne => ?_))
  · refine GuardK.tf (GuardK.tf (GuardK.tf (Do.ok run_pickT (If.t (Do.ok (hadd _) ?_)))))
    have he : line.data.toList = [] := he
    exact back hr hst H9' (by rw [parseLines, if_pos (by rw [passB, he]; rfl)])
  have hne : line.data.toList ≠ [] := hne
  have hlen : line.data.toList.length = line.size := by simp
  have hpos : 0 < line.size := by rw [← hlen]; exact List.length_pos_iff.2 hne
  have hidx : (Instr.index 9 (.string line) (.int .i64 0)).run P w9 = .ok (.int .u8 ((line.data.toList[0]'(by omega)).toNat : Int)) w9 := run_idxS (by omega) (by omega)
  have hhead : line.data.toList.head? = some (line.data.toList[0]'(by omega)) := by rw [List.head?_eq_getElem?, List.getElem?_eq_getElem]
  refine GuardK.ff (Do.ld H9' 2 rfl rfl (GuardK.ff (Do.ok hidx (GuardK.ff (Do.dec run_eqi (fun h35 => ?_) (fun h35 => ?_))))))
  · refine Do.ok run_pickF (If.t (Do.ok (hadd _) ?_))
    exact back hr hst H9' (by rw [parseLines, if_pos (by rw [passB, hhead, u8_of (d := 35) h35]; simp)])
  have hpass : passB line = false := by
    rw [passB, hhead, decide_eq_false hne, decide_eq_false]; rfl
    intro e
    have := Option.some.inj e
    rw [this] at h35
    exact h35 rfl
  have enext : parseLines (line :: lines.drop (i + 1)) i begun c ss = match nextE begun c ss line with
    | .error e => ⟨cfg0, [], (i + 1 : Nat), e⟩
    | .ok (c', ss') => parseLines (lines.drop (i + 1)) (i + 1) true c' ss' := by rw [parseLines, hpass]; rfl
  rw [enext]
  refine Do.ok run_pickF (If.f ?_)
  refine CallF.ret (enters22 _ _) (try_ret (caps := #[pt b6, pt b5, pt b8]) (g := 23)
    (R := fun L' => ∃ (c' : Cfg) (ss' : List StepV) (v' : Value) (xs' : List Value) (Iv' Is' : List (Nat × Obj)), nextE begun c ss line = .ok (c', ss') ∧ SRow v' ss'.length xs' Iv' ∧ StepsAt ss' xs' Is' ∧ L' = begB b6 begun :: (b5, .cells (playCells c' v') 31 (0, 0)) :: strB b8 line :: (Iv' ++ (Is' ++ [(b2, .cells (playCells cfg0 (.slice none 0 0)) 31 (0, 0)), (bl, strsObj lines)])))
    (X := fun n L' => nextE begun c ss line = .error n ∧ L' = begB b6 begun :: (b5, .cells (playCells c v) 31 (0, 0)) :: strB b8 line :: (Iv ++ (Is ++ [(b2, .cells (playCells cfg0 (.slice none 0 0)) 31 (0, 0)), (bl, strsObj lines)])))
    H9' (fun w => f23.enters _ w) ?_) ?_
  · intro b w' H'
    have H'' : Has w w' (begB b6 begun :: (b5, .cells (playCells c v) 31 (0, 0)) :: strB b8 line :: (Iv ++ (Is ++ ((b, .cells #[.int .i64 0] 32 (0, 0)) :: [(b2, .cells (playCells cfg0 (.slice none 0 0)) 31 (0, 0)), (bl, strsObj lines)])))) := H'.perm (by classical exact List.perm_iff_count.2 (fun a => by simp only [List.count_append, List.count_cons, List.count_nil, List.set_cons_zero, List.set_cons_succ, List.setIfInBounds_toArray, List.cons_append, List.nil_append, List.append_assoc]; omega))
    refine Calls.mono (parse1 hg (by omega) hr hst H'') ?_
    intro e w2 he
    cases e with
    | outgrown => exact he
    | returned _ =>
      obtain ⟨c', ss', v', xs', Iv', Is', h1, h2, h3, h4⟩ := he
      exact ⟨_, ⟨c', ss', v', xs', Iv', Is', h1, h2, h3, rfl⟩, h4.perm (by classical exact List.perm_iff_count.2 (fun a => by simp only [List.count_append, List.count_cons, List.count_nil, List.set_cons_zero, List.set_cons_succ, List.setIfInBounds_toArray, List.cons_append, List.nil_append, List.append_assoc]; omega))⟩
    | panicked _ =>
      obtain ⟨n, h0, h1, h2⟩ := he
      exact ⟨n, _, h0, ⟨h1, rfl⟩, h2.perm (by classical exact List.perm_iff_count.2 (fun a => by simp only [List.count_append, List.count_cons, List.count_nil, List.set_cons_zero, List.set_cons_succ, List.setIfInBounds_toArray, List.cons_append, List.nil_append, List.append_assoc]; omega))⟩
  rintro _ w10 (⟨_, rfl, ⟨c', ss', v', xs', Iv', Is', h1, hr', hst', rfl⟩, H10⟩ | ⟨n, _, rfl, ⟨h1, rfl⟩, H10⟩)
  · refine Do.dec run_nei (fun h => absurd rfl h) (fun _ => If.f ?_)
    refine DoU.st H10 0 rfl rfl (fun q => ⟨by simp, by simp⟩) (by simp) (open0 _) ?_
    intro w11 H11
    refine Do.ok (hadd _) ?_
    exact back (begun' := true) hr' hst' H11 (by rw [h1])
  · refine Do.dec run_nei (fun _ => If.t ?_) (fun h => absurd (nextE_error h1) h)
    refine Do.ok (build31 _) (Do.ok (hadd _) ?_)
    have H10' : Has w w10 ((b2, .cells (playCells cfg0 (.slice none 0 0)) 31 (0, 0)) :: (begB b6 begun :: (b5, .cells (playCells c v) 31 (0, 0)) :: strB b8 line :: (Iv ++ (Is ++ [(bl, strsObj lines)])))) := H10.perm (by classical exact List.perm_iff_count.2 (fun a => by simp only [List.count_append, List.count_cons, List.count_nil, List.set_cons_zero, List.set_cons_succ, List.setIfInBounds_toArray, List.cons_append, List.nil_append, List.append_assoc]; omega))
    rw [h1]
    refine out_ret (K := fun r w' => ∃ cs I, Value.tuple #[r, .int .i64 ((i : Int) + 1), .int .i64 n] = _ ∧ _ ∧ _) H10' (i := 0) rfl rfl rfl (play_flat slice_flat) ?_
    intro w11 H11
    exact ⟨_, [], rfl, play_empty, (Has.init w).below H11.toBelow⟩
end Go.Proofs.YtdnnamaimgijpaaDoor
