/- Contract: step. Conditions: none. -/
import Derived.Test.YtdnnamaimgijpaaDoorS7
set_option linter.unusedVariables false
set_option maxRecDepth 10000
set_option linter.unusedSectionVars false
namespace Go.Proofs.YtdnnamaimgijpaaDoor
open Go Go.Sx Go.Proofs Go.Lib Go.RowKit

structure StepV where
  kind : Int
  conn : Int
  data : List UInt8
  brk : Int
  keep : List Int
def keepW : ByteArray := ⟨#[107, 101, 101, 112]⟩
def breakW : ByteArray := ⟨#[98, 114, 101, 97, 107]⟩
def numsA : List ByteArray → List Int → Option (List Int)
  | [], acc => some acc
  | s :: r, acc => match numV s with
    | none => none
    | some n => numsA r (acc ++ [n])
def endO (p : StepV) (r : List ByteArray) : Option StepV := if r = [] then some p else none
def loopO (p : StepV) (r : List ByteArray) : Option StepV := (numsA r p.keep).map fun l => { p with keep := l }
def firstO (p : StepV) (r : List ByteArray) : Option StepV := if r = [] then none else loopO p r
def keepO (p : StepV) (broken : Bool) (r : List ByteArray) : Option StepV :=
  match broken, r with
  | true, s :: r => if s = keepW then firstO p r else none
  | _, r => endO p r
def brk2O (p : StepV) (r : List ByteArray) : Option StepV :=
  match r with
  | [] => none
  | n :: r => match numV n with
    | none => none
    | some b => if b < 1 then none else keepO { p with brk := b } true r
def brkO (p : StepV) (r : List ByteArray) : Option StepV :=
  match hasBreakB p.kind, r with
  | true, s :: r => if s = breakW then brk2O p r else none
  | _, r => keepO p (decide (p.kind = 6)) r
def dataO (p : StepV) (r : List ByteArray) : Option StepV :=
  if p.kind = 2 then
    match r with
    | [] => none
    | s :: r => match bytesV s with
      | none => none
      | some d => brkO { p with data := d } r
  else brkO p r
def connO (p : StepV) (r : List ByteArray) : Option StepV :=
  if hasConnB p.kind = true then
    match r with
    | [] => none
    | s :: r => match numV s with
      | none => none
      | some n => dataO { p with conn := n } r
  else dataO p r
def stepV (l : List ByteArray) (ahead : Int) : Except Int StepV :=
  match l with
  | [] => .error 192
  | k :: r =>
    if kindV k = 0 then .error 191 else
    if 4000 ≤ ahead then .error 194 else
    match connO ⟨kindV k, 0, [], 0, []⟩ r with
    | some s => .ok s
    | none => .error 192
def lineV (s : ByteArray) (ahead : Int) : Except Int StepV := if wordsB (pieces 32 s) = true then stepV (pieces 32 s) ahead else .error 191

def IRow (v : Value) (l : List Int) (I : List (Nat × Obj)) : Prop := Row 3 1 v l.length (l.map (Value.int .i64)) I
def cells5 (kind conn : Int) (d : Value) (brk : Int) (k : Value) : Array Value := #[.int .i64 kind, .int .i64 conn, d, .int .i64 brk, k]
/-- A step in memory of its own. -/
def StepAt (c : Array Value) (s : StepV) (I : List (Nat × Obj)) : Prop :=
  ∃ d k Id Ik, c = cells5 s.kind s.conn d s.brk k ∧ BRow d s.data Id ∧ IRow k s.keep Ik ∧ I = Id ++ Ik
def St (w0 w : World) (b4 b5 b6 bw : Nat) (all : List ByteArray) (p : StepV) (r : List ByteArray) : Prop :=
  ∃ v d k Id Ik, Wd bw all v r ∧ BRow d p.data Id ∧ IRow k p.keep Ik ∧ p.keep.length + r.length ≤ all.length ∧
    Has w0 w ((b5, .cells #[v] 50 (0, 0)) :: (b6, .cells (cells5 p.kind p.conn d p.brk k) 44 (0, 0)) :: (b4, .cells (cells5 0 0 (.slice none 0 0) 0 (.slice none 0 0)) 44 (0, 0)) :: (bw, strsObj all) :: (Id ++ Ik))
theorem St.below {w0 w : World} {b4 b5 b6 bw : Nat} {all : List ByteArray} {p : StepV} {r : List ByteArray} (h : St w0 w b4 b5 b6 bw all p r) : Below w0.heap.size w0 w := by
  obtain ⟨v, d, k, Id, Ik, _, _, _, _, H⟩ := h
  exact H.toBelow
theorem cells5_flat {kind conn brk : Int} {d k : Value} (hd : ∀ q, d ≠ .agg q ∧ d ≠ .tuple q) (hk : ∀ q, k ≠ .agg q ∧ k ≠ .tuple q) : ∀ x ∈ (cells5 kind conn d brk k).toList, ∀ q, x ≠ .agg q ∧ x ≠ .tuple q := by
  intro x hx q
  simp only [cells5, List.mem_cons, List.not_mem_nil, or_false] at hx
  rcases hx with rfl | rfl | rfl | rfl | rfl <;> first | exact hd q | exact hk q | simp
theorem open0 (o : Nat) : open_ (0, 0) o := by simp [open_]
theorem bs42 (n : Int) (w : World) : (Instr.buildSlice 42 1 #[(0, .int .i64 n)]).run P w = .ok (.slice (some ⟨w.heap.size, 0, none⟩) 1 1) (w.alloc (.cells #[.int .i64 n] 3)) := by kernel_rfl
section
variable {w0 : World} {b4 b5 b6 bw : Nat} {all : List ByteArray} {R : Value → World → Prop} {X : List PanicEntry → World → Prop} {o : Option StepV}
  (hR : ∀ s c I w', o = some s → StepAt c s I → Has w0 w' I → R (.agg c) w')
  (hX : ∀ w', o = none → Below w0.heap.size w0 w' → X (wrongE 192) w')
include hR hX
abbrev pt (b : Nat) : Value := .pointer (some ⟨b, 0, none⟩)
theorem step_j5 {w : World} {p : StepV} {r : List ByteArray} (hs : St w0 w b4 b5 b6 bw all p r) (ho : o = endO p r) : f24.j5 R X (pt b4) (pt b5) (pt b6) w := by
  have hbel := hs.below
  obtain ⟨v, d, k, Id, Ik, hw, hd, hk, hl, H⟩ := hs
  unfold f24.j5
  refine Do.ld H 0 rfl rfl (Do.ok hw.len (Do.dec run_gtr (fun h => If.t ?_) (fun h => If.f ?_)))
  · refine CallF.fail (hX _ ?_ hbel)
    rw [ho, endO, if_neg]
    rintro rfl; simp at h
  · refine Do.ldAll H 1 rfl rfl (DoU.stAll H 2 rfl rfl rfl (cells5_flat hd.one.2 hk.one.2) (fun j _ => open0 _) ?_)
    intro w2 H2
    refine ResC.all H2 2 rfl rfl (hR p _ (Id ++ Ik) w2 ?_ ⟨d, k, Id, Ik, rfl, hd, hk, rfl⟩ (H2.sub ?_))
    · rw [ho, endO, if_pos (List.eq_nil_of_length_eq_zero (by omega))]
    · exact List.Sublist.cons _ (List.Sublist.cons _ (List.Sublist.cons _ (List.sublist_cons_self _ _)))
/-- One number more of keep: what the loop and the statement ahead of it do. -/
theorem step_keep1 (hall : all.length ≤ 4294967296) {w : World} {p : StepV} {r : List ByteArray} (hs : St w0 w b4 b5 b6 bw all p r) (hr : r = [] → o = none) (ho : r ≠ [] → o = loopO p r) {N : World → Prop}
    (k : ∀ n s r' w', r = s :: r' → numV s = some n → St w0 w' b4 b5 b6 bw all { p with keep := p.keep ++ [n] } r' → N w') :
    ∃ S : World → Prop, S (drewW w) ∧ (fun w =>
      Take P S (Instr.fieldAt 44 (pt b6) 4) fun t73 =>
      Take P S (Instr.loadAt 42 t73) fun t74 =>
      CallF P 54 [pt b5] w (fun t76 w =>
      S w ∧ CallF P 56 [t76] w (fun t77 w =>
      S w ∧ Do P (Instr.buildSlice 42 1 #[(0, t77)]) w (fun t78 w =>
      S w ∧ Do P (Builtin.append_ #[42, 42] 42 #[t74, t78]) w (fun t79 w =>
      S w ∧ Take P S (Instr.fieldAt 44 (pt b6) 4) fun t80 =>
      DoU P (Instr.storeAt 42 t80 t79) w (fun _ w => N w) X) X) X) X) X) (drewW w) := by
  obtain ⟨v, d, kv, Id, Ik, hw, hd, hk, hl, H⟩ := hs
  have H := H.drew
  refine ⟨fun w => w.heap[b6]? = some (.cells (cells5 p.kind p.conn d p.brk kv) 44 (0, 0)), H.get 1 rfl, ?_⟩
  refine Take.ok (fun w _ => run_fld) (Take.ok (v := kv) (fun w hS => run_load1 ((cell_of_blk hS _).trans rfl)) ?_)
  refine CallF.tries (f54.enters _ _) (take_try (open0 _) H (i := 2) rfl hw) ?_ ?_
  case refine_2 =>
    rintro _ w3 ⟨rfl, he, rfl⟩
    exact hX _ (hr he) H.toBelow
  rintro _ w3 ⟨s, rest, v', rfl, rfl, hw', H3⟩
  refine ⟨H3.get 1 rfl, CallF.tries (f56.enters _ _) (number_try s w3) ?_ ?_⟩
  case refine_2 =>
    rintro _ w4 ⟨rfl, hn, hb⟩
    refine hX _ ?_ (H3.below hb).toBelow
    rw [ho (by simp), loopO, numsA, hn]; rfl
  rintro _ w4 ⟨n, hn, rfl, hb⟩
  have H4 := H3.below hb
  have H4' : Has w0 w4 (Ik ++ ((b5, .cells #[v'] 50 (0, 0)) :: (b6, .cells (cells5 p.kind p.conn d p.brk kv) 44 (0, 0)) :: (b4, .cells (cells5 0 0 (.slice none 0 0) 0 (.slice none 0 0)) 44 (0, 0)) :: (bw, strsObj all) :: Id)) := H4.perm (by classical exact List.perm_iff_count.2 (fun a => by simp only [List.count_append, List.count_cons, List.count_nil, List.set_cons_zero, List.set_cons_succ, List.setIfInBounds_toArray, List.cons_append, List.nil_append, List.append_assoc]; omega))
  refine ⟨H4.get 1 rfl, Do.bs H4' (bs42 n) ?_⟩
  intro b w5 H5
  refine ⟨(H5.perm (by classical exact List.perm_iff_count.2 (fun a => by simp only [List.count_append, List.count_cons, List.count_nil, List.set_cons_zero, List.set_cons_succ, List.setIfInBounds_toArray, List.cons_append, List.nil_append, List.append_assoc]; omega)) : Has w0 w5 ((b6, .cells (cells5 p.kind p.conn d p.brk kv) 44 (0, 0)) :: (b, .cells #[.int .i64 n] 3 (0, 0)) :: (Ik ++ ((b5, .cells #[v'] 50 (0, 0)) :: (b4, .cells (cells5 0 0 (.slice none 0 0) 0 (.slice none 0 0)) 44 (0, 0)) :: (bw, strsObj all) :: Id)))).get 0 rfl, ?_⟩
  simp only [List.length_cons] at hl
  refine Do.append2 (t := 42) H5 hk rfl (by simp [Value.oneCell']) (by omega) (by omega) ?_
  intro k' I' w6 hk' H6 _
  have H6' : Has w0 w6 ((b5, .cells #[v'] 50 (0, 0)) :: (b6, .cells (cells5 p.kind p.conn d p.brk kv) 44 (0, 0)) :: (b4, .cells (cells5 0 0 (.slice none 0 0) 0 (.slice none 0 0)) 44 (0, 0)) :: (bw, strsObj all) :: (Id ++ I')) := H6.perm (by classical exact List.perm_iff_count.2 (fun a => by simp only [List.count_append, List.count_cons, List.count_nil, List.set_cons_zero, List.set_cons_succ, List.setIfInBounds_toArray, List.cons_append, List.nil_append, List.append_assoc]; omega))
  refine ⟨H6'.get 1 rfl, Take.ok (fun w _ => run_fld) ?_⟩
  refine DoU.st H6' 1 rfl hk'.one.1 hk'.one.2 (by simp [cells5]) (open0 _) ?_
  intro w7 H7
  refine k n s rest w7 rfl hn ⟨v', d, k', Id, I', hw', hd, ?_, by simp only [List.length_append, List.length_cons, List.length_nil]; omega, H7⟩
  unfold IRow
  rw [List.map_append, List.length_append]
  exact hk'
theorem step_j6 (hall : all.length ≤ 4294967296) {w : World} {p : StepV} {r : List ByteArray} (hs : St w0 w b4 b5 b6 bw all p r) (ho : o = firstO p r) {E : World → Prop}
    (hE : ∀ p' w', St w0 w' b4 b5 b6 bw all p' [] → o = some p' → E w') : f24.j6 X E (pt b5) (pt b6) w := by
  unfold f24.j6
  refine step_keep1 hR hX hall hs (fun h => by rw [ho, firstO, if_pos h]) (fun h => by rw [ho, firstO, if_neg h]) ?_
  rintro n s r' w2 rfl hn hs2
  have ho2 : o = loopO { p with keep := p.keep ++ [n] } r' := by
    rw [ho, firstO, if_neg (by simp), loopO, numsA, hn, loopO]
  refine ⟨fun k w' => ∃ q r'', k = r''.length ∧ St w0 w' b4 b5 b6 bw all q r'' ∧ o = loopO q r'', ⟨_, _, r', rfl, hs2, ho2⟩, ?_⟩
  rintro k σ w3 ⟨q, r'', rfl, hs3, ho3⟩
  unfold f24.l7
  obtain ⟨v, d, kv, Id, Ik, hw, hd, hk, hl, H⟩ := hs3
  have hs3 : St w0 w3 b4 b5 b6 bw all q r'' := ⟨v, d, kv, Id, Ik, hw, hd, hk, hl, H⟩
  refine Do.ld H 0 rfl rfl (Do.ok hw.len (Do.dec run_gtr (fun h => If.t ?_) (fun h => If.f ?_)))
  · have hne : r'' ≠ [] := by rintro rfl; simp at h
    refine step_keep1 hR hX hall hs3 (fun h => absurd h hne) (fun _ => ho3) ?_
    rintro m s2 r3 w4 rfl hm hs4
    exact ⟨r3.length, by simp, _, r3, rfl, hs4, by rw [ho3, loopO, numsA, hm, loopO]⟩
  · have he : r'' = [] := List.eq_nil_of_length_eq_zero (by omega)
    subst he
    exact hE q w3 hs3 (by rw [ho3, loopO, numsA]; rfl)
theorem step_j4 (hall : all.length ≤ 4294967296) {w : World} {p : StepV} {r : List ByteArray} {broken : Bool} (hs : St w0 w b4 b5 b6 bw all p r) (ho : o = keepO p broken r) : f24.j4 R X (pt b4) (pt b5) (pt b6) (.bool broken) w := by
  unfold f24.j4
  refine ⟨fun w' => ∃ p' r', St w0 w' b4 b5 b6 bw all p' r' ∧ o = endO p' r', ?_, ?_⟩
  · rintro σ w2 ⟨p', r', hs2, ho2⟩
    exact step_j5 hR hX hs2 ho2
  cases broken with
  | false =>
    refine GuardK.ft (GuardK.ft (GuardK.ft ?_))
    exact Do.ok run_pickF (If.f ⟨p, r, hs, by rw [ho]; rfl⟩)
  | true =>
    obtain ⟨v, d, kv, Id, Ik, hw, hd, hk, hl, H⟩ := hs
    have hs : St w0 w b4 b5 b6 bw all p r := ⟨v, d, kv, Id, Ik, hw, hd, hk, hl, H⟩
    refine GuardK.tt (Do.ld H 0 rfl rfl (GuardK.tt (Do.ok hw.len (GuardK.tt (Do.dec run_gtr (fun h => Do.ok run_pickT (If.t ?_)) (fun h => Do.ok run_pickT (If.f ?_)))))))
    case refine_2 =>
      have he : r = [] := List.eq_nil_of_length_eq_zero (by omega)
      exact ⟨p, r, hs, by rw [ho, he]; rfl⟩
    refine ⟨fun w' => ∃ r', St w0 w' b4 b5 b6 bw all p r' ∧ o = firstO p r', ?_, ?_⟩
    · rintro σ w2 ⟨r', hs2, ho2⟩
      exact step_j6 hR hX hall hs2 ho2 fun p' w' hs3 ho3 => ⟨p', [], hs3, by rw [ho3]; rfl⟩
    refine CallF.tries (f54.enters _ _) (take_try (open0 _) H (i := 2) rfl hw) ?_ ?_
    case refine_2 =>
      rintro _ w3 ⟨rfl, he, rfl⟩
      rw [he] at h; simp at h
    rintro _ w3 ⟨s, rest, v', rfl, rfl, hw', H3⟩
    simp only [List.length_cons] at hl
    refine Do.dec run_nes (fun h => If.t (CallF.fail (hX _ ?_ H3.toBelow))) (fun h => If.f ⟨rest, ⟨v', d, kv, Id, Ik, hw', hd, hk, by omega, H3⟩, ?_⟩)
    · rw [ho]
      show (if s = keepW then firstO p rest else none) = none
      rw [if_neg]
      rintro rfl; exact h rfl
    · rw [ho]
      show (if s = keepW then firstO p rest else none) = _
      rw [if_pos ((list_eq_iff s keepW).1 (Decidable.not_not.1 h))]
theorem step_j3 (hall : all.length ≤ 4294967296) {w : World} {p : StepV} {r : List ByteArray} (hs : St w0 w b4 b5 b6 bw all p r) (hk0 : p.brk = 0) (ho : o = brkO p r) : f24.j3 R X (pt b4) (pt b5) (pt b6) w := by
  unfold f24.j3
  obtain ⟨v, d, kv, Id, Ik, hw, hd, hk, hl, H⟩ := hs
  have hs : St w0 w b4 b5 b6 bw all p r := ⟨v, d, kv, Id, Ik, hw, hd, hk, hl, H⟩
  refine Do.ok run_fld (Do.ld H 1 rfl rfl (Do.ok run_eqi ?_))
  refine ⟨fun x w' => ∃ p' r' br, x = .bool br ∧ St w0 w' b4 b5 b6 bw all p' r' ∧ o = keepO p' br r', ?_, ?_⟩
  · rintro σ w2 ⟨p', r', br, hx, hs2, ho2⟩
    rw [hx]
    exact step_j4 hR hX hall hs2 ho2
  refine Do.ok run_fld (Do.ld H 1 rfl rfl ?_)
  refine CallF.ret (f58.enters _ _) (hasBreak_ret p.kind w) ?_
  rintro _ w1 ⟨rfl, rfl⟩
  have other : ∀ c : Bool, (hasBreakB p.kind = false ∨ r = []) → c = decide (p.kind = 6) → ∃ p' r' br, Value.bool c = .bool br ∧ St w0 w1 b4 b5 b6 bw all p' r' ∧ o = keepO p' br r' := by
    rintro c h rfl
    refine ⟨p, r, _, rfl, hs, ?_⟩
    rw [ho]
    unfold brkO
    rcases h with h | h
    · rw [h]
    · rw [h]; cases hasBreakB p.kind <;> rfl
  cases hb : hasBreakB p.kind with
  | false =>
    refine GuardK.ft (GuardK.ft (GuardK.ft (Do.ok run_pickF (If.f (other _ (.inl hb) rfl)))))
  | true =>
    refine GuardK.tt (Do.ld H 0 rfl rfl (GuardK.tt (Do.ok hw.len (GuardK.tt (Do.dec run_gtr (fun h => Do.ok run_pickT (If.t ?_)) (fun h => Do.ok run_pickT (If.f ?_)))))))
    case refine_2 => exact other _ (.inr (List.eq_nil_of_length_eq_zero (by omega))) rfl
    refine ⟨fun w' => ∃ r', St w0 w' b4 b5 b6 bw all p r' ∧ o = brk2O p r', ?_, ?_⟩
    · rintro σ w2 ⟨r', hs2, ho2⟩
      unfold f24.j8
      obtain ⟨v, d, kv, Id, Ik, hw, hd, hk, hl, H⟩ := hs2
      refine CallF.tries (f54.enters _ _) (take_try (open0 _) H (i := 2) rfl hw) ?_ ?_
      case refine_2 =>
        rintro _ w3 ⟨rfl, he, rfl⟩
        exact hX _ (by rw [ho2, he]; rfl) H.toBelow
      rintro _ w3 ⟨s, rest, v', rfl, rfl, hw', H3⟩
      simp only [List.length_cons] at hl
      refine CallF.tries (f56.enters _ _) (number_try s w3) ?_ ?_
      case refine_2 =>
        rintro _ w4 ⟨rfl, hn, hb⟩
        exact hX _ (by rw [ho2, brk2O, hn]) (H3.below hb).toBelow
      rintro _ w4 ⟨n, hn, rfl, hb⟩
      have H4 := H3.below hb
      refine Do.ok run_fld (DoU.st H4 1 rfl rfl (fun q => ⟨by simp, by simp⟩) (by simp [cells5]) (open0 _) ?_)
      intro w5 H5
      have H5 : Has w0 w5 ((b5, .cells #[v'] 50 (0, 0)) :: (b6, .cells (cells5 p.kind p.conn d n kv) 44 (0, 0)) :: (b4, .cells (cells5 0 0 (.slice none 0 0) 0 (.slice none 0 0)) 44 (0, 0)) :: (bw, strsObj all) :: (Id ++ Ik)) := H5
      refine Do.ok run_fld (Do.ld H5 1 rfl rfl (Do.dec run_lss (fun h => If.t (CallF.fail (hX _ ?_ H5.toBelow))) (fun h => If.f ⟨{ p with brk := n }, rest, true, rfl, ⟨v', d, kv, Id, Ik, hw', hd, hk, by show p.keep.length + _ ≤ _; omega, H5⟩, ?_⟩)))
      · rw [ho2, brk2O, hn]; exact if_pos h
      · rw [ho2, brk2O, hn]; exact if_neg h
    refine CallF.tries (f54.enters _ _) (take_try (open0 _) H (i := 2) rfl hw) ?_ ?_
    case refine_2 =>
      rintro _ w3 ⟨rfl, he, rfl⟩
      rw [he] at h; simp at h
    rintro _ w3 ⟨s, rest, v', rfl, rfl, hw', H3⟩
    simp only [List.length_cons] at hl
    have ho2 : o = if s = breakW then brk2O p rest else none := by rw [ho]; unfold brkO; rw [hb]
    refine Do.dec run_nes (fun h => If.t (CallF.fail (hX _ ?_ H3.toBelow))) (fun h => If.f ⟨rest, ⟨v', d, kv, Id, Ik, hw', hd, hk, by omega, H3⟩, ?_⟩)
    · rw [ho2, if_neg]
      rintro rfl; exact h rfl
    · rw [ho2, if_pos ((list_eq_iff s breakW).1 (Decidable.not_not.1 h))]
theorem step_j2 (hall : all.length ≤ 4294967296) (hwd : ∀ s ∈ all, 0 < s.size ∧ s.size < 4294967281) {w : World} {p : StepV} {r : List ByteArray} (hs : St w0 w b4 b5 b6 bw all p r) (hk0 : p.brk = 0) (ho : o = dataO p r) : f24.j2 R X (pt b4) (pt b5) (pt b6) w := by
  unfold f24.j2
  refine ⟨fun w' => ∃ p' r', St w0 w' b4 b5 b6 bw all p' r' ∧ p'.brk = 0 ∧ o = brkO p' r', ?_, ?_⟩
  · rintro σ w2 ⟨p', r', hs2, hb2, ho2⟩
    exact step_j3 hR hX hall hs2 hb2 ho2
  obtain ⟨v, d, kv, Id, Ik, hw, hd, hk, hl, H⟩ := hs
  refine Do.ok run_fld (Do.ld H 1 rfl rfl (Do.dec run_eqi (fun h => If.t ?_) (fun h => If.f ⟨p, r, ⟨v, d, kv, Id, Ik, hw, hd, hk, hl, H⟩, hk0, by rw [ho]; unfold dataO; rw [if_neg h]⟩)))
  unfold dataO at ho
  rw [if_pos h] at ho
  refine CallF.tries (f54.enters _ _) (take_try (open0 _) H (i := 2) rfl hw) ?_ ?_
  case refine_2 =>
    rintro _ w3 ⟨rfl, he, rfl⟩
    exact hX _ (by rw [ho, he]) H.toBelow
  rintro _ w3 ⟨s, rest, v', rfl, rfl, hw', H3⟩
  simp only [List.length_cons] at hl
  have hmem : s ∈ all := by
    obtain ⟨oo, c, _, _, ha⟩ := hw
    exact List.mem_of_getElem? (ha 0 (by simp))
  refine CallF.tries (f57.enters _ _) (bytesOf_try s (hwd s hmem).1 (hwd s hmem).2 w3) ?_ ?_
  case refine_2 =>
    rintro _ w4 ⟨rfl, hn, hb⟩
    exact hX _ (by rw [ho]; simp only [hn]) (H3.below hb).toBelow
  rintro dv w4 ⟨l, I, hn, hbr, H4⟩
  have H4 := H3.more H4
  have H4' : Has w0 w4 (Id ++ ((b5, .cells #[v'] 50 (0, 0)) :: (b6, .cells (cells5 p.kind p.conn d p.brk kv) 44 (0, 0)) :: (b4, .cells (cells5 0 0 (.slice none 0 0) 0 (.slice none 0 0)) 44 (0, 0)) :: (bw, strsObj all) :: (I ++ Ik))) := H4.perm (by classical exact List.perm_iff_count.2 (fun a => by simp only [List.count_append, List.count_cons, List.count_nil, List.set_cons_zero, List.set_cons_succ, List.setIfInBounds_toArray, List.cons_append, List.nil_append, List.append_assoc]; omega))
  refine Do.ok run_fld (DoU.st H4'.right 1 rfl hbr.one.1 hbr.one.2 (by simp [cells5]) (open0 _) ?_)
  intro w5 H5
  exact ⟨{ p with data := l }, rest, ⟨v', dv, kv, I, Ik, hw', hbr, hk, by show p.keep.length + _ ≤ _; omega, H5⟩, hk0, by rw [ho]; simp only [hn]⟩
theorem step_j1 (hall : all.length ≤ 4294967296) (hwd : ∀ s ∈ all, 0 < s.size ∧ s.size < 4294967281) {w : World} {p : StepV} {q : ByteArray} {r : List ByteArray} (hs : St w0 w b4 b5 b6 bw all p (q :: r)) (hk0 : p.brk = 0) (ho : o = connO p r) : f24.j1 R X (pt b4) (pt b5) (pt b6) w := by
  unfold f24.j1
  obtain ⟨v, d, kv, Id, Ik, hw, hd, hk, hl, H⟩ := hs
  obtain ⟨v', hw', hsl⟩ := hw.tail
  simp only [List.length_cons] at hl
  refine Do.ld H 0 rfl rfl (Do.ok (hsl _) (DoU.st H 0 rfl hw'.one.1 hw'.one.2 (by simp) (open0 _) ?_))
  intro w2 H2
  have H2 : Has w0 w2 ((b5, .cells #[v'] 50 (0, 0)) :: (b6, .cells (cells5 p.kind p.conn d p.brk kv) 44 (0, 0)) :: (b4, .cells (cells5 0 0 (.slice none 0 0) 0 (.slice none 0 0)) 44 (0, 0)) :: (bw, strsObj all) :: (Id ++ Ik)) := H2
  refine ⟨fun w' => ∃ p' r', St w0 w' b4 b5 b6 bw all p' r' ∧ p'.brk = 0 ∧ o = dataO p' r', ?_, ?_⟩
  · rintro σ w3 ⟨p', r', hs2, hb2, ho2⟩
    exact step_j2 hR hX hall hwd hs2 hb2 ho2
  refine Do.ok run_fld (Do.ld H2 1 rfl rfl ?_)
  refine CallF.ret (f55.enters _ _) (hasConn_ret p.kind w2) ?_
  rintro _ w3 ⟨rfl, rfl⟩
  unfold connO at ho
  cases hc : hasConnB p.kind with
  | false =>
    rw [hc, if_neg (by simp)] at ho
    exact If.f ⟨p, r, ⟨v', d, kv, Id, Ik, hw', hd, hk, by omega, H2⟩, hk0, ho⟩
  | true =>
    rw [hc, if_pos rfl] at ho
    refine If.t (CallF.tries (f54.enters _ _) (take_try (open0 _) H2 (i := 2) rfl hw') ?_ ?_)
    case refine_2 =>
      rintro _ w4 ⟨rfl, he, rfl⟩
      exact hX _ (by rw [ho, he]) H2.toBelow
    rintro _ w4 ⟨s, rest, v2, rfl, rfl, hw2, H4⟩
    simp only [List.length_cons] at hl
    refine CallF.tries (f56.enters _ _) (number_try s w4) ?_ ?_
    case refine_2 =>
      rintro _ w5 ⟨rfl, hn, hb⟩
      exact hX _ (by rw [ho]; simp only [hn]) (H4.below hb).toBelow
    rintro _ w5 ⟨n, hn, rfl, hb⟩
    have H5 := H4.below hb
    refine Do.ok run_fld (DoU.st H5 1 rfl rfl (fun q => ⟨by simp, by simp⟩) (by simp [cells5]) (open0 _) ?_)
    intro w6 H6
    exact ⟨{ p with conn := n }, rest, ⟨v2, d, kv, Id, Ik, hw2, hd, hk, by show p.keep.length + _ ≤ _; omega, H6⟩, hk0, by rw [ho]; simp only [hn]⟩
end
theorem wordsB_size {ss : List ByteArray} (h : wordsB ss = true) : 0 < ss.length ∧ ∀ s ∈ ss, 0 < s.size := by
  unfold wordsB at h
  rw [Bool.and_eq_true, decide_eq_true_eq, List.all_eq_true] at h
  refine ⟨h.2, fun s hs => ?_⟩
  have := h.1 s hs
  unfold wordB at this
  rw [Bool.and_eq_true, decide_eq_true_eq] at this
  have h2 : 0 < s.data.toList.length := List.length_pos_iff.2 this.2
  simpa using h2
theorem cut_len (c : UInt8) (l : List UInt8) : ∀ q ∈ cut c l, q.length ≤ l.length := by
  induction l with
  | nil => simp [cut]
  | cons b l ih =>
    unfold cut
    split
    · intro q hq
      rcases List.mem_cons.1 hq with rfl | hq
      · simp
      · have := ih q hq; simp; omega
    · cases hc : cut c l with
      | nil => exact absurd hc (cut_ne c l)
      | cons h t =>
        rw [hc] at ih
        intro q hq
        rcases List.mem_cons.1 hq with rfl | hq
        · have := ih h (by simp); simp; omega
        · have := ih q (by simp [hq]); simp; omega
theorem pieces_size (c : UInt8) (s : ByteArray) : ∀ q ∈ pieces c s, q.size ≤ s.size := by
  intro q hq
  unfold pieces at hq
  obtain ⟨l, hl, rfl⟩ := List.mem_map.1 hq
  have := cut_len c _ l hl
  show l.toArray.size ≤ s.size
  simpa using this
theorem build44 (k : Int) (w : World) : (Instr.build 44 #[(0, .int .i64 k)]).run P w = .ok (.agg (cells5 k 0 (.slice none 0 0) 0 (.slice none 0 0))) w := by kernel_rfl
theorem step_try (s : ByteArray) (hs : s.size ≤ 4294967280) (ahead : Int) (w : World) (hg : Glb w) : Try 24 #[.string s, .int .i64 ahead] w
    (fun v w' => ∃ st c I, lineV s ahead = .ok st ∧ v = .agg c ∧ StepAt c st I ∧ Has w w' I) (fun c w' => lineV s ahead = .error c ∧ Below w.heap.size w w') := by
  refine f24.calls ?_
  unfold f24.f
  refine Do.alloc (Has.init w) ?_
  intro b4 w1 H
  refine CallF.tries (f52.enters _ _) (split_try s (by omega) w1 (hg.has H)) ?_ ?_
  case refine_2 =>
    rintro _ w2 ⟨hw, rfl, hb⟩
    exact ⟨191, rfl, by rw [lineV, hw]; rfl, (H.below hb).toBelow⟩
  rintro _ w2 ⟨hw, bw, rfl, H2⟩
  have H3 := H.more H2
  obtain ⟨hpos, hws⟩ := wordsB_size hw
  have hsz := pieces_size 32 s
  have hle := pieces_le 32 s
  have hln : lineV s ahead = stepV (pieces 32 s) ahead := by rw [lineV, if_pos hw]
  rw [hln]
  generalize pieces 32 s = all at *
  obtain ⟨q, r, rfl⟩ := List.exists_cons_of_ne_nil (List.length_pos_iff.1 hpos)
  refine Do.alloc H3 ?_
  intro b5 w4 H4
  have hW := Wd.all bw (q :: r)
  refine DoU.st H4 0 rfl rfl (fun q => ⟨by simp, by simp⟩) (by simp [Value.cells]) (open0 _) ?_
  intro w5 H5
  have H5 : Has w w5 ((b5, .cells #[.slice (some ⟨bw, 0, none⟩) (q :: r).length (q :: r).length] 50 (0, 0)) :: (bw, strsObj (q :: r)) :: (b4, .cells (cells5 0 0 (.slice none 0 0) 0 (.slice none 0 0)) 44 (0, 0)) :: []) := H5
  obtain ⟨o, ho, hidx⟩ := hW.idx0
  refine Do.ld H5 0 rfl rfl (Do.ok (hidx _) (Do.ld H5 1 rfl (strsObj_get ho) ?_))
  refine CallF.ret (f53.enters _ _) (kindOf_ret q w5) ?_
  rintro _ w6 ⟨rfl, rfl⟩
  refine Do.ok (build44 _ _) (Do.alloc H5 ?_)
  intro b6 w7 H7
  refine DoU.stAll H7 0 rfl rfl rfl (cells5_flat (fun q => ⟨by simp, by simp⟩) (fun q => ⟨by simp, by simp⟩)) (fun j _ => open0 _) ?_
  intro w8 H8
  have H8 : Has w w8 ((b6, .cells (cells5 (kindV q) 0 (.slice none 0 0) 0 (.slice none 0 0)) 44 (0, 0)) :: (b5, .cells #[.slice (some ⟨bw, 0, none⟩) (q :: r).length (q :: r).length] 50 (0, 0)) :: (bw, strsObj (q :: r)) :: (b4, .cells (cells5 0 0 (.slice none 0 0) 0 (.slice none 0 0)) 44 (0, 0)) :: []) := H8
  refine ⟨fun w' => w' = w8 ∧ kindV q ≠ 0, ?_, ?_⟩
  case refine_2 =>
    refine Do.ok run_fld (Do.ld H8 0 rfl rfl (Do.dec run_eqi (fun h => If.t (CallF.fail ⟨191, rfl, ?_, H8.toBelow⟩)) (fun h => If.f ⟨rfl, h⟩)))
    rw [stepV, if_pos h]
  rintro σ w9 ⟨rfl, hk0⟩
  unfold f24.j0
  refine ⟨fun w' => w' = w9 ∧ ¬ 4000 ≤ ahead, ?_, ?_⟩
  case refine_2 =>
    refine Do.dec run_geq (fun h => If.t (CallF.fail ⟨194, rfl, ?_, H8.toBelow⟩)) (fun h => If.f ⟨rfl, h⟩)
    rw [stepV, if_neg hk0, if_pos h]
  rintro σ w10 ⟨rfl, hah⟩
  rw [stepV, if_neg hk0, if_neg hah]
  refine step_j1 (w0 := w) (bw := bw) (all := q :: r) (p := ⟨kindV q, 0, [], 0, []⟩) (o := connO ⟨kindV q, 0, [], 0, []⟩ r) ?_ ?_ (by omega) (fun s' h => ⟨hws s' h, by have := hsz s' h; omega⟩)
    ⟨_, .slice none 0 0, .slice none 0 0, [], [], hW, .nil, .nil, by simp, H8.perm (by classical exact List.perm_iff_count.2 (fun a => by simp only [List.count_append, List.count_cons, List.count_nil, List.set_cons_zero, List.set_cons_succ, List.setIfInBounds_toArray, List.cons_append, List.nil_append, List.append_assoc]; omega))⟩ rfl rfl
  · rintro st c I w' ho hc H'
    refine ⟨st, c, I, ?_, rfl, hc, H'⟩
    rw [ho]
  · rintro w' ho hb
    refine ⟨192, rfl, ?_, hb⟩
    rw [ho]
end Go.Proofs.YtdnnamaimgijpaaDoor
