/- Contract of yaml.Dict. Conditions: none. -/
import Derived.Test.YtggdogncmkffpaaDoorA3
set_option linter.unusedVariables false
set_option maxRecDepth 10000
namespace Go.Proofs.YtggdogncmkffpaaDoor
open Go Go.Sx Go.Proofs Go.Lib Go.RowKit

def first4 : List UInt8 := [45, 45, 45, 10]
def lineOf (p : Pr) : List UInt8 := p.1.data.toList ++ [58, 32] ++ p.2.data.toList ++ [10]
def dictBytes (ps : List Pr) : List UInt8 := first4 ++ (ps.map lineOf).flatten
/-- The first i pairs may stand in a dictionary. -/
def okTo (ps : List Pr) (i : Nat) : Prop := ∀ j (h : j < ps.length), j < i → rightB ps[j].1.data.toList = true ∧ hasB (ps.take j) ps[j].1 = false ∧ plainB ps[j].2.data.toList = true
def dictOk (ps : List Pr) : Prop := ps.length ≤ 256 ∧ okTo ps ps.length
def DictPost (w0 : World) (ps : List Pr) (r : Value) (w' : World) : Prop :=
  ∃ u e, r = .tuple #[u, .int .i64 e] ∧ Below w0.heap.size w0 w' ∧ ((dictOk ps ∧ w'.ownsRow w0.heap.size 5 1 u (dictBytes ps).length (byteCells (dictBytes ps))) ∨ (¬ dictOk ps ∧ u = .slice none 0 0))
def sizeOk (ps : List Pr) : Prop := ∀ p ∈ ps, p.1.size ≤ 9223372036854775807 ∧ p.2.size ≤ 9223372036854775807
theorem lines_take {ps : List Pr} {i : Nat} (h : i < ps.length) : dictBytes (ps.take (i + 1)) = dictBytes (ps.take i) ++ lineOf ps[i] := by
  rw [dictBytes, dictBytes, List.take_succ_eq_append_getElem h, List.map_append, List.flatten_append, List.append_assoc]
  simp only [List.map_cons, List.map_nil, List.flatten_cons, List.flatten_nil, List.append_nil]
theorem rightB_len {l : List UInt8} (h : rightB l = true) : l.length ≤ 64 := by
  simp only [rightB, Bool.and_eq_true, decide_eq_true_eq] at h; exact h.2
theorem plainB_len {l : List UInt8} (h : plainB l = true) : l.length ≤ 4096 := by
  simp only [plainB, Bool.and_eq_true, decide_eq_true_eq] at h; exact h.2
theorem lineOf_len {p : Pr} (h1 : rightB p.1.data.toList = true) (h2 : plainB p.2.data.toList = true) : (lineOf p).length ≤ 4163 := by
  have a := rightB_len h1
  have b := plainB_len h2
  simp only [lineOf, List.length_append, List.length_cons, List.length_nil]
  omega
theorem dict_len {ps : List Pr} : ∀ i, i ≤ ps.length → okTo ps i → (dictBytes (ps.take i)).length ≤ 4 + 4163 * i := by
  intro i
  induction i with
  | zero => intro _ _; simp [dictBytes, first4]
  | succ i ih =>
    intro hi hok
    have h := ih (by omega) (fun j hj hji => hok j hj (by omega))
    have hl := hok i (by omega) (by omega)
    rw [lines_take (by omega), List.length_append]
    have := lineOf_len hl.1 hl.2.2
    omega

theorem dict_ret (v : Value) (ps : List Pr) (w : World) (hv : PairsAt w v ps) (hs : sizeOk ps) : Ret P 26 #[v] w (DictPost w ps) := by
  obtain ⟨x, c, rfl, hc, hm, hp⟩ := hv
  have hv : PairsAt w (.slice x ps.length c) ps := ⟨x, c, rfl, hc, hm, hp⟩
  refine f26.calls ?_
  unfold f26.f
  refine Do.ok run_lenS (Do.dec run_gtr (fun h => If.t ?_) (fun h => If.f ?_))
  · exact ⟨_, _, rfl, (Has.init w).toBelow, .inr ⟨fun hd => by have := hd.1; omega, rfl⟩⟩
  have hn : ps.length ≤ 256 := by omega
  refine Do.alloc (Has.init w) ?_
  intro bb w0 H0
  have hB0 : BufI bb [] [(bb, .cells (Value.agg #[.slice none 0 0, .int .i64 0, .int .i8 0]).cells 70)] := ⟨_, 0, [], .nil, rfl⟩
  have hnil : noU8 [] := by intro p hp; cases hp
  refine CallF.ret (enters31 _ _) (writeString_ret (L := []) hB0 H0 hnil _ (by simp [ByteArray.size])) ?_
  rintro _ w1 ⟨I1, hB1, H1⟩
  have e4 : ([] : List UInt8) ++ (ByteArray.mk #[45, 45, 45, 10]).data.toList = first4 := rfl
  rw [e4] at hB1
  refine Do.ok run_lenS ?_
  refine ⟨fun k x w' => ∃ (i : Nat) (I : List (Nat × Obj)), k + i = ps.length ∧ x = .int .i64 i ∧ okTo ps i ∧ BufI bb (dictBytes (ps.take i)) I ∧ Has w w' (I ++ []),
    ⟨ps.length, 0, I1, by simp, rfl, fun j h hj => absurd hj (by omega), by simpa [dictBytes] using hB1, H1⟩, ?_⟩
  rintro k σ w2 ⟨i, I, hk, hx, hok, hB, H⟩
  rw [hx]
  unfold f26.l0
  refine Do.dec run_lss (fun hlt => If.t ?_) (fun hge => If.f ?_)
  · have hi : i < ps.length := by omega
    obtain ⟨b, cs, fz, rfl, hb, hcs⟩ := hp (by omega)
    obtain ⟨h0, h1⟩ := hcs i hi
    obtain ⟨he, hsz⟩ := extract2 h0 h1
    have hsi := hs ps[i] (List.getElem_mem _)
    refine Do.ok (run_idx (by omega) (by omega)) ?_
    have ei : 0 + (i : Int).toNat * 2 = 2 * i := by omega
    rw [ei]
    refine Do.ok (run_loadBaseN H hb hsz) ?_
    rw [he]
    refine Do.alloc H ?_
    intro b6 w3 H3
    refine DoU.stN H3 0 rfl rfl (by simp) (by simp [Value.cells]) (fun j _ => by simp [open_]) ?_
    intro w4 H4
    have H4 : Has w w4 ((b6, .cells #[.string ps[i].1, .string ps[i].2] 44 (0, 0)) :: (I ++ [])) := H4
    refine ⟨fun w' => w'.heap[b6]? = some (.cells #[.string ps[i].1, .string ps[i].2] 44 (0, 0)), (H4.drew).get 0 rfl, ?_⟩
    dsimp only
    refine Take.ok (fun _ _ => run_fld) (Take.ok (v := .string ps[i].1) (fun w' hS => run_load1 ((cell_of_blk hS _).trans rfl)) ?_)
    refine CallF.ret (f32.enters _ _) (right_ret ps[i].1 _ (by omega)) ?_
    rintro _ w5 ⟨rfl, hb5⟩
    have H5 := (H4.drew).below hb5
    refine ⟨H5.get 0 rfl, ?_⟩
    cases hr : rightB ps[i].1.data.toList with
    | false =>
      (repeat' (with_reducible first | refine Do.dec run_lss (fun _ => ?_) (fun _ => ?_) | refine Do.dec run_gtr (fun _ => ?_) (fun _ => ?_) | refine Do.dec run_leq (fun _ => ?_) (fun _ => ?_) | refine Do.dec run_geq (fun _ => ?_) (fun _ => ?_) | refine Do.dec run_eqi (fun _ => ?_) (fun _ => ?_) | refine Do.dec run_nei (fun _ => ?_) (fun _ => ?_) | refine Do.dec run_eqs (fun _ => ?_) (fun _ => ?_) | refine Do.dec run_nes (fun _ => ?_) (fun _ => ?_) | refine Do.ok run_pickT ?_ | refine Do.ok run_pickF ?_ | refine Do.ok run_notT ?_ | refine Do.ok run_notF ?_ | refine GuardK.tt ?_ | refine GuardK.ff ?_ | refine GuardK.tf ?_ | refine GuardK.ft ?_ | refine GuardK.un ?_ | refine If.t ?_ | refine If.f ?_ | refine Do.ok run_lenS ?_ | refine Do.ok run_lenStr ?_ | refine Do.ok run_nilp ?_ | refine Do.ok run_fld ?_ | refine Do.ok (run_ext rfl) ?_ | refine GuardT.tt ?_ | refine GuardT.ff ?_ | refine GuardT.tf ?_ | refine GuardT.ft ?_ | refine GuardT.un ?_ | refine Take.ok (fun _ _ => run_fld) ?_ | refine Take.ok (fun _ _ => run_pickT) ?_ | refine Take.ok (fun _ _ => run_pickF) ?_ | refine Take.ok (fun _ _ => run_notT) ?_ | refine Take.ok (fun _ _ => run_notF) ?_ | refine Take.dec (fun _ => run_lss) (fun _ => ?_) (fun _ => ?_) | refine Take.dec (fun _ => run_gtr) (fun _ => ?_) (fun _ => ?_) | refine Take.dec (fun _ => run_leq) (fun _ => ?_) (fun _ => ?_) | refine Take.dec (fun _ => run_eqi) (fun _ => ?_) (fun _ => ?_) | refine Take.dec (fun _ => run_nei) (fun _ => ?_) (fun _ => ?_) | refine Take.dec (fun _ => run_eqs) (fun _ => ?_) (fun _ => ?_)))
      refine ⟨H5.get 0 rfl, ?_⟩
      (repeat' (with_reducible first | refine Do.dec run_lss (fun _ => ?_) (fun _ => ?_) | refine Do.dec run_gtr (fun _ => ?_) (fun _ => ?_) | refine Do.dec run_leq (fun _ => ?_) (fun _ => ?_) | refine Do.dec run_geq (fun _ => ?_) (fun _ => ?_) | refine Do.dec run_eqi (fun _ => ?_) (fun _ => ?_) | refine Do.dec run_nei (fun _ => ?_) (fun _ => ?_) | refine Do.dec run_eqs (fun _ => ?_) (fun _ => ?_) | refine Do.dec run_nes (fun _ => ?_) (fun _ => ?_) | refine Do.ok run_pickT ?_ | refine Do.ok run_pickF ?_ | refine Do.ok run_notT ?_ | refine Do.ok run_notF ?_ | refine GuardK.tt ?_ | refine GuardK.ff ?_ | refine GuardK.tf ?_ | refine GuardK.ft ?_ | refine GuardK.un ?_ | refine If.t ?_ | refine If.f ?_ | refine Do.ok run_lenS ?_ | refine Do.ok run_lenStr ?_ | refine Do.ok run_nilp ?_ | refine Do.ok run_fld ?_ | refine Do.ok (run_ext rfl) ?_ | refine GuardT.tt ?_ | refine GuardT.ff ?_ | refine GuardT.tf ?_ | refine GuardT.ft ?_ | refine GuardT.un ?_ | refine Take.ok (fun _ _ => run_fld) ?_ | refine Take.ok (fun _ _ => run_pickT) ?_ | refine Take.ok (fun _ _ => run_pickF) ?_ | refine Take.ok (fun _ _ => run_notT) ?_ | refine Take.ok (fun _ _ => run_notF) ?_ | refine Take.dec (fun _ => run_lss) (fun _ => ?_) (fun _ => ?_) | refine Take.dec (fun _ => run_gtr) (fun _ => ?_) (fun _ => ?_) | refine Take.dec (fun _ => run_leq) (fun _ => ?_) (fun _ => ?_) | refine Take.dec (fun _ => run_eqi) (fun _ => ?_) (fun _ => ?_) | refine Take.dec (fun _ => run_nei) (fun _ => ?_) (fun _ => ?_) | refine Take.dec (fun _ => run_eqs) (fun _ => ?_) (fun _ => ?_)))
      exact ⟨_, _, rfl, H5.toBelow, .inr ⟨fun hd => (by have := (hd.2 i hi hi).1; rw [hr] at this; cases this), rfl⟩⟩
    | true =>
      (repeat' (with_reducible first | refine Do.dec run_lss (fun _ => ?_) (fun _ => ?_) | refine Do.dec run_gtr (fun _ => ?_) (fun _ => ?_) | refine Do.dec run_leq (fun _ => ?_) (fun _ => ?_) | refine Do.dec run_geq (fun _ => ?_) (fun _ => ?_) | refine Do.dec run_eqi (fun _ => ?_) (fun _ => ?_) | refine Do.dec run_nei (fun _ => ?_) (fun _ => ?_) | refine Do.dec run_eqs (fun _ => ?_) (fun _ => ?_) | refine Do.dec run_nes (fun _ => ?_) (fun _ => ?_) | refine Do.ok run_pickT ?_ | refine Do.ok run_pickF ?_ | refine Do.ok run_notT ?_ | refine Do.ok run_notF ?_ | refine GuardK.tt ?_ | refine GuardK.ff ?_ | refine GuardK.tf ?_ | refine GuardK.ft ?_ | refine GuardK.un ?_ | refine If.t ?_ | refine If.f ?_ | refine Do.ok run_lenS ?_ | refine Do.ok run_lenStr ?_ | refine Do.ok run_nilp ?_ | refine Do.ok run_fld ?_ | refine Do.ok (run_ext rfl) ?_ | refine GuardT.tt ?_ | refine GuardT.ff ?_ | refine GuardT.tf ?_ | refine GuardT.ft ?_ | refine GuardT.un ?_ | refine Take.ok (fun _ _ => run_fld) ?_ | refine Take.ok (fun _ _ => run_pickT) ?_ | refine Take.ok (fun _ _ => run_pickF) ?_ | refine Take.ok (fun _ _ => run_notT) ?_ | refine Take.ok (fun _ _ => run_notF) ?_ | refine Take.dec (fun _ => run_lss) (fun _ => ?_) (fun _ => ?_) | refine Take.dec (fun _ => run_gtr) (fun _ => ?_) (fun _ => ?_) | refine Take.dec (fun _ => run_leq) (fun _ => ?_) (fun _ => ?_) | refine Take.dec (fun _ => run_eqi) (fun _ => ?_) (fun _ => ?_) | refine Take.dec (fun _ => run_nei) (fun _ => ?_) (fun _ => ?_) | refine Take.dec (fun _ => run_eqs) (fun _ => ?_) (fun _ => ?_)))
      refine Take.ok (fun w' _ => run_slice (b := i) (.inr ⟨rfl, rfl⟩) (.inl rfl) (by omega) (by omega)) ?_
      have ex : (if c = 0 then (some ⟨b, 0, none⟩ : Option Addr) else (some (⟨b, 0, none⟩ : Addr)).map (·.add (0 * 2))) = some ⟨b, 0, none⟩ := by
        split <;> simp [add_blk]
      rw [ex, Nat.sub_zero, Nat.sub_zero]
      (repeat' (with_reducible first | refine Do.dec run_lss (fun _ => ?_) (fun _ => ?_) | refine Do.dec run_gtr (fun _ => ?_) (fun _ => ?_) | refine Do.dec run_leq (fun _ => ?_) (fun _ => ?_) | refine Do.dec run_geq (fun _ => ?_) (fun _ => ?_) | refine Do.dec run_eqi (fun _ => ?_) (fun _ => ?_) | refine Do.dec run_nei (fun _ => ?_) (fun _ => ?_) | refine Do.dec run_eqs (fun _ => ?_) (fun _ => ?_) | refine Do.dec run_nes (fun _ => ?_) (fun _ => ?_) | refine Do.ok run_pickT ?_ | refine Do.ok run_pickF ?_ | refine Do.ok run_notT ?_ | refine Do.ok run_notF ?_ | refine GuardK.tt ?_ | refine GuardK.ff ?_ | refine GuardK.tf ?_ | refine GuardK.ft ?_ | refine GuardK.un ?_ | refine If.t ?_ | refine If.f ?_ | refine Do.ok run_lenS ?_ | refine Do.ok run_lenStr ?_ | refine Do.ok run_nilp ?_ | refine Do.ok run_fld ?_ | refine Do.ok (run_ext rfl) ?_ | refine GuardT.tt ?_ | refine GuardT.ff ?_ | refine GuardT.tf ?_ | refine GuardT.ft ?_ | refine GuardT.un ?_ | refine Take.ok (fun _ _ => run_fld) ?_ | refine Take.ok (fun _ _ => run_pickT) ?_ | refine Take.ok (fun _ _ => run_pickF) ?_ | refine Take.ok (fun _ _ => run_notT) ?_ | refine Take.ok (fun _ _ => run_notF) ?_ | refine Take.dec (fun _ => run_lss) (fun _ => ?_) (fun _ => ?_) | refine Take.dec (fun _ => run_gtr) (fun _ => ?_) (fun _ => ?_) | refine Take.dec (fun _ => run_leq) (fun _ => ?_) (fun _ => ?_) | refine Take.dec (fun _ => run_eqi) (fun _ => ?_) (fun _ => ?_) | refine Take.dec (fun _ => run_nei) (fun _ => ?_) (fun _ => ?_) | refine Take.dec (fun _ => run_eqs) (fun _ => ?_) (fun _ => ?_)))
      refine Take.ok (v := .string ps[i].1) (fun w' hS => run_load1 ((cell_of_blk hS _).trans rfl)) ?_
      (repeat' (with_reducible first | refine Do.dec run_lss (fun _ => ?_) (fun _ => ?_) | refine Do.dec run_gtr (fun _ => ?_) (fun _ => ?_) | refine Do.dec run_leq (fun _ => ?_) (fun _ => ?_) | refine Do.dec run_geq (fun _ => ?_) (fun _ => ?_) | refine Do.dec run_eqi (fun _ => ?_) (fun _ => ?_) | refine Do.dec run_nei (fun _ => ?_) (fun _ => ?_) | refine Do.dec run_eqs (fun _ => ?_) (fun _ => ?_) | refine Do.dec run_nes (fun _ => ?_) (fun _ => ?_) | refine Do.ok run_pickT ?_ | refine Do.ok run_pickF ?_ | refine Do.ok run_notT ?_ | refine Do.ok run_notF ?_ | refine GuardK.tt ?_ | refine GuardK.ff ?_ | refine GuardK.tf ?_ | refine GuardK.ft ?_ | refine GuardK.un ?_ | refine If.t ?_ | refine If.f ?_ | refine Do.ok run_lenS ?_ | refine Do.ok run_lenStr ?_ | refine Do.ok run_nilp ?_ | refine Do.ok run_fld ?_ | refine Do.ok (run_ext rfl) ?_ | refine GuardT.tt ?_ | refine GuardT.ff ?_ | refine GuardT.tf ?_ | refine GuardT.ft ?_ | refine GuardT.un ?_ | refine Take.ok (fun _ _ => run_fld) ?_ | refine Take.ok (fun _ _ => run_pickT) ?_ | refine Take.ok (fun _ _ => run_pickF) ?_ | refine Take.ok (fun _ _ => run_notT) ?_ | refine Take.ok (fun _ _ => run_notF) ?_ | refine Take.dec (fun _ => run_lss) (fun _ => ?_) (fun _ => ?_) | refine Take.dec (fun _ => run_gtr) (fun _ => ?_) (fun _ => ?_) | refine Take.dec (fun _ => run_leq) (fun _ => ?_) (fun _ => ?_) | refine Take.dec (fun _ => run_eqi) (fun _ => ?_) (fun _ => ?_) | refine Take.dec (fun _ => run_nei) (fun _ => ?_) (fun _ => ?_) | refine Take.dec (fun _ => run_eqs) (fun _ => ?_) (fun _ => ?_)))
      refine CallF.ret (f33.enters _ _) (has_ret _ (ps.take i) ps[i].1 w5 ?_) ?_
      · exact (hv.take i (by omega)).below (H5.toBelow)
      rintro _ w6 ⟨rfl, hb6⟩
      have H6 := H5.below hb6
      refine ⟨H6.get 0 rfl, ?_⟩
      (repeat' (with_reducible first | refine Do.dec run_lss (fun _ => ?_) (fun _ => ?_) | refine Do.dec run_gtr (fun _ => ?_) (fun _ => ?_) | refine Do.dec run_leq (fun _ => ?_) (fun _ => ?_) | refine Do.dec run_geq (fun _ => ?_) (fun _ => ?_) | refine Do.dec run_eqi (fun _ => ?_) (fun _ => ?_) | refine Do.dec run_nei (fun _ => ?_) (fun _ => ?_) | refine Do.dec run_eqs (fun _ => ?_) (fun _ => ?_) | refine Do.dec run_nes (fun _ => ?_) (fun _ => ?_) | refine Do.ok run_pickT ?_ | refine Do.ok run_pickF ?_ | refine Do.ok run_notT ?_ | refine Do.ok run_notF ?_ | refine GuardK.tt ?_ | refine GuardK.ff ?_ | refine GuardK.tf ?_ | refine GuardK.ft ?_ | refine GuardK.un ?_ | refine If.t ?_ | refine If.f ?_ | refine Do.ok run_lenS ?_ | refine Do.ok run_lenStr ?_ | refine Do.ok run_nilp ?_ | refine Do.ok run_fld ?_ | refine Do.ok (run_ext rfl) ?_ | refine GuardT.tt ?_ | refine GuardT.ff ?_ | refine GuardT.tf ?_ | refine GuardT.ft ?_ | refine GuardT.un ?_ | refine Take.ok (fun _ _ => run_fld) ?_ | refine Take.ok (fun _ _ => run_pickT) ?_ | refine Take.ok (fun _ _ => run_pickF) ?_ | refine Take.ok (fun _ _ => run_notT) ?_ | refine Take.ok (fun _ _ => run_notF) ?_ | refine Take.dec (fun _ => run_lss) (fun _ => ?_) (fun _ => ?_) | refine Take.dec (fun _ => run_gtr) (fun _ => ?_) (fun _ => ?_) | refine Take.dec (fun _ => run_leq) (fun _ => ?_) (fun _ => ?_) | refine Take.dec (fun _ => run_eqi) (fun _ => ?_) (fun _ => ?_) | refine Take.dec (fun _ => run_nei) (fun _ => ?_) (fun _ => ?_) | refine Take.dec (fun _ => run_eqs) (fun _ => ?_) (fun _ => ?_)))
      cases hh : hasB (ps.take i) ps[i].1 with
      | true =>
        (repeat' (with_reducible first | refine Do.dec run_lss (fun _ => ?_) (fun _ => ?_) | refine Do.dec run_gtr (fun _ => ?_) (fun _ => ?_) | refine Do.dec run_leq (fun _ => ?_) (fun _ => ?_) | refine Do.dec run_geq (fun _ => ?_) (fun _ => ?_) | refine Do.dec run_eqi (fun _ => ?_) (fun _ => ?_) | refine Do.dec run_nei (fun _ => ?_) (fun _ => ?_) | refine Do.dec run_eqs (fun _ => ?_) (fun _ => ?_) | refine Do.dec run_nes (fun _ => ?_) (fun _ => ?_) | refine Do.ok run_pickT ?_ | refine Do.ok run_pickF ?_ | refine Do.ok run_notT ?_ | refine Do.ok run_notF ?_ | refine GuardK.tt ?_ | refine GuardK.ff ?_ | refine GuardK.tf ?_ | refine GuardK.ft ?_ | refine GuardK.un ?_ | refine If.t ?_ | refine If.f ?_ | refine Do.ok run_lenS ?_ | refine Do.ok run_lenStr ?_ | refine Do.ok run_nilp ?_ | refine Do.ok run_fld ?_ | refine Do.ok (run_ext rfl) ?_ | refine GuardT.tt ?_ | refine GuardT.ff ?_ | refine GuardT.tf ?_ | refine GuardT.ft ?_ | refine GuardT.un ?_ | refine Take.ok (fun _ _ => run_fld) ?_ | refine Take.ok (fun _ _ => run_pickT) ?_ | refine Take.ok (fun _ _ => run_pickF) ?_ | refine Take.ok (fun _ _ => run_notT) ?_ | refine Take.ok (fun _ _ => run_notF) ?_ | refine Take.dec (fun _ => run_lss) (fun _ => ?_) (fun _ => ?_) | refine Take.dec (fun _ => run_gtr) (fun _ => ?_) (fun _ => ?_) | refine Take.dec (fun _ => run_leq) (fun _ => ?_) (fun _ => ?_) | refine Take.dec (fun _ => run_eqi) (fun _ => ?_) (fun _ => ?_) | refine Take.dec (fun _ => run_nei) (fun _ => ?_) (fun _ => ?_) | refine Take.dec (fun _ => run_eqs) (fun _ => ?_) (fun _ => ?_)))
        exact ⟨_, _, rfl, H6.toBelow, .inr ⟨fun hd => (by have := (hd.2 i hi hi).2.1; rw [hh] at this; cases this), rfl⟩⟩
      | false =>
        (repeat' (with_reducible first | refine Do.dec run_lss (fun _ => ?_) (fun _ => ?_) | refine Do.dec run_gtr (fun _ => ?_) (fun _ => ?_) | refine Do.dec run_leq (fun _ => ?_) (fun _ => ?_) | refine Do.dec run_geq (fun _ => ?_) (fun _ => ?_) | refine Do.dec run_eqi (fun _ => ?_) (fun _ => ?_) | refine Do.dec run_nei (fun _ => ?_) (fun _ => ?_) | refine Do.dec run_eqs (fun _ => ?_) (fun _ => ?_) | refine Do.dec run_nes (fun _ => ?_) (fun _ => ?_) | refine Do.ok run_pickT ?_ | refine Do.ok run_pickF ?_ | refine Do.ok run_notT ?_ | refine Do.ok run_notF ?_ | refine GuardK.tt ?_ | refine GuardK.ff ?_ | refine GuardK.tf ?_ | refine GuardK.ft ?_ | refine GuardK.un ?_ | refine If.t ?_ | refine If.f ?_ | refine Do.ok run_lenS ?_ | refine Do.ok run_lenStr ?_ | refine Do.ok run_nilp ?_ | refine Do.ok run_fld ?_ | refine Do.ok (run_ext rfl) ?_ | refine GuardT.tt ?_ | refine GuardT.ff ?_ | refine GuardT.tf ?_ | refine GuardT.ft ?_ | refine GuardT.un ?_ | refine Take.ok (fun _ _ => run_fld) ?_ | refine Take.ok (fun _ _ => run_pickT) ?_ | refine Take.ok (fun _ _ => run_pickF) ?_ | refine Take.ok (fun _ _ => run_notT) ?_ | refine Take.ok (fun _ _ => run_notF) ?_ | refine Take.dec (fun _ => run_lss) (fun _ => ?_) (fun _ => ?_) | refine Take.dec (fun _ => run_gtr) (fun _ => ?_) (fun _ => ?_) | refine Take.dec (fun _ => run_leq) (fun _ => ?_) (fun _ => ?_) | refine Take.dec (fun _ => run_eqi) (fun _ => ?_) (fun _ => ?_) | refine Take.dec (fun _ => run_nei) (fun _ => ?_) (fun _ => ?_) | refine Take.dec (fun _ => run_eqs) (fun _ => ?_) (fun _ => ?_)))
        refine Do.ld H6 0 (v := .string ps[i].2) rfl rfl ?_
        refine CallF.ret (f34.enters _ _) (plain_ret ps[i].2 _ (by omega)) ?_
        rintro _ w7 ⟨rfl, hb7⟩
        have H7 := H6.below hb7
        cases hpl : plainB ps[i].2.data.toList with
        | false =>
          (repeat' (with_reducible first | refine Do.dec run_lss (fun _ => ?_) (fun _ => ?_) | refine Do.dec run_gtr (fun _ => ?_) (fun _ => ?_) | refine Do.dec run_leq (fun _ => ?_) (fun _ => ?_) | refine Do.dec run_geq (fun _ => ?_) (fun _ => ?_) | refine Do.dec run_eqi (fun _ => ?_) (fun _ => ?_) | refine Do.dec run_nei (fun _ => ?_) (fun _ => ?_) | refine Do.dec run_eqs (fun _ => ?_) (fun _ => ?_) | refine Do.dec run_nes (fun _ => ?_) (fun _ => ?_) | refine Do.ok run_pickT ?_ | refine Do.ok run_pickF ?_ | refine Do.ok run_notT ?_ | refine Do.ok run_notF ?_ | refine GuardK.tt ?_ | refine GuardK.ff ?_ | refine GuardK.tf ?_ | refine GuardK.ft ?_ | refine GuardK.un ?_ | refine If.t ?_ | refine If.f ?_ | refine Do.ok run_lenS ?_ | refine Do.ok run_lenStr ?_ | refine Do.ok run_nilp ?_ | refine Do.ok run_fld ?_ | refine Do.ok (run_ext rfl) ?_ | refine GuardT.tt ?_ | refine GuardT.ff ?_ | refine GuardT.tf ?_ | refine GuardT.ft ?_ | refine GuardT.un ?_ | refine Take.ok (fun _ _ => run_fld) ?_ | refine Take.ok (fun _ _ => run_pickT) ?_ | refine Take.ok (fun _ _ => run_pickF) ?_ | refine Take.ok (fun _ _ => run_notT) ?_ | refine Take.ok (fun _ _ => run_notF) ?_ | refine Take.dec (fun _ => run_lss) (fun _ => ?_) (fun _ => ?_) | refine Take.dec (fun _ => run_gtr) (fun _ => ?_) (fun _ => ?_) | refine Take.dec (fun _ => run_leq) (fun _ => ?_) (fun _ => ?_) | refine Take.dec (fun _ => run_eqi) (fun _ => ?_) (fun _ => ?_) | refine Take.dec (fun _ => run_nei) (fun _ => ?_) (fun _ => ?_) | refine Take.dec (fun _ => run_eqs) (fun _ => ?_) (fun _ => ?_)))
          exact ⟨_, _, rfl, H7.toBelow, .inr ⟨fun hd => (by have := (hd.2 i hi hi).2.2; rw [hpl] at this; cases this), rfl⟩⟩
        | true =>
          (repeat' (with_reducible first | refine Do.dec run_lss (fun _ => ?_) (fun _ => ?_) | refine Do.dec run_gtr (fun _ => ?_) (fun _ => ?_) | refine Do.dec run_leq (fun _ => ?_) (fun _ => ?_) | refine Do.dec run_geq (fun _ => ?_) (fun _ => ?_) | refine Do.dec run_eqi (fun _ => ?_) (fun _ => ?_) | refine Do.dec run_nei (fun _ => ?_) (fun _ => ?_) | refine Do.dec run_eqs (fun _ => ?_) (fun _ => ?_) | refine Do.dec run_nes (fun _ => ?_) (fun _ => ?_) | refine Do.ok run_pickT ?_ | refine Do.ok run_pickF ?_ | refine Do.ok run_notT ?_ | refine Do.ok run_notF ?_ | refine GuardK.tt ?_ | refine GuardK.ff ?_ | refine GuardK.tf ?_ | refine GuardK.ft ?_ | refine GuardK.un ?_ | refine If.t ?_ | refine If.f ?_ | refine Do.ok run_lenS ?_ | refine Do.ok run_lenStr ?_ | refine Do.ok run_nilp ?_ | refine Do.ok run_fld ?_ | refine Do.ok (run_ext rfl) ?_ | refine GuardT.tt ?_ | refine GuardT.ff ?_ | refine GuardT.tf ?_ | refine GuardT.ft ?_ | refine GuardT.un ?_ | refine Take.ok (fun _ _ => run_fld) ?_ | refine Take.ok (fun _ _ => run_pickT) ?_ | refine Take.ok (fun _ _ => run_pickF) ?_ | refine Take.ok (fun _ _ => run_notT) ?_ | refine Take.ok (fun _ _ => run_notF) ?_ | refine Take.dec (fun _ => run_lss) (fun _ => ?_) (fun _ => ?_) | refine Take.dec (fun _ => run_gtr) (fun _ => ?_) (fun _ => ?_) | refine Take.dec (fun _ => run_leq) (fun _ => ?_) (fun _ => ?_) | refine Take.dec (fun _ => run_eqi) (fun _ => ?_) (fun _ => ?_) | refine Take.dec (fun _ => run_nei) (fun _ => ?_) (fun _ => ?_) | refine Take.dec (fun _ => run_eqs) (fun _ => ?_) (fun _ => ?_)))
          refine Do.ld H7 0 (v := .string ps[i].1) rfl rfl ?_
          (repeat' (with_reducible first | refine Do.dec run_lss (fun _ => ?_) (fun _ => ?_) | refine Do.dec run_gtr (fun _ => ?_) (fun _ => ?_) | refine Do.dec run_leq (fun _ => ?_) (fun _ => ?_) | refine Do.dec run_geq (fun _ => ?_) (fun _ => ?_) | refine Do.dec run_eqi (fun _ => ?_) (fun _ => ?_) | refine Do.dec run_nei (fun _ => ?_) (fun _ => ?_) | refine Do.dec run_eqs (fun _ => ?_) (fun _ => ?_) | refine Do.dec run_nes (fun _ => ?_) (fun _ => ?_) | refine Do.ok run_pickT ?_ | refine Do.ok run_pickF ?_ | refine Do.ok run_notT ?_ | refine Do.ok run_notF ?_ | refine GuardK.tt ?_ | refine GuardK.ff ?_ | refine GuardK.tf ?_ | refine GuardK.ft ?_ | refine GuardK.un ?_ | refine If.t ?_ | refine If.f ?_ | refine Do.ok run_lenS ?_ | refine Do.ok run_lenStr ?_ | refine Do.ok run_nilp ?_ | refine Do.ok run_fld ?_ | refine Do.ok (run_ext rfl) ?_ | refine GuardT.tt ?_ | refine GuardT.ff ?_ | refine GuardT.tf ?_ | refine GuardT.ft ?_ | refine GuardT.un ?_ | refine Take.ok (fun _ _ => run_fld) ?_ | refine Take.ok (fun _ _ => run_pickT) ?_ | refine Take.ok (fun _ _ => run_pickF) ?_ | refine Take.ok (fun _ _ => run_notT) ?_ | refine Take.ok (fun _ _ => run_notF) ?_ | refine Take.dec (fun _ => run_lss) (fun _ => ?_) (fun _ => ?_) | refine Take.dec (fun _ => run_gtr) (fun _ => ?_) (fun _ => ?_) | refine Take.dec (fun _ => run_leq) (fun _ => ?_) (fun _ => ?_) | refine Take.dec (fun _ => run_eqi) (fun _ => ?_) (fun _ => ?_) | refine Take.dec (fun _ => run_nei) (fun _ => ?_) (fun _ => ?_) | refine Take.dec (fun _ => run_eqs) (fun _ => ?_) (fun _ => ?_)))
          refine Do.ld H7 0 (v := .string ps[i].2) rfl rfl ?_
          have hbs : (Instr.buildSlice 55 3 #[(0, .string ps[i].1), (1, .string (ByteArray.mk #[58, 32])), (2, .string ps[i].2)]).run P w7 =
            .ok (.slice (some ⟨w7.heap.size, 0, none⟩) 3 3) (w7.alloc (.cells ([ps[i].1, ByteArray.mk #[58, 32], ps[i].2].map Value.string).toArray 9)) := by kernel_rfl
          refine Do.ok hbs ?_
          have H8 := H7.alloc (.cells ([ps[i].1, ByteArray.mk #[58, 32], ps[i].2].map Value.string).toArray 9)
          generalize w7.heap.size = b8 at H8 ⊢
          have H9 := H8.perm (L' := I ++ ((b8, .cells ([ps[i].1, ByteArray.mk #[58, 32], ps[i].2].map Value.string).toArray 9) :: [(b6, .cells #[.string ps[i].1, .string ps[i].2] 44 (0, 0))])) (by classical exact List.perm_iff_count.2 (fun a => by simp only [List.count_append, List.count_cons, List.count_nil, List.set_cons_zero, List.set_cons_succ, List.setIfInBounds_toArray, List.cons_append, List.nil_append, List.append_assoc]; omega))
          have hlr := rightB_len hr
          have hlp := plainB_len hpl
          have hfl : flatS [ps[i].1, ByteArray.mk #[58, 32], ps[i].2] ++ [10] = lineOf ps[i] := by simp [flatS, lineOf]
          have hdl := dict_len i (by omega) hok
          have hlo := lineOf_len hr hpl
          have hfll : (flatS [ps[i].1, ByteArray.mk #[58, 32], ps[i].2]).length + 1 = (lineOf ps[i]).length := by rw [← hfl]; simp
          refine CallF.ret (f35.enters _ _) (line_ret (parts := [ps[i].1, ByteArray.mk #[58, 32], ps[i].2]) hB H9 ?_ (by omega) (by simp)) ?_
          · intro p hp' c' fz'
            simp only [List.mem_singleton] at hp'
            subst hp'
            simp
          rintro _ w9 ⟨I9, hB9, H10⟩
          refine Do.ok (run_addi (a := (i : Int)) (b := 1) (by omega)) (show ∃ k', k' < k ∧ _ from ⟨k - 1, by omega, i + 1, I9, by omega, rfl, ?_, ?_, ?_⟩)
          · intro j hj hji
            by_cases e : j = i
            · subst e; exact ⟨hr, hh, hpl⟩
            · exact hok j hj (by omega)
          · rw [lines_take hi, ← hfl, ← List.append_assoc]; exact hB9
          · rw [List.append_nil]; exact H10.left
  · have hi : i = ps.length := by omega
    subst hi
    rw [List.take_length] at hB
    refine CallF.ret (enters36 _ _) (R := fun v w' => ∃ n, w' = w2.drewN n ∧ w'.ownsRow w.heap.size 5 1 v (dictBytes ps).length (byteCells (dictBytes ps))) ?_ ?_
    · refine Calls.mono (Tryd.Buffer_Bytes w.heap.size bb (byteCells (dictBytes ps)) w2 (hB.is H)) ?_
      rintro e w' ⟨v, rfl, h1, n, h2⟩
      rw [byteCells_length] at h1
      exact ⟨n, h2, h1⟩
    · rintro v w' ⟨n, rfl, h⟩
      refine ⟨_, _, rfl, ?_, .inl ⟨⟨hn, hok⟩, h⟩⟩
      exact ⟨H.os, H.tape, H.output, H.size, H.base⟩
end Go.Proofs.YtggdogncmkffpaaDoor
