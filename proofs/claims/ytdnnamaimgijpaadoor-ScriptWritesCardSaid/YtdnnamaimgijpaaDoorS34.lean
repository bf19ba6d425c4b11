/- The reference's Print: numbers, the config, DATA. Conditions: none. -/
import Derived.Test.YtdnnamaimgijpaaDoorS32
import Derived.Test.YtdnnamaimgijpaaDoorSxP3
set_option linter.unusedVariables false
set_option linter.unusedSectionVars false
set_option maxRecDepth 10000
namespace Go.Proofs.YtdnnamaimgijpaaDoor
open Go Go.Sx Go.Proofs Go.Lib Go.RowKit

theorem within73_ret (n a b : Int) (w : World) : Ret P 73 #[.int .i64 n, .int .i64 a, .int .i64 b] w (fun v w' => v = .bool (withinB n a b) ∧ w' = w) := by
  refine f73.calls ?_
  unfold f73.f
  refine Do.dec run_geq (fun h => ?_) (fun h => ?_)
  · refine GuardK.tt (GuardK.tt (GuardK.tt (Do.ok run_leq (Do.ok run_pickT ⟨by rw [withinB, decide_eq_true h]; rfl, rfl⟩))))
  · refine GuardK.ft (GuardK.ft (GuardK.ft (Do.ok run_pickF ⟨by rw [withinB, decide_eq_false h]; rfl, rfl⟩)))
theorem checkConfig45_ret (c : Cfg) (w : World) : Ret P 45 #[.agg c.cells] w (fun v w' => v = .int .i64 (if c.right then 0 else 103) ∧ Below w.heap.size w w') := by
  refine f45.calls ?_
  unfold f45.f
  refine Do.box (Has.init w) ?_
  intro b w1 H
  have H : Has w w1 [(b, .cells c.cells 28 (0, 0))] := H
  refine Do.ok run_fld (Do.ld H 0 (v := .int .i64 c.jobMax) rfl rfl ?_)
  refine CallF.ret (f73.enters _ _) (within73_ret _ _ _ _) ?_
  rintro _ _ ⟨rfl, rfl⟩
  have e : c.right = (withinB c.jobMax 1 65535 && (withinB c.segment 128 1048576 && (withinB c.quota 1024 67108864 && decide (4 * c.segment ≤ c.quota)))) := by rw [Cfg.right, Bool.and_assoc, Bool.and_assoc]
  rw [e]
  cases h1 : withinB c.jobMax 1 65535 with
  | false =>
    (repeat' (with_reducible first | refine Do.dec run_lss (fun _ => ?_) (fun _ => ?_) | refine Do.dec run_gtr (fun _ => ?_) (fun _ => ?_) | refine Do.dec run_leq (fun _ => ?_) (fun _ => ?_) | refine Do.dec run_geq (fun _ => ?_) (fun _ => ?_) | refine Do.dec run_eqi (fun _ => ?_) (fun _ => ?_) | refine Do.dec run_nei (fun _ => ?_) (fun _ => ?_) | refine Do.dec run_eqs (fun _ => ?_) (fun _ => ?_) | refine Do.dec run_nes (fun _ => ?_) (fun _ => ?_) | refine Do.ok run_pickT ?_ | refine Do.ok run_pickF ?_ | refine Do.ok run_notT ?_ | refine Do.ok run_notF ?_ | refine GuardK.tt ?_ | refine GuardK.ff ?_ | refine GuardK.tf ?_ | refine GuardK.ft ?_ | refine GuardK.un ?_ | refine If.t ?_ | refine If.f ?_ | refine Do.ok run_lenS ?_ | refine Do.ok run_lenStr ?_ | refine Do.ok run_nilp ?_ | refine Do.ok run_fld ?_ | refine Do.ok (run_ext rfl) ?_ | refine GuardT.tt ?_ | refine GuardT.ff ?_ | refine GuardT.tf ?_ | refine GuardT.ft ?_ | refine GuardT.un ?_ | refine Take.ok (fun _ _ => run_fld) ?_ | refine Take.ok (fun _ _ => run_pickT) ?_ | refine Take.ok (fun _ _ => run_pickF) ?_ | refine Take.ok (fun _ _ => run_notT) ?_ | refine Take.ok (fun _ _ => run_notF) ?_ | refine Take.dec (fun _ => run_lss) (fun _ => ?_) (fun _ => ?_) | refine Take.dec (fun _ => run_gtr) (fun _ => ?_) (fun _ => ?_) | refine Take.dec (fun _ => run_leq) (fun _ => ?_) (fun _ => ?_) | refine Take.dec (fun _ => run_eqi) (fun _ => ?_) (fun _ => ?_) | refine Take.dec (fun _ => run_nei) (fun _ => ?_) (fun _ => ?_) | refine Take.dec (fun _ => run_eqs) (fun _ => ?_) (fun _ => ?_)))
    exact ⟨rfl, H.toBelow⟩
  | true =>
    refine GuardK.tt (Do.ok run_fld (GuardK.tt (Do.ld H 0 (v := .int .i64 c.segment) rfl rfl (GuardK.tt ?_))))
    refine CallF.ret (f73.enters _ _) (within73_ret _ _ _ _) ?_
    rintro _ _ ⟨rfl, rfl⟩
    cases h2 : withinB c.segment 128 1048576 with
    | false =>
      (repeat' (with_reducible first | refine Do.dec run_lss (fun _ => ?_) (fun _ => ?_) | refine Do.dec run_gtr (fun _ => ?_) (fun _ => ?_) | refine Do.dec run_leq (fun _ => ?_) (fun _ => ?_) | refine Do.dec run_geq (fun _ => ?_) (fun _ => ?_) | refine Do.dec run_eqi (fun _ => ?_) (fun _ => ?_) | refine Do.dec run_nei (fun _ => ?_) (fun _ => ?_) | refine Do.dec run_eqs (fun _ => ?_) (fun _ => ?_) | refine Do.dec run_nes (fun _ => ?_) (fun _ => ?_) | refine Do.ok run_pickT ?_ | refine Do.ok run_pickF ?_ | refine Do.ok run_notT ?_ | refine Do.ok run_notF ?_ | refine GuardK.tt ?_ | refine GuardK.ff ?_ | refine GuardK.tf ?_ | refine GuardK.ft ?_ | refine GuardK.un ?_ | refine If.t ?_ | refine If.f ?_ | refine Do.ok run_lenS ?_ | refine Do.ok run_lenStr ?_ | refine Do.ok run_nilp ?_ | refine Do.ok run_fld ?_ | refine Do.ok (run_ext rfl) ?_ | refine GuardT.tt ?_ | refine GuardT.ff ?_ | refine GuardT.tf ?_ | refine GuardT.ft ?_ | refine GuardT.un ?_ | refine Take.ok (fun _ _ => run_fld) ?_ | refine Take.ok (fun _ _ => run_pickT) ?_ | refine Take.ok (fun _ _ => run_pickF) ?_ | refine Take.ok (fun _ _ => run_notT) ?_ | refine Take.ok (fun _ _ => run_notF) ?_ | refine Take.dec (fun _ => run_lss) (fun _ => ?_) (fun _ => ?_) | refine Take.dec (fun _ => run_gtr) (fun _ => ?_) (fun _ => ?_) | refine Take.dec (fun _ => run_leq) (fun _ => ?_) (fun _ => ?_) | refine Take.dec (fun _ => run_eqi) (fun _ => ?_) (fun _ => ?_) | refine Take.dec (fun _ => run_nei) (fun _ => ?_) (fun _ => ?_) | refine Take.dec (fun _ => run_eqs) (fun _ => ?_) (fun _ => ?_)))
      exact ⟨rfl, H.toBelow⟩
    | true =>
      refine Do.ok run_pickT (GuardK.tt (Do.ok run_fld (GuardK.tt (Do.ld H 0 (v := .int .i64 c.quota) rfl rfl (GuardK.tt ?_)))))
      refine CallF.ret (f73.enters _ _) (within73_ret _ _ _ _) ?_
      rintro _ _ ⟨rfl, rfl⟩
      cases h3 : withinB c.quota 1024 67108864 with
      | false =>
        (repeat' (with_reducible first | refine Do.dec run_lss (fun _ => ?_) (fun _ => ?_) | refine Do.dec run_gtr (fun _ => ?_) (fun _ => ?_) | refine Do.dec run_leq (fun _ => ?_) (fun _ => ?_) | refine Do.dec run_geq (fun _ => ?_) (fun _ => ?_) | refine Do.dec run_eqi (fun _ => ?_) (fun _ => ?_) | refine Do.dec run_nei (fun _ => ?_) (fun _ => ?_) | refine Do.dec run_eqs (fun _ => ?_) (fun _ => ?_) | refine Do.dec run_nes (fun _ => ?_) (fun _ => ?_) | refine Do.ok run_pickT ?_ | refine Do.ok run_pickF ?_ | refine Do.ok run_notT ?_ | refine Do.ok run_notF ?_ | refine GuardK.tt ?_ | refine GuardK.ff ?_ | refine GuardK.tf ?_ | refine GuardK.ft ?_ | refine GuardK.un ?_ | refine If.t ?_ | refine If.f ?_ | refine Do.ok run_lenS ?_ | refine Do.ok run_lenStr ?_ | refine Do.ok run_nilp ?_ | refine Do.ok run_fld ?_ | refine Do.ok (run_ext rfl) ?_ | refine GuardT.tt ?_ | refine GuardT.ff ?_ | refine GuardT.tf ?_ | refine GuardT.ft ?_ | refine GuardT.un ?_ | refine Take.ok (fun _ _ => run_fld) ?_ | refine Take.ok (fun _ _ => run_pickT) ?_ | refine Take.ok (fun _ _ => run_pickF) ?_ | refine Take.ok (fun _ _ => run_notT) ?_ | refine Take.ok (fun _ _ => run_notF) ?_ | refine Take.dec (fun _ => run_lss) (fun _ => ?_) (fun _ => ?_) | refine Take.dec (fun _ => run_gtr) (fun _ => ?_) (fun _ => ?_) | refine Take.dec (fun _ => run_leq) (fun _ => ?_) (fun _ => ?_) | refine Take.dec (fun _ => run_eqi) (fun _ => ?_) (fun _ => ?_) | refine Take.dec (fun _ => run_nei) (fun _ => ?_) (fun _ => ?_) | refine Take.dec (fun _ => run_eqs) (fun _ => ?_) (fun _ => ?_)))
        exact ⟨rfl, H.toBelow⟩
      | true =>
        simp only [withinB, Bool.and_eq_true, decide_eq_true_eq] at h2 h3
        refine Do.ok run_pickT (GuardK.tt (Do.ok run_fld (GuardK.tt (Do.ld H 0 (v := .int .i64 c.segment) rfl rfl (GuardK.tt (Do.ok (run_muli (a := 4) (b := c.segment) (by omega)) (GuardK.tt (Do.ok run_fld (GuardK.tt (Do.ld H 0 (v := .int .i64 c.quota) rfl rfl (GuardK.tt ?_)))))))))))
        refine Do.dec run_leq (fun h => ?_) (fun h => ?_)
        · (repeat' (with_reducible first | refine Do.dec run_lss (fun _ => ?_) (fun _ => ?_) | refine Do.dec run_gtr (fun _ => ?_) (fun _ => ?_) | refine Do.dec run_leq (fun _ => ?_) (fun _ => ?_) | refine Do.dec run_geq (fun _ => ?_) (fun _ => ?_) | refine Do.dec run_eqi (fun _ => ?_) (fun _ => ?_) | refine Do.dec run_nei (fun _ => ?_) (fun _ => ?_) | refine Do.dec run_eqs (fun _ => ?_) (fun _ => ?_) | refine Do.dec run_nes (fun _ => ?_) (fun _ => ?_) | refine Do.ok run_pickT ?_ | refine Do.ok run_pickF ?_ | refine Do.ok run_notT ?_ | refine Do.ok run_notF ?_ | refine GuardK.tt ?_ | refine GuardK.ff ?_ | refine GuardK.tf ?_ | refine GuardK.ft ?_ | refine GuardK.un ?_ | refine If.t ?_ | refine If.f ?_ | refine Do.ok run_lenS ?_ | refine Do.ok run_lenStr ?_ | refine Do.ok run_nilp ?_ | refine Do.ok run_fld ?_ | refine Do.ok (run_ext rfl) ?_ | refine GuardT.tt ?_ | refine GuardT.ff ?_ | refine GuardT.tf ?_ | refine GuardT.ft ?_ | refine GuardT.un ?_ | refine Take.ok (fun _ _ => run_fld) ?_ | refine Take.ok (fun _ _ => run_pickT) ?_ | refine Take.ok (fun _ _ => run_pickF) ?_ | refine Take.ok (fun _ _ => run_notT) ?_ | refine Take.ok (fun _ _ => run_notF) ?_ | refine Take.dec (fun _ => run_lss) (fun _ => ?_) (fun _ => ?_) | refine Take.dec (fun _ => run_gtr) (fun _ => ?_) (fun _ => ?_) | refine Take.dec (fun _ => run_leq) (fun _ => ?_) (fun _ => ?_) | refine Take.dec (fun _ => run_eqi) (fun _ => ?_) (fun _ => ?_) | refine Take.dec (fun _ => run_nei) (fun _ => ?_) (fun _ => ?_) | refine Take.dec (fun _ => run_eqs) (fun _ => ?_) (fun _ => ?_)))
          exact ⟨by rw [decide_eq_true h]; rfl, H.toBelow⟩
        · (repeat' (with_reducible first | refine Do.dec run_lss (fun _ => ?_) (fun _ => ?_) | refine Do.dec run_gtr (fun _ => ?_) (fun _ => ?_) | refine Do.dec run_leq (fun _ => ?_) (fun _ => ?_) | refine Do.dec run_geq (fun _ => ?_) (fun _ => ?_) | refine Do.dec run_eqi (fun _ => ?_) (fun _ => ?_) | refine Do.dec run_nei (fun _ => ?_) (fun _ => ?_) | refine Do.dec run_eqs (fun _ => ?_) (fun _ => ?_) | refine Do.dec run_nes (fun _ => ?_) (fun _ => ?_) | refine Do.ok run_pickT ?_ | refine Do.ok run_pickF ?_ | refine Do.ok run_notT ?_ | refine Do.ok run_notF ?_ | refine GuardK.tt ?_ | refine GuardK.ff ?_ | refine GuardK.tf ?_ | refine GuardK.ft ?_ | refine GuardK.un ?_ | refine If.t ?_ | refine If.f ?_ | refine Do.ok run_lenS ?_ | refine Do.ok run_lenStr ?_ | refine Do.ok run_nilp ?_ | refine Do.ok run_fld ?_ | refine Do.ok (run_ext rfl) ?_ | refine GuardT.tt ?_ | refine GuardT.ff ?_ | refine GuardT.tf ?_ | refine GuardT.ft ?_ | refine GuardT.un ?_ | refine Take.ok (fun _ _ => run_fld) ?_ | refine Take.ok (fun _ _ => run_pickT) ?_ | refine Take.ok (fun _ _ => run_pickF) ?_ | refine Take.ok (fun _ _ => run_notT) ?_ | refine Take.ok (fun _ _ => run_notF) ?_ | refine Take.dec (fun _ => run_lss) (fun _ => ?_) (fun _ => ?_) | refine Take.dec (fun _ => run_gtr) (fun _ => ?_) (fun _ => ?_) | refine Take.dec (fun _ => run_leq) (fun _ => ?_) (fun _ => ?_) | refine Take.dec (fun _ => run_eqi) (fun _ => ?_) (fun _ => ?_) | refine Take.dec (fun _ => run_nei) (fun _ => ?_) (fun _ => ?_) | refine Take.dec (fun _ => run_eqs) (fun _ => ?_) (fun _ => ?_)))
          exact ⟨by rw [decide_eq_false h]; rfl, H.toBelow⟩
def rightB (n : Int) : Bool := decide (0 ≤ n) && decide (n ≤ 4611686018427387903)
theorem rightB_iff (n : Int) : rightB n = true ↔ inR n := by simp [rightB, inR]
theorem right74_ret (n : Int) (w : World) : Ret P 74 #[.int .i64 n] w (fun v w' => v = .bool (rightB n) ∧ w' = w) := by
  refine f74.calls ?_
  unfold f74.f
  refine Do.dec run_geq (fun h => ?_) (fun h => ?_)
  · with_reducible refine GuardK.tt ?_
    with_reducible refine GuardK.tt ?_
    refine Do.ok run_leq (Do.ok run_pickT ⟨by rw [rightB, decide_eq_true h]; rfl, rfl⟩)
  · refine GuardK.ft (GuardK.ft (Do.ok run_pickF ⟨by rw [rightB, decide_eq_false h]; rfl, rfl⟩))
/-! ### a number's digits -/
def digs (n : Int) : List UInt8 := (dec n).data.toList
theorem digs_small {n : Int} (h0 : 0 ≤ n) (h : n < 10) : digs n = [UInt8.ofNat (48 + n.toNat)] := by
  have e : digs n = digF 20 n.toNat := by unfold digs; rw [dec, if_neg (by omega)]
  rw [e, digF, if_pos (by omega)]
theorem digs_big {n : Int} (h : 10 ≤ n) (hm : n ≤ 9223372036854775807) : digs n = digs (n / 10) ++ [UInt8.ofNat (48 + (n % 10).toNat)] := by
  have e : ∀ n : Int, 0 ≤ n → n ≤ 9223372036854775807 → digs n = decDigits n.toNat := fun n h0 h1 => by
    unfold digs
    rw [dec, if_neg (by omega)]
    exact digF_eq 20 n.toNat (by omega) (by omega)
  rw [e n (by omega) hm, e (n / 10) (by omega) (by omega), decDigits, dif_neg (by omega)]
  have e1 : n.toNat / 10 = (n / 10).toNat := by omega
  have e2 : n.toNat % 10 = (n % 10).toNat := by omega
  rw [e1, e2]
theorem one_str {w0 w : World} {L : List (Nat × Obj)} {b : Nat} {c : UInt8} {fz : Nat × Nat} (H : Has w0 w ((b, .cells #[.int .u8 (c.toNat : Int)] 5 fz) :: L)) : (convert 41 9 (.slice (some ⟨b, 0, none⟩) 1 1)).run P w = .ok (.string ⟨#[c]⟩) w :=
  run_toStr (P := P) (src := 41) (dst := 9) (l := [c]) (H.get 0 rfl) (fun j hj => by
    have : j = 0 := by simp at hj; omega
    subst this; rfl)
theorem digit_val {r : Int} (h0 : 0 ≤ r) (h1 : r < 10) : (48 + r) = (((UInt8.ofNat (48 + r.toNat)).toNat : Nat) : Int) := by
  rw [UInt8.toNat_ofNat']; omega
theorem print46_ret (n : Int) (hn : n ≤ 9223372036854775807) (w : World) : Ret P 46 #[.int .i64 n] w (fun v w' => v = .string (dec n) ∧ Below w.heap.size w w') := by
  refine f46.calls ?_
  unfold f46.f
  refine Do.dec run_lss (fun h => If.t ⟨by rw [dec, if_pos h], Below.refl _ _⟩) (fun h => If.f ?_)
  have edec : ∀ s : ByteArray, s.data.toList = digs n → Value.string s = .string (dec n) := fun s hs => by rw [(list_eq_iff s (dec n)).1 hs]
  refine Do.ok (run_rem (by omega) (by omega)) (Do.ok (run_addi (a := 48) (b := n % 10) (by omega)) (Do.ok (run_conv35 (by omega)) ?_))
  rw [digit_val (r := n % 10) (by omega) (by omega)]
  refine Do.bs (Has.init w) (bs41 _) ?_
  intro b w1 H1
  refine Do.ok (one_str H1) ?_
  refine ⟨fun k x0 x3 w' => ∃ (m : Int) (s : ByteArray), k = m.toNat ∧ x0 = .int .i64 m ∧ 0 ≤ m ∧ m ≤ n ∧ x3 = .string s ∧ s.size + m.toNat ≤ n.toNat + 1 ∧ digs n = (if m < 10 then s.data.toList else digs (m / 10) ++ s.data.toList) ∧ Has w w' [],
    ⟨n.toNat, n, ⟨#[UInt8.ofNat (48 + (n % 10).toNat)]⟩, rfl, rfl, by omega, by omega, rfl, ?_, ?_, H1.tail⟩, ?_⟩
  · show 1 + n.toNat ≤ _; omega
  · by_cases h10 : n < 10
    · rw [if_pos h10, digs_small (by omega) h10]
      have : n % 10 = n := by omega
      rw [this]
    · rw [if_neg h10, digs_big (by omega) hn]
  rintro k σ w2 ⟨m, s, rfl, hx0, hm0, hmn, hx3, hsz, hd, H⟩
  rw [hx0, hx3]
  unfold f46.l0
  refine Do.dec run_geq (fun h10 => If.t ?_) (fun h10 => If.f ⟨edec s ?_, H.toBelow⟩)
  case refine_2 => rw [hd, if_pos (by omega)]
  rw [if_neg (by omega)] at hd
  refine Do.ok (run_quo10 hm0 (by omega)) (Do.ok (run_rem (by omega) (by omega)) (Do.ok (run_addi (a := 48) (b := m / 10 % 10) (by omega)) (Do.ok (run_conv35 (by omega)) ?_)))
  rw [digit_val (r := m / 10 % 10) (by omega) (by omega)]
  refine Do.bs H (bs41 _) ?_
  intro b3 w3 H3
  refine Do.ok (one_str H3) ?_
  have h1 : (⟨#[UInt8.ofNat (48 + (m / 10 % 10).toNat)]⟩ : ByteArray).size = 1 := rfl
  refine Do.ok (run_cat (by rw [h1]; omega)) ⟨(m / 10).toNat, by omega, m / 10, _, rfl, rfl, by omega, by omega, rfl, ?_, ?_, H3.tail⟩
  · rw [ByteArray.size_append, h1]; omega
  · rw [hd]
    have e : ((⟨#[UInt8.ofNat (48 + (m / 10 % 10).toNat)]⟩ : ByteArray) ++ s).data.toList = UInt8.ofNat (48 + (m / 10 % 10).toNat) :: s.data.toList := by simp
    rw [e]
    by_cases h2 : m / 10 < 10
    · rw [if_pos h2, digs_small (by omega) h2]
      have : m / 10 % 10 = m / 10 := by omega
      rw [this]; rfl
    · rw [if_neg h2, digs_big (by omega) (by omega)]
      simp
/-! ### DATA -/
theorem bs41_pair (a b : Int) (w : World) : (Instr.buildSlice 41 2 #[(0, .int .u8 a), (1, .int .u8 b)]).run P w = .ok (.slice (some ⟨w.heap.size, 0, none⟩) 2 2) (w.alloc (.cells #[.int .u8 a, .int .u8 b] 5)) := by kernel_rfl
theorem bs41_four (a b c d : Int) (w : World) : (Instr.buildSlice 41 4 #[(0, .int .u8 a), (1, .int .u8 b), (2, .int .u8 c), (3, .int .u8 d)]).run P w = .ok (.slice (some ⟨w.heap.size, 0, none⟩) 4 4) (w.alloc (.cells #[.int .u8 a, .int .u8 b, .int .u8 c, .int .u8 d] 5)) := by kernel_rfl
theorem quo_u8 (c : UInt8) (w : World) : (binOp .quo 5 (.int .u8 (c.toNat : Int)) (.int .u8 16)).run P w = .ok (.int .u8 ((c.toNat / 16 : Nat) : Int)) w := by
  have hr := c.toNat_lt
  have e : ((c.toNat : Int)).tdiv 16 = ((c.toNat / 16 : Nat) : Int) := by rw [Int.tdiv_eq_ediv_of_nonneg (by omega)]; omega
  show (Op.intDiv .quo .u8 (c.toNat : Int) 16).run P w = _
  simp only [Op.intDiv]
  rw [if_neg (by decide), Sem.run_pure, e, wrap_u8 (by omega)]
theorem rem_u8 (c : UInt8) (w : World) : (binOp .rem 5 (.int .u8 (c.toNat : Int)) (.int .u8 16)).run P w = .ok (.int .u8 ((c.toNat % 16 : Nat) : Int)) w := by
  have e : ((c.toNat : Int)).tmod 16 = ((c.toNat % 16 : Nat) : Int) := by rw [Int.tmod_eq_emod_of_nonneg (by omega)]; omega
  show (Op.intDiv .rem .u8 (c.toNat : Int) 16).run P w = _
  simp only [Op.intDiv]
  rw [if_neg (by decide), Sem.run_pure, e]
theorem written75_ret (v : Value) (l : List UInt8) (hl : l.length ≤ 4294967296) (w : World) (hv : SlAt 5 1 w v l.length (byteCells l)) : Ret P 75 #[v] w (fun r w' => r = .string ⟨(dataV l).toArray⟩ ∧ Below w.heap.size w w') := by
  refine f75.calls ?_
  unfold f75.f
  refine Do.bs (Has.init w) (bs41 61) ?_
  intro b w1 H1
  have hr0 : BRow (.slice (some ⟨b, 0, none⟩) 1 1) [61] [(b, .cells ((byteCells [61]) ++ []).toArray 5 (0, 0))] := Row.row (by simp [byteCells]) (by simp [byteCells]) (Nat.le_refl _) (by simp [maxLen])
  refine ⟨fun k x3 x5 w' => ∃ (i : Nat) (I : List (Nat × Obj)), k + i = l.length ∧ x5 = .int .i64 i ∧ BRow x3 (61 :: (l.take i).flatMap esc) I ∧ Has w w' (I ++ []), ⟨l.length, 0, _, by omega, rfl, hr0, H1⟩, ?_⟩
  rintro k σ w3 ⟨i, I, hk, hx, hr, H⟩
  rw [hx]
  unfold f75.l0
  refine Do.ok hv.len (Do.dec run_lss (fun hlt => If.t ?_) (fun hge => If.f ?_))
  case refine_2 =>
    have hsl := Row.reads hr H
    rw [List.take_of_length_le (by omega)] at hsl
    exact Do.ok (run_toStrSl (Has.init w3) hsl) ⟨rfl, H.toBelow⟩
  have hi : i < l.length := by omega
  obtain ⟨bb, o, cs, fz, hw, hidx, hcs⟩ := hv.idx (t := 41) (e := 5) hi
  have hc := hcs 0 (by omega)
  simp only [Nat.add_zero, Nat.mul_one] at hc
  rw [byteCells_get l i hi] at hc
  refine Do.ok (hidx w3) (Do.ok (run_loadBase H hw hc) ?_)
  have htk : l.take (i + 1) = l.take i ++ [l[i]] := by rw [List.take_add_one, List.getElem?_eq_getElem hi]; rfl
  have hfl : (61 :: (l.take (i + 1)).flatMap esc) = (61 :: (l.take i).flatMap esc) ++ esc l[i] := by rw [htk, List.flatMap_append]; simp
  have hle : (61 :: (l.take i).flatMap esc).length ≤ 1 + 4 * l.length := by
    have := flat_len (l.take i)
    simp only [List.length_cons, List.length_take] at this ⊢
    omega
  have hadd : ∀ w, (binOp .add 3 (.int .i64 (i : Int)) (.int .i64 1)).run P w = .ok (.int .i64 ((i : Int) + 1)) w := fun w => run_addi (by omega)
  generalize hcc : l[i] = c at *
  generalize hacc : (61 :: (l.take i).flatMap esc) = acc at *
  have next : ∀ {v' : Value} {w' : World} {I' : List (Nat × Obj)}, BRow v' (acc ++ esc c) I' → Has w w' (I' ++ []) → ∃ k', k' < k ∧ ∃ (i' : Nat) (I : List (Nat × Obj)), k' + i' = l.length ∧ Value.int .i64 ((i : Int) + 1) = .int .i64 i' ∧ BRow v' (61 :: (l.take i').flatMap esc) I ∧ Has w w' (I ++ []) := by
    intro v' w' I' h1 h2
    exact ⟨k - 1, by omega, i + 1, I', by omega, rfl, by rw [hfl]; exact h1, h2⟩
  have pair : ∀ (a b : UInt8), esc c = [a, b] → Do P (Instr.buildSlice 41 2 #[(0, .int .u8 (a.toNat : Int)), (1, .int .u8 (b.toNat : Int))]) w3 (fun t43 w => Do P (Builtin.append_ #[41, 41] 41 #[σ 3, t43]) w (fun t44 w => Do P (binOp BinOp.add 3 (.int .i64 (i : Int)) (Value.int IntKind.i64 1)) w (fun t13 w' =>
      ∃ k', k' < k ∧ ∃ (i' : Nat) (I : List (Nat × Obj)), k' + i' = l.length ∧ t13 = .int .i64 i' ∧ BRow t44 (61 :: (l.take i').flatMap esc) I ∧ Has w w' (I ++ [])) (fun _ _ => False)) (fun _ _ => False)) (fun _ _ => False) → True := fun _ _ _ _ => trivial
  have pair : ∀ (a b : UInt8), esc c = [a, b] → ∀ {K : Value → World → Prop} {X : List PanicEntry → World → Prop}, (∀ v' I' w', BRow v' (acc ++ esc c) I' → Has w w' (I' ++ []) → K v' w') →
      Do P (Instr.buildSlice 41 2 #[(0, .int .u8 (a.toNat : Int)), (1, .int .u8 (b.toNat : Int))]) w3 (fun t43 w => Do P (Builtin.append_ #[41, 41] 41 #[σ 3, t43]) w K X) X := by
    intro a b' he K X kk
    refine Do.bs H (bs41_pair _ _) ?_
    intro b2 w4 H4
    refine Do.append2 (t := 41) H4 hr rfl (by simp [Value.oneCell']) (by omega) (by omega) ?_
    intro v' I' w' hr' H' _
    refine kk v' I' w' ?_ H'
    unfold BRow
    rw [he, byteCells_append, List.length_append]
    exact hr'
  refine Do.dec run_eqi (fun h => If.t (pair 92 115 (by rw [u8_of (d := 32) h]; rfl) (fun v' I' w' h1 h2 => Do.ok (hadd w') (next h1 h2)))) (fun h1 => If.f ?_)
  refine Do.dec run_eqi (fun h => If.t (pair 92 114 (by rw [u8_of (d := 13) h]; rfl) (fun v' I' w' h1 h2 => Do.ok (hadd w') (next h1 h2)))) (fun h2 => If.f ?_)
  refine Do.dec run_eqi (fun h => If.t (pair 92 110 (by rw [u8_of (d := 10) h]; rfl) (fun v' I' w' h1 h2 => Do.ok (hadd w') (next h1 h2)))) (fun h3 => If.f ?_)
  refine Do.dec run_eqi (fun h => If.t (pair 92 92 (by rw [u8_of (d := 92) h]; rfl) (fun v' I' w' h1 h2 => Do.ok (hadd w') (next h1 h2)))) (fun h4 => If.f ?_)
  have n1 : c ≠ 32 := fun e => h1 (by rw [e]; rfl)
  have n2 : c ≠ 13 := fun e => h2 (by rw [e]; rfl)
  have n3 : c ≠ 10 := fun e => h3 (by rw [e]; rfl)
  have n4 : c ≠ 92 := fun e => h4 (by rw [e]; rfl)
  have he : esc c = if 33 ≤ c.toNat ∧ c.toNat ≤ 126 then [c] else [92, 120, hexD (c.toNat / 16), hexD (c.toNat % 16)] := by
    rw [esc, if_neg n1, if_neg n2, if_neg n3, if_neg n4]
  have hrr := c.toNat_lt
  refine Do.dec run_geq (fun h5 => GuardK.tt (GuardK.tt (Do.dec run_leq (fun h6 => Do.ok run_pickT (If.t ?_)) (fun h6 => Do.ok run_pickT (If.f ?_))))) (fun h5 => GuardK.ft (GuardK.ft (Do.ok run_pickF (If.f ?_))))
  · refine app1 H hr c (by omega) ?_
    intro v' I' w4 hr4 H4
    exact Do.ok (hadd w4) (next (by rw [he, if_pos (by omega)]; exact hr4) H4)
  all_goals
    refine ⟨fun w' => True, trivial, ?_⟩
    refine Take.ok (fun w _ => quo_u8 c w) (Take.ok (fun w _ => hex_idx (by omega) w) (Take.ok (fun w _ => rem_u8 c w) (Take.ok (fun w _ => hex_idx (by omega) w) ?_)))
    refine Do.bs H.drew (bs41_four _ _ _ _) ?_
    intro b2 w4 H4
    refine ⟨trivial, Do.append2 (t := 41) H4 hr rfl (by simp [Value.oneCell']) (by omega) (by omega) ?_⟩
    intro v' I' w5 hr' H' _
    refine ⟨trivial, Do.ok (hadd w5) (next ?_ H')⟩
    rw [he, if_neg (by omega)]
    unfold BRow
    rw [byteCells_append, List.length_append]
    exact hr'
end Go.Proofs.YtdnnamaimgijpaaDoor
