/- The reference's rightStep, line. Conditions: none. -/
import Derived.Test.YtdnnamaimgijpaaDoorS35
set_option linter.unusedVariables false
set_option linter.unusedSectionVars false
set_option maxRecDepth 10000
namespace Go.Proofs.YtdnnamaimgijpaaDoor
open Go Go.Sx Go.Proofs Go.Lib Go.RowKit

def rs63 (s : StepV) : Bool := (((decide (s.kind < 1) || decide (7 < s.kind)) || !rightB s.conn) || (!hasConnB s.kind && decide (s.conn ≠ 0))) || (decide (s.kind ≠ 2) && decide (0 < s.data.length))
def rs98 (s : StepV) : Bool := ((!rightB s.brk) || (!hasBreakB s.kind && decide (s.brk ≠ 0))) || (decide (0 < s.keep.length) && ((decide (s.kind ≠ 6) && !hasBreakB s.kind) || (hasBreakB s.kind && decide (s.brk = 0))))
theorem rs_iff (s : StepV) : StepOk s ↔ rs63 s = false ∧ rs98 s = false ∧ ∀ n ∈ s.keep, inR n := by
  have hz : inR 0 := ⟨by omega, by omega⟩
  have e63 : rs63 s = false ↔ (1 ≤ s.kind ∧ s.kind ≤ 7) ∧ inR s.conn ∧ (hasConnB s.kind = true ∨ s.conn = 0) ∧ (s.kind = 2 ∨ s.data.length = 0) := by
    unfold rs63
    simp only [Bool.or_eq_false_iff, Bool.and_eq_false_iff, Bool.not_eq_false', decide_eq_false_iff_not, Decidable.not_not, rightB_iff]
    constructor
    · rintro ⟨⟨⟨⟨h1, h2⟩, h3⟩, h4⟩, h5⟩
      exact ⟨by omega, h3, h4, h5.imp id (by omega)⟩
    · rintro ⟨h1, h3, h4, h5⟩
      exact ⟨⟨⟨⟨by omega, by omega⟩, h3⟩, h4⟩, h5.imp id (by omega)⟩
  have e98 : rs98 s = false ↔ inR s.brk ∧ (hasBreakB s.kind = true ∨ s.brk = 0) ∧ (s.keep.length = 0 ∨ ((s.kind = 6 ∨ hasBreakB s.kind = true) ∧ (hasBreakB s.kind = false ∨ s.brk ≠ 0))) := by
    unfold rs98
    simp only [Bool.or_eq_false_iff, Bool.and_eq_false_iff, Bool.not_eq_false', decide_eq_false_iff_not, Decidable.not_not, rightB_iff]
    constructor
    · rintro ⟨⟨h1, h2⟩, h3⟩
      exact ⟨h1, h2, h3.imp (by omega) id⟩
    · rintro ⟨h1, h2, h3⟩
      exact ⟨⟨h1, h2⟩, h3.imp (by omega) id⟩
  have eb : bareB s = false ↔ (hasConnB s.kind = true ∨ s.conn = 0) ∧ (s.kind = 2 ∨ s.data.length = 0) ∧ (hasBreakB s.kind = true ∨ s.brk = 0) ∧ (hasKeepB s.kind = true ∨ s.keep.length = 0) ∧ (s.kind = 6 ∨ s.brk ≠ 0 ∨ s.keep.length = 0) := by
    unfold bareB
    simp only [Bool.or_eq_false_iff, Bool.and_eq_false_iff, Bool.not_eq_false', decide_eq_false_iff_not, Decidable.not_not]
    constructor
    · rintro ⟨⟨⟨⟨h1, h2⟩, h3⟩, h4⟩, h5⟩
      refine ⟨h1, h2.imp id (by omega), h3, h4.imp id (by omega), ?_⟩
      rcases h5 with (h | h) | h
      · exact .inl h
      · exact .inr (.inl h)
      · exact .inr (.inr (by omega))
    · rintro ⟨h1, h2, h3, h4, h5⟩
      refine ⟨⟨⟨⟨h1, h2.imp id (by omega)⟩, h3⟩, h4.imp id (by omega)⟩, ?_⟩
      rcases h5 with h | h | h
      · exact .inl (.inl h)
      · exact .inl (.inr h)
      · exact .inr (by omega)
  have ek : hasKeepB s.kind = true ↔ (s.kind = 6 ∨ hasBreakB s.kind = true) := by simp [hasKeepB]
  rw [e63, e98]
  constructor
  · intro h
    obtain ⟨b1, b2, b3, b4, b5⟩ := eb.1 h.bare
    refine ⟨⟨h.kind, ?_, b1, b2⟩, ⟨?_, b3, ?_⟩, h.keep⟩
    · rcases b1 with b | b
      · exact h.conn b
      · rw [b]; exact hz
    · by_cases h0 : s.brk = 0
      · rw [h0]; exact hz
      · exact h.brk h0
    · by_cases hk : s.keep.length = 0
      · exact .inl hk
      · right
        refine ⟨ek.1 (b4.resolve_right hk), ?_⟩
        rcases b5 with b | b | b
        · left
          unfold hasBreakB
          rw [b]; rfl
        · exact .inr b
        · exact absurd b hk
  · rintro ⟨⟨h1, h2, h3, h4⟩, ⟨h5, h6, h7⟩, h8⟩
    refine ⟨h1, eb.2 ⟨h3, h4, h6, ?_, ?_⟩, fun _ => h2, fun _ => h5, h8⟩
    · rcases h7 with h | h
      · exact .inr h
      · exact .inl (ek.2 h.1)
    · rcases h7 with h | h
      · exact .inr (.inr h)
      · rcases h.2 with h' | h'
        · rcases h.1 with h6 | h6
          · exact .inl h6
          · rw [h'] at h6; cases h6
        · exact .inr (.inl h')
theorem rightStep47_ret (w : World) {c : Array Value} {s : StepV} (hs : StepIn w c s) : Ret P 47 #[.agg c] w (fun v w' => ∃ b : Bool, v = .bool b ∧ (b = true ↔ StepOk s) ∧ Below w.heap.size w w') := by
  obtain ⟨d, k, rfl, hd, hk⟩ := hs
  refine f47.calls ?_
  unfold f47.f
  refine Do.box (Has.init w) ?_
  intro b1 w1 H
  have H : Has w w1 [boxB b1 s d k] := H
  refine Do.ok run_fld (Do.ld H 0 rfl rfl ?_)
  refine rsA1 (p := true) (q := true) hd hk H (rsA2 (p := true) (q := true) hd hk H (rsA3 (p := true) (q := true) hd hk H (rsA4 (q := true) hd hk H (rsA5 hd hk H (rsA6 (q := true) hd hk H ?_)))))
  show If (.bool (rs63 s)) _ _
  cases h63 : rs63 s with
  | true => exact If.t ⟨false, rfl, ⟨fun h => (by cases h), fun h => by rw [((rs_iff s).1 h).1] at h63; cases h63⟩, H.toBelow⟩
  | false =>
  refine If.f (Do.ok run_fld (Do.ld H 0 rfl rfl (CallF.ret (f74.enters _ _) (right74_ret s.brk w1) ?_)))
  rintro _ w2 ⟨rfl, rfl⟩
  refine Do.ok run_not (rsB2 hd hk H (rsB3 hd hk H ?_))
  show If (.bool (rs98 s)) _ _
  cases h98 : rs98 s with
  | true => exact If.t ⟨false, rfl, ⟨fun h => (by cases h), fun h => by rw [((rs_iff s).1 h).2.1] at h98; cases h98⟩, H.toBelow⟩
  | false =>
  refine If.f ?_
  refine ⟨fun kk x w' => ∃ i : Nat, kk + i = s.keep.length ∧ x = .int .i64 i ∧ (∀ j (h : j < s.keep.length), j < i → inR s.keep[j]) ∧ w' = w2, ⟨s.keep.length, 0, by omega, rfl, fun j _ h => absurd h (by omega), rfl⟩, ?_⟩
  rintro kk σ w3 ⟨i, hkk, hx, hall, rfl⟩
  rw [hx]
  have hkl := hk.le
  simp only [maxLen] at hkl
  unfold f47.l0
  refine Do.ok run_fld (Do.ld H 0 rfl rfl (Do.ok hk.len (Do.dec run_lss (fun hlt => If.t ?_) (fun hge => If.f ?_))))
  · have hi : i < s.keep.length := by omega
    obtain ⟨bb, o, cs, fz, hw, hidx, hc⟩ := hk.int hi
    refine Do.ok run_fld (Do.ld H 0 rfl rfl (Do.ok (hidx w3) (Do.ok (run_loadBase H hw hc) (CallF.ret (f74.enters _ _) (right74_ret _ w3) ?_))))
    rintro _ w4 ⟨rfl, rfl⟩
    cases hr : rightB s.keep[i] with
    | false =>
      refine Do.ok run_notF (If.t ⟨false, rfl, ⟨fun h => (by cases h), fun h => ?_⟩, H.toBelow⟩)
      have := (rightB_iff _).2 (h.keep _ (List.getElem_mem hi))
      rw [hr] at this; cases this
    | true =>
      refine Do.ok run_notT (If.f (Do.ok (run_addi (a := (i : Int)) (b := 1) (by omega)) ⟨kk - 1, by omega, i + 1, by omega, rfl, fun j h1 h2 => ?_, rfl⟩))
      by_cases hji : j = i
      · subst hji; exact (rightB_iff _).1 hr
      · exact hall j h1 (by omega)
  · refine ⟨true, rfl, ⟨fun _ => (rs_iff s).2 ⟨h63, h98, fun n hn => ?_⟩, fun _ => rfl⟩, H.toBelow⟩
    obtain ⟨j, hj, rfl⟩ := List.getElem_of_mem hn
    exact hall j hj (by omega)
end Go.Proofs.YtdnnamaimgijpaaDoor
