/- beyond; the walk of ScriptBack. Conditions: none. -/
import Derived.Test.YtdnnamaimgijpaaDoorS26
set_option linter.unusedVariables false
set_option linter.unusedSectionVars false
set_option maxRecDepth 100000
namespace Go.Proofs.YtdnnamaimgijpaaDoor
open Go Go.Sx Go.Proofs Go.Lib Go.RowKit

/-- A step of the play, its fields where they lie. -/
theorem step_at {w : World} {v : Value} {ss : List StepV} {xs : List Value} (hv : SlAt 44 5 w v ss.length xs) (hs : StepsIn w ss xs) {i : Nat} (hi : i < ss.length) :
    ∃ (b o : Nat) (cs : Array Value) (fz : Nat × Nat × Nat) (d k : Value), w.heap[b]? = some (.cells cs fz.1 fz.2) ∧ (∀ w', (Instr.indexAt 29 v (.int .i64 (i : Int))).run P w' = .ok (.pointer (some ⟨b, o, none⟩)) w') ∧
      (∀ j, j < 5 → cs[o + j]? = (cells5 ss[i].kind ss[i].conn d ss[i].brk k)[j]?) ∧ SlAt 5 1 w d ss[i].data.length (byteCells ss[i].data) ∧ SlAt 3 1 w k ss[i].keep.length (ints ss[i].keep) := by
  obtain ⟨b, o, cs, fz, hw, hidx, hcs⟩ := hv.idx (t := 29) (e := 44) hi
  obtain ⟨sc, ⟨d, k, rfl, hd, hk⟩, hsc⟩ := hs.get i hi
  exact ⟨b, o, cs, fz, d, k, hw, hidx, fun j hj => (hcs j hj).trans (hsc j hj), hd, hk⟩
theorem beyond_ret (w : World) {cs : Array Value} {c : Cfg} {ss : List StepV} (h : PlayIn w cs c ss) :
    Ret P 14 #[.agg cs] w (fun r w' => ∃ b : Bool, r = .bool b ∧ (b = false → ss.length ≤ 2147483647 ∧ ∀ s ∈ ss, s.data.length ≤ 2147483647 ∧ s.keep.length ≤ 2147483647) ∧ Below w.heap.size w w') := by
  obtain ⟨v, xs, rfl, hv, hs⟩ := h
  refine f14.calls ?_
  unfold f14.f
  refine Do.box (Has.init w) ?_
  intro b1 w1 H1
  have H1 : Has w w1 [(b1, .cells (playCells c v) 31 (0, 0))] := H1
  refine ⟨fun k x y w' => ∃ (i n : Nat), k + i = ss.length ∧ x = .int .i64 n ∧ y = .int .i64 i ∧ i ≤ n ∧ n ≤ 2147483647 ∧ (∀ j (h : j < ss.length), j < i → ss[j].data.length ≤ 2147483647 ∧ ss[j].keep.length ≤ 2147483647) ∧ Has w w' [(b1, .cells (playCells c v) 31 (0, 0))],
    ⟨ss.length, 0, 0, by omega, rfl, rfl, by omega, by omega, fun j _ h => absurd h (by omega), H1⟩, ?_⟩
  rintro k σ w2 ⟨i, n, hk, hx, hy, hin, hn, hall, H⟩
  rw [hx, hy]
  unfold f14.l0
  generalize hM : (2147483647 : Int) = M
  refine Do.ok run_fld (Do.ld H 0 rfl rfl (Do.ok hv.len (Do.dec run_lss (fun hlt => If.t ?_) (fun hge => If.f ?_))))
  case refine_2 =>
    refine ⟨false, rfl, fun _ => ⟨by omega, fun s hs => ?_⟩, H.toBelow⟩
    obtain ⟨j, hj, rfl⟩ := List.getElem_of_mem hs
    exact hall j hj (by omega)
  have hi : i < ss.length := by omega
  obtain ⟨b, o, cc, fz, d, kv, hw, hidx, hcs, hd, hkp⟩ := step_at hv hs hi
  have ld2 : ∀ {K : Value → World → Prop} {X : List PanicEntry → World → Prop}, K d w2 → Do P (Instr.loadAt 41 (.pointer (some ⟨b, o + 2, none⟩))) w2 K X := fun h => Do.ok (run_loadBase H hw (hcs 2 (by omega))) h
  have ld4 : ∀ {K : Value → World → Prop} {X : List PanicEntry → World → Prop}, K kv w2 → Do P (Instr.loadAt 42 (.pointer (some ⟨b, o + 4, none⟩))) w2 K X := fun h => Do.ok (run_loadBase H hw (hcs 4 (by omega))) h
  have hdl := hd.le
  have hkl := hkp.le
  have hgoal : ∀ j (h : j < ss.length), j < i + 1 → ss[i].data.length ≤ 2147483647 → ss[i].keep.length ≤ 2147483647 → ss[j].data.length ≤ 2147483647 ∧ ss[j].keep.length ≤ 2147483647 := by
    intro j h1 h2 h3 h4
    by_cases hji : j = i
    · subst hji; exact ⟨h3, h4⟩
    · exact hall j h1 (by omega)
  generalize hdn : ss[i].data.length = dl at *
  generalize hkn : ss[i].keep.length = kl at *
  refine Do.ok (run_addi (a := (n : Int)) (b := 1) (by omega)) (Do.dec run_geq (fun h1 => ?_) (fun h1 => ?_))
  · refine GuardK.tf (GuardK.tf (GuardK.tf (GuardK.tf (GuardK.tf (GuardK.tf (GuardK.tf (GuardK.tf (GuardK.tf (GuardK.tf (Do.ok run_pickT (If.t ⟨true, rfl, fun h => (by cases h), H.toBelow⟩)))))))))))
  refine GuardK.ff (Do.ok run_fld (GuardK.ff (Do.ld H 0 rfl rfl (GuardK.ff (GuardK.ff (Do.ok (hidx w2) (GuardK.ff (Do.ok run_fld (GuardK.ff (ld2 (GuardK.ff (Do.ok hd.len (GuardK.ff (GuardK.ff (Do.ok (run_subi (a := M) (b := (n : Int) + 1) (by omega)) (GuardK.ff (Do.dec run_gtr (fun h2 => ?_) (fun h2 => ?_))))))))))))))))))
  · exact Do.ok run_pickF (If.t ⟨true, rfl, fun h => (by cases h), H.toBelow⟩)
  simp only [maxLen] at hdl hkl
  refine Do.ok run_pickF (If.f (Do.ok run_fld (Do.ld H 0 rfl rfl (Do.ok (hidx w2) (Do.ok run_fld (ld2 (Do.ok hd.len (Do.ok (run_addi (a := (n : Int) + 1) (b := (dl : Int)) (by omega)) ?_))))))))
  refine Do.ok run_fld (Do.ld H 0 rfl rfl (Do.ok (hidx w2) (Do.ok run_fld (ld4 (Do.ok hkp.len (Do.ok (run_subi (a := M) (b := (n : Int) + 1 + dl) (by omega)) (Do.dec run_gtr (fun h3 => If.t ⟨true, rfl, fun h => (by cases h), H.toBelow⟩) (fun h3 => If.f ?_))))))))
  refine Do.ok run_fld (Do.ld H 0 rfl rfl (Do.ok (hidx w2) (Do.ok run_fld (ld4 (Do.ok hkp.len (Do.ok (run_addi (a := (n : Int) + 1 + dl) (b := (kl : Int)) (by omega)) (Do.ok (run_addi (a := (i : Int)) (b := 1) (by omega)) ?_)))))))
  exact ⟨k - 1, by omega, i + 1, n + 1 + dl + kl, by omega, by congr 1, rfl, by omega, by omega, fun j h1 h2 => hgoal j h1 h2 (by omega) (by omega), H⟩
end Go.Proofs.YtdnnamaimgijpaaDoor
