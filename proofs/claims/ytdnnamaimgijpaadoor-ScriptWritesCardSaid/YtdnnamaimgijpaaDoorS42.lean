/- Contract: still. Conditions: none. -/
import Derived.Test.YtdnnamaimgijpaaDoorS41
set_option linter.unusedVariables false
set_option linter.unusedSectionVars false
set_option maxRecDepth 10000
namespace Go.Proofs.YtdnnamaimgijpaaDoor
open Go Go.Sx Go.Proofs Go.Lib Go.RowKit

instance und39 : Und P 39 (TypeDesc.slice 41) := ⟨Tryd.underlying39⟩
instance und40 : Und P 40 (TypeDesc.slice 42) := ⟨Tryd.underlying40⟩
theorem SlAt.cut {t T : TypeId} [u : Und P t (.slice T)] {agg : Bool} {sz : Nat} {z : Value} {by_ : Nat} [ty : Ty P T agg sz z by_] {T' : Nat} {w : World} {v : Value} {n : Nat} {xs ms : List Value}
    (h : SlAt T' sz w v (n + 1) (xs ++ ms)) (hx : xs.length = n * sz) :
    ∃ x c, (∀ w, (Instr.sliceAt t v none (some (.int .i64 (n : Int))) none).run P w = .ok (.slice x n c) w) ∧ SlAt T' sz w (.slice x n c) n xs := by
  obtain ⟨x, c, rfl, hc, hl, hp⟩ := h
  obtain ⟨b, o, cs, fz, rfl, hw, hcs⟩ := hp (by omega)
  refine ⟨some ⟨b, o, none⟩, c, fun w => ?_, _, _, rfl, ⟨by omega, hc.2⟩, hx, fun _ => ⟨b, o, cs, fz, rfl, hw, fun j hj => ?_⟩⟩
  · have := run_slice (P := P) (w := w) (t := t) (T := T) (x := some ⟨b, o, none⟩) (n := n + 1) (c := c) (lo := none) (hi := some (.int .i64 (n : Int))) (a := 0) (b := n) (.inr ⟨rfl, rfl⟩) (.inl rfl) (by omega) (by omega)
    rw [this, if_neg (by omega)]
    simp [Addr.add]
  · rw [hcs j (by rw [List.length_append]; omega), List.getElem_append_left hj]
theorem build31v (x : Option Addr) (n c : Nat) (w : World) : (Instr.build 31 #[(1, .slice x n c)]).run P w = .ok (.agg (playCells cfg0 (.slice x n c))) w := by kernel_rfl
theorem nes_same {x y : Operand} {a : ByteArray} {w : World} : (binS .neq 9 x y (.string a) (.string a)).run P w = .ok (.bool false) w := by rw [run_nes]; simp
theorem nei_same {t : TypeId} {x y : Operand} {k : IntKind} {a : Int} {w : World} : (binS .neq t x y (.int k a) (.int k a)).run P w = .ok (.bool false) w := by rw [run_nei]; simp
/-- The lists that were lent, as 'still' looks at them. -/
structure Lent (w : World) (lv kv av : Value) (ss : List StepV) : Prop where
  all : ∃ xs, SlAt 44 5 w av (ss.length + 1) (xs ++ lentM.toList) ∧ StepsIn w ss xs
  lists : ∃ ls, SlAt 41 1 w lv ss.length ls ∧ ∀ i (h : i < ss.length), ∃ d, ls[i]? = some d ∧ SlAt 5 1 w d (ss[i].data.length + 1) (byteCells ss[i].data ++ [.int .u8 165])
  keeps : ∃ ls, SlAt 42 1 w kv ss.length ls ∧ ∀ i (h : i < ss.length), ∃ d, ls[i]? = some d ∧ SlAt 3 1 w d (ss[i].keep.length + 1) (ints ss[i].keep ++ [.int .i64 (-99)])
theorem still_ret (w : World) {cs : Array Value} {c : Cfg} {ss : List StepV} {lv kv av : Value} (h : PlayIn w cs c ss) (hl : Lent w lv kv av ss) (hss : ss.length ≤ 2147483647) (hb : ∀ s ∈ ss, s.data.length ≤ 2147483647 ∧ s.keep.length ≤ 2147483647) :
    Ret P 17 #[lv, kv, av, .agg cs] w (fun r w' => r = .bool true ∧ Below w.heap.size w w') := by
  obtain ⟨v, xs, rfl, hv, hst⟩ := h
  obtain ⟨⟨ax, hav, hast⟩, ⟨ls, hlv, hls⟩, ⟨ks, hkv, hks⟩⟩ := hl
  generalize hM : (2147483647 : Nat) = M at hss hb
  refine f17.calls ?_
  unfold f17.f
  refine Do.box (Has.init w) ?_
  intro b7 w1 H1
  have H1 : Has w w1 [plB b7 c v] := H1
  refine Do.ok run_fld (Do.ld H1 0 rfl rfl (Do.ok hv.len ?_))
  have Hd := H1.drew
  obtain ⟨x19, c19, hsl19, hat19⟩ := hav.cut (t := 29) (T := 44) (by rw [hast.len])
  obtain ⟨vx, vc, ev, _⟩ := id hv
  refine ⟨fun w' => Has w w' [plB b7 c v], Hd, Take.ok (fun w _ => hsl19 w) (Take.ok (fun w _ => build31v _ _ _ w) (Take.ok (fun w _ => run_fld) (Take.ok (v := v) (fun w hS => run_load1 ((cell_of_blk (hS.get 0 rfl) _).trans rfl)) ?_)))⟩
  refine Take.ok (v := .agg (playCells cfg0 v)) (fun w _ => by rw [ev]; exact build31v _ _ _ w) ?_
  have p1 : PlayIn w (playCells cfg0 (.slice x19 ss.length c19)) cfg0 ss := ⟨_, ax, rfl, hat19, hast⟩
  have p2 : PlayIn w (playCells cfg0 v) cfg0 ss := ⟨_, xs, rfl, hv, hst⟩
  refine CallF.ret (f13.enters _ _) (same_ret _ (p1.below Hd.toBelow) (p2.below Hd.toBelow) (fun s hs => by have := (hb s hs).2; omega) (by omega)) ?_
  rintro _ w2 ⟨b, rfl, hbs, hbel⟩
  obtain rfl : b = true := hbs.2 ⟨rfl, rfl⟩
  have H2 := Hd.below hbel
  refine ⟨H2, Do.ok run_notT ?_⟩
  obtain ⟨ba, oa, ca, fa, hwa, hia, hca⟩ := hav.idx (t := 29) (e := 44) (i := ss.length) (by omega)
  have hc0 : ca[oa]? = some (.int .i64 (-99)) := by
    have := hca 0 (by omega)
    rw [Nat.add_zero, Nat.add_zero] at this
    rw [this, List.getElem?_append_right (by rw [hast.len]; exact Nat.le_refl _)]
    simp [hast.len, lentM, cells5]
  refine GuardK.ff (GuardK.ff (GuardK.ff (Do.ok (hia _) (GuardK.ff (Do.ok run_fld (GuardK.ff (Do.ok (run_loadBase H2 hwa hc0) (GuardK.ff (Do.ok nei_same (Do.ok run_pickF (If.f ?_)))))))))))
  refine ⟨fun k x w' => ∃ i : Nat, k + i = ss.length ∧ x = .int .i64 i ∧ Has w w' [plB b7 c v], ⟨ss.length, 0, by omega, rfl, H2⟩, ?_⟩
  rintro k σ w3 ⟨i, hk, hx, H⟩
  rw [hx]
  unfold f17.l0
  refine Do.dec run_lss (fun hlt => If.t ?_) (fun hge => If.f ⟨rfl, H.toBelow⟩)
  have hi : i < ss.length := by omega
  obtain ⟨d1, hd1, hd1s⟩ := hls i hi
  obtain ⟨k1, hk1, hk1s⟩ := hks i hi
  obtain ⟨bl, ol, cl, fl, hwl, hil, hcl⟩ := hlv.idx (t := 39) (e := 41) hi
  obtain ⟨bk, ok, ck, fk, hwk, hik, hck⟩ := hkv.idx (t := 40) (e := 42) hi
  have hcl : cl[ol]? = some d1 := by have := hcl 0 (by omega); rw [Nat.add_zero, Nat.add_zero, Nat.mul_one] at this; rw [this, hd1]
  have hck : ck[ok]? = some k1 := by have := hck 0 (by omega); rw [Nat.add_zero, Nat.add_zero, Nat.mul_one] at this; rw [this, hk1]
  obtain ⟨bb, o, d, kk, hidx, _, hld2, hld4, hd, hkp⟩ := row5 hv hst hi
  obtain ⟨hdl, hkl⟩ := hb _ (List.getElem_mem hi)
  generalize ss[i] = s at *
  refine Do.ok run_fld (Do.ld H 0 rfl rfl (Do.ok (hidx _) (Do.ok run_fld (Do.ok (hld2 H) (Do.ok hd.len ?_)))))
  refine Do.ok run_fld (Do.ld H 0 rfl rfl (Do.ok (hidx _) (Do.ok run_fld (Do.ok (hld4 H) (Do.ok hkp.len ?_)))))
  have Hd := H.drew
  obtain ⟨x59, c59, hsl59, hat59⟩ := hd1s.cut (t := 41) (T := 5) (by simp [byteCells])
  obtain ⟨bd, od, cd, fd, hwd, hid, hcd⟩ := hd1s.idx (t := 41) (e := 5) (i := s.data.length) (by omega)
  obtain ⟨bq, oq, cq, fq, hwq, hiq, hcq⟩ := hk1s.idx (t := 42) (e := 3) (i := s.keep.length) (by omega)
  have hcd : cd[od]? = some (.int .u8 165) := by
    have := hcd 0 (by omega)
    rw [Nat.add_zero, Nat.add_zero, Nat.mul_one] at this
    rw [this, List.getElem?_append_right (by simp [byteCells])]
    simp [byteCells]
  have hcq : cq[oq]? = some (.int .i64 (-99)) := by
    have := hcq 0 (by omega)
    rw [Nat.add_zero, Nat.add_zero, Nat.mul_one] at this
    rw [this, List.getElem?_append_right (by simp)]
    simp
  refine ⟨fun w' => Has w w' [plB b7 c v], Hd, Take.ok (fun w _ => hil w) (Take.ok (v := d1) (fun w hS => run_loadBase hS hwl hcl) (Take.ok (fun w _ => hsl59 w) ?_))⟩
  refine Take.ok (fun w _ => run_fld) (Take.ok (v := v) (fun w hS => run_load1 ((cell_of_blk (hS.get 0 rfl) _).trans rfl)) (Take.ok (fun w _ => hidx w) (Take.ok (fun w _ => run_fld) (Take.ok (v := d) (fun w hS => hld2 hS) ?_))))
  constructor
  · refine Do.ok (run_toStrSl Hd hat59) ⟨Hd, Do.ok (run_toStrSl Hd hd) ⟨Hd, Take.ok (fun w _ => nes_same) ?_⟩⟩
    refine GuardT.ff (GuardT.ff (GuardT.ff (Take.ok (fun w _ => hil w) (GuardT.ff (Take.ok (v := d1) (fun w hS => run_loadBase hS hwl hcl) (GuardT.ff (GuardT.ff (Take.ok (fun w _ => hid w) (GuardT.ff (Take.ok (v := .int .u8 165) (fun w hS => run_loadBase hS hwd hcd) (GuardT.ff (Take.ok (fun w _ => nei_same) (Take.ok (fun w _ => run_pickF) ?_)))))))))))))
    refine GuardT.ff (GuardT.ff (GuardT.ff (Take.ok (fun w _ => hik w) (GuardT.ff (Take.ok (v := k1) (fun w hS => run_loadBase hS hwk hck) (GuardT.ff (GuardT.ff (Take.ok (fun w _ => hiq w) (GuardT.ff (Take.ok (v := .int .i64 (-99)) (fun w hS => run_loadBase hS hwq hcq) (GuardT.ff (Take.ok (fun w _ => nei_same) (Take.ok (fun w _ => run_pickF) ?_)))))))))))))
    exact If.f (Do.ok (run_addi (a := (i : Int)) (b := 1) (by omega)) ⟨k - 1, by omega, i + 1, by omega, rfl, Hd⟩)
  · refine Do.ok (run_toStrSl Hd hd) ⟨Hd, Do.ok (run_toStrSl Hd hat59) ⟨Hd, Take.ok (fun w _ => nes_same) ?_⟩⟩
    refine GuardT.ff (GuardT.ff (GuardT.ff (Take.ok (fun w _ => hil w) (GuardT.ff (Take.ok (v := d1) (fun w hS => run_loadBase hS hwl hcl) (GuardT.ff (GuardT.ff (Take.ok (fun w _ => hid w) (GuardT.ff (Take.ok (v := .int .u8 165) (fun w hS => run_loadBase hS hwd hcd) (GuardT.ff (Take.ok (fun w _ => nei_same) (Take.ok (fun w _ => run_pickF) ?_)))))))))))))
    refine GuardT.ff (GuardT.ff (GuardT.ff (Take.ok (fun w _ => hik w) (GuardT.ff (Take.ok (v := k1) (fun w hS => run_loadBase hS hwk hck) (GuardT.ff (GuardT.ff (Take.ok (fun w _ => hiq w) (GuardT.ff (Take.ok (v := .int .i64 (-99)) (fun w hS => run_loadBase hS hwq hcq) (GuardT.ff (Take.ok (fun w _ => nei_same) (Take.ok (fun w _ => run_pickF) ?_)))))))))))))
    exact If.f (Do.ok (run_addi (a := (i : Int)) (b := 1) (by omega)) ⟨k - 1, by omega, i + 1, by omega, rfl, Hd⟩)
end Go.Proofs.YtdnnamaimgijpaaDoor
