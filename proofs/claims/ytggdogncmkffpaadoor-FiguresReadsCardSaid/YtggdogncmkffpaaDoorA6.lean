/- Contracts: verbs.Name. Conditions: none. -/
import Derived.Test.YtggdogncmkffpaaDoorA5
set_option linter.unusedVariables false
set_option maxRecDepth 100000
namespace Go.Proofs.YtggdogncmkffpaaDoor
open Go Go.Sx Go.Proofs Go.Lib Go.RowKit

def forms26 : List Pr := [(⟨#[]⟩, ⟨#[]⟩), (⟨#[112, 117, 116]⟩, ⟨#[112, 100, 116, 110]⟩), (⟨#[117, 115, 101]⟩, ⟨#[117]⟩), (⟨#[114, 101, 115, 101, 114, 118, 101]⟩, ⟨#[]⟩), (⟨#[114, 101, 115, 101, 114, 118, 101, 45, 119, 105, 116, 104, 45, 116, 105, 109, 101, 111, 117, 116]⟩, ⟨#[110]⟩), (⟨#[114, 101, 115, 101, 114, 118, 101, 45, 106, 111, 98]⟩, ⟨#[105]⟩), (⟨#[100, 101, 108, 101, 116, 101]⟩, ⟨#[105]⟩), (⟨#[114, 101, 108, 101, 97, 115, 101]⟩, ⟨#[105, 112, 100]⟩), (⟨#[98, 117, 114, 121]⟩, ⟨#[105, 112]⟩), (⟨#[116, 111, 117, 99, 104]⟩, ⟨#[105]⟩), (⟨#[119, 97, 116, 99, 104]⟩, ⟨#[117]⟩), (⟨#[105, 103, 110, 111, 114, 101]⟩, ⟨#[117]⟩), (⟨#[112, 101, 101, 107]⟩, ⟨#[105]⟩), (⟨#[112, 101, 101, 107, 45, 114, 101, 97, 100, 121]⟩, ⟨#[]⟩), (⟨#[112, 101, 101, 107, 45, 100, 101, 108, 97, 121, 101, 100]⟩, ⟨#[]⟩), (⟨#[112, 101, 101, 107, 45, 98, 117, 114, 105, 101, 100]⟩, ⟨#[]⟩), (⟨#[107, 105, 99, 107]⟩, ⟨#[110]⟩), (⟨#[107, 105, 99, 107, 45, 106, 111, 98]⟩, ⟨#[105]⟩), (⟨#[115, 116, 97, 116, 115, 45, 106, 111, 98]⟩, ⟨#[105]⟩), (⟨#[115, 116, 97, 116, 115, 45, 116, 117, 98, 101]⟩, ⟨#[117]⟩), (⟨#[115, 116, 97, 116, 115]⟩, ⟨#[]⟩), (⟨#[108, 105, 115, 116, 45, 116, 117, 98, 101, 115]⟩, ⟨#[]⟩), (⟨#[108, 105, 115, 116, 45, 116, 117, 98, 101, 45, 117, 115, 101, 100]⟩, ⟨#[]⟩), (⟨#[108, 105, 115, 116, 45, 116, 117, 98, 101, 115, 45, 119, 97, 116, 99, 104, 101, 100]⟩, ⟨#[]⟩), (⟨#[112, 97, 117, 115, 101, 45, 116, 117, 98, 101]⟩, ⟨#[117, 110]⟩), (⟨#[113, 117, 105, 116]⟩, ⟨#[]⟩)]
noncomputable def formCells : Array Value := (flatP forms26).toArray
theorem build63 (s t : ByteArray) (w : World) : (Instr.build 63 #[(0, .string s), (1, .string t)]).run P w = .ok (.agg #[.string s, .string t]) w := by kernel_rfl
theorem ResC.ok {t : TypeId} {a : Addr} {w : World} {v : Value} {K : Value → Prop} (h : (Instr.loadAt t (.pointer (some a))).run P w = .ok v w) (k : K v) : ResC P t (.pointer (some a)) w K := ⟨v, h, k⟩
theorem forms_ret (w : World) : Ret P 37 #[] w (fun v w' => v = .agg formCells ∧ Below w.heap.size w w') := by
  refine f37.calls ?_
  unfold f37.f
  refine Do.alloc (Has.init w) ?_
  intro b w1 H1
  refine Do.ok (build63 _ _ _) ?_
  repeat refine Do.ok (build63 _ _ _) ?_
  refine Do.ok (v := .agg formCells) (w' := w1) (by kernel_rfl) ?_
  refine DoU.stN H1 0 rfl (by kernel_rfl) ?_ (Nat.le_of_ble_eq_true (by kernel_rfl)) (fun j _ => by simp [open_]) ?_
  · intro x hx q
    have : ∀ p ∈ forms26, ∀ x ∈ pairCells p, ∀ q, x ≠ .agg q ∧ x ≠ .tuple q := by
      intro p _ x hx q
      simp only [pairCells, List.mem_cons, List.mem_nil_iff, or_false] at hx
      rcases hx with rfl | rfl <;> simp
    simp only [formCells, flatP, List.mem_flatten, List.mem_map] at hx
    obtain ⟨l, ⟨p, hp, rfl⟩, hx⟩ := hx
    exact this p hp x hx q
  intro w2 H2
  have H3 : Has w w2 [(b, .cells formCells 79 (0, 0))] := Eq.mp (by kernel_rfl) H2
  refine ResC.ok (run_loadN (H3.get 0 rfl) (Nat.le_of_ble_eq_true (by kernel_rfl))) ?_
  exact ⟨by kernel_rfl, H3.toBelow⟩
theorem run_indexArr {t e n : Nat} [u : Und P t (.array n e)] {sz : Nat} {z : Value} {by_ : Nat} [ty : Ty P e true sz z by_] {cs : Array Value} {i : Int} {w : World} (h0 : 0 ≤ i) (h1 : i < n) :
    (Instr.index t (.agg cs) (.int .i64 i)).run P w = .ok (.agg (cs.extract (i.toNat * sz) (i.toNat * sz + sz))) w := by
  simp only [Instr.index, asIntOf, Sem.run_bind, Sem.run_pure, Result.andThen, run_und]
  rw [if_pos ⟨h0, h1⟩]
  simp only [Sem.run_bind, ty.size, Result.andThen, part, ty.agg, if_true, Sem.run_pure]
def verbOf (k : Nat) : ByteArray := ((forms26[k]?).map (·.1)).getD ⟨#[]⟩
theorem name_ret (k : Nat) (h1 : 1 ≤ k) (h2 : k ≤ 25) (w : World) : Ret P 18 #[.int .i64 k] w (fun v w' => v = .string (verbOf k) ∧ Below w.heap.size w w') := by
  have hk : k < forms26.length := by show k < 26; omega
  have hv : verbOf k = forms26[k].1 := by simp [verbOf, List.getElem?_eq_getElem hk]
  obtain ⟨g0, g1⟩ := flatP_get forms26 k hk
  obtain ⟨he, hsz⟩ := extract2 (cs := formCells) (o := 2 * k) (by simpa [formCells] using g0) (by simpa [formCells] using g1)
  refine f18.calls ?_
  unfold f18.f
  refine CallF.ret (f27.enters _ _) (R := fun v w' => v = .tuple #[.agg #[.string forms26[k].1, .string forms26[k].2], .bool true] ∧ Below w.heap.size w w') ?_ ?_
  · refine f27.calls ?_
    unfold f27.f
    refine Do.alloc (Has.init w) ?_
    intro b w1 H1
    refine Do.dec run_lss (fun h => absurd h (by omega)) (fun h => ?_)
    refine GuardK.ff (GuardK.ff (Do.dec run_gtr (fun h => absurd h (by omega)) (fun h => ?_)))
    refine Do.ok run_pickF (If.f ?_)
    refine CallF.ret (f37.enters _ _) (forms_ret w1) ?_
    rintro _ w2 ⟨rfl, hb⟩
    have H2 := H1.below hb
    refine Do.ok (run_indexArr (by omega) (by omega)) ?_
    have e2 : (k : Int).toNat * 2 = 2 * k := by omega
    rw [e2, he]
    refine DoU.stN H2 0 rfl rfl (by simp) (by simp [Value.cells]) (fun j _ => by simp [open_]) ?_
    intro w3 H3
    have H3 : Has w w3 [(b, .cells #[.string forms26[k].1, .string forms26[k].2] 63 (0, 0))] := H3
    exact ResC.ok (run_loadN (H3.get 0 rfl) (by simp)) ⟨rfl, H3.toBelow⟩
  rintro _ w1 ⟨rfl, hb⟩
  refine Do.ok (run_ext rfl) (Do.ok (run_ext rfl) ?_)
  refine Do.alloc ((Has.init w).below hb) ?_
  intro b w2 H2
  refine DoU.stN H2 0 rfl rfl (by simp) (by simp [Value.cells]) (fun j _ => by simp [open_]) ?_
  intro w3 H3
  have H3 : Has w w3 [(b, .cells #[.string forms26[k].1, .string forms26[k].2] 63 (0, 0))] := H3
  refine Do.ok run_fld (Do.ld H3 0 (v := .string forms26[k].1) rfl rfl ?_)
  exact ⟨by rw [hv], H3.toBelow⟩
end Go.Proofs.YtggdogncmkffpaaDoor
