/- Contracts: bytesOf, step's take. Conditions: none. -/
import Derived.Test.YtdnnamaimgijpaaDoorS6
set_option linter.unusedVariables false
set_option maxRecDepth 10000
namespace Go.Proofs.YtdnnamaimgijpaaDoor
open Go Go.Sx Go.Proofs Go.Lib Go.RowKit

def hexL : List UInt8 := [48, 49, 50, 51, 52, 53, 54, 55, 56, 57, 97, 98, 99, 100, 101, 102]
def hexI (c : UInt8) : Int := indexByte hexL c
def unesc : List UInt8 → List UInt8 → Option (List UInt8)
  | [], acc => some acc
  | c :: r, acc =>
    if c ≠ 92 then unesc r (acc ++ [c]) else
    match r with
    | [] => none
    | d :: r =>
      if d = 115 then unesc r (acc ++ [32]) else
      if d = 114 then unesc r (acc ++ [13]) else
      if d = 110 then unesc r (acc ++ [10]) else
      if d = 92 then unesc r (acc ++ [92]) else
      if d = 120 then
        match r with
        | a :: b :: r => if hexI a < 0 ∨ hexI b < 0 then none else unesc r (acc ++ [UInt8.ofNat (16 * (hexI a).toNat + (hexI b).toNat)])
        | _ => none
      else none
theorem unesc_cons (c : UInt8) (r acc : List UInt8) : unesc (c :: r) acc =
    if c ≠ 92 then unesc r (acc ++ [c]) else
    match r with
    | [] => none
    | d :: r =>
      if d = 115 then unesc r (acc ++ [32]) else
      if d = 114 then unesc r (acc ++ [13]) else
      if d = 110 then unesc r (acc ++ [10]) else
      if d = 92 then unesc r (acc ++ [92]) else
      if d = 120 then
        match r with
        | a :: b :: r => if hexI a < 0 ∨ hexI b < 0 then none else unesc r (acc ++ [UInt8.ofNat (16 * (hexI a).toNat + (hexI b).toNat)])
        | _ => none
      else none := by rw [unesc.eq_def]
def bytesV (s : ByteArray) : Option (List UInt8) :=
  match s.data.toList with
  | [] => none
  | c :: r => if c = 61 then unesc r [] else none
theorem hexI_lt (c : UInt8) : -1 ≤ hexI c ∧ hexI c ≤ 15 := by
  refine ⟨indexByte_ge _ _, ?_⟩
  unfold hexI hexL
  by_cases h : indexByte [48, 49, 50, 51, 52, 53, 54, 55, 56, 57, 97, 98, 99, 100, 101, 102] c = -1
  · omega
  · have hge := indexByte_ge [48, 49, 50, 51, 52, 53, 54, 55, 56, 57, 97, 98, 99, 100, 101, 102] c
    obtain ⟨o, ho⟩ : ∃ o : Nat, indexByte [48, 49, 50, 51, 52, 53, 54, 55, 56, 57, 97, 98, 99, 100, 101, 102] c = o := ⟨_, (Int.toNat_of_nonneg (by omega)).symm⟩
    have h1 := (indexByte_some ho).1
    have h2 := (List.getElem?_eq_some_iff.1 h1).1
    simp at h2
    omega
theorem or_pure : ∀ x y : Fin 16, IntKind.i64.wrap ((BitVec.ofInt 64 (16 * (x.1 : Int)) ||| BitVec.ofInt 64 (y.1 : Int)).toNat : Int) = 16 * (x.1 : Int) + y.1 := by decide +kernel
theorem run_or {x y : Int} {w : World} (h : 0 ≤ x ∧ x ≤ 15) (h' : 0 ≤ y ∧ y ≤ 15) : (binOp .or 3 (.int .i64 (16 * x)) (.int .i64 y)).run P w = .ok (.int .i64 (16 * x + y)) w := by
  have := or_pure ⟨x.toNat, by omega⟩ ⟨y.toNat, by omega⟩
  simp only [Int.toNat_of_nonneg h.1, Int.toNat_of_nonneg h'.1] at this
  show (Op.intBits .or .i64 (16 * x) y).run P w = _
  simp only [Op.intBits, Sem.run_pure]
  congr 2
theorem run_shl4 {x : Int} {w : World} (h : 0 ≤ x ∧ x ≤ 15) : (binOp .shl 3 (.int .i64 x) (.int .u64 4)).run P w = .ok (.int .i64 (16 * x)) w := by
  have e : IntKind.i64.wrap (x * 2 ^ 4) = 16 * x := by rw [wrap_id (by omega)]; omega
  show (Op.shift .shl .i64 x .u64 4).run P w = _
  simp only [Op.shift]
  rw [if_neg (by omega)]
  have e2 : min (Int.toNat 4) IntKind.i64.bits = 4 := rfl
  rw [e2]
  simp only [Sem.run_pure, e]
theorem wrap_u8 {a : Int} (h : 0 ≤ a ∧ a ≤ 255) : IntKind.u8.wrap a = a := by
  have : IntKind.u8.wrap a = a % 256 := by simp [IntKind.wrap, IntKind.bits, IntKind.signed, IntKind.max]
  rw [this]; omega
theorem run_conv35 {a : Int} {w : World} (h : 0 ≤ a ∧ a ≤ 255) : (convert 3 5 (.int .i64 a)).run P w = .ok (.int .u8 a) w := by
  have := run_convert_int (P := P) w 3 5 .i64 a (by kernel_rfl) (by kernel_rfl)
  rw [this]
  show Result.ok (Value.int .u8 (IntKind.u8.wrap a)) w = _
  rw [wrap_u8 h]
theorem bs41 (c : Int) (w : World) : (Instr.buildSlice 41 1 #[(0, .int .u8 c)]).run P w = .ok (.slice (some ⟨w.heap.size, 0, none⟩) 1 1) (w.alloc (.cells #[.int .u8 c] 5)) := by kernel_rfl
theorem u8_of {c d : UInt8} (h : (c.toNat : Int) = d.toNat) : c = d := UInt8.toNat_inj.1 (by omega)
def BRow (v : Value) (l : List UInt8) (I : List (Nat × Obj)) : Prop := Row 5 1 v l.length (byteCells l) I
theorem byteCells_snoc (l : List UInt8) (c : UInt8) : byteCells (l ++ [c]) = byteCells l ++ [.int .u8 (c.toNat : Int)] := by simp [byteCells]
theorem app1 {w0 w : World} {L I : List (Nat × Obj)} {v : Value} {acc : List UInt8} {K : Value → World → Prop} {X : List PanicEntry → World → Prop} (H : Has w0 w (I ++ L)) (hr : BRow v acc I) (c : UInt8) (hlen : acc.length + 1 ≤ 140737488355328) {rt : TypeId}
    (k : ∀ v' I' w', BRow v' (acc ++ [c]) I' → Has w0 w' (I' ++ L) → K v' w') :
    Do P (Instr.buildSlice 41 1 #[(0, .int .u8 (c.toNat : Int))]) w (fun t w => Do P (Builtin.append_ #[41, 41] rt #[v, t]) w K X) X := by
  refine Do.bs H (bs41 (c.toNat : Int)) ?_
  intro b w1 H1
  refine Do.append2 (t := 41) H1 hr rfl (by simp [Value.oneCell']) (by omega) (by omega) ?_
  intro v' I' w' hr' H' _
  refine k v' I' w' ?_ H'
  unfold BRow
  rw [byteCells_snoc, List.length_append]
  exact hr'
theorem hex_ret (c : UInt8) (w : World) : Ret P 82 #[.string ⟨#[48, 49, 50, 51, 52, 53, 54, 55, 56, 57, 97, 98, 99, 100, 101, 102]⟩, .int .u8 (c.toNat : Int)] w (fun v w' => v = .int .i64 (hexI c) ∧ w' = w) := by
  have h := Tryd.strings_IndexByte ⟨#[48, 49, 50, 51, 52, 53, 54, 55, 56, 57, 97, 98, 99, 100, 101, 102]⟩ (c.toNat : Int) w
  have e : (c.toNat : Int).toNat.toUInt8 = c := by simp
  rw [e] at h
  exact Ret.ofCalls h

theorem bytesOf_try (s : ByteArray) (h0 : 0 < s.size) (hs : s.size < 4294967281) (w : World) : Try 57 #[.string s] w
    (fun v w' => ∃ l I, bytesV s = some l ∧ BRow v l I ∧ Has w w' I) (fun c w' => c = 192 ∧ bytesV s = none ∧ Below w.heap.size w w') := by
  have hl : s.data.toList.length = s.size := by simp
  obtain ⟨c0, r0, e0⟩ : ∃ c r, s.data.toList = c :: r := by
    cases h : s.data.toList with
    | nil => rw [h] at hl; simp at hl; omega
    | cons c r => exact ⟨c, r, rfl⟩
  refine f57.calls ?_
  unfold f57.f
  refine ⟨fun w' => w' = w ∧ c0 = 61, ?_, ?_⟩
  case refine_2 =>
    refine Do.ok (run_idxS (by omega) (by omega)) ?_
    have e1 : s.data.toList[(0 : Int).toNat]'(by simp; omega) = c0 := by simp only [Int.toNat_zero, e0, List.getElem_cons_zero]
    rw [e1]
    refine Do.dec run_nei (fun h => If.t (CallF.fail ⟨192, rfl, rfl, ?_, Below.refl _ _⟩)) (fun h => If.f ⟨rfl, ?_⟩)
    · rw [bytesV, e0]
      simp only
      rw [if_neg]
      rintro rfl
      exact h rfl
    · have : (c0.toNat : Int) = 61 := by simpa using h
      exact UInt8.toNat_inj.1 (by simpa using (by omega : c0.toNat = 61))
  rintro σ w1 ⟨rfl, hc0⟩
  have ev : bytesV s = unesc r0 [] := by rw [bytesV, e0]; simp only; rw [if_pos hc0]
  rw [ev]
  unfold f57.j0
  refine Do.ok (run_sliceStr (a := 1) (b := s.size) (.inl rfl) (.inr ⟨rfl, rfl⟩) (by omega) (Nat.le_refl _)) ?_
  have et : (s.extract 1 s.size).data.toList = r0 := by rw [extract_data, e0]; simp; exact List.take_of_length_le (by rw [e0] at hl; simp at hl; omega)
  generalize s.extract 1 s.size = t at et ⊢
  have htl : r0.length = t.size := by rw [← et]; simp
  have hr0 : r0.length + 1 = s.size := by rw [← hl, e0]; simp
  refine ⟨fun k v x w' => ∃ (i : Nat) (acc : List UInt8) (I : List (Nat × Obj)), k + i = r0.length ∧ x = .int .i64 i ∧ acc.length ≤ i ∧ BRow v acc I ∧ Has w1 w' I ∧ unesc r0 [] = unesc (r0.drop i) acc,
    ⟨r0.length, 0, [], [], by omega, rfl, by simp, .nil, Has.init w1, rfl⟩, ?_⟩
  rintro k σ w2 ⟨i, acc, I, hk, hx, hacc, hr, H, hu⟩
  rw [hx, hu]
  unfold f57.l1
  refine Do.ok run_lenStr (Do.dec run_lss (fun hlt => If.t ?_) (fun hge => If.f ?_))
  case refine_2 =>
    rw [List.drop_eq_nil_of_le (by omega)]
    exact ⟨acc, I, rfl, hr, H⟩
  have hi : i < r0.length := by omega
  have hidx : ∀ (j : Nat) (h : j < r0.length) (w : World), (Instr.index 9 (.string t) (.int .i64 (j : Int))).run P w = .ok (.int .u8 ((r0[j]'h).toNat : Int)) w := fun j h w => by
    have := run_idxS (P := P) (w := w) (t := 9) (s := t) (i := (j : Int)) (by omega) (by omega)
    rw [this]
    congr 3
    simp only [Int.toNat_natCast, et]
  rw [List.drop_eq_getElem_cons hi]
  have H' : Has w1 w2 (I ++ []) := by rw [List.append_nil]; exact H
  refine Do.ok (hidx i hi _) ?_
  refine Do.dec run_nei (fun hne => If.t ?_) (fun heq => If.f ?_)
  · have hne' : r0[i] ≠ 92 := fun e => by rw [e] at hne; exact hne rfl
    rw [unesc_cons, if_pos hne']
    refine Do.ok (hidx i hi _) (app1 H' hr _ (by omega) ?_)
    intro v' I' w3 hr' H3
    rw [List.append_nil] at H3
    refine Do.ok (run_addi (a := (i : Int)) (b := 1) (by omega)) ?_
    exact ⟨k - 1, by omega, i + 1, acc ++ [r0[i]], I', by omega, rfl, by simp; omega, hr', H3, rfl⟩
  have heq' : r0[i] = 92 := u8_of (by simpa using heq)
  rw [unesc_cons, if_neg (by simpa using heq')]
  refine Do.ok (run_addi (a := (i : Int)) (b := 1) (by omega)) ?_
  refine ⟨fun w' => w' = w2 ∧ i + 1 < r0.length, ?_, ?_⟩
  case refine_2 =>
    refine Do.ok run_lenStr (Do.dec run_eqi (fun h => If.t (CallF.fail ⟨192, rfl, rfl, ?_, H.toBelow⟩)) (fun h => If.f ⟨rfl, by omega⟩))
    rw [List.drop_eq_nil_of_le (by omega)]
  rintro σ w3 ⟨rfl, hi1⟩
  rw [List.drop_eq_getElem_cons hi1]
  unfold f57.j2
  have ei1 : ((i : Int) + 1) = ((i + 1 : Nat) : Int) := by omega
  rw [ei1]
  simp only
  refine Do.ok (hidx (i + 1) hi1 _) ?_
  generalize hd : r0[i + 1] = d
  have next : ∀ (c : UInt8) v' I' w', BRow v' (acc ++ [c]) I' → Has w1 w' (I' ++ []) → ∃ k', k' < k ∧ ∃ (i' : Nat) (acc' : List UInt8) (I : List (Nat × Obj)), k' + i' = r0.length ∧ Value.int .i64 (((i + 1 : Nat) : Int) + 1) = .int .i64 i' ∧ acc'.length ≤ i' ∧ BRow v' acc' I ∧
      Has w1 w' I ∧ unesc (r0.drop (i + 1 + 1)) (acc ++ [c]) = unesc (r0.drop i') acc' := fun c v' I' w' hr' H3 => by
    rw [List.append_nil] at H3
    exact ⟨k - 2, by omega, i + 1 + 1, acc ++ [c], I', by omega, rfl, by simp; omega, hr', H3, rfl⟩
  refine Do.dec run_eqi (fun h => If.t ?_) (fun h1 => If.f ?_)
  · rw [if_pos (u8_of (by simpa using h))]
    refine app1 H' hr 32 (by omega) ?_
    intro v' I' w' hr' H3
    exact Do.ok (run_addi (a := ((i + 1 : Nat) : Int)) (b := 1) (by omega)) (next 32 v' I' w' hr' H3)
  rw [if_neg (fun e => h1 (by rw [e]; rfl))]
  refine Do.dec run_eqi (fun h => If.t ?_) (fun h2 => If.f ?_)
  · rw [if_pos (u8_of (by simpa using h))]
    refine app1 H' hr 13 (by omega) ?_
    intro v' I' w' hr' H3
    exact Do.ok (run_addi (a := ((i + 1 : Nat) : Int)) (b := 1) (by omega)) (next 13 v' I' w' hr' H3)
  rw [if_neg (fun e => h2 (by rw [e]; rfl))]
  refine Do.dec run_eqi (fun h => If.t ?_) (fun h3 => If.f ?_)
  · rw [if_pos (u8_of (by simpa using h))]
    refine app1 H' hr 10 (by omega) ?_
    intro v' I' w' hr' H3
    exact Do.ok (run_addi (a := ((i + 1 : Nat) : Int)) (b := 1) (by omega)) (next 10 v' I' w' hr' H3)
  rw [if_neg (fun e => h3 (by rw [e]; rfl))]
  refine Do.dec run_eqi (fun h => If.t ?_) (fun h4 => If.f ?_)
  · rw [if_pos (u8_of (by simpa using h))]
    refine app1 H' hr 92 (by omega) ?_
    intro v' I' w' hr' H3
    exact Do.ok (run_addi (a := ((i + 1 : Nat) : Int)) (b := 1) (by omega)) (next 92 v' I' w' hr' H3)
  rw [if_neg (fun e => h4 (by rw [e]; rfl))]
  refine Do.dec run_eqi (fun h => If.t ?_) (fun h5 => If.f ?_)
  case refine_2 =>
    rw [if_neg (fun e => h5 (by rw [e]; rfl))]
    exact CallF.fail ⟨192, rfl, rfl, rfl, H.toBelow⟩
  rw [if_pos (u8_of (by simpa using h))]
  refine ⟨fun w' => w' = w3 ∧ i + 3 < r0.length, ?_, ?_⟩
  case refine_2 =>
    refine Do.ok run_lenStr (Do.ok (run_subi (a := (t.size : Int)) (b := ((i + 1 : Nat) : Int)) (by omega)) (Do.dec run_lss (fun h => If.t (CallF.fail ⟨192, rfl, rfl, ?_, H.toBelow⟩)) (fun h => If.f ⟨rfl, by omega⟩)))
    have hlen : (r0.drop (i + 1 + 1)).length < 2 := by rw [List.length_drop]; omega
    generalize r0.drop (i + 1 + 1) = q at hlen
    match q with
    | [] => rfl
    | [_] => rfl
    | _ :: _ :: _ => simp at hlen; omega
  rintro σ w4 ⟨rfl, hi3⟩
  rw [List.drop_eq_getElem_cons (by omega : i + 1 + 1 < r0.length), List.drop_eq_getElem_cons (by omega : i + 1 + 1 + 1 < r0.length)]
  unfold f57.j3
  refine ⟨fun w' => Has w1 w' I, H.drew, ?_⟩
  have ei2 : ((i + 1 : Nat) : Int) + 1 = ((i + 1 + 1 : Nat) : Int) := by omega
  have ei3 : ((i + 1 : Nat) : Int) + 2 = ((i + 1 + 1 + 1 : Nat) : Int) := by omega
  refine Take.ok (v := .int .i64 ((i + 1 + 1 : Nat) : Int)) (fun w _ => by rw [← ei2]; exact run_addi (a := ((i + 1 : Nat) : Int)) (b := 1) (by omega)) ?_
  refine Take.ok (fun w _ => hidx (i + 1 + 1) (by omega) w) ?_
  refine Take.ok (v := .int .i64 ((i + 1 + 1 + 1 : Nat) : Int)) (fun w _ => by rw [← ei3]; exact run_addi (a := ((i + 1 : Nat) : Int)) (b := 2) (by omega)) ?_
  refine Take.ok (fun w _ => hidx (i + 1 + 1 + 1) (by omega) w) ?_
  generalize r0[i + 1 + 1] = a
  generalize r0[i + 1 + 1 + 1] = b
  refine CallF.ret (enters82 _ _) (hex_ret a _) ?_
  rintro _ w5 ⟨rfl, rfl⟩
  refine ⟨H.drew, CallF.ret (enters82 _ _) (hex_ret b _) ?_⟩
  rintro _ w5 ⟨rfl, rfl⟩
  refine ⟨H.drew, ⟨fun w' => w' = drewW w4 ∧ ¬ (hexI a < 0 ∨ hexI b < 0), ?_, ?_⟩⟩
  case refine_2 =>
    refine Do.dec run_lss (fun ha => ?_) (fun ha => ?_)
    · refine GuardK.tf (GuardK.tf (Do.ok run_pickT (If.t (CallF.fail ⟨192, rfl, rfl, ?_, H.drew.toBelow⟩))))
      exact if_pos (.inl ha)
    · refine GuardK.ff (GuardK.ff (Do.dec run_lss (fun hb => ?_) (fun hb => ?_)))
      · refine Do.ok run_pickF (If.t (CallF.fail ⟨192, rfl, rfl, ?_, H.drew.toBelow⟩))
        exact if_pos (.inr hb)
      · exact Do.ok run_pickF (If.f ⟨rfl, fun h => h.elim ha hb⟩)
  rintro σ w6 ⟨rfl, hab⟩
  show f57.j4 _ _ _ _ _ _ _
  have eh : (match a :: b :: List.drop (i + 1 + 1 + 1 + 1) r0 with
    | a :: b :: r => if hexI a < 0 ∨ hexI b < 0 then none else unesc r (acc ++ [UInt8.ofNat (16 * (hexI a).toNat + (hexI b).toNat)])
    | x => none) = unesc (List.drop (i + 1 + 1 + 1 + 1) r0) (acc ++ [UInt8.ofNat (16 * (hexI a).toNat + (hexI b).toNat)]) := if_neg hab
  rw [eh]
  have ra := hexI_lt a
  have rb := hexI_lt b
  unfold f57.j4
  refine Do.ok (run_shl4 (by omega)) (Do.ok (run_or (by omega) (by omega)) (Do.ok (run_conv35 (by omega)) ?_))
  have ec : (16 * hexI a + hexI b) = (((UInt8.ofNat (16 * (hexI a).toNat + (hexI b).toNat)).toNat : Nat) : Int) := by
    rw [UInt8.toNat_ofNat']
    omega
  rw [ec]
  have H6 : Has w1 (drewW w4) (I ++ []) := by rw [List.append_nil]; exact H.drew
  refine app1 H6 hr (UInt8.ofNat (16 * (hexI a).toNat + (hexI b).toNat)) (by omega) ?_
  intro v' I' w' hr' H3
  refine Do.ok (run_addi (a := ((i + 1 : Nat) : Int)) (b := 2) (by omega)) (Do.ok (run_addi (a := ((i + 1 : Nat) : Int) + 2) (b := 1) (by omega)) ?_)
  rw [List.append_nil] at H3
  exact ⟨k - 4, by omega, i + 1 + 1 + 1 + 1, _, I', by omega, by congr 1, by simp; omega, hr', H3, rfl⟩

/-- The words that are still to be read. -/
def Wd (bw : Nat) (all : List ByteArray) (v : Value) (ss : List ByteArray) : Prop :=
  ∃ o c, v = .slice (some ⟨bw, o, none⟩) ss.length c ∧ ss.length ≤ c ∧ ∀ j (h : j < ss.length), all[o + j]? = some ss[j]
theorem Wd.all (bw : Nat) (all : List ByteArray) : Wd bw all (.slice (some ⟨bw, 0, none⟩) all.length all.length) all := ⟨0, _, rfl, Nat.le_refl _, fun j h => by simp [h]⟩
theorem Wd.one {bw : Nat} {all : List ByteArray} {v : Value} {ss : List ByteArray} (h : Wd bw all v ss) : v.cells = #[v] ∧ ∀ q, v ≠ .agg q ∧ v ≠ .tuple q := by
  obtain ⟨o, c, rfl, _⟩ := h
  exact ⟨rfl, fun q => ⟨by simp, by simp⟩⟩
theorem Wd.len {bw : Nat} {all : List ByteArray} {v : Value} {ss : List ByteArray} (h : Wd bw all v ss) {w : World} : (Builtin.len_ #[50] 3 #[v]).run P w = .ok (.int .i64 ss.length) w := by
  obtain ⟨o, c, rfl, _⟩ := h
  exact run_lenS
theorem Wd.idx0 {bw : Nat} {all : List ByteArray} {v : Value} {s : ByteArray} {ss : List ByteArray} (h : Wd bw all v (s :: ss)) : ∃ o, all[o]? = some s ∧ ∀ w, (Instr.indexAt 50 v (.int .i64 0)).run P w = .ok (.pointer (some ⟨bw, o, none⟩)) w := by
  obtain ⟨o, c, rfl, hc, ha⟩ := h
  refine ⟨o, ha 0 (by simp), fun w => ?_⟩
  have := run_idx (P := P) (w := w) (t := 50) (b := bw) (o := o) (n := (s :: ss).length) (c := c) (i := 0) (by omega) (by simp)
  rw [this]
  simp
theorem Wd.tail {bw : Nat} {all : List ByteArray} {v : Value} {s : ByteArray} {ss : List ByteArray} (h : Wd bw all v (s :: ss)) : ∃ v', Wd bw all v' ss ∧ ∀ w, (Instr.sliceAt 50 v (some (.int .i64 1)) none none).run P w = .ok v' w := by
  obtain ⟨o, c, rfl, hc, ha⟩ := h
  have hc : ss.length + 1 ≤ c := hc
  refine ⟨_, ?_, fun w => run_slice (P := P) (w := w) (t := 50) (x := some ⟨bw, o, none⟩) (n := (s :: ss).length) (c := c) (lo := some (.int .i64 (1 : Nat))) (hi := none) (a := 1) (b := (s :: ss).length) (.inl rfl) (.inr ⟨rfl, rfl⟩) (by simp) hc⟩
  by_cases hc1 : c = 1
  · subst hc1
    have : ss = [] := List.eq_nil_of_length_eq_zero (by omega)
    subst this
    exact ⟨o, 0, rfl, Nat.le_refl _, fun j h => by simp at h⟩
  · rw [if_neg hc1]
    refine ⟨o + 1, c - 1, ?_, by omega, fun j h => ?_⟩
    · simp only [Option.map_some, add_blk, Nat.one_mul, List.length_cons, Nat.add_sub_cancel]
    · have := ha (j + 1) (by simp; omega)
      rw [show o + 1 + j = o + (j + 1) by omega]
      simpa using this
theorem strsObj_get {all : List ByteArray} {o : Nat} {s : ByteArray} (h : all[o]? = some s) : (all.map Value.string).toArray[o]? = some (.string s) := by simp [h]
theorem take_try {w0 w : World} {L : List (Nat × Obj)} {b5 bw i : Nat} {fz : Nat × Nat} {v : Value} {all ss : List ByteArray} (hfz : open_ fz 0) (H : Has w0 w ((b5, .cells #[v] 50 fz) :: L)) (hi : L[i]? = some (bw, strsObj all)) (hw : Wd bw all v ss) :
    Try 54 #[.pointer (some ⟨b5, 0, none⟩)] w (fun r w' => ∃ s rest v', ss = s :: rest ∧ r = .string s ∧ Wd bw all v' rest ∧ Has w0 w' ((b5, .cells #[v'] 50 fz) :: L)) (fun c w' => c = 192 ∧ ss = [] ∧ w' = w) := by
  refine f54.calls ?_
  unfold f54.f
  refine ⟨fun w' => w' = w ∧ ss ≠ [], ?_, ?_⟩
  case refine_2 =>
    refine Do.ld H 0 rfl rfl (Do.ok hw.len (Do.dec run_eqi (fun h => If.t (CallF.fail ⟨192, rfl, rfl, ?_, rfl⟩)) (fun h => If.f ⟨rfl, ?_⟩)))
    · exact List.eq_nil_of_length_eq_zero (by omega)
    · rintro rfl; exact h rfl
  rintro σ w1 ⟨rfl, hne⟩
  obtain ⟨s, rest, rfl⟩ := List.exists_cons_of_ne_nil hne
  unfold f54.j0
  obtain ⟨o, ho, hidx⟩ := hw.idx0
  obtain ⟨v', hw', hsl⟩ := hw.tail
  refine Do.ld H 0 rfl rfl (Do.ok (hidx _) (Do.ld H (i + 1) hi (strsObj_get ho) (Do.ld H 0 rfl rfl (Do.ok (hsl _) ?_))))
  refine DoU.st H 0 rfl hw'.one.1 hw'.one.2 (by simp) hfz ?_
  intro w2 H2
  exact ⟨s, rest, v', rfl, rfl, hw', H2⟩
end Go.Proofs.YtdnnamaimgijpaaDoor
