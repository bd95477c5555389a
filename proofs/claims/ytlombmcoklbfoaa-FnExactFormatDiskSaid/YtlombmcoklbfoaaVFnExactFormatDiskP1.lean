/- What the functions of FnExactFormatDisk answer. No condition. -/
import Derived.Test.YtlombmcoklbfoaaVFacts
namespace Go.Proofs.Ytlombmcoklbfoaa.V
open Go
set_option maxRecDepth 100000
set_option linter.unusedVariables false
set_option linter.unusedSectionVars false
set_option linter.unusedSimpArgs false
set_option maxHeartbeats 2000000
noncomputable section
abbrev LL := List (List TC)
abbrev BS := List UInt8
theorem sp {α β : Type} {a b : α} {c d : β} (h : some (a, c) = some (b, d)) : a = b ∧ c = d := by cases h; exact ⟨rfl, rfl⟩
theorem repL_one (b : UInt8) : ∀ n, Lib.repeatL [b] n = List.replicate n b
  | 0 => rfl
  | n + 1 => by rw [Lib.repeatL, repL_one b n]; rfl
def padL (s : BS) (n : Nat) : BS := s ++ List.replicate (n - s.length) 0
theorem padL_len {s : BS} {n : Nat} (h : s.length ≤ n) : (padL s n).length = n := by
  unfold padL
  rw [List.length_append, List.length_replicate]
  omega
theorem zeros_of {k : Nat} : (List.replicate k [TC.i (0 : Int)]).map byteOf = List.replicate k 0 := by
  rw [List.map_replicate]
  rfl
def zeroB (z : BS) (n : Nat) : LL := List.replicate n [TC.s z]
def superOk (bl lg : Int) : Bool := decide (16 ≤ bl) && decide (bl ≤ 256) && decide (8 ≤ lg) && decide (lg ≤ 64) && decide (lg ≤ bl - 4)
def superB (bl lg : Int) : BS := padL ([65, 82, 82, 83] ++ bytesL 1 1 ++ bytesL bl 2 ++ bytesL lg 2 ++ bytesL 0 8 ++ bytesL 0 8) 32 ++ padL ([65, 82, 82, 83] ++ bytesL 1 1 ++ bytesL bl 2 ++ bytesL lg 2 ++ bytesL 0 8 ++ bytesL 0 8) 32
def fmtB (bl lg : Int) : LL := (zeroB (List.replicate 64 0) bl.toNat).set 0 [TC.s (superB bl lg)]
def fmtV (bl lg : Int) : LL × Int × Int := bif superOk bl lg then (fmtB bl lg, (-1 : Int), (0 : Int)) else ([], (0 : Int), (2 : Int))
theorem superOk_i {bl lg : Int} (h : superOk bl lg = true) : 16 ≤ bl ∧ bl ≤ 256 ∧ 8 ≤ lg ∧ lg ≤ 64 ∧ lg ≤ bl - 4 := by
  unfold superOk at h
  simp only [Bool.and_eq_true, decide_eq_true_eq] at h
  omega
theorem zeroB_splice {z s : BS} {n : Nat} (h : 0 < n) : splice (row (zeroB z n) (0 : Int)) 0 [TC.s s] = [TC.s s] := by
  unfold zeroB
  rw [show row (List.replicate n [TC.s z]) (0 : Int) = (List.replicate n [TC.s z]).getD 0 [] from rfl, List.getD_eq_getElem?_getD, List.getElem?_eq_getElem (by rw [List.length_replicate]; exact h), List.getElem_replicate]
  rfl
theorem fmtB_mem {bl lg : Int} {x : List TC} (hx : x ∈ fmtB bl lg) : x = [TC.s (superB bl lg)] ∨ x = [TC.s (List.replicate 64 0)] := by
  unfold fmtB zeroB at hx
  rcases List.mem_or_eq_of_mem_set hx with h | h
  · exact .inr (List.eq_of_mem_replicate h)
  · exact .inl h
theorem superB_len {bl lg : Int} : (superB bl lg).length = 64 := by
  unfold superB
  rw [List.length_append, padL_len (by simp only [List.length_append, bytesL_len]; decide)]
theorem fmtV_ty {bl lg : Int} : (fmtV bl lg).1.length ≤ 256 ∧ Typed tab (.slice 9) (.l (fmtV bl lg).1) := by
  unfold fmtV
  cases h : superOk bl lg with
  | false => exact ⟨Nat.zero_le _, typed_none⟩
  | true =>
    have hs := superOk_i h
    have hl : (fmtB bl lg).length = bl.toNat := by unfold fmtB zeroB; rw [List.length_set, List.length_replicate]
    have hx : ∀ x, x ∈ fmtB bl lg → ∃ s : BS, x = [TC.s s] ∧ s.length = 64 := fun x hx => (fmtB_mem hx).elim (fun e => ⟨_, e, superB_len⟩) fun e => ⟨_, e, by simp⟩
    refine ⟨by show (fmtB bl lg).length ≤ 256; omega, .slice _ _ (by show (fmtB bl lg).length * 16 ≤ 140737488351232; omega) (by show (fmtB bl lg).length ≤ 9223372036854775807; omega) (fun x hm => ?_) (fun x hm k hk => ?_)⟩
    · obtain ⟨s, rfl, -⟩ := hx x hm; rfl
    · obtain ⟨s, rfl, h64⟩ := hx x hm
      have : k = 0 := by have : k < 1 := hk; omega
      subst this
      exact .str s (by show s.length ≤ 140737488351232; omega)
theorem cut_region {ρ : Type} {T : Tab} {nt : Nat} {D : Dt} {live lo} {q q1 : Code} {i ops d} {σ : St} {K : Ex → St → Option ρ} (hq : q = .seq (.region i ops d) q1) :
    runT T nt D live lo q σ K = runRegion T nt D ops.toList d σ fun σ' => runT T nt D live lo q1 σ' K := by subst hq; rfl
def cycS (S : LL) (n : Nat) : LL := (List.range S.length).map fun p => S.getD (p % n) []
theorem cycS_len {S : LL} {n : Nat} : (cycS S n).length = S.length := by simp [cycS]
theorem cycS_at {S : LL} {n p : Nat} (h : p < S.length) : (cycS S n).getD p [] = S.getD (p % n) [] := by
  rw [List.getD_eq_getElem?_getD, List.getElem?_eq_getElem (by rw [cycS_len]; exact h)]
  simp [cycS]
theorem flat_at {A : LL} {k p : Nat} (hp : p < A.length * k) : (List.replicate k A).flatten.getD p [] = A.getD (p % A.length) [] := by
  induction k generalizing p with
  | zero => simp at hp
  | succ k ih =>
    rw [List.replicate_succ, List.flatten_cons]
    rcases Nat.lt_or_ge p A.length with h | h
    · rw [List.getD_eq_getElem?_getD, List.getElem?_append_left h, ← List.getD_eq_getElem?_getD, Nat.mod_eq_of_lt h]
    · rw [List.getD_eq_getElem?_getD, List.getElem?_append_right h, ← List.getD_eq_getElem?_getD, ih (by rw [Nat.mul_succ] at hp; omega), Nat.mod_eq_sub_mod h]
theorem list_ext {A B : LL} (h1 : A.length = B.length) (h2 : ∀ p, p < A.length → A.getD p [] = B.getD p []) : A = B := by
  refine List.ext_getElem h1 fun p ha hb => ?_
  have := h2 p ha
  rwa [List.getD_eq_getElem?_getD, List.getD_eq_getElem?_getD, List.getElem?_eq_getElem ha, List.getElem?_eq_getElem hb] at this
theorem and_mask {x : Int} (h0 : 0 ≤ x) (h1 : x < 4294967296) : bits .u64 (fun a b => a &&& b) x (4294967295 : Int) = x := by
  obtain ⟨n, rfl⟩ := Int.eq_ofNat_of_zero_le h0
  unfold bits
  have e1 : (BitVec.ofInt IntKind.u64.bits (n : Int)).toNat = n := by
    rw [BitVec.toNat_ofInt]
    show ((n : Int) % ((2 ^ 64 : Nat) : Int)).toNat = n
    omega
  have e2 : (BitVec.ofInt IntKind.u64.bits (4294967295 : Int)).toNat = 4294967295 := rfl
  rw [BitVec.toNat_and, e1, e2, show (4294967295 : Nat) = 2 ^ 32 - 1 from rfl, Nat.and_two_pow_sub_one_eq_mod, Nat.mod_eq_of_lt (by omega), IntKind.wrap_u64]
  omega
def digT (k : Int) : BS := [[TC.i (IntKind.wrap .u8 (IntKind.wrap .i64 ((48 : Int) + (Int.tmod k (10 : Int)))))]].map byteOf
theorem digT_len (k : Int) : (digT k).length ≤ 1 := Nat.le_refl 1
def qbd_t (a0 a1 a2 : Int) : Tr (Bool) := (.ite ((decide (a0 ≥ a1)) = true) (.ok (decide (a0 ≤ a2)))
  (.ok false))
def qbd_mk (p : Bool) : Res := [(false, [⟨.bool, .sh, TC.b p⟩])]
def qbd_c (a0 a1 a2 : Int) : Bool := true
def qbd_v (a0 a1 a2 : Int) : Bool := (bif (decide (a0 ≥ a1)) then (decide (a0 ≤ a2)) else false)
theorem qbd_l (a0 a1 a2 : Int) : (qbd_c a0 a1 a2) = true → (qbd_t a0 a1 a2).val = some (qbd_v a0 a1 a2) := by
  intro h
  skip
  unfold qbd_t qbd_v
  exact (Tr.s rfl rfl)
def qbd_S : List Arg → Option (Bool × Res) := fun xs => match xs with
  | [(false, [(.int .i64, TC.i a0)]), (false, [(.int .i64, TC.i a1)]), (false, [(.int .i64, TC.i a2)])] => some (true, qbd_mk (qbd_v a0 a1 a2))
  | _ => .none
theorem qbd_e (a0 a1 a2 : Int) : runF tab FT D0 live 20 noLoops [(false, [(.int .i64, TC.i a0)]), (false, [(.int .i64, TC.i a1)]), (false, [(.int .i64, TC.i a2)])] = (qbd_t a0 a1 a2).run fun p => some (qbd_mk p) := by kernel_rfl
theorem qbd_s : ∀ xs r, qbd_S xs = some (true, r) → runF tab FT D0 live 20 noLoops xs = some r := by
  intro xs r h
  unfold qbd_S at h
  split at h
  · obtain ⟨h1, rfl⟩ := sp h
    exact fun_told (qbd_e ..) (qbd_l _ _ _) rfl
  · cases h
def D1 : Dt := also D0 20 qbd_S
theorem d1 : DOk Go.Proofs.Try.prog tab D1 := d0.also mixed_ok tab_ok names_ok noLoops_ok qbd_s
def qx_t (a0 a1 a2 a3 : Int) : Tr (Bool) := (.ite ((qbd_v a0 (16 : Int) (256 : Int)) = true) (.ite ((qbd_v a1 (8 : Int) (64 : Int)) = true) (.ite ((decide (a1 ≤ (IntKind.wrap .i64 (a0 - (4 : Int))))) = true) (.ite ((qbd_v a2 (0 : Int) (1000000000000 : Int)) = true) (.ok (qbd_v a3 (0 : Int) (1000000000000 : Int)))
     (.ok false))
    (.ok false))
   (.ok false))
  (.ok false))
def qx_mk (p : Bool) : Res := [(false, [⟨.bool, .sh, TC.b p⟩])]
def qx_c (a0 a1 a2 a3 : Int) : Bool := true
def qx_v (a0 a1 a2 a3 : Int) : Bool := (bif (qbd_v a0 (16 : Int) (256 : Int)) then (bif (qbd_v a1 (8 : Int) (64 : Int)) then (bif (decide (a1 ≤ (IntKind.wrap .i64 (a0 - (4 : Int))))) then (bif (qbd_v a2 (0 : Int) (1000000000000 : Int)) then (qbd_v a3 (0 : Int) (1000000000000 : Int)) else false) else false) else false) else false)
theorem qx_l (a0 a1 a2 a3 : Int) : (qx_c a0 a1 a2 a3) = true → (qx_t a0 a1 a2 a3).val = some (qx_v a0 a1 a2 a3) := by
  intro h
  skip
  unfold qx_t qx_v
  exact (Tr.s (Tr.s (Tr.s (Tr.s rfl rfl) rfl) rfl) rfl)
def qx_S : List Arg → Option (Bool × Res) := fun xs => match xs with
  | [(true, [(.int .i64, TC.i a0), (.int .i64, TC.i a1), (.int .i64, TC.i a2), (.int .i64, TC.i a3)])] => some (true, qx_mk (qx_v a0 a1 a2 a3))
  | _ => .none
theorem qx_e (a0 a1 a2 a3 : Int) : runF tab FT D1 live 9 noLoops [(true, [(.int .i64, TC.i a0), (.int .i64, TC.i a1), (.int .i64, TC.i a2), (.int .i64, TC.i a3)])] = (qx_t a0 a1 a2 a3).run fun p => some (qx_mk p) := by kernel_rfl
theorem qx_s : ∀ xs r, qx_S xs = some (true, r) → runF tab FT D1 live 9 noLoops xs = some r := by
  intro xs r h
  unfold qx_S at h
  split at h
  · obtain ⟨h1, rfl⟩ := sp h
    exact fun_told (qx_e ..) (qx_l _ _ _ _) rfl
  · cases h
def D2 : Dt := also D1 9 qx_S
theorem d2 : DOk Go.Proofs.Try.prog tab D2 := d1.also mixed_ok tab_ok names_ok noLoops_ok qx_s
def qv_t : Tr (BS) := .ok ([[TC.i (0 : Int)], [TC.i (0 : Int)], [TC.i (0 : Int)], [TC.i (0 : Int)], [TC.i (0 : Int)], [TC.i (0 : Int)], [TC.i (0 : Int)], [TC.i (0 : Int)], [TC.i (0 : Int)], [TC.i (0 : Int)], [TC.i (0 : Int)], [TC.i (0 : Int)], [TC.i (0 : Int)], [TC.i (0 : Int)], [TC.i (0 : Int)], [TC.i (0 : Int)], [TC.i (0 : Int)], [TC.i (0 : Int)], [TC.i (0 : Int)], [TC.i (0 : Int)], [TC.i (0 : Int)], [TC.i (0 : Int)], [TC.i (0 : Int)], [TC.i (0 : Int)], [TC.i (0 : Int)], [TC.i (0 : Int)], [TC.i (0 : Int)], [TC.i (0 : Int)], [TC.i (0 : Int)], [TC.i (0 : Int)], [TC.i (0 : Int)], [TC.i (0 : Int)], [TC.i (0 : Int)], [TC.i (0 : Int)], [TC.i (0 : Int)], [TC.i (0 : Int)], [TC.i (0 : Int)], [TC.i (0 : Int)], [TC.i (0 : Int)], [TC.i (0 : Int)], [TC.i (0 : Int)], [TC.i (0 : Int)], [TC.i (0 : Int)], [TC.i (0 : Int)], [TC.i (0 : Int)], [TC.i (0 : Int)], [TC.i (0 : Int)], [TC.i (0 : Int)], [TC.i (0 : Int)], [TC.i (0 : Int)], [TC.i (0 : Int)], [TC.i (0 : Int)], [TC.i (0 : Int)], [TC.i (0 : Int)], [TC.i (0 : Int)], [TC.i (0 : Int)], [TC.i (0 : Int)], [TC.i (0 : Int)], [TC.i (0 : Int)], [TC.i (0 : Int)], [TC.i (0 : Int)], [TC.i (0 : Int)], [TC.i (0 : Int)], [TC.i (0 : Int)]].map byteOf)
def qv_mk (p : BS) : Res := [(false, [⟨.str, .sh, TC.s p⟩])]
def qv_c : Bool := true
def qv_v : BS := hid (List.replicate 64 0)
theorem qv_l : qv_c = true → qv_t.val = some qv_v := by
  intro _
  unfold qv_t qv_v
  rw [hid_eq]
  rfl
def qv_S : List Arg → Option (Bool × Res) := fun xs => match xs with
  | [] => some (true, qv_mk qv_v)
  | _ => .none
theorem qv_e : runF tab FT D2 live 30 noLoops [] = qv_t.run fun p => some (qv_mk p) := by kernel_rfl
theorem qv_s : ∀ xs r, qv_S xs = some (true, r) → runF tab FT D2 live 30 noLoops xs = some r := by
  intro xs r h
  unfold qv_S at h
  split at h
  · obtain ⟨h1, rfl⟩ := sp h
    exact fun_told (qv_e ) (qv_l ) rfl
  · cases h
def D3 : Dt := also D2 30 qv_S
theorem d3 : DOk Go.Proofs.Try.prog tab D3 := d2.also mixed_ok tab_ok names_ok noLoops_ok qv_s
theorem qv_h : qv_v = List.replicate 64 0 := hid_eq _
abbrev qk_3_σ := Int × LL × LL × Int × Bool × LL × LL × Int × Bool × Int
abbrev qk_3_ω := (LL × LL × Int × Bool × LL × LL × Int × Bool)
def qk_3_step (n : Int) (a1 a2 : LL) (a3 : Int) (a4 : Bool) (X b2 : LL) (b3 : Int) (b4 : Bool) (i : Int) : Tr (qk_3_σ ⊕ qk_3_ω) := (.ite ((decide (i < n)) = true) (.ite (roomFor (tab 9) (X ++ [[TC.s qv_v]]).length) (.ok (.inl (n, a1, a2, a3, a4, (X ++ [[TC.s qv_v]]), b2, b3, b4, (IntKind.wrap .i64 (i + (1 : Int))))))
   .no)
  (.ok (.inr (a1, a2, a3, a4, X, b2, b3, b4))))
def qk_3_st : qk_3_σ → Tr (qk_3_σ ⊕ qk_3_ω) := fun x => (qk_3_step (x.1) (x.2.1) (x.2.2.1) (x.2.2.2.1) (x.2.2.2.2.1) (x.2.2.2.2.2.1) (x.2.2.2.2.2.2.1) (x.2.2.2.2.2.2.2.1) (x.2.2.2.2.2.2.2.2.1) (x.2.2.2.2.2.2.2.2.2))
def qk_o3_1 (n : Int) (a1 a2 : LL) (a3 : Int) (a4 : Bool) (X b2 : LL) (b3 : Int) (b4 : Bool) (i : Int) : Bool := is (X = [] ∧ i = 0 ∧ 0 ≤ n ∧ n ≤ 100000)
def qk_u3_1_4 (n : Int) (a1 a2 : LL) (a3 : Int) (a4 : Bool) (X b2 : LL) (b3 : Int) (b4 : Bool) (i : Int) : LL := zeroB qv_v n.toNat
def qk_3_fin (n : Int) (a1 a2 : LL) (a3 : Int) (a4 : Bool) (X b2 : LL) (b3 : Int) (b4 : Bool) (i : Int) : Told qk_3_ω := (.leaf (qk_o3_1 n a1 a2 a3 a4 X b2 b3 b4 i) (a1, a2, a3, a4, (qk_u3_1_4 n a1 a2 a3 a4 X b2 b3 b4 i), b2, b3, b4))
def qk_3_sl (x : qk_3_σ) : List Slot := [⟨.val false [⟨.int .i64, .sh, TC.i (x.1)⟩], ⟨0, 0⟩⟩, ⟨.bx 25 [⟨.slice 9, .own true, TC.l (x.2.1)⟩, ⟨.slice 50, .own true, TC.l (x.2.2.1)⟩, ⟨.int .i64, .own true, TC.i (x.2.2.2.1)⟩, ⟨.bool, .own true, TC.b (x.2.2.2.2.1)⟩], ⟨0, 0⟩⟩, ⟨.bx 25 [⟨.slice 9, .own true, TC.l (x.2.2.2.2.2.1)⟩, ⟨.slice 50, .own true, TC.l (x.2.2.2.2.2.2.1)⟩, ⟨.int .i64, .sh, TC.i (x.2.2.2.2.2.2.2.1)⟩, ⟨.bool, .own true, TC.b (x.2.2.2.2.2.2.2.2.1)⟩], ⟨0, 0⟩⟩, ⟨.val false [⟨.int .i64, .sh, TC.i (x.2.2.2.2.2.2.2.2.2)⟩], ⟨0, 0⟩⟩]
def qk_3_out : qk_3_ω → Ex × List Slot := (fun x => (.exit 0, [⟨.bx 25 [⟨.slice 9, .own true, TC.l (x.1)⟩, ⟨.slice 50, .own true, TC.l (x.2.1)⟩, ⟨.int .i64, .own true, TC.i (x.2.2.1)⟩, ⟨.bool, .own true, TC.b (x.2.2.2.1)⟩], ⟨0, 0⟩⟩, ⟨.bx 25 [⟨.slice 9, .own true, TC.l (x.2.2.2.2.1)⟩, ⟨.slice 50, .own true, TC.l (x.2.2.2.2.2.1)⟩, ⟨.int .i64, .sh, TC.i (x.2.2.2.2.2.2.1)⟩, ⟨.bool, .own true, TC.b (x.2.2.2.2.2.2.2)⟩], ⟨0, 0⟩⟩]))
def qk_lo3 : List Slot → Option (Told (Ex × List Slot)) := fun s => match s with
  | [⟨.val false [⟨.int .i64, .sh, TC.i n⟩], ⟨0, 0⟩⟩, ⟨.bx 25 [⟨.slice 9, .own true, TC.l a1⟩, ⟨.slice 50, .own true, TC.l a2⟩, ⟨.int .i64, .own true, TC.i a3⟩, ⟨.bool, .own true, TC.b a4⟩], ⟨0, 0⟩⟩, ⟨.bx 25 [⟨.slice 9, .own true, TC.l X⟩, ⟨.slice 50, .own true, TC.l b2⟩, ⟨.int .i64, .sh, TC.i b3⟩, ⟨.bool, .own true, TC.b b4⟩], ⟨0, 0⟩⟩, ⟨.val false [⟨.int .i64, .sh, TC.i i⟩], ⟨0, 0⟩⟩] => some (((qk_3_fin n a1 a2 a3 a4 X b2 b3 b4 i)).map qk_3_out)
  | _ => .none
def qk_lo : LoopTeller := fun r s => bif Nat.beq r 3 then qk_lo3 s else .none
theorem qk_3_r (n : Int) (a1 a2 : LL) (a3 : Int) (a4 : Bool) (X b2 : LL) (b3 : Int) (b4 : Bool) (i : Int) (fuel : Nat) : rounds (rnd tab FT D3 live 21 qk_lo 0 3) leave (fuel + 1) (qk_3_sl (n, a1, a2, a3, a4, X, b2, b3, b4, i)) = ((qk_3_step n a1 a2 a3 a4 X b2 b3 b4 i)).run (goOn (fun s => rounds (rnd tab FT D3 live 21 qk_lo 0 3) leave fuel (qk_3_sl s)) fun w => some (qk_3_out w)) := by kernel_rfl
theorem qk_3_h (n : Int) (a1 a2 : LL) (a3 : Int) (a4 : Bool) (X b2 : LL) (b3 : Int) (b4 : Bool) (i : Int) (ow : qk_3_ω) : ((qk_3_fin n a1 a2 a3 a4 X b2 b3 b4 i)).val = some ow → ∃ fuel, loopN qk_3_st fuel (n, a1, a2, a3, a4, X, b2, b3, b4, i) = some ow := by
  intro h
  refine auto_leaf (R := (a1, a2, a3, a4, zeroB qv_v n.toNat, b2, b3, b4)) (fun ho => ?_) h
  obtain ⟨rfl, rfl, h0, h1⟩ := is_iff.1 ho
  obtain ⟨m, rfl⟩ := Int.eq_ofNat_of_zero_le h0
  have key := loopN_run (step := qk_3_st) (N := m) (fun j => ((m : Int), a1, a2, a3, a4, zeroB qv_v j, b2, b3, b4, (j : Int))) (w := (a1, a2, a3, a4, zeroB qv_v m, b2, b3, b4)) (fun j hj => ?_) ?_ m 0 (by omega)
  · exact ⟨_, key⟩
  · show (qk_3_step (m : Int) a1 a2 a3 a4 (zeroB qv_v j) b2 b3 b4 (j : Int)).val = _
    unfold qk_3_step
    have hr : roomFor (tab 9) ((zeroB qv_v j) ++ [[TC.s qv_v]]).length := by
      unfold roomFor zeroB
      rw [List.length_append, List.length_replicate, show (tab 9).bytes = 16 from rfl]
      simp only [List.length_cons, List.length_nil]
      constructor <;> omega
    refine Tr.t (by simp; omega) (Tr.t hr ?_)
    rw [Tr.val_ok, wrap64 (i := (j : Int) + 1) (by omega) (by omega), show zeroB qv_v (j + 1) = zeroB qv_v j ++ [[TC.s qv_v]] from List.replicate_succ']
    rfl
  · show (qk_3_step (m : Int) a1 a2 a3 a4 (zeroB qv_v m) b2 b3 b4 (m : Int)).val = _
    unfold qk_3_step
    refine Tr.n (by simp) ?_
    rfl
theorem qk_is3 : LoopIs tab FT D3 live 21 qk_lo 0 3 := by
  refine loop_told (sl := qk_3_sl) (step := qk_3_st) (out := qk_3_out) (lor := qk_lo3) (fin := fun x => (qk_3_fin (x.1) (x.2.1) (x.2.2.1) (x.2.2.2.1) (x.2.2.2.2.1) (x.2.2.2.2.2.1) (x.2.2.2.2.2.2.1) (x.2.2.2.2.2.2.2.1) (x.2.2.2.2.2.2.2.2.1) (x.2.2.2.2.2.2.2.2.2))) (fun _ => rfl) ?_ (fun x n => qk_3_r x.1 x.2.1 x.2.2.1 x.2.2.2.1 x.2.2.2.2.1 x.2.2.2.2.2.1 x.2.2.2.2.2.2.1 x.2.2.2.2.2.2.2.1 x.2.2.2.2.2.2.2.2.1 x.2.2.2.2.2.2.2.2.2 n) (fun x ow => qk_3_h x.1 x.2.1 x.2.2.1 x.2.2.2.1 x.2.2.2.2.1 x.2.2.2.2.2.1 x.2.2.2.2.2.2.1 x.2.2.2.2.2.2.2.1 x.2.2.2.2.2.2.2.2.1 x.2.2.2.2.2.2.2.2.2 ow)
  intro s t h
  unfold qk_lo3 at h
  split at h
  · cases h; exact ⟨(_, _, _, _, _, _, _, _, _, _), rfl, rfl⟩
  · cases h
def qk_t (n : Int) : Tr (LL × LL × Int × Bool) := (.ite ((qk_o3_1 n [] [] (0 : Int) false [] [] (-1 : Int) false (0 : Int)) = true) (.ok ((qk_u3_1_4 n [] [] (0 : Int) false [] [] (-1 : Int) false (0 : Int)), [], (-1 : Int), false))
  .no)
def qk_mk (p : LL × LL × Int × Bool) : Res := [(true, [⟨.slice 9, .own true, TC.l (p.1)⟩, ⟨.slice 50, .own true, TC.l (p.2.1)⟩, ⟨.int .i64, .sh, TC.i (p.2.2.1)⟩, ⟨.bool, .sh, TC.b (p.2.2.2)⟩])]
def qk_c (n : Int) : Bool := ((qk_o3_1 n [] [] (0 : Int) false [] [] (-1 : Int) false (0 : Int)) && true)
def qk_v (n : Int) : LL × LL × Int × Bool := ((qk_u3_1_4 n [] [] (0 : Int) false [] [] (-1 : Int) false (0 : Int)), [], (-1 : Int), false)
theorem qk_l (n : Int) : (qk_c n) = true → (qk_t n).val = some (qk_v n) := by
  unfold qk_t qk_v qk_c
  exact fun h => (Tr.gb h fun h => rfl)
def qk_S : List Arg → Option (Bool × Res) := fun xs => match xs with
  | [(false, [(.int .i64, TC.i n)])] => some ((qk_c n), qk_mk (qk_v n))
  | _ => .none
theorem qk_e (n : Int) : runF tab FT D3 live 21 qk_lo [(false, [(.int .i64, TC.i n)])] = (qk_t n).run fun p => some (qk_mk p) := by kernel_rfl
theorem qk_s : ∀ xs r, qk_S xs = some (true, r) → runF tab FT D3 live 21 qk_lo xs = some r := by
  intro xs r h
  unfold qk_S at h
  split at h
  · obtain ⟨h1, rfl⟩ := sp h
    exact fun_told (qk_e _) (qk_l _) h1
  · cases h
def D4 : Dt := also D3 21 qk_S
theorem d4 : DOk Go.Proofs.Try.prog tab D4 := d3.also mixed_ok tab_ok names_ok (fnLoops_one (by kernel_rfl) qk_is3) qk_s
theorem qk_cc {n : Int} (h0 : 0 ≤ n) (h1 : n ≤ 100000) : (qk_c n) = true := by
  unfold qk_c
  refine andT (by exact is_true ⟨rfl, rfl, h0, h1⟩) ?_
  rfl
abbrev qd_3_σ := Int × Int × LL × Int
abbrev qd_3_ω := (LL)
def qd_3_step (n size : Int) (X : LL) (k : Int) : Tr (qd_3_σ ⊕ qd_3_ω) := (.ite ((decide (k < size)) = true) (.ite (0 ≤ (IntKind.wrap .u64 ((8 : Int) * (IntKind.wrap .u64 k)))) (.ite (roomFor (tab 5) (X ++ [[TC.i (IntKind.wrap .u8 (bits .i64 (fun a b => a &&& b) (Int.fdiv n (2 ^ (min ((IntKind.wrap .u64 ((8 : Int) * (IntKind.wrap .u64 k)))).toNat 64))) (255 : Int)))]]).length) (.ok (.inl (n, size, (X ++ [[TC.i (IntKind.wrap .u8 (bits .i64 (fun a b => a &&& b) (Int.fdiv n (2 ^ (min ((IntKind.wrap .u64 ((8 : Int) * (IntKind.wrap .u64 k)))).toNat 64))) (255 : Int)))]]), (IntKind.wrap .i64 (k + (1 : Int))))))
    .no)
   .no)
  (.ok (.inr X)))
def qd_3_st : qd_3_σ → Tr (qd_3_σ ⊕ qd_3_ω) := fun x => (qd_3_step (x.1) (x.2.1) (x.2.2.1) (x.2.2.2))
def qd_o3_1 (n size : Int) (X : LL) (k : Int) : Bool := is (∃ sz : Nat, size = (sz : Int) ∧ sz ≤ 8 ∧ X = [] ∧ k = 0)
def qd_u3_1 (n size : Int) (X : LL) (k : Int) : LL := bRows n size.toNat
def qd_3_fin (n size : Int) (X : LL) (k : Int) : Told qd_3_ω := (.leaf (qd_o3_1 n size X k) (qd_u3_1 n size X k))
def qd_3_sl (x : qd_3_σ) : List Slot := [⟨.val false [⟨.int .i64, .sh, TC.i (x.1)⟩], ⟨0, 0⟩⟩, ⟨.val false [⟨.int .i64, .sh, TC.i (x.2.1)⟩], ⟨0, 0⟩⟩, ⟨.val false [⟨.slice 5, .own true, TC.l (x.2.2.1)⟩], ⟨0, 0⟩⟩, ⟨.val false [⟨.int .i64, .sh, TC.i (x.2.2.2)⟩], ⟨0, 0⟩⟩]
def qd_3_out : qd_3_ω → Ex × List Slot := (fun x => (.exit 0, [Slot.none, ⟨.val false [⟨.slice 5, .own true, TC.l x⟩], ⟨0, 0⟩⟩]))
def qd_lo3 : List Slot → Option (Told (Ex × List Slot)) := fun s => match s with
  | [⟨.val false [⟨.int .i64, .sh, TC.i n⟩], ⟨0, 0⟩⟩, ⟨.val false [⟨.int .i64, .sh, TC.i size⟩], ⟨0, 0⟩⟩, ⟨.val false [⟨.slice 5, .own true, TC.l X⟩], ⟨0, 0⟩⟩, ⟨.val false [⟨.int .i64, .sh, TC.i k⟩], ⟨0, 0⟩⟩] => some (((qd_3_fin n size X k)).map qd_3_out)
  | _ => .none
def qd_lo : LoopTeller := fun r s => bif Nat.beq r 3 then qd_lo3 s else .none
theorem qd_3_r (n size : Int) (X : LL) (k : Int) (fuel : Nat) : rounds (rnd tab FT D4 live 31 qd_lo 0 3) leave (fuel + 1) (qd_3_sl (n, size, X, k)) = ((qd_3_step n size X k)).run (goOn (fun s => rounds (rnd tab FT D4 live 31 qd_lo 0 3) leave fuel (qd_3_sl s)) fun w => some (qd_3_out w)) := by kernel_rfl
theorem qd_3_h (n size : Int) (X : LL) (k : Int) (ow : qd_3_ω) : ((qd_3_fin n size X k)).val = some ow → ∃ fuel, loopN qd_3_st fuel (n, size, X, k) = some ow := by
  intro h
  refine auto_leaf (R := bRows n size.toNat) (fun ho => ?_) h
  obtain ⟨sz, rfl, h8, rfl, rfl⟩ := is_iff.1 ho
  refine ⟨sz + 1, loopN_run (step := qd_3_st) (N := sz) (fun j => (n, (sz : Int), bRows n j, (j : Int))) (fun j hj => ?_) ?_ sz 0 (by omega)⟩
  · show (qd_3_step n (sz : Int) (bRows n j) (j : Int)).val = _
    unfold qd_3_step
    rw [bAt_u64 (by omega), bRows_succ]
    refine Tr.t (by simp; omega) ?_
    refine Tr.t (by rw [IntKind.wrap_u64]; omega) ?_
    refine Tr.t (by unfold roomFor; simp only [show (tab 5).bytes = 1 from rfl, bRows_len]; omega) ?_
    rw [Tr.val_ok, wrap64 (i := (j : Int) + 1) (by omega) (by omega)]; rfl
  · show (qd_3_step n (sz : Int) (bRows n sz) (sz : Int)).val = _
    refine Tr.n (by simp) ?_
    rfl
theorem qd_is3 : LoopIs tab FT D4 live 31 qd_lo 0 3 := by
  refine loop_told (sl := qd_3_sl) (step := qd_3_st) (out := qd_3_out) (lor := qd_lo3) (fin := fun x => (qd_3_fin (x.1) (x.2.1) (x.2.2.1) (x.2.2.2))) (fun _ => rfl) ?_ (fun x n => qd_3_r x.1 x.2.1 x.2.2.1 x.2.2.2 n) (fun x ow => qd_3_h x.1 x.2.1 x.2.2.1 x.2.2.2 ow)
  intro s t h
  unfold qd_lo3 at h
  split at h
  · cases h; exact ⟨(_, _, _, _), rfl, rfl⟩
  · cases h
def qd_t (n size : Int) : Tr (BS) := (.ite ((qd_o3_1 n size [] (0 : Int)) = true) (.ok ((qd_u3_1 n size [] (0 : Int)).map byteOf))
  .no)
def qd_mk (p : BS) : Res := [(false, [⟨.str, .sh, TC.s p⟩])]
def qd_c (n size : Int) : Bool := is (∃ sz : Nat, size = (sz : Int) ∧ sz ≤ 8)
def qd_v (n size : Int) : BS := hid (bytesL n size.toNat)
theorem qd_l (n size : Int) : (qd_c n size) = true → (qd_t n size).val = some (qd_v n size) := by
  intro h
  obtain ⟨sz, rfl, h8⟩ := is_iff.1 h
  unfold qd_t
  refine Tr.t (is_true ⟨sz, rfl, h8, rfl, rfl⟩) ?_
  unfold qd_v
  rw [hid_eq]; rfl
def qd_S : List Arg → Option (Bool × Res) := fun xs => match xs with
  | [(false, [(.int .i64, TC.i n)]), (false, [(.int .i64, TC.i size)])] => some ((qd_c n size), qd_mk (qd_v n size))
  | _ => .none
theorem qd_e (n size : Int) : runF tab FT D4 live 31 qd_lo [(false, [(.int .i64, TC.i n)]), (false, [(.int .i64, TC.i size)])] = (qd_t n size).run fun p => some (qd_mk p) := by kernel_rfl
theorem qd_s : ∀ xs r, qd_S xs = some (true, r) → runF tab FT D4 live 31 qd_lo xs = some r := by
  intro xs r h
  unfold qd_S at h
  split at h
  · obtain ⟨h1, rfl⟩ := sp h
    exact fun_told (qd_e ..) (qd_l _ _) h1
  · cases h
def D5 : Dt := also D4 31 qd_S
theorem d5 : DOk Go.Proofs.Try.prog tab D5 := d4.also mixed_ok tab_ok names_ok (fnLoops_one (by kernel_rfl) qd_is3) qd_s
theorem qd_h {n size : Int} : qd_v n size = bytesL n size.toNat := hid_eq _
def qba_t (s : BS) (n : Int) : Tr (BS) := (.ite ((decide ((s.length : Int) ≥ n)) = true) (.ok s)
  (.ite (0 ≤ (IntKind.wrap .i64 (n - (s.length : Int))) ∧ (IntKind.wrap .i64 (n - (s.length : Int))) ≤ (IntKind.wrap .i64 (n - (s.length : Int))) ∧ (IntKind.wrap .i64 (n - (s.length : Int))) * 1 ≤ 140737488355328 ∧ (IntKind.wrap .i64 (n - (s.length : Int))) ≤ 140737488355328) (.ite (((s.length + ((List.replicate ((IntKind.wrap .i64 (n - (s.length : Int)))).toNat [TC.i (0 : Int)]).map byteOf).length : Nat) : Int) ≤ 9223372036854775807) (.ok (s ++ ((List.replicate ((IntKind.wrap .i64 (n - (s.length : Int)))).toNat [TC.i (0 : Int)]).map byteOf)))
    .no)
   .no))
def qba_mk (p : BS) : Res := [(false, [⟨.str, .sh, TC.s p⟩])]
def qba_c (s : BS) (n : Int) : Bool := is (∃ m : Nat, n = (m : Int) ∧ s.length ≤ m ∧ m ≤ 65536)
def qba_v (s : BS) (n : Int) : BS := hid (padL s n.toNat)
theorem qba_l (s : BS) (n : Int) : (qba_c s n) = true → (qba_t s n).val = some (qba_v s n) := by
  intro h
  obtain ⟨m, rfl, h0, h1⟩ := is_iff.1 h
  unfold qba_t qba_v
  have e : IntKind.wrap .i64 ((m : Int) - (s.length : Int)) = ((m - s.length : Nat) : Int) := by rw [wrap64 (by omega) (by omega)]; omega
  rw [hid_eq, e, zeros_of, Int.toNat_natCast, Int.toNat_natCast]
  by_cases hm : s.length = m
  · refine Tr.t (by simp; omega) ?_
    rw [Tr.val_ok]
    unfold padL
    rw [show m - s.length = 0 by omega, List.replicate_zero, List.append_nil]
  · refine Tr.n (by simp; omega) ?_
    refine Tr.t (by omega) ?_
    refine Tr.t (by rw [List.length_replicate]; omega) ?_
    rfl
def qba_S : List Arg → Option (Bool × Res) := fun xs => match xs with
  | [(false, [(.str, TC.s s)]), (false, [(.int .i64, TC.i n)])] => some ((qba_c s n), qba_mk (qba_v s n))
  | _ => .none
theorem qba_e (s : BS) (n : Int) : runF tab FT D5 live 32 noLoops [(false, [(.str, TC.s s)]), (false, [(.int .i64, TC.i n)])] = (qba_t s n).run fun p => some (qba_mk p) := by kernel_rfl
theorem qba_s : ∀ xs r, qba_S xs = some (true, r) → runF tab FT D5 live 32 noLoops xs = some r := by
  intro xs r h
  unfold qba_S at h
  split at h
  · obtain ⟨h1, rfl⟩ := sp h
    exact fun_told (qba_e ..) (qba_l _ _) h1
  · cases h
def D6 : Dt := also D5 32 qba_S
theorem d6 : DOk Go.Proofs.Try.prog tab D6 := d5.also mixed_ok tab_ok names_ok noLoops_ok qba_s
theorem qba_h {s : BS} {n : Int} : qba_v s n = padL s n.toNat := hid_eq _
theorem qd_l1 {n : Int} : (qd_v n (1 : Int)).length = 1 := by rw [qd_h]; exact bytesL_len
theorem qd_l2 {n : Int} : (qd_v n (2 : Int)).length = 2 := by rw [qd_h]; exact bytesL_len
theorem qd_l8 {n : Int} : (qd_v n (8 : Int)).length = 8 := by rw [qd_h]; exact bytesL_len
def qq_t (bl lg sq tn : Int) : Tr (BS) := (.ite ((qd_c (1 : Int) (1 : Int)) = true) (.ite ((([65, 82, 82, 83].length + (qd_v (1 : Int) (1 : Int)).length : Nat) : Int) ≤ 9223372036854775807) (.ite ((qd_c bl (2 : Int)) = true) (.ite (((([65, 82, 82, 83] ++ (qd_v (1 : Int) (1 : Int))).length + (qd_v bl (2 : Int)).length : Nat) : Int) ≤ 9223372036854775807) (.ite ((qd_c lg (2 : Int)) = true) (.ite ((((([65, 82, 82, 83] ++ (qd_v (1 : Int) (1 : Int))) ++ (qd_v bl (2 : Int))).length + (qd_v lg (2 : Int)).length : Nat) : Int) ≤ 9223372036854775807) (.ite ((qd_c sq (8 : Int)) = true) (.ite (((((([65, 82, 82, 83] ++ (qd_v (1 : Int) (1 : Int))) ++ (qd_v bl (2 : Int))) ++ (qd_v lg (2 : Int))).length + (qd_v sq (8 : Int)).length : Nat) : Int) ≤ 9223372036854775807) (.ite ((qd_c tn (8 : Int)) = true) (.ite ((((((([65, 82, 82, 83] ++ (qd_v (1 : Int) (1 : Int))) ++ (qd_v bl (2 : Int))) ++ (qd_v lg (2 : Int))) ++ (qd_v sq (8 : Int))).length + (qd_v tn (8 : Int)).length : Nat) : Int) ≤ 9223372036854775807) (.ite ((qba_c ((((([65, 82, 82, 83] ++ (qd_v (1 : Int) (1 : Int))) ++ (qd_v bl (2 : Int))) ++ (qd_v lg (2 : Int))) ++ (qd_v sq (8 : Int))) ++ (qd_v tn (8 : Int))) (32 : Int)) = true) (.ite ((((qba_v ((((([65, 82, 82, 83] ++ (qd_v (1 : Int) (1 : Int))) ++ (qd_v bl (2 : Int))) ++ (qd_v lg (2 : Int))) ++ (qd_v sq (8 : Int))) ++ (qd_v tn (8 : Int))) (32 : Int)).length + (qba_v ((((([65, 82, 82, 83] ++ (qd_v (1 : Int) (1 : Int))) ++ (qd_v bl (2 : Int))) ++ (qd_v lg (2 : Int))) ++ (qd_v sq (8 : Int))) ++ (qd_v tn (8 : Int))) (32 : Int)).length : Nat) : Int) ≤ 9223372036854775807) (.ok ((qba_v ((((([65, 82, 82, 83] ++ (qd_v (1 : Int) (1 : Int))) ++ (qd_v bl (2 : Int))) ++ (qd_v lg (2 : Int))) ++ (qd_v sq (8 : Int))) ++ (qd_v tn (8 : Int))) (32 : Int)) ++ (qba_v ((((([65, 82, 82, 83] ++ (qd_v (1 : Int) (1 : Int))) ++ (qd_v bl (2 : Int))) ++ (qd_v lg (2 : Int))) ++ (qd_v sq (8 : Int))) ++ (qd_v tn (8 : Int))) (32 : Int))))
             .no)
            .no)
           .no)
          .no)
         .no)
        .no)
       .no)
      .no)
     .no)
    .no)
   .no)
  .no)
def qq_mk (p : BS) : Res := [(false, [⟨.str, .sh, TC.s p⟩])]
def qq_c (bl lg sq tn : Int) : Bool := ((qd_c (1 : Int) (1 : Int)) && (is ((([65, 82, 82, 83].length + (qd_v (1 : Int) (1 : Int)).length : Nat) : Int) ≤ 9223372036854775807) && ((qd_c bl (2 : Int)) && (is (((([65, 82, 82, 83] ++ (qd_v (1 : Int) (1 : Int))).length + (qd_v bl (2 : Int)).length : Nat) : Int) ≤ 9223372036854775807) && ((qd_c lg (2 : Int)) && (is ((((([65, 82, 82, 83] ++ (qd_v (1 : Int) (1 : Int))) ++ (qd_v bl (2 : Int))).length + (qd_v lg (2 : Int)).length : Nat) : Int) ≤ 9223372036854775807) && ((qd_c sq (8 : Int)) && (is (((((([65, 82, 82, 83] ++ (qd_v (1 : Int) (1 : Int))) ++ (qd_v bl (2 : Int))) ++ (qd_v lg (2 : Int))).length + (qd_v sq (8 : Int)).length : Nat) : Int) ≤ 9223372036854775807) && ((qd_c tn (8 : Int)) && (is ((((((([65, 82, 82, 83] ++ (qd_v (1 : Int) (1 : Int))) ++ (qd_v bl (2 : Int))) ++ (qd_v lg (2 : Int))) ++ (qd_v sq (8 : Int))).length + (qd_v tn (8 : Int)).length : Nat) : Int) ≤ 9223372036854775807) && ((qba_c ((((([65, 82, 82, 83] ++ (qd_v (1 : Int) (1 : Int))) ++ (qd_v bl (2 : Int))) ++ (qd_v lg (2 : Int))) ++ (qd_v sq (8 : Int))) ++ (qd_v tn (8 : Int))) (32 : Int)) && (is ((((qba_v ((((([65, 82, 82, 83] ++ (qd_v (1 : Int) (1 : Int))) ++ (qd_v bl (2 : Int))) ++ (qd_v lg (2 : Int))) ++ (qd_v sq (8 : Int))) ++ (qd_v tn (8 : Int))) (32 : Int)).length + (qba_v ((((([65, 82, 82, 83] ++ (qd_v (1 : Int) (1 : Int))) ++ (qd_v bl (2 : Int))) ++ (qd_v lg (2 : Int))) ++ (qd_v sq (8 : Int))) ++ (qd_v tn (8 : Int))) (32 : Int)).length : Nat) : Int) ≤ 9223372036854775807) && true))))))))))))
def qq_v (bl lg sq tn : Int) : BS := hid (((qba_v ((((([65, 82, 82, 83] ++ (qd_v (1 : Int) (1 : Int))) ++ (qd_v bl (2 : Int))) ++ (qd_v lg (2 : Int))) ++ (qd_v sq (8 : Int))) ++ (qd_v tn (8 : Int))) (32 : Int)) ++ (qba_v ((((([65, 82, 82, 83] ++ (qd_v (1 : Int) (1 : Int))) ++ (qd_v bl (2 : Int))) ++ (qd_v lg (2 : Int))) ++ (qd_v sq (8 : Int))) ++ (qd_v tn (8 : Int))) (32 : Int))))
theorem qq_l (bl lg sq tn : Int) : (qq_c bl lg sq tn) = true → (qq_t bl lg sq tn).val = some (qq_v bl lg sq tn) := by
  unfold qq_t qq_v qq_c
  rw [hid_eq]
  exact fun h => (Tr.gb h fun h => (Tr.gs h fun h => (Tr.gb h fun h => (Tr.gs h fun h => (Tr.gb h fun h => (Tr.gs h fun h => (Tr.gb h fun h => (Tr.gs h fun h => (Tr.gb h fun h => (Tr.gs h fun h => (Tr.gb h fun h => (Tr.gs h fun h => rfl))))))))))))
def qq_S : List Arg → Option (Bool × Res) := fun xs => match xs with
  | [(true, [(.int .i64, TC.i bl), (.int .i64, TC.i lg), (.int .i64, TC.i sq), (.int .i64, TC.i tn)])] => some ((qq_c bl lg sq tn), qq_mk (qq_v bl lg sq tn))
  | _ => .none
theorem qq_e (bl lg sq tn : Int) : runF tab FT D6 live 22 noLoops [(true, [(.int .i64, TC.i bl), (.int .i64, TC.i lg), (.int .i64, TC.i sq), (.int .i64, TC.i tn)])] = (qq_t bl lg sq tn).run fun p => some (qq_mk p) := by kernel_rfl
theorem qq_s : ∀ xs r, qq_S xs = some (true, r) → runF tab FT D6 live 22 noLoops xs = some r := by
  intro xs r h
  unfold qq_S at h
  split at h
  · obtain ⟨h1, rfl⟩ := sp h
    exact fun_told (qq_e ..) (qq_l _ _ _ _) h1
  · cases h
def D7 : Dt := also D6 22 qq_S
theorem d7 : DOk Go.Proofs.Try.prog tab D7 := d6.also mixed_ok tab_ok names_ok noLoops_ok qq_s
theorem qq_cc {bl : Int} {lg : Int} {sq : Int} {tn : Int}  : (qq_c bl lg sq tn) = true := by
  unfold qq_c
  refine andT (by first | exact is_true ⟨1, rfl, by omega⟩ | exact is_true ⟨2, rfl, by omega⟩ | exact is_true ⟨8, rfl, by omega⟩) ?_
  refine andT (is_true (by simp only [List.length_append, List.length_cons, List.length_nil, qd_l1, qd_l2, qd_l8]; omega)) ?_
  refine andT (by first | exact is_true ⟨1, rfl, by omega⟩ | exact is_true ⟨2, rfl, by omega⟩ | exact is_true ⟨8, rfl, by omega⟩) ?_
  refine andT (is_true (by simp only [List.length_append, List.length_cons, List.length_nil, qd_l1, qd_l2, qd_l8]; omega)) ?_
  refine andT (by first | exact is_true ⟨1, rfl, by omega⟩ | exact is_true ⟨2, rfl, by omega⟩ | exact is_true ⟨8, rfl, by omega⟩) ?_
  refine andT (is_true (by simp only [List.length_append, List.length_cons, List.length_nil, qd_l1, qd_l2, qd_l8]; omega)) ?_
  refine andT (by first | exact is_true ⟨1, rfl, by omega⟩ | exact is_true ⟨2, rfl, by omega⟩ | exact is_true ⟨8, rfl, by omega⟩) ?_
  refine andT (is_true (by simp only [List.length_append, List.length_cons, List.length_nil, qd_l1, qd_l2, qd_l8]; omega)) ?_
  refine andT (by first | exact is_true ⟨1, rfl, by omega⟩ | exact is_true ⟨2, rfl, by omega⟩ | exact is_true ⟨8, rfl, by omega⟩) ?_
  refine andT (is_true (by simp only [List.length_append, List.length_cons, List.length_nil, qd_l1, qd_l2, qd_l8]; omega)) ?_
  refine andT (by exact is_true ⟨32, rfl, by simp only [List.length_append, List.length_cons, List.length_nil, qd_l1, qd_l2, qd_l8]; omega, by omega⟩) ?_
  refine andT (is_true (by rw [qba_h, padL_len (by simp only [List.length_append, List.length_cons, List.length_nil, qd_l1, qd_l2, qd_l8]; decide)]; decide)) ?_
  rfl
theorem qq_h {bl lg sq tn : Int} : qq_v bl lg sq tn = padL ([65, 82, 82, 83] ++ bytesL 1 1 ++ bytesL bl 2 ++ bytesL lg 2 ++ bytesL sq 8 ++ bytesL tn 8) 32 ++ padL ([65, 82, 82, 83] ++ bytesL 1 1 ++ bytesL bl 2 ++ bytesL lg 2 ++ bytesL sq 8 ++ bytesL tn 8) 32 := by
  unfold qq_v
  rw [hid_eq, qba_h]
  simp only [qd_h]
  rfl
def qp_t (bl lg sq tn : Int) : Tr (LL × LL × Int × Bool) := (.ite ((qk_c bl) = true) (.ite ((qq_c bl lg sq tn) = true) (.ite ((0 : Int) ≤ (0 : Int) ∧ (0 : Int) < (((qk_v bl).1).length : Int)) (.ok ((((qk_v bl).1).set ((0 : Int)).toNat (splice (row ((qk_v bl).1) (0 : Int)) 0 [TC.s (qq_v bl lg sq tn)])), (qk_v bl).2.1, (qk_v bl).2.2.1, (qk_v bl).2.2.2))
    .no)
   .no)
  .no)
def qp_mk (p : LL × LL × Int × Bool) : Res := [(true, [⟨.slice 9, .own true, TC.l (p.1)⟩, ⟨.slice 50, .own true, TC.l (p.2.1)⟩, ⟨.int .i64, .sh, TC.i (p.2.2.1)⟩, ⟨.bool, .sh, TC.b (p.2.2.2)⟩])]
def qp_c (bl lg sq tn : Int) : Bool := ((qk_c bl) && ((qq_c bl lg sq tn) && (is ((0 : Int) ≤ (0 : Int) ∧ (0 : Int) < (((qk_v bl).1).length : Int)) && true)))
def qp_v (bl lg sq tn : Int) : LL × LL × Int × Bool := ((((qk_v bl).1).set ((0 : Int)).toNat (splice (row ((qk_v bl).1) (0 : Int)) 0 [TC.s (qq_v bl lg sq tn)])), (qk_v bl).2.1, (qk_v bl).2.2.1, (qk_v bl).2.2.2)
theorem qp_l (bl lg sq tn : Int) : (qp_c bl lg sq tn) = true → (qp_t bl lg sq tn).val = some (qp_v bl lg sq tn) := by
  unfold qp_t qp_v qp_c
  exact fun h => (Tr.gb h fun h => (Tr.gb h fun h => (Tr.gs h fun h => rfl)))
def qp_S : List Arg → Option (Bool × Res) := fun xs => match xs with
  | [(true, [(.int .i64, TC.i bl), (.int .i64, TC.i lg), (.int .i64, TC.i sq), (.int .i64, TC.i tn)])] => some ((qp_c bl lg sq tn), qp_mk (qp_v bl lg sq tn))
  | _ => .none
theorem qp_e (bl lg sq tn : Int) : runF tab FT D7 live 10 noLoops [(true, [(.int .i64, TC.i bl), (.int .i64, TC.i lg), (.int .i64, TC.i sq), (.int .i64, TC.i tn)])] = (qp_t bl lg sq tn).run fun p => some (qp_mk p) := by kernel_rfl
theorem qp_s : ∀ xs r, qp_S xs = some (true, r) → runF tab FT D7 live 10 noLoops xs = some r := by
  intro xs r h
  unfold qp_S at h
  split at h
  · obtain ⟨h1, rfl⟩ := sp h
    exact fun_told (qp_e ..) (qp_l _ _ _ _) h1
  · cases h
def D8 : Dt := also D7 10 qp_S
theorem d8 : DOk Go.Proofs.Try.prog tab D8 := d7.also mixed_ok tab_ok names_ok noLoops_ok qp_s
theorem qp_cc {bl : Int} {lg : Int} {sq : Int} {tn : Int} (h0 : 16 ≤ bl) (h1 : bl ≤ 256) : (qp_c bl lg sq tn) = true := by
  unfold qp_c
  refine andT (by exact qk_cc (by omega) (by omega)) ?_
  refine andT (by exact qq_cc) ?_
  refine andT (is_true (by exact ⟨by omega, by show (0 : Int) < ((List.replicate bl.toNat [TC.s qv_v]).length : Int); rw [List.length_replicate]; omega⟩)) ?_
  rfl
theorem spec_vs {bl lg : Int} : qx_v bl lg (0 : Int) (0 : Int) = superOk bl lg := by
  unfold qx_v qbd_v superOk
  have hb : ∀ p q : Bool, (bif p then q else false) = (p && q) := fun p q => by cases p <;> rfl
  simp only [hb]
  rw [Bool.eq_iff_iff]
  simp only [Bool.and_eq_true, decide_eq_true_eq]
  by_cases h1 : 16 ≤ bl ∧ bl ≤ 256
  · rw [wrap64 (i := bl - 4) (by omega) (by omega)]
    omega
  · constructor <;> (intro h; exact absurd ⟨by omega, by omega⟩ h1)
def ql_t (bl lg : Int) : Tr (LL × LL × Int × Bool × Int) := (.ite ((!(qx_v bl lg (0 : Int) (0 : Int))) = true) (.ok ([], [], (0 : Int), false, (2 : Int)))
  (.ite ((qp_c bl lg (0 : Int) (0 : Int)) = true) (.ok ((qp_v bl lg (0 : Int) (0 : Int)).1, (qp_v bl lg (0 : Int) (0 : Int)).2.1, (qp_v bl lg (0 : Int) (0 : Int)).2.2.1, (qp_v bl lg (0 : Int) (0 : Int)).2.2.2, (0 : Int)))
   .no))
def ql_mk (p : LL × LL × Int × Bool × Int) : Res := [(true, [⟨.slice 9, .own true, TC.l (p.1)⟩, ⟨.slice 50, .own true, TC.l (p.2.1)⟩, ⟨.int .i64, .sh, TC.i (p.2.2.1)⟩, ⟨.bool, .sh, TC.b (p.2.2.2.1)⟩]), (false, [⟨.int .i64, .sh, TC.i (p.2.2.2.2)⟩])]
def ql_c (bl lg : Int) : Bool := (bif (!(qx_v bl lg (0 : Int) (0 : Int))) then true else ((qp_c bl lg (0 : Int) (0 : Int)) && true))
def ql_v (bl lg : Int) : LL × LL × Int × Bool × Int := (bif (!(qx_v bl lg (0 : Int) (0 : Int))) then ([], [], (0 : Int), false, (2 : Int)) else ((qp_v bl lg (0 : Int) (0 : Int)).1, (qp_v bl lg (0 : Int) (0 : Int)).2.1, (qp_v bl lg (0 : Int) (0 : Int)).2.2.1, (qp_v bl lg (0 : Int) (0 : Int)).2.2.2, (0 : Int)))
theorem ql_l (bl lg : Int) : (ql_c bl lg) = true → (ql_t bl lg).val = some (ql_v bl lg) := by
  unfold ql_t ql_v ql_c
  exact fun h => (Tr.ss h (fun h => rfl) (fun h => (Tr.gb h fun h => rfl)))
def ql_S : List Arg → Option (Bool × Res) := fun xs => match xs with
  | [(false, [(.int .i64, TC.i bl)]), (false, [(.int .i64, TC.i lg)])] => some ((ql_c bl lg), ql_mk (ql_v bl lg))
  | _ => .none
theorem ql_e (bl lg : Int) : runF tab FT D8 live 4 noLoops [(false, [(.int .i64, TC.i bl)]), (false, [(.int .i64, TC.i lg)])] = (ql_t bl lg).run fun p => some (ql_mk p) := by kernel_rfl
theorem ql_s : ∀ xs r, ql_S xs = some (true, r) → runF tab FT D8 live 4 noLoops xs = some r := by
  intro xs r h
  unfold ql_S at h
  split at h
  · obtain ⟨h1, rfl⟩ := sp h
    exact fun_told (ql_e ..) (ql_l _ _) h1
  · cases h
def D9 : Dt := also D8 4 ql_S
theorem d9 : DOk Go.Proofs.Try.prog tab D9 := d8.also mixed_ok tab_ok names_ok noLoops_ok ql_s
theorem ql_cc {bl : Int} {lg : Int}  : (ql_c bl lg) = true := by
  unfold ql_c
  refine bifT (fun b1 => ?_) (fun b1 => ?_)
  · skip
    rfl
  · skip
    refine andT (by have hv := superOk_i (bl := bl) (lg := lg) (by rw [← spec_vs]; simpa using b1); exact qp_cc hv.1 hv.2.1) ?_
    rfl
theorem ql_vv (bl lg : Int) : ql_v bl lg = ((fmtV bl lg).1, [], (fmtV bl lg).2.1, false, (fmtV bl lg).2.2) := by
  unfold ql_v fmtV
  rw [spec_vs]
  cases h : superOk bl lg with
  | false => rfl
  | true =>
    have hs := superOk_i h
    show (_, _, _, _, _) = (fmtB bl lg, [], _, false, _)
    have e : (qp_v bl lg 0 0).1 = fmtB bl lg := by
      show (zeroB qv_v bl.toNat).set 0 (splice (row (zeroB qv_v bl.toNat) (0 : Int)) 0 [TC.s (qq_v bl lg 0 0)]) = _
      rw [zeroB_splice (by omega), qv_h, qq_h]
      rfl
    rw [e]
    rfl
def qz_t (a0 a1 a2 : Int) : Tr (Bool) := (.ite ((decide (a0 ≥ a1)) = true) (.ok (decide (a0 ≤ a2)))
  (.ok false))
def qz_mk (p : Bool) : Res := [(false, [⟨.bool, .sh, TC.b p⟩])]
def qz_c (a0 a1 a2 : Int) : Bool := true
def qz_v (a0 a1 a2 : Int) : Bool := (bif (decide (a0 ≥ a1)) then (decide (a0 ≤ a2)) else false)
theorem qz_l (a0 a1 a2 : Int) : (qz_c a0 a1 a2) = true → (qz_t a0 a1 a2).val = some (qz_v a0 a1 a2) := by
  intro h
  skip
  unfold qz_t qz_v
  exact (Tr.s rfl rfl)
def qz_S : List Arg → Option (Bool × Res) := fun xs => match xs with
  | [(false, [(.int .i64, TC.i a0)]), (false, [(.int .i64, TC.i a1)]), (false, [(.int .i64, TC.i a2)])] => some (true, qz_mk (qz_v a0 a1 a2))
  | _ => .none
theorem qz_e (a0 a1 a2 : Int) : runF tab FT D9 live 23 noLoops [(false, [(.int .i64, TC.i a0)]), (false, [(.int .i64, TC.i a1)]), (false, [(.int .i64, TC.i a2)])] = (qz_t a0 a1 a2).run fun p => some (qz_mk p) := by kernel_rfl
theorem qz_s : ∀ xs r, qz_S xs = some (true, r) → runF tab FT D9 live 23 noLoops xs = some r := by
  intro xs r h
  unfold qz_S at h
  split at h
  · obtain ⟨h1, rfl⟩ := sp h
    exact fun_told (qz_e ..) (qz_l _ _ _) rfl
  · cases h
def D10 : Dt := also D9 23 qz_S
theorem d10 : DOk Go.Proofs.Try.prog tab D10 := d9.also mixed_ok tab_ok names_ok noLoops_ok qz_s
def qw_t (a0 a1 a2 a3 : Int) : Tr (Bool) := (.ite ((qz_v a0 (16 : Int) (256 : Int)) = true) (.ite ((qz_v a1 (8 : Int) (if (IntKind.wrap .i64 (a0 - (4 : Int))) < (64 : Int) then (IntKind.wrap .i64 (a0 - (4 : Int))) else (64 : Int))) = true) (.ite ((qz_v a2 (0 : Int) (1000000000000 : Int)) = true) (.ok (qz_v a3 (0 : Int) (1000000000000 : Int)))
    (.ok false))
   (.ok false))
  (.ok false))
def qw_mk (p : Bool) : Res := [(false, [⟨.bool, .sh, TC.b p⟩])]
def qw_c (a0 a1 a2 a3 : Int) : Bool := true
def qw_v (a0 a1 a2 a3 : Int) : Bool := (bif (qz_v a0 (16 : Int) (256 : Int)) then (bif (qz_v a1 (8 : Int) (if (IntKind.wrap .i64 (a0 - (4 : Int))) < (64 : Int) then (IntKind.wrap .i64 (a0 - (4 : Int))) else (64 : Int))) then (bif (qz_v a2 (0 : Int) (1000000000000 : Int)) then (qz_v a3 (0 : Int) (1000000000000 : Int)) else false) else false) else false)
theorem qw_l (a0 a1 a2 a3 : Int) : (qw_c a0 a1 a2 a3) = true → (qw_t a0 a1 a2 a3).val = some (qw_v a0 a1 a2 a3) := by
  intro h
  skip
  unfold qw_t qw_v
  exact (Tr.s (Tr.s (Tr.s rfl rfl) rfl) rfl)
def qw_S : List Arg → Option (Bool × Res) := fun xs => match xs with
  | [(true, [(.int .i64, TC.i a0), (.int .i64, TC.i a1), (.int .i64, TC.i a2), (.int .i64, TC.i a3)])] => some (true, qw_mk (qw_v a0 a1 a2 a3))
  | _ => .none
theorem qw_e (a0 a1 a2 a3 : Int) : runF tab FT D10 live 11 noLoops [(true, [(.int .i64, TC.i a0), (.int .i64, TC.i a1), (.int .i64, TC.i a2), (.int .i64, TC.i a3)])] = (qw_t a0 a1 a2 a3).run fun p => some (qw_mk p) := by kernel_rfl
theorem qw_s : ∀ xs r, qw_S xs = some (true, r) → runF tab FT D10 live 11 noLoops xs = some r := by
  intro xs r h
  unfold qw_S at h
  split at h
  · obtain ⟨h1, rfl⟩ := sp h
    exact fun_told (qw_e ..) (qw_l _ _ _ _) rfl
  · cases h
def D11 : Dt := also D10 11 qw_S
theorem d11 : DOk Go.Proofs.Try.prog tab D11 := d10.also mixed_ok tab_ok names_ok noLoops_ok qw_s
def qbf_c (s : BS) (n : Int) : Bool := is (0 ≤ n ∧ n ≤ 9223372036854775807 ∧ s.length * n.toNat ≤ 140737488355328)
def qbf_v (s : BS) (n : Int) : BS := hid (Lib.repeatL s n.toNat)
def qbf_mk (p : BS) : Res := [(false, [⟨.str, .sh, TC.s p⟩])]
def qbf_S : List Arg → Option (Bool × Res) := fun xs => match xs with
  | [(false, [(.str, TC.s s)]), (false, [(.int .i64, TC.i n)])] => some ((qbf_c s n), qbf_mk (qbf_v s n))
  | _ => .none
def D12 : Dt := also D11 34 qbf_S
theorem d12 : DOk Go.Proofs.Try.prog tab D12 := d11.alsoC names_ok (c := _) Go.Proofs.Try.func34 rfl (by
  intro xs r h w S hargs0 hS hG hargs
  unfold qbf_S at h
  split at h
  · rename_i s n
    obtain ⟨h1, rfl⟩ := sp h
    obtain ⟨h2, h3, h4⟩ := is_iff.1 h1
    obtain ⟨u, us, rfl, ha, hr⟩ := args_cons hargs
    obtain ⟨u2, us2, rfl, hb, hr⟩ := args_cons hr
    cases args_nil hr
    rw [rep_str' (arg_rep ha), rep_int' (arg_rep hb)]
    obtain ⟨m, rfl⟩ : ∃ m : Nat, n = (m : Int) := ⟨n.toNat, by omega⟩
    rw [Int.toNat_natCast] at h4
    refine Calls.mono (Any.strings_Repeat lays105 extra ⟨s.toArray⟩ m w (by omega) (by rw [bytes_size]; exact h4)) ?_
    rintro e w' ⟨rfl, hb⟩
    refine ⟨_, rfl, ?_⟩
    show PlainRes tab w S [(false, [⟨.str, .sh, .s (hid (Lib.repeatL s ((m : Int)).toNat))⟩])] _ w'
    rw [hid_eq, Int.toNat_natCast]
    exact plain_flat rfl (.str _) hb
  · cases h)
theorem qbf_h {s : BS} {n : Int} : qbf_v s n = Lib.repeatL s n.toNat := hid_eq _
def qbc_t (n : Int) : Tr (BS) := (.ite ((qbf_c [0] n) = true) (.ok (qbf_v [0] n))
  .no)
def qbc_mk (p : BS) : Res := [(false, [⟨.str, .sh, TC.s p⟩])]
def qbc_c (n : Int) : Bool := is (0 ≤ n ∧ n ≤ 65536)
def qbc_v (n : Int) : BS := hid (List.replicate n.toNat 0)
theorem qbc_l (n : Int) : (qbc_c n) = true → (qbc_t n).val = some (qbc_v n) := by
  intro h
  obtain ⟨h0, h1⟩ := is_iff.1 h
  unfold qbc_t qbc_v
  rw [hid_eq]
  refine Tr.t (is_true ⟨h0, by omega, by rw [List.length_singleton]; omega⟩) ?_
  rw [Tr.val_ok, qbf_h, repL_one]
def qbc_S : List Arg → Option (Bool × Res) := fun xs => match xs with
  | [(false, [(.int .i64, TC.i n)])] => some ((qbc_c n), qbc_mk (qbc_v n))
  | _ => .none
theorem qbc_e (n : Int) : runF tab FT D12 live 25 noLoops [(false, [(.int .i64, TC.i n)])] = (qbc_t n).run fun p => some (qbc_mk p) := by kernel_rfl
theorem qbc_s : ∀ xs r, qbc_S xs = some (true, r) → runF tab FT D12 live 25 noLoops xs = some r := by
  intro xs r h
  unfold qbc_S at h
  split at h
  · obtain ⟨h1, rfl⟩ := sp h
    exact fun_told (qbc_e _) (qbc_l _) h1
  · cases h
def D13 : Dt := also D12 25 qbc_S
theorem d13 : DOk Go.Proofs.Try.prog tab D13 := d12.also mixed_ok tab_ok names_ok noLoops_ok qbc_s
theorem qbc_h {n : Int} : qbc_v n = List.replicate n.toNat 0 := hid_eq _
def qbe_t (a b : Int) : Tr (Int × Int) := .ok ((IntKind.wrap .u64 ((IntKind.wrap .u64 ((IntKind.wrap .u64 ((Int.fdiv a 4294967296) * (Int.fdiv b 4294967296))) + (Int.fdiv (IntKind.wrap .u64 ((IntKind.wrap .u64 ((Int.fdiv a 4294967296) * (bits .u64 (fun a b => a &&& b) b (4294967295 : Int)))) + (Int.fdiv (IntKind.wrap .u64 ((bits .u64 (fun a b => a &&& b) a (4294967295 : Int)) * (bits .u64 (fun a b => a &&& b) b (4294967295 : Int)))) 4294967296))) 4294967296))) + (Int.fdiv (IntKind.wrap .u64 ((bits .u64 (fun a b => a &&& b) (IntKind.wrap .u64 ((IntKind.wrap .u64 ((Int.fdiv a 4294967296) * (bits .u64 (fun a b => a &&& b) b (4294967295 : Int)))) + (Int.fdiv (IntKind.wrap .u64 ((bits .u64 (fun a b => a &&& b) a (4294967295 : Int)) * (bits .u64 (fun a b => a &&& b) b (4294967295 : Int)))) 4294967296))) (4294967295 : Int)) + (IntKind.wrap .u64 ((bits .u64 (fun a b => a &&& b) a (4294967295 : Int)) * (Int.fdiv b 4294967296))))) 4294967296))), (IntKind.wrap .u64 (a * b)))
def qbe_mk (p : Int × Int) : Res := [(false, [⟨.int .u64, .sh, TC.i (p.1)⟩]), (false, [⟨.int .u64, .sh, TC.i (p.2)⟩])]
def qbe_c (a b : Int) : Bool := true
def qbe_v (a b : Int) : Int × Int := ((IntKind.wrap .u64 ((IntKind.wrap .u64 ((IntKind.wrap .u64 ((Int.fdiv a 4294967296) * (Int.fdiv b 4294967296))) + (Int.fdiv (IntKind.wrap .u64 ((IntKind.wrap .u64 ((Int.fdiv a 4294967296) * (bits .u64 (fun a b => a &&& b) b (4294967295 : Int)))) + (Int.fdiv (IntKind.wrap .u64 ((bits .u64 (fun a b => a &&& b) a (4294967295 : Int)) * (bits .u64 (fun a b => a &&& b) b (4294967295 : Int)))) 4294967296))) 4294967296))) + (Int.fdiv (IntKind.wrap .u64 ((bits .u64 (fun a b => a &&& b) (IntKind.wrap .u64 ((IntKind.wrap .u64 ((Int.fdiv a 4294967296) * (bits .u64 (fun a b => a &&& b) b (4294967295 : Int)))) + (Int.fdiv (IntKind.wrap .u64 ((bits .u64 (fun a b => a &&& b) a (4294967295 : Int)) * (bits .u64 (fun a b => a &&& b) b (4294967295 : Int)))) 4294967296))) (4294967295 : Int)) + (IntKind.wrap .u64 ((bits .u64 (fun a b => a &&& b) a (4294967295 : Int)) * (Int.fdiv b 4294967296))))) 4294967296))), (IntKind.wrap .u64 (a * b)))
theorem qbe_l (a b : Int) : (qbe_c a b) = true → (qbe_t a b).val = some (qbe_v a b) := by
  intro h
  skip
  unfold qbe_t qbe_v
  exact rfl
def qbe_S : List Arg → Option (Bool × Res) := fun xs => match xs with
  | [(false, [(.int .u64, TC.i a)]), (false, [(.int .u64, TC.i b)])] => some (true, qbe_mk (qbe_v a b))
  | _ => .none
theorem qbe_e (a b : Int) : runF tab FT D13 live 36 noLoops [(false, [(.int .u64, TC.i a)]), (false, [(.int .u64, TC.i b)])] = (qbe_t a b).run fun p => some (qbe_mk p) := by kernel_rfl
theorem qbe_s : ∀ xs r, qbe_S xs = some (true, r) → runF tab FT D13 live 36 noLoops xs = some r := by
  intro xs r h
  unfold qbe_S at h
  split at h
  · obtain ⟨h1, rfl⟩ := sp h
    exact fun_told (qbe_e ..) (qbe_l _ _) rfl
  · cases h
def D14 : Dt := also D13 36 qbe_S
theorem d14 : DOk Go.Proofs.Try.prog tab D14 := d13.also mixed_ok tab_ok names_ok noLoops_ok qbe_s
theorem qbe_small {a b : Int} (ha0 : 0 ≤ a) (ha : a < 65536) (hb0 : 0 ≤ b) (hb : b < 65536) : qbe_v a b = (0, a * b) := by
  have hab : a * b ≤ 65535 * 65535 := Int.mul_le_mul (by omega) (by omega) hb0 (by omega)
  have hab0 : 0 ≤ a * b := Int.mul_nonneg ha0 hb0
  have e1 : Int.fdiv a 4294967296 = 0 := by rw [Int.fdiv_eq_ediv_of_nonneg _ (by omega)]; omega
  have e2 : Int.fdiv b 4294967296 = 0 := by rw [Int.fdiv_eq_ediv_of_nonneg _ (by omega)]; omega
  have w0 : ∀ x : Int, 0 ≤ x → x < 18446744073709551616 → IntKind.wrap .u64 x = x := fun x h0 h1 => by rw [IntKind.wrap_u64]; omega
  have e3 : Int.fdiv (a * b) 4294967296 = 0 := by rw [Int.fdiv_eq_ediv_of_nonneg _ (by omega)]; omega
  have z : Int.fdiv 0 4294967296 = 0 := rfl
  have m0 : bits .u64 (fun a b => a &&& b) 0 (4294967295 : Int) = 0 := and_mask (by omega) (by omega)
  unfold qbe_v
  rw [and_mask ha0 (by omega), and_mask hb0 (by omega), e1, e2, Int.zero_mul, Int.zero_mul, Int.mul_zero, w0 0 (by omega) (by omega), w0 (a * b) hab0 (by omega), e3]
  simp only [Int.zero_add, Int.add_zero, z, w0 0 (by omega) (by omega), m0]
def qbb_t (a b : Int) : Tr (Int × Int) := .ok ((qbe_v a b).1, (qbe_v a b).2)
def qbb_mk (p : Int × Int) : Res := [(false, [⟨.int .u64, .sh, TC.i (p.1)⟩]), (false, [⟨.int .u64, .sh, TC.i (p.2)⟩])]
def qbb_c (a b : Int) : Bool := true
def qbb_v (a b : Int) : Int × Int := ((qbe_v a b).1, (qbe_v a b).2)
theorem qbb_l (a b : Int) : (qbb_c a b) = true → (qbb_t a b).val = some (qbb_v a b) := by
  intro h
  skip
  unfold qbb_t qbb_v
  exact rfl
def qbb_S : List Arg → Option (Bool × Res) := fun xs => match xs with
  | [(false, [(.int .u64, TC.i a)]), (false, [(.int .u64, TC.i b)])] => some (true, qbb_mk (qbb_v a b))
  | _ => .none
theorem qbb_e (a b : Int) : runF tab FT D14 live 33 noLoops [(false, [(.int .u64, TC.i a)]), (false, [(.int .u64, TC.i b)])] = (qbb_t a b).run fun p => some (qbb_mk p) := by kernel_rfl
theorem qbb_s : ∀ xs r, qbb_S xs = some (true, r) → runF tab FT D14 live 33 noLoops xs = some r := by
  intro xs r h
  unfold qbb_S at h
  split at h
  · obtain ⟨h1, rfl⟩ := sp h
    exact fun_told (qbb_e ..) (qbb_l _ _) rfl
  · cases h
def D15 : Dt := also D14 33 qbb_S
theorem d15 : DOk Go.Proofs.Try.prog tab D15 := d14.also mixed_ok tab_ok names_ok noLoops_ok qbb_s
abbrev qa_8_σ := LL × Int
abbrev qa_8_ω := (LL)
def qa_8_step (S : LL) (n : Int) : Tr (qa_8_σ ⊕ qa_8_ω) := (.ite ((decide (n < (S.length : Int))) = true) (.ite ((0 : Int) ≤ n ∧ n ≤ (S.length : Int) ∧ (S.length : Int) ≤ (S.length : Int)) (.ite ((0 : Int) ≤ (0 : Int) ∧ (0 : Int) ≤ n ∧ n ≤ (S.length : Int)) (.ok (.inl ((splice S (n).toNat (((S.take (n).toNat).drop ((0 : Int)).toNat).take ((((S.length : Int)).toNat - (n).toNat)))), (IntKind.wrap .i64 (n + ((min (((S.take (n).toNat).drop ((0 : Int)).toNat).length) ((((S.length : Int)).toNat - (n).toNat)) : Nat) : Int))))))
    .no)
   .no)
  (.ok (.inr S)))
def qa_8_st : qa_8_σ → Tr (qa_8_σ ⊕ qa_8_ω) := fun x => (qa_8_step (x.1) (x.2))
def qa_o8_1 (S : LL) (n : Int) : Bool := is (0 ≤ n ∧ n ≤ (S.length : Int) ∧ (n = 0 → S.length = 0) ∧ S.length ≤ 140737488355328)
def qa_u8_1 (S : LL) (n : Int) : LL := cycS S n.toNat
def qa_8_fin (S : LL) (n : Int) : Told qa_8_ω := (.leaf (qa_o8_1 S n) (qa_u8_1 S n))
def qa_8_sl (x : qa_8_σ) : List Slot := [⟨.val false [⟨.slice 9, .own true, TC.l (x.1)⟩], ⟨0, 0⟩⟩, ⟨.val false [⟨.int .i64, .sh, TC.i (x.2)⟩], ⟨0, 0⟩⟩]
def qa_8_out : qa_8_ω → Ex × List Slot := (fun x => (.exit 0, [Slot.none, ⟨.val false [⟨.slice 9, .own true, TC.l x⟩], ⟨0, 0⟩⟩]))
def qa_lo8 : List Slot → Option (Told (Ex × List Slot)) := fun s => match s with
  | [⟨.val false [⟨.slice 9, .own true, TC.l S⟩], ⟨0, 0⟩⟩, ⟨.val false [⟨.int .i64, .sh, TC.i n⟩], ⟨0, 0⟩⟩] => some (((qa_8_fin S n)).map qa_8_out)
  | _ => .none
def qa_lo : LoopTeller := fun r s => bif Nat.beq r 8 then qa_lo8 s else .none
theorem qa_8_r (S : LL) (n : Int) (fuel : Nat) : rounds (rnd tab FT D15 live 24 qa_lo 0 8) leave (fuel + 1) (qa_8_sl (S, n)) = ((qa_8_step S n)).run (goOn (fun s => rounds (rnd tab FT D15 live 24 qa_lo 0 8) leave fuel (qa_8_sl s)) fun w => some (qa_8_out w)) := by kernel_rfl
theorem qa_8_h (S : LL) (n : Int) (ow : qa_8_ω) : ((qa_8_fin S n)).val = some ow → ∃ fuel, loopN qa_8_st fuel (S, n) = some ow := by
  intro h
  refine auto_leaf (R := cycS S n.toNat) (fun ho => ?_) h
  obtain ⟨h0, h1, h2, h3⟩ := is_iff.1 ho
  obtain ⟨n0, rfl⟩ := Int.eq_ofNat_of_zero_le h0
  have key : ∀ (d m : Nat) (S' : LL), S.length - m ≤ d → n0 ≤ m → m ≤ S.length → S'.length = S.length → (m < S.length → m % n0 = 0) → (∀ p, p < m → S'.getD p [] = S.getD (p % n0) []) →
      ∃ fuel, loopN qa_8_st fuel (S', (m : Int)) = some (cycS S n0) := by
    intro d
    induction d with
    | zero =>
      intro m S' hd hn hm hl hmod hrow
      have hmm : m = S.length := by omega
      refine ⟨1, loopN_end ?_⟩
      show (qa_8_step S' (m : Int)).val = _
      unfold qa_8_step
      refine Tr.n (by first | (simp; done) | (simp; omega)) ?_
      rw [Tr.val_ok]
      congr 2
      exact list_ext (by rw [hl, cycS_len]) fun p hp => by rw [hrow p (by omega), cycS_at (by omega)]
    | succ d ih =>
      intro m S' hd hn hm hl hmod hrow
      by_cases hms : m < S.length
      · have hn0 : 0 < n0 := by
          rcases Nat.eq_zero_or_pos n0 with h | h
          · subst h; have := h2 rfl; omega
          · exact h
        have hy : (((S'.take ((m : Int)).toNat).drop ((0 : Int)).toNat).take (((S'.length : Int)).toNat - ((m : Int)).toNat)) = (S'.take m).take (S.length - m) := by
          rw [Int.toNat_natCast, Int.toNat_natCast, hl]; rfl
        have hyl : ((S'.take m).take (S.length - m)).length = min m (S.length - m) := by
          rw [List.length_take, List.length_take, hl]; omega
        have hmin : min (((S'.take ((m : Int)).toNat).drop ((0 : Int)).toNat).length) (((S'.length : Int)).toNat - ((m : Int)).toNat) = min m (S.length - m) := by
          rw [Int.toNat_natCast, Int.toNat_natCast, hl]
          show min (S'.take m).length _ = _
          rw [List.length_take, hl]; omega
        have hw : IntKind.wrap .i64 ((m : Int) + ((min m (S.length - m) : Nat) : Int)) = ((m + min m (S.length - m) : Nat) : Int) := by rw [wrap64 (by omega) (by omega)]; rfl
        obtain ⟨fuel, hf⟩ := ih (m + min m (S.length - m)) (V.splice S' m ((S'.take m).take (S.length - m))) (by omega) (by omega) (by omega) (by rw [splice_length _ _ _ (by rw [hyl, hl]; omega), hl]) (fun hlt => by
            have : min m (S.length - m) = m := by omega
            rw [this, Nat.add_mod, hmod hms]; simp) (fun p hp => by
            rw [getD_splice (by rw [hyl, hl]; omega), hyl]
            by_cases hc : m ≤ p ∧ p < m + min m (S.length - m)
            · rw [if_pos hc]
              have e1 : ((S'.take m).take (S.length - m)).getD (p - m) [] = S'.getD (p - m) [] := by
                simp only [List.getD_eq_getElem?_getD, List.getElem?_take]
                rw [if_pos (by omega), if_pos (by omega)]
              rw [e1, hrow (p - m) (by omega)]
              congr 1
              have e2 : p = (p - m) + m := by omega
              conv => rhs; rw [e2]
              rw [Nat.add_mod, hmod hms, Nat.add_zero, Nat.mod_mod]
            · rw [if_neg hc]
              exact hrow p (by omega))
        refine ⟨fuel + 1, (loopN_next ?_).trans hf⟩
        show (qa_8_step S' (m : Int)).val = _
        unfold qa_8_step
        rw [hy, hmin, hw]
        refine Tr.t (by simp; omega) (Tr.t ⟨by omega, by omega, by omega⟩ (Tr.t ⟨by omega, by omega, by omega⟩ ?_))
        rw [Int.toNat_natCast]; rfl
      · exact ih m S' (by omega) hn hm hl hmod hrow
  exact key S.length n0 S (by omega) (Nat.le_refl _) (by omega) rfl (fun _ => Nat.mod_self n0) (fun p hp => by rw [Nat.mod_eq_of_lt hp])
theorem qa_is8 : LoopIs tab FT D15 live 24 qa_lo 0 8 := by
  refine loop_told (sl := qa_8_sl) (step := qa_8_st) (out := qa_8_out) (lor := qa_lo8) (fin := fun x => (qa_8_fin (x.1) (x.2))) (fun _ => rfl) ?_ (fun x n => qa_8_r x.1 x.2 n) (fun x ow => qa_8_h x.1 x.2 ow)
  intro s t h
  unfold qa_lo8 at h
  split at h
  · cases h; exact ⟨(_, _), rfl, rfl⟩
  · cases h
def qa_t (A : LL) (c : Int) : Tr (LL) := (.ite ((decide (c < (0 : Int))) = true) .no
  (.ite ((decide ((qbb_v (IntKind.wrap .u64 (A.length : Int)) (IntKind.wrap .u64 c)).1 > (0 : Int))) = true) .no
   (.ite ((TC.b (decide ((qbb_v (IntKind.wrap .u64 (A.length : Int)) (IntKind.wrap .u64 c)).2 > (9223372036854775807 : Int)))).bool = true) .no
    (.ite (0 ≤ (IntKind.wrap .i64 ((qbb_v (IntKind.wrap .u64 (A.length : Int)) (IntKind.wrap .u64 c)).2)) ∧ (IntKind.wrap .i64 ((qbb_v (IntKind.wrap .u64 (A.length : Int)) (IntKind.wrap .u64 c)).2)) ≤ (IntKind.wrap .i64 ((qbb_v (IntKind.wrap .u64 (A.length : Int)) (IntKind.wrap .u64 c)).2)) ∧ (IntKind.wrap .i64 ((qbb_v (IntKind.wrap .u64 (A.length : Int)) (IntKind.wrap .u64 c)).2)) * 16 ≤ 140737488355328 ∧ (IntKind.wrap .i64 ((qbb_v (IntKind.wrap .u64 (A.length : Int)) (IntKind.wrap .u64 c)).2)) ≤ 140737488355328) (.ite ((qa_o8_1 (splice (List.replicate ((IntKind.wrap .i64 ((qbb_v (IntKind.wrap .u64 (A.length : Int)) (IntKind.wrap .u64 c)).2))).toNat [TC.s []]) ((0 : Int)).toNat (A.take (((((List.replicate ((IntKind.wrap .i64 ((qbb_v (IntKind.wrap .u64 (A.length : Int)) (IntKind.wrap .u64 c)).2))).toNat [TC.s []]).length : Int)).toNat - ((0 : Int)).toNat)))) ((min (A.length) (((((List.replicate ((IntKind.wrap .i64 ((qbb_v (IntKind.wrap .u64 (A.length : Int)) (IntKind.wrap .u64 c)).2))).toNat [TC.s []]).length : Int)).toNat - ((0 : Int)).toNat)) : Nat) : Int)) = true) (.ok (qa_u8_1 (splice (List.replicate ((IntKind.wrap .i64 ((qbb_v (IntKind.wrap .u64 (A.length : Int)) (IntKind.wrap .u64 c)).2))).toNat [TC.s []]) ((0 : Int)).toNat (A.take (((((List.replicate ((IntKind.wrap .i64 ((qbb_v (IntKind.wrap .u64 (A.length : Int)) (IntKind.wrap .u64 c)).2))).toNat [TC.s []]).length : Int)).toNat - ((0 : Int)).toNat)))) ((min (A.length) (((((List.replicate ((IntKind.wrap .i64 ((qbb_v (IntKind.wrap .u64 (A.length : Int)) (IntKind.wrap .u64 c)).2))).toNat [TC.s []]).length : Int)).toNat - ((0 : Int)).toNat)) : Nat) : Int)))
      .no)
     .no))))
def qa_mk (p : LL) : Res := [(false, [⟨.slice 9, .own true, TC.l p⟩])]
def qa_c (A : LL) (c : Int) : Bool := is (1 ≤ A.length ∧ A.length ≤ 65535 ∧ 0 ≤ c ∧ c ≤ 65535)
def qa_v (A : LL) (c : Int) : LL := (List.replicate c.toNat A).flatten
theorem qa_l (A : LL) (c : Int) : (qa_c A c) = true → (qa_t A c).val = some (qa_v A c) := by
  intro h
  obtain ⟨h0, h1, h2, h3⟩ := is_iff.1 h
  obtain ⟨k, rfl⟩ := Int.eq_ofNat_of_zero_le h2
  have hk : k ≤ 65535 := by omega
  have hn : A.length * k ≤ 65535 * 65535 := Nat.mul_le_mul h1 hk
  have w1 : IntKind.wrap .u64 (A.length : Int) = (A.length : Int) := by rw [IntKind.wrap_u64]; omega
  have w2 : IntKind.wrap .u64 (k : Int) = (k : Int) := by rw [IntKind.wrap_u64]; omega
  have hm : qbb_v (IntKind.wrap .u64 (A.length : Int)) (IntKind.wrap .u64 (k : Int)) = (0, ((A.length * k : Nat) : Int)) := by
    unfold qbb_v
    rw [w1, w2, qbe_small (by omega) (by omega) (by omega) (by omega), Int.natCast_mul]
  have w3 : IntKind.wrap .i64 ((A.length * k : Nat) : Int) = ((A.length * k : Nat) : Int) := wrap64 (by omega) (by omega)
  have hfl : (List.replicate k A).flatten.length = A.length * k := by
    rw [List.length_flatten, List.map_replicate, List.sum_replicate_nat, Nat.mul_comm]
  unfold qa_t qa_v
  rw [hm]
  simp only [w3, Int.toNat_natCast]
  have hz : A.length * k < A.length → k = 0 := fun hh => by
    rcases Nat.eq_zero_or_pos k with h | h
    · exact h
    · exact absurd hh (Nat.not_lt.2 (Nat.le_mul_of_pos_right _ h))
  have hflat := fun p => flat_at (A := A) (k := k) (p := p)
  generalize hF : (List.replicate k A).flatten = F at hfl hflat ⊢
  generalize A.length * k = N at hn hfl hz hflat ⊢
  have hS0 : splice (List.replicate N [TC.s []]) ((0 : Int)).toNat (A.take ((List.replicate N [TC.s []]).length - ((0 : Int)).toNat)) = A.take N ++ (List.replicate N [TC.s []]).drop (A.take N).length := by
    unfold splice
    simp
  have hlen : (A.take N ++ (List.replicate N [TC.s []]).drop (A.take N).length).length = N := by simp <;> omega
  have hmin : min A.length ((List.replicate N [TC.s []]).length - ((0 : Int)).toNat) = min A.length N := by simp
  rw [hS0, hmin]
  have hat : ∀ q, q < min A.length N → (A.take N ++ (List.replicate N [TC.s []]).drop (A.take N).length).getD q [] = A.getD q [] := by
    intro q hq
    rw [List.getD_eq_getElem?_getD, List.getElem?_append_left (by rw [List.length_take]; omega), List.getElem?_take_of_lt (by omega), ← List.getD_eq_getElem?_getD]
  generalize A.take N ++ (List.replicate N [TC.s []]).drop (A.take N).length = S at hlen hat ⊢
  refine Tr.n (by simp <;> omega) (Tr.n (by simp) (Tr.n (by simp only [TC.bool, decide_eq_true_eq]; omega) (Tr.t ⟨by omega, by omega, by omega, by omega⟩ (Tr.t (is_true ⟨by omega, by omega, fun _ => by omega, by omega⟩) ?_))))
  rw [Tr.val_ok]
  show some (cycS S _) = some F
  congr 1
  rw [Int.toNat_natCast]
  refine list_ext (by rw [cycS_len, hlen, hfl]) fun p hp => ?_
  rw [cycS_len, hlen] at hp
  rw [cycS_at (by omega), hflat p hp]
  have hNA : min A.length N = A.length := by
    rcases Nat.lt_or_ge N A.length with h | h
    · have := hz h; subst this
      have : N = 0 := by rw [← hfl, ← hF]; rfl
      omega
    · omega
  rw [hNA, hat _ (by rw [hNA]; exact Nat.mod_lt _ (by omega))]
def qa_S : List Arg → Option (Bool × Res) := fun xs => match xs with
  | [(false, [(.slice 9, TC.l A)]), (false, [(.int .i64, TC.i c)])] => some ((qa_c A c), qa_mk (qa_v A c))
  | _ => .none
def qa_t3 (A : LL) (c : Int) : Tr (LL) := (.ite (0 ≤ (IntKind.wrap .i64 ((qbb_v (IntKind.wrap .u64 (A.length : Int)) (IntKind.wrap .u64 c)).2)) ∧ (IntKind.wrap .i64 ((qbb_v (IntKind.wrap .u64 (A.length : Int)) (IntKind.wrap .u64 c)).2)) ≤ (IntKind.wrap .i64 ((qbb_v (IntKind.wrap .u64 (A.length : Int)) (IntKind.wrap .u64 c)).2)) ∧ (IntKind.wrap .i64 ((qbb_v (IntKind.wrap .u64 (A.length : Int)) (IntKind.wrap .u64 c)).2)) * 16 ≤ 140737488355328 ∧ (IntKind.wrap .i64 ((qbb_v (IntKind.wrap .u64 (A.length : Int)) (IntKind.wrap .u64 c)).2)) ≤ 140737488355328) (.ite ((qa_o8_1 (splice (List.replicate ((IntKind.wrap .i64 ((qbb_v (IntKind.wrap .u64 (A.length : Int)) (IntKind.wrap .u64 c)).2))).toNat [TC.s []]) ((0 : Int)).toNat (A.take (((((List.replicate ((IntKind.wrap .i64 ((qbb_v (IntKind.wrap .u64 (A.length : Int)) (IntKind.wrap .u64 c)).2))).toNat [TC.s []]).length : Int)).toNat - ((0 : Int)).toNat)))) ((min (A.length) (((((List.replicate ((IntKind.wrap .i64 ((qbb_v (IntKind.wrap .u64 (A.length : Int)) (IntKind.wrap .u64 c)).2))).toNat [TC.s []]).length : Int)).toNat - ((0 : Int)).toNat)) : Nat) : Int)) = true) (.ok (qa_u8_1 (splice (List.replicate ((IntKind.wrap .i64 ((qbb_v (IntKind.wrap .u64 (A.length : Int)) (IntKind.wrap .u64 c)).2))).toNat [TC.s []]) ((0 : Int)).toNat (A.take (((((List.replicate ((IntKind.wrap .i64 ((qbb_v (IntKind.wrap .u64 (A.length : Int)) (IntKind.wrap .u64 c)).2))).toNat [TC.s []]).length : Int)).toNat - ((0 : Int)).toNat)))) ((min (A.length) (((((List.replicate ((IntKind.wrap .i64 ((qbb_v (IntKind.wrap .u64 (A.length : Int)) (IntKind.wrap .u64 c)).2))).toNat [TC.s []]).length : Int)).toNat - ((0 : Int)).toNat)) : Nat) : Int)))
   .no)
  .no)
def qa_go (ops : List Oper) (σ : St) : St := (runOps tab 48 D15 ops ops σ [] (fun σ' _ => some σ')).getD σ
def qa_K (e : Ex) (σ : St) : Option Res := match e with | .exit _ => .none | _ => (resultsOf tab σ [.tmp 4]).bind (fitRes tab (((FT 24).map fun f => f.resultTypes.toList).getD []))
def qa_o0 : List Oper := match bodyOf FT 24 with | .seq (.region _ ops _) _ => ops.toList | _ => []
def qa_q0 : Code := match bodyOf FT 24 with | .seq _ c => c | _ => .skip
def qa_o1 : List Oper := match qa_q0 with | .seq (.seq (.region _ ops _) _) _ => ops.toList | _ => []
def qa_p1 : Operand := match qa_q0 with | .seq (.seq _ (.cond c _ _)) _ => c | _ => .const (.bool false)
def qa_q1 : Code := match qa_q0 with | .seq _ c => c | _ => .skip
def qa_o3 : List Oper := match qa_q1 with | .seq (.region _ ops _) _ => ops.toList | _ => []
def qa_q2 : Code := match qa_q1 with | .seq _ c => c | _ => .skip
def qa_i4 : Nat := match qa_q2 with | .seq (.seq (.region i _ _) _) _ => i | _ => 0
def qa_O4 : Array Oper := match qa_q2 with | .seq (.seq (.region _ ops _) _) _ => ops | _ => #[]
def qa_p4 : Operand := match qa_q2 with | .seq (.seq _ (.cond c _ _)) _ => c | _ => .const (.bool false)
def qa_a4 : Code := match qa_q2 with | .seq (.seq _ (.cond _ a _)) _ => a | _ => .skip
def qa_q3 : Code := match qa_q2 with | .seq _ c => c | _ => .skip
def qa_z0 (A : LL) (c : Int) : St := qa_go qa_o0 (argsSt [(false, [(.slice 9, TC.l A)]), (false, [(.int .i64, TC.i c)])])
def qa_z1 (A : LL) (c : Int) : St := substC (qa_go qa_o1 (qa_z0 A c)) qa_p1 false
def qa_z3 (A : LL) (c : Int) : St := qa_go qa_o3 (qa_z1 A c)
theorem qa_w1 (A : LL) (c : Int) : runF tab FT D15 live 24 qa_lo [(false, [(.slice 9, TC.l A)]), (false, [(.int .i64, TC.i c)])] = (if (decide (c < (0 : Int))) = true then .none else runT tab 48 D15 (live 24) qa_lo qa_q1 (qa_z1 A c) qa_K) := by kernel_rfl
def qa_i3 : Nat := match qa_q1 with | .seq (.region i _ _) _ => i | _ => 0
def qa_O3 : Array Oper := match qa_q1 with | .seq (.region _ ops _) _ => ops | _ => #[]
theorem qa_w2k (A : LL) (c : Int) (F : St → Option Res) : runRegion tab 48 D15 qa_O3.toList false (qa_z1 A c) F = F (qa_z3 A c) := by kernel_rfl
theorem qa_w2 (A : LL) (c : Int) : runT tab 48 D15 (live 24) qa_lo qa_q1 (qa_z1 A c) qa_K = runT tab 48 D15 (live 24) qa_lo qa_q2 (qa_z3 A c) qa_K := by
  rw [cut_region (i := qa_i3) (ops := qa_O3) (q1 := qa_q2) (d := false) (by kernel_rfl), qa_w2k]
theorem qa_w3 (A : LL) (c : Int) : runRegion tab 48 D15 qa_O4.toList false (qa_z3 A c) (fun σ' => (condOf σ' qa_p4).bind fun p => bif p then runT tab 48 D15 (live 24) qa_lo qa_a4 (substC σ' qa_p4 true) (fun e σ'' => match e with | .normal => runT tab 48 D15 (live 24) qa_lo qa_q3 σ'' qa_K | e => qa_K e σ'') else runT tab 48 D15 (live 24) qa_lo qa_q3 (substC σ' qa_p4 false) qa_K) = (if (decide ((qbb_v (IntKind.wrap .u64 (A.length : Int)) (IntKind.wrap .u64 c)).1 > (0 : Int))) = true then .none else bif (TC.b (decide ((qbb_v (IntKind.wrap .u64 (A.length : Int)) (IntKind.wrap .u64 c)).2 > (9223372036854775807 : Int)))).bool then .none else (qa_t3 A c).run fun p => some (qa_mk p)) := by kernel_rfl
theorem qa_e (A : LL) (c : Int) : runF tab FT D15 live 24 qa_lo [(false, [(.slice 9, TC.l A)]), (false, [(.int .i64, TC.i c)])] = (qa_t A c).run fun p => some (qa_mk p) := by
  rw [qa_w1, qa_w2, cut_bif (i := qa_i4) (ops := qa_O4) (c := qa_p4) (a := qa_a4) (q1 := qa_q3) (d := false) (by kernel_rfl)]
  refine (congrArg (fun y => if (decide (c < (0 : Int))) = true then .none else y) (qa_w3 A c)).trans ?_
  rw [bif_ite]
  rfl
theorem qa_s : ∀ xs r, qa_S xs = some (true, r) → runF tab FT D15 live 24 qa_lo xs = some r := by
  intro xs r h
  unfold qa_S at h
  split at h
  · obtain ⟨h1, rfl⟩ := sp h
    exact fun_told (qa_e ..) (qa_l _ _) h1
  · cases h
def D16 : Dt := also D15 24 qa_S
theorem d16 : DOk Go.Proofs.Try.prog tab D16 := d15.also mixed_ok tab_ok names_ok (fnLoops_one (by kernel_rfl) qa_is8) qa_s
def qr_t (bl : Int) : Tr (LL × LL × Int × Int) := (.ite ((!(qz_v bl (16 : Int) (256 : Int))) = true) (.ok ([], [], (0 : Int), (2 : Int)))
  (.ite ((qbc_c (64 : Int)) = true) (.ite ((qa_c [[TC.s (qbc_v (64 : Int))]] bl) = true) (.ok ((qa_v [[TC.s (qbc_v (64 : Int))]] bl), [], (-1 : Int), (0 : Int)))
    .no)
   .no))
def qr_mk (p : LL × LL × Int × Int) : Res := [(true, [⟨.slice 9, .own true, TC.l (p.1)⟩, ⟨.slice 50, .own true, TC.l (p.2.1)⟩, ⟨.int .i64, .sh, TC.i (p.2.2.1)⟩, ⟨.bool, .sh, TC.b false⟩]), (false, [⟨.int .i64, .sh, TC.i (p.2.2.2)⟩])]
def qr_c (bl : Int) : Bool := (bif (!(qz_v bl (16 : Int) (256 : Int))) then true else ((qbc_c (64 : Int)) && ((qa_c [[TC.s (qbc_v (64 : Int))]] bl) && true)))
def qr_v (bl : Int) : LL × LL × Int × Int := (bif (!(qz_v bl (16 : Int) (256 : Int))) then ([], [], (0 : Int), (2 : Int)) else ((qa_v [[TC.s (qbc_v (64 : Int))]] bl), [], (-1 : Int), (0 : Int)))
theorem qr_l (bl : Int) : (qr_c bl) = true → (qr_t bl).val = some (qr_v bl) := by
  unfold qr_t qr_v qr_c
  exact fun h => (Tr.ss h (fun h => rfl) (fun h => (Tr.gb h fun h => (Tr.gb h fun h => rfl))))
def qr_S : List Arg → Option (Bool × Res) := fun xs => match xs with
  | [(false, [(.int .i64, TC.i bl)])] => some ((qr_c bl), qr_mk (qr_v bl))
  | _ => .none
theorem qr_e (bl : Int) : runF tab FT D16 live 12 noLoops [(false, [(.int .i64, TC.i bl)])] = (qr_t bl).run fun p => some (qr_mk p) := by kernel_rfl
theorem qr_s : ∀ xs r, qr_S xs = some (true, r) → runF tab FT D16 live 12 noLoops xs = some r := by
  intro xs r h
  unfold qr_S at h
  split at h
  · obtain ⟨h1, rfl⟩ := sp h
    exact fun_told (qr_e _) (qr_l _) h1
  · cases h
def D17 : Dt := also D16 12 qr_S
theorem d17 : DOk Go.Proofs.Try.prog tab D17 := d16.also mixed_ok tab_ok names_ok noLoops_ok qr_s
theorem qr_cc {bl : Int}  : (qr_c bl) = true := by
  unfold qr_c
  refine bifT (fun b1 => ?_) (fun b1 => ?_)
  · skip
    rfl
  · skip
    refine andT (by exact is_true ⟨by omega, by omega⟩) ?_
    refine andT (by have hv : 16 ≤ bl ∧ bl ≤ 256 := (by unfold qz_v at b1; revert b1; by_cases h1 : bl ≥ 16 <;> by_cases h2 : bl ≤ 256 <;> simp_all); exact is_true ⟨by simp, by simp, by omega, by omega⟩) ?_
    rfl
abbrev qc_3_σ := Int × LL × Int × Int
abbrev qc_3_ω := (LL)
def qc_3_step (n : Int) (X : LL) (m k : Int) : Tr (qc_3_σ ⊕ qc_3_ω) := (.ite ((decide (k < m)) = true) (.ite (0 ≤ (IntKind.wrap .i64 ((8 : Int) * k))) (.ite ((0 : Int) ≤ k ∧ k < (X.length : Int)) (.ok (.inl (n, (X.set (k).toNat (splice (row X k) 0 [TC.i (IntKind.wrap .u8 (Int.fdiv n (2 ^ (min ((IntKind.wrap .i64 ((8 : Int) * k))).toNat 64))))])), m, (IntKind.wrap .i64 (k + (1 : Int))))))
    .no)
   .no)
  (.ok (.inr X)))
def qc_3_st : qc_3_σ → Tr (qc_3_σ ⊕ qc_3_ω) := fun x => (qc_3_step (x.1) (x.2.1) (x.2.2.1) (x.2.2.2))
def qc_o3_1 (n : Int) (X : LL) (m k : Int) : Bool := is (∃ sz : Nat, m = (sz : Int) ∧ sz ≤ 8 ∧ X = List.replicate sz [TC.i 0] ∧ k = 0)
def qc_u3_1 (n : Int) (X : LL) (m k : Int) : LL := bRows n m.toNat
def qc_3_fin (n : Int) (X : LL) (m k : Int) : Told qc_3_ω := (.leaf (qc_o3_1 n X m k) (qc_u3_1 n X m k))
def qc_3_sl (x : qc_3_σ) : List Slot := [⟨.val false [⟨.int .i64, .sh, TC.i (x.1)⟩], ⟨0, 0⟩⟩, ⟨.val false [⟨.slice 5, .own true, TC.l (x.2.1)⟩], ⟨0, 0⟩⟩, ⟨.val false [⟨.int .i64, .sh, TC.i (x.2.2.1)⟩], ⟨0, 0⟩⟩, ⟨.val false [⟨.int .i64, .sh, TC.i (x.2.2.2)⟩], ⟨0, 0⟩⟩]
def qc_3_out : qc_3_ω → Ex × List Slot := (fun x => (.exit 0, [Slot.none, ⟨.val false [⟨.slice 5, .own true, TC.l x⟩], ⟨0, 0⟩⟩]))
def qc_lo3 : List Slot → Option (Told (Ex × List Slot)) := fun s => match s with
  | [⟨.val false [⟨.int .i64, .sh, TC.i n⟩], ⟨0, 0⟩⟩, ⟨.val false [⟨.slice 5, .own true, TC.l X⟩], ⟨0, 0⟩⟩, ⟨.val false [⟨.int .i64, .sh, TC.i m⟩], ⟨0, 0⟩⟩, ⟨.val false [⟨.int .i64, .sh, TC.i k⟩], ⟨0, 0⟩⟩] => some (((qc_3_fin n X m k)).map qc_3_out)
  | _ => .none
def qc_lo : LoopTeller := fun r s => bif Nat.beq r 3 then qc_lo3 s else .none
theorem qc_3_r (n : Int) (X : LL) (m k : Int) (fuel : Nat) : rounds (rnd tab FT D17 live 26 qc_lo 0 3) leave (fuel + 1) (qc_3_sl (n, X, m, k)) = ((qc_3_step n X m k)).run (goOn (fun s => rounds (rnd tab FT D17 live 26 qc_lo 0 3) leave fuel (qc_3_sl s)) fun w => some (qc_3_out w)) := by kernel_rfl
theorem qc_3_h (n : Int) (X : LL) (m k : Int) (ow : qc_3_ω) : ((qc_3_fin n X m k)).val = some ow → ∃ fuel, loopN qc_3_st fuel (n, X, m, k) = some ow := by
  intro h
  refine auto_leaf (R := bRows n m.toNat) (fun ho => ?_) h
  obtain ⟨sz, rfl, h8, rfl, rfl⟩ := is_iff.1 ho
  rw [wr_zero (n := n)]
  refine ⟨sz + 1, loopN_run (step := qc_3_st) (N := sz) (fun j => (n, (wr sz (bAt n) (fun _ => [TC.i 0]) (fun p => decide (p < j))), (sz : Int), (j : Int))) (fun j hj => ?_) ?_ sz 0 (by omega)⟩
  · have e := wr_step (L := sz) (p0 := j) (F := bAt n) (O := fun _ => [TC.i 0]) (vis := fun p => decide (p < j)) (vis' := fun p => decide (p < j + 1)) hj (fun _ => rfl) (fun _ => rfl) (fun p _ => by
      rw [Bool.eq_iff_iff]; simp only [Bool.or_eq_true, decide_eq_true_eq, beq_iff_eq]; omega)
    show (qc_3_step n (wr sz (bAt n) (fun _ => [TC.i 0]) (fun p => decide (p < j))) (sz : Int) (j : Int)).val = _
    unfold qc_3_step
    rw [bAt_i64 (by omega)]
    refine Tr.t (by simp; omega) ?_
    refine Tr.t (by rw [wrap64 (by omega) (by omega)]; omega) ?_
    refine Tr.t ⟨by omega, by rw [wr_len]; omega⟩ ?_
    rw [Tr.val_ok, wrap64 (i := (j : Int) + 1) (by omega) (by omega)]
    show some (Sum.inl (n, (wr sz (bAt n) (fun _ => [TC.i 0]) (fun p => decide (p < j))).set j (splice ((wr sz (bAt n) (fun _ => [TC.i 0]) (fun p => decide (p < j))).getD j []) 0 (bAt n j)), (sz : Int), ((j + 1 : Nat) : Int))) = _
    rw [e]
  · show (qc_3_step n (wr sz (bAt n) (fun _ => [TC.i 0]) (fun p => decide (p < sz))) (sz : Int) (sz : Int)).val = _
    refine Tr.n (by simp) ?_
    rw [wr_bRows]
    rfl
theorem qc_is3 : LoopIs tab FT D17 live 26 qc_lo 0 3 := by
  refine loop_told (sl := qc_3_sl) (step := qc_3_st) (out := qc_3_out) (lor := qc_lo3) (fin := fun x => (qc_3_fin (x.1) (x.2.1) (x.2.2.1) (x.2.2.2))) (fun _ => rfl) ?_ (fun x n => qc_3_r x.1 x.2.1 x.2.2.1 x.2.2.2 n) (fun x ow => qc_3_h x.1 x.2.1 x.2.2.1 x.2.2.2 ow)
  intro s t h
  unfold qc_lo3 at h
  split at h
  · cases h; exact ⟨(_, _, _, _), rfl, rfl⟩
  · cases h
def qc_t (n size : Int) : Tr (BS) := (.ite (0 ≤ size ∧ size ≤ size ∧ size * 1 ≤ 140737488355328 ∧ size ≤ 140737488355328) (.ite ((qc_o3_1 n (List.replicate (size).toNat [TC.i (0 : Int)]) ((List.replicate (size).toNat [TC.i (0 : Int)]).length : Int) (0 : Int)) = true) (.ok ((qc_u3_1 n (List.replicate (size).toNat [TC.i (0 : Int)]) ((List.replicate (size).toNat [TC.i (0 : Int)]).length : Int) (0 : Int)).map byteOf))
   .no)
  .no)
def qc_mk (p : BS) : Res := [(false, [⟨.str, .sh, TC.s p⟩])]
def qc_c (n size : Int) : Bool := is (∃ sz : Nat, size = (sz : Int) ∧ sz ≤ 8)
def qc_v (n size : Int) : BS := hid (bytesL n size.toNat)
theorem qc_l (n size : Int) : (qc_c n size) = true → (qc_t n size).val = some (qc_v n size) := by
  intro h
  obtain ⟨sz, rfl, h8⟩ := is_iff.1 h
  unfold qc_t
  refine Tr.t (by omega) ?_
  refine Tr.t (is_true ⟨sz, by simp, h8, rfl, rfl⟩) ?_
  unfold qc_v
  rw [hid_eq]; simp; rfl
def qc_S : List Arg → Option (Bool × Res) := fun xs => match xs with
  | [(false, [(.int .i64, TC.i n)]), (false, [(.int .i64, TC.i size)])] => some ((qc_c n size), qc_mk (qc_v n size))
  | _ => .none
theorem qc_e (n size : Int) : runF tab FT D17 live 26 qc_lo [(false, [(.int .i64, TC.i n)]), (false, [(.int .i64, TC.i size)])] = (qc_t n size).run fun p => some (qc_mk p) := by kernel_rfl
theorem qc_s : ∀ xs r, qc_S xs = some (true, r) → runF tab FT D17 live 26 qc_lo xs = some r := by
  intro xs r h
  unfold qc_S at h
  split at h
  · obtain ⟨h1, rfl⟩ := sp h
    exact fun_told (qc_e ..) (qc_l _ _) h1
  · cases h
def D18 : Dt := also D17 26 qc_S
theorem d18 : DOk Go.Proofs.Try.prog tab D18 := d17.also mixed_ok tab_ok names_ok (fnLoops_one (by kernel_rfl) qc_is3) qc_s
theorem qc_h {n size : Int} : qc_v n size = bytesL n size.toNat := hid_eq _
def qy_t (s : BS) (n : Int) : Tr (BS) := (.ite ((qbc_c (IntKind.wrap .i64 (n - (s.length : Int)))) = true) (.ite (((s.length + (qbc_v (IntKind.wrap .i64 (n - (s.length : Int)))).length : Nat) : Int) ≤ 9223372036854775807) (.ok (s ++ (qbc_v (IntKind.wrap .i64 (n - (s.length : Int))))))
   .no)
  .no)
def qy_mk (p : BS) : Res := [(false, [⟨.str, .sh, TC.s p⟩])]
def qy_c (s : BS) (n : Int) : Bool := is (∃ m : Nat, n = (m : Int) ∧ s.length ≤ m ∧ m ≤ 65536)
def qy_v (s : BS) (n : Int) : BS := hid (padL s n.toNat)
theorem qy_l (s : BS) (n : Int) : (qy_c s n) = true → (qy_t s n).val = some (qy_v s n) := by
  intro h
  obtain ⟨m, rfl, h0, h1⟩ := is_iff.1 h
  unfold qy_t qy_v
  have e : IntKind.wrap .i64 ((m : Int) - (s.length : Int)) = ((m - s.length : Nat) : Int) := by rw [wrap64 (by omega) (by omega)]; omega
  rw [hid_eq, e, qbc_h, Int.toNat_natCast, Int.toNat_natCast]
  refine Tr.t (is_true ⟨by omega, by omega⟩) ?_
  refine Tr.t (by rw [List.length_replicate]; omega) ?_
  rfl
def qy_S : List Arg → Option (Bool × Res) := fun xs => match xs with
  | [(false, [(.str, TC.s s)]), (false, [(.int .i64, TC.i n)])] => some ((qy_c s n), qy_mk (qy_v s n))
  | _ => .none
theorem qy_e (s : BS) (n : Int) : runF tab FT D18 live 27 noLoops [(false, [(.str, TC.s s)]), (false, [(.int .i64, TC.i n)])] = (qy_t s n).run fun p => some (qy_mk p) := by kernel_rfl
theorem qy_s : ∀ xs r, qy_S xs = some (true, r) → runF tab FT D18 live 27 noLoops xs = some r := by
  intro xs r h
  unfold qy_S at h
  split at h
  · obtain ⟨h1, rfl⟩ := sp h
    exact fun_told (qy_e ..) (qy_l _ _) h1
  · cases h
def D19 : Dt := also D18 27 qy_S
theorem d19 : DOk Go.Proofs.Try.prog tab D19 := d18.also mixed_ok tab_ok names_ok noLoops_ok qy_s
theorem qy_h {s : BS} {n : Int} : qy_v s n = padL s n.toNat := hid_eq _
theorem qc_l1 {n : Int} : (qc_v n (1 : Int)).length = 1 := by rw [qc_h]; exact bytesL_len
theorem qc_l2 {n : Int} : (qc_v n (2 : Int)).length = 2 := by rw [qc_h]; exact bytesL_len
theorem qc_l8 {n : Int} : (qc_v n (8 : Int)).length = 8 := by rw [qc_h]; exact bytesL_len
def qm_t (bl lg sq tn : Int) : Tr (BS) := (.ite ((qc_c (1 : Int) (1 : Int)) = true) (.ite ((([65, 82, 82, 83].length + (qc_v (1 : Int) (1 : Int)).length : Nat) : Int) ≤ 9223372036854775807) (.ite ((qc_c bl (2 : Int)) = true) (.ite (((([65, 82, 82, 83] ++ (qc_v (1 : Int) (1 : Int))).length + (qc_v bl (2 : Int)).length : Nat) : Int) ≤ 9223372036854775807) (.ite ((qc_c lg (2 : Int)) = true) (.ite ((((([65, 82, 82, 83] ++ (qc_v (1 : Int) (1 : Int))) ++ (qc_v bl (2 : Int))).length + (qc_v lg (2 : Int)).length : Nat) : Int) ≤ 9223372036854775807) (.ite ((qc_c sq (8 : Int)) = true) (.ite (((((([65, 82, 82, 83] ++ (qc_v (1 : Int) (1 : Int))) ++ (qc_v bl (2 : Int))) ++ (qc_v lg (2 : Int))).length + (qc_v sq (8 : Int)).length : Nat) : Int) ≤ 9223372036854775807) (.ite ((qc_c tn (8 : Int)) = true) (.ite ((((((([65, 82, 82, 83] ++ (qc_v (1 : Int) (1 : Int))) ++ (qc_v bl (2 : Int))) ++ (qc_v lg (2 : Int))) ++ (qc_v sq (8 : Int))).length + (qc_v tn (8 : Int)).length : Nat) : Int) ≤ 9223372036854775807) (.ite ((qy_c ((((([65, 82, 82, 83] ++ (qc_v (1 : Int) (1 : Int))) ++ (qc_v bl (2 : Int))) ++ (qc_v lg (2 : Int))) ++ (qc_v sq (8 : Int))) ++ (qc_v tn (8 : Int))) (32 : Int)) = true) (.ite ((((qy_v ((((([65, 82, 82, 83] ++ (qc_v (1 : Int) (1 : Int))) ++ (qc_v bl (2 : Int))) ++ (qc_v lg (2 : Int))) ++ (qc_v sq (8 : Int))) ++ (qc_v tn (8 : Int))) (32 : Int)).length + (qy_v ((((([65, 82, 82, 83] ++ (qc_v (1 : Int) (1 : Int))) ++ (qc_v bl (2 : Int))) ++ (qc_v lg (2 : Int))) ++ (qc_v sq (8 : Int))) ++ (qc_v tn (8 : Int))) (32 : Int)).length : Nat) : Int) ≤ 9223372036854775807) (.ok ((qy_v ((((([65, 82, 82, 83] ++ (qc_v (1 : Int) (1 : Int))) ++ (qc_v bl (2 : Int))) ++ (qc_v lg (2 : Int))) ++ (qc_v sq (8 : Int))) ++ (qc_v tn (8 : Int))) (32 : Int)) ++ (qy_v ((((([65, 82, 82, 83] ++ (qc_v (1 : Int) (1 : Int))) ++ (qc_v bl (2 : Int))) ++ (qc_v lg (2 : Int))) ++ (qc_v sq (8 : Int))) ++ (qc_v tn (8 : Int))) (32 : Int))))
             .no)
            .no)
           .no)
          .no)
         .no)
        .no)
       .no)
      .no)
     .no)
    .no)
   .no)
  .no)
def qm_mk (p : BS) : Res := [(false, [⟨.str, .sh, TC.s p⟩])]
def qm_c (bl lg sq tn : Int) : Bool := ((qc_c (1 : Int) (1 : Int)) && (is ((([65, 82, 82, 83].length + (qc_v (1 : Int) (1 : Int)).length : Nat) : Int) ≤ 9223372036854775807) && ((qc_c bl (2 : Int)) && (is (((([65, 82, 82, 83] ++ (qc_v (1 : Int) (1 : Int))).length + (qc_v bl (2 : Int)).length : Nat) : Int) ≤ 9223372036854775807) && ((qc_c lg (2 : Int)) && (is ((((([65, 82, 82, 83] ++ (qc_v (1 : Int) (1 : Int))) ++ (qc_v bl (2 : Int))).length + (qc_v lg (2 : Int)).length : Nat) : Int) ≤ 9223372036854775807) && ((qc_c sq (8 : Int)) && (is (((((([65, 82, 82, 83] ++ (qc_v (1 : Int) (1 : Int))) ++ (qc_v bl (2 : Int))) ++ (qc_v lg (2 : Int))).length + (qc_v sq (8 : Int)).length : Nat) : Int) ≤ 9223372036854775807) && ((qc_c tn (8 : Int)) && (is ((((((([65, 82, 82, 83] ++ (qc_v (1 : Int) (1 : Int))) ++ (qc_v bl (2 : Int))) ++ (qc_v lg (2 : Int))) ++ (qc_v sq (8 : Int))).length + (qc_v tn (8 : Int)).length : Nat) : Int) ≤ 9223372036854775807) && ((qy_c ((((([65, 82, 82, 83] ++ (qc_v (1 : Int) (1 : Int))) ++ (qc_v bl (2 : Int))) ++ (qc_v lg (2 : Int))) ++ (qc_v sq (8 : Int))) ++ (qc_v tn (8 : Int))) (32 : Int)) && (is ((((qy_v ((((([65, 82, 82, 83] ++ (qc_v (1 : Int) (1 : Int))) ++ (qc_v bl (2 : Int))) ++ (qc_v lg (2 : Int))) ++ (qc_v sq (8 : Int))) ++ (qc_v tn (8 : Int))) (32 : Int)).length + (qy_v ((((([65, 82, 82, 83] ++ (qc_v (1 : Int) (1 : Int))) ++ (qc_v bl (2 : Int))) ++ (qc_v lg (2 : Int))) ++ (qc_v sq (8 : Int))) ++ (qc_v tn (8 : Int))) (32 : Int)).length : Nat) : Int) ≤ 9223372036854775807) && true))))))))))))
def qm_v (bl lg sq tn : Int) : BS := hid (((qy_v ((((([65, 82, 82, 83] ++ (qc_v (1 : Int) (1 : Int))) ++ (qc_v bl (2 : Int))) ++ (qc_v lg (2 : Int))) ++ (qc_v sq (8 : Int))) ++ (qc_v tn (8 : Int))) (32 : Int)) ++ (qy_v ((((([65, 82, 82, 83] ++ (qc_v (1 : Int) (1 : Int))) ++ (qc_v bl (2 : Int))) ++ (qc_v lg (2 : Int))) ++ (qc_v sq (8 : Int))) ++ (qc_v tn (8 : Int))) (32 : Int))))
theorem qm_l (bl lg sq tn : Int) : (qm_c bl lg sq tn) = true → (qm_t bl lg sq tn).val = some (qm_v bl lg sq tn) := by
  unfold qm_t qm_v qm_c
  rw [hid_eq]
  exact fun h => (Tr.gb h fun h => (Tr.gs h fun h => (Tr.gb h fun h => (Tr.gs h fun h => (Tr.gb h fun h => (Tr.gs h fun h => (Tr.gb h fun h => (Tr.gs h fun h => (Tr.gb h fun h => (Tr.gs h fun h => (Tr.gb h fun h => (Tr.gs h fun h => rfl))))))))))))
def qm_S : List Arg → Option (Bool × Res) := fun xs => match xs with
  | [(true, [(.int .i64, TC.i bl), (.int .i64, TC.i lg), (.int .i64, TC.i sq), (.int .i64, TC.i tn)])] => some ((qm_c bl lg sq tn), qm_mk (qm_v bl lg sq tn))
  | _ => .none
theorem qm_e (bl lg sq tn : Int) : runF tab FT D19 live 13 noLoops [(true, [(.int .i64, TC.i bl), (.int .i64, TC.i lg), (.int .i64, TC.i sq), (.int .i64, TC.i tn)])] = (qm_t bl lg sq tn).run fun p => some (qm_mk p) := by kernel_rfl
theorem qm_s : ∀ xs r, qm_S xs = some (true, r) → runF tab FT D19 live 13 noLoops xs = some r := by
  intro xs r h
  unfold qm_S at h
  split at h
  · obtain ⟨h1, rfl⟩ := sp h
    exact fun_told (qm_e ..) (qm_l _ _ _ _) h1
  · cases h
def D20 : Dt := also D19 13 qm_S
theorem d20 : DOk Go.Proofs.Try.prog tab D20 := d19.also mixed_ok tab_ok names_ok noLoops_ok qm_s
theorem qm_cc {bl : Int} {lg : Int} {sq : Int} {tn : Int}  : (qm_c bl lg sq tn) = true := by
  unfold qm_c
  refine andT (by first | exact is_true ⟨1, rfl, by omega⟩ | exact is_true ⟨2, rfl, by omega⟩ | exact is_true ⟨8, rfl, by omega⟩) ?_
  refine andT (is_true (by simp only [List.length_append, List.length_cons, List.length_nil, qc_l1, qc_l2, qc_l8]; omega)) ?_
  refine andT (by first | exact is_true ⟨1, rfl, by omega⟩ | exact is_true ⟨2, rfl, by omega⟩ | exact is_true ⟨8, rfl, by omega⟩) ?_
  refine andT (is_true (by simp only [List.length_append, List.length_cons, List.length_nil, qc_l1, qc_l2, qc_l8]; omega)) ?_
  refine andT (by first | exact is_true ⟨1, rfl, by omega⟩ | exact is_true ⟨2, rfl, by omega⟩ | exact is_true ⟨8, rfl, by omega⟩) ?_
  refine andT (is_true (by simp only [List.length_append, List.length_cons, List.length_nil, qc_l1, qc_l2, qc_l8]; omega)) ?_
  refine andT (by first | exact is_true ⟨1, rfl, by omega⟩ | exact is_true ⟨2, rfl, by omega⟩ | exact is_true ⟨8, rfl, by omega⟩) ?_
  refine andT (is_true (by simp only [List.length_append, List.length_cons, List.length_nil, qc_l1, qc_l2, qc_l8]; omega)) ?_
  refine andT (by first | exact is_true ⟨1, rfl, by omega⟩ | exact is_true ⟨2, rfl, by omega⟩ | exact is_true ⟨8, rfl, by omega⟩) ?_
  refine andT (is_true (by simp only [List.length_append, List.length_cons, List.length_nil, qc_l1, qc_l2, qc_l8]; omega)) ?_
  refine andT (by exact is_true ⟨32, rfl, by simp only [List.length_append, List.length_cons, List.length_nil, qc_l1, qc_l2, qc_l8]; omega, by omega⟩) ?_
  refine andT (is_true (by rw [qy_h, padL_len (by simp only [List.length_append, List.length_cons, List.length_nil, qc_l1, qc_l2, qc_l8]; decide)]; decide)) ?_
  rfl
theorem qm_h {bl lg sq tn : Int} : qm_v bl lg sq tn = padL ([65, 82, 82, 83] ++ bytesL 1 1 ++ bytesL bl 2 ++ bytesL lg 2 ++ bytesL sq 8 ++ bytesL tn 8) 32 ++ padL ([65, 82, 82, 83] ++ bytesL 1 1 ++ bytesL bl 2 ++ bytesL lg 2 ++ bytesL sq 8 ++ bytesL tn 8) 32 := by
  unfold qm_v
  rw [hid_eq, qy_h]
  simp only [qc_h]
  rfl
theorem impl_vs {bl lg : Int} : qw_v bl lg (0 : Int) (0 : Int) = superOk bl lg := by
  unfold qw_v qz_v superOk
  have hb : ∀ p q : Bool, (bif p then q else false) = (p && q) := fun p q => by cases p <;> rfl
  simp only [hb]
  rw [Bool.eq_iff_iff]
  simp only [Bool.and_eq_true, decide_eq_true_eq]
  by_cases h1 : 16 ≤ bl ∧ bl ≤ 256
  · rw [wrap64 (i := bl - 4) (by omega) (by omega)]
    split <;> omega
  · constructor <;> (intro h; exact absurd ⟨by omega, by omega⟩ h1)
theorem newDisk_1 {bl : Int} (h0 : 16 ≤ bl) (h1 : bl ≤ 256) : qr_v bl = (zeroB (List.replicate 64 0) bl.toNat, [], -1, 0) := by
  unfold qr_v
  rw [show qz_v bl 16 256 = true from by unfold qz_v; simp_all]
  show ((List.replicate bl.toNat [[TC.s (qbc_v 64)]]).flatten, _, _, _) = _
  rw [qbc_h]
  unfold zeroB
  have e : ∀ (k : Nat) (x : List TC), (List.replicate k [x]).flatten = List.replicate k x := fun k x => by
    induction k with
    | zero => rfl
    | succ k ih => rw [List.replicate_succ, List.flatten_cons, ih]; rfl
  rw [e]
  rfl
def qb_t (bl lg : Int) : Tr (LL × LL × Int × Int) := (.ite ((!(qw_v bl lg (0 : Int) (0 : Int))) = true) (.ok ([], [], (0 : Int), (2 : Int)))
  (.ite ((qr_c bl) = true) (.ite ((qm_c bl lg (0 : Int) (0 : Int)) = true) (.ite ((0 : Int) ≤ (0 : Int) ∧ (0 : Int) < (((qr_v bl).1).length : Int)) (.ok ((((qr_v bl).1).set ((0 : Int)).toNat (splice (row ((qr_v bl).1) (0 : Int)) 0 [TC.s (qm_v bl lg (0 : Int) (0 : Int))])), (qr_v bl).2.1, (qr_v bl).2.2.1, (0 : Int)))
     .no)
    .no)
   .no))
def qb_mk (p : LL × LL × Int × Int) : Res := [(true, [⟨.slice 9, .own true, TC.l (p.1)⟩, ⟨.slice 50, .own true, TC.l (p.2.1)⟩, ⟨.int .i64, .sh, TC.i (p.2.2.1)⟩, ⟨.bool, .sh, TC.b false⟩]), (false, [⟨.int .i64, .sh, TC.i (p.2.2.2)⟩])]
def qb_c (bl lg : Int) : Bool := (bif (!(qw_v bl lg (0 : Int) (0 : Int))) then true else ((qr_c bl) && ((qm_c bl lg (0 : Int) (0 : Int)) && (is ((0 : Int) ≤ (0 : Int) ∧ (0 : Int) < (((qr_v bl).1).length : Int)) && true))))
def qb_v (bl lg : Int) : LL × LL × Int × Int := (bif (!(qw_v bl lg (0 : Int) (0 : Int))) then ([], [], (0 : Int), (2 : Int)) else ((((qr_v bl).1).set ((0 : Int)).toNat (splice (row ((qr_v bl).1) (0 : Int)) 0 [TC.s (qm_v bl lg (0 : Int) (0 : Int))])), (qr_v bl).2.1, (qr_v bl).2.2.1, (0 : Int)))
theorem qb_l (bl lg : Int) : (qb_c bl lg) = true → (qb_t bl lg).val = some (qb_v bl lg) := by
  unfold qb_t qb_v qb_c
  exact fun h => (Tr.ss h (fun h => rfl) (fun h => (Tr.gb h fun h => (Tr.gb h fun h => (Tr.gs h fun h => rfl)))))
def qb_S : List Arg → Option (Bool × Res) := fun xs => match xs with
  | [(false, [(.int .i64, TC.i bl)]), (false, [(.int .i64, TC.i lg)])] => some ((qb_c bl lg), qb_mk (qb_v bl lg))
  | _ => .none
theorem qb_e (bl lg : Int) : runF tab FT D20 live 5 noLoops [(false, [(.int .i64, TC.i bl)]), (false, [(.int .i64, TC.i lg)])] = (qb_t bl lg).run fun p => some (qb_mk p) := by kernel_rfl
theorem qb_s : ∀ xs r, qb_S xs = some (true, r) → runF tab FT D20 live 5 noLoops xs = some r := by
  intro xs r h
  unfold qb_S at h
  split at h
  · obtain ⟨h1, rfl⟩ := sp h
    exact fun_told (qb_e ..) (qb_l _ _) h1
  · cases h
def D21 : Dt := also D20 5 qb_S
theorem d21 : DOk Go.Proofs.Try.prog tab D21 := d20.also mixed_ok tab_ok names_ok noLoops_ok qb_s
theorem qb_cc {bl : Int} {lg : Int}  : (qb_c bl lg) = true := by
  unfold qb_c
  refine bifT (fun b1 => ?_) (fun b1 => ?_)
  · skip
    rfl
  · skip
    refine andT (by exact qr_cc) ?_
    refine andT (by exact qm_cc) ?_
    refine andT (is_true (by have hv := superOk_i (bl := bl) (lg := lg) (by rw [← impl_vs]; simpa using b1); rw [newDisk_1 hv.1 hv.2.1]; exact ⟨by omega, by unfold zeroB; rw [List.length_replicate]; omega⟩)) ?_
    rfl
theorem qb_vv (bl lg : Int) : qb_v bl lg = ((fmtV bl lg).1, [], (fmtV bl lg).2.1, (fmtV bl lg).2.2) := by
  unfold qb_v fmtV
  rw [impl_vs]
  cases h : superOk bl lg with
  | false => rfl
  | true =>
    have hs := superOk_i h
    rw [newDisk_1 hs.1 hs.2.1, qm_h]
    show ((zeroB (List.replicate 64 0) bl.toNat).set 0 (splice (row (zeroB (List.replicate 64 0) bl.toNat) (0 : Int)) 0 [TC.s _]), _, _, _) = _
    rw [zeroB_splice (by omega)]
    rfl
abbrev qj_4_σ := LL × LL × Int
abbrev qj_4_ω := (Unit) ⊕ (Unit)
def qj_4_step (A C : LL) (i : Int) : Tr (qj_4_σ ⊕ qj_4_ω) := (.ite ((decide (i < (A.length : Int))) = true) (.ite ((0 : Int) ≤ i ∧ i < (A.length : Int)) (.ite ((0 : Int) ≤ i ∧ i < (C.length : Int)) (.ite ((!((nth (row A i) 0).str == (nth (row C i) 0).str)) = true) (.ok (.inr (.inl ())))
     (.ok (.inl (A, C, (IntKind.wrap .i64 (i + (1 : Int)))))))
    .no)
   .no)
  (.ok (.inr (.inr ()))))
def qj_4_st : qj_4_σ → Tr (qj_4_σ ⊕ qj_4_ω) := fun x => (qj_4_step (x.1) (x.2.1) (x.2.2))
def qj_o4_1 (A C : LL) (i : Int) : Bool := is (A = C ∧ i = 0 ∧ Typed tab (.slice 9) (.l A))
def qj_4_fin (A C : LL) (i : Int) : Told qj_4_ω := (.leaf (qj_o4_1 A C i) (.inr ()))
def qj_4_sl (x : qj_4_σ) : List Slot := [⟨.val false [⟨.slice 9, .sh, TC.l (x.1)⟩], ⟨0, 0⟩⟩, ⟨.val false [⟨.slice 9, .sh, TC.l (x.2.1)⟩], ⟨0, 0⟩⟩, ⟨.val false [⟨.int .i64, .sh, TC.i (x.2.2)⟩], ⟨0, 0⟩⟩]
def qj_4_out : qj_4_ω → Ex × List Slot := (Sum.elim (fun x => (.ret, [⟨.val false [⟨.bool, .sh, TC.b false⟩], ⟨0, 0⟩⟩])) (fun x => (.exit 0, [Slot.none])))
def qj_lo4 : List Slot → Option (Told (Ex × List Slot)) := fun s => match s with
  | [⟨.val false [⟨.slice 9, .sh, TC.l A⟩], ⟨0, 0⟩⟩, ⟨.val false [⟨.slice 9, .sh, TC.l C⟩], ⟨0, 0⟩⟩, ⟨.val false [⟨.int .i64, .sh, TC.i i⟩], ⟨0, 0⟩⟩] => some (((qj_4_fin A C i)).map qj_4_out)
  | _ => .none
def qj_lo : LoopTeller := fun r s => bif Nat.beq r 4 then qj_lo4 s else .none
theorem qj_4_r (A C : LL) (i : Int) (fuel : Nat) : rounds (rnd tab FT D21 live 14 qj_lo 0 4) leave (fuel + 1) (qj_4_sl (A, C, i)) = ((qj_4_step A C i)).run (goOn (fun s => rounds (rnd tab FT D21 live 14 qj_lo 0 4) leave fuel (qj_4_sl s)) fun w => some (qj_4_out w)) := by kernel_rfl
theorem qj_4_h (A C : LL) (i : Int) (ow : qj_4_ω) : ((qj_4_fin A C i)).val = some ow → ∃ fuel, loopN qj_4_st fuel (A, C, i) = some ow := by
  intro h
  simp only [qj_4_fin, Told.val] at h
  split at h
  · rename_i ho
    obtain ⟨rfl, rfl, ht⟩ := is_iff.1 ho
    cases h
    have hlen : A.length ≤ 140737488351232 := by have := typed_room ht; simp only [show (tab 9).bytes = 16 from rfl] at this; omega
    refine ⟨_, loopN_run (N := A.length) (fun i => (A, A, (i : Int))) (fun i hi => ?_) ?_ A.length 0 (by omega)⟩
    · have c0 : Typed tab (.str) (.s (nth (A.getD i []) 0).str) := typed_s (typed_cell ht (A.getD i []) (mem_getD hi) 0 (by decide))
      show (qj_4_step A A (i : Int)).val = _
      unfold qj_4_step
      refine Tr.t (by simp; omega) ?_
      refine Tr.t (by constructor <;> omega) ?_
      refine Tr.t (by constructor <;> omega) ?_
      refine Tr.n (by simp) ?_
      rw [Tr.val_ok, wrap64 (i := (i : Int) + 1) (by omega) (by omega)]; rfl
    · show (qj_4_step A A (A.length : Int)).val = _
      refine Tr.n (by simp) ?_
      rfl
  · cases h
theorem qj_is4 : LoopIs tab FT D21 live 14 qj_lo 0 4 := by
  refine loop_told (sl := qj_4_sl) (step := qj_4_st) (out := qj_4_out) (lor := qj_lo4) (fin := fun x => (qj_4_fin (x.1) (x.2.1) (x.2.2))) (fun _ => rfl) ?_ (fun x n => qj_4_r x.1 x.2.1 x.2.2 n) (fun x ow => qj_4_h x.1 x.2.1 x.2.2 ow)
  intro s t h
  unfold qj_lo4 at h
  split at h
  · cases h; exact ⟨(_, _, _), rfl, rfl⟩
  · cases h
def qj_t (A C : LL) : Tr (Bool) := (.ite ((!((A.length : Int) == (C.length : Int))) = true) (.ok false)
  (.ite ((qj_o4_1 A C (0 : Int)) = true) (.ok true)
   .no))
def qj_mk (p : Bool) : Res := [(false, [⟨.bool, .sh, TC.b p⟩])]
def qj_c (A C : LL) : Bool := is (A = C ∧ Typed tab (.slice 9) (.l A))
def qj_v (A C : LL) : Bool := true
theorem qj_l (A C : LL) : (qj_c A C) = true → (qj_t A C).val = some (qj_v A C) := by
  intro h
  obtain ⟨rfl, ht⟩ := is_iff.1 h
  unfold qj_t
  refine Tr.n (by simp) ?_
  refine Tr.t (by first | (apply is_true; and_intros <;> (first | rfl | assumption | (apply qk_cc <;> assumption) | (apply qq_cc <;> assumption) | (apply qp_cc <;> assumption) | (apply ql_cc <;> assumption) | (apply qr_cc <;> assumption) | (apply qm_cc <;> assumption) | (apply qb_cc <;> assumption) | (first | (apply is_true; and_intros <;> (first | rfl | assumption | (apply qk_cc <;> assumption) | (apply qq_cc <;> assumption) | (apply qp_cc <;> assumption) | (apply ql_cc <;> assumption) | (apply qr_cc <;> assumption) | (apply qm_cc <;> assumption) | (apply qb_cc <;> assumption) | (first | (apply is_true; and_intros <;> (first | rfl | assumption | (apply qk_cc <;> assumption) | (apply qq_cc <;> assumption) | (apply qp_cc <;> assumption) | (apply ql_cc <;> assumption) | (apply qr_cc <;> assumption) | (apply qm_cc <;> assumption) | (apply qb_cc <;> assumption) | (first | (apply is_true; and_intros <;> (first | rfl | assumption | (apply qk_cc <;> assumption) | (apply qq_cc <;> assumption) | (apply qp_cc <;> assumption) | (apply ql_cc <;> assumption) | (apply qr_cc <;> assumption) | (apply qm_cc <;> assumption) | (apply qb_cc <;> assumption))) | (apply qk_cc <;> assumption) | (apply qq_cc <;> assumption) | (apply qp_cc <;> assumption) | (apply ql_cc <;> assumption) | (apply qr_cc <;> assumption) | (apply qm_cc <;> assumption) | (apply qb_cc <;> assumption)))) | (apply qk_cc <;> assumption) | (apply qq_cc <;> assumption) | (apply qp_cc <;> assumption) | (apply ql_cc <;> assumption) | (apply qr_cc <;> assumption) | (apply qm_cc <;> assumption) | (apply qb_cc <;> assumption)))) | (apply qk_cc <;> assumption) | (apply qq_cc <;> assumption) | (apply qp_cc <;> assumption) | (apply ql_cc <;> assumption) | (apply qr_cc <;> assumption) | (apply qm_cc <;> assumption) | (apply qb_cc <;> assumption)))) | (apply qk_cc <;> assumption) | (apply qq_cc <;> assumption) | (apply qp_cc <;> assumption) | (apply ql_cc <;> assumption) | (apply qr_cc <;> assumption) | (apply qm_cc <;> assumption) | (apply qb_cc <;> assumption)) ?_
  rfl
def qj_S : List Arg → Option (Bool × Res) := fun xs => match xs with
  | [(false, [(.slice 9, TC.l A)]), (false, [(.slice 9, TC.l C)])] => some ((qj_c A C), qj_mk (qj_v A C))
  | _ => .none
theorem qj_e (A C : LL) : runF tab FT D21 live 14 qj_lo [(false, [(.slice 9, TC.l A)]), (false, [(.slice 9, TC.l C)])] = (qj_t A C).run fun p => some (qj_mk p) := by kernel_rfl
theorem qj_s : ∀ xs r, qj_S xs = some (true, r) → runF tab FT D21 live 14 qj_lo xs = some r := by
  intro xs r h
  unfold qj_S at h
  split at h
  · obtain ⟨h1, rfl⟩ := sp h
    exact fun_told (qj_e ..) (qj_l _ _) h1
  · cases h
def D22 : Dt := also D21 14 qj_S
theorem d22 : DOk Go.Proofs.Try.prog tab D22 := d21.also mixed_ok tab_ok names_ok (fnLoops_one (by kernel_rfl) qj_is4) qj_s
def qu_t (x0 : Int) (x1 : BS) (y0 : Int) (y1 : BS) : Tr (Bool) := (.ite ((!(x0 == y0)) = true) (.ok false)
  (.ite ((!(x1 == y1)) = true) (.ok false)
   (.ok true)))
def qu_mk (p : Bool) : Res := [(false, [⟨.bool, .sh, TC.b p⟩])]
def qu_c (x0 : Int) (x1 : BS) (y0 : Int) (y1 : BS) : Bool := is (x0 = y0 ∧ x1 = y1 ∧ Typed tab (.str) (.s x1))
def qu_v (x0 : Int) (x1 : BS) (y0 : Int) (y1 : BS) : Bool := true
theorem qu_l (x0 : Int) (x1 : BS) (y0 : Int) (y1 : BS) : (qu_c x0 x1 y0 y1) = true → (qu_t x0 x1 y0 y1).val = some (qu_v x0 x1 y0 y1) := by
  intro h
  obtain ⟨rfl, rfl, t0⟩ := is_iff.1 h
  unfold qu_t
  refine Tr.n (by simp) ?_
  refine Tr.n (by simp) ?_
  rfl
def qu_S : List Arg → Option (Bool × Res) := fun xs => match xs with
  | [(true, [(.int .i64, TC.i x0), (.str, TC.s x1)]), (true, [(.int .i64, TC.i y0), (.str, TC.s y1)])] => some ((qu_c x0 x1 y0 y1), qu_mk (qu_v x0 x1 y0 y1))
  | _ => .none
theorem qu_e (x0 : Int) (x1 : BS) (y0 : Int) (y1 : BS) : runF tab FT D22 live 28 noLoops [(true, [(.int .i64, TC.i x0), (.str, TC.s x1)]), (true, [(.int .i64, TC.i y0), (.str, TC.s y1)])] = (qu_t x0 x1 y0 y1).run fun p => some (qu_mk p) := by kernel_rfl
theorem qu_s : ∀ xs r, qu_S xs = some (true, r) → runF tab FT D22 live 28 noLoops xs = some r := by
  intro xs r h
  unfold qu_S at h
  split at h
  · obtain ⟨h1, rfl⟩ := sp h
    exact fun_told (qu_e ..) (qu_l _ _ _ _) h1
  · cases h
def D23 : Dt := also D22 28 qu_S
theorem d23 : DOk Go.Proofs.Try.prog tab D23 := d22.also mixed_ok tab_ok names_ok noLoops_ok qu_s
abbrev qn_4_σ := LL × LL × Int
abbrev qn_4_ω := (Unit) ⊕ (Unit)
def qn_4_step (A C : LL) (i : Int) : Tr (qn_4_σ ⊕ qn_4_ω) := (.ite ((decide (i < (A.length : Int))) = true) (.ite ((0 : Int) ≤ i ∧ i < (A.length : Int)) (.ite ((0 : Int) ≤ i ∧ i < (C.length : Int)) (.ite ((qu_c ((nth (row A i) 0).int) ((nth (row A i) 1).str) ((nth (row C i) 0).int) ((nth (row C i) 1).str)) = true) (.ite ((!(qu_v ((nth (row A i) 0).int) ((nth (row A i) 1).str) ((nth (row C i) 0).int) ((nth (row C i) 1).str))) = true) (.ok (.inr (.inl ())))
      (.ok (.inl (A, C, (IntKind.wrap .i64 (i + (1 : Int)))))))
     .no)
    .no)
   .no)
  (.ok (.inr (.inr ()))))
def qn_4_st : qn_4_σ → Tr (qn_4_σ ⊕ qn_4_ω) := fun x => (qn_4_step (x.1) (x.2.1) (x.2.2))
def qn_o4_1 (A C : LL) (i : Int) : Bool := is (A = C ∧ i = 0 ∧ Typed tab (.slice 50) (.l A))
def qn_4_fin (A C : LL) (i : Int) : Told qn_4_ω := (.leaf (qn_o4_1 A C i) (.inr ()))
def qn_4_sl (x : qn_4_σ) : List Slot := [⟨.val false [⟨.slice 50, .sh, TC.l (x.1)⟩], ⟨0, 0⟩⟩, ⟨.val false [⟨.slice 50, .sh, TC.l (x.2.1)⟩], ⟨0, 0⟩⟩, ⟨.val false [⟨.int .i64, .sh, TC.i (x.2.2)⟩], ⟨0, 0⟩⟩]
def qn_4_out : qn_4_ω → Ex × List Slot := (Sum.elim (fun x => (.ret, [⟨.val false [⟨.bool, .sh, TC.b false⟩], ⟨0, 0⟩⟩])) (fun x => (.exit 0, [Slot.none])))
def qn_lo4 : List Slot → Option (Told (Ex × List Slot)) := fun s => match s with
  | [⟨.val false [⟨.slice 50, .sh, TC.l A⟩], ⟨0, 0⟩⟩, ⟨.val false [⟨.slice 50, .sh, TC.l C⟩], ⟨0, 0⟩⟩, ⟨.val false [⟨.int .i64, .sh, TC.i i⟩], ⟨0, 0⟩⟩] => some (((qn_4_fin A C i)).map qn_4_out)
  | _ => .none
def qn_lo : LoopTeller := fun r s => bif Nat.beq r 4 then qn_lo4 s else .none
theorem qn_4_r (A C : LL) (i : Int) (fuel : Nat) : rounds (rnd tab FT D23 live 15 qn_lo 0 4) leave (fuel + 1) (qn_4_sl (A, C, i)) = ((qn_4_step A C i)).run (goOn (fun s => rounds (rnd tab FT D23 live 15 qn_lo 0 4) leave fuel (qn_4_sl s)) fun w => some (qn_4_out w)) := by kernel_rfl
theorem qn_4_h (A C : LL) (i : Int) (ow : qn_4_ω) : ((qn_4_fin A C i)).val = some ow → ∃ fuel, loopN qn_4_st fuel (A, C, i) = some ow := by
  intro h
  simp only [qn_4_fin, Told.val] at h
  split at h
  · rename_i ho
    obtain ⟨rfl, rfl, ht⟩ := is_iff.1 ho
    cases h
    have hlen : A.length ≤ 140737488351232 := by have := typed_room ht; simp only [show (tab 50).bytes = 24 from rfl] at this; omega
    refine ⟨_, loopN_run (N := A.length) (fun i => (A, A, (i : Int))) (fun i hi => ?_) ?_ A.length 0 (by omega)⟩
    · have c1 : Typed tab (.str) (.s (nth (A.getD i []) 1).str) := typed_s (typed_cell ht (A.getD i []) (mem_getD hi) 1 (by decide))
      show (qn_4_step A A (i : Int)).val = _
      unfold qn_4_step
      refine Tr.t (by simp; omega) ?_
      refine Tr.t (by constructor <;> omega) ?_
      refine Tr.t (by constructor <;> omega) ?_
      refine Tr.t (by first | (apply is_true; and_intros <;> (first | rfl | assumption | (apply qk_cc <;> assumption) | (apply qq_cc <;> assumption) | (apply qp_cc <;> assumption) | (apply ql_cc <;> assumption) | (apply qr_cc <;> assumption) | (apply qm_cc <;> assumption) | (apply qb_cc <;> assumption) | (first | (apply is_true; and_intros <;> (first | rfl | assumption | (apply qk_cc <;> assumption) | (apply qq_cc <;> assumption) | (apply qp_cc <;> assumption) | (apply ql_cc <;> assumption) | (apply qr_cc <;> assumption) | (apply qm_cc <;> assumption) | (apply qb_cc <;> assumption) | (first | (apply is_true; and_intros <;> (first | rfl | assumption | (apply qk_cc <;> assumption) | (apply qq_cc <;> assumption) | (apply qp_cc <;> assumption) | (apply ql_cc <;> assumption) | (apply qr_cc <;> assumption) | (apply qm_cc <;> assumption) | (apply qb_cc <;> assumption) | (first | (apply is_true; and_intros <;> (first | rfl | assumption | (apply qk_cc <;> assumption) | (apply qq_cc <;> assumption) | (apply qp_cc <;> assumption) | (apply ql_cc <;> assumption) | (apply qr_cc <;> assumption) | (apply qm_cc <;> assumption) | (apply qb_cc <;> assumption))) | (apply qk_cc <;> assumption) | (apply qq_cc <;> assumption) | (apply qp_cc <;> assumption) | (apply ql_cc <;> assumption) | (apply qr_cc <;> assumption) | (apply qm_cc <;> assumption) | (apply qb_cc <;> assumption)))) | (apply qk_cc <;> assumption) | (apply qq_cc <;> assumption) | (apply qp_cc <;> assumption) | (apply ql_cc <;> assumption) | (apply qr_cc <;> assumption) | (apply qm_cc <;> assumption) | (apply qb_cc <;> assumption)))) | (apply qk_cc <;> assumption) | (apply qq_cc <;> assumption) | (apply qp_cc <;> assumption) | (apply ql_cc <;> assumption) | (apply qr_cc <;> assumption) | (apply qm_cc <;> assumption) | (apply qb_cc <;> assumption)))) | (apply qk_cc <;> assumption) | (apply qq_cc <;> assumption) | (apply qp_cc <;> assumption) | (apply ql_cc <;> assumption) | (apply qr_cc <;> assumption) | (apply qm_cc <;> assumption) | (apply qb_cc <;> assumption)) ?_
      refine Tr.n (by simp [qu_v]) ?_
      rw [Tr.val_ok, wrap64 (i := (i : Int) + 1) (by omega) (by omega)]; rfl
    · show (qn_4_step A A (A.length : Int)).val = _
      refine Tr.n (by simp) ?_
      rfl
  · cases h
theorem qn_is4 : LoopIs tab FT D23 live 15 qn_lo 0 4 := by
  refine loop_told (sl := qn_4_sl) (step := qn_4_st) (out := qn_4_out) (lor := qn_lo4) (fin := fun x => (qn_4_fin (x.1) (x.2.1) (x.2.2))) (fun _ => rfl) ?_ (fun x n => qn_4_r x.1 x.2.1 x.2.2 n) (fun x ow => qn_4_h x.1 x.2.1 x.2.2 ow)
  intro s t h
  unfold qn_lo4 at h
  split at h
  · cases h; exact ⟨(_, _, _), rfl, rfl⟩
  · cases h
def qn_t (A C : LL) : Tr (Bool) := (.ite ((!((A.length : Int) == (C.length : Int))) = true) (.ok false)
  (.ite ((qn_o4_1 A C (0 : Int)) = true) (.ok true)
   .no))
def qn_mk (p : Bool) : Res := [(false, [⟨.bool, .sh, TC.b p⟩])]
def qn_c (A C : LL) : Bool := is (A = C ∧ Typed tab (.slice 50) (.l A))
def qn_v (A C : LL) : Bool := true
theorem qn_l (A C : LL) : (qn_c A C) = true → (qn_t A C).val = some (qn_v A C) := by
  intro h
  obtain ⟨rfl, ht⟩ := is_iff.1 h
  unfold qn_t
  refine Tr.n (by simp) ?_
  refine Tr.t (by first | (apply is_true; and_intros <;> (first | rfl | assumption | (apply qk_cc <;> assumption) | (apply qq_cc <;> assumption) | (apply qp_cc <;> assumption) | (apply ql_cc <;> assumption) | (apply qr_cc <;> assumption) | (apply qm_cc <;> assumption) | (apply qb_cc <;> assumption) | (first | (apply is_true; and_intros <;> (first | rfl | assumption | (apply qk_cc <;> assumption) | (apply qq_cc <;> assumption) | (apply qp_cc <;> assumption) | (apply ql_cc <;> assumption) | (apply qr_cc <;> assumption) | (apply qm_cc <;> assumption) | (apply qb_cc <;> assumption) | (first | (apply is_true; and_intros <;> (first | rfl | assumption | (apply qk_cc <;> assumption) | (apply qq_cc <;> assumption) | (apply qp_cc <;> assumption) | (apply ql_cc <;> assumption) | (apply qr_cc <;> assumption) | (apply qm_cc <;> assumption) | (apply qb_cc <;> assumption) | (first | (apply is_true; and_intros <;> (first | rfl | assumption | (apply qk_cc <;> assumption) | (apply qq_cc <;> assumption) | (apply qp_cc <;> assumption) | (apply ql_cc <;> assumption) | (apply qr_cc <;> assumption) | (apply qm_cc <;> assumption) | (apply qb_cc <;> assumption))) | (apply qk_cc <;> assumption) | (apply qq_cc <;> assumption) | (apply qp_cc <;> assumption) | (apply ql_cc <;> assumption) | (apply qr_cc <;> assumption) | (apply qm_cc <;> assumption) | (apply qb_cc <;> assumption)))) | (apply qk_cc <;> assumption) | (apply qq_cc <;> assumption) | (apply qp_cc <;> assumption) | (apply ql_cc <;> assumption) | (apply qr_cc <;> assumption) | (apply qm_cc <;> assumption) | (apply qb_cc <;> assumption)))) | (apply qk_cc <;> assumption) | (apply qq_cc <;> assumption) | (apply qp_cc <;> assumption) | (apply ql_cc <;> assumption) | (apply qr_cc <;> assumption) | (apply qm_cc <;> assumption) | (apply qb_cc <;> assumption)))) | (apply qk_cc <;> assumption) | (apply qq_cc <;> assumption) | (apply qp_cc <;> assumption) | (apply ql_cc <;> assumption) | (apply qr_cc <;> assumption) | (apply qm_cc <;> assumption) | (apply qb_cc <;> assumption)) ?_
  rfl
def qn_S : List Arg → Option (Bool × Res) := fun xs => match xs with
  | [(false, [(.slice 50, TC.l A)]), (false, [(.slice 50, TC.l C)])] => some ((qn_c A C), qn_mk (qn_v A C))
  | _ => .none
theorem qn_e (A C : LL) : runF tab FT D23 live 15 qn_lo [(false, [(.slice 50, TC.l A)]), (false, [(.slice 50, TC.l C)])] = (qn_t A C).run fun p => some (qn_mk p) := by kernel_rfl
theorem qn_s : ∀ xs r, qn_S xs = some (true, r) → runF tab FT D23 live 15 qn_lo xs = some r := by
  intro xs r h
  unfold qn_S at h
  split at h
  · obtain ⟨h1, rfl⟩ := sp h
    exact fun_told (qn_e ..) (qn_l _ _) h1
  · cases h
def D24 : Dt := also D23 15 qn_S
theorem d24 : DOk Go.Proofs.Try.prog tab D24 := d23.also mixed_ok tab_ok names_ok (fnLoops_one (by kernel_rfl) qn_is4) qn_s
def qt_t (x0 x1 : LL) (x2 : Int) (x3 : Bool) (y0 y1 : LL) (y2 : Int) (y3 : Bool) : Tr (Bool) := (.ite ((qj_c x0 y0) = true) (.ite ((!(qj_v x0 y0)) = true) (.ok false)
   (.ite ((qn_c x1 y1) = true) (.ite ((!(qn_v x1 y1)) = true) (.ok false)
     (.ite ((!(x2 == y2)) = true) (.ok false)
      (.ite ((!(x3 == y3)) = true) (.ok false)
       (.ok true))))
    .no))
  .no)
def qt_mk (p : Bool) : Res := [(false, [⟨.bool, .sh, TC.b p⟩])]
def qt_c (x0 x1 : LL) (x2 : Int) (x3 : Bool) (y0 y1 : LL) (y2 : Int) (y3 : Bool) : Bool := is (x0 = y0 ∧ x1 = y1 ∧ x2 = y2 ∧ x3 = y3 ∧ Typed tab (.slice 9) (.l x0) ∧ Typed tab (.slice 50) (.l x1))
def qt_v (x0 x1 : LL) (x2 : Int) (x3 : Bool) (y0 y1 : LL) (y2 : Int) (y3 : Bool) : Bool := true
theorem qt_l (x0 x1 : LL) (x2 : Int) (x3 : Bool) (y0 y1 : LL) (y2 : Int) (y3 : Bool) : (qt_c x0 x1 x2 x3 y0 y1 y2 y3) = true → (qt_t x0 x1 x2 x3 y0 y1 y2 y3).val = some (qt_v x0 x1 x2 x3 y0 y1 y2 y3) := by
  intro h
  obtain ⟨rfl, rfl, rfl, rfl, t0, t1⟩ := is_iff.1 h
  unfold qt_t
  refine Tr.t (by first | (apply is_true; and_intros <;> (first | rfl | assumption | (apply qk_cc <;> assumption) | (apply qq_cc <;> assumption) | (apply qp_cc <;> assumption) | (apply ql_cc <;> assumption) | (apply qr_cc <;> assumption) | (apply qm_cc <;> assumption) | (apply qb_cc <;> assumption) | (first | (apply is_true; and_intros <;> (first | rfl | assumption | (apply qk_cc <;> assumption) | (apply qq_cc <;> assumption) | (apply qp_cc <;> assumption) | (apply ql_cc <;> assumption) | (apply qr_cc <;> assumption) | (apply qm_cc <;> assumption) | (apply qb_cc <;> assumption) | (first | (apply is_true; and_intros <;> (first | rfl | assumption | (apply qk_cc <;> assumption) | (apply qq_cc <;> assumption) | (apply qp_cc <;> assumption) | (apply ql_cc <;> assumption) | (apply qr_cc <;> assumption) | (apply qm_cc <;> assumption) | (apply qb_cc <;> assumption) | (first | (apply is_true; and_intros <;> (first | rfl | assumption | (apply qk_cc <;> assumption) | (apply qq_cc <;> assumption) | (apply qp_cc <;> assumption) | (apply ql_cc <;> assumption) | (apply qr_cc <;> assumption) | (apply qm_cc <;> assumption) | (apply qb_cc <;> assumption))) | (apply qk_cc <;> assumption) | (apply qq_cc <;> assumption) | (apply qp_cc <;> assumption) | (apply ql_cc <;> assumption) | (apply qr_cc <;> assumption) | (apply qm_cc <;> assumption) | (apply qb_cc <;> assumption)))) | (apply qk_cc <;> assumption) | (apply qq_cc <;> assumption) | (apply qp_cc <;> assumption) | (apply ql_cc <;> assumption) | (apply qr_cc <;> assumption) | (apply qm_cc <;> assumption) | (apply qb_cc <;> assumption)))) | (apply qk_cc <;> assumption) | (apply qq_cc <;> assumption) | (apply qp_cc <;> assumption) | (apply ql_cc <;> assumption) | (apply qr_cc <;> assumption) | (apply qm_cc <;> assumption) | (apply qb_cc <;> assumption)))) | (apply qk_cc <;> assumption) | (apply qq_cc <;> assumption) | (apply qp_cc <;> assumption) | (apply ql_cc <;> assumption) | (apply qr_cc <;> assumption) | (apply qm_cc <;> assumption) | (apply qb_cc <;> assumption)) ?_
  refine Tr.n (by simp [qj_v]) ?_
  refine Tr.t (by first | (apply is_true; and_intros <;> (first | rfl | assumption | (apply qk_cc <;> assumption) | (apply qq_cc <;> assumption) | (apply qp_cc <;> assumption) | (apply ql_cc <;> assumption) | (apply qr_cc <;> assumption) | (apply qm_cc <;> assumption) | (apply qb_cc <;> assumption) | (first | (apply is_true; and_intros <;> (first | rfl | assumption | (apply qk_cc <;> assumption) | (apply qq_cc <;> assumption) | (apply qp_cc <;> assumption) | (apply ql_cc <;> assumption) | (apply qr_cc <;> assumption) | (apply qm_cc <;> assumption) | (apply qb_cc <;> assumption) | (first | (apply is_true; and_intros <;> (first | rfl | assumption | (apply qk_cc <;> assumption) | (apply qq_cc <;> assumption) | (apply qp_cc <;> assumption) | (apply ql_cc <;> assumption) | (apply qr_cc <;> assumption) | (apply qm_cc <;> assumption) | (apply qb_cc <;> assumption) | (first | (apply is_true; and_intros <;> (first | rfl | assumption | (apply qk_cc <;> assumption) | (apply qq_cc <;> assumption) | (apply qp_cc <;> assumption) | (apply ql_cc <;> assumption) | (apply qr_cc <;> assumption) | (apply qm_cc <;> assumption) | (apply qb_cc <;> assumption))) | (apply qk_cc <;> assumption) | (apply qq_cc <;> assumption) | (apply qp_cc <;> assumption) | (apply ql_cc <;> assumption) | (apply qr_cc <;> assumption) | (apply qm_cc <;> assumption) | (apply qb_cc <;> assumption)))) | (apply qk_cc <;> assumption) | (apply qq_cc <;> assumption) | (apply qp_cc <;> assumption) | (apply ql_cc <;> assumption) | (apply qr_cc <;> assumption) | (apply qm_cc <;> assumption) | (apply qb_cc <;> assumption)))) | (apply qk_cc <;> assumption) | (apply qq_cc <;> assumption) | (apply qp_cc <;> assumption) | (apply ql_cc <;> assumption) | (apply qr_cc <;> assumption) | (apply qm_cc <;> assumption) | (apply qb_cc <;> assumption)))) | (apply qk_cc <;> assumption) | (apply qq_cc <;> assumption) | (apply qp_cc <;> assumption) | (apply ql_cc <;> assumption) | (apply qr_cc <;> assumption) | (apply qm_cc <;> assumption) | (apply qb_cc <;> assumption)) ?_
  refine Tr.n (by simp [qn_v]) ?_
  refine Tr.n (by simp) ?_
  refine Tr.n (by simp) ?_
  rfl
def qt_S : List Arg → Option (Bool × Res) := fun xs => match xs with
  | [(true, [(.slice 9, TC.l x0), (.slice 50, TC.l x1), (.int .i64, TC.i x2), (.bool, TC.b x3)]), (true, [(.slice 9, TC.l y0), (.slice 50, TC.l y1), (.int .i64, TC.i y2), (.bool, TC.b y3)])] => some ((qt_c x0 x1 x2 x3 y0 y1 y2 y3), qt_mk (qt_v x0 x1 x2 x3 y0 y1 y2 y3))
  | _ => .none
theorem qt_e (x0 x1 : LL) (x2 : Int) (x3 : Bool) (y0 y1 : LL) (y2 : Int) (y3 : Bool) : runF tab FT D24 live 6 noLoops [(true, [(.slice 9, TC.l x0), (.slice 50, TC.l x1), (.int .i64, TC.i x2), (.bool, TC.b x3)]), (true, [(.slice 9, TC.l y0), (.slice 50, TC.l y1), (.int .i64, TC.i y2), (.bool, TC.b y3)])] = (qt_t x0 x1 x2 x3 y0 y1 y2 y3).run fun p => some (qt_mk p) := by kernel_rfl
theorem qt_s : ∀ xs r, qt_S xs = some (true, r) → runF tab FT D24 live 6 noLoops xs = some r := by
  intro xs r h
  unfold qt_S at h
  split at h
  · obtain ⟨h1, rfl⟩ := sp h
    exact fun_told (qt_e ..) (qt_l _ _ _ _ _ _ _ _) h1
  · cases h
def D25 : Dt := also D24 6 qt_S
theorem d25 : DOk Go.Proofs.Try.prog tab D25 := d24.also mixed_ok tab_ok names_ok noLoops_ok qt_s
abbrev qg_4_σ := Int × BS
abbrev qg_4_ω := (BS)
def qg_4_step (k : Int) (s : BS) : Tr (qg_4_σ ⊕ qg_4_ω) := (.ite ((decide (k > (0 : Int))) = true) (.ite (((([[TC.i (IntKind.wrap .u8 (IntKind.wrap .i64 ((48 : Int) + (Int.tmod k (10 : Int)))))]].map byteOf).length + s.length : Nat) : Int) ≤ 9223372036854775807) (.ok (.inl ((IntKind.wrap .i64 (Int.tdiv k (10 : Int))), (([[TC.i (IntKind.wrap .u8 (IntKind.wrap .i64 ((48 : Int) + (Int.tmod k (10 : Int)))))]].map byteOf) ++ s))))
   .no)
  (.ok (.inr s)))
def qg_4_st : qg_4_σ → Tr (qg_4_σ ⊕ qg_4_ω) := fun x => (qg_4_step (x.1) (x.2))
def qg_o4_1 (k : Int) (s : BS) : Bool := is (0 ≤ k ∧ k ≤ 4611686018427387904 ∧ s.length ≤ 16)
def qg_u4_1 (k : Int) (s : BS) : BS := digitsF digT 19 k s
def qg_4_fin (k : Int) (s : BS) : Told qg_4_ω := (.leaf (qg_o4_1 k s) (qg_u4_1 k s))
def qg_4_sl (x : qg_4_σ) : List Slot := [⟨.val false [⟨.int .i64, .sh, TC.i (x.1)⟩], ⟨0, 0⟩⟩, ⟨.val false [⟨.str, .sh, TC.s (x.2)⟩], ⟨0, 0⟩⟩]
def qg_4_out : qg_4_ω → Ex × List Slot := (fun x => (.exit 0, [Slot.none, ⟨.val false [⟨.str, .sh, TC.s x⟩], ⟨0, 0⟩⟩]))
def qg_lo4 : List Slot → Option (Told (Ex × List Slot)) := fun s => match s with
  | [⟨.val false [⟨.int .i64, .sh, TC.i k⟩], ⟨0, 0⟩⟩, ⟨.val false [⟨.str, .sh, TC.s s⟩], ⟨0, 0⟩⟩] => some (((qg_4_fin k s)).map qg_4_out)
  | _ => .none
def qg_lo : LoopTeller := fun r s => bif Nat.beq r 4 then qg_lo4 s else .none
theorem qg_4_r (k : Int) (s : BS) (fuel : Nat) : rounds (rnd tab FT D25 live 29 qg_lo 0 4) leave (fuel + 1) (qg_4_sl (k, s)) = ((qg_4_step k s)).run (goOn (fun s => rounds (rnd tab FT D25 live 29 qg_lo 0 4) leave fuel (qg_4_sl s)) fun w => some (qg_4_out w)) := by kernel_rfl
theorem qg_4_h (k : Int) (s : BS) (ow : qg_4_ω) : ((qg_4_fin k s)).val = some ow → ∃ fuel, loopN qg_4_st fuel (k, s) = some ow := by
  intro h
  refine auto_leaf (R := digitsF digT 19 k s) (fun ho => ?_) h
  obtain ⟨h0, h1, h2⟩ := is_iff.1 ho
  refine ⟨20, loopN_digits (step := qg_4_st) digT digT_len (fun k s => (k, s)) (fun s => s) 4611686018427387904 (fun k s h0 h1 h2 => ?_) (fun k s h0 => ?_) 19 k s (by have : (10 : Int) ^ 19 = 10000000000000000000 := rfl; omega) h1 (by omega)⟩
  · show (qg_4_step k s).val = _
    unfold qg_4_step
    refine Tr.t (by simpa using h0) ?_
    refine Tr.t (by simp only [List.length_map, List.length_singleton]; omega) ?_
    rw [Tr.val_ok, tdiv10 (by omega) (by omega)]
    rfl
  · show (qg_4_step k s).val = _
    unfold qg_4_step
    refine Tr.n (by simpa using h0) ?_
    rfl
theorem qg_is4 : LoopIs tab FT D25 live 29 qg_lo 0 4 := by
  refine loop_told (sl := qg_4_sl) (step := qg_4_st) (out := qg_4_out) (lor := qg_lo4) (fin := fun x => (qg_4_fin (x.1) (x.2))) (fun _ => rfl) ?_ (fun x n => qg_4_r x.1 x.2 n) (fun x ow => qg_4_h x.1 x.2 ow)
  intro s t h
  unfold qg_lo4 at h
  split at h
  · cases h; exact ⟨(_, _), rfl, rfl⟩
  · cases h
def qg_t (k : Int) : Tr (BS) := (.ite ((decide (k ≤ (0 : Int))) = true) (.ok ([109, 48]))
  (.ite ((qg_o4_1 k []) = true) (.ite ((([109].length + (qg_u4_1 k []).length : Nat) : Int) ≤ 9223372036854775807) (.ok ([109] ++ (qg_u4_1 k [])))
    .no)
   .no))
def qg_mk (p : BS) : Res := [(false, [⟨.str, .sh, TC.s p⟩])]
def qg_c (k : Int) : Bool := (bif (decide (k ≤ (0 : Int))) then true else ((qg_o4_1 k []) && (is ((([109].length + (qg_u4_1 k []).length : Nat) : Int) ≤ 9223372036854775807) && true)))
def qg_v (k : Int) : BS := hid ((bif (decide (k ≤ (0 : Int))) then [109, 48] else ([109] ++ (qg_u4_1 k []))))
theorem qg_l (k : Int) : (qg_c k) = true → (qg_t k).val = some (qg_v k) := by
  unfold qg_t qg_v qg_c
  rw [hid_eq]
  exact fun h => (Tr.ss h (fun h => rfl) (fun h => (Tr.gb h fun h => (Tr.gs h fun h => rfl))))
def qg_S : List Arg → Option (Bool × Res) := fun xs => match xs with
  | [(false, [(.int .i64, TC.i k)])] => some ((qg_c k), qg_mk (qg_v k))
  | _ => .none
theorem qg_e (k : Int) : runF tab FT D25 live 29 qg_lo [(false, [(.int .i64, TC.i k)])] = (qg_t k).run fun p => some (qg_mk p) := by kernel_rfl
theorem qg_s : ∀ xs r, qg_S xs = some (true, r) → runF tab FT D25 live 29 qg_lo xs = some r := by
  intro xs r h
  unfold qg_S at h
  split at h
  · obtain ⟨h1, rfl⟩ := sp h
    exact fun_told (qg_e _) (qg_l _) h1
  · cases h
def D26 : Dt := also D25 29 qg_S
theorem d26 : DOk Go.Proofs.Try.prog tab D26 := d25.also mixed_ok tab_ok names_ok (fnLoops_one (by kernel_rfl) qg_is4) qg_s
theorem qg_cc {k : Int} (h0 : 0 ≤ k) (h1 : k ≤ 4611686018427387904) : (qg_c k) = true := by
  unfold qg_c
  refine bifT (fun b1 => ?_) (fun b1 => ?_)
  · skip
    rfl
  · skip
    refine andT (by exact is_true ⟨h0, h1, by decide⟩) ?_
    refine andT (is_true (by have := digitsF_len digT_len 19 k []; simp only [qg_u4_1, List.length_cons, List.length_nil] at *; omega)) ?_
    rfl
def mkR_9 (k : Int) : List TC := [TC.s (qg_v k)]
def mkL_9 (k : Int) (n : Nat) : LL := madeL (fun i => mkR_9 (k + 1 * (i : Int))) n
theorem mkL_9_length {k : Int} {n : Nat} : (mkL_9 k n).length = n := madeL_length
abbrev qe_2_σ := Int × Int × LL
abbrev qe_2_ω := (Int × LL)
def qe_2_step (k i : Int) (A : LL) : Tr (qe_2_σ ⊕ qe_2_ω) := (.ite ((decide (i < (A.length : Int))) = true) (.ite ((qg_c k) = true) (.ite ((0 : Int) ≤ i ∧ i < (A.length : Int)) (.ok (.inl ((IntKind.wrap .i64 (k + (1 : Int))), (IntKind.wrap .i64 (i + (1 : Int))), (A.set (i).toNat (splice (row A i) 0 [TC.s (qg_v k)])))))
    .no)
   .no)
  (.ok (.inr (k, A))))
def qe_2_st : qe_2_σ → Tr (qe_2_σ ⊕ qe_2_ω) := fun x => (qe_2_step (x.1) (x.2.1) (x.2.2))
def qe_o2_1 (k i : Int) (A : LL) : Bool := is ((∀ x, x ∈ A → x.length = 1) ∧ A.length ≤ 140737488351232 ∧ 0 ≤ k ∧ k ≤ 2305843009213693952 ∧ i = 0)
def qe_u2_1_0 (k i : Int) (A : LL) : Int := k + 1 * (A.length : Int)
def qe_u2_1_1 (k i : Int) (A : LL) : LL := mkL_9 k A.length
def qe_2_fin (k i : Int) (A : LL) : Told qe_2_ω := (.leaf (qe_o2_1 k i A) ((qe_u2_1_0 k i A), (qe_u2_1_1 k i A)))
def qe_2_sl (x : qe_2_σ) : List Slot := [⟨.gal false 0 1, ⟨0, 0⟩⟩, ⟨.val false [⟨.int .i64, .sh, TC.i (x.1)⟩], ⟨0, 0⟩⟩, ⟨.val false [⟨.int .i64, .sh, TC.i (x.2.1)⟩], ⟨0, 0⟩⟩, ⟨.gv [⟨.slice 9, .own true, TC.l (x.2.2)⟩], ⟨0, 0⟩⟩]
def qe_2_out : qe_2_ω → Ex × List Slot := (fun x => (.exit 0, [⟨.val false [⟨.int .i64, .sh, TC.i (x.1)⟩], ⟨0, 0⟩⟩, Slot.none, ⟨.gv [⟨.slice 9, .own true, TC.l (x.2)⟩], ⟨0, 0⟩⟩]))
def qe_lo2 : List Slot → Option (Told (Ex × List Slot)) := fun s => match s with
  | [⟨.gal false 0 1, ⟨0, 0⟩⟩, ⟨.val false [⟨.int .i64, .sh, TC.i k⟩], ⟨0, 0⟩⟩, ⟨.val false [⟨.int .i64, .sh, TC.i i⟩], ⟨0, 0⟩⟩, ⟨.gv [⟨.slice 9, .own true, TC.l A⟩], ⟨0, 0⟩⟩] => some (((qe_2_fin k i A)).map qe_2_out)
  | _ => .none
def qe_lo : LoopTeller := fun r s => bif Nat.beq r 2 then qe_lo2 s else .none
theorem qe_2_r (k i : Int) (A : LL) (fuel : Nat) : rounds (rnd tab FT D26 live 16 qe_lo 0 2) leave (fuel + 1) (qe_2_sl (k, i, A)) = ((qe_2_step k i A)).run (goOn (fun s => rounds (rnd tab FT D26 live 16 qe_lo 0 2) leave fuel (qe_2_sl s)) fun w => some (qe_2_out w)) := by kernel_rfl
theorem qe_2_h (k i : Int) (A : LL) (ow : qe_2_ω) : ((qe_2_fin k i A)).val = some ow → ∃ fuel, loopN qe_2_st fuel (k, i, A) = some ow := by
  intro h
  refine auto_leaf (R := (k + 1 * (A.length : Int), mkL_9 k A.length)) (fun ho => ?_) h
  obtain ⟨hr, hl, h0, h1, rfl⟩ := is_iff.1 ho
  have key := loopN_over (step := qe_2_st) A 1 (fun i => mkR_9 (k + 1 * (i : Int))) (fun Y i => (k + 1 * (i : Int), (i : Int), Y)) (k + 1 * (A.length : Int), mkL_9 k A.length) hr (fun _ => rfl) (fun Y i hi hY hy => ?_) ?_ A.length 0 (by omega)
  · exact ⟨A.length + 1, Eq.trans (congrArg (loopN qe_2_st (A.length + 1)) (by simp [madeL])) key⟩
  · obtain ⟨kk, hkk⟩ : ∃ kk : Int, kk = k + 1 * (i : Int) := ⟨_, rfl⟩
    have hk0 : 0 ≤ kk := by omega
    have hk1 : kk + 1 ≤ 4611686018427387904 := by omega
    have hy : ∃ y0, row Y (i : Int) = [y0] := len_1 hy
    obtain ⟨y0, hy⟩ := hy
    have hiY : i < Y.length := by omega
    show (qe_2_step (k + 1 * (i : Int)) (i : Int) Y).val = _
    rw [← hkk]
    unfold qe_2_step
    rw [wrap64 (i := kk + 1) (by omega) (by omega)]
    try rw [wrap64 (i := kk) (by omega) (by omega)]
    refine Tr.t (by simp; omega) ?_
    refine Tr.t (qg_cc (by omega) (by omega)) ?_
    refine Tr.t (by constructor <;> (try simp only [List.length_set]) <;> omega) ?_
    rw [Tr.val_ok, wrap64 (i := (i : Int) + 1) (by omega) (by omega)]
    simp only [Int.toNat_natCast, hy, row_set, List.length_set, hiY, List.set_set]
    show some (Sum.inl (_, _, _)) = some (Sum.inl (_, _, _))
    rw [show k + 1 * ((i + 1 : Nat) : Int) = kk + 1 from by omega]
    rfl
  · show (qe_2_step (k + 1 * (A.length : Int)) (A.length : Int) (mkL_9 k A.length)).val = _
    unfold qe_2_step
    refine Tr.n (by simp [mkL_9_length]) ?_
    rfl
theorem qe_is2 : LoopIs tab FT D26 live 16 qe_lo 0 2 := by
  refine loop_told (sl := qe_2_sl) (step := qe_2_st) (out := qe_2_out) (lor := qe_lo2) (fin := fun x => (qe_2_fin (x.1) (x.2.1) (x.2.2))) (fun _ => rfl) ?_ (fun x n => qe_2_r x.1 x.2.1 x.2.2 n) (fun x ow => qe_2_h x.1 x.2.1 x.2.2 ow)
  intro s t h
  unfold qe_lo2 at h
  split at h
  · cases h; exact ⟨(_, _, _), rfl, rfl⟩
  · cases h
def qe_t (A : LL) (k : Int) : Tr (LL × Int) := (.ite ((qe_o2_1 k (0 : Int) A) = true) (.ok ((qe_u2_1_1 k (0 : Int) A), (qe_u2_1_0 k (0 : Int) A)))
  .no)
def qe_mk (p : LL × Int) : Res := [(true, [⟨.slice 9, .own true, TC.l (p.1)⟩]), (false, [⟨.int .i64, .sh, TC.i (p.2)⟩])]
def qe_c (A : LL) (k : Int) : Bool := is ((∀ x, x ∈ A → x.length = 1) ∧ A.length ≤ 140737488351232 ∧ 0 ≤ k ∧ k ≤ 2305843009213693952)
def qe_v (A : LL) (k : Int) : LL × Int := (mkL_9 k A.length, k + 1 * (A.length : Int))
theorem qe_l (A : LL) (k : Int) : (qe_c A k) = true → (qe_t A k).val = some (qe_v A k) := by
  intro h
  obtain ⟨hr, hl, h0, h1⟩ := is_iff.1 h
  unfold qe_t
  exact Tr.t (is_true ⟨hr, hl, h0, h1, rfl⟩) rfl
def qe_S : List Arg → Option (Bool × Res) := fun xs => match xs with
  | [(false, [(.slice 9, TC.l A)]), (false, [(.int .i64, TC.i k)])] => some ((qe_c A k), qe_mk (qe_v A k))
  | _ => .none
theorem qe_e (A : LL) (k : Int) : runFW false tab FT D26 live 16 qe_lo (false, [(.slice 9, TC.l A)]) [(false, [(.int .i64, TC.i k)])] = (qe_t A k).run fun p => some (qe_mk p) := by kernel_rfl
theorem qe_s0 : ∀ ys r, qe_S ys = some (true, r) → ∀ a0 xs, ys = a0 :: xs → runFW false tab FT D26 live 16 qe_lo a0 xs = some r := by
  intro ys r h
  unfold qe_S at h
  split at h
  · obtain ⟨h1, rfl⟩ := sp h
    intro a0 xs e
    cases e
    exact fun_toldW (qe_e ..) (qe_l _ _) h1
  · cases h
theorem qe_s : ∀ a0 xs r, qe_S (a0 :: xs) = some (true, r) → runFW false tab FT D26 live 16 qe_lo a0 xs = some r := fun a0 xs r h => qe_s0 _ r h a0 xs rfl
def D27 : Dt := alsoW D26 16 qe_S
theorem d27 : DOk Go.Proofs.Try.prog tab D27 := d26.alsoW mixed_ok tab_ok names_ok (fnLoops_one (by kernel_rfl) qe_is2) qe_s
theorem qe_cc {A : LL} {k : Int} (ht : Typed tab (.slice 9) (.l A)) (hl : A.length ≤ 140737488351232) (h0 : 0 ≤ k) (h1 : k ≤ 2305843009213693952) : qe_c A k = true := is_true ⟨typed_rows ht rfl, hl, h0, h1⟩
theorem qe_v2 {A : LL} {k : Int} : (qe_v A k).2 = k + 1 * (A.length : Int) := rfl
def mkR_50 (k : Int) : List TC := [TC.i k, TC.s (qg_v (k + 1))]
def mkL_50 (k : Int) (n : Nat) : LL := madeL (fun i => mkR_50 (k + 2 * (i : Int))) n
theorem mkL_50_length {k : Int} {n : Nat} : (mkL_50 k n).length = n := madeL_length
abbrev qh_2_σ := Int × Int × LL
abbrev qh_2_ω := (Int × LL)
def qh_2_step (k i : Int) (A : LL) : Tr (qh_2_σ ⊕ qh_2_ω) := (.ite ((decide (i < (A.length : Int))) = true) (.ite ((0 : Int) ≤ i ∧ i < (A.length : Int)) (.ite ((qg_c (IntKind.wrap .i64 (k + (1 : Int)))) = true) (.ite ((0 : Int) ≤ i ∧ i < ((A.set (i).toNat (splice (row A i) 0 [TC.i k])).length : Int)) (.ok (.inl ((IntKind.wrap .i64 ((IntKind.wrap .i64 (k + (1 : Int))) + (1 : Int))), (IntKind.wrap .i64 (i + (1 : Int))), ((A.set (i).toNat (splice (row A i) 0 [TC.i k])).set (i).toNat (splice (row (A.set (i).toNat (splice (row A i) 0 [TC.i k])) i) 1 [TC.s (qg_v (IntKind.wrap .i64 (k + (1 : Int))))])))))
     .no)
    .no)
   .no)
  (.ok (.inr (k, A))))
def qh_2_st : qh_2_σ → Tr (qh_2_σ ⊕ qh_2_ω) := fun x => (qh_2_step (x.1) (x.2.1) (x.2.2))
def qh_o2_1 (k i : Int) (A : LL) : Bool := is ((∀ x, x ∈ A → x.length = 2) ∧ A.length ≤ 140737488351232 ∧ 0 ≤ k ∧ k ≤ 2305843009213693952 ∧ i = 0)
def qh_u2_1_0 (k i : Int) (A : LL) : Int := k + 2 * (A.length : Int)
def qh_u2_1_1 (k i : Int) (A : LL) : LL := mkL_50 k A.length
def qh_2_fin (k i : Int) (A : LL) : Told qh_2_ω := (.leaf (qh_o2_1 k i A) ((qh_u2_1_0 k i A), (qh_u2_1_1 k i A)))
def qh_2_sl (x : qh_2_σ) : List Slot := [⟨.gal false 0 1, ⟨0, 0⟩⟩, ⟨.val false [⟨.int .i64, .sh, TC.i (x.1)⟩], ⟨0, 0⟩⟩, ⟨.val false [⟨.int .i64, .sh, TC.i (x.2.1)⟩], ⟨0, 0⟩⟩, ⟨.gv [⟨.slice 50, .own true, TC.l (x.2.2)⟩], ⟨0, 0⟩⟩]
def qh_2_out : qh_2_ω → Ex × List Slot := (fun x => (.exit 0, [⟨.val false [⟨.int .i64, .sh, TC.i (x.1)⟩], ⟨0, 0⟩⟩, Slot.none, ⟨.gv [⟨.slice 50, .own true, TC.l (x.2)⟩], ⟨0, 0⟩⟩]))
def qh_lo2 : List Slot → Option (Told (Ex × List Slot)) := fun s => match s with
  | [⟨.gal false 0 1, ⟨0, 0⟩⟩, ⟨.val false [⟨.int .i64, .sh, TC.i k⟩], ⟨0, 0⟩⟩, ⟨.val false [⟨.int .i64, .sh, TC.i i⟩], ⟨0, 0⟩⟩, ⟨.gv [⟨.slice 50, .own true, TC.l A⟩], ⟨0, 0⟩⟩] => some (((qh_2_fin k i A)).map qh_2_out)
  | _ => .none
def qh_lo : LoopTeller := fun r s => bif Nat.beq r 2 then qh_lo2 s else .none
theorem qh_2_r (k i : Int) (A : LL) (fuel : Nat) : rounds (rnd tab FT D27 live 17 qh_lo 0 2) leave (fuel + 1) (qh_2_sl (k, i, A)) = ((qh_2_step k i A)).run (goOn (fun s => rounds (rnd tab FT D27 live 17 qh_lo 0 2) leave fuel (qh_2_sl s)) fun w => some (qh_2_out w)) := by kernel_rfl
theorem qh_2_h (k i : Int) (A : LL) (ow : qh_2_ω) : ((qh_2_fin k i A)).val = some ow → ∃ fuel, loopN qh_2_st fuel (k, i, A) = some ow := by
  intro h
  refine auto_leaf (R := (k + 2 * (A.length : Int), mkL_50 k A.length)) (fun ho => ?_) h
  obtain ⟨hr, hl, h0, h1, rfl⟩ := is_iff.1 ho
  have key := loopN_over (step := qh_2_st) A 2 (fun i => mkR_50 (k + 2 * (i : Int))) (fun Y i => (k + 2 * (i : Int), (i : Int), Y)) (k + 2 * (A.length : Int), mkL_50 k A.length) hr (fun _ => rfl) (fun Y i hi hY hy => ?_) ?_ A.length 0 (by omega)
  · exact ⟨A.length + 1, Eq.trans (congrArg (loopN qh_2_st (A.length + 1)) (by simp [madeL])) key⟩
  · obtain ⟨kk, hkk⟩ : ∃ kk : Int, kk = k + 2 * (i : Int) := ⟨_, rfl⟩
    have hk0 : 0 ≤ kk := by omega
    have hk1 : kk + 2 ≤ 4611686018427387904 := by omega
    have hy : ∃ y0 y1, row Y (i : Int) = [y0, y1] := len_2 hy
    obtain ⟨y0, y1, hy⟩ := hy
    have hiY : i < Y.length := by omega
    show (qh_2_step (k + 2 * (i : Int)) (i : Int) Y).val = _
    rw [← hkk]
    unfold qh_2_step
    rw [wrap64 (i := kk + 1) (by omega) (by omega)]
    rw [wrap64 (i := kk + 1 + 1) (by omega) (by omega)]
    try rw [wrap64 (i := kk) (by omega) (by omega)]
    refine Tr.t (by simp; omega) ?_
    refine Tr.t (by constructor <;> (try simp only [List.length_set]) <;> omega) ?_
    refine Tr.t (qg_cc (by omega) (by omega)) ?_
    refine Tr.t (by constructor <;> (try simp only [List.length_set]) <;> omega) ?_
    rw [Tr.val_ok, wrap64 (i := (i : Int) + 1) (by omega) (by omega)]
    simp only [Int.toNat_natCast, hy, row_set, List.length_set, hiY, List.set_set]
    show some (Sum.inl (_, _, _)) = some (Sum.inl (_, _, _))
    rw [show k + 2 * ((i + 1 : Nat) : Int) = kk + 1 + 1 from by omega]
    rfl
  · show (qh_2_step (k + 2 * (A.length : Int)) (A.length : Int) (mkL_50 k A.length)).val = _
    unfold qh_2_step
    refine Tr.n (by simp [mkL_50_length]) ?_
    rfl
theorem qh_is2 : LoopIs tab FT D27 live 17 qh_lo 0 2 := by
  refine loop_told (sl := qh_2_sl) (step := qh_2_st) (out := qh_2_out) (lor := qh_lo2) (fin := fun x => (qh_2_fin (x.1) (x.2.1) (x.2.2))) (fun _ => rfl) ?_ (fun x n => qh_2_r x.1 x.2.1 x.2.2 n) (fun x ow => qh_2_h x.1 x.2.1 x.2.2 ow)
  intro s t h
  unfold qh_lo2 at h
  split at h
  · cases h; exact ⟨(_, _, _), rfl, rfl⟩
  · cases h
def qh_t (A : LL) (k : Int) : Tr (LL × Int) := (.ite ((qh_o2_1 k (0 : Int) A) = true) (.ok ((qh_u2_1_1 k (0 : Int) A), (qh_u2_1_0 k (0 : Int) A)))
  .no)
def qh_mk (p : LL × Int) : Res := [(true, [⟨.slice 50, .own true, TC.l (p.1)⟩]), (false, [⟨.int .i64, .sh, TC.i (p.2)⟩])]
def qh_c (A : LL) (k : Int) : Bool := is ((∀ x, x ∈ A → x.length = 2) ∧ A.length ≤ 140737488351232 ∧ 0 ≤ k ∧ k ≤ 2305843009213693952)
def qh_v (A : LL) (k : Int) : LL × Int := (mkL_50 k A.length, k + 2 * (A.length : Int))
theorem qh_l (A : LL) (k : Int) : (qh_c A k) = true → (qh_t A k).val = some (qh_v A k) := by
  intro h
  obtain ⟨hr, hl, h0, h1⟩ := is_iff.1 h
  unfold qh_t
  exact Tr.t (is_true ⟨hr, hl, h0, h1, rfl⟩) rfl
def qh_S : List Arg → Option (Bool × Res) := fun xs => match xs with
  | [(false, [(.slice 50, TC.l A)]), (false, [(.int .i64, TC.i k)])] => some ((qh_c A k), qh_mk (qh_v A k))
  | _ => .none
theorem qh_e (A : LL) (k : Int) : runFW false tab FT D27 live 17 qh_lo (false, [(.slice 50, TC.l A)]) [(false, [(.int .i64, TC.i k)])] = (qh_t A k).run fun p => some (qh_mk p) := by kernel_rfl
theorem qh_s0 : ∀ ys r, qh_S ys = some (true, r) → ∀ a0 xs, ys = a0 :: xs → runFW false tab FT D27 live 17 qh_lo a0 xs = some r := by
  intro ys r h
  unfold qh_S at h
  split at h
  · obtain ⟨h1, rfl⟩ := sp h
    intro a0 xs e
    cases e
    exact fun_toldW (qh_e ..) (qh_l _ _) h1
  · cases h
theorem qh_s : ∀ a0 xs r, qh_S (a0 :: xs) = some (true, r) → runFW false tab FT D27 live 17 qh_lo a0 xs = some r := fun a0 xs r h => qh_s0 _ r h a0 xs rfl
def D28 : Dt := alsoW D27 17 qh_S
theorem d28 : DOk Go.Proofs.Try.prog tab D28 := d27.alsoW mixed_ok tab_ok names_ok (fnLoops_one (by kernel_rfl) qh_is2) qh_s
theorem qh_cc {A : LL} {k : Int} (ht : Typed tab (.slice 50) (.l A)) (hl : A.length ≤ 140737488351232) (h0 : 0 ≤ k) (h1 : k ≤ 2305843009213693952) : qh_c A k = true := is_true ⟨typed_rows ht rfl, hl, h0, h1⟩
theorem qh_v2 {A : LL} {k : Int} : (qh_v A k).2 = k + 2 * (A.length : Int) := rfl
def qo_t (a0 a1 : LL) (a2 : Int) (a3 : Bool) (a4 : Int) : Tr (LL × LL × Int × Bool × Int) := (.ite ((qe_c a0 a4) = true) (.ite ((qh_c a1 ((qe_v a0 a4).2)) = true) (.ok ((qe_v a0 a4).1, (qh_v a1 ((qe_v a0 a4).2)).1, a2, a3, (qh_v a1 ((qe_v a0 a4).2)).2))
   .no)
  .no)
def qo_mk (p : LL × LL × Int × Bool × Int) : Res := [(true, [⟨.slice 9, .own true, TC.l (p.1)⟩, ⟨.slice 50, .own true, TC.l (p.2.1)⟩, ⟨.int .i64, .sh, TC.i (p.2.2.1)⟩, ⟨.bool, .sh, TC.b (p.2.2.2.1)⟩]), (false, [⟨.int .i64, .sh, TC.i (p.2.2.2.2)⟩])]
def qo_c (a0 a1 : LL) (a2 : Int) (a3 : Bool) (a4 : Int) : Bool := is (((qe_c a0 a4) = true) ∧ ((qh_c a1 ((qe_v a0 a4).2)) = true))
def qo_v (a0 a1 : LL) (a2 : Int) (a3 : Bool) (a4 : Int) : LL × LL × Int × Bool × Int := ((qe_v a0 a4).1, (qh_v a1 ((qe_v a0 a4).2)).1, a2, a3, (qh_v a1 ((qe_v a0 a4).2)).2)
theorem qo_l (a0 a1 : LL) (a2 : Int) (a3 : Bool) (a4 : Int) : (qo_c a0 a1 a2 a3 a4) = true → (qo_t a0 a1 a2 a3 a4).val = some (qo_v a0 a1 a2 a3 a4) := by
  intro h
  obtain ⟨hc0, hc1⟩ := is_iff.1 h
  unfold qo_t
  exact (Tr.t hc0 (Tr.t hc1 rfl))
def qo_S : List Arg → Option (Bool × Res) := fun xs => match xs with
  | [(true, [(.slice 9, TC.l a0), (.slice 50, TC.l a1), (.int .i64, TC.i a2), (.bool, TC.b a3)]), (false, [(.int .i64, TC.i a4)])] => some ((qo_c a0 a1 a2 a3 a4), qo_mk (qo_v a0 a1 a2 a3 a4))
  | _ => .none
theorem qo_e (a0 a1 : LL) (a2 : Int) (a3 : Bool) (a4 : Int) : runFW false tab FT D28 live 7 noLoops (true, [(.slice 9, TC.l a0), (.slice 50, TC.l a1), (.int .i64, TC.i a2), (.bool, TC.b a3)]) [(false, [(.int .i64, TC.i a4)])] = (qo_t a0 a1 a2 a3 a4).run fun p => some (qo_mk p) := by kernel_rfl
theorem qo_s0 : ∀ ys r, qo_S ys = some (true, r) → ∀ a0 xs, ys = a0 :: xs → runFW false tab FT D28 live 7 noLoops a0 xs = some r := by
  intro ys r h
  unfold qo_S at h
  split at h
  · obtain ⟨h1, rfl⟩ := sp h
    intro a0 xs e
    cases e
    exact fun_toldW (qo_e ..) (qo_l _ _ _ _ _) h1
  · cases h
theorem qo_s : ∀ a0 xs r, qo_S (a0 :: xs) = some (true, r) → runFW false tab FT D28 live 7 noLoops a0 xs = some r := fun a0 xs r h => qo_s0 _ r h a0 xs rfl
def D29 : Dt := alsoW D28 7 qo_S
theorem d29 : DOk Go.Proofs.Try.prog tab D29 := d28.alsoW mixed_ok tab_ok names_ok noLoops_ok qo_s
abbrev qf_2_σ := LL × Int × Int
abbrev qf_2_ω := (Int) ⊕ (Int)
def qf_2_step (A : LL) (k i : Int) : Tr (qf_2_σ ⊕ qf_2_ω) := (.ite ((decide (i < (A.length : Int))) = true) (.ite ((0 : Int) ≤ i ∧ i < (A.length : Int)) (.ite ((qg_c k) = true) (.ite ((!((nth (row A i) 0).str == (qg_v k))) = true) (.ok (.inr (.inl k)))
     (.ok (.inl (A, (IntKind.wrap .i64 (k + (1 : Int))), (IntKind.wrap .i64 (i + (1 : Int)))))))
    .no)
   .no)
  (.ok (.inr (.inr k))))
def qf_2_st : qf_2_σ → Tr (qf_2_σ ⊕ qf_2_ω) := fun x => (qf_2_step (x.1) (x.2.1) (x.2.2))
def qf_o2_1 (A : LL) (k i : Int) : Bool := is (A = mkL_9 k A.length ∧ A.length ≤ 140737488351232 ∧ 0 ≤ k ∧ k ≤ 2305843009213693952 ∧ i = 0)
def qf_u2_1 (A : LL) (k i : Int) : Int := k + 1 * (A.length : Int)
def qf_2_fin (A : LL) (k i : Int) : Told qf_2_ω := (.leaf (qf_o2_1 A k i) (.inr (qf_u2_1 A k i)))
def qf_2_sl (x : qf_2_σ) : List Slot := [⟨.val false [⟨.slice 9, .sh, TC.l (x.1)⟩], ⟨0, 0⟩⟩, ⟨.val false [⟨.int .i64, .sh, TC.i (x.2.1)⟩], ⟨0, 0⟩⟩, ⟨.val false [⟨.int .i64, .sh, TC.i (x.2.2)⟩], ⟨0, 0⟩⟩]
def qf_2_out : qf_2_ω → Ex × List Slot := (Sum.elim (fun x => (.ret, [⟨.val false [⟨.int .i64, .sh, TC.i x⟩], ⟨0, 0⟩⟩, ⟨.val false [⟨.int .i64, .sh, TC.i (-1 : Int)⟩], ⟨0, 0⟩⟩])) (fun x => (.exit 0, [⟨.val false [⟨.int .i64, .sh, TC.i x⟩], ⟨0, 0⟩⟩, Slot.none])))
def qf_lo2 : List Slot → Option (Told (Ex × List Slot)) := fun s => match s with
  | [⟨.val false [⟨.slice 9, .sh, TC.l A⟩], ⟨0, 0⟩⟩, ⟨.val false [⟨.int .i64, .sh, TC.i k⟩], ⟨0, 0⟩⟩, ⟨.val false [⟨.int .i64, .sh, TC.i i⟩], ⟨0, 0⟩⟩] => some (((qf_2_fin A k i)).map qf_2_out)
  | _ => .none
def qf_lo : LoopTeller := fun r s => bif Nat.beq r 2 then qf_lo2 s else .none
theorem qf_2_r (A : LL) (k i : Int) (fuel : Nat) : rounds (rnd tab FT D29 live 18 qf_lo 0 2) leave (fuel + 1) (qf_2_sl (A, k, i)) = ((qf_2_step A k i)).run (goOn (fun s => rounds (rnd tab FT D29 live 18 qf_lo 0 2) leave fuel (qf_2_sl s)) fun w => some (qf_2_out w)) := by kernel_rfl
theorem qf_2_h (A : LL) (k i : Int) (ow : qf_2_ω) : ((qf_2_fin A k i)).val = some ow → ∃ fuel, loopN qf_2_st fuel (A, k, i) = some ow := by
  intro h
  refine auto_leaf (R := Sum.inr (k + 1 * (A.length : Int))) (fun ho => ?_) h
  obtain ⟨hA, hl, h0, h1, rfl⟩ := is_iff.1 ho
  have key := loopN_run (step := qf_2_st) (N := A.length) (w := Sum.inr (k + 1 * (A.length : Int))) (fun i => (A, k + 1 * (i : Int), (i : Int))) (fun i hi => ?_) ?_ A.length 0 (by omega)
  · exact ⟨A.length + 1, Eq.trans (congrArg (loopN qf_2_st (A.length + 1)) (by simp)) key⟩
  · obtain ⟨kk, hkk⟩ : ∃ kk : Int, kk = k + 1 * (i : Int) := ⟨_, rfl⟩
    have hk0 : 0 ≤ kk := by omega
    have hk1 : kk + 1 ≤ 4611686018427387904 := by omega
    have hrow : row A (i : Int) = mkR_9 kk := by
      rw [hA]
      unfold mkL_9
      rw [row_madeL hi, hkk]
    show (qf_2_step A (k + 1 * (i : Int)) (i : Int)).val = _
    rw [← hkk]
    unfold qf_2_step
    rw [hrow]
    rw [wrap64 (i := kk + 1) (by omega) (by omega)]
    try rw [wrap64 (i := kk) (by omega) (by omega)]
    refine Tr.t (by simp; omega) ?_
    refine Tr.t (by constructor <;> omega) ?_
    refine Tr.t (qg_cc (by omega) (by omega)) ?_
    refine Tr.n (by simp [nth, mkR_9, TC.str, TC.int, TC.bool]) ?_
    rw [Tr.val_ok, wrap64 (i := (i : Int) + 1) (by omega) (by omega)]
    show some (Sum.inl (_, _, _)) = some (Sum.inl (_, _, _))
    rw [show k + 1 * ((i + 1 : Nat) : Int) = kk + 1 from by omega]
    rfl
  · show (qf_2_step A (k + 1 * (A.length : Int)) (A.length : Int)).val = _
    unfold qf_2_step
    refine Tr.n (by simp) ?_
    rfl
theorem qf_is2 : LoopIs tab FT D29 live 18 qf_lo 0 2 := by
  refine loop_told (sl := qf_2_sl) (step := qf_2_st) (out := qf_2_out) (lor := qf_lo2) (fin := fun x => (qf_2_fin (x.1) (x.2.1) (x.2.2))) (fun _ => rfl) ?_ (fun x n => qf_2_r x.1 x.2.1 x.2.2 n) (fun x ow => qf_2_h x.1 x.2.1 x.2.2 ow)
  intro s t h
  unfold qf_lo2 at h
  split at h
  · cases h; exact ⟨(_, _, _), rfl, rfl⟩
  · cases h
def qf_t (A : LL) (k : Int) : Tr (Int) := (.ite ((qf_o2_1 A k (0 : Int)) = true) (.ok (qf_u2_1 A k (0 : Int)))
  .no)
def qf_mk (p : Int) : Res := [(false, [⟨.int .i64, .sh, TC.i p⟩])]
def qf_c (A : LL) (k : Int) : Bool := is (A = mkL_9 k A.length ∧ A.length ≤ 140737488351232 ∧ 0 ≤ k ∧ k ≤ 2305843009213693952)
def qf_v (A : LL) (k : Int) : Int := k + 1 * (A.length : Int)
theorem qf_l (A : LL) (k : Int) : (qf_c A k) = true → (qf_t A k).val = some (qf_v A k) := by
  intro h
  obtain ⟨hr, hl, h0, h1⟩ := is_iff.1 h
  unfold qf_t
  exact Tr.t (is_true ⟨hr, hl, h0, h1, rfl⟩) rfl
def qf_S : List Arg → Option (Bool × Res) := fun xs => match xs with
  | [(false, [(.slice 9, TC.l A)]), (false, [(.int .i64, TC.i k)])] => some ((qf_c A k), qf_mk (qf_v A k))
  | _ => .none
theorem qf_e (A : LL) (k : Int) : runF tab FT D29 live 18 qf_lo [(false, [(.slice 9, TC.l A)]), (false, [(.int .i64, TC.i k)])] = (qf_t A k).run fun p => some (qf_mk p) := by kernel_rfl
theorem qf_s : ∀ xs r, qf_S xs = some (true, r) → runF tab FT D29 live 18 qf_lo xs = some r := by
  intro xs r h
  unfold qf_S at h
  split at h
  · obtain ⟨h1, rfl⟩ := sp h
    exact fun_told (qf_e ..) (qf_l _ _) h1
  · cases h
def D30 : Dt := also D29 18 qf_S
theorem d30 : DOk Go.Proofs.Try.prog tab D30 := d29.also mixed_ok tab_ok names_ok (fnLoops_one (by kernel_rfl) qf_is2) qf_s
theorem qf_cc {A : LL} {k : Int} (hl : A.length ≤ 140737488351232) (h0 : 0 ≤ k) (h1 : k ≤ 2305843009213693952) : qf_c (qe_v A k).1 k = true := is_true ⟨by show mkL_9 k A.length = mkL_9 k (mkL_9 k A.length).length; rw [mkL_9_length], by show (mkL_9 k A.length).length ≤ _; rw [mkL_9_length]; exact hl, h0, h1⟩
theorem qf_vm {A : LL} {k : Int} : qf_v (qe_v A k).1 k = (qe_v A k).2 := by
  show k + 1 * ((mkL_9 k A.length).length : Int) = k + 1 * (A.length : Int)
  rw [mkL_9_length]
abbrev qi_2_σ := LL × Int × Int
abbrev qi_2_ω := (Int) ⊕ (Int)
def qi_2_step (A : LL) (k i : Int) : Tr (qi_2_σ ⊕ qi_2_ω) := (.ite ((decide (i < (A.length : Int))) = true) (.ite ((0 : Int) ≤ i ∧ i < (A.length : Int)) (.ite ((!((nth (row A i) 0).int == k)) = true) (.ok (.inr (.inl k)))
    (.ite ((0 : Int) ≤ i ∧ i < (A.length : Int)) (.ite ((qg_c (IntKind.wrap .i64 (k + (1 : Int)))) = true) (.ite ((!((nth (row A i) 1).str == (qg_v (IntKind.wrap .i64 (k + (1 : Int)))))) = true) (.ok (.inr (.inl (IntKind.wrap .i64 (k + (1 : Int))))))
       (.ok (.inl (A, (IntKind.wrap .i64 ((IntKind.wrap .i64 (k + (1 : Int))) + (1 : Int))), (IntKind.wrap .i64 (i + (1 : Int)))))))
      .no)
     .no))
   .no)
  (.ok (.inr (.inr k))))
def qi_2_st : qi_2_σ → Tr (qi_2_σ ⊕ qi_2_ω) := fun x => (qi_2_step (x.1) (x.2.1) (x.2.2))
def qi_o2_1 (A : LL) (k i : Int) : Bool := is (A = mkL_50 k A.length ∧ A.length ≤ 140737488351232 ∧ 0 ≤ k ∧ k ≤ 2305843009213693952 ∧ i = 0)
def qi_u2_1 (A : LL) (k i : Int) : Int := k + 2 * (A.length : Int)
def qi_2_fin (A : LL) (k i : Int) : Told qi_2_ω := (.leaf (qi_o2_1 A k i) (.inr (qi_u2_1 A k i)))
def qi_2_sl (x : qi_2_σ) : List Slot := [⟨.val false [⟨.slice 50, .sh, TC.l (x.1)⟩], ⟨0, 0⟩⟩, ⟨.val false [⟨.int .i64, .sh, TC.i (x.2.1)⟩], ⟨0, 0⟩⟩, ⟨.val false [⟨.int .i64, .sh, TC.i (x.2.2)⟩], ⟨0, 0⟩⟩]
def qi_2_out : qi_2_ω → Ex × List Slot := (Sum.elim (fun x => (.ret, [⟨.val false [⟨.int .i64, .sh, TC.i x⟩], ⟨0, 0⟩⟩, ⟨.val false [⟨.int .i64, .sh, TC.i (-1 : Int)⟩], ⟨0, 0⟩⟩])) (fun x => (.exit 0, [⟨.val false [⟨.int .i64, .sh, TC.i x⟩], ⟨0, 0⟩⟩, Slot.none])))
def qi_lo2 : List Slot → Option (Told (Ex × List Slot)) := fun s => match s with
  | [⟨.val false [⟨.slice 50, .sh, TC.l A⟩], ⟨0, 0⟩⟩, ⟨.val false [⟨.int .i64, .sh, TC.i k⟩], ⟨0, 0⟩⟩, ⟨.val false [⟨.int .i64, .sh, TC.i i⟩], ⟨0, 0⟩⟩] => some (((qi_2_fin A k i)).map qi_2_out)
  | _ => .none
def qi_lo : LoopTeller := fun r s => bif Nat.beq r 2 then qi_lo2 s else .none
theorem qi_2_r (A : LL) (k i : Int) (fuel : Nat) : rounds (rnd tab FT D30 live 19 qi_lo 0 2) leave (fuel + 1) (qi_2_sl (A, k, i)) = ((qi_2_step A k i)).run (goOn (fun s => rounds (rnd tab FT D30 live 19 qi_lo 0 2) leave fuel (qi_2_sl s)) fun w => some (qi_2_out w)) := by kernel_rfl
theorem qi_2_h (A : LL) (k i : Int) (ow : qi_2_ω) : ((qi_2_fin A k i)).val = some ow → ∃ fuel, loopN qi_2_st fuel (A, k, i) = some ow := by
  intro h
  refine auto_leaf (R := Sum.inr (k + 2 * (A.length : Int))) (fun ho => ?_) h
  obtain ⟨hA, hl, h0, h1, rfl⟩ := is_iff.1 ho
  have key := loopN_run (step := qi_2_st) (N := A.length) (w := Sum.inr (k + 2 * (A.length : Int))) (fun i => (A, k + 2 * (i : Int), (i : Int))) (fun i hi => ?_) ?_ A.length 0 (by omega)
  · exact ⟨A.length + 1, Eq.trans (congrArg (loopN qi_2_st (A.length + 1)) (by simp)) key⟩
  · obtain ⟨kk, hkk⟩ : ∃ kk : Int, kk = k + 2 * (i : Int) := ⟨_, rfl⟩
    have hk0 : 0 ≤ kk := by omega
    have hk1 : kk + 2 ≤ 4611686018427387904 := by omega
    have hrow : row A (i : Int) = mkR_50 kk := by
      rw [hA]
      unfold mkL_50
      rw [row_madeL hi, hkk]
    show (qi_2_step A (k + 2 * (i : Int)) (i : Int)).val = _
    rw [← hkk]
    unfold qi_2_step
    rw [hrow]
    rw [wrap64 (i := kk + 1) (by omega) (by omega)]
    rw [wrap64 (i := kk + 1 + 1) (by omega) (by omega)]
    try rw [wrap64 (i := kk) (by omega) (by omega)]
    refine Tr.t (by simp; omega) ?_
    refine Tr.t (by constructor <;> omega) ?_
    refine Tr.n (by simp [nth, mkR_50, TC.str, TC.int, TC.bool]) ?_
    refine Tr.t (by constructor <;> omega) ?_
    refine Tr.t (qg_cc (by omega) (by omega)) ?_
    refine Tr.n (by simp [nth, mkR_50, TC.str, TC.int, TC.bool]) ?_
    rw [Tr.val_ok, wrap64 (i := (i : Int) + 1) (by omega) (by omega)]
    show some (Sum.inl (_, _, _)) = some (Sum.inl (_, _, _))
    rw [show k + 2 * ((i + 1 : Nat) : Int) = kk + 1 + 1 from by omega]
    rfl
  · show (qi_2_step A (k + 2 * (A.length : Int)) (A.length : Int)).val = _
    unfold qi_2_step
    refine Tr.n (by simp) ?_
    rfl
theorem qi_is2 : LoopIs tab FT D30 live 19 qi_lo 0 2 := by
  refine loop_told (sl := qi_2_sl) (step := qi_2_st) (out := qi_2_out) (lor := qi_lo2) (fin := fun x => (qi_2_fin (x.1) (x.2.1) (x.2.2))) (fun _ => rfl) ?_ (fun x n => qi_2_r x.1 x.2.1 x.2.2 n) (fun x ow => qi_2_h x.1 x.2.1 x.2.2 ow)
  intro s t h
  unfold qi_lo2 at h
  split at h
  · cases h; exact ⟨(_, _, _), rfl, rfl⟩
  · cases h
def qi_t (A : LL) (k : Int) : Tr (Int) := (.ite ((qi_o2_1 A k (0 : Int)) = true) (.ok (qi_u2_1 A k (0 : Int)))
  .no)
def qi_mk (p : Int) : Res := [(false, [⟨.int .i64, .sh, TC.i p⟩])]
def qi_c (A : LL) (k : Int) : Bool := is (A = mkL_50 k A.length ∧ A.length ≤ 140737488351232 ∧ 0 ≤ k ∧ k ≤ 2305843009213693952)
def qi_v (A : LL) (k : Int) : Int := k + 2 * (A.length : Int)
theorem qi_l (A : LL) (k : Int) : (qi_c A k) = true → (qi_t A k).val = some (qi_v A k) := by
  intro h
  obtain ⟨hr, hl, h0, h1⟩ := is_iff.1 h
  unfold qi_t
  exact Tr.t (is_true ⟨hr, hl, h0, h1, rfl⟩) rfl
def qi_S : List Arg → Option (Bool × Res) := fun xs => match xs with
  | [(false, [(.slice 50, TC.l A)]), (false, [(.int .i64, TC.i k)])] => some ((qi_c A k), qi_mk (qi_v A k))
  | _ => .none
theorem qi_e (A : LL) (k : Int) : runF tab FT D30 live 19 qi_lo [(false, [(.slice 50, TC.l A)]), (false, [(.int .i64, TC.i k)])] = (qi_t A k).run fun p => some (qi_mk p) := by kernel_rfl
theorem qi_s : ∀ xs r, qi_S xs = some (true, r) → runF tab FT D30 live 19 qi_lo xs = some r := by
  intro xs r h
  unfold qi_S at h
  split at h
  · obtain ⟨h1, rfl⟩ := sp h
    exact fun_told (qi_e ..) (qi_l _ _) h1
  · cases h
def D31 : Dt := also D30 19 qi_S
theorem d31 : DOk Go.Proofs.Try.prog tab D31 := d30.also mixed_ok tab_ok names_ok (fnLoops_one (by kernel_rfl) qi_is2) qi_s
theorem qi_cc {A : LL} {k : Int} (hl : A.length ≤ 140737488351232) (h0 : 0 ≤ k) (h1 : k ≤ 2305843009213693952) : qi_c (qh_v A k).1 k = true := is_true ⟨by show mkL_50 k A.length = mkL_50 k (mkL_50 k A.length).length; rw [mkL_50_length], by show (mkL_50 k A.length).length ≤ _; rw [mkL_50_length]; exact hl, h0, h1⟩
theorem qi_vm {A : LL} {k : Int} : qi_v (qh_v A k).1 k = (qh_v A k).2 := by
  show k + 2 * ((mkL_50 k A.length).length : Int) = k + 2 * (A.length : Int)
  rw [mkL_50_length]
def qs_t (a0 a1 : LL) (a2 : Int) (a3 : Bool) (a4 : Int) : Tr (Int) := (.ite ((qf_c a0 a4) = true) (.ite ((decide ((qf_v a0 a4) < (0 : Int))) = true) (.ok (-1 : Int))
   (.ite ((qi_c a1 (qf_v a0 a4)) = true) (.ite ((decide ((qi_v a1 (qf_v a0 a4)) < (0 : Int))) = true) (.ok (-1 : Int))
     (.ok (qi_v a1 (qf_v a0 a4))))
    .no))
  .no)
def qs_mk (p : Int) : Res := [(false, [⟨.int .i64, .sh, TC.i p⟩])]
def qs_c (a0 a1 : LL) (a2 : Int) (a3 : Bool) (a4 : Int) : Bool := is (((qf_c a0 a4) = true) ∧ ((qi_c a1 (qf_v a0 a4)) = true))
def qs_v (a0 a1 : LL) (a2 : Int) (a3 : Bool) (a4 : Int) : Int := (bif (decide ((qf_v a0 a4) < (0 : Int))) then (-1 : Int) else (bif (decide ((qi_v a1 (qf_v a0 a4)) < (0 : Int))) then (-1 : Int) else (qi_v a1 (qf_v a0 a4))))
theorem qs_l (a0 a1 : LL) (a2 : Int) (a3 : Bool) (a4 : Int) : (qs_c a0 a1 a2 a3 a4) = true → (qs_t a0 a1 a2 a3 a4).val = some (qs_v a0 a1 a2 a3 a4) := by
  intro h
  obtain ⟨g0, g1⟩ := is_iff.1 h
  unfold qs_t qs_v
  exact (Tr.t g0 (Tr.s rfl (Tr.t g1 (Tr.s rfl rfl))))
def qs_S : List Arg → Option (Bool × Res) := fun xs => match xs with
  | [(true, [(.slice 9, TC.l a0), (.slice 50, TC.l a1), (.int .i64, TC.i a2), (.bool, TC.b a3)]), (false, [(.int .i64, TC.i a4)])] => some ((qs_c a0 a1 a2 a3 a4), qs_mk (qs_v a0 a1 a2 a3 a4))
  | _ => .none
theorem qs_e (a0 a1 : LL) (a2 : Int) (a3 : Bool) (a4 : Int) : runF tab FT D31 live 8 noLoops [(true, [(.slice 9, TC.l a0), (.slice 50, TC.l a1), (.int .i64, TC.i a2), (.bool, TC.b a3)]), (false, [(.int .i64, TC.i a4)])] = (qs_t a0 a1 a2 a3 a4).run fun p => some (qs_mk p) := by kernel_rfl
theorem qs_s : ∀ xs r, qs_S xs = some (true, r) → runF tab FT D31 live 8 noLoops xs = some r := by
  intro xs r h
  unfold qs_S at h
  split at h
  · obtain ⟨h1, rfl⟩ := sp h
    exact fun_told (qs_e ..) (qs_l _ _ _ _ _) h1
  · cases h
def D32 : Dt := also D31 8 qs_S
theorem d32 : DOk Go.Proofs.Try.prog tab D32 := d31.also mixed_ok tab_ok names_ok noLoops_ok qs_s
def laws_FnExactFormatDisk_t (x0 x1 : Int) : Tr Bool := (.ite ((ql_c x0 x1) = true) (.ite ((qb_c x0 x1) = true) (.ite ((qt_c ((qb_v x0 x1).1) ((qb_v x0 x1).2.1) ((qb_v x0 x1).2.2.1) false ((ql_v x0 x1).1) ((ql_v x0 x1).2.1) ((ql_v x0 x1).2.2.1) ((ql_v x0 x1).2.2.2.1)) = true) (.ite ((!(qt_v ((qb_v x0 x1).1) ((qb_v x0 x1).2.1) ((qb_v x0 x1).2.2.1) false ((ql_v x0 x1).1) ((ql_v x0 x1).2.1) ((ql_v x0 x1).2.2.1) ((ql_v x0 x1).2.2.2.1))) = true) (.ok false)
     (.ite ((!((qb_v x0 x1).2.2.2 == (ql_v x0 x1).2.2.2.2)) = true) (.ok false)
      (.ite ((qo_c ((qb_v x0 x1).1) ((qb_v x0 x1).2.1) ((qb_v x0 x1).2.2.1) false (1 : Int)) = true) (.ite ((qs_c ((qo_v ((qb_v x0 x1).1) ((qb_v x0 x1).2.1) ((qb_v x0 x1).2.2.1) false (1 : Int)).1) ((qo_v ((qb_v x0 x1).1) ((qb_v x0 x1).2.1) ((qb_v x0 x1).2.2.1) false (1 : Int)).2.1) ((qo_v ((qb_v x0 x1).1) ((qb_v x0 x1).2.1) ((qb_v x0 x1).2.2.1) false (1 : Int)).2.2.1) ((qo_v ((qb_v x0 x1).1) ((qb_v x0 x1).2.1) ((qb_v x0 x1).2.2.1) false (1 : Int)).2.2.2.1) (1 : Int)) = true) (.ite ((decide ((qs_v ((qo_v ((qb_v x0 x1).1) ((qb_v x0 x1).2.1) ((qb_v x0 x1).2.2.1) false (1 : Int)).1) ((qo_v ((qb_v x0 x1).1) ((qb_v x0 x1).2.1) ((qb_v x0 x1).2.2.1) false (1 : Int)).2.1) ((qo_v ((qb_v x0 x1).1) ((qb_v x0 x1).2.1) ((qb_v x0 x1).2.2.1) false (1 : Int)).2.2.1) ((qo_v ((qb_v x0 x1).1) ((qb_v x0 x1).2.1) ((qb_v x0 x1).2.2.1) false (1 : Int)).2.2.2.1) (1 : Int)) < (0 : Int))) = true) (.ok false)
         (.ite ((!((qs_v ((qo_v ((qb_v x0 x1).1) ((qb_v x0 x1).2.1) ((qb_v x0 x1).2.2.1) false (1 : Int)).1) ((qo_v ((qb_v x0 x1).1) ((qb_v x0 x1).2.1) ((qb_v x0 x1).2.2.1) false (1 : Int)).2.1) ((qo_v ((qb_v x0 x1).1) ((qb_v x0 x1).2.1) ((qb_v x0 x1).2.2.1) false (1 : Int)).2.2.1) ((qo_v ((qb_v x0 x1).1) ((qb_v x0 x1).2.1) ((qb_v x0 x1).2.2.1) false (1 : Int)).2.2.2.1) (1 : Int)) == (qo_v ((qb_v x0 x1).1) ((qb_v x0 x1).2.1) ((qb_v x0 x1).2.2.1) false (1 : Int)).2.2.2.2)) = true) (.ok false)
          (.ite ((qb_c x0 x1) = true) (.ite ((qt_c ((qb_v x0 x1).1) ((qb_v x0 x1).2.1) ((qb_v x0 x1).2.2.1) false ((ql_v x0 x1).1) ((ql_v x0 x1).2.1) ((ql_v x0 x1).2.2.1) ((ql_v x0 x1).2.2.2.1)) = true) (.ite ((!(qt_v ((qb_v x0 x1).1) ((qb_v x0 x1).2.1) ((qb_v x0 x1).2.2.1) false ((ql_v x0 x1).1) ((ql_v x0 x1).2.1) ((ql_v x0 x1).2.2.1) ((ql_v x0 x1).2.2.2.1))) = true) (.ok false)
             (.ite ((!((qb_v x0 x1).2.2.2 == (ql_v x0 x1).2.2.2.2)) = true) (.ok false)
              (.ite ((qs_c ((qo_v ((qb_v x0 x1).1) ((qb_v x0 x1).2.1) ((qb_v x0 x1).2.2.1) false (1 : Int)).1) ((qo_v ((qb_v x0 x1).1) ((qb_v x0 x1).2.1) ((qb_v x0 x1).2.2.1) false (1 : Int)).2.1) ((qo_v ((qb_v x0 x1).1) ((qb_v x0 x1).2.1) ((qb_v x0 x1).2.2.1) false (1 : Int)).2.2.1) ((qo_v ((qb_v x0 x1).1) ((qb_v x0 x1).2.1) ((qb_v x0 x1).2.2.1) false (1 : Int)).2.2.2.1) (1 : Int)) = true) (.ite ((decide ((qs_v ((qo_v ((qb_v x0 x1).1) ((qb_v x0 x1).2.1) ((qb_v x0 x1).2.2.1) false (1 : Int)).1) ((qo_v ((qb_v x0 x1).1) ((qb_v x0 x1).2.1) ((qb_v x0 x1).2.2.1) false (1 : Int)).2.1) ((qo_v ((qb_v x0 x1).1) ((qb_v x0 x1).2.1) ((qb_v x0 x1).2.2.1) false (1 : Int)).2.2.1) ((qo_v ((qb_v x0 x1).1) ((qb_v x0 x1).2.1) ((qb_v x0 x1).2.2.1) false (1 : Int)).2.2.2.1) (1 : Int)) < (0 : Int))) = true) (.ok false)
                (.ite ((!((qs_v ((qo_v ((qb_v x0 x1).1) ((qb_v x0 x1).2.1) ((qb_v x0 x1).2.2.1) false (1 : Int)).1) ((qo_v ((qb_v x0 x1).1) ((qb_v x0 x1).2.1) ((qb_v x0 x1).2.2.1) false (1 : Int)).2.1) ((qo_v ((qb_v x0 x1).1) ((qb_v x0 x1).2.1) ((qb_v x0 x1).2.2.1) false (1 : Int)).2.2.1) ((qo_v ((qb_v x0 x1).1) ((qb_v x0 x1).2.1) ((qb_v x0 x1).2.2.1) false (1 : Int)).2.2.2.1) (1 : Int)) == (qo_v ((qb_v x0 x1).1) ((qb_v x0 x1).2.1) ((qb_v x0 x1).2.2.1) false (1 : Int)).2.2.2.2)) = true) (.ok false)
                 (.ok true)))
               .no)))
            .no)
           .no)))
        .no)
       .no)))
    .no)
   .no)
  .no)
theorem laws_FnExactFormatDisk_e (x0 x1 : Int) : runF tab FT D32 live 3 noLoops [(false, [(.int .i64, TC.i x0)]), (false, [(.int .i64, TC.i x1)])] = (laws_FnExactFormatDisk_t x0 x1).run fun p => some [(false, [⟨.bool, .sh, .b p⟩])] := by kernel_rfl
theorem laws_FnExactFormatDisk_p (x0 x1 : Int) (h0 : Typed tab (.int .i64) (.i x0)) (h1 : Typed tab (.int .i64) (.i x1)) : (laws_FnExactFormatDisk_t x0 x1).val = some true := by
  have e1 := ql_vv x0 x1
  have e2 := qb_vv x0 x1
  have hl := (fmtV_ty (bl := x0) (lg := x1)).1
  have ht := (fmtV_ty (bl := x0) (lg := x1)).2
  unfold laws_FnExactFormatDisk_t
  simp only [e1, e2]
  refine Tr.t (by first | exact (by first | (apply ql_cc <;> assumption) | (first | (apply is_true; and_intros <;> (first | rfl | assumption | (apply qk_cc <;> assumption) | (apply qq_cc <;> assumption) | (apply qp_cc <;> assumption) | (apply ql_cc <;> assumption) | (apply qr_cc <;> assumption) | (apply qm_cc <;> assumption) | (apply qb_cc <;> assumption) | (apply qg_cc <;> assumption) | (first | (apply is_true; and_intros <;> (first | rfl | assumption | (apply qk_cc <;> assumption) | (apply qq_cc <;> assumption) | (apply qp_cc <;> assumption) | (apply ql_cc <;> assumption) | (apply qr_cc <;> assumption) | (apply qm_cc <;> assumption) | (apply qb_cc <;> assumption) | (apply qg_cc <;> assumption))) | (apply qk_cc <;> assumption) | (apply qq_cc <;> assumption) | (apply qp_cc <;> assumption) | (apply ql_cc <;> assumption) | (apply qr_cc <;> assumption) | (apply qm_cc <;> assumption) | (apply qb_cc <;> assumption) | (apply qg_cc <;> assumption)))) | (apply qk_cc <;> assumption) | (apply qq_cc <;> assumption) | (apply qp_cc <;> assumption) | (apply ql_cc <;> assumption) | (apply qr_cc <;> assumption) | (apply qm_cc <;> assumption) | (apply qb_cc <;> assumption) | (apply qg_cc <;> assumption))) | simp [*]) ?_
  refine Tr.t (by first | exact (by first | (apply qb_cc <;> assumption) | (first | (apply is_true; and_intros <;> (first | rfl | assumption | (apply qk_cc <;> assumption) | (apply qq_cc <;> assumption) | (apply qp_cc <;> assumption) | (apply ql_cc <;> assumption) | (apply qr_cc <;> assumption) | (apply qm_cc <;> assumption) | (apply qb_cc <;> assumption) | (apply qg_cc <;> assumption) | (first | (apply is_true; and_intros <;> (first | rfl | assumption | (apply qk_cc <;> assumption) | (apply qq_cc <;> assumption) | (apply qp_cc <;> assumption) | (apply ql_cc <;> assumption) | (apply qr_cc <;> assumption) | (apply qm_cc <;> assumption) | (apply qb_cc <;> assumption) | (apply qg_cc <;> assumption))) | (apply qk_cc <;> assumption) | (apply qq_cc <;> assumption) | (apply qp_cc <;> assumption) | (apply ql_cc <;> assumption) | (apply qr_cc <;> assumption) | (apply qm_cc <;> assumption) | (apply qb_cc <;> assumption) | (apply qg_cc <;> assumption)))) | (apply qk_cc <;> assumption) | (apply qq_cc <;> assumption) | (apply qp_cc <;> assumption) | (apply ql_cc <;> assumption) | (apply qr_cc <;> assumption) | (apply qm_cc <;> assumption) | (apply qb_cc <;> assumption) | (apply qg_cc <;> assumption))) | simp [*]) ?_
  refine Tr.t (by exact is_true ⟨rfl, rfl, rfl, rfl, ht, typed_none⟩) ?_
  refine Tr.n (by first | (simp [qf_vm, qi_vm, qe_v2, qh_v2, qg_v, qo_v, qs_v, qj_v, qu_v, qn_v, qt_v]; done) | (simp only [qf_vm, qi_vm, qe_v2, qh_v2, qg_v, qo_v, qs_v, qj_v, qu_v, qn_v, qt_v, decide_eq_true_eq]; omega) | (simp [qf_vm, qi_vm, qe_v2, qh_v2, qg_v, qo_v, qs_v, qj_v, qu_v, qn_v, qt_v]; omega) | (simp (disch := omega) only [qf_vm, qi_vm, qe_v2, qh_v2, qg_v, qo_v, qs_v, qj_v, qu_v, qn_v, qt_v, neg_bif, decide_eq_true_eq]; omega) | (simp (disch := omega) [qf_vm, qi_vm, qe_v2, qh_v2, qg_v, qo_v, qs_v, qj_v, qu_v, qn_v, qt_v, neg_bif]; done) | (simp (disch := omega) [qf_vm, qi_vm, qe_v2, qh_v2, qg_v, qo_v, qs_v, qj_v, qu_v, qn_v, qt_v, neg_bif]; omega)) ?_
  refine Tr.n (by first | (simp [qf_vm, qi_vm, qe_v2, qh_v2, qg_v, qo_v, qs_v, qj_v, qu_v, qn_v, qt_v]; done) | (simp only [qf_vm, qi_vm, qe_v2, qh_v2, qg_v, qo_v, qs_v, qj_v, qu_v, qn_v, qt_v, decide_eq_true_eq]; omega) | (simp [qf_vm, qi_vm, qe_v2, qh_v2, qg_v, qo_v, qs_v, qj_v, qu_v, qn_v, qt_v]; omega) | (simp (disch := omega) only [qf_vm, qi_vm, qe_v2, qh_v2, qg_v, qo_v, qs_v, qj_v, qu_v, qn_v, qt_v, neg_bif, decide_eq_true_eq]; omega) | (simp (disch := omega) [qf_vm, qi_vm, qe_v2, qh_v2, qg_v, qo_v, qs_v, qj_v, qu_v, qn_v, qt_v, neg_bif]; done) | (simp (disch := omega) [qf_vm, qi_vm, qe_v2, qh_v2, qg_v, qo_v, qs_v, qj_v, qu_v, qn_v, qt_v, neg_bif]; omega)) ?_
  refine Tr.t (by exact is_true ⟨qe_cc ht (by omega) (by omega) (by omega), qh_cc typed_none (by simp) (by rw [qe_v2]; omega) (by rw [qe_v2]; omega)⟩) ?_
  refine Tr.t (by exact is_true ⟨qf_cc (by omega) (by omega) (by omega), (by show qi_c (qh_v [] (qe_v (fmtV x0 x1).1 1).2).1 (qf_v (qe_v (fmtV x0 x1).1 1).1 1) = true; rw [qf_vm]; exact qi_cc (by simp) (by rw [qe_v2]; omega) (by rw [qe_v2]; omega))⟩) ?_
  refine Tr.n (by first | (simp [qf_vm, qi_vm, qe_v2, qh_v2, qg_v, qo_v, qs_v, qj_v, qu_v, qn_v, qt_v]; done) | (simp only [qf_vm, qi_vm, qe_v2, qh_v2, qg_v, qo_v, qs_v, qj_v, qu_v, qn_v, qt_v, decide_eq_true_eq]; omega) | (simp [qf_vm, qi_vm, qe_v2, qh_v2, qg_v, qo_v, qs_v, qj_v, qu_v, qn_v, qt_v]; omega) | (simp (disch := omega) only [qf_vm, qi_vm, qe_v2, qh_v2, qg_v, qo_v, qs_v, qj_v, qu_v, qn_v, qt_v, neg_bif, decide_eq_true_eq]; omega) | (simp (disch := omega) [qf_vm, qi_vm, qe_v2, qh_v2, qg_v, qo_v, qs_v, qj_v, qu_v, qn_v, qt_v, neg_bif]; done) | (simp (disch := omega) [qf_vm, qi_vm, qe_v2, qh_v2, qg_v, qo_v, qs_v, qj_v, qu_v, qn_v, qt_v, neg_bif]; omega)) ?_
  refine Tr.n (by first | (simp [qf_vm, qi_vm, qe_v2, qh_v2, qg_v, qo_v, qs_v, qj_v, qu_v, qn_v, qt_v]; done) | (simp only [qf_vm, qi_vm, qe_v2, qh_v2, qg_v, qo_v, qs_v, qj_v, qu_v, qn_v, qt_v, decide_eq_true_eq]; omega) | (simp [qf_vm, qi_vm, qe_v2, qh_v2, qg_v, qo_v, qs_v, qj_v, qu_v, qn_v, qt_v]; omega) | (simp (disch := omega) only [qf_vm, qi_vm, qe_v2, qh_v2, qg_v, qo_v, qs_v, qj_v, qu_v, qn_v, qt_v, neg_bif, decide_eq_true_eq]; omega) | (simp (disch := omega) [qf_vm, qi_vm, qe_v2, qh_v2, qg_v, qo_v, qs_v, qj_v, qu_v, qn_v, qt_v, neg_bif]; done) | (simp (disch := omega) [qf_vm, qi_vm, qe_v2, qh_v2, qg_v, qo_v, qs_v, qj_v, qu_v, qn_v, qt_v, neg_bif]; omega)) ?_
  refine Tr.t (by first | exact (by first | (apply qb_cc <;> assumption) | (first | (apply is_true; and_intros <;> (first | rfl | assumption | (apply qk_cc <;> assumption) | (apply qq_cc <;> assumption) | (apply qp_cc <;> assumption) | (apply ql_cc <;> assumption) | (apply qr_cc <;> assumption) | (apply qm_cc <;> assumption) | (apply qb_cc <;> assumption) | (apply qg_cc <;> assumption) | (first | (apply is_true; and_intros <;> (first | rfl | assumption | (apply qk_cc <;> assumption) | (apply qq_cc <;> assumption) | (apply qp_cc <;> assumption) | (apply ql_cc <;> assumption) | (apply qr_cc <;> assumption) | (apply qm_cc <;> assumption) | (apply qb_cc <;> assumption) | (apply qg_cc <;> assumption))) | (apply qk_cc <;> assumption) | (apply qq_cc <;> assumption) | (apply qp_cc <;> assumption) | (apply ql_cc <;> assumption) | (apply qr_cc <;> assumption) | (apply qm_cc <;> assumption) | (apply qb_cc <;> assumption) | (apply qg_cc <;> assumption)))) | (apply qk_cc <;> assumption) | (apply qq_cc <;> assumption) | (apply qp_cc <;> assumption) | (apply ql_cc <;> assumption) | (apply qr_cc <;> assumption) | (apply qm_cc <;> assumption) | (apply qb_cc <;> assumption) | (apply qg_cc <;> assumption))) | simp [*]) ?_
  refine Tr.t (by exact is_true ⟨rfl, rfl, rfl, rfl, ht, typed_none⟩) ?_
  refine Tr.n (by first | (simp [qf_vm, qi_vm, qe_v2, qh_v2, qg_v, qo_v, qs_v, qj_v, qu_v, qn_v, qt_v]; done) | (simp only [qf_vm, qi_vm, qe_v2, qh_v2, qg_v, qo_v, qs_v, qj_v, qu_v, qn_v, qt_v, decide_eq_true_eq]; omega) | (simp [qf_vm, qi_vm, qe_v2, qh_v2, qg_v, qo_v, qs_v, qj_v, qu_v, qn_v, qt_v]; omega) | (simp (disch := omega) only [qf_vm, qi_vm, qe_v2, qh_v2, qg_v, qo_v, qs_v, qj_v, qu_v, qn_v, qt_v, neg_bif, decide_eq_true_eq]; omega) | (simp (disch := omega) [qf_vm, qi_vm, qe_v2, qh_v2, qg_v, qo_v, qs_v, qj_v, qu_v, qn_v, qt_v, neg_bif]; done) | (simp (disch := omega) [qf_vm, qi_vm, qe_v2, qh_v2, qg_v, qo_v, qs_v, qj_v, qu_v, qn_v, qt_v, neg_bif]; omega)) ?_
  refine Tr.n (by first | (simp [qf_vm, qi_vm, qe_v2, qh_v2, qg_v, qo_v, qs_v, qj_v, qu_v, qn_v, qt_v]; done) | (simp only [qf_vm, qi_vm, qe_v2, qh_v2, qg_v, qo_v, qs_v, qj_v, qu_v, qn_v, qt_v, decide_eq_true_eq]; omega) | (simp [qf_vm, qi_vm, qe_v2, qh_v2, qg_v, qo_v, qs_v, qj_v, qu_v, qn_v, qt_v]; omega) | (simp (disch := omega) only [qf_vm, qi_vm, qe_v2, qh_v2, qg_v, qo_v, qs_v, qj_v, qu_v, qn_v, qt_v, neg_bif, decide_eq_true_eq]; omega) | (simp (disch := omega) [qf_vm, qi_vm, qe_v2, qh_v2, qg_v, qo_v, qs_v, qj_v, qu_v, qn_v, qt_v, neg_bif]; done) | (simp (disch := omega) [qf_vm, qi_vm, qe_v2, qh_v2, qg_v, qo_v, qs_v, qj_v, qu_v, qn_v, qt_v, neg_bif]; omega)) ?_
  refine Tr.t (by exact is_true ⟨qf_cc (by omega) (by omega) (by omega), (by show qi_c (qh_v [] (qe_v (fmtV x0 x1).1 1).2).1 (qf_v (qe_v (fmtV x0 x1).1 1).1 1) = true; rw [qf_vm]; exact qi_cc (by simp) (by rw [qe_v2]; omega) (by rw [qe_v2]; omega))⟩) ?_
  refine Tr.n (by first | (simp [qf_vm, qi_vm, qe_v2, qh_v2, qg_v, qo_v, qs_v, qj_v, qu_v, qn_v, qt_v]; done) | (simp only [qf_vm, qi_vm, qe_v2, qh_v2, qg_v, qo_v, qs_v, qj_v, qu_v, qn_v, qt_v, decide_eq_true_eq]; omega) | (simp [qf_vm, qi_vm, qe_v2, qh_v2, qg_v, qo_v, qs_v, qj_v, qu_v, qn_v, qt_v]; omega) | (simp (disch := omega) only [qf_vm, qi_vm, qe_v2, qh_v2, qg_v, qo_v, qs_v, qj_v, qu_v, qn_v, qt_v, neg_bif, decide_eq_true_eq]; omega) | (simp (disch := omega) [qf_vm, qi_vm, qe_v2, qh_v2, qg_v, qo_v, qs_v, qj_v, qu_v, qn_v, qt_v, neg_bif]; done) | (simp (disch := omega) [qf_vm, qi_vm, qe_v2, qh_v2, qg_v, qo_v, qs_v, qj_v, qu_v, qn_v, qt_v, neg_bif]; omega)) ?_
  refine Tr.n (by first | (simp [qf_vm, qi_vm, qe_v2, qh_v2, qg_v, qo_v, qs_v, qj_v, qu_v, qn_v, qt_v]; done) | (simp only [qf_vm, qi_vm, qe_v2, qh_v2, qg_v, qo_v, qs_v, qj_v, qu_v, qn_v, qt_v, decide_eq_true_eq]; omega) | (simp [qf_vm, qi_vm, qe_v2, qh_v2, qg_v, qo_v, qs_v, qj_v, qu_v, qn_v, qt_v]; omega) | (simp (disch := omega) only [qf_vm, qi_vm, qe_v2, qh_v2, qg_v, qo_v, qs_v, qj_v, qu_v, qn_v, qt_v, neg_bif, decide_eq_true_eq]; omega) | (simp (disch := omega) [qf_vm, qi_vm, qe_v2, qh_v2, qg_v, qo_v, qs_v, qj_v, qu_v, qn_v, qt_v, neg_bif]; done) | (simp (disch := omega) [qf_vm, qi_vm, qe_v2, qh_v2, qg_v, qo_v, qs_v, qj_v, qu_v, qn_v, qt_v, neg_bif]; omega)) ?_
  rfl
end
end Go.Proofs.Ytlombmcoklbfoaa.V
