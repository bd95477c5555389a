/- What the functions of FnExactUnshuffle answer. No condition. -/
import Derived.Test.YtnlpkmkkidpfhaaVFacts
namespace Go.Proofs.Ytnlpkmkkidpfhaa.V
open Go
set_option maxRecDepth 100000
set_option linter.unusedVariables false
set_option linter.unusedSimpArgs false
/-! spec_l00In -/
noncomputable def spec_l00In_t (a0 : Int) (a1 : Int) (a2 : Int) : Tr (Bool) := (.ite ((decide (a0 ≥ a1)) = true) (.ok (decide (a0 ≤ a2)))
  (.ok false))
def spec_l00In_mk (p : Bool) : Res := [(false, [⟨.bool, .sh, TC.b p⟩])]
noncomputable def spec_l00In_c (a0 : Int) (a1 : Int) (a2 : Int) : Bool := true
noncomputable def spec_l00In_v (a0 : Int) (a1 : Int) (a2 : Int) : Bool := (bif (decide (a0 ≥ a1)) then (decide (a0 ≤ a2)) else false)
theorem spec_l00In_l (a0 : Int) (a1 : Int) (a2 : Int) : (spec_l00In_c a0 a1 a2) = true → (spec_l00In_t a0 a1 a2).val = some (spec_l00In_v a0 a1 a2) := by
  intro h
  skip
  unfold spec_l00In_t spec_l00In_v
  exact (Tr.s rfl rfl)
noncomputable def spec_l00In_S : List Arg → Option (Bool × Res) := fun xs => match xs with
  | [(false, [(.int .i64, TC.i a0)]), (false, [(.int .i64, TC.i a1)]), (false, [(.int .i64, TC.i a2)])] => some (true, spec_l00In_mk (spec_l00In_v a0 a1 a2))
  | _ => .none
theorem spec_l00In_e (a0 : Int) (a1 : Int) (a2 : Int) : runF tab FT D0 live 58 noLoops [(false, [(.int .i64, TC.i a0)]), (false, [(.int .i64, TC.i a1)]), (false, [(.int .i64, TC.i a2)])] = (spec_l00In_t a0 a1 a2).run fun p => some (spec_l00In_mk p) := by kernel_rfl
theorem spec_l00In_s : ∀ xs r, spec_l00In_S xs = some (true, r) → runF tab FT D0 live 58 noLoops xs = some r := by
  intro xs r h
  unfold spec_l00In_S at h
  split at h
  · simp only [Option.some.injEq, Prod.mk.injEq] at h
    obtain ⟨h1, rfl⟩ := h
    exact fun_told (spec_l00In_e _ _ _) (spec_l00In_l _ _ _) rfl
  · cases h
noncomputable def D1 : Dt := also D0 58 spec_l00In_S
theorem d1 : DOk Go.Proofs.Try.prog tab D1 := d0.also mixed_ok tab_ok names_ok noLoops_ok spec_l00In_s
/-! spec_l18Unshuffle -/
abbrev spec_l18Unshuffle_7_σ := List UInt8 × Int × Int × List (List TC) × Int × Int
abbrev spec_l18Unshuffle_7_ω := (List UInt8 × Int × Int × List (List TC) × Int)
noncomputable def spec_l18Unshuffle_o7_1 (s : List UInt8) (w : Int) (n : Int) (X : List (List TC)) (i : Int) (k : Int) : Bool := is (∃ wn nn kn : Nat, w = (wn : Int) ∧ n = (nn : Int) ∧ i = (kn : Int) ∧ k = 0 ∧ 0 < wn ∧ wn ≤ 24 ∧ kn < nn ∧ nn * wn ≤ s.length ∧ s.length ≤ 140737488351232 ∧ X = matL wn (fun a b => bcell s (b * nn + a)) (kn * wn))
noncomputable def spec_l18Unshuffle_u7_1_3 (s : List UInt8) (w : Int) (n : Int) (X : List (List TC)) (i : Int) (k : Int) : List (List TC) := matL w.toNat (fun a b => bcell s (b * n.toNat + a)) ((i.toNat + 1) * w.toNat)
noncomputable def spec_l18Unshuffle_7_fin (s : List UInt8) (w : Int) (n : Int) (X : List (List TC)) (i : Int) (k : Int) : Told spec_l18Unshuffle_7_ω := (.leaf (spec_l18Unshuffle_o7_1 s w n X i k) (s, w, n, (spec_l18Unshuffle_u7_1_3 s w n X i k), i))
noncomputable def spec_l18Unshuffle_7_step (s : List UInt8) (w : Int) (n : Int) (X : List (List TC)) (i : Int) (k : Int) : Tr (spec_l18Unshuffle_7_σ ⊕ spec_l18Unshuffle_7_ω) := (.ite ((decide (k < w)) = true) (.ite ((0 : Int) ≤ (IntKind.wrap .i64 ((IntKind.wrap .i64 (k * n)) + i)) ∧ (IntKind.wrap .i64 ((IntKind.wrap .i64 (k * n)) + i)) < (s.length : Int)) (.ite (roomFor (tab 5) (X ++ [[TC.i ((s.getD ((IntKind.wrap .i64 ((IntKind.wrap .i64 (k * n)) + i))).toNat 0).toNat : Int)]]).length) (.ok (.inl (s, w, n, (X ++ [[TC.i ((s.getD ((IntKind.wrap .i64 ((IntKind.wrap .i64 (k * n)) + i))).toNat 0).toNat : Int)]]), i, (IntKind.wrap .i64 (k + (1 : Int))))))
    .no)
   .no)
  (.ok (.inr (s, w, n, X, i))))
def spec_l18Unshuffle_7_sl (x : spec_l18Unshuffle_7_σ) : List Slot := [⟨.val false [⟨.str, .sh, TC.s (x.1)⟩], ⟨0, 0⟩⟩, ⟨.val false [⟨.int .i64, .sh, TC.i (x.2.1)⟩], ⟨0, 0⟩⟩, ⟨.val false [⟨.int .i64, .sh, TC.i (x.2.2.1)⟩], ⟨0, 0⟩⟩, ⟨.val false [⟨.slice 5, .own true, TC.l (x.2.2.2.1)⟩], ⟨0, 0⟩⟩, ⟨.val false [⟨.int .i64, .sh, TC.i (x.2.2.2.2.1)⟩], ⟨0, 0⟩⟩, ⟨.val false [⟨.int .i64, .sh, TC.i (x.2.2.2.2.2)⟩], ⟨0, 0⟩⟩]
def spec_l18Unshuffle_7_out : spec_l18Unshuffle_7_ω → Ex × List Slot := (fun x => (.exit 2, [⟨.val false [⟨.str, .sh, TC.s (x.1)⟩], ⟨0, 0⟩⟩, ⟨.val false [⟨.int .i64, .sh, TC.i (x.2.1)⟩], ⟨0, 0⟩⟩, Slot.none, ⟨.val false [⟨.int .i64, .sh, TC.i (x.2.2.1)⟩], ⟨0, 0⟩⟩, ⟨.val false [⟨.slice 5, .own true, TC.l (x.2.2.2.1)⟩], ⟨0, 0⟩⟩, ⟨.val false [⟨.int .i64, .sh, TC.i (x.2.2.2.2)⟩], ⟨0, 0⟩⟩]))
noncomputable def spec_l18Unshuffle_lo7 : List Slot → Option (Told (Ex × List Slot)) := fun s => match s with
  | [⟨.val false [⟨.str, .sh, TC.s s⟩], ⟨0, 0⟩⟩, ⟨.val false [⟨.int .i64, .sh, TC.i w⟩], ⟨0, 0⟩⟩, ⟨.val false [⟨.int .i64, .sh, TC.i n⟩], ⟨0, 0⟩⟩, ⟨.val false [⟨.slice 5, .own true, TC.l X⟩], ⟨0, 0⟩⟩, ⟨.val false [⟨.int .i64, .sh, TC.i i⟩], ⟨0, 0⟩⟩, ⟨.val false [⟨.int .i64, .sh, TC.i k⟩], ⟨0, 0⟩⟩] => some (((spec_l18Unshuffle_7_fin s w n X i k)).map spec_l18Unshuffle_7_out)
  | _ => .none
abbrev spec_l18Unshuffle_4_σ := List UInt8 × Int × Int × List (List TC) × Int
abbrev spec_l18Unshuffle_4_ω := (List UInt8 × Int × Int × List (List TC))
noncomputable def spec_l18Unshuffle_o4_1 (s : List UInt8) (w : Int) (n : Int) (X : List (List TC)) (i : Int) : Bool := is (∃ wn nn : Nat, w = (wn : Int) ∧ n = (nn : Int) ∧ i = 0 ∧ 0 < wn ∧ wn ≤ 24 ∧ nn * wn ≤ s.length ∧ s.length ≤ 140737488351232 ∧ X = [])
noncomputable def spec_l18Unshuffle_u4_1_3 (s : List UInt8) (w : Int) (n : Int) (X : List (List TC)) (i : Int) : List (List TC) := matL w.toNat (fun a b => bcell s (b * n.toNat + a)) (n.toNat * w.toNat)
noncomputable def spec_l18Unshuffle_4_fin (s : List UInt8) (w : Int) (n : Int) (X : List (List TC)) (i : Int) : Told spec_l18Unshuffle_4_ω := (.leaf (spec_l18Unshuffle_o4_1 s w n X i) (s, w, n, (spec_l18Unshuffle_u4_1_3 s w n X i)))
noncomputable def spec_l18Unshuffle_4_step (s : List UInt8) (w : Int) (n : Int) (X : List (List TC)) (i : Int) : Tr (spec_l18Unshuffle_4_σ ⊕ spec_l18Unshuffle_4_ω) := (.ite ((decide (i < n)) = true) (.ite ((spec_l18Unshuffle_o7_1 s w n X i (0 : Int)) = true) (.ok (.inl (s, w, n, (spec_l18Unshuffle_u7_1_3 s w n X i (0 : Int)), (IntKind.wrap .i64 (i + (1 : Int))))))
   .no)
  (.ok (.inr (s, w, n, X))))
def spec_l18Unshuffle_4_sl (x : spec_l18Unshuffle_4_σ) : List Slot := [⟨.val false [⟨.str, .sh, TC.s (x.1)⟩], ⟨0, 0⟩⟩, ⟨.val false [⟨.int .i64, .sh, TC.i (x.2.1)⟩], ⟨0, 0⟩⟩, ⟨.val false [⟨.int .i64, .sh, TC.i (x.2.2.1)⟩], ⟨0, 0⟩⟩, ⟨.val false [⟨.slice 5, .own true, TC.l (x.2.2.2.1)⟩], ⟨0, 0⟩⟩, ⟨.val false [⟨.int .i64, .sh, TC.i (x.2.2.2.2)⟩], ⟨0, 0⟩⟩]
def spec_l18Unshuffle_4_out : spec_l18Unshuffle_4_ω → Ex × List Slot := (fun x => (.exit 0, [⟨.val false [⟨.str, .sh, TC.s (x.1)⟩], ⟨0, 0⟩⟩, ⟨.val false [⟨.int .i64, .sh, TC.i (x.2.1)⟩], ⟨0, 0⟩⟩, Slot.none, ⟨.val false [⟨.int .i64, .sh, TC.i (x.2.2.1)⟩], ⟨0, 0⟩⟩, ⟨.val false [⟨.slice 5, .own true, TC.l (x.2.2.2)⟩], ⟨0, 0⟩⟩]))
noncomputable def spec_l18Unshuffle_lo4 : List Slot → Option (Told (Ex × List Slot)) := fun s => match s with
  | [⟨.val false [⟨.str, .sh, TC.s s⟩], ⟨0, 0⟩⟩, ⟨.val false [⟨.int .i64, .sh, TC.i w⟩], ⟨0, 0⟩⟩, ⟨.val false [⟨.int .i64, .sh, TC.i n⟩], ⟨0, 0⟩⟩, ⟨.val false [⟨.slice 5, .own true, TC.l X⟩], ⟨0, 0⟩⟩, ⟨.val false [⟨.int .i64, .sh, TC.i i⟩], ⟨0, 0⟩⟩] => some (((spec_l18Unshuffle_4_fin s w n X i)).map spec_l18Unshuffle_4_out)
  | _ => .none
noncomputable def spec_l18Unshuffle_lo : LoopTeller := fun r s => bif Nat.beq r 4 then spec_l18Unshuffle_lo4 s else bif Nat.beq r 7 then spec_l18Unshuffle_lo7 s else .none
theorem spec_l18Unshuffle_7_r (s : List UInt8) (w : Int) (n : Int) (X : List (List TC)) (i : Int) (k : Int) (fuel : Nat) : rounds (rnd tab FT D1 live 61 spec_l18Unshuffle_lo 1 7) leave (fuel + 1) (spec_l18Unshuffle_7_sl (s, w, n, X, i, k)) = ((spec_l18Unshuffle_7_step s w n X i k)).run (goOn (fun s => rounds (rnd tab FT D1 live 61 spec_l18Unshuffle_lo 1 7) leave fuel (spec_l18Unshuffle_7_sl s)) fun w => some (spec_l18Unshuffle_7_out w)) := by kernel_rfl
noncomputable def spec_l18Unshuffle_7_st : spec_l18Unshuffle_7_σ → Tr (spec_l18Unshuffle_7_σ ⊕ spec_l18Unshuffle_7_ω) := fun x => (spec_l18Unshuffle_7_step (x.1) (x.2.1) (x.2.2.1) (x.2.2.2.1) (x.2.2.2.2.1) (x.2.2.2.2.2))
theorem spec_l18Unshuffle_7_h (s : List UInt8) (w : Int) (n : Int) (X : List (List TC)) (i : Int) (k : Int) (ow : spec_l18Unshuffle_7_ω) : ((spec_l18Unshuffle_7_fin s w n X i k)).val = some ow → ∃ fuel, loopN spec_l18Unshuffle_7_st fuel (s, w, n, X, i, k) = some ow := by
  intro h
  simp only [spec_l18Unshuffle_7_fin, Told.val] at h
  split at h
  · rename_i ho
    obtain ⟨wn, nn, kn, rfl, rfl, rfl, rfl, hw0, hw, hk, hL, hs, rfl⟩ := is_iff.1 ho
    cases h
    have hc : wn * nn = nn * wn := Nat.mul_comm _ _
    have key := loopN_run (step := spec_l18Unshuffle_7_st) (N := wn) (fun j => (s, (wn : Int), (nn : Int), matL wn (fun a b => bcell s (b * nn + a)) (kn * wn + j), (kn : Int), (j : Int))) (w := (s, (wn : Int), (nn : Int), matL wn (fun a b => bcell s (b * nn + a)) ((kn + 1) * wn), (kn : Int))) (fun j hj => ?_) ?_ wn 0 (by omega)
    · exact ⟨_, key⟩
    · have h1 : j * nn + kn < s.length := by
        have h2 : (j + 1) * nn ≤ wn * nn := Nat.mul_le_mul_right _ hj
        have h3 : (j + 1) * nn = j * nn + nn := Nat.succ_mul _ _
        omega
      have h4 : kn * wn + j < s.length := by
        have h2 : (kn + 1) * wn ≤ nn * wn := Nat.mul_le_mul_right _ hk
        have h3 : (kn + 1) * wn = kn * wn + wn := Nat.succ_mul _ _
        omega
      show (spec_l18Unshuffle_7_step s (wn : Int) (nn : Int) (matL wn (fun a b => bcell s (b * nn + a)) (kn * wn + j)) (kn : Int) (j : Int)).val = _
      unfold spec_l18Unshuffle_7_step
      rw [idx64 (by omega)]
      refine Tr.t (by simp; omega) ?_
      refine Tr.t (by constructor <;> omega) ?_
      refine Tr.t (by unfold roomFor; simp only [show (tab 5).bytes = 1 from rfl, List.length_append, matL_len, List.length_singleton]; omega) ?_
      rw [Tr.val_ok, wrap64 (i := (j : Int) + 1) (by omega) (by omega)]
      show some (Sum.inl (s, (wn : Int), (nn : Int), matL wn (fun a b => bcell s (b * nn + a)) (kn * wn + j) ++ [(fun a b => bcell s (b * nn + a)) kn j], (kn : Int), ((j + 1 : Nat) : Int))) = _
      rw [matL_succ (f := (fun a b => bcell s (b * nn + a))) hj]
    · show (spec_l18Unshuffle_7_step s (wn : Int) (nn : Int) (matL wn (fun a b => bcell s (b * nn + a)) (kn * wn + wn)) (kn : Int) (wn : Int)).val = _
      refine Tr.n (by simp) ?_
      rw [show kn * wn + wn = (kn + 1) * wn from (Nat.succ_mul _ _).symm]
      rfl
  · cases h
theorem spec_l18Unshuffle_is7 : LoopIs tab FT D1 live 61 spec_l18Unshuffle_lo 1 7 := by
  refine loop_told (sl := spec_l18Unshuffle_7_sl) (step := spec_l18Unshuffle_7_st) (out := spec_l18Unshuffle_7_out) (lor := spec_l18Unshuffle_lo7) (fin := fun x => (spec_l18Unshuffle_7_fin (x.1) (x.2.1) (x.2.2.1) (x.2.2.2.1) (x.2.2.2.2.1) (x.2.2.2.2.2))) (fun _ => rfl) ?_ (fun x n => spec_l18Unshuffle_7_r x.1 x.2.1 x.2.2.1 x.2.2.2.1 x.2.2.2.2.1 x.2.2.2.2.2 n) (fun x ow => spec_l18Unshuffle_7_h x.1 x.2.1 x.2.2.1 x.2.2.2.1 x.2.2.2.2.1 x.2.2.2.2.2 ow)
  intro s t h
  unfold spec_l18Unshuffle_lo7 at h
  split at h
  · cases h; exact ⟨(_, _, _, _, _, _), rfl, rfl⟩
  · cases h
theorem spec_l18Unshuffle_4_r (s : List UInt8) (w : Int) (n : Int) (X : List (List TC)) (i : Int) (fuel : Nat) : rounds (rnd tab FT D1 live 61 spec_l18Unshuffle_lo 0 4) leave (fuel + 1) (spec_l18Unshuffle_4_sl (s, w, n, X, i)) = ((spec_l18Unshuffle_4_step s w n X i)).run (goOn (fun s => rounds (rnd tab FT D1 live 61 spec_l18Unshuffle_lo 0 4) leave fuel (spec_l18Unshuffle_4_sl s)) fun w => some (spec_l18Unshuffle_4_out w)) := by kernel_rfl
noncomputable def spec_l18Unshuffle_4_st : spec_l18Unshuffle_4_σ → Tr (spec_l18Unshuffle_4_σ ⊕ spec_l18Unshuffle_4_ω) := fun x => (spec_l18Unshuffle_4_step (x.1) (x.2.1) (x.2.2.1) (x.2.2.2.1) (x.2.2.2.2))
theorem spec_l18Unshuffle_4_h (s : List UInt8) (w : Int) (n : Int) (X : List (List TC)) (i : Int) (ow : spec_l18Unshuffle_4_ω) : ((spec_l18Unshuffle_4_fin s w n X i)).val = some ow → ∃ fuel, loopN spec_l18Unshuffle_4_st fuel (s, w, n, X, i) = some ow := by
  intro h
  simp only [spec_l18Unshuffle_4_fin, Told.val] at h
  split at h
  · rename_i ho
    obtain ⟨wn, nn, rfl, rfl, rfl, hw0, hw, hL, hs, rfl⟩ := is_iff.1 ho
    cases h
    have hc : wn * nn = nn * wn := Nat.mul_comm _ _
    have hR : nn ≤ 140737488351232 := by
      first | omega | (have := Nat.le_mul_of_pos_right nn hw0; omega)
    have key := loopN_run (step := spec_l18Unshuffle_4_st) (N := nn) (fun j => (s, (wn : Int), (nn : Int), matL wn (fun a b => bcell s (b * nn + a)) (j * wn), (j : Int))) (w := (s, (wn : Int), (nn : Int), matL wn (fun a b => bcell s (b * nn + a)) (nn * wn))) (fun j hj => ?_) ?_ nn 0 (by omega)
    · rw [Nat.zero_mul] at key
      exact ⟨_, key⟩
    · show (spec_l18Unshuffle_4_step s (wn : Int) (nn : Int) (matL wn (fun a b => bcell s (b * nn + a)) (j * wn)) (j : Int)).val = _
      unfold spec_l18Unshuffle_4_step
      refine Tr.t (by simp; omega) ?_
      refine Tr.t (is_true ⟨wn, nn, j, rfl, rfl, rfl, rfl, hw0, hw, hj, hL, hs, rfl⟩) ?_
      rw [Tr.val_ok]
      show some (Sum.inl (s, (wn : Int), (nn : Int), matL wn (fun a b => bcell s (b * nn + a)) ((j + 1) * wn), IntKind.wrap .i64 ((j : Int) + 1))) = _
      rw [wrap64 (i := (j : Int) + 1) (by omega) (by omega)]
      rfl
    · show (spec_l18Unshuffle_4_step s (wn : Int) (nn : Int) (matL wn (fun a b => bcell s (b * nn + a)) (nn * wn)) (nn : Int)).val = _
      refine Tr.n (by simp) ?_
      rfl
  · cases h
theorem spec_l18Unshuffle_is4 : LoopIs tab FT D1 live 61 spec_l18Unshuffle_lo 0 4 := by
  refine loop_told (sl := spec_l18Unshuffle_4_sl) (step := spec_l18Unshuffle_4_st) (out := spec_l18Unshuffle_4_out) (lor := spec_l18Unshuffle_lo4) (fin := fun x => (spec_l18Unshuffle_4_fin (x.1) (x.2.1) (x.2.2.1) (x.2.2.2.1) (x.2.2.2.2))) (fun _ => rfl) ?_ (fun x n => spec_l18Unshuffle_4_r x.1 x.2.1 x.2.2.1 x.2.2.2.1 x.2.2.2.2 n) (fun x ow => spec_l18Unshuffle_4_h x.1 x.2.1 x.2.2.1 x.2.2.2.1 x.2.2.2.2 ow)
  intro s t h
  unfold spec_l18Unshuffle_lo4 at h
  split at h
  · cases h; exact ⟨(_, _, _, _, _), rfl, rfl⟩
  · cases h
noncomputable def spec_l18Unshuffle_t (s : List UInt8) (w : Int) : Tr (List UInt8) := (.ite (w ≠ 0) (.ite ((spec_l18Unshuffle_o4_1 s w (IntKind.wrap .i64 (Int.tdiv (s.length : Int) w)) [] (0 : Int)) = true) (.ite ((0 : Int) ≤ (IntKind.wrap .i64 ((IntKind.wrap .i64 (Int.tdiv (s.length : Int) w)) * w)) ∧ (IntKind.wrap .i64 ((IntKind.wrap .i64 (Int.tdiv (s.length : Int) w)) * w)) ≤ (s.length : Int) ∧ (s.length : Int) ≤ (s.length : Int)) (.ite (roomFor (tab 5) ((spec_l18Unshuffle_u4_1_3 s w (IntKind.wrap .i64 (Int.tdiv (s.length : Int) w)) [] (0 : Int)) ++ (bytesRow ((s.take ((s.length : Int)).toNat).drop ((IntKind.wrap .i64 ((IntKind.wrap .i64 (Int.tdiv (s.length : Int) w)) * w))).toNat))).length) (.ok (((spec_l18Unshuffle_u4_1_3 s w (IntKind.wrap .i64 (Int.tdiv (s.length : Int) w)) [] (0 : Int)) ++ (bytesRow ((s.take ((s.length : Int)).toNat).drop ((IntKind.wrap .i64 ((IntKind.wrap .i64 (Int.tdiv (s.length : Int) w)) * w))).toNat))).map byteOf))
     .no)
    .no)
   .no)
  .no)
def spec_l18Unshuffle_mk (p : List UInt8) : Res := [(false, [⟨.str, .sh, TC.s p⟩])]
noncomputable def spec_l18Unshuffle_c (s : List UInt8) (w : Int) : Bool := is (∃ wn : Nat, w = (wn : Int) ∧ 0 < wn ∧ wn ≤ 24 ∧ s.length ≤ 140737488351232)
noncomputable def spec_l18Unshuffle_v (s : List UInt8) (w : Int) : List UInt8 := unshufF s w.toNat
theorem spec_l18Unshuffle_l (s : List UInt8) (w : Int) : (spec_l18Unshuffle_c s w) = true → (spec_l18Unshuffle_t s w).val = some (spec_l18Unshuffle_v s w) := by
  intro h
  obtain ⟨wn, rfl, h0, h24, hs⟩ := is_iff.1 h
  have hm : s.length / wn * wn ≤ s.length := Nat.div_mul_le_self _ _
  have hm' : wn * (s.length / wn) = s.length / wn * wn := Nat.mul_comm _ _
  unfold spec_l18Unshuffle_t
  rw [tdiv64 (by omega), mul64 (by omega)]
  refine Tr.t (by omega) ?_
  refine Tr.t (is_true ⟨wn, s.length / wn, rfl, rfl, rfl, h0, h24, hm, hs, rfl⟩) ?_
  refine Tr.t ⟨by omega, by omega, by omega⟩ ?_
  refine Tr.t (show roomFor (tab 5) (matL wn (fun a b => bcell s (b * (s.length / wn) + a)) ((s.length / wn) * wn) ++ bytesRow ((s.take s.length).drop (s.length / wn * wn))).length from by unfold roomFor; simp only [show (tab 5).bytes = 1 from rfl, List.length_append, matL_len, bytesRow, List.length_map, List.length_drop, List.length_take]; omega) ?_
  show some ((matL wn (fun a b => bcell s (b * (s.length / wn) + a)) ((s.length / wn) * wn) ++ bytesRow ((s.take s.length).drop (s.length / wn * wn))).map byteOf) = some (unshufF s wn)
  rw [List.take_length]
  rfl
noncomputable def spec_l18Unshuffle_S : List Arg → Option (Bool × Res) := fun xs => match xs with
  | [(false, [(.str, TC.s s)]), (false, [(.int .i64, TC.i w)])] => some ((spec_l18Unshuffle_c s w), spec_l18Unshuffle_mk (spec_l18Unshuffle_v s w))
  | _ => .none
theorem spec_l18Unshuffle_e (s : List UInt8) (w : Int) : runF tab FT D1 live 61 spec_l18Unshuffle_lo [(false, [(.str, TC.s s)]), (false, [(.int .i64, TC.i w)])] = (spec_l18Unshuffle_t s w).run fun p => some (spec_l18Unshuffle_mk p) := by kernel_rfl
theorem spec_l18Unshuffle_s : ∀ xs r, spec_l18Unshuffle_S xs = some (true, r) → runF tab FT D1 live 61 spec_l18Unshuffle_lo xs = some r := by
  intro xs r h
  unfold spec_l18Unshuffle_S at h
  split at h
  · simp only [Option.some.injEq, Prod.mk.injEq] at h
    obtain ⟨h1, rfl⟩ := h
    exact fun_told (spec_l18Unshuffle_e _ _) (spec_l18Unshuffle_l _ _) h1
  · cases h
noncomputable def D2 : Dt := also D1 61 spec_l18Unshuffle_S
theorem d2 : DOk Go.Proofs.Try.prog tab D2 := d1.also mixed_ok tab_ok names_ok (fnLoops_two (by kernel_rfl) spec_l18Unshuffle_is4 spec_l18Unshuffle_is7) spec_l18Unshuffle_s
theorem shufC {s : List UInt8} {w : Int} (h : (!(bif decide (w ≥ 1) then decide (w ≤ 24) else false)) = false) (hs : Typed tab .str (.s s)) : is (∃ wn : Nat, w = (wn : Int) ∧ 0 < wn ∧ wn ≤ 24 ∧ s.length ≤ 140737488351232) = true := by
  have h1 := notF h
  by_cases h2 : w ≥ 1
  · rw [show decide (w ≥ 1) = true from by simpa using h2, cond_true, decide_eq_true_eq] at h1
    exact is_true ⟨w.toNat, by omega, by omega, by omega, typed_str_len hs⟩
  · rw [show decide (w ≥ 1) = false from by simpa using h2, cond_false] at h1
    cases h1
/-! spec_Unshuffle -/
noncomputable def spec_Unshuffle_t (s : List UInt8) (w : Int) : Tr (List UInt8) := (.ite ((!(spec_l00In_v w (1 : Int) (24 : Int))) = true) (.ok ([]))
  (.ite ((decide ((s.length : Int) > (1100 : Int))) = true) (.ok ([]))
   (.ite ((spec_l18Unshuffle_c s w) = true) (.ok (spec_l18Unshuffle_v s w))
    .no)))
def spec_Unshuffle_mk (p : List UInt8) : Res := [(false, [⟨.str, .sh, TC.s p⟩])]
noncomputable def spec_Unshuffle_c (s : List UInt8) (w : Int) : Bool := (bif (!(spec_l00In_v w (1 : Int) (24 : Int))) then true else (bif (decide ((s.length : Int) > (1100 : Int))) then true else ((spec_l18Unshuffle_c s w) && true)))
noncomputable def spec_Unshuffle_v (s : List UInt8) (w : Int) : List UInt8 := (bif (!(spec_l00In_v w (1 : Int) (24 : Int))) then [] else (bif (decide ((s.length : Int) > (1100 : Int))) then [] else (spec_l18Unshuffle_v s w)))
theorem spec_Unshuffle_l (s : List UInt8) (w : Int) : (spec_Unshuffle_c s w) = true → (spec_Unshuffle_t s w).val = some (spec_Unshuffle_v s w) := by
  unfold spec_Unshuffle_t spec_Unshuffle_v spec_Unshuffle_c
  exact fun h => (Tr.ss h (fun h => rfl) (fun h => (Tr.ss h (fun h => rfl) (fun h => (Tr.gb h fun h => rfl)))))
noncomputable def spec_Unshuffle_S : List Arg → Option (Bool × Res) := fun xs => match xs with
  | [(false, [(.str, TC.s s)]), (false, [(.int .i64, TC.i w)])] => some ((spec_Unshuffle_c s w), spec_Unshuffle_mk (spec_Unshuffle_v s w))
  | _ => .none
theorem spec_Unshuffle_e (s : List UInt8) (w : Int) : runF tab FT D2 live 22 noLoops [(false, [(.str, TC.s s)]), (false, [(.int .i64, TC.i w)])] = (spec_Unshuffle_t s w).run fun p => some (spec_Unshuffle_mk p) := by kernel_rfl
theorem spec_Unshuffle_s : ∀ xs r, spec_Unshuffle_S xs = some (true, r) → runF tab FT D2 live 22 noLoops xs = some r := by
  intro xs r h
  unfold spec_Unshuffle_S at h
  split at h
  · simp only [Option.some.injEq, Prod.mk.injEq] at h
    obtain ⟨h1, rfl⟩ := h
    exact fun_told (spec_Unshuffle_e _ _) (spec_Unshuffle_l _ _) h1
  · cases h
noncomputable def D3 : Dt := also D2 22 spec_Unshuffle_S
theorem d3 : DOk Go.Proofs.Try.prog tab D3 := d2.also mixed_ok tab_ok names_ok noLoops_ok spec_Unshuffle_s
theorem spec_Unshuffle_cc {s : List UInt8} {w : Int} (hs : Typed tab (.str) (.s s)) : (spec_Unshuffle_c s w) = true := by
  unfold spec_Unshuffle_c
  refine bifT (fun b1 => ?_) (fun b1 => ?_)
  · skip
    rfl
  · skip
    refine bifT (fun b2 => ?_) (fun b2 => ?_)
    · skip
      rfl
    · skip
      refine andT (by exact shufC b1 hs) ?_
      rfl
/-! impl_within -/
noncomputable def impl_within_t (a0 : Int) (a1 : Int) (a2 : Int) : Tr (Bool) := (.ite ((decide (a0 ≥ a1)) = true) (.ok (decide (a0 ≤ a2)))
  (.ok false))
def impl_within_mk (p : Bool) : Res := [(false, [⟨.bool, .sh, TC.b p⟩])]
noncomputable def impl_within_c (a0 : Int) (a1 : Int) (a2 : Int) : Bool := true
noncomputable def impl_within_v (a0 : Int) (a1 : Int) (a2 : Int) : Bool := (bif (decide (a0 ≥ a1)) then (decide (a0 ≤ a2)) else false)
theorem impl_within_l (a0 : Int) (a1 : Int) (a2 : Int) : (impl_within_c a0 a1 a2) = true → (impl_within_t a0 a1 a2).val = some (impl_within_v a0 a1 a2) := by
  intro h
  skip
  unfold impl_within_t impl_within_v
  exact (Tr.s rfl rfl)
noncomputable def impl_within_S : List Arg → Option (Bool × Res) := fun xs => match xs with
  | [(false, [(.int .i64, TC.i a0)]), (false, [(.int .i64, TC.i a1)]), (false, [(.int .i64, TC.i a2)])] => some (true, impl_within_mk (impl_within_v a0 a1 a2))
  | _ => .none
theorem impl_within_e (a0 : Int) (a1 : Int) (a2 : Int) : runF tab FT D3 live 56 noLoops [(false, [(.int .i64, TC.i a0)]), (false, [(.int .i64, TC.i a1)]), (false, [(.int .i64, TC.i a2)])] = (impl_within_t a0 a1 a2).run fun p => some (impl_within_mk p) := by kernel_rfl
theorem impl_within_s : ∀ xs r, impl_within_S xs = some (true, r) → runF tab FT D3 live 56 noLoops xs = some r := by
  intro xs r h
  unfold impl_within_S at h
  split at h
  · simp only [Option.some.injEq, Prod.mk.injEq] at h
    obtain ⟨h1, rfl⟩ := h
    exact fun_told (impl_within_e _ _ _) (impl_within_l _ _ _) rfl
  · cases h
noncomputable def D4 : Dt := also D3 56 impl_within_S
theorem d4 : DOk Go.Proofs.Try.prog tab D4 := d3.also mixed_ok tab_ok names_ok noLoops_ok impl_within_s
/-! impl_shuffled -/
abbrev impl_shuffled_7_σ := List UInt8 × Int × List (List TC) × Int × Int × Int × Int × Int × Int
abbrev impl_shuffled_7_ω := (List UInt8 × Int × List (List TC) × Int × Int × Int)
noncomputable def impl_shuffled_o7_1 (s : List UInt8) (w : Int) (X : List (List TC)) (n : Int) (i : Int) (p : Int) (q : Int) (m : Int) (k : Int) : Bool := is (∃ wn nn ii : Nat, w = (wn : Int) ∧ n = (nn : Int) ∧ i = (ii : Int) ∧ m = (wn : Int) ∧ k = 0 ∧ 0 < wn ∧ wn ≤ 24 ∧ ii < nn ∧ nn * wn ≤ s.length ∧ s.length ≤ 140737488351232 ∧ X = (wr s.length (fB s wn nn) (bcell s) (visB wn ii 0)))
noncomputable def impl_shuffled_u7_1_2 (s : List UInt8) (w : Int) (X : List (List TC)) (n : Int) (i : Int) (p : Int) (q : Int) (m : Int) (k : Int) : List (List TC) := (wr s.length (fB s w.toNat n.toNat) (bcell s) (visB w.toNat (i.toNat + 1) 0))
noncomputable def impl_shuffled_7_fin (s : List UInt8) (w : Int) (X : List (List TC)) (n : Int) (i : Int) (p : Int) (q : Int) (m : Int) (k : Int) : Told impl_shuffled_7_ω := (.leaf (impl_shuffled_o7_1 s w X n i p q m k) (s, w, (impl_shuffled_u7_1_2 s w X n i p q m k), n, p, q))
noncomputable def impl_shuffled_7_step (s : List UInt8) (w : Int) (X : List (List TC)) (n : Int) (i : Int) (p : Int) (q : Int) (m : Int) (k : Int) : Tr (impl_shuffled_7_σ ⊕ impl_shuffled_7_ω) := (.ite ((decide (k < m)) = true) (.ite ((0 : Int) ≤ (IntKind.wrap .i64 ((IntKind.wrap .i64 (k * n)) + i)) ∧ (IntKind.wrap .i64 ((IntKind.wrap .i64 (k * n)) + i)) < (s.length : Int)) (.ite ((0 : Int) ≤ (IntKind.wrap .i64 ((IntKind.wrap .i64 (i * w)) + k)) ∧ (IntKind.wrap .i64 ((IntKind.wrap .i64 (i * w)) + k)) < (X.length : Int)) (.ok (.inl (s, w, (X.set ((IntKind.wrap .i64 ((IntKind.wrap .i64 (i * w)) + k))).toNat (splice (row X (IntKind.wrap .i64 ((IntKind.wrap .i64 (i * w)) + k))) 0 [TC.i ((s.getD ((IntKind.wrap .i64 ((IntKind.wrap .i64 (k * n)) + i))).toNat 0).toNat : Int)])), n, i, p, q, m, (IntKind.wrap .i64 (k + (1 : Int))))))
    .no)
   .no)
  (.ok (.inr (s, w, X, n, p, q))))
def impl_shuffled_7_sl (x : impl_shuffled_7_σ) : List Slot := [⟨.val false [⟨.str, .sh, TC.s (x.1)⟩], ⟨0, 0⟩⟩, ⟨.val false [⟨.int .i64, .sh, TC.i (x.2.1)⟩], ⟨0, 0⟩⟩, ⟨.val false [⟨.bool, .sh, TC.b true⟩], ⟨0, 0⟩⟩, ⟨.val false [⟨.slice 5, .own true, TC.l (x.2.2.1)⟩], ⟨0, 0⟩⟩, ⟨.val false [⟨.int .i64, .sh, TC.i (x.2.2.2.1)⟩], ⟨0, 0⟩⟩, ⟨.val false [⟨.int .i64, .sh, TC.i (x.2.2.2.2.1)⟩], ⟨0, 0⟩⟩, ⟨.val false [⟨.int .i64, .sh, TC.i (x.2.2.2.2.2.1)⟩], ⟨0, 0⟩⟩, ⟨.val false [⟨.int .i64, .sh, TC.i (x.2.2.2.2.2.2.1)⟩], ⟨0, 0⟩⟩, ⟨.val false [⟨.int .i64, .sh, TC.i (x.2.2.2.2.2.2.2.1)⟩], ⟨0, 0⟩⟩, ⟨.val false [⟨.int .i64, .sh, TC.i (x.2.2.2.2.2.2.2.2)⟩], ⟨0, 0⟩⟩]
def impl_shuffled_7_out : impl_shuffled_7_ω → Ex × List Slot := (fun x => (.exit 2, [⟨.val false [⟨.str, .sh, TC.s (x.1)⟩], ⟨0, 0⟩⟩, ⟨.val false [⟨.int .i64, .sh, TC.i (x.2.1)⟩], ⟨0, 0⟩⟩, ⟨.val false [⟨.bool, .sh, TC.b true⟩], ⟨0, 0⟩⟩, Slot.none, ⟨.val false [⟨.slice 5, .own true, TC.l (x.2.2.1)⟩], ⟨0, 0⟩⟩, ⟨.val false [⟨.int .i64, .sh, TC.i (x.2.2.2.1)⟩], ⟨0, 0⟩⟩, ⟨.val false [⟨.int .i64, .sh, TC.i (x.2.2.2.2.1)⟩], ⟨0, 0⟩⟩, ⟨.val false [⟨.int .i64, .sh, TC.i (x.2.2.2.2.2)⟩], ⟨0, 0⟩⟩]))
noncomputable def impl_shuffled_lo7 : List Slot → Option (Told (Ex × List Slot)) := fun s => match s with
  | [⟨.val false [⟨.str, .sh, TC.s s⟩], ⟨0, 0⟩⟩, ⟨.val false [⟨.int .i64, .sh, TC.i w⟩], ⟨0, 0⟩⟩, ⟨.val false [⟨.bool, .sh, TC.b true⟩], ⟨0, 0⟩⟩, ⟨.val false [⟨.slice 5, .own true, TC.l X⟩], ⟨0, 0⟩⟩, ⟨.val false [⟨.int .i64, .sh, TC.i n⟩], ⟨0, 0⟩⟩, ⟨.val false [⟨.int .i64, .sh, TC.i i⟩], ⟨0, 0⟩⟩, ⟨.val false [⟨.int .i64, .sh, TC.i p⟩], ⟨0, 0⟩⟩, ⟨.val false [⟨.int .i64, .sh, TC.i q⟩], ⟨0, 0⟩⟩, ⟨.val false [⟨.int .i64, .sh, TC.i m⟩], ⟨0, 0⟩⟩, ⟨.val false [⟨.int .i64, .sh, TC.i k⟩], ⟨0, 0⟩⟩] => some (((impl_shuffled_7_fin s w X n i p q m k)).map impl_shuffled_7_out)
  | _ => .none
abbrev impl_shuffled_4_σ := List UInt8 × Int × List (List TC) × Int × Int × Int
abbrev impl_shuffled_4_ω := (List (List TC))
noncomputable def impl_shuffled_o4_1 (s : List UInt8) (w : Int) (X : List (List TC)) (n : Int) (m : Int) (i : Int) : Bool := is (∃ wn nn : Nat, w = (wn : Int) ∧ n = (nn : Int) ∧ m = (nn : Int) ∧ i = 0 ∧ 0 < wn ∧ wn ≤ 24 ∧ nn * wn ≤ s.length ∧ s.length ≤ 140737488351232 ∧ X = bytesRow s)
noncomputable def impl_shuffled_u4_1 (s : List UInt8) (w : Int) (X : List (List TC)) (n : Int) (m : Int) (i : Int) : List (List TC) := (wr s.length (fB s w.toNat n.toNat) (bcell s) (visB w.toNat (n.toNat) 0))
noncomputable def impl_shuffled_4_fin (s : List UInt8) (w : Int) (X : List (List TC)) (n : Int) (m : Int) (i : Int) : Told impl_shuffled_4_ω := (.leaf (impl_shuffled_o4_1 s w X n m i) (impl_shuffled_u4_1 s w X n m i))
noncomputable def impl_shuffled_4_step (s : List UInt8) (w : Int) (X : List (List TC)) (n : Int) (m : Int) (i : Int) : Tr (impl_shuffled_4_σ ⊕ impl_shuffled_4_ω) := (.ite ((decide (i < m)) = true) (.ite ((impl_shuffled_o7_1 s w X n i m i w (0 : Int)) = true) (.ok (.inl (s, w, (impl_shuffled_u7_1_2 s w X n i m i w (0 : Int)), n, m, (IntKind.wrap .i64 (i + (1 : Int))))))
   .no)
  (.ok (.inr X)))
def impl_shuffled_4_sl (x : impl_shuffled_4_σ) : List Slot := [⟨.val false [⟨.str, .sh, TC.s (x.1)⟩], ⟨0, 0⟩⟩, ⟨.val false [⟨.int .i64, .sh, TC.i (x.2.1)⟩], ⟨0, 0⟩⟩, ⟨.val false [⟨.bool, .sh, TC.b true⟩], ⟨0, 0⟩⟩, ⟨.val false [⟨.slice 5, .own true, TC.l (x.2.2.1)⟩], ⟨0, 0⟩⟩, ⟨.val false [⟨.int .i64, .sh, TC.i (x.2.2.2.1)⟩], ⟨0, 0⟩⟩, ⟨.val false [⟨.int .i64, .sh, TC.i (x.2.2.2.2.1)⟩], ⟨0, 0⟩⟩, ⟨.val false [⟨.int .i64, .sh, TC.i (x.2.2.2.2.2)⟩], ⟨0, 0⟩⟩]
def impl_shuffled_4_out : impl_shuffled_4_ω → Ex × List Slot := (fun x => (.exit 0, [Slot.none, ⟨.val false [⟨.slice 5, .own true, TC.l x⟩], ⟨0, 0⟩⟩]))
noncomputable def impl_shuffled_lo4 : List Slot → Option (Told (Ex × List Slot)) := fun s => match s with
  | [⟨.val false [⟨.str, .sh, TC.s s⟩], ⟨0, 0⟩⟩, ⟨.val false [⟨.int .i64, .sh, TC.i w⟩], ⟨0, 0⟩⟩, ⟨.val false [⟨.bool, .sh, TC.b true⟩], ⟨0, 0⟩⟩, ⟨.val false [⟨.slice 5, .own true, TC.l X⟩], ⟨0, 0⟩⟩, ⟨.val false [⟨.int .i64, .sh, TC.i n⟩], ⟨0, 0⟩⟩, ⟨.val false [⟨.int .i64, .sh, TC.i m⟩], ⟨0, 0⟩⟩, ⟨.val false [⟨.int .i64, .sh, TC.i i⟩], ⟨0, 0⟩⟩] => some (((impl_shuffled_4_fin s w X n m i)).map impl_shuffled_4_out)
  | _ => .none
noncomputable def impl_shuffled_lo : LoopTeller := fun r s => bif Nat.beq r 4 then impl_shuffled_lo4 s else bif Nat.beq r 7 then impl_shuffled_lo7 s else .none
theorem impl_shuffled_7_r (s : List UInt8) (w : Int) (X : List (List TC)) (n : Int) (i : Int) (p : Int) (q : Int) (m : Int) (k : Int) (fuel : Nat) : rounds (rnd tab FT D4 live 60 impl_shuffled_lo 1 7) leave (fuel + 1) (impl_shuffled_7_sl (s, w, X, n, i, p, q, m, k)) = ((impl_shuffled_7_step s w X n i p q m k)).run (goOn (fun s => rounds (rnd tab FT D4 live 60 impl_shuffled_lo 1 7) leave fuel (impl_shuffled_7_sl s)) fun w => some (impl_shuffled_7_out w)) := by kernel_rfl
noncomputable def impl_shuffled_7_st : impl_shuffled_7_σ → Tr (impl_shuffled_7_σ ⊕ impl_shuffled_7_ω) := fun x => (impl_shuffled_7_step (x.1) (x.2.1) (x.2.2.1) (x.2.2.2.1) (x.2.2.2.2.1) (x.2.2.2.2.2.1) (x.2.2.2.2.2.2.1) (x.2.2.2.2.2.2.2.1) (x.2.2.2.2.2.2.2.2))
theorem impl_shuffled_7_h (s : List UInt8) (w : Int) (X : List (List TC)) (n : Int) (i : Int) (p : Int) (q : Int) (m : Int) (k : Int) (ow : impl_shuffled_7_ω) : ((impl_shuffled_7_fin s w X n i p q m k)).val = some ow → ∃ fuel, loopN impl_shuffled_7_st fuel (s, w, X, n, i, p, q, m, k) = some ow := by
  intro h
  simp only [impl_shuffled_7_fin, Told.val] at h
  split at h
  · rename_i ho
    obtain ⟨wn, nn, ii, rfl, rfl, rfl, rfl, rfl, hw0, hw, hi, hL, hs, rfl⟩ := is_iff.1 ho
    cases h
    have key := loopN_run (step := impl_shuffled_7_st) (N := wn) (fun j => (s, (wn : Int), (wr s.length (fB s wn nn) (bcell s) (visB wn ii j)), (nn : Int), (ii : Int), p, q, (wn : Int), (j : Int))) (w := (s, (wn : Int), (wr s.length (fB s wn nn) (bcell s) (visB wn (ii + 1) 0)), (nn : Int), p, q)) (fun j hj => ?_) ?_ wn 0 (by omega)
    · exact ⟨_, key⟩
    · have h1 : ii * wn + j < nn * wn := by
        have h2 : (ii + 1) * wn ≤ nn * wn := Nat.mul_le_mul_right _ hi
        have h3 : (ii + 1) * wn = ii * wn + wn := Nat.succ_mul _ _
        omega
      have h4 : j * nn + ii < nn * wn := by
        have h2 : (j + 1) * nn ≤ wn * nn := Nat.mul_le_mul_right _ hj
        have h3 : (j + 1) * nn = j * nn + nn := Nat.succ_mul _ _
        have h5 : wn * nn = nn * wn := Nat.mul_comm _ _
        omega
      have hF : (fB s wn nn) (ii * wn + j) = bcell s (j * nn + ii) := by
        unfold fB
        rw [(divmod (a := ii) (b := j) (N := wn) hj).1, (divmod (a := ii) (b := j) (N := wn) hj).2]
      have e := wr_step (L := s.length) (p0 := (ii * wn + j)) (F := (fB s wn nn)) (O := bcell s) (vis := (visB wn ii j)) (vis' := (visB wn ii (j + 1))) (by omega) (fun _ => rfl) (fun _ => rfl) (fun p _ => visB_step)
      rw [hF] at e
      show (impl_shuffled_7_step s (wn : Int) (wr s.length (fB s wn nn) (bcell s) (visB wn ii j)) (nn : Int) (ii : Int) p q (wn : Int) (j : Int)).val = _
      unfold impl_shuffled_7_step
      rw [idx64 (a := ii) (b := wn) (c := j) (by omega), idx64 (a := j) (b := nn) (c := ii) (by omega)]
      refine Tr.t (by simp; omega) ?_
      refine Tr.t ⟨by omega, by omega⟩ ?_
      refine Tr.t ⟨by omega, by rw [wr_len]; omega⟩ ?_
      rw [Tr.val_ok, wrap64 (i := (j : Int) + 1) (by omega) (by omega)]
      show some (Sum.inl (s, (wn : Int), (wr s.length (fB s wn nn) (bcell s) (visB wn ii j)).set (ii * wn + j) (splice ((wr s.length (fB s wn nn) (bcell s) (visB wn ii j)).getD (ii * wn + j) []) 0 (bcell s (j * nn + ii))), (nn : Int), (ii : Int), p, q, (wn : Int), ((j + 1 : Nat) : Int))) = _
      rw [e]
    · show (impl_shuffled_7_step s (wn : Int) (wr s.length (fB s wn nn) (bcell s) (visB wn ii wn)) (nn : Int) (ii : Int) p q (wn : Int) (wn : Int)).val = _
      refine Tr.n (by simp) ?_
      rw [wr_congr (vis' := (visB wn ii wn)) (vis := (visB wn (ii + 1) 0)) (fun p _ => visB_next)]
      rfl
  · cases h
theorem impl_shuffled_is7 : LoopIs tab FT D4 live 60 impl_shuffled_lo 1 7 := by
  refine loop_told (sl := impl_shuffled_7_sl) (step := impl_shuffled_7_st) (out := impl_shuffled_7_out) (lor := impl_shuffled_lo7) (fin := fun x => (impl_shuffled_7_fin (x.1) (x.2.1) (x.2.2.1) (x.2.2.2.1) (x.2.2.2.2.1) (x.2.2.2.2.2.1) (x.2.2.2.2.2.2.1) (x.2.2.2.2.2.2.2.1) (x.2.2.2.2.2.2.2.2))) (fun _ => rfl) ?_ (fun x n => impl_shuffled_7_r x.1 x.2.1 x.2.2.1 x.2.2.2.1 x.2.2.2.2.1 x.2.2.2.2.2.1 x.2.2.2.2.2.2.1 x.2.2.2.2.2.2.2.1 x.2.2.2.2.2.2.2.2 n) (fun x ow => impl_shuffled_7_h x.1 x.2.1 x.2.2.1 x.2.2.2.1 x.2.2.2.2.1 x.2.2.2.2.2.1 x.2.2.2.2.2.2.1 x.2.2.2.2.2.2.2.1 x.2.2.2.2.2.2.2.2 ow)
  intro s t h
  unfold impl_shuffled_lo7 at h
  split at h
  · cases h; exact ⟨(_, _, _, _, _, _, _, _, _), rfl, rfl⟩
  · cases h
theorem impl_shuffled_4_r (s : List UInt8) (w : Int) (X : List (List TC)) (n : Int) (m : Int) (i : Int) (fuel : Nat) : rounds (rnd tab FT D4 live 60 impl_shuffled_lo 0 4) leave (fuel + 1) (impl_shuffled_4_sl (s, w, X, n, m, i)) = ((impl_shuffled_4_step s w X n m i)).run (goOn (fun s => rounds (rnd tab FT D4 live 60 impl_shuffled_lo 0 4) leave fuel (impl_shuffled_4_sl s)) fun w => some (impl_shuffled_4_out w)) := by kernel_rfl
noncomputable def impl_shuffled_4_st : impl_shuffled_4_σ → Tr (impl_shuffled_4_σ ⊕ impl_shuffled_4_ω) := fun x => (impl_shuffled_4_step (x.1) (x.2.1) (x.2.2.1) (x.2.2.2.1) (x.2.2.2.2.1) (x.2.2.2.2.2))
theorem impl_shuffled_4_h (s : List UInt8) (w : Int) (X : List (List TC)) (n : Int) (m : Int) (i : Int) (ow : impl_shuffled_4_ω) : ((impl_shuffled_4_fin s w X n m i)).val = some ow → ∃ fuel, loopN impl_shuffled_4_st fuel (s, w, X, n, m, i) = some ow := by
  intro h
  simp only [impl_shuffled_4_fin, Told.val] at h
  split at h
  · rename_i ho
    obtain ⟨wn, nn, rfl, rfl, rfl, rfl, hw0, hw, hL, hs, rfl⟩ := is_iff.1 ho
    cases h
    have hR : nn ≤ 140737488351232 := by have := Nat.le_mul_of_pos_right nn hw0; omega
    have key := loopN_run (step := impl_shuffled_4_st) (N := nn) (fun j => (s, (wn : Int), (wr s.length (fB s wn nn) (bcell s) (visB wn j 0)), (nn : Int), (nn : Int), (j : Int))) (w := (wr s.length (fB s wn nn) (bcell s) (visB wn nn 0))) (fun j hj => ?_) ?_ nn 0 (by omega)
    · rw [wr_none (F := (fB s wn nn)), ← wr_congr (vis' := (visB wn 0 0)) (fun p _ => visB_zero)]
      exact ⟨_, key⟩
    · show (impl_shuffled_4_step s (wn : Int) (wr s.length (fB s wn nn) (bcell s) (visB wn j 0)) (nn : Int) (nn : Int) (j : Int)).val = _
      unfold impl_shuffled_4_step
      refine Tr.t (by simp; omega) ?_
      refine Tr.t (is_true ⟨wn, nn, j, rfl, rfl, rfl, rfl, rfl, hw0, hw, hj, hL, hs, rfl⟩) ?_
      rw [Tr.val_ok]
      rw [wrap64 (i := (j : Int) + 1) (by omega) (by omega)]
      rfl
    · show (impl_shuffled_4_step s (wn : Int) (wr s.length (fB s wn nn) (bcell s) (visB wn nn 0)) (nn : Int) (nn : Int) (nn : Int)).val = _
      refine Tr.n (by simp) ?_
      rfl
  · cases h
theorem impl_shuffled_is4 : LoopIs tab FT D4 live 60 impl_shuffled_lo 0 4 := by
  refine loop_told (sl := impl_shuffled_4_sl) (step := impl_shuffled_4_st) (out := impl_shuffled_4_out) (lor := impl_shuffled_lo4) (fin := fun x => (impl_shuffled_4_fin (x.1) (x.2.1) (x.2.2.1) (x.2.2.2.1) (x.2.2.2.2.1) (x.2.2.2.2.2))) (fun _ => rfl) ?_ (fun x n => impl_shuffled_4_r x.1 x.2.1 x.2.2.1 x.2.2.2.1 x.2.2.2.2.1 x.2.2.2.2.2 n) (fun x ow => impl_shuffled_4_h x.1 x.2.1 x.2.2.1 x.2.2.2.1 x.2.2.2.2.1 x.2.2.2.2.2 ow)
  intro s t h
  unfold impl_shuffled_lo4 at h
  split at h
  · cases h; exact ⟨(_, _, _, _, _, _), rfl, rfl⟩
  · cases h
noncomputable def impl_shuffled_t (s : List UInt8) (w : Int) : Tr (List UInt8) := (.ite (s.length ≤ 140737488355328) (.ite (w ≠ 0) (.ite ((impl_shuffled_o4_1 s w (bytesRow s) (IntKind.wrap .i64 (Int.tdiv (s.length : Int) w)) (IntKind.wrap .i64 (Int.tdiv (s.length : Int) w)) (0 : Int)) = true) (.ok ((impl_shuffled_u4_1 s w (bytesRow s) (IntKind.wrap .i64 (Int.tdiv (s.length : Int) w)) (IntKind.wrap .i64 (Int.tdiv (s.length : Int) w)) (0 : Int)).map byteOf))
    .no)
   .no)
  .no)
def impl_shuffled_mk (p : List UInt8) : Res := [(false, [⟨.str, .sh, TC.s p⟩])]
noncomputable def impl_shuffled_c (s : List UInt8) (w : Int) : Bool := is (∃ wn : Nat, w = (wn : Int) ∧ 0 < wn ∧ wn ≤ 24 ∧ s.length ≤ 140737488351232)
noncomputable def impl_shuffled_v (s : List UInt8) (w : Int) : List UInt8 := unshufF s w.toNat
theorem impl_shuffled_l (s : List UInt8) (w : Int) : (impl_shuffled_c s w) = true → (impl_shuffled_t s w).val = some (impl_shuffled_v s w) := by
  intro h
  obtain ⟨wn, rfl, h0, h24, hs⟩ := is_iff.1 h
  have hm : s.length / wn * wn ≤ s.length := Nat.div_mul_le_self _ _
  unfold impl_shuffled_t
  rw [tdiv64 (by omega)]
  refine Tr.t (by omega) ?_
  refine Tr.t (by omega) ?_
  refine Tr.t (is_true ⟨wn, s.length / wn, rfl, rfl, rfl, rfl, h0, h24, hm, hs, rfl⟩) ?_
  exact congrArg some unshufF_wr
noncomputable def impl_shuffled_S : List Arg → Option (Bool × Res) := fun xs => match xs with
  | [(false, [(.str, TC.s s)]), (false, [(.int .i64, TC.i w)]), (false, [(.bool, TC.b true)])] => some ((impl_shuffled_c s w), impl_shuffled_mk (impl_shuffled_v s w))
  | _ => .none
theorem impl_shuffled_e (s : List UInt8) (w : Int) : runF tab FT D4 live 60 impl_shuffled_lo [(false, [(.str, TC.s s)]), (false, [(.int .i64, TC.i w)]), (false, [(.bool, TC.b true)])] = (impl_shuffled_t s w).run fun p => some (impl_shuffled_mk p) := by kernel_rfl
theorem impl_shuffled_s : ∀ xs r, impl_shuffled_S xs = some (true, r) → runF tab FT D4 live 60 impl_shuffled_lo xs = some r := by
  intro xs r h
  unfold impl_shuffled_S at h
  split at h
  · simp only [Option.some.injEq, Prod.mk.injEq] at h
    obtain ⟨h1, rfl⟩ := h
    exact fun_told (impl_shuffled_e _ _) (impl_shuffled_l _ _) h1
  · cases h
noncomputable def D5 : Dt := also D4 60 impl_shuffled_S
theorem d5 : DOk Go.Proofs.Try.prog tab D5 := d4.also mixed_ok tab_ok names_ok (fnLoops_two (by kernel_rfl) impl_shuffled_is4 impl_shuffled_is7) impl_shuffled_s
/-! impl_Unshuffle -/
noncomputable def impl_Unshuffle_t (s : List UInt8) (w : Int) : Tr (List UInt8) := (.ite ((!(impl_within_v w (1 : Int) (24 : Int))) = true) (.ok ([]))
  (.ite ((decide ((s.length : Int) > (1100 : Int))) = true) (.ok ([]))
   (.ite ((impl_shuffled_c s w) = true) (.ok (impl_shuffled_v s w))
    .no)))
def impl_Unshuffle_mk (p : List UInt8) : Res := [(false, [⟨.str, .sh, TC.s p⟩])]
noncomputable def impl_Unshuffle_c (s : List UInt8) (w : Int) : Bool := (bif (!(impl_within_v w (1 : Int) (24 : Int))) then true else (bif (decide ((s.length : Int) > (1100 : Int))) then true else ((impl_shuffled_c s w) && true)))
noncomputable def impl_Unshuffle_v (s : List UInt8) (w : Int) : List UInt8 := (bif (!(impl_within_v w (1 : Int) (24 : Int))) then [] else (bif (decide ((s.length : Int) > (1100 : Int))) then [] else (impl_shuffled_v s w)))
theorem impl_Unshuffle_l (s : List UInt8) (w : Int) : (impl_Unshuffle_c s w) = true → (impl_Unshuffle_t s w).val = some (impl_Unshuffle_v s w) := by
  unfold impl_Unshuffle_t impl_Unshuffle_v impl_Unshuffle_c
  exact fun h => (Tr.ss h (fun h => rfl) (fun h => (Tr.ss h (fun h => rfl) (fun h => (Tr.gb h fun h => rfl)))))
noncomputable def impl_Unshuffle_S : List Arg → Option (Bool × Res) := fun xs => match xs with
  | [(false, [(.str, TC.s s)]), (false, [(.int .i64, TC.i w)])] => some ((impl_Unshuffle_c s w), impl_Unshuffle_mk (impl_Unshuffle_v s w))
  | _ => .none
theorem impl_Unshuffle_e (s : List UInt8) (w : Int) : runF tab FT D5 live 23 noLoops [(false, [(.str, TC.s s)]), (false, [(.int .i64, TC.i w)])] = (impl_Unshuffle_t s w).run fun p => some (impl_Unshuffle_mk p) := by kernel_rfl
theorem impl_Unshuffle_s : ∀ xs r, impl_Unshuffle_S xs = some (true, r) → runF tab FT D5 live 23 noLoops xs = some r := by
  intro xs r h
  unfold impl_Unshuffle_S at h
  split at h
  · simp only [Option.some.injEq, Prod.mk.injEq] at h
    obtain ⟨h1, rfl⟩ := h
    exact fun_told (impl_Unshuffle_e _ _) (impl_Unshuffle_l _ _) h1
  · cases h
noncomputable def D6 : Dt := also D5 23 impl_Unshuffle_S
theorem d6 : DOk Go.Proofs.Try.prog tab D6 := d5.also mixed_ok tab_ok names_ok noLoops_ok impl_Unshuffle_s
theorem impl_Unshuffle_cc {s : List UInt8} {w : Int} (hs : Typed tab (.str) (.s s)) : (impl_Unshuffle_c s w) = true := by
  unfold impl_Unshuffle_c
  refine bifT (fun b1 => ?_) (fun b1 => ?_)
  · skip
    rfl
  · skip
    refine bifT (fun b2 => ?_) (fun b2 => ?_)
    · skip
      rfl
    · skip
      refine andT (by exact shufC b1 hs) ?_
      rfl
/-! the law -/
noncomputable def laws_FnExactUnshuffle_t (x0 : List UInt8) (x1 : Int) : Tr Bool := (.ite ((decide ((x0.length : Int) > (1048576 : Int))) = true) (.ok true)
  (.ite ((spec_Unshuffle_c x0 x1) = true) (.ite ((impl_Unshuffle_c x0 x1) = true) (.ite ((!((impl_Unshuffle_v x0 x1) == (spec_Unshuffle_v x0 x1))) = true) (.ok false)
     (.ok true))
    .no)
   .no))
theorem laws_FnExactUnshuffle_e (x0 : List UInt8) (x1 : Int) : runF tab FT D6 live 6 noLoops [(false, [(.str, TC.s x0)]), (false, [(.int .i64, TC.i x1)])] = (laws_FnExactUnshuffle_t x0 x1).run fun p => some [(false, [⟨.bool, .sh, .b p⟩])] := by kernel_rfl
theorem laws_FnExactUnshuffle_p (x0 : List UInt8) (x1 : Int) (h0 : Typed tab (.str) (.s x0)) (h1 : Typed tab (.int .i64) (.i x1)) : (laws_FnExactUnshuffle_t x0 x1).val = some true := by
  unfold laws_FnExactUnshuffle_t
  refine Tr.y ?_
  refine Tr.t (by first | exact (by first | (apply is_true; and_intros <;> (first | rfl | assumption | exact (by first | (apply is_true; and_intros <;> (first | rfl | assumption | exact (by first | (apply is_true; and_intros <;> (first | rfl | assumption | exact (by first | (apply is_true; and_intros <;> (first | rfl | assumption | exact (by first | (apply is_true; and_intros <;> (first | rfl | assumption | (apply spec_Unshuffle_cc <;> assumption) | (apply impl_Unshuffle_cc <;> assumption))) | (apply spec_Unshuffle_cc <;> assumption) | (apply impl_Unshuffle_cc <;> assumption)))) | (apply spec_Unshuffle_cc <;> assumption) | (apply impl_Unshuffle_cc <;> assumption)))) | (apply spec_Unshuffle_cc <;> assumption) | (apply impl_Unshuffle_cc <;> assumption)))) | (apply spec_Unshuffle_cc <;> assumption) | (apply impl_Unshuffle_cc <;> assumption)))) | (apply spec_Unshuffle_cc <;> assumption) | (apply impl_Unshuffle_cc <;> assumption)) | simp [*]) ?_
  refine Tr.t (by first | exact (by first | (apply is_true; and_intros <;> (first | rfl | assumption | exact (by first | (apply is_true; and_intros <;> (first | rfl | assumption | exact (by first | (apply is_true; and_intros <;> (first | rfl | assumption | exact (by first | (apply is_true; and_intros <;> (first | rfl | assumption | exact (by first | (apply is_true; and_intros <;> (first | rfl | assumption | (apply spec_Unshuffle_cc <;> assumption) | (apply impl_Unshuffle_cc <;> assumption))) | (apply spec_Unshuffle_cc <;> assumption) | (apply impl_Unshuffle_cc <;> assumption)))) | (apply spec_Unshuffle_cc <;> assumption) | (apply impl_Unshuffle_cc <;> assumption)))) | (apply spec_Unshuffle_cc <;> assumption) | (apply impl_Unshuffle_cc <;> assumption)))) | (apply spec_Unshuffle_cc <;> assumption) | (apply impl_Unshuffle_cc <;> assumption)))) | (apply spec_Unshuffle_cc <;> assumption) | (apply impl_Unshuffle_cc <;> assumption)) | simp [*]) ?_
  refine Tr.n (by first | (simp [spec_l00In_v, spec_l18Unshuffle_u7_1_3, spec_l18Unshuffle_u4_1_3, spec_l18Unshuffle_v, spec_Unshuffle_v, impl_within_v, impl_shuffled_u7_1_2, impl_shuffled_u4_1, impl_shuffled_v, impl_Unshuffle_v]; done) | (simp only [spec_l00In_v, spec_l18Unshuffle_u7_1_3, spec_l18Unshuffle_u4_1_3, spec_l18Unshuffle_v, spec_Unshuffle_v, impl_within_v, impl_shuffled_u7_1_2, impl_shuffled_u4_1, impl_shuffled_v, impl_Unshuffle_v, nth0, nth1, nth2, nth3, nth4, nth5, int_i, bool_b, str_s, list_l, cells_p, Bool.not_eq_true, bne_self_eq_false, beq_self_eq_true, Bool.not_true]; done) | (simp [spec_l00In_v, spec_l18Unshuffle_u7_1_3, spec_l18Unshuffle_u4_1_3, spec_l18Unshuffle_v, spec_Unshuffle_v, impl_within_v, impl_shuffled_u7_1_2, impl_shuffled_u4_1, impl_shuffled_v, impl_Unshuffle_v, nth0, nth1, nth2, nth3, nth4, nth5, int_i, bool_b, str_s, list_l, cells_p]; done) | (simp [spec_l00In_v, spec_l18Unshuffle_u7_1_3, spec_l18Unshuffle_u4_1_3, spec_l18Unshuffle_v, spec_Unshuffle_v, impl_within_v, impl_shuffled_u7_1_2, impl_shuffled_u4_1, impl_shuffled_v, impl_Unshuffle_v, nth0, nth1, nth2, nth3, nth4, nth5, int_i, bool_b, str_s, list_l, cells_p] <;> rfl)) ?_
  rfl
theorem laws_FnExactUnshuffle_pure : ∀ xs, ArgsTyped tab [9, 2] xs → runF tab FT D6 live 6 noLoops xs = yes := by
  intro xs h
  cases h with | cons l0 g0 h =>
  obtain ⟨z0_0, rfl⟩ := len_1 l0
  have q0 := g0 0 (by decide)
  have q0 : Typed tab (.str) z0_0 := q0
  obtain ⟨y0, rfl⟩ := typed_str q0
  cases h with | cons l1 g1 h =>
  obtain ⟨z1_0, rfl⟩ := len_1 l1
  have q1 := g1 0 (by decide)
  have q1 : Typed tab (.int .i64) z1_0 := q1
  obtain ⟨y1, rfl⟩ := typed_int q1
  cases h
  refine (laws_FnExactUnshuffle_e y0 y1).trans ?_
  rw [Tr.run_eq, laws_FnExactUnshuffle_p y0 y1 q0 q1]
  rfl
end Go.Proofs.Ytnlpkmkkidpfhaa.V
