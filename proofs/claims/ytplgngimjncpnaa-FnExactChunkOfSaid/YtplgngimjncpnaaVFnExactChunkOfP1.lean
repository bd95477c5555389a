/- What the functions of FnExactChunkOf answer. No condition. -/
import Derived.Test.YtplgngimjncpnaaVFacts
namespace Go.Proofs.Ytplgngimjncpnaa.V
open Go
set_option maxRecDepth 100000
set_option linter.unusedVariables false
set_option linter.unusedSectionVars false
set_option linter.unusedSimpArgs false
set_option maxHeartbeats 2000000
def inR (lo hi : Int) (x : List TC) : Bool := bif decide ((nth x 0).int ≥ lo) then decide ((nth x 0).int ≤ hi) else false
def mulR (n : Int) (x : List TC) : Int := IntKind.wrap .i64 (n * (nth x 0).int)
def prodL (A : List (List TC)) : Int := A.foldl mulR 1
def gridC (d c : List TC) : List TC := [.i (IntKind.wrap .i64 (Int.tdiv (IntKind.wrap .i64 ((IntKind.wrap .i64 ((nth d 0).int + (nth c 0).int)) - (1 : Int))) ((nth c 0).int)))]
def gridL (D C : List (List TC)) : List (List TC) := List.zipWith gridC D C
theorem lenEq {D C : List (List TC)} (h : (!((C.length : Int) == (D.length : Int))) = false) : D.length = C.length := by
  have h2 : ((C.length : Int) == (D.length : Int)) = true := by simpa using h
  have h3 := eq_of_beq h2
  omega
theorem nnF {b : Bool} (h : (!(!(!b))) = false) : b = true := by simpa using h
theorem gridL_at {D C : List (List TC)} {i : Nat} (hl : D.length = C.length) (hi : i < (gridL D C).length) : (gridL D C)[i] = gridC (D.getD i []) (C.getD i []) := by
  have h1 : i < D.length := by simp [gridL] at hi; omega
  have h2 : i < C.length := by omega
  rw [getD_at h1, getD_at h2]
  exact List.getElem_zipWith
theorem inR_1 {C : List (List TC)} (h : C.all (inR 1 40) = true) {i : Nat} (hi : i < C.length) : (nth (C.getD i []) 0).int ≠ 0 := by
  have h1 := (List.all_eq_true.1 h) (C.getD i []) (mem_getD hi)
  unfold inR at h1
  intro h0
  rw [h0] at h1
  cases h1
theorem gridL_len {D C : List (List TC)} (h : D.length ≤ 140737488351232) : (gridL D C).length ≤ 140737488351232 := by simp only [gridL, List.length_zipWith]; omega
theorem gridL_ty {e : TypeId} {D C : List (List TC)} (he : (tab e).cts = [.int .i64]) (h : Typed tab (.slice e) (.l D)) : Typed tab (.slice e) (.l (gridL D C)) := by
  have hm : ∀ x, x ∈ gridL D C → ∃ d c, x = gridC d c := by
    intro x hx
    obtain ⟨i, hi, rfl⟩ := List.getElem_of_mem hx
    exact ⟨_, _, List.getElem_zipWith⟩
  cases h with
  | slice _ _ h1 h2 h3 h4 =>
    have hl : (gridL D C).length ≤ D.length := by simp only [gridL, List.length_zipWith]; omega
    refine .slice _ _ (Nat.le_trans (Nat.mul_le_mul_right _ hl) h1) (Nat.le_trans hl h2) (fun x hx => ?_) (fun x hx k hk => ?_)
    · obtain ⟨d, c, rfl⟩ := hm x hx
      rw [he]; rfl
    · obtain ⟨d, c, rfl⟩ := hm x hx
      rw [he] at hk ⊢
      match k, hk with
      | 0, _ => exact .int _ _ (wrap_wf _)
def dimsOk (D : List (List TC)) : Bool := decide ((D.length : Int) ≤ 3) && D.all (inR 0 40) && decide (prodL D ≤ 600)
def chunkOk (D C : List (List TC)) : Bool := dimsOk D && ((C.length : Int) == (D.length : Int)) && C.all (inR 1 40) && decide (prodL C ≤ 64) && (gridL D C).all (inR 0 16) && decide (prodL (gridL D C) ≤ 256)
theorem dimsOk_all {D : List (List TC)} (h : dimsOk D = true) : D.all (inR 0 40) = true := by
  unfold dimsOk at h
  simp only [Bool.and_eq_true] at h
  exact h.1.2
def le16 (x : List TC) : Bool := !(decide ((nth x 0).int > 16))
theorem inR_iff {lo hi : Int} {x : List TC} : inR lo hi x = true ↔ lo ≤ (nth x 0).int ∧ (nth x 0).int ≤ hi := by
  unfold inR
  by_cases h : lo ≤ (nth x 0).int <;> simp [h]
theorem gridC_val {d c : List TC} (hd : inR 0 40 d = true) (hc : inR 1 40 c = true) : (nth (gridC d c) 0).int = Int.tdiv ((nth d 0).int + (nth c 0).int - 1) ((nth c 0).int) ∧ 0 ≤ (nth (gridC d c) 0).int := by
  rw [inR_iff] at hd hc
  have h0 : 0 ≤ Int.tdiv ((nth d 0).int + (nth c 0).int - 1) ((nth c 0).int) := Int.tdiv_nonneg (by omega) (by omega)
  have h1 : Int.tdiv ((nth d 0).int + (nth c 0).int - 1) ((nth c 0).int) ≤ (nth d 0).int + (nth c 0).int - 1 := Int.tdiv_le_self _ (by omega)
  have e : (nth (gridC d c) 0).int = Int.tdiv ((nth d 0).int + (nth c 0).int - 1) ((nth c 0).int) := by
    show IntKind.wrap .i64 (Int.tdiv (IntKind.wrap .i64 ((IntKind.wrap .i64 ((nth d 0).int + (nth c 0).int)) - (1 : Int))) ((nth c 0).int)) = _
    rw [wrap64 (i := (nth d 0).int + (nth c 0).int) (by omega) (by omega), wrap64 (i := (nth d 0).int + (nth c 0).int - 1) (by omega) (by omega), wrap64 (by omega) (by omega)]
  rw [e]
  exact ⟨rfl, h0⟩
theorem grid_all {D C : List (List TC)} (hd : D.all (inR 0 40) = true) (hc : C.all (inR 1 40) = true) : (gridL D C).all le16 = (gridL D C).all (inR 0 16) := by
  rw [Bool.eq_iff_iff, List.all_eq_true, List.all_eq_true]
  refine forall_congr' fun x => forall_congr' fun hx => ?_
  obtain ⟨i, hi, rfl⟩ := List.getElem_of_mem hx
  have h1 : i < D.length := by simp [gridL] at hi; omega
  have h2 : i < C.length := by simp [gridL] at hi; omega
  have hg : (gridL D C)[i] = gridC D[i] C[i] := List.getElem_zipWith
  rw [hg]
  have h0 := (gridC_val (List.all_eq_true.1 hd _ (List.getElem_mem h1)) (List.all_eq_true.1 hc _ (List.getElem_mem h2))).2
  rw [inR_iff]
  unfold le16
  simp
  omega
theorem chunkOk_parts {D C : List (List TC)} (h : chunkOk D C = true) : D.length = C.length ∧ C.all (inR 1 40) = true ∧ dimsOk D = true := by
  unfold chunkOk at h
  simp only [Bool.and_eq_true, beq_iff_eq] at h
  obtain ⟨⟨⟨⟨⟨h1, h2⟩, h3⟩, _⟩, _⟩, _⟩ := h
  exact ⟨by omega, h3, h1⟩
def chunkCount (D C : List (List TC)) : Int := bif chunkOk D C then prodL (gridL D C) else -1
def insB (D T : List (List TC)) (i : Int) : Bool := bif decide ((nth (row T i) 0).int ≥ 0) then decide ((nth (row T i) 0).int ≤ IntKind.wrap .i64 ((nth (row D i) 0).int - (1 : Int))) else false
def insideOk (D T : List (List TC)) : Bool := ((T.length : Int) == (D.length : Int)) && allI (fun i : Nat => insB D T (i : Int)) T.length
def keyL (A : List (List TC)) : Int := foldI (fun i n => IntKind.wrap .i64 ((IntKind.wrap .i64 (n * 16)) + (nth (row A (i : Int)) 0).int)) A.length 0
def indexN (D T : List (List TC)) (k : Nat) : Int := foldI (fun i n => IntKind.wrap .i64 ((IntKind.wrap .i64 (n * (nth (row D (i : Int)) 0).int)) + (nth (row T (i : Int)) 0).int)) k 0
def divStep (C T : List (List TC)) (i : Nat) (a : List (List TC) × List (List TC)) : List (List TC) × List (List TC) := (a.1 ++ [[TC.i (IntKind.wrap .i64 (Int.tdiv ((nth (row T (i : Int)) 0).int) ((nth (row C (i : Int)) 0).int)))]], a.2 ++ [[TC.i (Int.tmod ((nth (row T (i : Int)) 0).int) ((nth (row C (i : Int)) 0).int))]])
def divs (C T : List (List TC)) (n : Nat) : List (List TC) × List (List TC) := foldI (divStep C T) n ([], [])
theorem divs_len {C T : List (List TC)} : ∀ {n : Nat}, (divs C T n).1.length = n ∧ (divs C T n).2.length = n
  | 0 => ⟨rfl, rfl⟩
  | n + 1 => by
    obtain ⟨h1, h2⟩ := divs_len (C := C) (T := T) (n := n)
    unfold divs at h1 h2 ⊢
    rw [foldI_succ]
    unfold divStep at h1 h2 ⊢
    simp only [List.length_append, List.length_singleton]
    omega
def chunkOfV (D C T : List (List TC)) : Int × Int := bif chunkOk D C && insideOk D T then (keyL (divs C T T.length).1, indexN C (divs C T T.length).2 T.length) else (-1, -1)
theorem chunkOf_parts {D C T : List (List TC)} (h : chunkOk D C = true) (h' : insideOk D T = true) : T.length = C.length ∧ ∀ j : Nat, j < C.length → (nth (row C (j : Int)) 0).int ≠ 0 := by
  obtain ⟨h1, h2, _⟩ := chunkOk_parts h
  unfold insideOk at h'
  simp only [Bool.and_eq_true, beq_iff_eq] at h'
  exact ⟨by omega, fun j hj => inR_1 h2 hj⟩
/-! laws_toInt64S -/
def laws_toInt64S_g (x : List TC) : List TC := [TC.i ((nth x 0).int)]
def laws_toInt64S_z : List TC := [TC.i (0 : Int)]
abbrev laws_toInt64S_3_σ := List (List TC) × List (List TC) × Int
abbrev laws_toInt64S_3_ω := (List (List TC))
noncomputable def laws_toInt64S_3_step (A : List (List TC)) (X : List (List TC)) (i : Int) : Tr (laws_toInt64S_3_σ ⊕ laws_toInt64S_3_ω) := (.ite ((decide (i < (A.length : Int))) = true) (.ite ((0 : Int) ≤ i ∧ i < (A.length : Int)) (.ite ((0 : Int) ≤ i ∧ i < (X.length : Int)) (.ok (.inl (A, (X.set (i).toNat (splice (row X i) 0 [TC.i ((nth (row A i) 0).int)])), (IntKind.wrap .i64 (i + (1 : Int))))))
    .no)
   .no)
  (.ok (.inr X)))
noncomputable def laws_toInt64S_3_st : laws_toInt64S_3_σ → Tr (laws_toInt64S_3_σ ⊕ laws_toInt64S_3_ω) := fun x => (laws_toInt64S_3_step (x.1) (x.2.1) (x.2.2))
noncomputable def laws_toInt64S_o3_1 (A : List (List TC)) (X : List (List TC)) (i : Int) : Bool := is (Typed tab (.slice 2) (.l A) ∧ X = List.replicate A.length laws_toInt64S_z ∧ i = 0)
noncomputable def laws_toInt64S_u3_1 (A : List (List TC)) (X : List (List TC)) (i : Int) : List (List TC) := A.map laws_toInt64S_g
noncomputable def laws_toInt64S_3_fin (A : List (List TC)) (X : List (List TC)) (i : Int) : Told laws_toInt64S_3_ω := (.leaf (laws_toInt64S_o3_1 A X i) (laws_toInt64S_u3_1 A X i))
def laws_toInt64S_3_sl (x : laws_toInt64S_3_σ) : List Slot := [⟨.val false [⟨.slice 2, .sh, TC.l (x.1)⟩], ⟨0, 0⟩⟩, ⟨.val false [⟨.slice 2, .own true, TC.l (x.2.1)⟩], ⟨0, 0⟩⟩, ⟨.val false [⟨.int .i64, .sh, TC.i (x.2.2)⟩], ⟨0, 0⟩⟩]
def laws_toInt64S_3_out : laws_toInt64S_3_ω → Ex × List Slot := (fun x => (.exit 0, [Slot.none, ⟨.val false [⟨.slice 2, .own true, TC.l x⟩], ⟨0, 0⟩⟩]))
noncomputable def laws_toInt64S_lo3 : List Slot → Option (Told (Ex × List Slot)) := fun s => match s with
  | [⟨.val false [⟨.slice 2, .sh, TC.l A⟩], ⟨0, 0⟩⟩, ⟨.val false [⟨.slice 2, .own true, TC.l X⟩], ⟨0, 0⟩⟩, ⟨.val false [⟨.int .i64, .sh, TC.i i⟩], ⟨0, 0⟩⟩] => some (((laws_toInt64S_3_fin A X i)).map laws_toInt64S_3_out)
  | _ => .none
noncomputable def laws_toInt64S_lo : LoopTeller := fun r s => bif Nat.beq r 3 then laws_toInt64S_lo3 s else .none
theorem laws_toInt64S_3_r (A : List (List TC)) (X : List (List TC)) (i : Int) (fuel : Nat) : rounds (rnd tab FT D0 live 15 laws_toInt64S_lo 0 3) leave (fuel + 1) (laws_toInt64S_3_sl (A, X, i)) = ((laws_toInt64S_3_step A X i)).run (goOn (fun s => rounds (rnd tab FT D0 live 15 laws_toInt64S_lo 0 3) leave fuel (laws_toInt64S_3_sl s)) fun w => some (laws_toInt64S_3_out w)) := by kernel_rfl
theorem laws_toInt64S_3_h (A : List (List TC)) (X : List (List TC)) (i : Int) (ow : laws_toInt64S_3_ω) : ((laws_toInt64S_3_fin A X i)).val = some ow → ∃ fuel, loopN laws_toInt64S_3_st fuel (A, X, i) = some ow := by
  intro h
  simp only [laws_toInt64S_3_fin, Told.val] at h
  split at h
  · rename_i ho
    obtain ⟨ht, rfl, rfl⟩ := is_iff.1 ho
    cases h
    have hlen : A.length ≤ 140737488351232 := by have := typed_room ht; simp only [show (tab 2).bytes = 8 from rfl] at this; omega
    have key := loopN_copy (step := laws_toInt64S_3_st) A (List.replicate A.length laws_toInt64S_z) laws_toInt64S_g (fun Y i => (A, Y, (i : Int))) (A.map laws_toInt64S_g) (by simp) (fun x hx i _ => by rw [(List.mem_replicate.1 hx).2]; exact Nat.le_refl 1) (fun Y i hi hl => ?_) ?_ A.length 0 (by omega)
    · rw [copied_zero] at key
      exact ⟨_, key⟩
    · skip
      show (laws_toInt64S_3_step A Y (i : Int)).val = _
      unfold laws_toInt64S_3_step
      refine Tr.t (by simp; omega) ?_
      refine Tr.t (by constructor <;> omega) ?_
      refine Tr.t (by constructor <;> omega) ?_
      repeat (refine Tr.t (by first | (apply is_true; and_intros <;> (first | rfl | assumption | (first | (apply is_true; and_intros <;> (first | rfl | assumption | (first | (apply is_true; and_intros <;> (first | rfl | assumption | (first | (apply is_true; and_intros <;> (first | rfl | assumption)))))))))))) ?_)
      rw [Tr.val_ok, wrap64 (i := (i : Int) + 1) (by omega) (by omega)]; rfl
    · show (laws_toInt64S_3_step A (A.map laws_toInt64S_g) (A.length : Int)).val = _
      refine Tr.n (by simp) ?_
      rfl
  · cases h
theorem laws_toInt64S_is3 : LoopIs tab FT D0 live 15 laws_toInt64S_lo 0 3 := by
  refine loop_told (sl := laws_toInt64S_3_sl) (step := laws_toInt64S_3_st) (out := laws_toInt64S_3_out) (lor := laws_toInt64S_lo3) (fin := fun x => (laws_toInt64S_3_fin (x.1) (x.2.1) (x.2.2))) (fun _ => rfl) ?_ (fun x n => laws_toInt64S_3_r x.1 x.2.1 x.2.2 n) (fun x ow => laws_toInt64S_3_h x.1 x.2.1 x.2.2 ow)
  intro s t h
  unfold laws_toInt64S_lo3 at h
  split at h
  · cases h; exact ⟨(_, _, _), rfl, rfl⟩
  · cases h
noncomputable def laws_toInt64S_t (A : List (List TC)) : Tr (List (List TC)) := (.ite (0 ≤ (A.length : Int) ∧ (A.length : Int) ≤ (A.length : Int) ∧ (A.length : Int) * 8 ≤ 140737488355328 ∧ (A.length : Int) ≤ 140737488355328) (.ite ((laws_toInt64S_o3_1 A (List.replicate ((A.length : Int)).toNat [TC.i (0 : Int)]) (0 : Int)) = true) (.ok (laws_toInt64S_u3_1 A (List.replicate ((A.length : Int)).toNat [TC.i (0 : Int)]) (0 : Int)))
   .no)
  .no)
def laws_toInt64S_mk (p : List (List TC)) : Res := [(false, [⟨.slice 2, .own true, TC.l p⟩])]
noncomputable def laws_toInt64S_c (A : List (List TC)) : Bool := is (Typed tab (.slice 2) (.l A))
noncomputable def laws_toInt64S_v (A : List (List TC)) : List (List TC) := A.map laws_toInt64S_g
theorem laws_toInt64S_l (A : List (List TC)) : (laws_toInt64S_c A) = true → (laws_toInt64S_t A).val = some (laws_toInt64S_v A) := by
  intro h
  have ht := is_iff.1 h
  have hb := typed_room ht
  simp only [show (tab 2).bytes = 8 from rfl] at hb
  unfold laws_toInt64S_t
  refine Tr.t (by omega) ?_
  refine Tr.t (is_true ⟨ht, by rfl, rfl⟩) ?_
  rfl
noncomputable def laws_toInt64S_S : List Arg → Option (Bool × Res) := fun xs => match xs with
  | [(false, [(.slice 2, TC.l A)])] => some ((laws_toInt64S_c A), laws_toInt64S_mk (laws_toInt64S_v A))
  | _ => .none
theorem laws_toInt64S_e (A : List (List TC)) : runF tab FT D0 live 15 laws_toInt64S_lo [(false, [(.slice 2, TC.l A)])] = (laws_toInt64S_t A).run fun p => some (laws_toInt64S_mk p) := by kernel_rfl
theorem laws_toInt64S_s : ∀ xs r, laws_toInt64S_S xs = some (true, r) → runF tab FT D0 live 15 laws_toInt64S_lo xs = some r := by
  intro xs r h
  unfold laws_toInt64S_S at h
  split at h
  · simp only [Option.some.injEq, Prod.mk.injEq] at h
    obtain ⟨h1, rfl⟩ := h
    exact fun_told (laws_toInt64S_e _) (laws_toInt64S_l _) h1
  · cases h
noncomputable def D1 : Dt := also D0 15 laws_toInt64S_S
theorem d1 : DOk Go.Proofs.Try.prog tab D1 := d0.also mixed_ok tab_ok names_ok (fnLoops_one (by kernel_rfl) laws_toInt64S_is3) laws_toInt64S_s
theorem laws_toInt64S_ty {A : List (List TC)} (h : Typed tab (.slice 2) (.l A)) : Typed tab (.slice 2) (.l (A.map laws_toInt64S_g)) := by
  refine typed_map h (by decide) fun x _ _ hx => ⟨rfl, fun k hk => ?_⟩
  match k, hk with
    | 0, _ => exact typed_i (hx 0 (by decide))
/-! spec_l00In -/
noncomputable def spec_l00In_t (a0 : Int) (a1 : Int) (a2 : Int) : Tr (Bool) := (.ite ((decide (a0 ≥ a1)) = true) (.ok (decide (a0 ≤ a2)))
  (.ok false))
def spec_l00In_mk (p : Bool) : Res := [(false, [⟨.bool, .sh, TC.b p⟩])]
noncomputable def spec_l00In_c (a0 : Int) (a1 : Int) (a2 : Int) : Bool := true
noncomputable def spec_l00In_v (a0 : Int) (a1 : Int) (a2 : Int) : Bool := (bif (decide (a0 ≥ a1)) then (decide (a0 ≤ a2)) else false)
theorem spec_l00In_l (a0 : Int) (a1 : Int) (a2 : Int) : (spec_l00In_c a0 a1 a2) = true → (spec_l00In_t a0 a1 a2).val = some (spec_l00In_v a0 a1 a2) := by
  intro h
  skip
  unfold spec_l00In_t spec_l00In_v
  exact (Tr.s rfl rfl)
noncomputable def spec_l00In_S : List Arg → Option (Bool × Res) := fun xs => match xs with
  | [(false, [(.int .i64, TC.i a0)]), (false, [(.int .i64, TC.i a1)]), (false, [(.int .i64, TC.i a2)])] => some (true, spec_l00In_mk (spec_l00In_v a0 a1 a2))
  | _ => .none
theorem spec_l00In_e (a0 : Int) (a1 : Int) (a2 : Int) : runF tab FT D1 live 89 noLoops [(false, [(.int .i64, TC.i a0)]), (false, [(.int .i64, TC.i a1)]), (false, [(.int .i64, TC.i a2)])] = (spec_l00In_t a0 a1 a2).run fun p => some (spec_l00In_mk p) := by kernel_rfl
theorem spec_l00In_s : ∀ xs r, spec_l00In_S xs = some (true, r) → runF tab FT D1 live 89 noLoops xs = some r := by
  intro xs r h
  unfold spec_l00In_S at h
  split at h
  · simp only [Option.some.injEq, Prod.mk.injEq] at h
    obtain ⟨h1, rfl⟩ := h
    exact fun_told (spec_l00In_e _ _ _) (spec_l00In_l _ _ _) rfl
  · cases h
noncomputable def D2 : Dt := also D1 89 spec_l00In_S
theorem d2 : DOk Go.Proofs.Try.prog tab D2 := d1.also mixed_ok tab_ok names_ok noLoops_ok spec_l00In_s
/-! spec_l05Dims -/
abbrev spec_l05Dims_5_σ := List (List TC) × Int × Int
abbrev spec_l05Dims_5_ω := (Int) ⊕ (Int)
noncomputable def spec_l05Dims_5_step (A : List (List TC)) (n : Int) (i : Int) : Tr (spec_l05Dims_5_σ ⊕ spec_l05Dims_5_ω) := (.ite ((decide (i < (A.length : Int))) = true) (.ite ((0 : Int) ≤ i ∧ i < (A.length : Int)) (.ite ((!(spec_l00In_v ((nth (row A i) 0).int) (0 : Int) (40 : Int))) = true) (.ok (.inr (.inl n)))
    (.ite ((0 : Int) ≤ i ∧ i < (A.length : Int)) (.ok (.inl (A, (IntKind.wrap .i64 (n * (nth (row A i) 0).int)), (IntKind.wrap .i64 (i + (1 : Int))))))
     .no))
   .no)
  (.ok (.inr (.inr n))))
noncomputable def spec_l05Dims_5_st : spec_l05Dims_5_σ → Tr (spec_l05Dims_5_σ ⊕ spec_l05Dims_5_ω) := fun x => (spec_l05Dims_5_step (x.1) (x.2.1) (x.2.2))
noncomputable def spec_l05Dims_k5_1 (A : List (List TC)) (n : Int) (i : Int) : Bool := A.all (inR 0 40)
noncomputable def spec_l05Dims_o5_2 (A : List (List TC)) (n : Int) (i : Int) : Bool := is (i = 0 ∧ n = 1 ∧ Typed tab (.slice 2) (.l A))
noncomputable def spec_l05Dims_u5_2 (A : List (List TC)) (n : Int) (i : Int) : Int := (A.foldl mulR (1 : Int))
noncomputable def spec_l05Dims_o5_3 (A : List (List TC)) (n : Int) (i : Int) : Bool := is (i = 0 ∧ n = 1 ∧ Typed tab (.slice 2) (.l A))
noncomputable def spec_l05Dims_u5_3 (A : List (List TC)) (n : Int) (i : Int) : Int := ((A.take (A.findIdx fun x => !(inR 0 40) x)).foldl mulR (1 : Int))
noncomputable def spec_l05Dims_5_fin (A : List (List TC)) (n : Int) (i : Int) : Told spec_l05Dims_5_ω := (.br (spec_l05Dims_k5_1 A n i) (.leaf (spec_l05Dims_o5_2 A n i) (.inr (spec_l05Dims_u5_2 A n i))) (.leaf (spec_l05Dims_o5_3 A n i) (.inl (spec_l05Dims_u5_3 A n i))))
def spec_l05Dims_5_sl (x : spec_l05Dims_5_σ) : List Slot := [⟨.val false [⟨.slice 2, .sh, TC.l (x.1)⟩], ⟨0, 0⟩⟩, ⟨.val false [⟨.int .i64, .sh, TC.i (x.2.1)⟩], ⟨0, 0⟩⟩, ⟨.val false [⟨.int .i64, .sh, TC.i (x.2.2)⟩], ⟨0, 0⟩⟩]
def spec_l05Dims_5_out : spec_l05Dims_5_ω → Ex × List Slot := (Sum.elim (fun x => (.ret, [⟨.val false [⟨.bool, .sh, TC.b false⟩], ⟨0, 0⟩⟩, ⟨.val false [⟨.int .i64, .sh, TC.i x⟩], ⟨0, 0⟩⟩])) (fun x => (.exit 0, [Slot.none, ⟨.val false [⟨.int .i64, .sh, TC.i x⟩], ⟨0, 0⟩⟩])))
noncomputable def spec_l05Dims_lo5 : List Slot → Option (Told (Ex × List Slot)) := fun s => match s with
  | [⟨.val false [⟨.slice 2, .sh, TC.l A⟩], ⟨0, 0⟩⟩, ⟨.val false [⟨.int .i64, .sh, TC.i n⟩], ⟨0, 0⟩⟩, ⟨.val false [⟨.int .i64, .sh, TC.i i⟩], ⟨0, 0⟩⟩] => some (((spec_l05Dims_5_fin A n i)).map spec_l05Dims_5_out)
  | _ => .none
noncomputable def spec_l05Dims_lo : LoopTeller := fun r s => bif Nat.beq r 5 then spec_l05Dims_lo5 s else .none
theorem spec_l05Dims_5_r (A : List (List TC)) (n : Int) (i : Int) (fuel : Nat) : rounds (rnd tab FT D2 live 87 spec_l05Dims_lo 0 5) leave (fuel + 1) (spec_l05Dims_5_sl (A, n, i)) = ((spec_l05Dims_5_step A n i)).run (goOn (fun s => rounds (rnd tab FT D2 live 87 spec_l05Dims_lo 0 5) leave fuel (spec_l05Dims_5_sl s)) fun w => some (spec_l05Dims_5_out w)) := by kernel_rfl
theorem spec_l05Dims_5_h (A : List (List TC)) (n : Int) (i : Int) (ow : spec_l05Dims_5_ω) : ((spec_l05Dims_5_fin A n i)).val = some ow → ∃ fuel, loopN spec_l05Dims_5_st fuel (A, n, i) = some ow := by
  intro h
  have key : Typed tab (.slice 2) (.l A) → loopN spec_l05Dims_5_st (A.length + 1) (A, (1 : Int), (0 : Int)) = some (if A.all (inR 0 40) = true then (.inr (A.foldl mulR (1 : Int))) else (.inl ((A.take (A.findIdx fun x => !(inR 0 40) x)).foldl mulR (1 : Int)))) := by
    intro ht
    have hlen : A.length ≤ 140737488351232 := by have := typed_room ht; simp only [show (tab 2).bytes = 8 from rfl] at this; omega
    have key := loopN_scan (step := spec_l05Dims_5_st) A [] (inR 0 40) mulR (fun i a => (A, a, (i : Int))) (fun a => (.inr a)) (fun i a => (.inl a)) (fun i a hi => ?_) (fun a => ?_) A.length 0 (1 : Int) (by omega)
    · first | (rw [Nat.zero_add] at key; exact key) | exact key
    · skip
      show (spec_l05Dims_5_step A a (i : Int)).val = _
      unfold spec_l05Dims_5_step
      refine Tr.t (by simp; omega) ?_
      skip
      refine Tr.t (by first | omega | (constructor <;> omega)) ?_
      refine Tr.b (P := (inR 0 40) (A.getD i [])) (fun hP => ?_) (fun _ => rfl)
      refine Tr.t (by first | omega | (constructor <;> omega)) ?_
      rw [Tr.val_ok, wrap64 (i := (i : Int) + 1) (by omega) (by omega)]; rfl
    · show (spec_l05Dims_5_step A a (A.length : Int)).val = _
      refine Tr.n (by simp) ?_
      rfl
  simp only [spec_l05Dims_5_fin, Told.val] at h
  cases hk : A.all (inR 0 40) with
  | true =>
    rw [if_pos (show spec_l05Dims_k5_1 A n i = true from hk)] at h
    split at h
    · rename_i ho
      obtain ⟨rfl, rfl, ht⟩ := is_iff.1 ho
      cases h
      refine ⟨_, (key ht).trans ?_⟩
      rw [hk]; rfl
    · cases h
  | false =>
    rw [if_neg (show ¬spec_l05Dims_k5_1 A n i = true from by rw [show spec_l05Dims_k5_1 A n i = (A.all (inR 0 40)) from rfl, hk]; simp)] at h
    split at h
    · rename_i ho
      obtain ⟨rfl, rfl, ht⟩ := is_iff.1 ho
      cases h
      refine ⟨_, (key ht).trans ?_⟩
      rw [hk]; rfl
    · cases h
theorem spec_l05Dims_is5 : LoopIs tab FT D2 live 87 spec_l05Dims_lo 0 5 := by
  refine loop_told (sl := spec_l05Dims_5_sl) (step := spec_l05Dims_5_st) (out := spec_l05Dims_5_out) (lor := spec_l05Dims_lo5) (fin := fun x => (spec_l05Dims_5_fin (x.1) (x.2.1) (x.2.2))) (fun _ => rfl) ?_ (fun x n => spec_l05Dims_5_r x.1 x.2.1 x.2.2 n) (fun x ow => spec_l05Dims_5_h x.1 x.2.1 x.2.2 ow)
  intro s t h
  unfold spec_l05Dims_lo5 at h
  split at h
  · cases h; exact ⟨(_, _, _), rfl, rfl⟩
  · cases h
noncomputable def spec_l05Dims_t (A : List (List TC)) : Tr (Bool) := (.ite ((decide ((A.length : Int) > (3 : Int))) = true) (.ok false)
  (.ite ((spec_l05Dims_k5_1 A (1 : Int) (0 : Int)) = true) (.ite ((spec_l05Dims_o5_2 A (1 : Int) (0 : Int)) = true) (.ok (decide ((spec_l05Dims_u5_2 A (1 : Int) (0 : Int)) ≤ (600 : Int))))
    .no)
   (.ite ((spec_l05Dims_o5_3 A (1 : Int) (0 : Int)) = true) (.ok false)
    .no)))
def spec_l05Dims_mk (p : Bool) : Res := [(false, [⟨.bool, .sh, TC.b p⟩])]
noncomputable def spec_l05Dims_c (A : List (List TC)) : Bool := is (((spec_l05Dims_o5_2 A (1 : Int) (0 : Int)) = true) ∧ ((spec_l05Dims_o5_3 A (1 : Int) (0 : Int)) = true))
noncomputable def spec_l05Dims_v (A : List (List TC)) : Bool := (bif (decide ((A.length : Int) > (3 : Int))) then false else (bif (spec_l05Dims_k5_1 A (1 : Int) (0 : Int)) then (decide ((spec_l05Dims_u5_2 A (1 : Int) (0 : Int)) ≤ (600 : Int))) else false))
theorem spec_l05Dims_l (A : List (List TC)) : (spec_l05Dims_c A) = true → (spec_l05Dims_t A).val = some (spec_l05Dims_v A) := by
  intro h
  obtain ⟨g0, g1⟩ := is_iff.1 h
  unfold spec_l05Dims_t spec_l05Dims_v
  exact (Tr.s rfl (Tr.s (Tr.t g0 rfl) (Tr.t g1 rfl)))
noncomputable def spec_l05Dims_S : List Arg → Option (Bool × Res) := fun xs => match xs with
  | [(false, [(.slice 2, TC.l A)])] => some ((spec_l05Dims_c A), spec_l05Dims_mk (spec_l05Dims_v A))
  | _ => .none
theorem spec_l05Dims_e (A : List (List TC)) : runF tab FT D2 live 87 spec_l05Dims_lo [(false, [(.slice 2, TC.l A)])] = (spec_l05Dims_t A).run fun p => some (spec_l05Dims_mk p) := by kernel_rfl
theorem spec_l05Dims_s : ∀ xs r, spec_l05Dims_S xs = some (true, r) → runF tab FT D2 live 87 spec_l05Dims_lo xs = some r := by
  intro xs r h
  unfold spec_l05Dims_S at h
  split at h
  · simp only [Option.some.injEq, Prod.mk.injEq] at h
    obtain ⟨h1, rfl⟩ := h
    exact fun_told (spec_l05Dims_e _) (spec_l05Dims_l _) h1
  · cases h
noncomputable def D3 : Dt := also D2 87 spec_l05Dims_S
theorem d3 : DOk Go.Proofs.Try.prog tab D3 := d2.also mixed_ok tab_ok names_ok (fnLoops_one (by kernel_rfl) spec_l05Dims_is5) spec_l05Dims_s
theorem spec_l05Dims_vv (A : List (List TC)) : spec_l05Dims_v A = dimsOk A := by
  show (bif decide ((A.length : Int) > 3) then false else bif A.all (inR 0 40) then decide (prodL A ≤ 600) else false) = _
  unfold dimsOk
  rw [show decide ((A.length : Int) > 3) = !decide ((A.length : Int) ≤ 3) from by rw [← decide_not]; simp]
  cases decide ((A.length : Int) ≤ 3) <;> cases A.all (inR 0 40) <;> rfl
/-! spec_l20Grid -/
abbrev spec_l20Grid_3_σ := List (List TC) × List (List TC) × List (List TC) × Int
abbrev spec_l20Grid_3_ω := (List (List TC))
noncomputable def spec_l20Grid_3_step (D : List (List TC)) (C : List (List TC)) (X : List (List TC)) (i : Int) : Tr (spec_l20Grid_3_σ ⊕ spec_l20Grid_3_ω) := (.ite ((decide (i < (D.length : Int))) = true) (.ite ((0 : Int) ≤ i ∧ i < (D.length : Int)) (.ite ((0 : Int) ≤ i ∧ i < (C.length : Int)) (.ite ((0 : Int) ≤ i ∧ i < (C.length : Int)) (.ite ((nth (row C i) 0).int ≠ 0) (.ite (roomFor (tab 2) (X ++ [[TC.i (IntKind.wrap .i64 (Int.tdiv (IntKind.wrap .i64 ((IntKind.wrap .i64 ((nth (row D i) 0).int + (nth (row C i) 0).int)) - (1 : Int))) ((nth (row C i) 0).int)))]]).length) (.ok (.inl (D, C, (X ++ [[TC.i (IntKind.wrap .i64 (Int.tdiv (IntKind.wrap .i64 ((IntKind.wrap .i64 ((nth (row D i) 0).int + (nth (row C i) 0).int)) - (1 : Int))) ((nth (row C i) 0).int)))]]), (IntKind.wrap .i64 (i + (1 : Int))))))
       .no)
      .no)
     .no)
    .no)
   .no)
  (.ok (.inr X)))
noncomputable def spec_l20Grid_3_st : spec_l20Grid_3_σ → Tr (spec_l20Grid_3_σ ⊕ spec_l20Grid_3_ω) := fun x => (spec_l20Grid_3_step (x.1) (x.2.1) (x.2.2.1) (x.2.2.2))
noncomputable def spec_l20Grid_o3_1 (D : List (List TC)) (C : List (List TC)) (X : List (List TC)) (i : Int) : Bool := is (X = [] ∧ i = 0 ∧ Typed tab (.slice 2) (.l D) ∧ D.length = C.length ∧ C.all (inR 1 40) = true)
noncomputable def spec_l20Grid_u3_1 (D : List (List TC)) (C : List (List TC)) (X : List (List TC)) (i : Int) : List (List TC) := gridL D C
noncomputable def spec_l20Grid_3_fin (D : List (List TC)) (C : List (List TC)) (X : List (List TC)) (i : Int) : Told spec_l20Grid_3_ω := (.leaf (spec_l20Grid_o3_1 D C X i) (spec_l20Grid_u3_1 D C X i))
def spec_l20Grid_3_sl (x : spec_l20Grid_3_σ) : List Slot := [⟨.val false [⟨.slice 2, .sh, TC.l (x.1)⟩], ⟨0, 0⟩⟩, ⟨.val false [⟨.slice 2, .sh, TC.l (x.2.1)⟩], ⟨0, 0⟩⟩, ⟨.val false [⟨.slice 2, .own true, TC.l (x.2.2.1)⟩], ⟨0, 0⟩⟩, ⟨.val false [⟨.int .i64, .sh, TC.i (x.2.2.2)⟩], ⟨0, 0⟩⟩]
def spec_l20Grid_3_out : spec_l20Grid_3_ω → Ex × List Slot := (fun x => (.exit 0, [Slot.none, ⟨.val false [⟨.slice 2, .own true, TC.l x⟩], ⟨0, 0⟩⟩]))
noncomputable def spec_l20Grid_lo3 : List Slot → Option (Told (Ex × List Slot)) := fun s => match s with
  | [⟨.val false [⟨.slice 2, .sh, TC.l D⟩], ⟨0, 0⟩⟩, ⟨.val false [⟨.slice 2, .sh, TC.l C⟩], ⟨0, 0⟩⟩, ⟨.val false [⟨.slice 2, .own true, TC.l X⟩], ⟨0, 0⟩⟩, ⟨.val false [⟨.int .i64, .sh, TC.i i⟩], ⟨0, 0⟩⟩] => some (((spec_l20Grid_3_fin D C X i)).map spec_l20Grid_3_out)
  | _ => .none
noncomputable def spec_l20Grid_lo : LoopTeller := fun r s => bif Nat.beq r 3 then spec_l20Grid_lo3 s else .none
theorem spec_l20Grid_3_r (D : List (List TC)) (C : List (List TC)) (X : List (List TC)) (i : Int) (fuel : Nat) : rounds (rnd tab FT D3 live 97 spec_l20Grid_lo 0 3) leave (fuel + 1) (spec_l20Grid_3_sl (D, C, X, i)) = ((spec_l20Grid_3_step D C X i)).run (goOn (fun s => rounds (rnd tab FT D3 live 97 spec_l20Grid_lo 0 3) leave fuel (spec_l20Grid_3_sl s)) fun w => some (spec_l20Grid_3_out w)) := by kernel_rfl
theorem spec_l20Grid_3_h (D : List (List TC)) (C : List (List TC)) (X : List (List TC)) (i : Int) (ow : spec_l20Grid_3_ω) : ((spec_l20Grid_3_fin D C X i)).val = some ow → ∃ fuel, loopN spec_l20Grid_3_st fuel (D, C, X, i) = some ow := by
  intro h
  simp only [spec_l20Grid_3_fin, Told.val] at h
  split at h
  · rename_i ho
    obtain ⟨rfl, rfl, ht, hl, hc⟩ := is_iff.1 ho
    cases h
    have hlen : D.length ≤ 17592186044404 := by have := typed_room ht; simp only [show (tab 2).bytes = 8 from rfl] at this; omega
    have hg : (gridL D C).length = D.length := by simp [gridL, hl]
    refine ⟨_, loopN_build (step := spec_l20Grid_3_st) (gridL D C) (fun i X => (D, C, X, (i : Int))) _ (fun i hi => ?_) ?_⟩
    · have hi' : i < D.length := by omega
      rw [gridL_at hl hi]
      show (spec_l20Grid_3_step D C ((gridL D C).take i) (i : Int)).val = _
      unfold spec_l20Grid_3_step
      refine Tr.t (by simp; omega) ?_
      refine Tr.t (by constructor <;> omega) ?_
      refine Tr.t (by constructor <;> omega) ?_
      refine Tr.t (by constructor <;> omega) ?_
      refine Tr.t (inR_1 hc (by omega)) ?_
      refine Tr.t (by unfold roomFor; simp only [show (tab 2).bytes = 8 from rfl, List.length_append, List.length_take, List.length_singleton]; omega) ?_
      rw [Tr.val_ok, wrap64 (i := (i : Int) + 1) (by omega) (by omega)]; rfl
    · show (spec_l20Grid_3_step D C (gridL D C) ((gridL D C).length : Int)).val = _
      refine Tr.n (by simp [hg]) ?_
      rfl
  · cases h
theorem spec_l20Grid_is3 : LoopIs tab FT D3 live 97 spec_l20Grid_lo 0 3 := by
  refine loop_told (sl := spec_l20Grid_3_sl) (step := spec_l20Grid_3_st) (out := spec_l20Grid_3_out) (lor := spec_l20Grid_lo3) (fin := fun x => (spec_l20Grid_3_fin (x.1) (x.2.1) (x.2.2.1) (x.2.2.2))) (fun _ => rfl) ?_ (fun x n => spec_l20Grid_3_r x.1 x.2.1 x.2.2.1 x.2.2.2 n) (fun x ow => spec_l20Grid_3_h x.1 x.2.1 x.2.2.1 x.2.2.2 ow)
  intro s t h
  unfold spec_l20Grid_lo3 at h
  split at h
  · cases h; exact ⟨(_, _, _, _), rfl, rfl⟩
  · cases h
noncomputable def spec_l20Grid_t (D : List (List TC)) (C : List (List TC)) : Tr (List (List TC)) := (.ite ((spec_l20Grid_o3_1 D C [] (0 : Int)) = true) (.ok (spec_l20Grid_u3_1 D C [] (0 : Int)))
  .no)
def spec_l20Grid_mk (p : List (List TC)) : Res := [(false, [⟨.slice 2, .own true, TC.l p⟩])]
noncomputable def spec_l20Grid_c (D : List (List TC)) (C : List (List TC)) : Bool := is (Typed tab (.slice 2) (.l D) ∧ D.length = C.length ∧ C.all (inR 1 40) = true)
noncomputable def spec_l20Grid_v (D : List (List TC)) (C : List (List TC)) : List (List TC) := gridL D C
theorem spec_l20Grid_l (D : List (List TC)) (C : List (List TC)) : (spec_l20Grid_c D C) = true → (spec_l20Grid_t D C).val = some (spec_l20Grid_v D C) := by
  intro h
  obtain ⟨ht, hl, hc⟩ := is_iff.1 h
  unfold spec_l20Grid_t
  exact Tr.t (is_true ⟨rfl, rfl, ht, hl, hc⟩) rfl
noncomputable def spec_l20Grid_S : List Arg → Option (Bool × Res) := fun xs => match xs with
  | [(false, [(.slice 2, TC.l D)]), (false, [(.slice 2, TC.l C)])] => some ((spec_l20Grid_c D C), spec_l20Grid_mk (spec_l20Grid_v D C))
  | _ => .none
theorem spec_l20Grid_e (D : List (List TC)) (C : List (List TC)) : runF tab FT D3 live 97 spec_l20Grid_lo [(false, [(.slice 2, TC.l D)]), (false, [(.slice 2, TC.l C)])] = (spec_l20Grid_t D C).run fun p => some (spec_l20Grid_mk p) := by kernel_rfl
theorem spec_l20Grid_s : ∀ xs r, spec_l20Grid_S xs = some (true, r) → runF tab FT D3 live 97 spec_l20Grid_lo xs = some r := by
  intro xs r h
  unfold spec_l20Grid_S at h
  split at h
  · simp only [Option.some.injEq, Prod.mk.injEq] at h
    obtain ⟨h1, rfl⟩ := h
    exact fun_told (spec_l20Grid_e _ _) (spec_l20Grid_l _ _) h1
  · cases h
noncomputable def D4 : Dt := also D3 97 spec_l20Grid_S
theorem d4 : DOk Go.Proofs.Try.prog tab D4 := d3.also mixed_ok tab_ok names_ok (fnLoops_one (by kernel_rfl) spec_l20Grid_is3) spec_l20Grid_s
/-! spec_l05Count -/
abbrev spec_l05Count_3_σ := List (List TC) × Int × Int
abbrev spec_l05Count_3_ω := (Int)
noncomputable def spec_l05Count_3_step (A : List (List TC)) (n : Int) (i : Int) : Tr (spec_l05Count_3_σ ⊕ spec_l05Count_3_ω) := (.ite ((decide (i < (A.length : Int))) = true) (.ite ((0 : Int) ≤ i ∧ i < (A.length : Int)) (.ok (.inl (A, (IntKind.wrap .i64 (n * (nth (row A i) 0).int)), (IntKind.wrap .i64 (i + (1 : Int))))))
   .no)
  (.ok (.inr n)))
noncomputable def spec_l05Count_3_st : spec_l05Count_3_σ → Tr (spec_l05Count_3_σ ⊕ spec_l05Count_3_ω) := fun x => (spec_l05Count_3_step (x.1) (x.2.1) (x.2.2))
noncomputable def spec_l05Count_o3_1 (A : List (List TC)) (n : Int) (i : Int) : Bool := is (i = 0 ∧ n = 1 ∧ Typed tab (.slice 2) (.l A))
noncomputable def spec_l05Count_u3_1 (A : List (List TC)) (n : Int) (i : Int) : Int := (A.foldl mulR (1 : Int))
noncomputable def spec_l05Count_3_fin (A : List (List TC)) (n : Int) (i : Int) : Told spec_l05Count_3_ω := (.leaf (spec_l05Count_o3_1 A n i) (spec_l05Count_u3_1 A n i))
def spec_l05Count_3_sl (x : spec_l05Count_3_σ) : List Slot := [⟨.val false [⟨.slice 2, .sh, TC.l (x.1)⟩], ⟨0, 0⟩⟩, ⟨.val false [⟨.int .i64, .sh, TC.i (x.2.1)⟩], ⟨0, 0⟩⟩, ⟨.val false [⟨.int .i64, .sh, TC.i (x.2.2)⟩], ⟨0, 0⟩⟩]
def spec_l05Count_3_out : spec_l05Count_3_ω → Ex × List Slot := (fun x => (.exit 0, [Slot.none, ⟨.val false [⟨.int .i64, .sh, TC.i x⟩], ⟨0, 0⟩⟩]))
noncomputable def spec_l05Count_lo3 : List Slot → Option (Told (Ex × List Slot)) := fun s => match s with
  | [⟨.val false [⟨.slice 2, .sh, TC.l A⟩], ⟨0, 0⟩⟩, ⟨.val false [⟨.int .i64, .sh, TC.i n⟩], ⟨0, 0⟩⟩, ⟨.val false [⟨.int .i64, .sh, TC.i i⟩], ⟨0, 0⟩⟩] => some (((spec_l05Count_3_fin A n i)).map spec_l05Count_3_out)
  | _ => .none
noncomputable def spec_l05Count_lo : LoopTeller := fun r s => bif Nat.beq r 3 then spec_l05Count_lo3 s else .none
theorem spec_l05Count_3_r (A : List (List TC)) (n : Int) (i : Int) (fuel : Nat) : rounds (rnd tab FT D4 live 88 spec_l05Count_lo 0 3) leave (fuel + 1) (spec_l05Count_3_sl (A, n, i)) = ((spec_l05Count_3_step A n i)).run (goOn (fun s => rounds (rnd tab FT D4 live 88 spec_l05Count_lo 0 3) leave fuel (spec_l05Count_3_sl s)) fun w => some (spec_l05Count_3_out w)) := by kernel_rfl
theorem spec_l05Count_3_h (A : List (List TC)) (n : Int) (i : Int) (ow : spec_l05Count_3_ω) : ((spec_l05Count_3_fin A n i)).val = some ow → ∃ fuel, loopN spec_l05Count_3_st fuel (A, n, i) = some ow := by
  intro h
  have key : Typed tab (.slice 2) (.l A) → loopN spec_l05Count_3_st (A.length + 1) (A, (1 : Int), (0 : Int)) = some ((A.foldl mulR (1 : Int))) := by
    intro ht
    have hlen : A.length ≤ 140737488351232 := by have := typed_room ht; simp only [show (tab 2).bytes = 8 from rfl] at this; omega
    have key := loopN_scan (step := spec_l05Count_3_st) A [] (fun _ => true) mulR (fun i a => (A, a, (i : Int))) (fun a => a) (fun i a => a) (fun i a hi => ?_) (fun a => ?_) A.length 0 (1 : Int) (by omega)
    · first | (rw [Nat.zero_add] at key; exact key) | exact key | (simpa using key)
    · skip
      show (spec_l05Count_3_step A a (i : Int)).val = _
      unfold spec_l05Count_3_step
      refine Tr.t (by simp; omega) ?_
      show _ = some _
      refine Tr.t (by first | omega | (constructor <;> omega)) ?_
      rw [Tr.val_ok, wrap64 (i := (i : Int) + 1) (by omega) (by omega)]; rfl
    · show (spec_l05Count_3_step A a (A.length : Int)).val = _
      refine Tr.n (by simp) ?_
      rfl
  simp only [spec_l05Count_3_fin, Told.val] at h
  split at h
  · rename_i ho
    obtain ⟨rfl, rfl, ht⟩ := is_iff.1 ho
    cases h
    exact ⟨_, key ht⟩
  · cases h
theorem spec_l05Count_is3 : LoopIs tab FT D4 live 88 spec_l05Count_lo 0 3 := by
  refine loop_told (sl := spec_l05Count_3_sl) (step := spec_l05Count_3_st) (out := spec_l05Count_3_out) (lor := spec_l05Count_lo3) (fin := fun x => (spec_l05Count_3_fin (x.1) (x.2.1) (x.2.2))) (fun _ => rfl) ?_ (fun x n => spec_l05Count_3_r x.1 x.2.1 x.2.2 n) (fun x ow => spec_l05Count_3_h x.1 x.2.1 x.2.2 ow)
  intro s t h
  unfold spec_l05Count_lo3 at h
  split at h
  · cases h; exact ⟨(_, _, _), rfl, rfl⟩
  · cases h
noncomputable def spec_l05Count_t (A : List (List TC)) : Tr (Int) := (.ite ((spec_l05Count_o3_1 A (1 : Int) (0 : Int)) = true) (.ok (spec_l05Count_u3_1 A (1 : Int) (0 : Int)))
  .no)
def spec_l05Count_mk (p : Int) : Res := [(false, [⟨.int .i64, .sh, TC.i p⟩])]
noncomputable def spec_l05Count_c (A : List (List TC)) : Bool := (spec_l05Count_o3_1 A (1 : Int) (0 : Int))
noncomputable def spec_l05Count_v (A : List (List TC)) : Int := (spec_l05Count_u3_1 A (1 : Int) (0 : Int))
theorem spec_l05Count_l (A : List (List TC)) : (spec_l05Count_c A) = true → (spec_l05Count_t A).val = some (spec_l05Count_v A) := by
  intro h
  have hc0 : (spec_l05Count_o3_1 A (1 : Int) (0 : Int)) = true := h
  unfold spec_l05Count_t
  exact (Tr.t hc0 rfl)
noncomputable def spec_l05Count_S : List Arg → Option (Bool × Res) := fun xs => match xs with
  | [(false, [(.slice 2, TC.l A)])] => some ((spec_l05Count_c A), spec_l05Count_mk (spec_l05Count_v A))
  | _ => .none
theorem spec_l05Count_e (A : List (List TC)) : runF tab FT D4 live 88 spec_l05Count_lo [(false, [(.slice 2, TC.l A)])] = (spec_l05Count_t A).run fun p => some (spec_l05Count_mk p) := by kernel_rfl
theorem spec_l05Count_s : ∀ xs r, spec_l05Count_S xs = some (true, r) → runF tab FT D4 live 88 spec_l05Count_lo xs = some r := by
  intro xs r h
  unfold spec_l05Count_S at h
  split at h
  · simp only [Option.some.injEq, Prod.mk.injEq] at h
    obtain ⟨h1, rfl⟩ := h
    exact fun_told (spec_l05Count_e _) (spec_l05Count_l _) h1
  · cases h
noncomputable def D5 : Dt := also D4 88 spec_l05Count_S
theorem d5 : DOk Go.Proofs.Try.prog tab D5 := d4.also mixed_ok tab_ok names_ok (fnLoops_one (by kernel_rfl) spec_l05Count_is3) spec_l05Count_s
/-! spec_l20Ok -/
abbrev spec_l20Ok_12_σ := Int × List (List TC) × Int
abbrev spec_l20Ok_12_ω := (Int × List (List TC)) ⊕ (Int × List (List TC))
noncomputable def spec_l20Ok_12_step (n : Int) (A : List (List TC)) (i : Int) : Tr (spec_l20Ok_12_σ ⊕ spec_l20Ok_12_ω) := (.ite ((decide (i < (A.length : Int))) = true) (.ite ((0 : Int) ≤ i ∧ i < (A.length : Int)) (.ite ((decide ((nth (row A i) 0).int > (16 : Int))) = true) (.ok (.inr (.inl (n, A))))
    (.ok (.inl (n, A, (IntKind.wrap .i64 (i + (1 : Int)))))))
   .no)
  (.ok (.inr (.inr (n, A)))))
noncomputable def spec_l20Ok_12_st : spec_l20Ok_12_σ → Tr (spec_l20Ok_12_σ ⊕ spec_l20Ok_12_ω) := fun x => (spec_l20Ok_12_step (x.1) (x.2.1) (x.2.2))
noncomputable def spec_l20Ok_k12_1 (n : Int) (A : List (List TC)) (i : Int) : Bool := A.all le16
noncomputable def spec_l20Ok_o12_2 (n : Int) (A : List (List TC)) (i : Int) : Bool := is (i = 0 ∧ A.length ≤ 140737488351232)
noncomputable def spec_l20Ok_o12_3 (n : Int) (A : List (List TC)) (i : Int) : Bool := is (i = 0 ∧ A.length ≤ 140737488351232)
noncomputable def spec_l20Ok_12_fin (n : Int) (A : List (List TC)) (i : Int) : Told spec_l20Ok_12_ω := (.br (spec_l20Ok_k12_1 n A i) (.leaf (spec_l20Ok_o12_2 n A i) (.inr (n, A))) (.leaf (spec_l20Ok_o12_3 n A i) (.inl (n, A))))
def spec_l20Ok_12_sl (x : spec_l20Ok_12_σ) : List Slot := [⟨.val false [⟨.int .i64, .sh, TC.i (x.1)⟩], ⟨0, 0⟩⟩, ⟨.val false [⟨.slice 2, .own true, TC.l (x.2.1)⟩], ⟨0, 0⟩⟩, ⟨.val false [⟨.int .i64, .sh, TC.i (x.2.2)⟩], ⟨0, 0⟩⟩]
def spec_l20Ok_12_out : spec_l20Ok_12_ω → Ex × List Slot := (Sum.elim (fun x => (.ret, [⟨.val false [⟨.bool, .sh, TC.b false⟩], ⟨0, 0⟩⟩, ⟨.val false [⟨.int .i64, .sh, TC.i (x.1)⟩], ⟨0, 0⟩⟩, ⟨.val false [⟨.slice 2, .own true, TC.l (x.2)⟩], ⟨0, 0⟩⟩])) (fun x => (.exit 2, [Slot.none, ⟨.val false [⟨.int .i64, .sh, TC.i (x.1)⟩], ⟨0, 0⟩⟩, ⟨.val false [⟨.slice 2, .own true, TC.l (x.2)⟩], ⟨0, 0⟩⟩])))
noncomputable def spec_l20Ok_lo12 : List Slot → Option (Told (Ex × List Slot)) := fun s => match s with
  | [⟨.val false [⟨.int .i64, .sh, TC.i n⟩], ⟨0, 0⟩⟩, ⟨.val false [⟨.slice 2, .own true, TC.l A⟩], ⟨0, 0⟩⟩, ⟨.val false [⟨.int .i64, .sh, TC.i i⟩], ⟨0, 0⟩⟩] => some (((spec_l20Ok_12_fin n A i)).map spec_l20Ok_12_out)
  | _ => .none
abbrev spec_l20Ok_5_σ := List (List TC) × List (List TC) × Int × Int
abbrev spec_l20Ok_5_ω := (List (List TC) × List (List TC) × Int) ⊕ (List (List TC) × List (List TC) × Int)
noncomputable def spec_l20Ok_5_step (D : List (List TC)) (A : List (List TC)) (n : Int) (i : Int) : Tr (spec_l20Ok_5_σ ⊕ spec_l20Ok_5_ω) := (.ite ((decide (i < (A.length : Int))) = true) (.ite ((0 : Int) ≤ i ∧ i < (A.length : Int)) (.ite ((!(spec_l00In_v ((nth (row A i) 0).int) (1 : Int) (40 : Int))) = true) (.ok (.inr (.inl (D, A, n))))
    (.ite ((0 : Int) ≤ i ∧ i < (A.length : Int)) (.ok (.inl (D, A, (IntKind.wrap .i64 (n * (nth (row A i) 0).int)), (IntKind.wrap .i64 (i + (1 : Int))))))
     .no))
   .no)
  (.ok (.inr (.inr (D, A, n)))))
noncomputable def spec_l20Ok_5_st : spec_l20Ok_5_σ → Tr (spec_l20Ok_5_σ ⊕ spec_l20Ok_5_ω) := fun x => (spec_l20Ok_5_step (x.1) (x.2.1) (x.2.2.1) (x.2.2.2))
noncomputable def spec_l20Ok_k5_1 (D : List (List TC)) (A : List (List TC)) (n : Int) (i : Int) : Bool := A.all (inR 1 40)
noncomputable def spec_l20Ok_o5_2 (D : List (List TC)) (A : List (List TC)) (n : Int) (i : Int) : Bool := is (i = 0 ∧ n = 1 ∧ Typed tab (.slice 2) (.l A))
noncomputable def spec_l20Ok_u5_2_2 (D : List (List TC)) (A : List (List TC)) (n : Int) (i : Int) : Int := (A.foldl mulR (1 : Int))
noncomputable def spec_l20Ok_o5_3 (D : List (List TC)) (A : List (List TC)) (n : Int) (i : Int) : Bool := is (i = 0 ∧ n = 1 ∧ Typed tab (.slice 2) (.l A))
noncomputable def spec_l20Ok_u5_3_2 (D : List (List TC)) (A : List (List TC)) (n : Int) (i : Int) : Int := ((A.take (A.findIdx fun x => !(inR 1 40) x)).foldl mulR (1 : Int))
noncomputable def spec_l20Ok_5_fin (D : List (List TC)) (A : List (List TC)) (n : Int) (i : Int) : Told spec_l20Ok_5_ω := (.br (spec_l20Ok_k5_1 D A n i) (.leaf (spec_l20Ok_o5_2 D A n i) (.inr (D, A, (spec_l20Ok_u5_2_2 D A n i)))) (.leaf (spec_l20Ok_o5_3 D A n i) (.inl (D, A, (spec_l20Ok_u5_3_2 D A n i)))))
def spec_l20Ok_5_sl (x : spec_l20Ok_5_σ) : List Slot := [⟨.val false [⟨.slice 2, .sh, TC.l (x.1)⟩], ⟨0, 0⟩⟩, ⟨.val false [⟨.slice 2, .sh, TC.l (x.2.1)⟩], ⟨0, 0⟩⟩, ⟨.val false [⟨.int .i64, .sh, TC.i (x.2.2.1)⟩], ⟨0, 0⟩⟩, ⟨.val false [⟨.int .i64, .sh, TC.i (x.2.2.2)⟩], ⟨0, 0⟩⟩]
def spec_l20Ok_5_out : spec_l20Ok_5_ω → Ex × List Slot := (Sum.elim (fun x => (.ret, [⟨.val false [⟨.slice 2, .sh, TC.l (x.1)⟩], ⟨0, 0⟩⟩, ⟨.val false [⟨.slice 2, .sh, TC.l (x.2.1)⟩], ⟨0, 0⟩⟩, ⟨.val false [⟨.bool, .sh, TC.b false⟩], ⟨0, 0⟩⟩, ⟨.val false [⟨.int .i64, .sh, TC.i (x.2.2)⟩], ⟨0, 0⟩⟩])) (fun x => (.exit 0, [⟨.val false [⟨.slice 2, .sh, TC.l (x.1)⟩], ⟨0, 0⟩⟩, ⟨.val false [⟨.slice 2, .sh, TC.l (x.2.1)⟩], ⟨0, 0⟩⟩, Slot.none, ⟨.val false [⟨.int .i64, .sh, TC.i (x.2.2)⟩], ⟨0, 0⟩⟩])))
noncomputable def spec_l20Ok_lo5 : List Slot → Option (Told (Ex × List Slot)) := fun s => match s with
  | [⟨.val false [⟨.slice 2, .sh, TC.l D⟩], ⟨0, 0⟩⟩, ⟨.val false [⟨.slice 2, .sh, TC.l A⟩], ⟨0, 0⟩⟩, ⟨.val false [⟨.int .i64, .sh, TC.i n⟩], ⟨0, 0⟩⟩, ⟨.val false [⟨.int .i64, .sh, TC.i i⟩], ⟨0, 0⟩⟩] => some (((spec_l20Ok_5_fin D A n i)).map spec_l20Ok_5_out)
  | _ => .none
noncomputable def spec_l20Ok_lo : LoopTeller := fun r s => bif Nat.beq r 5 then spec_l20Ok_lo5 s else bif Nat.beq r 12 then spec_l20Ok_lo12 s else .none
theorem spec_l20Ok_12_r (n : Int) (A : List (List TC)) (i : Int) (fuel : Nat) : rounds (rnd tab FT D5 live 55 spec_l20Ok_lo 1 12) leave (fuel + 1) (spec_l20Ok_12_sl (n, A, i)) = ((spec_l20Ok_12_step n A i)).run (goOn (fun s => rounds (rnd tab FT D5 live 55 spec_l20Ok_lo 1 12) leave fuel (spec_l20Ok_12_sl s)) fun w => some (spec_l20Ok_12_out w)) := by kernel_rfl
theorem spec_l20Ok_12_h (n : Int) (A : List (List TC)) (i : Int) (ow : spec_l20Ok_12_ω) : ((spec_l20Ok_12_fin n A i)).val = some ow → ∃ fuel, loopN spec_l20Ok_12_st fuel (n, A, i) = some ow := by
  intro h
  have key : A.length ≤ 140737488351232 → loopN spec_l20Ok_12_st (A.length + 1) (n, A, (0 : Int)) = some (if A.all le16 = true then (.inr (n, A)) else (.inl (n, A))) := by
    intro ht
    have hlen : A.length ≤ 140737488351232 := ht
    have key := loopN_scan (step := spec_l20Ok_12_st) A [] le16 (fun a _ => a) (fun i a => (n, A, (i : Int))) (fun a => (.inr (n, A))) (fun i a => (.inl (n, A))) (fun i a hi => ?_) (fun a => ?_) A.length 0 () (by omega)
    · first | (rw [Nat.zero_add] at key; exact key) | exact key
    · skip
      show (spec_l20Ok_12_step n A (i : Int)).val = _
      unfold spec_l20Ok_12_step
      refine Tr.t (by simp; omega) ?_
      skip
      refine Tr.t (by first | omega | (constructor <;> omega)) ?_
      refine Tr.b2 (fun hP => ?_) (fun _ => rfl)
      rw [Tr.val_ok, wrap64 (i := (i : Int) + 1) (by omega) (by omega)]; rfl
    · show (spec_l20Ok_12_step n A (A.length : Int)).val = _
      refine Tr.n (by simp) ?_
      rfl
  simp only [spec_l20Ok_12_fin, Told.val] at h
  cases hk : A.all le16 with
  | true =>
    rw [if_pos (show spec_l20Ok_k12_1 n A i = true from hk)] at h
    split at h
    · rename_i ho
      obtain ⟨rfl, ht⟩ := is_iff.1 ho
      cases h
      refine ⟨_, (key ht).trans ?_⟩
      rw [hk]; rfl
    · cases h
  | false =>
    rw [if_neg (show ¬spec_l20Ok_k12_1 n A i = true from by rw [show spec_l20Ok_k12_1 n A i = (A.all le16) from rfl, hk]; simp)] at h
    split at h
    · rename_i ho
      obtain ⟨rfl, ht⟩ := is_iff.1 ho
      cases h
      refine ⟨_, (key ht).trans ?_⟩
      rw [hk]; rfl
    · cases h
theorem spec_l20Ok_is12 : LoopIs tab FT D5 live 55 spec_l20Ok_lo 1 12 := by
  refine loop_told (sl := spec_l20Ok_12_sl) (step := spec_l20Ok_12_st) (out := spec_l20Ok_12_out) (lor := spec_l20Ok_lo12) (fin := fun x => (spec_l20Ok_12_fin (x.1) (x.2.1) (x.2.2))) (fun _ => rfl) ?_ (fun x n => spec_l20Ok_12_r x.1 x.2.1 x.2.2 n) (fun x ow => spec_l20Ok_12_h x.1 x.2.1 x.2.2 ow)
  intro s t h
  unfold spec_l20Ok_lo12 at h
  split at h
  · cases h; exact ⟨(_, _, _), rfl, rfl⟩
  · cases h
theorem spec_l20Ok_5_r (D : List (List TC)) (A : List (List TC)) (n : Int) (i : Int) (fuel : Nat) : rounds (rnd tab FT D5 live 55 spec_l20Ok_lo 0 5) leave (fuel + 1) (spec_l20Ok_5_sl (D, A, n, i)) = ((spec_l20Ok_5_step D A n i)).run (goOn (fun s => rounds (rnd tab FT D5 live 55 spec_l20Ok_lo 0 5) leave fuel (spec_l20Ok_5_sl s)) fun w => some (spec_l20Ok_5_out w)) := by kernel_rfl
theorem spec_l20Ok_5_h (D : List (List TC)) (A : List (List TC)) (n : Int) (i : Int) (ow : spec_l20Ok_5_ω) : ((spec_l20Ok_5_fin D A n i)).val = some ow → ∃ fuel, loopN spec_l20Ok_5_st fuel (D, A, n, i) = some ow := by
  intro h
  have key : Typed tab (.slice 2) (.l A) → loopN spec_l20Ok_5_st (A.length + 1) (D, A, (1 : Int), (0 : Int)) = some (if A.all (inR 1 40) = true then (.inr (D, A, (A.foldl mulR (1 : Int)))) else (.inl (D, A, ((A.take (A.findIdx fun x => !(inR 1 40) x)).foldl mulR (1 : Int))))) := by
    intro ht
    have hlen : A.length ≤ 140737488351232 := by have := typed_room ht; simp only [show (tab 2).bytes = 8 from rfl] at this; omega
    have key := loopN_scan (step := spec_l20Ok_5_st) A [] (inR 1 40) mulR (fun i a => (D, A, a, (i : Int))) (fun a => (.inr (D, A, a))) (fun i a => (.inl (D, A, a))) (fun i a hi => ?_) (fun a => ?_) A.length 0 (1 : Int) (by omega)
    · first | (rw [Nat.zero_add] at key; exact key) | exact key
    · skip
      show (spec_l20Ok_5_step D A a (i : Int)).val = _
      unfold spec_l20Ok_5_step
      refine Tr.t (by simp; omega) ?_
      skip
      refine Tr.t (by first | omega | (constructor <;> omega)) ?_
      refine Tr.b (P := (inR 1 40) (A.getD i [])) (fun hP => ?_) (fun _ => rfl)
      refine Tr.t (by first | omega | (constructor <;> omega)) ?_
      rw [Tr.val_ok, wrap64 (i := (i : Int) + 1) (by omega) (by omega)]; rfl
    · show (spec_l20Ok_5_step D A a (A.length : Int)).val = _
      refine Tr.n (by simp) ?_
      rfl
  simp only [spec_l20Ok_5_fin, Told.val] at h
  cases hk : A.all (inR 1 40) with
  | true =>
    rw [if_pos (show spec_l20Ok_k5_1 D A n i = true from hk)] at h
    split at h
    · rename_i ho
      obtain ⟨rfl, rfl, ht⟩ := is_iff.1 ho
      cases h
      refine ⟨_, (key ht).trans ?_⟩
      rw [hk]; rfl
    · cases h
  | false =>
    rw [if_neg (show ¬spec_l20Ok_k5_1 D A n i = true from by rw [show spec_l20Ok_k5_1 D A n i = (A.all (inR 1 40)) from rfl, hk]; simp)] at h
    split at h
    · rename_i ho
      obtain ⟨rfl, rfl, ht⟩ := is_iff.1 ho
      cases h
      refine ⟨_, (key ht).trans ?_⟩
      rw [hk]; rfl
    · cases h
theorem spec_l20Ok_is5 : LoopIs tab FT D5 live 55 spec_l20Ok_lo 0 5 := by
  refine loop_told (sl := spec_l20Ok_5_sl) (step := spec_l20Ok_5_st) (out := spec_l20Ok_5_out) (lor := spec_l20Ok_lo5) (fin := fun x => (spec_l20Ok_5_fin (x.1) (x.2.1) (x.2.2.1) (x.2.2.2))) (fun _ => rfl) ?_ (fun x n => spec_l20Ok_5_r x.1 x.2.1 x.2.2.1 x.2.2.2 n) (fun x ow => spec_l20Ok_5_h x.1 x.2.1 x.2.2.1 x.2.2.2 ow)
  intro s t h
  unfold spec_l20Ok_lo5 at h
  split at h
  · cases h; exact ⟨(_, _, _, _), rfl, rfl⟩
  · cases h
noncomputable def spec_l20Ok_t (D : List (List TC)) (C : List (List TC)) : Tr (Bool) := (.ite ((spec_l05Dims_c D) = true) (.ite ((!(spec_l05Dims_v D)) = true) (.ok false)
   (.ite ((!((C.length : Int) == (D.length : Int))) = true) (.ok false)
    (.ite ((spec_l20Ok_k5_1 D C (1 : Int) (0 : Int)) = true) (.ite ((spec_l20Ok_o5_2 D C (1 : Int) (0 : Int)) = true) (.ite ((spec_l20Grid_c D C) = true) (.ite ((spec_l20Ok_k12_1 (spec_l20Ok_u5_2_2 D C (1 : Int) (0 : Int)) (spec_l20Grid_v D C) (0 : Int)) = true) (.ite ((spec_l20Ok_o12_2 (spec_l20Ok_u5_2_2 D C (1 : Int) (0 : Int)) (spec_l20Grid_v D C) (0 : Int)) = true) (.ite ((decide ((spec_l20Ok_u5_2_2 D C (1 : Int) (0 : Int)) ≤ (64 : Int))) = true) (.ite ((spec_l05Count_c (spec_l20Grid_v D C)) = true) (.ok (decide ((spec_l05Count_v (spec_l20Grid_v D C)) ≤ (256 : Int))))
           .no)
          (.ok false))
         .no)
        (.ite ((spec_l20Ok_o12_3 (spec_l20Ok_u5_2_2 D C (1 : Int) (0 : Int)) (spec_l20Grid_v D C) (0 : Int)) = true) (.ok false)
         .no))
       .no)
      .no)
     (.ite ((spec_l20Ok_o5_3 D C (1 : Int) (0 : Int)) = true) (.ok false)
      .no))))
  .no)
def spec_l20Ok_mk (p : Bool) : Res := [(false, [⟨.bool, .sh, TC.b p⟩])]
noncomputable def spec_l20Ok_c (D : List (List TC)) (C : List (List TC)) : Bool := ((spec_l05Dims_c D) && (bif (!(spec_l05Dims_v D)) then true else (bif (!((C.length : Int) == (D.length : Int))) then true else (bif (spec_l20Ok_k5_1 D C (1 : Int) (0 : Int)) then ((spec_l20Ok_o5_2 D C (1 : Int) (0 : Int)) && ((spec_l20Grid_c D C) && (bif (spec_l20Ok_k12_1 (spec_l20Ok_u5_2_2 D C (1 : Int) (0 : Int)) (spec_l20Grid_v D C) (0 : Int)) then ((spec_l20Ok_o12_2 (spec_l20Ok_u5_2_2 D C (1 : Int) (0 : Int)) (spec_l20Grid_v D C) (0 : Int)) && (bif (decide ((spec_l20Ok_u5_2_2 D C (1 : Int) (0 : Int)) ≤ (64 : Int))) then ((spec_l05Count_c (spec_l20Grid_v D C)) && true) else true)) else ((spec_l20Ok_o12_3 (spec_l20Ok_u5_2_2 D C (1 : Int) (0 : Int)) (spec_l20Grid_v D C) (0 : Int)) && true)))) else ((spec_l20Ok_o5_3 D C (1 : Int) (0 : Int)) && true)))))
noncomputable def spec_l20Ok_v (D : List (List TC)) (C : List (List TC)) : Bool := (bif (!(spec_l05Dims_v D)) then false else (bif (!((C.length : Int) == (D.length : Int))) then false else (bif (spec_l20Ok_k5_1 D C (1 : Int) (0 : Int)) then (bif (spec_l20Ok_k12_1 (spec_l20Ok_u5_2_2 D C (1 : Int) (0 : Int)) (spec_l20Grid_v D C) (0 : Int)) then (bif (decide ((spec_l20Ok_u5_2_2 D C (1 : Int) (0 : Int)) ≤ (64 : Int))) then (decide ((spec_l05Count_v (spec_l20Grid_v D C)) ≤ (256 : Int))) else false) else false) else false)))
theorem spec_l20Ok_l (D : List (List TC)) (C : List (List TC)) : (spec_l20Ok_c D C) = true → (spec_l20Ok_t D C).val = some (spec_l20Ok_v D C) := by
  unfold spec_l20Ok_t spec_l20Ok_v spec_l20Ok_c
  exact fun h => (Tr.gb h fun h => (Tr.ss h (fun h => rfl) (fun h => (Tr.ss h (fun h => rfl) (fun h => (Tr.ss h (fun h => (Tr.gb h fun h => (Tr.gb h fun h => (Tr.ss h (fun h => (Tr.gb h fun h => (Tr.ss h (fun h => (Tr.gb h fun h => rfl)) (fun h => rfl)))) (fun h => (Tr.gb h fun h => rfl)))))) (fun h => (Tr.gb h fun h => rfl))))))))
noncomputable def spec_l20Ok_S : List Arg → Option (Bool × Res) := fun xs => match xs with
  | [(false, [(.slice 2, TC.l D)]), (false, [(.slice 2, TC.l C)])] => some ((spec_l20Ok_c D C), spec_l20Ok_mk (spec_l20Ok_v D C))
  | _ => .none
theorem spec_l20Ok_e (D : List (List TC)) (C : List (List TC)) : runF tab FT D5 live 55 spec_l20Ok_lo [(false, [(.slice 2, TC.l D)]), (false, [(.slice 2, TC.l C)])] = (spec_l20Ok_t D C).run fun p => some (spec_l20Ok_mk p) := by kernel_rfl
theorem spec_l20Ok_s : ∀ xs r, spec_l20Ok_S xs = some (true, r) → runF tab FT D5 live 55 spec_l20Ok_lo xs = some r := by
  intro xs r h
  unfold spec_l20Ok_S at h
  split at h
  · simp only [Option.some.injEq, Prod.mk.injEq] at h
    obtain ⟨h1, rfl⟩ := h
    exact fun_told (spec_l20Ok_e _ _) (spec_l20Ok_l _ _) h1
  · cases h
noncomputable def D6 : Dt := also D5 55 spec_l20Ok_S
theorem d6 : DOk Go.Proofs.Try.prog tab D6 := d5.also mixed_ok tab_ok names_ok (fnLoops_two (by kernel_rfl) spec_l20Ok_is5 spec_l20Ok_is12) spec_l20Ok_s
theorem spec_l20Ok_cc {D : List (List TC)} {C : List (List TC)} (hD : Typed tab (.slice 2) (.l D)) (hC : Typed tab (.slice 2) (.l C)) : (spec_l20Ok_c D C) = true := by
  unfold spec_l20Ok_c
  refine andT (by first | (apply is_true; and_intros <;> (first | rfl | assumption | (first | (apply is_true; and_intros <;> (first | rfl | assumption | (first | (apply is_true; and_intros <;> (first | rfl | assumption | (first | (apply is_true; and_intros <;> (first | rfl | assumption)))))))))))) ?_
  refine bifT (fun b1 => ?_) (fun b1 => ?_)
  · skip
    rfl
  · skip
    refine bifT (fun b2 => ?_) (fun b2 => ?_)
    · skip
      rfl
    · skip
      refine bifT (fun b3 => ?_) (fun b3 => ?_)
      · skip
        refine andT (by first | (apply is_true; and_intros <;> (first | rfl | assumption | (first | (apply is_true; and_intros <;> (first | rfl | assumption | (first | (apply is_true; and_intros <;> (first | rfl | assumption | (first | (apply is_true; and_intros <;> (first | rfl | assumption)))))))))))) ?_
        refine andT (by exact is_true (p := Typed tab (.slice 2) (.l D) ∧ D.length = C.length ∧ C.all (inR 1 40) = true) ⟨hD, lenEq b2, b3⟩) ?_
        refine bifT (fun b4 => ?_) (fun b4 => ?_)
        · skip
          refine andT (by exact is_true (p := (0 : Int) = 0 ∧ (gridL D C).length ≤ 140737488351232) ⟨rfl, gridL_len (by have := typed_room hD; simp only [show (tab 2).bytes = 8 from rfl] at this; omega)⟩) ?_
          refine bifT (fun b5 => ?_) (fun b5 => ?_)
          · skip
            refine andT (by exact is_true ⟨rfl, rfl, gridL_ty rfl hD⟩) ?_
            rfl
          · skip
            rfl
        · skip
          refine andT (by exact is_true (p := (0 : Int) = 0 ∧ (gridL D C).length ≤ 140737488351232) ⟨rfl, gridL_len (by have := typed_room hD; simp only [show (tab 2).bytes = 8 from rfl] at this; omega)⟩) ?_
          rfl
      · skip
        refine andT (by first | (apply is_true; and_intros <;> (first | rfl | assumption | (first | (apply is_true; and_intros <;> (first | rfl | assumption | (first | (apply is_true; and_intros <;> (first | rfl | assumption | (first | (apply is_true; and_intros <;> (first | rfl | assumption)))))))))))) ?_
        rfl
theorem spec_l20Ok_vv (D C : List (List TC)) : spec_l20Ok_v D C = chunkOk D C := by
  show (bif (!(spec_l05Dims_v D)) then false else bif (!((C.length : Int) == (D.length : Int))) then false else bif C.all (inR 1 40) then bif (gridL D C).all le16 then bif decide (prodL C ≤ 64) then decide (prodL (gridL D C) ≤ 256) else false else false else false) = _
  rw [spec_l05Dims_vv]
  unfold chunkOk
  cases hd : dimsOk D
  · rfl
  cases ((C.length : Int) == (D.length : Int))
  · rfl
  cases hc : C.all (inR 1 40)
  · rfl
  rw [grid_all (dimsOk_all hd) hc]
  cases (gridL D C).all (inR 0 16) <;> cases decide (prodL C ≤ 64) <;> rfl
/-! spec_l05Inside -/
noncomputable def spec_l05Inside_f4 (D : List (List TC)) (T : List (List TC)) (i : Int) : (Unit) ⊕ ((Unit) ⊕ (Unit)) := (bif (!(spec_l00In_v ((nth (row T i) 0).int) (0 : Int) (IntKind.wrap .i64 ((nth (row D i) 0).int - (1 : Int))))) then (.inr (.inl ())) else (.inl ()))
noncomputable def spec_l05Inside_e4 (D : List (List TC)) (T : List (List TC)) : (Unit) ⊕ (Unit) := .inr ()
noncomputable def spec_l05Inside_R4 (D : List (List TC)) (T : List (List TC)) (i : Int) : (Unit) ⊕ (Unit) := iter (fun i a => (spec_l05Inside_f4 D T (i : Int))) (fun a => (spec_l05Inside_e4 D T)) (T.length) 0 ()
abbrev spec_l05Inside_4_σ := List (List TC) × List (List TC) × Int
abbrev spec_l05Inside_4_ω := (Unit) ⊕ (Unit)
noncomputable def spec_l05Inside_4_step (D : List (List TC)) (T : List (List TC)) (i : Int) : Tr (spec_l05Inside_4_σ ⊕ spec_l05Inside_4_ω) := (.ite ((decide (i < (T.length : Int))) = true) (.ite ((0 : Int) ≤ i ∧ i < (T.length : Int)) (.ite ((0 : Int) ≤ i ∧ i < (D.length : Int)) (.ite ((!(spec_l00In_v ((nth (row T i) 0).int) (0 : Int) (IntKind.wrap .i64 ((nth (row D i) 0).int - (1 : Int))))) = true) (.ok (.inr (.inl ())))
     (.ok (.inl (D, T, (IntKind.wrap .i64 (i + (1 : Int)))))))
    .no)
   .no)
  (.ok (.inr (.inr ()))))
noncomputable def spec_l05Inside_4_st : spec_l05Inside_4_σ → Tr (spec_l05Inside_4_σ ⊕ spec_l05Inside_4_ω) := fun x => (spec_l05Inside_4_step (x.1) (x.2.1) (x.2.2))
noncomputable def spec_l05Inside_k4_1 (D : List (List TC)) (T : List (List TC)) (i : Int) : Bool := sumIs (spec_l05Inside_R4 D T i)
noncomputable def spec_l05Inside_o4_2 (D : List (List TC)) (T : List (List TC)) (i : Int) : Bool := is (i = 0 ∧ Typed tab (.slice 2) (.l T) ∧ D.length = T.length)
noncomputable def spec_l05Inside_o4_3 (D : List (List TC)) (T : List (List TC)) (i : Int) : Bool := is (i = 0 ∧ Typed tab (.slice 2) (.l T) ∧ D.length = T.length)
noncomputable def spec_l05Inside_4_fin (D : List (List TC)) (T : List (List TC)) (i : Int) : Told spec_l05Inside_4_ω := (.br (spec_l05Inside_k4_1 D T i) (.leaf (spec_l05Inside_o4_2 D T i) (.inl ())) (.leaf (spec_l05Inside_o4_3 D T i) (.inr ())))
def spec_l05Inside_4_sl (x : spec_l05Inside_4_σ) : List Slot := [⟨.val false [⟨.slice 2, .sh, TC.l (x.1)⟩], ⟨0, 0⟩⟩, ⟨.val false [⟨.slice 2, .sh, TC.l (x.2.1)⟩], ⟨0, 0⟩⟩, ⟨.val false [⟨.int .i64, .sh, TC.i (x.2.2)⟩], ⟨0, 0⟩⟩]
def spec_l05Inside_4_out : spec_l05Inside_4_ω → Ex × List Slot := (Sum.elim (fun x => (.ret, [⟨.val false [⟨.bool, .sh, TC.b false⟩], ⟨0, 0⟩⟩])) (fun x => (.exit 0, [Slot.none])))
noncomputable def spec_l05Inside_lo4 : List Slot → Option (Told (Ex × List Slot)) := fun s => match s with
  | [⟨.val false [⟨.slice 2, .sh, TC.l D⟩], ⟨0, 0⟩⟩, ⟨.val false [⟨.slice 2, .sh, TC.l T⟩], ⟨0, 0⟩⟩, ⟨.val false [⟨.int .i64, .sh, TC.i i⟩], ⟨0, 0⟩⟩] => some (((spec_l05Inside_4_fin D T i)).map spec_l05Inside_4_out)
  | _ => .none
noncomputable def spec_l05Inside_lo : LoopTeller := fun r s => bif Nat.beq r 4 then spec_l05Inside_lo4 s else .none
theorem spec_l05Inside_4_r (D : List (List TC)) (T : List (List TC)) (i : Int) (fuel : Nat) : rounds (rnd tab FT D6 live 64 spec_l05Inside_lo 0 4) leave (fuel + 1) (spec_l05Inside_4_sl (D, T, i)) = ((spec_l05Inside_4_step D T i)).run (goOn (fun s => rounds (rnd tab FT D6 live 64 spec_l05Inside_lo 0 4) leave fuel (spec_l05Inside_4_sl s)) fun w => some (spec_l05Inside_4_out w)) := by kernel_rfl
theorem spec_l05Inside_f4_eq (D T : List (List TC)) (i : Int) : spec_l05Inside_f4 D T i = bif insB D T i then Sum.inl () else Sum.inr (Sum.inl ()) := by
  unfold spec_l05Inside_f4
  rw [show spec_l00In_v ((nth (row T i) 0).int) 0 (IntKind.wrap .i64 ((nth (row D i) 0).int - (1 : Int))) = insB D T i from rfl]
  generalize insB D T i = p0
  cases p0 <;> rfl
theorem spec_l05Inside_R4_eq (D T : List (List TC))  : spec_l05Inside_R4 D T 0 = bif allI (fun i : Nat => insB D T (i : Int)) (T.length) then Sum.inr () else (Sum.inl ()) := by
  unfold spec_l05Inside_R4
  exact (iter_all (P := (fun i : Nat => insB D T (i : Int))) (g := fun _ a => a) (w := Sum.inl ()) fun j a _ => spec_l05Inside_f4_eq D T _)
theorem spec_l05Inside_4_h (D : List (List TC)) (T : List (List TC)) (i : Int) (ow : spec_l05Inside_4_ω) : ((spec_l05Inside_4_fin D T i)).val = some ow → ∃ fuel, loopN spec_l05Inside_4_st fuel (D, T, i) = some ow := by
  refine auto_const (R := (spec_l05Inside_R4 D T i)) rfl (iter_onR (f := (fun i a => (spec_l05Inside_f4 D T (i : Int)))) (fin := (fun a => (spec_l05Inside_e4 D T))) (Q := endsAs () ()) (fun i a => by unfold spec_l05Inside_f4; exact (onR_bif rfl trivial)) (fun _ => rfl) _ _ _) ?_
  intro ho
  have ho : is (i = 0 ∧ Typed tab (.slice 2) (.l T) ∧ D.length = T.length) = true := ho.elim id id
  obtain ⟨rfl, ht, hl⟩ := is_iff.1 ho
  have hlen : T.length ≤ 140737488351232 := by have := typed_room ht; simp only [show (tab 2).bytes = 8 from rfl] at this; omega
  refine ⟨(T.length) + 1, ?_⟩
  refine iter_loop (step := spec_l05Inside_4_st) (T.length) (fun i a => (spec_l05Inside_f4 D T (i : Int))) (fun a => (spec_l05Inside_e4 D T)) (fun i a => (D, T, (i : Int))) (fun _ _ => True) trivial (fun i a hi hI => ⟨?_, fun _ _ => trivial⟩) (fun a hI => ?_)
  · show (spec_l05Inside_4_step D T (i : Int)).val = _
    unfold spec_l05Inside_4_step spec_l05Inside_f4
    skip
    refine Tr.t (by simp; omega) ?_
    exact (Tr.t (by first | omega | (constructor <;> omega)) (Tr.t (by first | omega | (constructor <;> omega)) (Tr.bf rfl (by rw [Tr.val_ok, wrap64 (i := (i : Int) + 1) (by omega) (by omega)]; rfl))))
  · show (spec_l05Inside_4_step D T (T.length : Int)).val = _
    refine Tr.n (by first | (simp; done) | (simp; omega) | omega) ?_
    rfl
theorem spec_l05Inside_is4 : LoopIs tab FT D6 live 64 spec_l05Inside_lo 0 4 := by
  refine loop_told (sl := spec_l05Inside_4_sl) (step := spec_l05Inside_4_st) (out := spec_l05Inside_4_out) (lor := spec_l05Inside_lo4) (fin := fun x => (spec_l05Inside_4_fin (x.1) (x.2.1) (x.2.2))) (fun _ => rfl) ?_ (fun x n => spec_l05Inside_4_r x.1 x.2.1 x.2.2 n) (fun x ow => spec_l05Inside_4_h x.1 x.2.1 x.2.2 ow)
  intro s t h
  unfold spec_l05Inside_lo4 at h
  split at h
  · cases h; exact ⟨(_, _, _), rfl, rfl⟩
  · cases h
noncomputable def spec_l05Inside_t (D : List (List TC)) (T : List (List TC)) : Tr (Bool) := (.ite ((!((T.length : Int) == (D.length : Int))) = true) (.ok false)
  (.ite ((spec_l05Inside_k4_1 D T (0 : Int)) = true) (.ite ((spec_l05Inside_o4_2 D T (0 : Int)) = true) (.ok false)
    .no)
   (.ite ((spec_l05Inside_o4_3 D T (0 : Int)) = true) (.ok true)
    .no)))
def spec_l05Inside_mk (p : Bool) : Res := [(false, [⟨.bool, .sh, TC.b p⟩])]
noncomputable def spec_l05Inside_c (D : List (List TC)) (T : List (List TC)) : Bool := (bif (!((T.length : Int) == (D.length : Int))) then true else (bif (spec_l05Inside_k4_1 D T (0 : Int)) then ((spec_l05Inside_o4_2 D T (0 : Int)) && true) else ((spec_l05Inside_o4_3 D T (0 : Int)) && true)))
noncomputable def spec_l05Inside_v (D : List (List TC)) (T : List (List TC)) : Bool := (bif (!((T.length : Int) == (D.length : Int))) then false else (bif (spec_l05Inside_k4_1 D T (0 : Int)) then false else true))
theorem spec_l05Inside_l (D : List (List TC)) (T : List (List TC)) : (spec_l05Inside_c D T) = true → (spec_l05Inside_t D T).val = some (spec_l05Inside_v D T) := by
  unfold spec_l05Inside_t spec_l05Inside_v spec_l05Inside_c
  exact fun h => (Tr.ss h (fun h => rfl) (fun h => (Tr.ss h (fun h => (Tr.gb h fun h => rfl)) (fun h => (Tr.gb h fun h => rfl)))))
noncomputable def spec_l05Inside_S : List Arg → Option (Bool × Res) := fun xs => match xs with
  | [(false, [(.slice 2, TC.l D)]), (false, [(.slice 2, TC.l T)])] => some ((spec_l05Inside_c D T), spec_l05Inside_mk (spec_l05Inside_v D T))
  | _ => .none
theorem spec_l05Inside_e (D : List (List TC)) (T : List (List TC)) : runF tab FT D6 live 64 spec_l05Inside_lo [(false, [(.slice 2, TC.l D)]), (false, [(.slice 2, TC.l T)])] = (spec_l05Inside_t D T).run fun p => some (spec_l05Inside_mk p) := by kernel_rfl
theorem spec_l05Inside_s : ∀ xs r, spec_l05Inside_S xs = some (true, r) → runF tab FT D6 live 64 spec_l05Inside_lo xs = some r := by
  intro xs r h
  unfold spec_l05Inside_S at h
  split at h
  · simp only [Option.some.injEq, Prod.mk.injEq] at h
    obtain ⟨h1, rfl⟩ := h
    exact fun_told (spec_l05Inside_e _ _) (spec_l05Inside_l _ _) h1
  · cases h
noncomputable def D7 : Dt := also D6 64 spec_l05Inside_S
theorem d7 : DOk Go.Proofs.Try.prog tab D7 := d6.also mixed_ok tab_ok names_ok (fnLoops_one (by kernel_rfl) spec_l05Inside_is4) spec_l05Inside_s
theorem spec_l05Inside_cc {D : List (List TC)} {T : List (List TC)} (hT : Typed tab (.slice 2) (.l T)) : (spec_l05Inside_c D T) = true := by
  unfold spec_l05Inside_c
  refine bifT (fun b1 => ?_) (fun b1 => ?_)
  · skip
    rfl
  · skip
    refine bifT (fun b2 => ?_) (fun b2 => ?_)
    · skip
      refine andT (by exact is_true ⟨rfl, hT, lenEq b1⟩) ?_
      rfl
    · skip
      refine andT (by exact is_true ⟨rfl, hT, lenEq b1⟩) ?_
      rfl
theorem spec_l05Inside_vv (D T : List (List TC)) : spec_l05Inside_v D T = insideOk D T := by
  unfold spec_l05Inside_v spec_l05Inside_k4_1
  rw [spec_l05Inside_R4_eq]
  unfold insideOk
  cases ((T.length : Int) == (D.length : Int)) <;> cases allI (fun i : Nat => insB D T (i : Int)) T.length <;> rfl
/-! spec_l20Key -/
noncomputable def spec_l20Key_f3 (A : List (List TC)) (i : Int) (n : Int) : (Int) ⊕ ((Int)) := (.inl (IntKind.wrap .i64 ((IntKind.wrap .i64 ((16 : Int) * n)) + (nth (row A i) 0).int)))
noncomputable def spec_l20Key_e3 (A : List (List TC)) (n : Int) : (Int) := n
noncomputable def spec_l20Key_R3 (A : List (List TC)) (n : Int) (i : Int) : (Int) := iter (fun i a => (spec_l20Key_f3 A (i : Int) a)) (fun a => (spec_l20Key_e3 A a)) (A.length) 0 n
abbrev spec_l20Key_3_σ := List (List TC) × Int × Int
abbrev spec_l20Key_3_ω := (Int)
noncomputable def spec_l20Key_3_step (A : List (List TC)) (n : Int) (i : Int) : Tr (spec_l20Key_3_σ ⊕ spec_l20Key_3_ω) := (.ite ((decide (i < (A.length : Int))) = true) (.ite ((0 : Int) ≤ i ∧ i < (A.length : Int)) (.ok (.inl (A, (IntKind.wrap .i64 ((IntKind.wrap .i64 ((16 : Int) * n)) + (nth (row A i) 0).int)), (IntKind.wrap .i64 (i + (1 : Int))))))
   .no)
  (.ok (.inr n)))
noncomputable def spec_l20Key_3_st : spec_l20Key_3_σ → Tr (spec_l20Key_3_σ ⊕ spec_l20Key_3_ω) := fun x => (spec_l20Key_3_step (x.1) (x.2.1) (x.2.2))
noncomputable def spec_l20Key_o3_1 (A : List (List TC)) (n : Int) (i : Int) : Bool := is (i = 0 ∧ n = 0 ∧ A.length ≤ 140737488351232)
noncomputable def spec_l20Key_u3_1 (A : List (List TC)) (n : Int) (i : Int) : Int := (spec_l20Key_R3 A n i)
noncomputable def spec_l20Key_3_fin (A : List (List TC)) (n : Int) (i : Int) : Told spec_l20Key_3_ω := (.leaf (spec_l20Key_o3_1 A n i) (spec_l20Key_u3_1 A n i))
def spec_l20Key_3_sl (x : spec_l20Key_3_σ) : List Slot := [⟨.val false [⟨.slice 2, .sh, TC.l (x.1)⟩], ⟨0, 0⟩⟩, ⟨.val false [⟨.int .i64, .sh, TC.i (x.2.1)⟩], ⟨0, 0⟩⟩, ⟨.val false [⟨.int .i64, .sh, TC.i (x.2.2)⟩], ⟨0, 0⟩⟩]
def spec_l20Key_3_out : spec_l20Key_3_ω → Ex × List Slot := (fun x => (.exit 0, [Slot.none, ⟨.val false [⟨.int .i64, .sh, TC.i x⟩], ⟨0, 0⟩⟩]))
noncomputable def spec_l20Key_lo3 : List Slot → Option (Told (Ex × List Slot)) := fun s => match s with
  | [⟨.val false [⟨.slice 2, .sh, TC.l A⟩], ⟨0, 0⟩⟩, ⟨.val false [⟨.int .i64, .sh, TC.i n⟩], ⟨0, 0⟩⟩, ⟨.val false [⟨.int .i64, .sh, TC.i i⟩], ⟨0, 0⟩⟩] => some (((spec_l20Key_3_fin A n i)).map spec_l20Key_3_out)
  | _ => .none
noncomputable def spec_l20Key_lo : LoopTeller := fun r s => bif Nat.beq r 3 then spec_l20Key_lo3 s else .none
theorem spec_l20Key_3_r (A : List (List TC)) (n : Int) (i : Int) (fuel : Nat) : rounds (rnd tab FT D7 live 111 spec_l20Key_lo 0 3) leave (fuel + 1) (spec_l20Key_3_sl (A, n, i)) = ((spec_l20Key_3_step A n i)).run (goOn (fun s => rounds (rnd tab FT D7 live 111 spec_l20Key_lo 0 3) leave fuel (spec_l20Key_3_sl s)) fun w => some (spec_l20Key_3_out w)) := by kernel_rfl
theorem spec_l20Key_R3_eq (A : List (List TC)) : spec_l20Key_R3 A 0 0 = keyL A := by
  unfold spec_l20Key_R3
  refine (iter_each (g := (fun i n => IntKind.wrap .i64 ((IntKind.wrap .i64 (n * 16)) + (nth (row A (i : Int)) 0).int))) (fin := fun a => spec_l20Key_e3 A a) fun j a hj => ?_)
  unfold spec_l20Key_f3
  rw [Int.mul_comm 16 a]
theorem spec_l20Key_3_h (A : List (List TC)) (n : Int) (i : Int) (ow : spec_l20Key_3_ω) : ((spec_l20Key_3_fin A n i)).val = some ow → ∃ fuel, loopN spec_l20Key_3_st fuel (A, n, i) = some ow := by
  refine auto_leaf (R := (spec_l20Key_R3 A n i)) ?_
  intro ho
  have ho : is (i = 0 ∧ n = 0 ∧ A.length ≤ 140737488351232) = true := ho
  obtain ⟨rfl, rfl, hlen⟩ := is_iff.1 ho
  skip
  refine ⟨(A.length) + 1, ?_⟩
  refine iter_loop (step := spec_l20Key_3_st) (A.length) (fun i a => (spec_l20Key_f3 A (i : Int) a)) (fun a => (spec_l20Key_e3 A a)) (fun i a => (A, a, (i : Int))) (fun _ _ => True) trivial (fun i a hi hI => ⟨?_, fun _ _ => trivial⟩) (fun a hI => ?_)
  · show (spec_l20Key_3_step A a (i : Int)).val = _
    unfold spec_l20Key_3_step spec_l20Key_f3
    skip
    refine Tr.t (by simp; omega) ?_
    exact (Tr.t (by first | omega | (constructor <;> omega)) (by rw [Tr.val_ok, wrap64 (i := (i : Int) + 1) (by omega) (by omega)]; rfl))
  · show (spec_l20Key_3_step A a (A.length : Int)).val = _
    refine Tr.n (by first | (simp; done) | (simp; omega) | omega) ?_
    rfl
theorem spec_l20Key_is3 : LoopIs tab FT D7 live 111 spec_l20Key_lo 0 3 := by
  refine loop_told (sl := spec_l20Key_3_sl) (step := spec_l20Key_3_st) (out := spec_l20Key_3_out) (lor := spec_l20Key_lo3) (fin := fun x => (spec_l20Key_3_fin (x.1) (x.2.1) (x.2.2))) (fun _ => rfl) ?_ (fun x n => spec_l20Key_3_r x.1 x.2.1 x.2.2 n) (fun x ow => spec_l20Key_3_h x.1 x.2.1 x.2.2 ow)
  intro s t h
  unfold spec_l20Key_lo3 at h
  split at h
  · cases h; exact ⟨(_, _, _), rfl, rfl⟩
  · cases h
noncomputable def spec_l20Key_t (A : List (List TC)) : Tr (Int) := (.ite ((spec_l20Key_o3_1 A (0 : Int) (0 : Int)) = true) (.ok (spec_l20Key_u3_1 A (0 : Int) (0 : Int)))
  .no)
def spec_l20Key_mk (p : Int) : Res := [(false, [⟨.int .i64, .sh, TC.i p⟩])]
noncomputable def spec_l20Key_c (A : List (List TC)) : Bool := (spec_l20Key_o3_1 A (0 : Int) (0 : Int))
noncomputable def spec_l20Key_v (A : List (List TC)) : Int := (spec_l20Key_u3_1 A (0 : Int) (0 : Int))
theorem spec_l20Key_l (A : List (List TC)) : (spec_l20Key_c A) = true → (spec_l20Key_t A).val = some (spec_l20Key_v A) := by
  intro h
  have hc0 : (spec_l20Key_o3_1 A (0 : Int) (0 : Int)) = true := h
  unfold spec_l20Key_t
  exact (Tr.t hc0 rfl)
noncomputable def spec_l20Key_S : List Arg → Option (Bool × Res) := fun xs => match xs with
  | [(false, [(.slice 2, TC.l A)])] => some ((spec_l20Key_c A), spec_l20Key_mk (spec_l20Key_v A))
  | _ => .none
theorem spec_l20Key_e (A : List (List TC)) : runF tab FT D7 live 111 spec_l20Key_lo [(false, [(.slice 2, TC.l A)])] = (spec_l20Key_t A).run fun p => some (spec_l20Key_mk p) := by kernel_rfl
theorem spec_l20Key_s : ∀ xs r, spec_l20Key_S xs = some (true, r) → runF tab FT D7 live 111 spec_l20Key_lo xs = some r := by
  intro xs r h
  unfold spec_l20Key_S at h
  split at h
  · simp only [Option.some.injEq, Prod.mk.injEq] at h
    obtain ⟨h1, rfl⟩ := h
    exact fun_told (spec_l20Key_e _) (spec_l20Key_l _) h1
  · cases h
noncomputable def D8 : Dt := also D7 111 spec_l20Key_S
theorem d8 : DOk Go.Proofs.Try.prog tab D8 := d7.also mixed_ok tab_ok names_ok (fnLoops_one (by kernel_rfl) spec_l20Key_is3) spec_l20Key_s
theorem spec_l20Key_vv (A : List (List TC)) : spec_l20Key_v A = keyL A := spec_l20Key_R3_eq A
/-! spec_l05Index -/
noncomputable def spec_l05Index_f3 (D : List (List TC)) (T : List (List TC)) (i : Int) (n : Int) : (Int) ⊕ ((Int)) := (.inl (IntKind.wrap .i64 ((IntKind.wrap .i64 (n * (nth (row D i) 0).int)) + (nth (row T i) 0).int)))
noncomputable def spec_l05Index_e3 (D : List (List TC)) (T : List (List TC)) (n : Int) : (Int) := n
noncomputable def spec_l05Index_R3 (D : List (List TC)) (T : List (List TC)) (n : Int) (i : Int) : (Int) := iter (fun i a => (spec_l05Index_f3 D T (i : Int) a)) (fun a => (spec_l05Index_e3 D T a)) (D.length) 0 n
abbrev spec_l05Index_3_σ := List (List TC) × List (List TC) × Int × Int
abbrev spec_l05Index_3_ω := (Int)
noncomputable def spec_l05Index_3_step (D : List (List TC)) (T : List (List TC)) (n : Int) (i : Int) : Tr (spec_l05Index_3_σ ⊕ spec_l05Index_3_ω) := (.ite ((decide (i < (D.length : Int))) = true) (.ite ((0 : Int) ≤ i ∧ i < (D.length : Int)) (.ite ((0 : Int) ≤ i ∧ i < (T.length : Int)) (.ok (.inl (D, T, (IntKind.wrap .i64 ((IntKind.wrap .i64 (n * (nth (row D i) 0).int)) + (nth (row T i) 0).int)), (IntKind.wrap .i64 (i + (1 : Int))))))
    .no)
   .no)
  (.ok (.inr n)))
noncomputable def spec_l05Index_3_st : spec_l05Index_3_σ → Tr (spec_l05Index_3_σ ⊕ spec_l05Index_3_ω) := fun x => (spec_l05Index_3_step (x.1) (x.2.1) (x.2.2.1) (x.2.2.2))
noncomputable def spec_l05Index_o3_1 (D : List (List TC)) (T : List (List TC)) (n : Int) (i : Int) : Bool := is (i = 0 ∧ n = 0 ∧ D.length ≤ 140737488351232 ∧ T.length = D.length)
noncomputable def spec_l05Index_u3_1 (D : List (List TC)) (T : List (List TC)) (n : Int) (i : Int) : Int := (spec_l05Index_R3 D T n i)
noncomputable def spec_l05Index_3_fin (D : List (List TC)) (T : List (List TC)) (n : Int) (i : Int) : Told spec_l05Index_3_ω := (.leaf (spec_l05Index_o3_1 D T n i) (spec_l05Index_u3_1 D T n i))
def spec_l05Index_3_sl (x : spec_l05Index_3_σ) : List Slot := [⟨.val false [⟨.slice 2, .sh, TC.l (x.1)⟩], ⟨0, 0⟩⟩, ⟨.val false [⟨.slice 2, .sh, TC.l (x.2.1)⟩], ⟨0, 0⟩⟩, ⟨.val false [⟨.int .i64, .sh, TC.i (x.2.2.1)⟩], ⟨0, 0⟩⟩, ⟨.val false [⟨.int .i64, .sh, TC.i (x.2.2.2)⟩], ⟨0, 0⟩⟩]
def spec_l05Index_3_out : spec_l05Index_3_ω → Ex × List Slot := (fun x => (.exit 0, [Slot.none, ⟨.val false [⟨.int .i64, .sh, TC.i x⟩], ⟨0, 0⟩⟩]))
noncomputable def spec_l05Index_lo3 : List Slot → Option (Told (Ex × List Slot)) := fun s => match s with
  | [⟨.val false [⟨.slice 2, .sh, TC.l D⟩], ⟨0, 0⟩⟩, ⟨.val false [⟨.slice 2, .sh, TC.l T⟩], ⟨0, 0⟩⟩, ⟨.val false [⟨.int .i64, .sh, TC.i n⟩], ⟨0, 0⟩⟩, ⟨.val false [⟨.int .i64, .sh, TC.i i⟩], ⟨0, 0⟩⟩] => some (((spec_l05Index_3_fin D T n i)).map spec_l05Index_3_out)
  | _ => .none
noncomputable def spec_l05Index_lo : LoopTeller := fun r s => bif Nat.beq r 3 then spec_l05Index_lo3 s else .none
theorem spec_l05Index_3_r (D : List (List TC)) (T : List (List TC)) (n : Int) (i : Int) (fuel : Nat) : rounds (rnd tab FT D8 live 92 spec_l05Index_lo 0 3) leave (fuel + 1) (spec_l05Index_3_sl (D, T, n, i)) = ((spec_l05Index_3_step D T n i)).run (goOn (fun s => rounds (rnd tab FT D8 live 92 spec_l05Index_lo 0 3) leave fuel (spec_l05Index_3_sl s)) fun w => some (spec_l05Index_3_out w)) := by kernel_rfl
theorem spec_l05Index_R3_eq (D : List (List TC)) (T : List (List TC)) : spec_l05Index_R3 D T 0 0 = indexN D T D.length := by
  unfold spec_l05Index_R3
  refine (iter_each (g := (fun i n => IntKind.wrap .i64 ((IntKind.wrap .i64 (n * (nth (row D (i : Int)) 0).int)) + (nth (row T (i : Int)) 0).int))) (fin := fun a => spec_l05Index_e3 D T a) fun j a hj => ?_)
  unfold spec_l05Index_f3
  rfl
theorem spec_l05Index_3_h (D : List (List TC)) (T : List (List TC)) (n : Int) (i : Int) (ow : spec_l05Index_3_ω) : ((spec_l05Index_3_fin D T n i)).val = some ow → ∃ fuel, loopN spec_l05Index_3_st fuel (D, T, n, i) = some ow := by
  refine auto_leaf (R := (spec_l05Index_R3 D T n i)) ?_
  intro ho
  have ho : is (i = 0 ∧ n = 0 ∧ D.length ≤ 140737488351232 ∧ T.length = D.length) = true := ho
  obtain ⟨rfl, rfl, hlen, hl⟩ := is_iff.1 ho
  skip
  refine ⟨(D.length) + 1, ?_⟩
  refine iter_loop (step := spec_l05Index_3_st) (D.length) (fun i a => (spec_l05Index_f3 D T (i : Int) a)) (fun a => (spec_l05Index_e3 D T a)) (fun i a => (D, T, a, (i : Int))) (fun _ _ => True) trivial (fun i a hi hI => ⟨?_, fun _ _ => trivial⟩) (fun a hI => ?_)
  · show (spec_l05Index_3_step D T a (i : Int)).val = _
    unfold spec_l05Index_3_step spec_l05Index_f3
    skip
    refine Tr.t (by simp; omega) ?_
    exact (Tr.t (by first | omega | (constructor <;> omega)) (Tr.t (by first | omega | (constructor <;> omega)) (by rw [Tr.val_ok, wrap64 (i := (i : Int) + 1) (by omega) (by omega)]; rfl)))
  · show (spec_l05Index_3_step D T a (D.length : Int)).val = _
    refine Tr.n (by first | (simp; done) | (simp; omega) | omega) ?_
    rfl
theorem spec_l05Index_is3 : LoopIs tab FT D8 live 92 spec_l05Index_lo 0 3 := by
  refine loop_told (sl := spec_l05Index_3_sl) (step := spec_l05Index_3_st) (out := spec_l05Index_3_out) (lor := spec_l05Index_lo3) (fin := fun x => (spec_l05Index_3_fin (x.1) (x.2.1) (x.2.2.1) (x.2.2.2))) (fun _ => rfl) ?_ (fun x n => spec_l05Index_3_r x.1 x.2.1 x.2.2.1 x.2.2.2 n) (fun x ow => spec_l05Index_3_h x.1 x.2.1 x.2.2.1 x.2.2.2 ow)
  intro s t h
  unfold spec_l05Index_lo3 at h
  split at h
  · cases h; exact ⟨(_, _, _, _), rfl, rfl⟩
  · cases h
noncomputable def spec_l05Index_t (D : List (List TC)) (T : List (List TC)) : Tr (Int) := (.ite ((spec_l05Index_o3_1 D T (0 : Int) (0 : Int)) = true) (.ok (spec_l05Index_u3_1 D T (0 : Int) (0 : Int)))
  .no)
def spec_l05Index_mk (p : Int) : Res := [(false, [⟨.int .i64, .sh, TC.i p⟩])]
noncomputable def spec_l05Index_c (D : List (List TC)) (T : List (List TC)) : Bool := (spec_l05Index_o3_1 D T (0 : Int) (0 : Int))
noncomputable def spec_l05Index_v (D : List (List TC)) (T : List (List TC)) : Int := (spec_l05Index_u3_1 D T (0 : Int) (0 : Int))
theorem spec_l05Index_l (D : List (List TC)) (T : List (List TC)) : (spec_l05Index_c D T) = true → (spec_l05Index_t D T).val = some (spec_l05Index_v D T) := by
  intro h
  have hc0 : (spec_l05Index_o3_1 D T (0 : Int) (0 : Int)) = true := h
  unfold spec_l05Index_t
  exact (Tr.t hc0 rfl)
noncomputable def spec_l05Index_S : List Arg → Option (Bool × Res) := fun xs => match xs with
  | [(false, [(.slice 2, TC.l D)]), (false, [(.slice 2, TC.l T)])] => some ((spec_l05Index_c D T), spec_l05Index_mk (spec_l05Index_v D T))
  | _ => .none
theorem spec_l05Index_e (D : List (List TC)) (T : List (List TC)) : runF tab FT D8 live 92 spec_l05Index_lo [(false, [(.slice 2, TC.l D)]), (false, [(.slice 2, TC.l T)])] = (spec_l05Index_t D T).run fun p => some (spec_l05Index_mk p) := by kernel_rfl
theorem spec_l05Index_s : ∀ xs r, spec_l05Index_S xs = some (true, r) → runF tab FT D8 live 92 spec_l05Index_lo xs = some r := by
  intro xs r h
  unfold spec_l05Index_S at h
  split at h
  · simp only [Option.some.injEq, Prod.mk.injEq] at h
    obtain ⟨h1, rfl⟩ := h
    exact fun_told (spec_l05Index_e _ _) (spec_l05Index_l _ _) h1
  · cases h
noncomputable def D9 : Dt := also D8 92 spec_l05Index_S
theorem d9 : DOk Go.Proofs.Try.prog tab D9 := d8.also mixed_ok tab_ok names_ok (fnLoops_one (by kernel_rfl) spec_l05Index_is3) spec_l05Index_s
theorem spec_l05Index_vv (D : List (List TC)) (T : List (List TC)) : spec_l05Index_v D T = indexN D T D.length := spec_l05Index_R3_eq D T
/-! spec_l20Of -/
noncomputable def spec_l20Of_f4 (C : List (List TC)) (T : List (List TC)) (i : Int) (X : List (List TC)) (Y : List (List TC)) : (List (List TC) × List (List TC)) ⊕ ((List (List TC) × List (List TC) × List (List TC))) := (.inl ((X ++ [[TC.i (IntKind.wrap .i64 (Int.tdiv ((nth (row T i) 0).int) ((nth (row C i) 0).int)))]]), (Y ++ [[TC.i (Int.tmod ((nth (row T i) 0).int) ((nth (row C i) 0).int))]])))
noncomputable def spec_l20Of_e4 (C : List (List TC)) (T : List (List TC)) (X : List (List TC)) (Y : List (List TC)) : (List (List TC) × List (List TC) × List (List TC)) := (C, X, Y)
noncomputable def spec_l20Of_R4 (C : List (List TC)) (T : List (List TC)) (X : List (List TC)) (Y : List (List TC)) (i : Int) : (List (List TC) × List (List TC) × List (List TC)) := iter (fun i a => (spec_l20Of_f4 C T (i : Int) (a.1) (a.2))) (fun a => (spec_l20Of_e4 C T (a.1) (a.2))) (T.length) 0 (X, Y)
abbrev spec_l20Of_4_σ := List (List TC) × List (List TC) × List (List TC) × List (List TC) × Int
abbrev spec_l20Of_4_ω := (List (List TC) × List (List TC) × List (List TC))
noncomputable def spec_l20Of_4_step (C : List (List TC)) (T : List (List TC)) (X : List (List TC)) (Y : List (List TC)) (i : Int) : Tr (spec_l20Of_4_σ ⊕ spec_l20Of_4_ω) := (.ite ((decide (i < (T.length : Int))) = true) (.ite ((0 : Int) ≤ i ∧ i < (T.length : Int)) (.ite ((0 : Int) ≤ i ∧ i < (C.length : Int)) (.ite ((nth (row C i) 0).int ≠ 0) (.ite (roomFor (tab 2) (X ++ [[TC.i (IntKind.wrap .i64 (Int.tdiv ((nth (row T i) 0).int) ((nth (row C i) 0).int)))]]).length) (.ite ((0 : Int) ≤ i ∧ i < (T.length : Int)) (.ite ((0 : Int) ≤ i ∧ i < (C.length : Int)) (.ite ((nth (row C i) 0).int ≠ 0) (.ite (roomFor (tab 2) (Y ++ [[TC.i (Int.tmod ((nth (row T i) 0).int) ((nth (row C i) 0).int))]]).length) (.ok (.inl (C, T, (X ++ [[TC.i (IntKind.wrap .i64 (Int.tdiv ((nth (row T i) 0).int) ((nth (row C i) 0).int)))]]), (Y ++ [[TC.i (Int.tmod ((nth (row T i) 0).int) ((nth (row C i) 0).int))]]), (IntKind.wrap .i64 (i + (1 : Int))))))
          .no)
         .no)
        .no)
       .no)
      .no)
     .no)
    .no)
   .no)
  (.ok (.inr (C, X, Y))))
noncomputable def spec_l20Of_4_st : spec_l20Of_4_σ → Tr (spec_l20Of_4_σ ⊕ spec_l20Of_4_ω) := fun x => (spec_l20Of_4_step (x.1) (x.2.1) (x.2.2.1) (x.2.2.2.1) (x.2.2.2.2))
noncomputable def spec_l20Of_o4_1 (C : List (List TC)) (T : List (List TC)) (X : List (List TC)) (Y : List (List TC)) (i : Int) : Bool := is (i = 0 ∧ Typed tab (.slice 2) (.l T) ∧ T.length = C.length ∧ (∀ j : Nat, j < C.length → (nth (row C (j : Int)) 0).int ≠ 0) ∧ X = [] ∧ Y = [])
noncomputable def spec_l20Of_u4_1_0 (C : List (List TC)) (T : List (List TC)) (X : List (List TC)) (Y : List (List TC)) (i : Int) : List (List TC) := (spec_l20Of_R4 C T X Y i).1
noncomputable def spec_l20Of_u4_1_1 (C : List (List TC)) (T : List (List TC)) (X : List (List TC)) (Y : List (List TC)) (i : Int) : List (List TC) := (spec_l20Of_R4 C T X Y i).2.1
noncomputable def spec_l20Of_u4_1_2 (C : List (List TC)) (T : List (List TC)) (X : List (List TC)) (Y : List (List TC)) (i : Int) : List (List TC) := (spec_l20Of_R4 C T X Y i).2.2
noncomputable def spec_l20Of_4_fin (C : List (List TC)) (T : List (List TC)) (X : List (List TC)) (Y : List (List TC)) (i : Int) : Told spec_l20Of_4_ω := (.leaf (spec_l20Of_o4_1 C T X Y i) ((spec_l20Of_u4_1_0 C T X Y i), (spec_l20Of_u4_1_1 C T X Y i), (spec_l20Of_u4_1_2 C T X Y i)))
def spec_l20Of_4_sl (x : spec_l20Of_4_σ) : List Slot := [⟨.val false [⟨.slice 2, .sh, TC.l (x.1)⟩], ⟨0, 0⟩⟩, ⟨.val false [⟨.slice 2, .sh, TC.l (x.2.1)⟩], ⟨0, 0⟩⟩, ⟨.val false [⟨.slice 2, .own true, TC.l (x.2.2.1)⟩], ⟨0, 0⟩⟩, ⟨.val false [⟨.slice 2, .own true, TC.l (x.2.2.2.1)⟩], ⟨0, 0⟩⟩, ⟨.val false [⟨.int .i64, .sh, TC.i (x.2.2.2.2)⟩], ⟨0, 0⟩⟩]
def spec_l20Of_4_out : spec_l20Of_4_ω → Ex × List Slot := (fun x => (.exit 0, [⟨.val false [⟨.slice 2, .sh, TC.l (x.1)⟩], ⟨0, 0⟩⟩, Slot.none, Slot.none, ⟨.val false [⟨.slice 2, .own true, TC.l (x.2.1)⟩], ⟨0, 0⟩⟩, ⟨.val false [⟨.slice 2, .own true, TC.l (x.2.2)⟩], ⟨0, 0⟩⟩]))
noncomputable def spec_l20Of_lo4 : List Slot → Option (Told (Ex × List Slot)) := fun s => match s with
  | [⟨.val false [⟨.slice 2, .sh, TC.l C⟩], ⟨0, 0⟩⟩, ⟨.val false [⟨.slice 2, .sh, TC.l T⟩], ⟨0, 0⟩⟩, ⟨.val false [⟨.slice 2, .own true, TC.l X⟩], ⟨0, 0⟩⟩, ⟨.val false [⟨.slice 2, .own true, TC.l Y⟩], ⟨0, 0⟩⟩, ⟨.val false [⟨.int .i64, .sh, TC.i i⟩], ⟨0, 0⟩⟩] => some (((spec_l20Of_4_fin C T X Y i)).map spec_l20Of_4_out)
  | _ => .none
noncomputable def spec_l20Of_lo : LoopTeller := fun r s => bif Nat.beq r 4 then spec_l20Of_lo4 s else .none
theorem spec_l20Of_4_r (C : List (List TC)) (T : List (List TC)) (X : List (List TC)) (Y : List (List TC)) (i : Int) (fuel : Nat) : rounds (rnd tab FT D9 live 65 spec_l20Of_lo 0 4) leave (fuel + 1) (spec_l20Of_4_sl (C, T, X, Y, i)) = ((spec_l20Of_4_step C T X Y i)).run (goOn (fun s => rounds (rnd tab FT D9 live 65 spec_l20Of_lo 0 4) leave fuel (spec_l20Of_4_sl s)) fun w => some (spec_l20Of_4_out w)) := by kernel_rfl
theorem spec_l20Of_R4_eq (C T : List (List TC)) : spec_l20Of_R4 C T [] [] 0 = (C, (divs C T T.length).1, (divs C T T.length).2) := by
  unfold spec_l20Of_R4
  exact iter_each (g := divStep C T) (fin := fun a => spec_l20Of_e4 C T a.1 a.2) fun j a hj => rfl
theorem spec_l20Of_u4_0 (C T : List (List TC)) : spec_l20Of_u4_1_0 C T [] [] 0 = C := by
  unfold spec_l20Of_u4_1_0
  rw [spec_l20Of_R4_eq]
theorem spec_l20Of_u4_1 (C T : List (List TC)) : spec_l20Of_u4_1_1 C T [] [] 0 = (divs C T T.length).1 := by
  unfold spec_l20Of_u4_1_1
  rw [spec_l20Of_R4_eq]
theorem spec_l20Of_u4_2 (C T : List (List TC)) : spec_l20Of_u4_1_2 C T [] [] 0 = (divs C T T.length).2 := by
  unfold spec_l20Of_u4_1_2
  rw [spec_l20Of_R4_eq]
theorem spec_l20Of_4_h (C : List (List TC)) (T : List (List TC)) (X : List (List TC)) (Y : List (List TC)) (i : Int) (ow : spec_l20Of_4_ω) : ((spec_l20Of_4_fin C T X Y i)).val = some ow → ∃ fuel, loopN spec_l20Of_4_st fuel (C, T, X, Y, i) = some ow := by
  refine auto_leaf (R := (spec_l20Of_R4 C T X Y i)) ?_
  intro ho
  have ho : is (i = 0 ∧ Typed tab (.slice 2) (.l T) ∧ T.length = C.length ∧ (∀ j : Nat, j < C.length → (nth (row C (j : Int)) 0).int ≠ 0) ∧ X = [] ∧ Y = []) = true := ho
  obtain ⟨rfl, ht, hl, hz, rfl, rfl⟩ := is_iff.1 ho
  have hlen : T.length ≤ 140737488351232 := by have := typed_room ht; simp only [show (tab 2).bytes = 8 from rfl] at this; omega
  refine ⟨(T.length) + 1, ?_⟩
  refine iter_loop (step := spec_l20Of_4_st) (a := (([] : List (List TC)), ([] : List (List TC)))) (T.length) (fun i a => (spec_l20Of_f4 C T (i : Int) (a.1) (a.2))) (fun a => (spec_l20Of_e4 C T (a.1) (a.2))) (fun i a => (C, T, a.1, a.2, (i : Int))) (fun i (a : List (List TC) × List (List TC)) => a.1.length = i ∧ a.2.length = i) ⟨rfl, rfl⟩ (fun i a hi hI => ⟨?_, fun a' h => by
    unfold spec_l20Of_f4 at h
    cases h
    simp only [List.length_append, List.length_singleton]
    omega⟩) (fun a hI => ?_)
  · show (spec_l20Of_4_step C T (a.1) (a.2) (i : Int)).val = _
    unfold spec_l20Of_4_step spec_l20Of_f4
    skip
    refine Tr.t (by simp; omega) ?_
    exact (Tr.t (by first | omega | (constructor <;> omega) | (exact hz i (by omega)) | (unfold roomFor; simp only [show (tab 2).bytes = 8 from rfl, List.length_append, List.length_singleton]; have hI := hI; have hlen8 : T.length ≤ 17592186043904 := (by have := typed_room ht; simp only [show (tab 2).bytes = 8 from rfl] at this; omega); omega)) (Tr.t (by first | omega | (constructor <;> omega) | (exact hz i (by omega)) | (unfold roomFor; simp only [show (tab 2).bytes = 8 from rfl, List.length_append, List.length_singleton]; have hI := hI; have hlen8 : T.length ≤ 17592186043904 := (by have := typed_room ht; simp only [show (tab 2).bytes = 8 from rfl] at this; omega); omega)) (Tr.t (by first | omega | (constructor <;> omega) | (exact hz i (by omega)) | (unfold roomFor; simp only [show (tab 2).bytes = 8 from rfl, List.length_append, List.length_singleton]; have hI := hI; have hlen8 : T.length ≤ 17592186043904 := (by have := typed_room ht; simp only [show (tab 2).bytes = 8 from rfl] at this; omega); omega)) (Tr.t (by first | omega | (constructor <;> omega) | (exact hz i (by omega)) | (unfold roomFor; simp only [show (tab 2).bytes = 8 from rfl, List.length_append, List.length_singleton]; have hI := hI; have hlen8 : T.length ≤ 17592186043904 := (by have := typed_room ht; simp only [show (tab 2).bytes = 8 from rfl] at this; omega); omega)) (Tr.t (by first | omega | (constructor <;> omega) | (exact hz i (by omega)) | (unfold roomFor; simp only [show (tab 2).bytes = 8 from rfl, List.length_append, List.length_singleton]; have hI := hI; have hlen8 : T.length ≤ 17592186043904 := (by have := typed_room ht; simp only [show (tab 2).bytes = 8 from rfl] at this; omega); omega)) (Tr.t (by first | omega | (constructor <;> omega) | (exact hz i (by omega)) | (unfold roomFor; simp only [show (tab 2).bytes = 8 from rfl, List.length_append, List.length_singleton]; have hI := hI; have hlen8 : T.length ≤ 17592186043904 := (by have := typed_room ht; simp only [show (tab 2).bytes = 8 from rfl] at this; omega); omega)) (Tr.t (by first | omega | (constructor <;> omega) | (exact hz i (by omega)) | (unfold roomFor; simp only [show (tab 2).bytes = 8 from rfl, List.length_append, List.length_singleton]; have hI := hI; have hlen8 : T.length ≤ 17592186043904 := (by have := typed_room ht; simp only [show (tab 2).bytes = 8 from rfl] at this; omega); omega)) (Tr.t (by first | omega | (constructor <;> omega) | (exact hz i (by omega)) | (unfold roomFor; simp only [show (tab 2).bytes = 8 from rfl, List.length_append, List.length_singleton]; have hI := hI; have hlen8 : T.length ≤ 17592186043904 := (by have := typed_room ht; simp only [show (tab 2).bytes = 8 from rfl] at this; omega); omega)) (by rw [Tr.val_ok, wrap64 (i := (i : Int) + 1) (by omega) (by omega)]; rfl)))))))))
  · show (spec_l20Of_4_step C T (a.1) (a.2) (T.length : Int)).val = _
    refine Tr.n (by first | (simp; done) | (simp; omega) | omega) ?_
    rfl
theorem spec_l20Of_is4 : LoopIs tab FT D9 live 65 spec_l20Of_lo 0 4 := by
  refine loop_told (sl := spec_l20Of_4_sl) (step := spec_l20Of_4_st) (out := spec_l20Of_4_out) (lor := spec_l20Of_lo4) (fin := fun x => (spec_l20Of_4_fin (x.1) (x.2.1) (x.2.2.1) (x.2.2.2.1) (x.2.2.2.2))) (fun _ => rfl) ?_ (fun x n => spec_l20Of_4_r x.1 x.2.1 x.2.2.1 x.2.2.2.1 x.2.2.2.2 n) (fun x ow => spec_l20Of_4_h x.1 x.2.1 x.2.2.1 x.2.2.2.1 x.2.2.2.2 ow)
  intro s t h
  unfold spec_l20Of_lo4 at h
  split at h
  · cases h; exact ⟨(_, _, _, _, _), rfl, rfl⟩
  · cases h
noncomputable def spec_l20Of_t (C : List (List TC)) (T : List (List TC)) : Tr (Int × Int) := (.ite ((spec_l20Of_o4_1 C T [] [] (0 : Int)) = true) (.ite ((spec_l20Key_c (spec_l20Of_u4_1_1 C T [] [] (0 : Int))) = true) (.ite ((spec_l05Index_c (spec_l20Of_u4_1_0 C T [] [] (0 : Int)) (spec_l20Of_u4_1_2 C T [] [] (0 : Int))) = true) (.ok ((spec_l20Key_v (spec_l20Of_u4_1_1 C T [] [] (0 : Int))), (spec_l05Index_v (spec_l20Of_u4_1_0 C T [] [] (0 : Int)) (spec_l20Of_u4_1_2 C T [] [] (0 : Int)))))
    .no)
   .no)
  .no)
def spec_l20Of_mk (p : Int × Int) : Res := [(false, [⟨.int .i64, .sh, TC.i (p.1)⟩]), (false, [⟨.int .i64, .sh, TC.i (p.2)⟩])]
noncomputable def spec_l20Of_c (C : List (List TC)) (T : List (List TC)) : Bool := ((spec_l20Of_o4_1 C T [] [] (0 : Int)) && ((spec_l20Key_c (spec_l20Of_u4_1_1 C T [] [] (0 : Int))) && ((spec_l05Index_c (spec_l20Of_u4_1_0 C T [] [] (0 : Int)) (spec_l20Of_u4_1_2 C T [] [] (0 : Int))) && true)))
noncomputable def spec_l20Of_v (C : List (List TC)) (T : List (List TC)) : Int × Int := ((spec_l20Key_v (spec_l20Of_u4_1_1 C T [] [] (0 : Int))), (spec_l05Index_v (spec_l20Of_u4_1_0 C T [] [] (0 : Int)) (spec_l20Of_u4_1_2 C T [] [] (0 : Int))))
theorem spec_l20Of_l (C : List (List TC)) (T : List (List TC)) : (spec_l20Of_c C T) = true → (spec_l20Of_t C T).val = some (spec_l20Of_v C T) := by
  unfold spec_l20Of_t spec_l20Of_v spec_l20Of_c
  exact fun h => (Tr.gb h fun h => (Tr.gb h fun h => (Tr.gb h fun h => rfl)))
noncomputable def spec_l20Of_S : List Arg → Option (Bool × Res) := fun xs => match xs with
  | [(false, [(.slice 2, TC.l C)]), (false, [(.slice 2, TC.l T)])] => some ((spec_l20Of_c C T), spec_l20Of_mk (spec_l20Of_v C T))
  | _ => .none
theorem spec_l20Of_e (C : List (List TC)) (T : List (List TC)) : runF tab FT D9 live 65 spec_l20Of_lo [(false, [(.slice 2, TC.l C)]), (false, [(.slice 2, TC.l T)])] = (spec_l20Of_t C T).run fun p => some (spec_l20Of_mk p) := by kernel_rfl
theorem spec_l20Of_s : ∀ xs r, spec_l20Of_S xs = some (true, r) → runF tab FT D9 live 65 spec_l20Of_lo xs = some r := by
  intro xs r h
  unfold spec_l20Of_S at h
  split at h
  · simp only [Option.some.injEq, Prod.mk.injEq] at h
    obtain ⟨h1, rfl⟩ := h
    exact fun_told (spec_l20Of_e _ _) (spec_l20Of_l _ _) h1
  · cases h
noncomputable def D10 : Dt := also D9 65 spec_l20Of_S
theorem d10 : DOk Go.Proofs.Try.prog tab D10 := d9.also mixed_ok tab_ok names_ok (fnLoops_one (by kernel_rfl) spec_l20Of_is4) spec_l20Of_s
theorem spec_l20Of_cc {C : List (List TC)} {T : List (List TC)} (hT : Typed tab (.slice 2) (.l T)) (hl : T.length = C.length) (hz : ∀ j : Nat, j < C.length → (nth (row C (j : Int)) 0).int ≠ 0) : (spec_l20Of_c C T) = true := by
  unfold spec_l20Of_c
  refine andT (by exact is_true ⟨rfl, hT, hl, hz, rfl, rfl⟩) ?_
  refine andT (by rw [spec_l20Of_u4_1]; have hlen := typed_room hT; simp only [show (tab 2).bytes = 8 from rfl] at hlen; exact is_true ⟨rfl, rfl, by rw [divs_len.1]; omega⟩) ?_
  refine andT (by rw [spec_l20Of_u4_0, spec_l20Of_u4_2]; have hlen := typed_room hT; simp only [show (tab 2).bytes = 8 from rfl] at hlen; exact is_true ⟨rfl, rfl, by first | (rw [divs_len.2]; omega) | omega, by rw [divs_len.2]; omega⟩) ?_
  rfl
theorem spec_l20Of_vv (C T : List (List TC)) (hl : T.length = C.length) : spec_l20Of_v C T = (keyL (divs C T T.length).1, indexN C (divs C T T.length).2 T.length) := by
  unfold spec_l20Of_v
  rw [spec_l20Of_u4_0, spec_l20Of_u4_1, spec_l20Of_u4_2, spec_l20Key_vv, spec_l05Index_vv]
  rw [hl]
/-! spec_ChunkOf -/
noncomputable def spec_ChunkOf_t (D : List (List TC)) (C : List (List TC)) (T : List (List TC)) : Tr (Int × Int) := (.ite ((spec_l20Ok_c D C) = true) (.ite ((!(spec_l20Ok_v D C)) = true) (.ok ((-1 : Int), (-1 : Int)))
   (.ite ((spec_l05Inside_c D T) = true) (.ite ((!(spec_l05Inside_v D T)) = true) (.ok ((-1 : Int), (-1 : Int)))
     (.ite ((spec_l20Of_c C T) = true) (.ok ((spec_l20Of_v C T).1, (spec_l20Of_v C T).2))
      .no))
    .no))
  .no)
def spec_ChunkOf_mk (p : Int × Int) : Res := [(false, [⟨.int .i64, .sh, TC.i (p.1)⟩]), (false, [⟨.int .i64, .sh, TC.i (p.2)⟩])]
noncomputable def spec_ChunkOf_c (D : List (List TC)) (C : List (List TC)) (T : List (List TC)) : Bool := is (Typed tab (.slice 2) (.l D) ∧ Typed tab (.slice 2) (.l C) ∧ Typed tab (.slice 2) (.l T))
noncomputable def spec_ChunkOf_v (D : List (List TC)) (C : List (List TC)) (T : List (List TC)) : Int × Int := hid (chunkOfV D C T)
theorem spec_ChunkOf_l (D : List (List TC)) (C : List (List TC)) (T : List (List TC)) : (spec_ChunkOf_c D C T) = true → (spec_ChunkOf_t D C T).val = some (spec_ChunkOf_v D C T) := by
  intro h
  obtain ⟨hD, hC, hT⟩ := is_iff.1 h
  unfold spec_ChunkOf_t spec_ChunkOf_v
  rw [hid_eq]
  refine Tr.t (spec_l20Ok_cc hD hC) ?_
  rw [spec_l20Ok_vv]
  unfold chunkOfV
  cases h : chunkOk D C with
  | false => exact Tr.t rfl rfl
  | true =>
    refine Tr.n (by simp) (Tr.t (spec_l05Inside_cc hT) ?_)
    rw [spec_l05Inside_vv]
    cases h' : insideOk D T with
    | false => exact Tr.t rfl rfl
    | true =>
      have hp := chunkOf_parts h h'
      refine Tr.n (by simp) (Tr.t (spec_l20Of_cc hT hp.1 hp.2) ?_)
      rw [Tr.val_ok]
      exact congrArg some (spec_l20Of_vv C T hp.1)
noncomputable def spec_ChunkOf_S : List Arg → Option (Bool × Res) := fun xs => match xs with
  | [(false, [(.slice 2, TC.l D)]), (false, [(.slice 2, TC.l C)]), (false, [(.slice 2, TC.l T)])] => some ((spec_ChunkOf_c D C T), spec_ChunkOf_mk (spec_ChunkOf_v D C T))
  | _ => .none
theorem spec_ChunkOf_e (D : List (List TC)) (C : List (List TC)) (T : List (List TC)) : runF tab FT D10 live 25 noLoops [(false, [(.slice 2, TC.l D)]), (false, [(.slice 2, TC.l C)]), (false, [(.slice 2, TC.l T)])] = (spec_ChunkOf_t D C T).run fun p => some (spec_ChunkOf_mk p) := by kernel_rfl
theorem spec_ChunkOf_s : ∀ xs r, spec_ChunkOf_S xs = some (true, r) → runF tab FT D10 live 25 noLoops xs = some r := by
  intro xs r h
  unfold spec_ChunkOf_S at h
  split at h
  · simp only [Option.some.injEq, Prod.mk.injEq] at h
    obtain ⟨h1, rfl⟩ := h
    exact fun_told (spec_ChunkOf_e _ _ _) (spec_ChunkOf_l _ _ _) h1
  · cases h
noncomputable def D11 : Dt := also D10 25 spec_ChunkOf_S
theorem d11 : DOk Go.Proofs.Try.prog tab D11 := d10.also mixed_ok tab_ok names_ok noLoops_ok spec_ChunkOf_s
theorem spec_ChunkOf_vv (D C T : List (List TC)) : spec_ChunkOf_v D C T = chunkOfV D C T := hid_eq _
/-! impl_within -/
noncomputable def impl_within_t (a0 : Int) (a1 : Int) (a2 : Int) : Tr (Bool) := (.ite ((decide (a0 ≥ a1)) = true) (.ok (decide (a0 ≤ a2)))
  (.ok false))
def impl_within_mk (p : Bool) : Res := [(false, [⟨.bool, .sh, TC.b p⟩])]
noncomputable def impl_within_c (a0 : Int) (a1 : Int) (a2 : Int) : Bool := true
noncomputable def impl_within_v (a0 : Int) (a1 : Int) (a2 : Int) : Bool := (bif (decide (a0 ≥ a1)) then (decide (a0 ≤ a2)) else false)
theorem impl_within_l (a0 : Int) (a1 : Int) (a2 : Int) : (impl_within_c a0 a1 a2) = true → (impl_within_t a0 a1 a2).val = some (impl_within_v a0 a1 a2) := by
  intro h
  skip
  unfold impl_within_t impl_within_v
  exact (Tr.s rfl rfl)
noncomputable def impl_within_S : List Arg → Option (Bool × Res) := fun xs => match xs with
  | [(false, [(.int .i64, TC.i a0)]), (false, [(.int .i64, TC.i a1)]), (false, [(.int .i64, TC.i a2)])] => some (true, impl_within_mk (impl_within_v a0 a1 a2))
  | _ => .none
theorem impl_within_e (a0 : Int) (a1 : Int) (a2 : Int) : runF tab FT D11 live 112 noLoops [(false, [(.int .i64, TC.i a0)]), (false, [(.int .i64, TC.i a1)]), (false, [(.int .i64, TC.i a2)])] = (impl_within_t a0 a1 a2).run fun p => some (impl_within_mk p) := by kernel_rfl
theorem impl_within_s : ∀ xs r, impl_within_S xs = some (true, r) → runF tab FT D11 live 112 noLoops xs = some r := by
  intro xs r h
  unfold impl_within_S at h
  split at h
  · simp only [Option.some.injEq, Prod.mk.injEq] at h
    obtain ⟨h1, rfl⟩ := h
    exact fun_told (impl_within_e _ _ _) (impl_within_l _ _ _) rfl
  · cases h
noncomputable def D12 : Dt := also D11 112 impl_within_S
theorem d12 : DOk Go.Proofs.Try.prog tab D12 := d11.also mixed_ok tab_ok names_ok noLoops_ok impl_within_s
/-! impl_allWithin_1 -/
noncomputable def impl_allWithin_1_t (a0 : Int) (a1 : List TC) (a2 : List TC) : Tr (Bool) := .ok (!(impl_within_v a0 ((nth a1 0).int) ((nth a2 0).int)))
def impl_allWithin_1_mk (p : Bool) : Res := [(false, [⟨.bool, .sh, TC.b p⟩])]
noncomputable def impl_allWithin_1_c (a0 : Int) (a1 : List TC) (a2 : List TC) : Bool := true
noncomputable def impl_allWithin_1_v (a0 : Int) (a1 : List TC) (a2 : List TC) : Bool := (!(impl_within_v a0 ((nth a1 0).int) ((nth a2 0).int)))
theorem impl_allWithin_1_l (a0 : Int) (a1 : List TC) (a2 : List TC) : (impl_allWithin_1_c a0 a1 a2) = true → (impl_allWithin_1_t a0 a1 a2).val = some (impl_allWithin_1_v a0 a1 a2) := by
  intro h
  skip
  unfold impl_allWithin_1_t impl_allWithin_1_v
  exact rfl
noncomputable def impl_allWithin_1_S : List Arg → Option (Bool × Res) := fun xs => match xs with
  | [(false, [(.int .i64, TC.i a0)]), (false, [(.ptr 2, TC.p a1)]), (false, [(.ptr 2, TC.p a2)])] => some (true, impl_allWithin_1_mk (impl_allWithin_1_v a0 a1 a2))
  | _ => .none
theorem impl_allWithin_1_e (a0 : Int) (a1 : List TC) (a2 : List TC) : runF tab FT D12 live 125 noLoops [(false, [(.int .i64, TC.i a0)]), (false, [(.ptr 2, TC.p a1)]), (false, [(.ptr 2, TC.p a2)])] = (impl_allWithin_1_t a0 a1 a2).run fun p => some (impl_allWithin_1_mk p) := by kernel_rfl
theorem impl_allWithin_1_s : ∀ xs r, impl_allWithin_1_S xs = some (true, r) → runF tab FT D12 live 125 noLoops xs = some r := by
  intro xs r h
  unfold impl_allWithin_1_S at h
  split at h
  · simp only [Option.some.injEq, Prod.mk.injEq] at h
    obtain ⟨h1, rfl⟩ := h
    exact fun_told (impl_allWithin_1_e _ _ _) (impl_allWithin_1_l _ _ _) rfl
  · cases h
noncomputable def D13 : Dt := also D12 125 impl_allWithin_1_S
theorem d13 : DOk Go.Proofs.Try.prog tab D13 := d12.also mixed_ok tab_ok names_ok noLoops_ok impl_allWithin_1_s
/-! slices_IndexFunc_int64_int64 -/
abbrev slices_IndexFunc_int64_int64_2_σ := List (List TC) × List TC × List TC × Int × Int
abbrev slices_IndexFunc_int64_int64_2_ω := (Int) ⊕ (Unit)
noncomputable def slices_IndexFunc_int64_int64_2_step (A : List (List TC)) (lw : List TC) (hg : List TC) (m : Int) (i : Int) : Tr (slices_IndexFunc_int64_int64_2_σ ⊕ slices_IndexFunc_int64_int64_2_ω) := (.ite ((decide (i < m)) = true) (.ite ((0 : Int) ≤ i ∧ i < (A.length : Int)) (.ite ((!(impl_within_v ((nth (row A i) 0).int) ((nth lw 0).int) ((nth hg 0).int))) = true) (.ok (.inr (.inl i)))
    (.ok (.inl (A, lw, hg, m, (IntKind.wrap .i64 (i + (1 : Int)))))))
   .no)
  (.ok (.inr (.inr ()))))
noncomputable def slices_IndexFunc_int64_int64_2_st : slices_IndexFunc_int64_int64_2_σ → Tr (slices_IndexFunc_int64_int64_2_σ ⊕ slices_IndexFunc_int64_int64_2_ω) := fun x => (slices_IndexFunc_int64_int64_2_step (x.1) (x.2.1) (x.2.2.1) (x.2.2.2.1) (x.2.2.2.2))
noncomputable def slices_IndexFunc_int64_int64_k2_1 (A : List (List TC)) (lw : List TC) (hg : List TC) (m : Int) (i : Int) : Bool := A.all (inR (nth lw 0).int (nth hg 0).int)
noncomputable def slices_IndexFunc_int64_int64_o2_2 (A : List (List TC)) (lw : List TC) (hg : List TC) (m : Int) (i : Int) : Bool := is (i = 0 ∧ Typed tab (.slice 2) (.l A) ∧ m = (A.length : Int))
noncomputable def slices_IndexFunc_int64_int64_o2_3 (A : List (List TC)) (lw : List TC) (hg : List TC) (m : Int) (i : Int) : Bool := is (i = 0 ∧ Typed tab (.slice 2) (.l A) ∧ m = (A.length : Int))
noncomputable def slices_IndexFunc_int64_int64_u2_3 (A : List (List TC)) (lw : List TC) (hg : List TC) (m : Int) (i : Int) : Int := (Int.ofNat (A.findIdx fun x => !(inR (nth lw 0).int (nth hg 0).int) x))
noncomputable def slices_IndexFunc_int64_int64_2_fin (A : List (List TC)) (lw : List TC) (hg : List TC) (m : Int) (i : Int) : Told slices_IndexFunc_int64_int64_2_ω := (.br (slices_IndexFunc_int64_int64_k2_1 A lw hg m i) (.leaf (slices_IndexFunc_int64_int64_o2_2 A lw hg m i) (.inr ())) (.leaf (slices_IndexFunc_int64_int64_o2_3 A lw hg m i) (.inl (slices_IndexFunc_int64_int64_u2_3 A lw hg m i))))
def slices_IndexFunc_int64_int64_2_sl (x : slices_IndexFunc_int64_int64_2_σ) : List Slot := [⟨.val false [⟨.slice 2, .sh, TC.l (x.1)⟩], ⟨0, 0⟩⟩, ⟨.val false [⟨.func, .sh, TC.f 125 [(2, x.2.1), (2, x.2.2.1)]⟩], ⟨0, 0⟩⟩, ⟨.val false [⟨.int .i64, .sh, TC.i (x.2.2.2.1)⟩], ⟨0, 0⟩⟩, ⟨.val false [⟨.int .i64, .sh, TC.i (x.2.2.2.2)⟩], ⟨0, 0⟩⟩]
def slices_IndexFunc_int64_int64_2_out : slices_IndexFunc_int64_int64_2_ω → Ex × List Slot := (Sum.elim (fun x => (.ret, [⟨.val false [⟨.int .i64, .sh, TC.i x⟩], ⟨0, 0⟩⟩])) (fun x => (.exit 0, [Slot.none])))
noncomputable def slices_IndexFunc_int64_int64_lo2 : List Slot → Option (Told (Ex × List Slot)) := fun s => match s with
  | [⟨.val false [⟨.slice 2, .sh, TC.l A⟩], ⟨0, 0⟩⟩, ⟨.val false [⟨.func, .sh, TC.f 125 [(2, lw), (2, hg)]⟩], ⟨0, 0⟩⟩, ⟨.val false [⟨.int .i64, .sh, TC.i m⟩], ⟨0, 0⟩⟩, ⟨.val false [⟨.int .i64, .sh, TC.i i⟩], ⟨0, 0⟩⟩] => some (((slices_IndexFunc_int64_int64_2_fin A lw hg m i)).map slices_IndexFunc_int64_int64_2_out)
  | _ => .none
noncomputable def slices_IndexFunc_int64_int64_lo : LoopTeller := fun r s => bif Nat.beq r 2 then slices_IndexFunc_int64_int64_lo2 s else .none
theorem slices_IndexFunc_int64_int64_2_r (A : List (List TC)) (lw : List TC) (hg : List TC) (m : Int) (i : Int) (fuel : Nat) : rounds (rnd tab FT D13 live 144 slices_IndexFunc_int64_int64_lo 0 2) leave (fuel + 1) (slices_IndexFunc_int64_int64_2_sl (A, lw, hg, m, i)) = ((slices_IndexFunc_int64_int64_2_step A lw hg m i)).run (goOn (fun s => rounds (rnd tab FT D13 live 144 slices_IndexFunc_int64_int64_lo 0 2) leave fuel (slices_IndexFunc_int64_int64_2_sl s)) fun w => some (slices_IndexFunc_int64_int64_2_out w)) := by kernel_rfl
theorem slices_IndexFunc_int64_int64_2_h (A : List (List TC)) (lw : List TC) (hg : List TC) (m : Int) (i : Int) (ow : slices_IndexFunc_int64_int64_2_ω) : ((slices_IndexFunc_int64_int64_2_fin A lw hg m i)).val = some ow → ∃ fuel, loopN slices_IndexFunc_int64_int64_2_st fuel (A, lw, hg, m, i) = some ow := by
  intro h
  have key : Typed tab (.slice 2) (.l A) → loopN slices_IndexFunc_int64_int64_2_st (A.length + 1) (A, lw, hg, (A.length : Int), (0 : Int)) = some (if A.all (inR (nth lw 0).int (nth hg 0).int) = true then (.inr ()) else (.inl (Int.ofNat (A.findIdx fun x => !(inR (nth lw 0).int (nth hg 0).int) x)))) := by
    intro ht
    have hlen : A.length ≤ 140737488351232 := by have := typed_room ht; simp only [show (tab 2).bytes = 8 from rfl] at this; omega
    have key := loopN_scan (step := slices_IndexFunc_int64_int64_2_st) A [] (inR (nth lw 0).int (nth hg 0).int) (fun a _ => a) (fun i a => (A, lw, hg, (A.length : Int), (i : Int))) (fun a => (.inr ())) (fun i a => (.inl (i : Int))) (fun i a hi => ?_) (fun a => ?_) A.length 0 () (by omega)
    · first | (rw [Nat.zero_add] at key; exact key) | exact key
    · skip
      show (slices_IndexFunc_int64_int64_2_step A lw hg (A.length : Int) (i : Int)).val = _
      unfold slices_IndexFunc_int64_int64_2_step
      refine Tr.t (by simp; omega) ?_
      skip
      refine Tr.t (by first | omega | (constructor <;> omega)) ?_
      refine Tr.b (P := (inR (nth lw 0).int (nth hg 0).int) (A.getD i [])) (fun hP => ?_) (fun _ => rfl)
      rw [Tr.val_ok, wrap64 (i := (i : Int) + 1) (by omega) (by omega)]; rfl
    · show (slices_IndexFunc_int64_int64_2_step A lw hg (A.length : Int) (A.length : Int)).val = _
      refine Tr.n (by simp) ?_
      rfl
  simp only [slices_IndexFunc_int64_int64_2_fin, Told.val] at h
  cases hk : A.all (inR (nth lw 0).int (nth hg 0).int) with
  | true =>
    rw [if_pos (show slices_IndexFunc_int64_int64_k2_1 A lw hg m i = true from hk)] at h
    split at h
    · rename_i ho
      obtain ⟨rfl, ht, rfl⟩ := is_iff.1 ho
      cases h
      refine ⟨_, (key ht).trans ?_⟩
      rw [hk]; rfl
    · cases h
  | false =>
    rw [if_neg (show ¬slices_IndexFunc_int64_int64_k2_1 A lw hg m i = true from by rw [show slices_IndexFunc_int64_int64_k2_1 A lw hg m i = (A.all (inR (nth lw 0).int (nth hg 0).int)) from rfl, hk]; simp)] at h
    split at h
    · rename_i ho
      obtain ⟨rfl, ht, rfl⟩ := is_iff.1 ho
      cases h
      refine ⟨_, (key ht).trans ?_⟩
      rw [hk]; rfl
    · cases h
theorem slices_IndexFunc_int64_int64_is2 : LoopIs tab FT D13 live 144 slices_IndexFunc_int64_int64_lo 0 2 := by
  refine loop_told (sl := slices_IndexFunc_int64_int64_2_sl) (step := slices_IndexFunc_int64_int64_2_st) (out := slices_IndexFunc_int64_int64_2_out) (lor := slices_IndexFunc_int64_int64_lo2) (fin := fun x => (slices_IndexFunc_int64_int64_2_fin (x.1) (x.2.1) (x.2.2.1) (x.2.2.2.1) (x.2.2.2.2))) (fun _ => rfl) ?_ (fun x n => slices_IndexFunc_int64_int64_2_r x.1 x.2.1 x.2.2.1 x.2.2.2.1 x.2.2.2.2 n) (fun x ow => slices_IndexFunc_int64_int64_2_h x.1 x.2.1 x.2.2.1 x.2.2.2.1 x.2.2.2.2 ow)
  intro s t h
  unfold slices_IndexFunc_int64_int64_lo2 at h
  split at h
  · cases h; exact ⟨(_, _, _, _, _), rfl, rfl⟩
  · cases h
noncomputable def slices_IndexFunc_int64_int64_t (A : List (List TC)) (lw : List TC) (hg : List TC) : Tr (Int) := (.ite ((slices_IndexFunc_int64_int64_k2_1 A lw hg (A.length : Int) (0 : Int)) = true) (.ite ((slices_IndexFunc_int64_int64_o2_2 A lw hg (A.length : Int) (0 : Int)) = true) (.ok (-1 : Int))
   .no)
  (.ite ((slices_IndexFunc_int64_int64_o2_3 A lw hg (A.length : Int) (0 : Int)) = true) (.ok (slices_IndexFunc_int64_int64_u2_3 A lw hg (A.length : Int) (0 : Int)))
   .no))
def slices_IndexFunc_int64_int64_mk (p : Int) : Res := [(false, [⟨.int .i64, .sh, TC.i p⟩])]
noncomputable def slices_IndexFunc_int64_int64_c (A : List (List TC)) (lw : List TC) (hg : List TC) : Bool := is (Typed tab (.slice 2) (.l A))
noncomputable def slices_IndexFunc_int64_int64_v (A : List (List TC)) (lw : List TC) (hg : List TC) : Int := if (A.all (inR (nth lw 0).int (nth hg 0).int)) = true then -1 else (Int.ofNat (A.findIdx fun x => !(inR (nth lw 0).int (nth hg 0).int) x))
theorem slices_IndexFunc_int64_int64_l (A : List (List TC)) (lw : List TC) (hg : List TC) : (slices_IndexFunc_int64_int64_c A lw hg) = true → (slices_IndexFunc_int64_int64_t A lw hg).val = some (slices_IndexFunc_int64_int64_v A lw hg) := by
  intro h
  have ht := is_iff.1 h
  unfold slices_IndexFunc_int64_int64_t
  cases hk : A.all (inR (nth lw 0).int (nth hg 0).int) with
  | true =>
    refine Tr.t (show A.all (inR (nth lw 0).int (nth hg 0).int) = true from hk) ?_
    refine Tr.t (by first | (apply is_true; and_intros <;> (first | rfl | assumption | (apply spec_l20Ok_cc <;> assumption) | (apply spec_l05Inside_cc <;> assumption) | (apply spec_l20Of_cc <;> assumption) | (first | (apply is_true; and_intros <;> (first | rfl | assumption | (apply spec_l20Ok_cc <;> assumption) | (apply spec_l05Inside_cc <;> assumption) | (apply spec_l20Of_cc <;> assumption) | (first | (apply is_true; and_intros <;> (first | rfl | assumption | (apply spec_l20Ok_cc <;> assumption) | (apply spec_l05Inside_cc <;> assumption) | (apply spec_l20Of_cc <;> assumption) | (first | (apply is_true; and_intros <;> (first | rfl | assumption | (apply spec_l20Ok_cc <;> assumption) | (apply spec_l05Inside_cc <;> assumption) | (apply spec_l20Of_cc <;> assumption))) | (apply spec_l20Ok_cc <;> assumption) | (apply spec_l05Inside_cc <;> assumption) | (apply spec_l20Of_cc <;> assumption)))) | (apply spec_l20Ok_cc <;> assumption) | (apply spec_l05Inside_cc <;> assumption) | (apply spec_l20Of_cc <;> assumption)))) | (apply spec_l20Ok_cc <;> assumption) | (apply spec_l05Inside_cc <;> assumption) | (apply spec_l20Of_cc <;> assumption)))) | (apply spec_l20Ok_cc <;> assumption) | (apply spec_l05Inside_cc <;> assumption) | (apply spec_l20Of_cc <;> assumption)) ?_
    show _ = some (slices_IndexFunc_int64_int64_v A lw hg); unfold slices_IndexFunc_int64_int64_v; rw [if_pos hk]; rfl
  | false =>
    refine Tr.n (show ¬A.all (inR (nth lw 0).int (nth hg 0).int) = true from by rw [hk]; simp) ?_
    refine Tr.t (by first | (apply is_true; and_intros <;> (first | rfl | assumption | (apply spec_l20Ok_cc <;> assumption) | (apply spec_l05Inside_cc <;> assumption) | (apply spec_l20Of_cc <;> assumption) | (first | (apply is_true; and_intros <;> (first | rfl | assumption | (apply spec_l20Ok_cc <;> assumption) | (apply spec_l05Inside_cc <;> assumption) | (apply spec_l20Of_cc <;> assumption) | (first | (apply is_true; and_intros <;> (first | rfl | assumption | (apply spec_l20Ok_cc <;> assumption) | (apply spec_l05Inside_cc <;> assumption) | (apply spec_l20Of_cc <;> assumption) | (first | (apply is_true; and_intros <;> (first | rfl | assumption | (apply spec_l20Ok_cc <;> assumption) | (apply spec_l05Inside_cc <;> assumption) | (apply spec_l20Of_cc <;> assumption))) | (apply spec_l20Ok_cc <;> assumption) | (apply spec_l05Inside_cc <;> assumption) | (apply spec_l20Of_cc <;> assumption)))) | (apply spec_l20Ok_cc <;> assumption) | (apply spec_l05Inside_cc <;> assumption) | (apply spec_l20Of_cc <;> assumption)))) | (apply spec_l20Ok_cc <;> assumption) | (apply spec_l05Inside_cc <;> assumption) | (apply spec_l20Of_cc <;> assumption)))) | (apply spec_l20Ok_cc <;> assumption) | (apply spec_l05Inside_cc <;> assumption) | (apply spec_l20Of_cc <;> assumption)) ?_
    show _ = some (slices_IndexFunc_int64_int64_v A lw hg); unfold slices_IndexFunc_int64_int64_v; rw [if_neg (by rw [hk]; simp)]; rfl
noncomputable def slices_IndexFunc_int64_int64_S : List Arg → Option (Bool × Res) := fun xs => match xs with
  | [(false, [(.slice 2, TC.l A)]), (false, [(.func, TC.f 125 [(2, lw), (2, hg)])])] => some ((slices_IndexFunc_int64_int64_c A lw hg), slices_IndexFunc_int64_int64_mk (slices_IndexFunc_int64_int64_v A lw hg))
  | _ => .none
theorem slices_IndexFunc_int64_int64_e (A : List (List TC)) (lw : List TC) (hg : List TC) : runF tab FT D13 live 144 slices_IndexFunc_int64_int64_lo [(false, [(.slice 2, TC.l A)]), (false, [(.func, TC.f 125 [(2, lw), (2, hg)])])] = (slices_IndexFunc_int64_int64_t A lw hg).run fun p => some (slices_IndexFunc_int64_int64_mk p) := by kernel_rfl
theorem slices_IndexFunc_int64_int64_s : ∀ xs r, slices_IndexFunc_int64_int64_S xs = some (true, r) → runF tab FT D13 live 144 slices_IndexFunc_int64_int64_lo xs = some r := by
  intro xs r h
  unfold slices_IndexFunc_int64_int64_S at h
  split at h
  · simp only [Option.some.injEq, Prod.mk.injEq] at h
    obtain ⟨h1, rfl⟩ := h
    exact fun_told (slices_IndexFunc_int64_int64_e _ _ _) (slices_IndexFunc_int64_int64_l _ _ _) h1
  · cases h
noncomputable def D14 : Dt := also D13 144 slices_IndexFunc_int64_int64_S
theorem d14 : DOk Go.Proofs.Try.prog tab D14 := d13.also mixed_ok tab_ok names_ok (fnLoops_one (by kernel_rfl) slices_IndexFunc_int64_int64_is2) slices_IndexFunc_int64_int64_s
/-! slices_ContainsFunc_int64_int64 -/
noncomputable def slices_ContainsFunc_int64_int64_t (A : List (List TC)) (lw : List TC) (hg : List TC) : Tr (Bool) := (.ite ((slices_IndexFunc_int64_int64_c A lw hg) = true) (.ok (decide ((slices_IndexFunc_int64_int64_v A lw hg) ≥ (0 : Int))))
  .no)
def slices_ContainsFunc_int64_int64_mk (p : Bool) : Res := [(false, [⟨.bool, .sh, TC.b p⟩])]
noncomputable def slices_ContainsFunc_int64_int64_c (A : List (List TC)) (lw : List TC) (hg : List TC) : Bool := is (Typed tab (.slice 2) (.l A))
noncomputable def slices_ContainsFunc_int64_int64_v (A : List (List TC)) (lw : List TC) (hg : List TC) : Bool := !(A.all (inR (nth lw 0).int (nth hg 0).int))
theorem slices_ContainsFunc_int64_int64_l (A : List (List TC)) (lw : List TC) (hg : List TC) : (slices_ContainsFunc_int64_int64_c A lw hg) = true → (slices_ContainsFunc_int64_int64_t A lw hg).val = some (slices_ContainsFunc_int64_int64_v A lw hg) := by
  intro h
  have ht := is_iff.1 h
  unfold slices_ContainsFunc_int64_int64_t
  refine Tr.t (by first | (apply is_true; and_intros <;> (first | rfl | assumption | (apply spec_l20Ok_cc <;> assumption) | (apply spec_l05Inside_cc <;> assumption) | (apply spec_l20Of_cc <;> assumption) | (first | (apply is_true; and_intros <;> (first | rfl | assumption | (apply spec_l20Ok_cc <;> assumption) | (apply spec_l05Inside_cc <;> assumption) | (apply spec_l20Of_cc <;> assumption) | (first | (apply is_true; and_intros <;> (first | rfl | assumption | (apply spec_l20Ok_cc <;> assumption) | (apply spec_l05Inside_cc <;> assumption) | (apply spec_l20Of_cc <;> assumption) | (first | (apply is_true; and_intros <;> (first | rfl | assumption | (apply spec_l20Ok_cc <;> assumption) | (apply spec_l05Inside_cc <;> assumption) | (apply spec_l20Of_cc <;> assumption))) | (apply spec_l20Ok_cc <;> assumption) | (apply spec_l05Inside_cc <;> assumption) | (apply spec_l20Of_cc <;> assumption)))) | (apply spec_l20Ok_cc <;> assumption) | (apply spec_l05Inside_cc <;> assumption) | (apply spec_l20Of_cc <;> assumption)))) | (apply spec_l20Ok_cc <;> assumption) | (apply spec_l05Inside_cc <;> assumption) | (apply spec_l20Of_cc <;> assumption)))) | (apply spec_l20Ok_cc <;> assumption) | (apply spec_l05Inside_cc <;> assumption) | (apply spec_l20Of_cc <;> assumption)) ?_
  show some (decide (slices_IndexFunc_int64_int64_v A lw hg ≥ 0)) = some (!(A.all (inR (nth lw 0).int (nth hg 0).int)))
  unfold slices_IndexFunc_int64_int64_v
  cases hk : A.all (inR (nth lw 0).int (nth hg 0).int) <;> simp
noncomputable def slices_ContainsFunc_int64_int64_S : List Arg → Option (Bool × Res) := fun xs => match xs with
  | [(false, [(.slice 2, TC.l A)]), (false, [(.func, TC.f 125 [(2, lw), (2, hg)])])] => some ((slices_ContainsFunc_int64_int64_c A lw hg), slices_ContainsFunc_int64_int64_mk (slices_ContainsFunc_int64_int64_v A lw hg))
  | _ => .none
theorem slices_ContainsFunc_int64_int64_e (A : List (List TC)) (lw : List TC) (hg : List TC) : runF tab FT D14 live 124 noLoops [(false, [(.slice 2, TC.l A)]), (false, [(.func, TC.f 125 [(2, lw), (2, hg)])])] = (slices_ContainsFunc_int64_int64_t A lw hg).run fun p => some (slices_ContainsFunc_int64_int64_mk p) := by kernel_rfl
theorem slices_ContainsFunc_int64_int64_s : ∀ xs r, slices_ContainsFunc_int64_int64_S xs = some (true, r) → runF tab FT D14 live 124 noLoops xs = some r := by
  intro xs r h
  unfold slices_ContainsFunc_int64_int64_S at h
  split at h
  · simp only [Option.some.injEq, Prod.mk.injEq] at h
    obtain ⟨h1, rfl⟩ := h
    exact fun_told (slices_ContainsFunc_int64_int64_e _ _ _) (slices_ContainsFunc_int64_int64_l _ _ _) h1
  · cases h
noncomputable def D15 : Dt := also D14 124 slices_ContainsFunc_int64_int64_S
theorem d15 : DOk Go.Proofs.Try.prog tab D15 := d14.also mixed_ok tab_ok names_ok noLoops_ok slices_ContainsFunc_int64_int64_s
/-! impl_allWithin -/
noncomputable def impl_allWithin_t (a0 : List (List TC)) (a1 : Int) (a2 : Int) : Tr (Bool) := (.ite ((slices_ContainsFunc_int64_int64_c a0 [TC.i a1] [TC.i a2]) = true) (.ok (!(slices_ContainsFunc_int64_int64_v a0 [TC.i a1] [TC.i a2])))
  .no)
def impl_allWithin_mk (p : Bool) : Res := [(false, [⟨.bool, .sh, TC.b p⟩])]
noncomputable def impl_allWithin_c (a0 : List (List TC)) (a1 : Int) (a2 : Int) : Bool := (slices_ContainsFunc_int64_int64_c a0 [TC.i a1] [TC.i a2])
noncomputable def impl_allWithin_v (a0 : List (List TC)) (a1 : Int) (a2 : Int) : Bool := (!(slices_ContainsFunc_int64_int64_v a0 [TC.i a1] [TC.i a2]))
theorem impl_allWithin_l (a0 : List (List TC)) (a1 : Int) (a2 : Int) : (impl_allWithin_c a0 a1 a2) = true → (impl_allWithin_t a0 a1 a2).val = some (impl_allWithin_v a0 a1 a2) := by
  intro h
  have hc0 : (slices_ContainsFunc_int64_int64_c a0 [TC.i a1] [TC.i a2]) = true := h
  unfold impl_allWithin_t
  exact (Tr.t hc0 rfl)
noncomputable def impl_allWithin_S : List Arg → Option (Bool × Res) := fun xs => match xs with
  | [(false, [(.slice 2, TC.l a0)]), (false, [(.int .i64, TC.i a1)]), (false, [(.int .i64, TC.i a2)])] => some ((impl_allWithin_c a0 a1 a2), impl_allWithin_mk (impl_allWithin_v a0 a1 a2))
  | _ => .none
theorem impl_allWithin_e (a0 : List (List TC)) (a1 : Int) (a2 : Int) : runF tab FT D15 live 82 noLoops [(false, [(.slice 2, TC.l a0)]), (false, [(.int .i64, TC.i a1)]), (false, [(.int .i64, TC.i a2)])] = (impl_allWithin_t a0 a1 a2).run fun p => some (impl_allWithin_mk p) := by kernel_rfl
theorem impl_allWithin_s : ∀ xs r, impl_allWithin_S xs = some (true, r) → runF tab FT D15 live 82 noLoops xs = some r := by
  intro xs r h
  unfold impl_allWithin_S at h
  split at h
  · simp only [Option.some.injEq, Prod.mk.injEq] at h
    obtain ⟨h1, rfl⟩ := h
    exact fun_told (impl_allWithin_e _ _ _) (impl_allWithin_l _ _ _) h1
  · cases h
noncomputable def D16 : Dt := also D15 82 impl_allWithin_S
theorem d16 : DOk Go.Proofs.Try.prog tab D16 := d15.also mixed_ok tab_ok names_ok noLoops_ok impl_allWithin_s
/-! impl_product -/
abbrev impl_product_3_σ := Int × List (List TC) × Int × Int
abbrev impl_product_3_ω := (Int)
noncomputable def impl_product_3_step (n : Int) (A : List (List TC)) (m : Int) (i : Int) : Tr (impl_product_3_σ ⊕ impl_product_3_ω) := (.ite ((decide (i < m)) = true) (.ite ((0 : Int) ≤ i ∧ i < (A.length : Int)) (.ok (.inl ((IntKind.wrap .i64 (n * (nth (row A i) 0).int)), A, m, (IntKind.wrap .i64 (i + (1 : Int))))))
   .no)
  (.ok (.inr n)))
noncomputable def impl_product_3_st : impl_product_3_σ → Tr (impl_product_3_σ ⊕ impl_product_3_ω) := fun x => (impl_product_3_step (x.1) (x.2.1) (x.2.2.1) (x.2.2.2))
noncomputable def impl_product_o3_1 (n : Int) (A : List (List TC)) (m : Int) (i : Int) : Bool := is (i = 0 ∧ n = 1 ∧ Typed tab (.slice 2) (.l A) ∧ m = (A.length : Int))
noncomputable def impl_product_u3_1 (n : Int) (A : List (List TC)) (m : Int) (i : Int) : Int := (A.foldl mulR (1 : Int))
noncomputable def impl_product_3_fin (n : Int) (A : List (List TC)) (m : Int) (i : Int) : Told impl_product_3_ω := (.leaf (impl_product_o3_1 n A m i) (impl_product_u3_1 n A m i))
def impl_product_3_sl (x : impl_product_3_σ) : List Slot := [⟨.val false [⟨.int .i64, .sh, TC.i (x.1)⟩], ⟨0, 0⟩⟩, ⟨.val false [⟨.slice 2, .sh, TC.l (x.2.1)⟩], ⟨0, 0⟩⟩, ⟨.val false [⟨.int .i64, .sh, TC.i (x.2.2.1)⟩], ⟨0, 0⟩⟩, ⟨.val false [⟨.int .i64, .sh, TC.i (x.2.2.2)⟩], ⟨0, 0⟩⟩]
def impl_product_3_out : impl_product_3_ω → Ex × List Slot := (fun x => (.exit 0, [Slot.none, ⟨.val false [⟨.int .i64, .sh, TC.i x⟩], ⟨0, 0⟩⟩]))
noncomputable def impl_product_lo3 : List Slot → Option (Told (Ex × List Slot)) := fun s => match s with
  | [⟨.val false [⟨.int .i64, .sh, TC.i n⟩], ⟨0, 0⟩⟩, ⟨.val false [⟨.slice 2, .sh, TC.l A⟩], ⟨0, 0⟩⟩, ⟨.val false [⟨.int .i64, .sh, TC.i m⟩], ⟨0, 0⟩⟩, ⟨.val false [⟨.int .i64, .sh, TC.i i⟩], ⟨0, 0⟩⟩] => some (((impl_product_3_fin n A m i)).map impl_product_3_out)
  | _ => .none
noncomputable def impl_product_lo : LoopTeller := fun r s => bif Nat.beq r 3 then impl_product_lo3 s else .none
theorem impl_product_3_r (n : Int) (A : List (List TC)) (m : Int) (i : Int) (fuel : Nat) : rounds (rnd tab FT D16 live 83 impl_product_lo 0 3) leave (fuel + 1) (impl_product_3_sl (n, A, m, i)) = ((impl_product_3_step n A m i)).run (goOn (fun s => rounds (rnd tab FT D16 live 83 impl_product_lo 0 3) leave fuel (impl_product_3_sl s)) fun w => some (impl_product_3_out w)) := by kernel_rfl
theorem impl_product_3_h (n : Int) (A : List (List TC)) (m : Int) (i : Int) (ow : impl_product_3_ω) : ((impl_product_3_fin n A m i)).val = some ow → ∃ fuel, loopN impl_product_3_st fuel (n, A, m, i) = some ow := by
  intro h
  have key : Typed tab (.slice 2) (.l A) → loopN impl_product_3_st (A.length + 1) ((1 : Int), A, (A.length : Int), (0 : Int)) = some ((A.foldl mulR (1 : Int))) := by
    intro ht
    have hlen : A.length ≤ 140737488351232 := by have := typed_room ht; simp only [show (tab 2).bytes = 8 from rfl] at this; omega
    have key := loopN_scan (step := impl_product_3_st) A [] (fun _ => true) mulR (fun i a => (a, A, (A.length : Int), (i : Int))) (fun a => a) (fun i a => a) (fun i a hi => ?_) (fun a => ?_) A.length 0 (1 : Int) (by omega)
    · first | (rw [Nat.zero_add] at key; exact key) | exact key | (simpa using key)
    · skip
      show (impl_product_3_step a A (A.length : Int) (i : Int)).val = _
      unfold impl_product_3_step
      refine Tr.t (by simp; omega) ?_
      show _ = some _
      refine Tr.t (by first | omega | (constructor <;> omega)) ?_
      rw [Tr.val_ok, wrap64 (i := (i : Int) + 1) (by omega) (by omega)]; rfl
    · show (impl_product_3_step a A (A.length : Int) (A.length : Int)).val = _
      refine Tr.n (by simp) ?_
      rfl
  simp only [impl_product_3_fin, Told.val] at h
  split at h
  · rename_i ho
    obtain ⟨rfl, rfl, ht, rfl⟩ := is_iff.1 ho
    cases h
    exact ⟨_, key ht⟩
  · cases h
theorem impl_product_is3 : LoopIs tab FT D16 live 83 impl_product_lo 0 3 := by
  refine loop_told (sl := impl_product_3_sl) (step := impl_product_3_st) (out := impl_product_3_out) (lor := impl_product_lo3) (fin := fun x => (impl_product_3_fin (x.1) (x.2.1) (x.2.2.1) (x.2.2.2))) (fun _ => rfl) ?_ (fun x n => impl_product_3_r x.1 x.2.1 x.2.2.1 x.2.2.2 n) (fun x ow => impl_product_3_h x.1 x.2.1 x.2.2.1 x.2.2.2 ow)
  intro s t h
  unfold impl_product_lo3 at h
  split at h
  · cases h; exact ⟨(_, _, _, _), rfl, rfl⟩
  · cases h
noncomputable def impl_product_t (A : List (List TC)) : Tr (Int) := (.ite ((impl_product_o3_1 (1 : Int) A (A.length : Int) (0 : Int)) = true) (.ok (impl_product_u3_1 (1 : Int) A (A.length : Int) (0 : Int)))
  .no)
def impl_product_mk (p : Int) : Res := [(false, [⟨.int .i64, .sh, TC.i p⟩])]
noncomputable def impl_product_c (A : List (List TC)) : Bool := (impl_product_o3_1 (1 : Int) A (A.length : Int) (0 : Int))
noncomputable def impl_product_v (A : List (List TC)) : Int := (impl_product_u3_1 (1 : Int) A (A.length : Int) (0 : Int))
theorem impl_product_l (A : List (List TC)) : (impl_product_c A) = true → (impl_product_t A).val = some (impl_product_v A) := by
  intro h
  have hc0 : (impl_product_o3_1 (1 : Int) A (A.length : Int) (0 : Int)) = true := h
  unfold impl_product_t
  exact (Tr.t hc0 rfl)
noncomputable def impl_product_S : List Arg → Option (Bool × Res) := fun xs => match xs with
  | [(false, [(.slice 2, TC.l A)])] => some ((impl_product_c A), impl_product_mk (impl_product_v A))
  | _ => .none
theorem impl_product_e (A : List (List TC)) : runF tab FT D16 live 83 impl_product_lo [(false, [(.slice 2, TC.l A)])] = (impl_product_t A).run fun p => some (impl_product_mk p) := by kernel_rfl
theorem impl_product_s : ∀ xs r, impl_product_S xs = some (true, r) → runF tab FT D16 live 83 impl_product_lo xs = some r := by
  intro xs r h
  unfold impl_product_S at h
  split at h
  · simp only [Option.some.injEq, Prod.mk.injEq] at h
    obtain ⟨h1, rfl⟩ := h
    exact fun_told (impl_product_e _) (impl_product_l _) h1
  · cases h
noncomputable def D17 : Dt := also D16 83 impl_product_S
theorem d17 : DOk Go.Proofs.Try.prog tab D17 := d16.also mixed_ok tab_ok names_ok (fnLoops_one (by kernel_rfl) impl_product_is3) impl_product_s
/-! impl_ValidDims -/
noncomputable def impl_ValidDims_t (A : List (List TC)) : Tr (Bool) := (.ite ((decide ((A.length : Int) ≤ (3 : Int))) = true) (.ite ((impl_allWithin_c A (0 : Int) (40 : Int)) = true) (.ite ((impl_allWithin_v A (0 : Int) (40 : Int)) = true) (.ite ((impl_product_c A) = true) (.ok (decide ((impl_product_v A) ≤ (600 : Int))))
     .no)
    (.ok false))
   .no)
  (.ok false))
def impl_ValidDims_mk (p : Bool) : Res := [(false, [⟨.bool, .sh, TC.b p⟩])]
noncomputable def impl_ValidDims_c (A : List (List TC)) : Bool := is (((impl_allWithin_c A (0 : Int) (40 : Int)) = true) ∧ ((impl_product_c A) = true))
noncomputable def impl_ValidDims_v (A : List (List TC)) : Bool := (bif (decide ((A.length : Int) ≤ (3 : Int))) then (bif (impl_allWithin_v A (0 : Int) (40 : Int)) then (decide ((impl_product_v A) ≤ (600 : Int))) else false) else false)
theorem impl_ValidDims_l (A : List (List TC)) : (impl_ValidDims_c A) = true → (impl_ValidDims_t A).val = some (impl_ValidDims_v A) := by
  intro h
  obtain ⟨g0, g1⟩ := is_iff.1 h
  unfold impl_ValidDims_t impl_ValidDims_v
  exact (Tr.s (Tr.t g0 (Tr.s (Tr.t g1 rfl) rfl)) rfl)
noncomputable def impl_ValidDims_S : List Arg → Option (Bool × Res) := fun xs => match xs with
  | [(false, [(.slice 2, TC.l A)])] => some ((impl_ValidDims_c A), impl_ValidDims_mk (impl_ValidDims_v A))
  | _ => .none
theorem impl_ValidDims_e (A : List (List TC)) : runF tab FT D17 live 81 noLoops [(false, [(.slice 2, TC.l A)])] = (impl_ValidDims_t A).run fun p => some (impl_ValidDims_mk p) := by kernel_rfl
theorem impl_ValidDims_s : ∀ xs r, impl_ValidDims_S xs = some (true, r) → runF tab FT D17 live 81 noLoops xs = some r := by
  intro xs r h
  unfold impl_ValidDims_S at h
  split at h
  · simp only [Option.some.injEq, Prod.mk.injEq] at h
    obtain ⟨h1, rfl⟩ := h
    exact fun_told (impl_ValidDims_e _) (impl_ValidDims_l _) h1
  · cases h
noncomputable def D18 : Dt := also D17 81 impl_ValidDims_S
theorem d18 : DOk Go.Proofs.Try.prog tab D18 := d17.also mixed_ok tab_ok names_ok noLoops_ok impl_ValidDims_s
theorem impl_ValidDims_vv (A : List (List TC)) : impl_ValidDims_v A = dimsOk A := by
  show (bif decide ((A.length : Int) ≤ 3) then bif (!(!(A.all (inR 0 40)))) then decide (prodL A ≤ 600) else false else false) = _
  unfold dimsOk
  cases decide ((A.length : Int) ≤ 3) <;> cases A.all (inR 0 40) <;> rfl
/-! impl_gridOf -/
abbrev impl_gridOf_3_σ := List (List TC) × List (List TC) × List (List TC) × Int × Int
abbrev impl_gridOf_3_ω := (List (List TC))
noncomputable def impl_gridOf_3_step (C : List (List TC)) (X : List (List TC)) (D : List (List TC)) (m : Int) (i : Int) : Tr (impl_gridOf_3_σ ⊕ impl_gridOf_3_ω) := (.ite ((decide (i < m)) = true) (.ite ((0 : Int) ≤ i ∧ i < (D.length : Int)) (.ite ((0 : Int) ≤ i ∧ i < (C.length : Int)) (.ite ((0 : Int) ≤ i ∧ i < (C.length : Int)) (.ite ((nth (row C i) 0).int ≠ 0) (.ite (roomFor (tab 2) (X ++ [[TC.i (IntKind.wrap .i64 (Int.tdiv (IntKind.wrap .i64 ((IntKind.wrap .i64 ((nth (row D i) 0).int + (nth (row C i) 0).int)) - (1 : Int))) ((nth (row C i) 0).int)))]]).length) (.ok (.inl (C, (X ++ [[TC.i (IntKind.wrap .i64 (Int.tdiv (IntKind.wrap .i64 ((IntKind.wrap .i64 ((nth (row D i) 0).int + (nth (row C i) 0).int)) - (1 : Int))) ((nth (row C i) 0).int)))]]), D, m, (IntKind.wrap .i64 (i + (1 : Int))))))
       .no)
      .no)
     .no)
    .no)
   .no)
  (.ok (.inr X)))
noncomputable def impl_gridOf_3_st : impl_gridOf_3_σ → Tr (impl_gridOf_3_σ ⊕ impl_gridOf_3_ω) := fun x => (impl_gridOf_3_step (x.1) (x.2.1) (x.2.2.1) (x.2.2.2.1) (x.2.2.2.2))
noncomputable def impl_gridOf_o3_1 (C : List (List TC)) (X : List (List TC)) (D : List (List TC)) (m : Int) (i : Int) : Bool := is (X = [] ∧ i = 0 ∧ Typed tab (.slice 2) (.l D) ∧ D.length = C.length ∧ C.all (inR 1 40) = true ∧ m = (D.length : Int))
noncomputable def impl_gridOf_u3_1 (C : List (List TC)) (X : List (List TC)) (D : List (List TC)) (m : Int) (i : Int) : List (List TC) := gridL D C
noncomputable def impl_gridOf_3_fin (C : List (List TC)) (X : List (List TC)) (D : List (List TC)) (m : Int) (i : Int) : Told impl_gridOf_3_ω := (.leaf (impl_gridOf_o3_1 C X D m i) (impl_gridOf_u3_1 C X D m i))
def impl_gridOf_3_sl (x : impl_gridOf_3_σ) : List Slot := [⟨.val false [⟨.slice 2, .sh, TC.l (x.1)⟩], ⟨0, 0⟩⟩, ⟨.val false [⟨.slice 2, .own true, TC.l (x.2.1)⟩], ⟨0, 0⟩⟩, ⟨.val false [⟨.slice 2, .sh, TC.l (x.2.2.1)⟩], ⟨0, 0⟩⟩, ⟨.val false [⟨.int .i64, .sh, TC.i (x.2.2.2.1)⟩], ⟨0, 0⟩⟩, ⟨.val false [⟨.int .i64, .sh, TC.i (x.2.2.2.2)⟩], ⟨0, 0⟩⟩]
def impl_gridOf_3_out : impl_gridOf_3_ω → Ex × List Slot := (fun x => (.exit 0, [Slot.none, ⟨.val false [⟨.slice 2, .own true, TC.l x⟩], ⟨0, 0⟩⟩]))
noncomputable def impl_gridOf_lo3 : List Slot → Option (Told (Ex × List Slot)) := fun s => match s with
  | [⟨.val false [⟨.slice 2, .sh, TC.l C⟩], ⟨0, 0⟩⟩, ⟨.val false [⟨.slice 2, .own true, TC.l X⟩], ⟨0, 0⟩⟩, ⟨.val false [⟨.slice 2, .sh, TC.l D⟩], ⟨0, 0⟩⟩, ⟨.val false [⟨.int .i64, .sh, TC.i m⟩], ⟨0, 0⟩⟩, ⟨.val false [⟨.int .i64, .sh, TC.i i⟩], ⟨0, 0⟩⟩] => some (((impl_gridOf_3_fin C X D m i)).map impl_gridOf_3_out)
  | _ => .none
noncomputable def impl_gridOf_lo : LoopTeller := fun r s => bif Nat.beq r 3 then impl_gridOf_lo3 s else .none
theorem impl_gridOf_3_r (C : List (List TC)) (X : List (List TC)) (D : List (List TC)) (m : Int) (i : Int) (fuel : Nat) : rounds (rnd tab FT D18 live 84 impl_gridOf_lo 0 3) leave (fuel + 1) (impl_gridOf_3_sl (C, X, D, m, i)) = ((impl_gridOf_3_step C X D m i)).run (goOn (fun s => rounds (rnd tab FT D18 live 84 impl_gridOf_lo 0 3) leave fuel (impl_gridOf_3_sl s)) fun w => some (impl_gridOf_3_out w)) := by kernel_rfl
theorem impl_gridOf_3_h (C : List (List TC)) (X : List (List TC)) (D : List (List TC)) (m : Int) (i : Int) (ow : impl_gridOf_3_ω) : ((impl_gridOf_3_fin C X D m i)).val = some ow → ∃ fuel, loopN impl_gridOf_3_st fuel (C, X, D, m, i) = some ow := by
  intro h
  simp only [impl_gridOf_3_fin, Told.val] at h
  split at h
  · rename_i ho
    obtain ⟨rfl, rfl, ht, hl, hc, rfl⟩ := is_iff.1 ho
    cases h
    have hlen : D.length ≤ 17592186044404 := by have := typed_room ht; simp only [show (tab 2).bytes = 8 from rfl] at this; omega
    have hg : (gridL D C).length = D.length := by simp [gridL, hl]
    refine ⟨_, loopN_build (step := impl_gridOf_3_st) (gridL D C) (fun i X => (C, X, D, (D.length : Int), (i : Int))) _ (fun i hi => ?_) ?_⟩
    · have hi' : i < D.length := by omega
      rw [gridL_at hl hi]
      show (impl_gridOf_3_step C ((gridL D C).take i) D (D.length : Int) (i : Int)).val = _
      unfold impl_gridOf_3_step
      refine Tr.t (by simp; omega) ?_
      refine Tr.t (by constructor <;> omega) ?_
      refine Tr.t (by constructor <;> omega) ?_
      refine Tr.t (by constructor <;> omega) ?_
      refine Tr.t (inR_1 hc (by omega)) ?_
      refine Tr.t (by unfold roomFor; simp only [show (tab 2).bytes = 8 from rfl, List.length_append, List.length_take, List.length_singleton]; omega) ?_
      rw [Tr.val_ok, wrap64 (i := (i : Int) + 1) (by omega) (by omega)]; rfl
    · show (impl_gridOf_3_step C (gridL D C) D (D.length : Int) ((gridL D C).length : Int)).val = _
      refine Tr.n (by simp [hg]) ?_
      rfl
  · cases h
theorem impl_gridOf_is3 : LoopIs tab FT D18 live 84 impl_gridOf_lo 0 3 := by
  refine loop_told (sl := impl_gridOf_3_sl) (step := impl_gridOf_3_st) (out := impl_gridOf_3_out) (lor := impl_gridOf_lo3) (fin := fun x => (impl_gridOf_3_fin (x.1) (x.2.1) (x.2.2.1) (x.2.2.2.1) (x.2.2.2.2))) (fun _ => rfl) ?_ (fun x n => impl_gridOf_3_r x.1 x.2.1 x.2.2.1 x.2.2.2.1 x.2.2.2.2 n) (fun x ow => impl_gridOf_3_h x.1 x.2.1 x.2.2.1 x.2.2.2.1 x.2.2.2.2 ow)
  intro s t h
  unfold impl_gridOf_lo3 at h
  split at h
  · cases h; exact ⟨(_, _, _, _, _), rfl, rfl⟩
  · cases h
noncomputable def impl_gridOf_t (D : List (List TC)) (C : List (List TC)) : Tr (List (List TC)) := (.ite ((impl_gridOf_o3_1 C [] D (D.length : Int) (0 : Int)) = true) (.ok (impl_gridOf_u3_1 C [] D (D.length : Int) (0 : Int)))
  .no)
def impl_gridOf_mk (p : List (List TC)) : Res := [(false, [⟨.slice 2, .own true, TC.l p⟩])]
noncomputable def impl_gridOf_c (D : List (List TC)) (C : List (List TC)) : Bool := is (Typed tab (.slice 2) (.l D) ∧ D.length = C.length ∧ C.all (inR 1 40) = true)
noncomputable def impl_gridOf_v (D : List (List TC)) (C : List (List TC)) : List (List TC) := gridL D C
theorem impl_gridOf_l (D : List (List TC)) (C : List (List TC)) : (impl_gridOf_c D C) = true → (impl_gridOf_t D C).val = some (impl_gridOf_v D C) := by
  intro h
  obtain ⟨ht, hl, hc⟩ := is_iff.1 h
  unfold impl_gridOf_t
  exact Tr.t (is_true ⟨rfl, rfl, ht, hl, hc, rfl⟩) rfl
noncomputable def impl_gridOf_S : List Arg → Option (Bool × Res) := fun xs => match xs with
  | [(false, [(.slice 2, TC.l D)]), (false, [(.slice 2, TC.l C)])] => some ((impl_gridOf_c D C), impl_gridOf_mk (impl_gridOf_v D C))
  | _ => .none
theorem impl_gridOf_e (D : List (List TC)) (C : List (List TC)) : runF tab FT D18 live 84 impl_gridOf_lo [(false, [(.slice 2, TC.l D)]), (false, [(.slice 2, TC.l C)])] = (impl_gridOf_t D C).run fun p => some (impl_gridOf_mk p) := by kernel_rfl
theorem impl_gridOf_s : ∀ xs r, impl_gridOf_S xs = some (true, r) → runF tab FT D18 live 84 impl_gridOf_lo xs = some r := by
  intro xs r h
  unfold impl_gridOf_S at h
  split at h
  · simp only [Option.some.injEq, Prod.mk.injEq] at h
    obtain ⟨h1, rfl⟩ := h
    exact fun_told (impl_gridOf_e _ _) (impl_gridOf_l _ _) h1
  · cases h
noncomputable def D19 : Dt := also D18 84 impl_gridOf_S
theorem d19 : DOk Go.Proofs.Try.prog tab D19 := d18.also mixed_ok tab_ok names_ok (fnLoops_one (by kernel_rfl) impl_gridOf_is3) impl_gridOf_s
/-! impl_ValidChunk -/
noncomputable def impl_ValidChunk_t (D : List (List TC)) (C : List (List TC)) : Tr (Bool) := (.ite ((impl_ValidDims_c D) = true) (.ite ((!(impl_ValidDims_v D)) = true) (.ok false)
   (.ite ((!((C.length : Int) == (D.length : Int))) = true) (.ok false)
    (.ite ((impl_allWithin_c C (1 : Int) (40 : Int)) = true) (.ite ((!(impl_allWithin_v C (1 : Int) (40 : Int))) = true) (.ok false)
      (.ite ((impl_product_c C) = true) (.ite ((decide ((impl_product_v C) > (64 : Int))) = true) (.ok false)
        (.ite ((impl_gridOf_c D C) = true) (.ite ((impl_allWithin_c (impl_gridOf_v D C) (0 : Int) (16 : Int)) = true) (.ite ((impl_allWithin_v (impl_gridOf_v D C) (0 : Int) (16 : Int)) = true) (.ite ((impl_product_c (impl_gridOf_v D C)) = true) (.ok (decide ((impl_product_v (impl_gridOf_v D C)) ≤ (256 : Int))))
            .no)
           (.ok false))
          .no)
         .no))
       .no))
     .no)))
  .no)
def impl_ValidChunk_mk (p : Bool) : Res := [(false, [⟨.bool, .sh, TC.b p⟩])]
noncomputable def impl_ValidChunk_c (D : List (List TC)) (C : List (List TC)) : Bool := ((impl_ValidDims_c D) && (bif (!(impl_ValidDims_v D)) then true else (bif (!((C.length : Int) == (D.length : Int))) then true else ((impl_allWithin_c C (1 : Int) (40 : Int)) && (bif (!(impl_allWithin_v C (1 : Int) (40 : Int))) then true else ((impl_product_c C) && (bif (decide ((impl_product_v C) > (64 : Int))) then true else ((impl_gridOf_c D C) && ((impl_allWithin_c (impl_gridOf_v D C) (0 : Int) (16 : Int)) && (bif (impl_allWithin_v (impl_gridOf_v D C) (0 : Int) (16 : Int)) then ((impl_product_c (impl_gridOf_v D C)) && true) else true))))))))))
noncomputable def impl_ValidChunk_v (D : List (List TC)) (C : List (List TC)) : Bool := (bif (!(impl_ValidDims_v D)) then false else (bif (!((C.length : Int) == (D.length : Int))) then false else (bif (!(impl_allWithin_v C (1 : Int) (40 : Int))) then false else (bif (decide ((impl_product_v C) > (64 : Int))) then false else (bif (impl_allWithin_v (impl_gridOf_v D C) (0 : Int) (16 : Int)) then (decide ((impl_product_v (impl_gridOf_v D C)) ≤ (256 : Int))) else false)))))
theorem impl_ValidChunk_l (D : List (List TC)) (C : List (List TC)) : (impl_ValidChunk_c D C) = true → (impl_ValidChunk_t D C).val = some (impl_ValidChunk_v D C) := by
  unfold impl_ValidChunk_t impl_ValidChunk_v impl_ValidChunk_c
  exact fun h => (Tr.gb h fun h => (Tr.ss h (fun h => rfl) (fun h => (Tr.ss h (fun h => rfl) (fun h => (Tr.gb h fun h => (Tr.ss h (fun h => rfl) (fun h => (Tr.gb h fun h => (Tr.ss h (fun h => rfl) (fun h => (Tr.gb h fun h => (Tr.gb h fun h => (Tr.ss h (fun h => (Tr.gb h fun h => rfl)) (fun h => rfl)))))))))))))))
noncomputable def impl_ValidChunk_S : List Arg → Option (Bool × Res) := fun xs => match xs with
  | [(false, [(.slice 2, TC.l D)]), (false, [(.slice 2, TC.l C)])] => some ((impl_ValidChunk_c D C), impl_ValidChunk_mk (impl_ValidChunk_v D C))
  | _ => .none
theorem impl_ValidChunk_e (D : List (List TC)) (C : List (List TC)) : runF tab FT D19 live 38 noLoops [(false, [(.slice 2, TC.l D)]), (false, [(.slice 2, TC.l C)])] = (impl_ValidChunk_t D C).run fun p => some (impl_ValidChunk_mk p) := by kernel_rfl
theorem impl_ValidChunk_s : ∀ xs r, impl_ValidChunk_S xs = some (true, r) → runF tab FT D19 live 38 noLoops xs = some r := by
  intro xs r h
  unfold impl_ValidChunk_S at h
  split at h
  · simp only [Option.some.injEq, Prod.mk.injEq] at h
    obtain ⟨h1, rfl⟩ := h
    exact fun_told (impl_ValidChunk_e _ _) (impl_ValidChunk_l _ _) h1
  · cases h
noncomputable def D20 : Dt := also D19 38 impl_ValidChunk_S
theorem d20 : DOk Go.Proofs.Try.prog tab D20 := d19.also mixed_ok tab_ok names_ok noLoops_ok impl_ValidChunk_s
theorem impl_ValidChunk_cc {D : List (List TC)} {C : List (List TC)} (hD : Typed tab (.slice 2) (.l D)) (hC : Typed tab (.slice 2) (.l C)) : (impl_ValidChunk_c D C) = true := by
  unfold impl_ValidChunk_c
  refine andT (by first | (apply is_true; and_intros <;> (first | rfl | assumption | (apply spec_l20Ok_cc <;> assumption) | (apply spec_l05Inside_cc <;> assumption) | (apply spec_l20Of_cc <;> assumption) | (first | (apply is_true; and_intros <;> (first | rfl | assumption | (apply spec_l20Ok_cc <;> assumption) | (apply spec_l05Inside_cc <;> assumption) | (apply spec_l20Of_cc <;> assumption) | (first | (apply is_true; and_intros <;> (first | rfl | assumption | (apply spec_l20Ok_cc <;> assumption) | (apply spec_l05Inside_cc <;> assumption) | (apply spec_l20Of_cc <;> assumption) | (first | (apply is_true; and_intros <;> (first | rfl | assumption | (apply spec_l20Ok_cc <;> assumption) | (apply spec_l05Inside_cc <;> assumption) | (apply spec_l20Of_cc <;> assumption))) | (apply spec_l20Ok_cc <;> assumption) | (apply spec_l05Inside_cc <;> assumption) | (apply spec_l20Of_cc <;> assumption)))) | (apply spec_l20Ok_cc <;> assumption) | (apply spec_l05Inside_cc <;> assumption) | (apply spec_l20Of_cc <;> assumption)))) | (apply spec_l20Ok_cc <;> assumption) | (apply spec_l05Inside_cc <;> assumption) | (apply spec_l20Of_cc <;> assumption)))) | (apply spec_l20Ok_cc <;> assumption) | (apply spec_l05Inside_cc <;> assumption) | (apply spec_l20Of_cc <;> assumption)) ?_
  refine bifT (fun b1 => ?_) (fun b1 => ?_)
  · skip
    rfl
  · skip
    refine bifT (fun b2 => ?_) (fun b2 => ?_)
    · skip
      rfl
    · skip
      refine andT (by first | (apply is_true; and_intros <;> (first | rfl | assumption | (apply spec_l20Ok_cc <;> assumption) | (apply spec_l05Inside_cc <;> assumption) | (apply spec_l20Of_cc <;> assumption) | (first | (apply is_true; and_intros <;> (first | rfl | assumption | (apply spec_l20Ok_cc <;> assumption) | (apply spec_l05Inside_cc <;> assumption) | (apply spec_l20Of_cc <;> assumption) | (first | (apply is_true; and_intros <;> (first | rfl | assumption | (apply spec_l20Ok_cc <;> assumption) | (apply spec_l05Inside_cc <;> assumption) | (apply spec_l20Of_cc <;> assumption) | (first | (apply is_true; and_intros <;> (first | rfl | assumption | (apply spec_l20Ok_cc <;> assumption) | (apply spec_l05Inside_cc <;> assumption) | (apply spec_l20Of_cc <;> assumption))) | (apply spec_l20Ok_cc <;> assumption) | (apply spec_l05Inside_cc <;> assumption) | (apply spec_l20Of_cc <;> assumption)))) | (apply spec_l20Ok_cc <;> assumption) | (apply spec_l05Inside_cc <;> assumption) | (apply spec_l20Of_cc <;> assumption)))) | (apply spec_l20Ok_cc <;> assumption) | (apply spec_l05Inside_cc <;> assumption) | (apply spec_l20Of_cc <;> assumption)))) | (apply spec_l20Ok_cc <;> assumption) | (apply spec_l05Inside_cc <;> assumption) | (apply spec_l20Of_cc <;> assumption)) ?_
      refine bifT (fun b3 => ?_) (fun b3 => ?_)
      · skip
        rfl
      · skip
        refine andT (by first | (apply is_true; and_intros <;> (first | rfl | assumption | (apply spec_l20Ok_cc <;> assumption) | (apply spec_l05Inside_cc <;> assumption) | (apply spec_l20Of_cc <;> assumption) | (first | (apply is_true; and_intros <;> (first | rfl | assumption | (apply spec_l20Ok_cc <;> assumption) | (apply spec_l05Inside_cc <;> assumption) | (apply spec_l20Of_cc <;> assumption) | (first | (apply is_true; and_intros <;> (first | rfl | assumption | (apply spec_l20Ok_cc <;> assumption) | (apply spec_l05Inside_cc <;> assumption) | (apply spec_l20Of_cc <;> assumption) | (first | (apply is_true; and_intros <;> (first | rfl | assumption | (apply spec_l20Ok_cc <;> assumption) | (apply spec_l05Inside_cc <;> assumption) | (apply spec_l20Of_cc <;> assumption))) | (apply spec_l20Ok_cc <;> assumption) | (apply spec_l05Inside_cc <;> assumption) | (apply spec_l20Of_cc <;> assumption)))) | (apply spec_l20Ok_cc <;> assumption) | (apply spec_l05Inside_cc <;> assumption) | (apply spec_l20Of_cc <;> assumption)))) | (apply spec_l20Ok_cc <;> assumption) | (apply spec_l05Inside_cc <;> assumption) | (apply spec_l20Of_cc <;> assumption)))) | (apply spec_l20Ok_cc <;> assumption) | (apply spec_l05Inside_cc <;> assumption) | (apply spec_l20Of_cc <;> assumption)) ?_
        refine bifT (fun b4 => ?_) (fun b4 => ?_)
        · skip
          rfl
        · skip
          refine andT (by exact is_true (p := Typed tab (.slice 2) (.l D) ∧ D.length = C.length ∧ C.all (inR 1 40) = true) ⟨hD, lenEq b2, nnF b3⟩) ?_
          refine andT (by exact is_true (gridL_ty rfl hD)) ?_
          refine bifT (fun b5 => ?_) (fun b5 => ?_)
          · skip
            refine andT (by exact is_true ⟨rfl, rfl, gridL_ty rfl hD, rfl⟩) ?_
            rfl
          · skip
            rfl
theorem impl_ValidChunk_vv (D C : List (List TC)) : impl_ValidChunk_v D C = chunkOk D C := by
  show (bif (!(impl_ValidDims_v D)) then false else bif (!((C.length : Int) == (D.length : Int))) then false else bif (!(!(!(C.all (inR 1 40))))) then false else bif decide (prodL C > 64) then false else bif (!(!((gridL D C).all (inR 0 16)))) then decide (prodL (gridL D C) ≤ 256) else false) = _
  rw [impl_ValidDims_vv]
  unfold chunkOk
  rw [show decide (prodL C > 64) = !decide (prodL C ≤ 64) from by rw [← decide_not]; simp]
  cases dimsOk D <;> cases ((C.length : Int) == (D.length : Int)) <;> cases C.all (inR 1 40) <;> cases (gridL D C).all (inR 0 16) <;> cases decide (prodL C ≤ 64) <;> rfl
/-! impl_inDims -/
noncomputable def impl_inDims_f4 (D : List (List TC)) (T : List (List TC)) (m : Int) (i : Int) : (Unit) ⊕ ((Unit) ⊕ (Unit)) := (bif (!(impl_within_v ((nth (row T i) 0).int) (0 : Int) (IntKind.wrap .i64 ((nth (row D i) 0).int - (1 : Int))))) then (.inr (.inl ())) else (.inl ()))
noncomputable def impl_inDims_e4 (D : List (List TC)) (T : List (List TC)) (m : Int) : (Unit) ⊕ (Unit) := .inr ()
noncomputable def impl_inDims_R4 (D : List (List TC)) (T : List (List TC)) (m : Int) (i : Int) : (Unit) ⊕ (Unit) := iter (fun i a => (impl_inDims_f4 D T m (i : Int))) (fun a => (impl_inDims_e4 D T m)) (T.length) 0 ()
abbrev impl_inDims_4_σ := List (List TC) × List (List TC) × Int × Int
abbrev impl_inDims_4_ω := (Unit) ⊕ (Unit)
noncomputable def impl_inDims_4_step (D : List (List TC)) (T : List (List TC)) (m : Int) (i : Int) : Tr (impl_inDims_4_σ ⊕ impl_inDims_4_ω) := (.ite ((decide (i < m)) = true) (.ite ((0 : Int) ≤ i ∧ i < (T.length : Int)) (.ite ((0 : Int) ≤ i ∧ i < (D.length : Int)) (.ite ((!(impl_within_v ((nth (row T i) 0).int) (0 : Int) (IntKind.wrap .i64 ((nth (row D i) 0).int - (1 : Int))))) = true) (.ok (.inr (.inl ())))
     (.ok (.inl (D, T, m, (IntKind.wrap .i64 (i + (1 : Int)))))))
    .no)
   .no)
  (.ok (.inr (.inr ()))))
noncomputable def impl_inDims_4_st : impl_inDims_4_σ → Tr (impl_inDims_4_σ ⊕ impl_inDims_4_ω) := fun x => (impl_inDims_4_step (x.1) (x.2.1) (x.2.2.1) (x.2.2.2))
noncomputable def impl_inDims_k4_1 (D : List (List TC)) (T : List (List TC)) (m : Int) (i : Int) : Bool := sumIs (impl_inDims_R4 D T m i)
noncomputable def impl_inDims_o4_2 (D : List (List TC)) (T : List (List TC)) (m : Int) (i : Int) : Bool := is (i = 0 ∧ Typed tab (.slice 2) (.l T) ∧ m = (T.length : Int) ∧ D.length = T.length)
noncomputable def impl_inDims_o4_3 (D : List (List TC)) (T : List (List TC)) (m : Int) (i : Int) : Bool := is (i = 0 ∧ Typed tab (.slice 2) (.l T) ∧ m = (T.length : Int) ∧ D.length = T.length)
noncomputable def impl_inDims_4_fin (D : List (List TC)) (T : List (List TC)) (m : Int) (i : Int) : Told impl_inDims_4_ω := (.br (impl_inDims_k4_1 D T m i) (.leaf (impl_inDims_o4_2 D T m i) (.inl ())) (.leaf (impl_inDims_o4_3 D T m i) (.inr ())))
def impl_inDims_4_sl (x : impl_inDims_4_σ) : List Slot := [⟨.val false [⟨.slice 2, .sh, TC.l (x.1)⟩], ⟨0, 0⟩⟩, ⟨.val false [⟨.slice 2, .sh, TC.l (x.2.1)⟩], ⟨0, 0⟩⟩, ⟨.val false [⟨.int .i64, .sh, TC.i (x.2.2.1)⟩], ⟨0, 0⟩⟩, ⟨.val false [⟨.int .i64, .sh, TC.i (x.2.2.2)⟩], ⟨0, 0⟩⟩]
def impl_inDims_4_out : impl_inDims_4_ω → Ex × List Slot := (Sum.elim (fun x => (.ret, [⟨.val false [⟨.bool, .sh, TC.b false⟩], ⟨0, 0⟩⟩])) (fun x => (.exit 0, [Slot.none])))
noncomputable def impl_inDims_lo4 : List Slot → Option (Told (Ex × List Slot)) := fun s => match s with
  | [⟨.val false [⟨.slice 2, .sh, TC.l D⟩], ⟨0, 0⟩⟩, ⟨.val false [⟨.slice 2, .sh, TC.l T⟩], ⟨0, 0⟩⟩, ⟨.val false [⟨.int .i64, .sh, TC.i m⟩], ⟨0, 0⟩⟩, ⟨.val false [⟨.int .i64, .sh, TC.i i⟩], ⟨0, 0⟩⟩] => some (((impl_inDims_4_fin D T m i)).map impl_inDims_4_out)
  | _ => .none
noncomputable def impl_inDims_lo : LoopTeller := fun r s => bif Nat.beq r 4 then impl_inDims_lo4 s else .none
theorem impl_inDims_4_r (D : List (List TC)) (T : List (List TC)) (m : Int) (i : Int) (fuel : Nat) : rounds (rnd tab FT D20 live 66 impl_inDims_lo 0 4) leave (fuel + 1) (impl_inDims_4_sl (D, T, m, i)) = ((impl_inDims_4_step D T m i)).run (goOn (fun s => rounds (rnd tab FT D20 live 66 impl_inDims_lo 0 4) leave fuel (impl_inDims_4_sl s)) fun w => some (impl_inDims_4_out w)) := by kernel_rfl
theorem impl_inDims_f4_eq (D T : List (List TC)) (m : Int) (i : Int) : impl_inDims_f4 D T m i = bif insB D T i then Sum.inl () else Sum.inr (Sum.inl ()) := by
  unfold impl_inDims_f4
  rw [show impl_within_v ((nth (row T i) 0).int) 0 (IntKind.wrap .i64 ((nth (row D i) 0).int - (1 : Int))) = insB D T i from rfl]
  generalize insB D T i = p0
  cases p0 <;> rfl
theorem impl_inDims_R4_eq (D T : List (List TC)) (m : Int)  : impl_inDims_R4 D T m 0 = bif allI (fun i : Nat => insB D T (i : Int)) (T.length) then Sum.inr () else (Sum.inl ()) := by
  unfold impl_inDims_R4
  exact (iter_all (P := (fun i : Nat => insB D T (i : Int))) (g := fun _ a => a) (w := Sum.inl ()) fun j a _ => impl_inDims_f4_eq D T m _)
theorem impl_inDims_4_h (D : List (List TC)) (T : List (List TC)) (m : Int) (i : Int) (ow : impl_inDims_4_ω) : ((impl_inDims_4_fin D T m i)).val = some ow → ∃ fuel, loopN impl_inDims_4_st fuel (D, T, m, i) = some ow := by
  refine auto_const (R := (impl_inDims_R4 D T m i)) rfl (iter_onR (f := (fun i a => (impl_inDims_f4 D T m (i : Int)))) (fin := (fun a => (impl_inDims_e4 D T m))) (Q := endsAs () ()) (fun i a => by unfold impl_inDims_f4; exact (onR_bif rfl trivial)) (fun _ => rfl) _ _ _) ?_
  intro ho
  have ho : is (i = 0 ∧ Typed tab (.slice 2) (.l T) ∧ m = (T.length : Int) ∧ D.length = T.length) = true := ho.elim id id
  obtain ⟨rfl, ht, rfl, hl⟩ := is_iff.1 ho
  have hlen : T.length ≤ 140737488351232 := by have := typed_room ht; simp only [show (tab 2).bytes = 8 from rfl] at this; omega
  refine ⟨(T.length) + 1, ?_⟩
  refine iter_loop (step := impl_inDims_4_st) (T.length) (fun i a => (impl_inDims_f4 D T (T.length : Int) (i : Int))) (fun a => (impl_inDims_e4 D T (T.length : Int))) (fun i a => (D, T, (T.length : Int), (i : Int))) (fun _ _ => True) trivial (fun i a hi hI => ⟨?_, fun _ _ => trivial⟩) (fun a hI => ?_)
  · show (impl_inDims_4_step D T (T.length : Int) (i : Int)).val = _
    unfold impl_inDims_4_step impl_inDims_f4
    skip
    refine Tr.t (by simp; omega) ?_
    exact (Tr.t (by first | omega | (constructor <;> omega)) (Tr.t (by first | omega | (constructor <;> omega)) (Tr.bf rfl (by rw [Tr.val_ok, wrap64 (i := (i : Int) + 1) (by omega) (by omega)]; rfl))))
  · show (impl_inDims_4_step D T (T.length : Int) (T.length : Int)).val = _
    refine Tr.n (by first | (simp; done) | (simp; omega) | omega) ?_
    rfl
theorem impl_inDims_is4 : LoopIs tab FT D20 live 66 impl_inDims_lo 0 4 := by
  refine loop_told (sl := impl_inDims_4_sl) (step := impl_inDims_4_st) (out := impl_inDims_4_out) (lor := impl_inDims_lo4) (fin := fun x => (impl_inDims_4_fin (x.1) (x.2.1) (x.2.2.1) (x.2.2.2))) (fun _ => rfl) ?_ (fun x n => impl_inDims_4_r x.1 x.2.1 x.2.2.1 x.2.2.2 n) (fun x ow => impl_inDims_4_h x.1 x.2.1 x.2.2.1 x.2.2.2 ow)
  intro s t h
  unfold impl_inDims_lo4 at h
  split at h
  · cases h; exact ⟨(_, _, _, _), rfl, rfl⟩
  · cases h
noncomputable def impl_inDims_t (D : List (List TC)) (T : List (List TC)) : Tr (Bool) := (.ite ((!((T.length : Int) == (D.length : Int))) = true) (.ok false)
  (.ite ((impl_inDims_k4_1 D T (T.length : Int) (0 : Int)) = true) (.ite ((impl_inDims_o4_2 D T (T.length : Int) (0 : Int)) = true) (.ok false)
    .no)
   (.ite ((impl_inDims_o4_3 D T (T.length : Int) (0 : Int)) = true) (.ok true)
    .no)))
def impl_inDims_mk (p : Bool) : Res := [(false, [⟨.bool, .sh, TC.b p⟩])]
noncomputable def impl_inDims_c (D : List (List TC)) (T : List (List TC)) : Bool := (bif (!((T.length : Int) == (D.length : Int))) then true else (bif (impl_inDims_k4_1 D T (T.length : Int) (0 : Int)) then ((impl_inDims_o4_2 D T (T.length : Int) (0 : Int)) && true) else ((impl_inDims_o4_3 D T (T.length : Int) (0 : Int)) && true)))
noncomputable def impl_inDims_v (D : List (List TC)) (T : List (List TC)) : Bool := (bif (!((T.length : Int) == (D.length : Int))) then false else (bif (impl_inDims_k4_1 D T (T.length : Int) (0 : Int)) then false else true))
theorem impl_inDims_l (D : List (List TC)) (T : List (List TC)) : (impl_inDims_c D T) = true → (impl_inDims_t D T).val = some (impl_inDims_v D T) := by
  unfold impl_inDims_t impl_inDims_v impl_inDims_c
  exact fun h => (Tr.ss h (fun h => rfl) (fun h => (Tr.ss h (fun h => (Tr.gb h fun h => rfl)) (fun h => (Tr.gb h fun h => rfl)))))
noncomputable def impl_inDims_S : List Arg → Option (Bool × Res) := fun xs => match xs with
  | [(false, [(.slice 2, TC.l D)]), (false, [(.slice 2, TC.l T)])] => some ((impl_inDims_c D T), impl_inDims_mk (impl_inDims_v D T))
  | _ => .none
theorem impl_inDims_e (D : List (List TC)) (T : List (List TC)) : runF tab FT D20 live 66 impl_inDims_lo [(false, [(.slice 2, TC.l D)]), (false, [(.slice 2, TC.l T)])] = (impl_inDims_t D T).run fun p => some (impl_inDims_mk p) := by kernel_rfl
theorem impl_inDims_s : ∀ xs r, impl_inDims_S xs = some (true, r) → runF tab FT D20 live 66 impl_inDims_lo xs = some r := by
  intro xs r h
  unfold impl_inDims_S at h
  split at h
  · simp only [Option.some.injEq, Prod.mk.injEq] at h
    obtain ⟨h1, rfl⟩ := h
    exact fun_told (impl_inDims_e _ _) (impl_inDims_l _ _) h1
  · cases h
noncomputable def D21 : Dt := also D20 66 impl_inDims_S
theorem d21 : DOk Go.Proofs.Try.prog tab D21 := d20.also mixed_ok tab_ok names_ok (fnLoops_one (by kernel_rfl) impl_inDims_is4) impl_inDims_s
theorem impl_inDims_cc {D : List (List TC)} {T : List (List TC)} (hT : Typed tab (.slice 2) (.l T)) : (impl_inDims_c D T) = true := by
  unfold impl_inDims_c
  refine bifT (fun b1 => ?_) (fun b1 => ?_)
  · skip
    rfl
  · skip
    refine bifT (fun b2 => ?_) (fun b2 => ?_)
    · skip
      refine andT (by exact is_true ⟨rfl, hT, rfl, lenEq b1⟩) ?_
      rfl
    · skip
      refine andT (by exact is_true ⟨rfl, hT, rfl, lenEq b1⟩) ?_
      rfl
theorem impl_inDims_vv (D T : List (List TC)) : impl_inDims_v D T = insideOk D T := by
  unfold impl_inDims_v impl_inDims_k4_1
  rw [impl_inDims_R4_eq]
  unfold insideOk
  cases ((T.length : Int) == (D.length : Int)) <;> cases allI (fun i : Nat => insB D T (i : Int)) T.length <;> rfl
/-! impl_keyOf -/
noncomputable def impl_keyOf_f3 (A : List (List TC)) (m : Int) (i : Int) (n : Int) : (Int) ⊕ ((Int)) := (.inl (IntKind.wrap .i64 ((IntKind.wrap .i64 (n * (16 : Int))) + (nth (row A i) 0).int)))
noncomputable def impl_keyOf_e3 (A : List (List TC)) (m : Int) (n : Int) : (Int) := n
noncomputable def impl_keyOf_R3 (n : Int) (A : List (List TC)) (m : Int) (i : Int) : (Int) := iter (fun i a => (impl_keyOf_f3 A m (i : Int) a)) (fun a => (impl_keyOf_e3 A m a)) (A.length) 0 n
abbrev impl_keyOf_3_σ := Int × List (List TC) × Int × Int
abbrev impl_keyOf_3_ω := (Int)
noncomputable def impl_keyOf_3_step (n : Int) (A : List (List TC)) (m : Int) (i : Int) : Tr (impl_keyOf_3_σ ⊕ impl_keyOf_3_ω) := (.ite ((decide (i < m)) = true) (.ite ((0 : Int) ≤ i ∧ i < (A.length : Int)) (.ok (.inl ((IntKind.wrap .i64 ((IntKind.wrap .i64 (n * (16 : Int))) + (nth (row A i) 0).int)), A, m, (IntKind.wrap .i64 (i + (1 : Int))))))
   .no)
  (.ok (.inr n)))
noncomputable def impl_keyOf_3_st : impl_keyOf_3_σ → Tr (impl_keyOf_3_σ ⊕ impl_keyOf_3_ω) := fun x => (impl_keyOf_3_step (x.1) (x.2.1) (x.2.2.1) (x.2.2.2))
noncomputable def impl_keyOf_o3_1 (n : Int) (A : List (List TC)) (m : Int) (i : Int) : Bool := is (i = 0 ∧ n = 0 ∧ A.length ≤ 140737488351232 ∧ m = (A.length : Int))
noncomputable def impl_keyOf_u3_1 (n : Int) (A : List (List TC)) (m : Int) (i : Int) : Int := (impl_keyOf_R3 n A m i)
noncomputable def impl_keyOf_3_fin (n : Int) (A : List (List TC)) (m : Int) (i : Int) : Told impl_keyOf_3_ω := (.leaf (impl_keyOf_o3_1 n A m i) (impl_keyOf_u3_1 n A m i))
def impl_keyOf_3_sl (x : impl_keyOf_3_σ) : List Slot := [⟨.val false [⟨.int .i64, .sh, TC.i (x.1)⟩], ⟨0, 0⟩⟩, ⟨.val false [⟨.slice 2, .sh, TC.l (x.2.1)⟩], ⟨0, 0⟩⟩, ⟨.val false [⟨.int .i64, .sh, TC.i (x.2.2.1)⟩], ⟨0, 0⟩⟩, ⟨.val false [⟨.int .i64, .sh, TC.i (x.2.2.2)⟩], ⟨0, 0⟩⟩]
def impl_keyOf_3_out : impl_keyOf_3_ω → Ex × List Slot := (fun x => (.exit 0, [Slot.none, ⟨.val false [⟨.int .i64, .sh, TC.i x⟩], ⟨0, 0⟩⟩]))
noncomputable def impl_keyOf_lo3 : List Slot → Option (Told (Ex × List Slot)) := fun s => match s with
  | [⟨.val false [⟨.int .i64, .sh, TC.i n⟩], ⟨0, 0⟩⟩, ⟨.val false [⟨.slice 2, .sh, TC.l A⟩], ⟨0, 0⟩⟩, ⟨.val false [⟨.int .i64, .sh, TC.i m⟩], ⟨0, 0⟩⟩, ⟨.val false [⟨.int .i64, .sh, TC.i i⟩], ⟨0, 0⟩⟩] => some (((impl_keyOf_3_fin n A m i)).map impl_keyOf_3_out)
  | _ => .none
noncomputable def impl_keyOf_lo : LoopTeller := fun r s => bif Nat.beq r 3 then impl_keyOf_lo3 s else .none
theorem impl_keyOf_3_r (n : Int) (A : List (List TC)) (m : Int) (i : Int) (fuel : Nat) : rounds (rnd tab FT D21 live 113 impl_keyOf_lo 0 3) leave (fuel + 1) (impl_keyOf_3_sl (n, A, m, i)) = ((impl_keyOf_3_step n A m i)).run (goOn (fun s => rounds (rnd tab FT D21 live 113 impl_keyOf_lo 0 3) leave fuel (impl_keyOf_3_sl s)) fun w => some (impl_keyOf_3_out w)) := by kernel_rfl
theorem impl_keyOf_R3_eq (A : List (List TC)) : impl_keyOf_R3 0 A (A.length : Int) 0 = keyL A := by
  unfold impl_keyOf_R3
  refine (iter_each (g := (fun i n => IntKind.wrap .i64 ((IntKind.wrap .i64 (n * 16)) + (nth (row A (i : Int)) 0).int))) (fin := fun a => impl_keyOf_e3 A (A.length : Int) a) fun j a hj => ?_)
  unfold impl_keyOf_f3
  rfl
theorem impl_keyOf_3_h (n : Int) (A : List (List TC)) (m : Int) (i : Int) (ow : impl_keyOf_3_ω) : ((impl_keyOf_3_fin n A m i)).val = some ow → ∃ fuel, loopN impl_keyOf_3_st fuel (n, A, m, i) = some ow := by
  refine auto_leaf (R := (impl_keyOf_R3 n A m i)) ?_
  intro ho
  have ho : is (i = 0 ∧ n = 0 ∧ A.length ≤ 140737488351232 ∧ m = (A.length : Int)) = true := ho
  obtain ⟨rfl, rfl, hlen, rfl⟩ := is_iff.1 ho
  skip
  refine ⟨(A.length) + 1, ?_⟩
  refine iter_loop (step := impl_keyOf_3_st) (A.length) (fun i a => (impl_keyOf_f3 A (A.length : Int) (i : Int) a)) (fun a => (impl_keyOf_e3 A (A.length : Int) a)) (fun i a => (a, A, (A.length : Int), (i : Int))) (fun _ _ => True) trivial (fun i a hi hI => ⟨?_, fun _ _ => trivial⟩) (fun a hI => ?_)
  · show (impl_keyOf_3_step a A (A.length : Int) (i : Int)).val = _
    unfold impl_keyOf_3_step impl_keyOf_f3
    skip
    refine Tr.t (by simp; omega) ?_
    exact (Tr.t (by first | omega | (constructor <;> omega)) (by rw [Tr.val_ok, wrap64 (i := (i : Int) + 1) (by omega) (by omega)]; rfl))
  · show (impl_keyOf_3_step a A (A.length : Int) (A.length : Int)).val = _
    refine Tr.n (by first | (simp; done) | (simp; omega) | omega) ?_
    rfl
theorem impl_keyOf_is3 : LoopIs tab FT D21 live 113 impl_keyOf_lo 0 3 := by
  refine loop_told (sl := impl_keyOf_3_sl) (step := impl_keyOf_3_st) (out := impl_keyOf_3_out) (lor := impl_keyOf_lo3) (fin := fun x => (impl_keyOf_3_fin (x.1) (x.2.1) (x.2.2.1) (x.2.2.2))) (fun _ => rfl) ?_ (fun x n => impl_keyOf_3_r x.1 x.2.1 x.2.2.1 x.2.2.2 n) (fun x ow => impl_keyOf_3_h x.1 x.2.1 x.2.2.1 x.2.2.2 ow)
  intro s t h
  unfold impl_keyOf_lo3 at h
  split at h
  · cases h; exact ⟨(_, _, _, _), rfl, rfl⟩
  · cases h
noncomputable def impl_keyOf_t (A : List (List TC)) : Tr (Int) := (.ite ((impl_keyOf_o3_1 (0 : Int) A (A.length : Int) (0 : Int)) = true) (.ok (impl_keyOf_u3_1 (0 : Int) A (A.length : Int) (0 : Int)))
  .no)
def impl_keyOf_mk (p : Int) : Res := [(false, [⟨.int .i64, .sh, TC.i p⟩])]
noncomputable def impl_keyOf_c (A : List (List TC)) : Bool := (impl_keyOf_o3_1 (0 : Int) A (A.length : Int) (0 : Int))
noncomputable def impl_keyOf_v (A : List (List TC)) : Int := (impl_keyOf_u3_1 (0 : Int) A (A.length : Int) (0 : Int))
theorem impl_keyOf_l (A : List (List TC)) : (impl_keyOf_c A) = true → (impl_keyOf_t A).val = some (impl_keyOf_v A) := by
  intro h
  have hc0 : (impl_keyOf_o3_1 (0 : Int) A (A.length : Int) (0 : Int)) = true := h
  unfold impl_keyOf_t
  exact (Tr.t hc0 rfl)
noncomputable def impl_keyOf_S : List Arg → Option (Bool × Res) := fun xs => match xs with
  | [(false, [(.slice 2, TC.l A)])] => some ((impl_keyOf_c A), impl_keyOf_mk (impl_keyOf_v A))
  | _ => .none
theorem impl_keyOf_e (A : List (List TC)) : runF tab FT D21 live 113 impl_keyOf_lo [(false, [(.slice 2, TC.l A)])] = (impl_keyOf_t A).run fun p => some (impl_keyOf_mk p) := by kernel_rfl
theorem impl_keyOf_s : ∀ xs r, impl_keyOf_S xs = some (true, r) → runF tab FT D21 live 113 impl_keyOf_lo xs = some r := by
  intro xs r h
  unfold impl_keyOf_S at h
  split at h
  · simp only [Option.some.injEq, Prod.mk.injEq] at h
    obtain ⟨h1, rfl⟩ := h
    exact fun_told (impl_keyOf_e _) (impl_keyOf_l _) h1
  · cases h
noncomputable def D22 : Dt := also D21 113 impl_keyOf_S
theorem d22 : DOk Go.Proofs.Try.prog tab D22 := d21.also mixed_ok tab_ok names_ok (fnLoops_one (by kernel_rfl) impl_keyOf_is3) impl_keyOf_s
theorem impl_keyOf_vv (A : List (List TC)) : impl_keyOf_v A = keyL A := impl_keyOf_R3_eq A
/-! impl_indexOf -/
noncomputable def impl_indexOf_f3 (D : List (List TC)) (T : List (List TC)) (m : Int) (i : Int) (n : Int) : (Int) ⊕ ((Int)) := (.inl (IntKind.wrap .i64 ((IntKind.wrap .i64 (n * (nth (row D i) 0).int)) + (nth (row T i) 0).int)))
noncomputable def impl_indexOf_e3 (D : List (List TC)) (T : List (List TC)) (m : Int) (n : Int) : (Int) := n
noncomputable def impl_indexOf_R3 (D : List (List TC)) (n : Int) (T : List (List TC)) (m : Int) (i : Int) : (Int) := iter (fun i a => (impl_indexOf_f3 D T m (i : Int) a)) (fun a => (impl_indexOf_e3 D T m a)) (T.length) 0 n
abbrev impl_indexOf_3_σ := List (List TC) × Int × List (List TC) × Int × Int
abbrev impl_indexOf_3_ω := (Int)
noncomputable def impl_indexOf_3_step (D : List (List TC)) (n : Int) (T : List (List TC)) (m : Int) (i : Int) : Tr (impl_indexOf_3_σ ⊕ impl_indexOf_3_ω) := (.ite ((decide (i < m)) = true) (.ite ((0 : Int) ≤ i ∧ i < (T.length : Int)) (.ite ((0 : Int) ≤ i ∧ i < (D.length : Int)) (.ok (.inl (D, (IntKind.wrap .i64 ((IntKind.wrap .i64 (n * (nth (row D i) 0).int)) + (nth (row T i) 0).int)), T, m, (IntKind.wrap .i64 (i + (1 : Int))))))
    .no)
   .no)
  (.ok (.inr n)))
noncomputable def impl_indexOf_3_st : impl_indexOf_3_σ → Tr (impl_indexOf_3_σ ⊕ impl_indexOf_3_ω) := fun x => (impl_indexOf_3_step (x.1) (x.2.1) (x.2.2.1) (x.2.2.2.1) (x.2.2.2.2))
noncomputable def impl_indexOf_o3_1 (D : List (List TC)) (n : Int) (T : List (List TC)) (m : Int) (i : Int) : Bool := is (i = 0 ∧ n = 0 ∧ T.length ≤ 140737488351232 ∧ m = (T.length : Int) ∧ D.length = T.length)
noncomputable def impl_indexOf_u3_1 (D : List (List TC)) (n : Int) (T : List (List TC)) (m : Int) (i : Int) : Int := (impl_indexOf_R3 D n T m i)
noncomputable def impl_indexOf_3_fin (D : List (List TC)) (n : Int) (T : List (List TC)) (m : Int) (i : Int) : Told impl_indexOf_3_ω := (.leaf (impl_indexOf_o3_1 D n T m i) (impl_indexOf_u3_1 D n T m i))
def impl_indexOf_3_sl (x : impl_indexOf_3_σ) : List Slot := [⟨.val false [⟨.slice 2, .sh, TC.l (x.1)⟩], ⟨0, 0⟩⟩, ⟨.val false [⟨.int .i64, .sh, TC.i (x.2.1)⟩], ⟨0, 0⟩⟩, ⟨.val false [⟨.slice 2, .sh, TC.l (x.2.2.1)⟩], ⟨0, 0⟩⟩, ⟨.val false [⟨.int .i64, .sh, TC.i (x.2.2.2.1)⟩], ⟨0, 0⟩⟩, ⟨.val false [⟨.int .i64, .sh, TC.i (x.2.2.2.2)⟩], ⟨0, 0⟩⟩]
def impl_indexOf_3_out : impl_indexOf_3_ω → Ex × List Slot := (fun x => (.exit 0, [Slot.none, ⟨.val false [⟨.int .i64, .sh, TC.i x⟩], ⟨0, 0⟩⟩]))
noncomputable def impl_indexOf_lo3 : List Slot → Option (Told (Ex × List Slot)) := fun s => match s with
  | [⟨.val false [⟨.slice 2, .sh, TC.l D⟩], ⟨0, 0⟩⟩, ⟨.val false [⟨.int .i64, .sh, TC.i n⟩], ⟨0, 0⟩⟩, ⟨.val false [⟨.slice 2, .sh, TC.l T⟩], ⟨0, 0⟩⟩, ⟨.val false [⟨.int .i64, .sh, TC.i m⟩], ⟨0, 0⟩⟩, ⟨.val false [⟨.int .i64, .sh, TC.i i⟩], ⟨0, 0⟩⟩] => some (((impl_indexOf_3_fin D n T m i)).map impl_indexOf_3_out)
  | _ => .none
noncomputable def impl_indexOf_lo : LoopTeller := fun r s => bif Nat.beq r 3 then impl_indexOf_lo3 s else .none
theorem impl_indexOf_3_r (D : List (List TC)) (n : Int) (T : List (List TC)) (m : Int) (i : Int) (fuel : Nat) : rounds (rnd tab FT D22 live 114 impl_indexOf_lo 0 3) leave (fuel + 1) (impl_indexOf_3_sl (D, n, T, m, i)) = ((impl_indexOf_3_step D n T m i)).run (goOn (fun s => rounds (rnd tab FT D22 live 114 impl_indexOf_lo 0 3) leave fuel (impl_indexOf_3_sl s)) fun w => some (impl_indexOf_3_out w)) := by kernel_rfl
theorem impl_indexOf_R3_eq (D : List (List TC)) (T : List (List TC)) : impl_indexOf_R3 D 0 T (T.length : Int) 0 = indexN D T T.length := by
  unfold impl_indexOf_R3
  refine (iter_each (g := (fun i n => IntKind.wrap .i64 ((IntKind.wrap .i64 (n * (nth (row D (i : Int)) 0).int)) + (nth (row T (i : Int)) 0).int))) (fin := fun a => impl_indexOf_e3 D T (T.length : Int) a) fun j a hj => ?_)
  unfold impl_indexOf_f3
  rfl
theorem impl_indexOf_3_h (D : List (List TC)) (n : Int) (T : List (List TC)) (m : Int) (i : Int) (ow : impl_indexOf_3_ω) : ((impl_indexOf_3_fin D n T m i)).val = some ow → ∃ fuel, loopN impl_indexOf_3_st fuel (D, n, T, m, i) = some ow := by
  refine auto_leaf (R := (impl_indexOf_R3 D n T m i)) ?_
  intro ho
  have ho : is (i = 0 ∧ n = 0 ∧ T.length ≤ 140737488351232 ∧ m = (T.length : Int) ∧ D.length = T.length) = true := ho
  obtain ⟨rfl, rfl, hlen, rfl, hl⟩ := is_iff.1 ho
  skip
  refine ⟨(T.length) + 1, ?_⟩
  refine iter_loop (step := impl_indexOf_3_st) (T.length) (fun i a => (impl_indexOf_f3 D T (T.length : Int) (i : Int) a)) (fun a => (impl_indexOf_e3 D T (T.length : Int) a)) (fun i a => (D, a, T, (T.length : Int), (i : Int))) (fun _ _ => True) trivial (fun i a hi hI => ⟨?_, fun _ _ => trivial⟩) (fun a hI => ?_)
  · show (impl_indexOf_3_step D a T (T.length : Int) (i : Int)).val = _
    unfold impl_indexOf_3_step impl_indexOf_f3
    skip
    refine Tr.t (by simp; omega) ?_
    exact (Tr.t (by first | omega | (constructor <;> omega)) (Tr.t (by first | omega | (constructor <;> omega)) (by rw [Tr.val_ok, wrap64 (i := (i : Int) + 1) (by omega) (by omega)]; rfl)))
  · show (impl_indexOf_3_step D a T (T.length : Int) (T.length : Int)).val = _
    refine Tr.n (by first | (simp; done) | (simp; omega) | omega) ?_
    rfl
theorem impl_indexOf_is3 : LoopIs tab FT D22 live 114 impl_indexOf_lo 0 3 := by
  refine loop_told (sl := impl_indexOf_3_sl) (step := impl_indexOf_3_st) (out := impl_indexOf_3_out) (lor := impl_indexOf_lo3) (fin := fun x => (impl_indexOf_3_fin (x.1) (x.2.1) (x.2.2.1) (x.2.2.2.1) (x.2.2.2.2))) (fun _ => rfl) ?_ (fun x n => impl_indexOf_3_r x.1 x.2.1 x.2.2.1 x.2.2.2.1 x.2.2.2.2 n) (fun x ow => impl_indexOf_3_h x.1 x.2.1 x.2.2.1 x.2.2.2.1 x.2.2.2.2 ow)
  intro s t h
  unfold impl_indexOf_lo3 at h
  split at h
  · cases h; exact ⟨(_, _, _, _, _), rfl, rfl⟩
  · cases h
noncomputable def impl_indexOf_t (D : List (List TC)) (T : List (List TC)) : Tr (Int) := (.ite ((impl_indexOf_o3_1 D (0 : Int) T (T.length : Int) (0 : Int)) = true) (.ok (impl_indexOf_u3_1 D (0 : Int) T (T.length : Int) (0 : Int)))
  .no)
def impl_indexOf_mk (p : Int) : Res := [(false, [⟨.int .i64, .sh, TC.i p⟩])]
noncomputable def impl_indexOf_c (D : List (List TC)) (T : List (List TC)) : Bool := (impl_indexOf_o3_1 D (0 : Int) T (T.length : Int) (0 : Int))
noncomputable def impl_indexOf_v (D : List (List TC)) (T : List (List TC)) : Int := (impl_indexOf_u3_1 D (0 : Int) T (T.length : Int) (0 : Int))
theorem impl_indexOf_l (D : List (List TC)) (T : List (List TC)) : (impl_indexOf_c D T) = true → (impl_indexOf_t D T).val = some (impl_indexOf_v D T) := by
  intro h
  have hc0 : (impl_indexOf_o3_1 D (0 : Int) T (T.length : Int) (0 : Int)) = true := h
  unfold impl_indexOf_t
  exact (Tr.t hc0 rfl)
noncomputable def impl_indexOf_S : List Arg → Option (Bool × Res) := fun xs => match xs with
  | [(false, [(.slice 2, TC.l D)]), (false, [(.slice 2, TC.l T)])] => some ((impl_indexOf_c D T), impl_indexOf_mk (impl_indexOf_v D T))
  | _ => .none
theorem impl_indexOf_e (D : List (List TC)) (T : List (List TC)) : runF tab FT D22 live 114 impl_indexOf_lo [(false, [(.slice 2, TC.l D)]), (false, [(.slice 2, TC.l T)])] = (impl_indexOf_t D T).run fun p => some (impl_indexOf_mk p) := by kernel_rfl
theorem impl_indexOf_s : ∀ xs r, impl_indexOf_S xs = some (true, r) → runF tab FT D22 live 114 impl_indexOf_lo xs = some r := by
  intro xs r h
  unfold impl_indexOf_S at h
  split at h
  · simp only [Option.some.injEq, Prod.mk.injEq] at h
    obtain ⟨h1, rfl⟩ := h
    exact fun_told (impl_indexOf_e _ _) (impl_indexOf_l _ _) h1
  · cases h
noncomputable def D23 : Dt := also D22 114 impl_indexOf_S
theorem d23 : DOk Go.Proofs.Try.prog tab D23 := d22.also mixed_ok tab_ok names_ok (fnLoops_one (by kernel_rfl) impl_indexOf_is3) impl_indexOf_s
theorem impl_indexOf_vv (D : List (List TC)) (T : List (List TC)) : impl_indexOf_v D T = indexN D T T.length := impl_indexOf_R3_eq D T
/-! impl_chunkOf -/
noncomputable def impl_chunkOf_f3 (C : List (List TC)) (T : List (List TC)) (m : Int) (i : Int) (X : List (List TC)) (Y : List (List TC)) : (List (List TC) × List (List TC)) ⊕ ((List (List TC) × List (List TC) × List (List TC))) := (.inl ((X ++ [[TC.i (IntKind.wrap .i64 (Int.tdiv ((nth (row T i) 0).int) ((nth (row C i) 0).int)))]]), (Y ++ [[TC.i (Int.tmod ((nth (row T i) 0).int) ((nth (row C i) 0).int))]])))
noncomputable def impl_chunkOf_e3 (C : List (List TC)) (T : List (List TC)) (m : Int) (X : List (List TC)) (Y : List (List TC)) : (List (List TC) × List (List TC) × List (List TC)) := (C, X, Y)
noncomputable def impl_chunkOf_R3 (C : List (List TC)) (X : List (List TC)) (Y : List (List TC)) (T : List (List TC)) (m : Int) (i : Int) : (List (List TC) × List (List TC) × List (List TC)) := iter (fun i a => (impl_chunkOf_f3 C T m (i : Int) (a.1) (a.2))) (fun a => (impl_chunkOf_e3 C T m (a.1) (a.2))) (T.length) 0 (X, Y)
abbrev impl_chunkOf_3_σ := List (List TC) × List (List TC) × List (List TC) × List (List TC) × Int × Int
abbrev impl_chunkOf_3_ω := (List (List TC) × List (List TC) × List (List TC))
noncomputable def impl_chunkOf_3_step (C : List (List TC)) (X : List (List TC)) (Y : List (List TC)) (T : List (List TC)) (m : Int) (i : Int) : Tr (impl_chunkOf_3_σ ⊕ impl_chunkOf_3_ω) := (.ite ((decide (i < m)) = true) (.ite ((0 : Int) ≤ i ∧ i < (T.length : Int)) (.ite ((0 : Int) ≤ i ∧ i < (C.length : Int)) (.ite ((nth (row C i) 0).int ≠ 0) (.ite (roomFor (tab 2) (X ++ [[TC.i (IntKind.wrap .i64 (Int.tdiv ((nth (row T i) 0).int) ((nth (row C i) 0).int)))]]).length) (.ite ((0 : Int) ≤ i ∧ i < (C.length : Int)) (.ite ((nth (row C i) 0).int ≠ 0) (.ite (roomFor (tab 2) (Y ++ [[TC.i (Int.tmod ((nth (row T i) 0).int) ((nth (row C i) 0).int))]]).length) (.ok (.inl (C, (X ++ [[TC.i (IntKind.wrap .i64 (Int.tdiv ((nth (row T i) 0).int) ((nth (row C i) 0).int)))]]), (Y ++ [[TC.i (Int.tmod ((nth (row T i) 0).int) ((nth (row C i) 0).int))]]), T, m, (IntKind.wrap .i64 (i + (1 : Int))))))
         .no)
        .no)
       .no)
      .no)
     .no)
    .no)
   .no)
  (.ok (.inr (C, X, Y))))
noncomputable def impl_chunkOf_3_st : impl_chunkOf_3_σ → Tr (impl_chunkOf_3_σ ⊕ impl_chunkOf_3_ω) := fun x => (impl_chunkOf_3_step (x.1) (x.2.1) (x.2.2.1) (x.2.2.2.1) (x.2.2.2.2.1) (x.2.2.2.2.2))
noncomputable def impl_chunkOf_o3_1 (C : List (List TC)) (X : List (List TC)) (Y : List (List TC)) (T : List (List TC)) (m : Int) (i : Int) : Bool := is (i = 0 ∧ Typed tab (.slice 2) (.l T) ∧ m = (T.length : Int) ∧ T.length = C.length ∧ (∀ j : Nat, j < C.length → (nth (row C (j : Int)) 0).int ≠ 0) ∧ X = [] ∧ Y = [])
noncomputable def impl_chunkOf_u3_1_0 (C : List (List TC)) (X : List (List TC)) (Y : List (List TC)) (T : List (List TC)) (m : Int) (i : Int) : List (List TC) := (impl_chunkOf_R3 C X Y T m i).1
noncomputable def impl_chunkOf_u3_1_1 (C : List (List TC)) (X : List (List TC)) (Y : List (List TC)) (T : List (List TC)) (m : Int) (i : Int) : List (List TC) := (impl_chunkOf_R3 C X Y T m i).2.1
noncomputable def impl_chunkOf_u3_1_2 (C : List (List TC)) (X : List (List TC)) (Y : List (List TC)) (T : List (List TC)) (m : Int) (i : Int) : List (List TC) := (impl_chunkOf_R3 C X Y T m i).2.2
noncomputable def impl_chunkOf_3_fin (C : List (List TC)) (X : List (List TC)) (Y : List (List TC)) (T : List (List TC)) (m : Int) (i : Int) : Told impl_chunkOf_3_ω := (.leaf (impl_chunkOf_o3_1 C X Y T m i) ((impl_chunkOf_u3_1_0 C X Y T m i), (impl_chunkOf_u3_1_1 C X Y T m i), (impl_chunkOf_u3_1_2 C X Y T m i)))
def impl_chunkOf_3_sl (x : impl_chunkOf_3_σ) : List Slot := [⟨.val false [⟨.slice 2, .sh, TC.l (x.1)⟩], ⟨0, 0⟩⟩, ⟨.val false [⟨.slice 2, .own true, TC.l (x.2.1)⟩], ⟨0, 0⟩⟩, ⟨.val false [⟨.slice 2, .own true, TC.l (x.2.2.1)⟩], ⟨0, 0⟩⟩, ⟨.val false [⟨.slice 2, .sh, TC.l (x.2.2.2.1)⟩], ⟨0, 0⟩⟩, ⟨.val false [⟨.int .i64, .sh, TC.i (x.2.2.2.2.1)⟩], ⟨0, 0⟩⟩, ⟨.val false [⟨.int .i64, .sh, TC.i (x.2.2.2.2.2)⟩], ⟨0, 0⟩⟩]
def impl_chunkOf_3_out : impl_chunkOf_3_ω → Ex × List Slot := (fun x => (.exit 0, [⟨.val false [⟨.slice 2, .sh, TC.l (x.1)⟩], ⟨0, 0⟩⟩, Slot.none, Slot.none, ⟨.val false [⟨.slice 2, .own true, TC.l (x.2.1)⟩], ⟨0, 0⟩⟩, ⟨.val false [⟨.slice 2, .own true, TC.l (x.2.2)⟩], ⟨0, 0⟩⟩]))
noncomputable def impl_chunkOf_lo3 : List Slot → Option (Told (Ex × List Slot)) := fun s => match s with
  | [⟨.val false [⟨.slice 2, .sh, TC.l C⟩], ⟨0, 0⟩⟩, ⟨.val false [⟨.slice 2, .own true, TC.l X⟩], ⟨0, 0⟩⟩, ⟨.val false [⟨.slice 2, .own true, TC.l Y⟩], ⟨0, 0⟩⟩, ⟨.val false [⟨.slice 2, .sh, TC.l T⟩], ⟨0, 0⟩⟩, ⟨.val false [⟨.int .i64, .sh, TC.i m⟩], ⟨0, 0⟩⟩, ⟨.val false [⟨.int .i64, .sh, TC.i i⟩], ⟨0, 0⟩⟩] => some (((impl_chunkOf_3_fin C X Y T m i)).map impl_chunkOf_3_out)
  | _ => .none
noncomputable def impl_chunkOf_lo : LoopTeller := fun r s => bif Nat.beq r 3 then impl_chunkOf_lo3 s else .none
theorem impl_chunkOf_3_r (C : List (List TC)) (X : List (List TC)) (Y : List (List TC)) (T : List (List TC)) (m : Int) (i : Int) (fuel : Nat) : rounds (rnd tab FT D23 live 67 impl_chunkOf_lo 0 3) leave (fuel + 1) (impl_chunkOf_3_sl (C, X, Y, T, m, i)) = ((impl_chunkOf_3_step C X Y T m i)).run (goOn (fun s => rounds (rnd tab FT D23 live 67 impl_chunkOf_lo 0 3) leave fuel (impl_chunkOf_3_sl s)) fun w => some (impl_chunkOf_3_out w)) := by kernel_rfl
theorem impl_chunkOf_R3_eq (C T : List (List TC)) : impl_chunkOf_R3 C [] [] T (T.length : Int) 0 = (C, (divs C T T.length).1, (divs C T T.length).2) := by
  unfold impl_chunkOf_R3
  exact iter_each (g := divStep C T) (fin := fun a => impl_chunkOf_e3 C T (T.length : Int) a.1 a.2) fun j a hj => rfl
theorem impl_chunkOf_u3_0 (C T : List (List TC)) : impl_chunkOf_u3_1_0 C [] [] T (T.length : Int) 0 = C := by
  unfold impl_chunkOf_u3_1_0
  rw [impl_chunkOf_R3_eq]
theorem impl_chunkOf_u3_1 (C T : List (List TC)) : impl_chunkOf_u3_1_1 C [] [] T (T.length : Int) 0 = (divs C T T.length).1 := by
  unfold impl_chunkOf_u3_1_1
  rw [impl_chunkOf_R3_eq]
theorem impl_chunkOf_u3_2 (C T : List (List TC)) : impl_chunkOf_u3_1_2 C [] [] T (T.length : Int) 0 = (divs C T T.length).2 := by
  unfold impl_chunkOf_u3_1_2
  rw [impl_chunkOf_R3_eq]
theorem impl_chunkOf_3_h (C : List (List TC)) (X : List (List TC)) (Y : List (List TC)) (T : List (List TC)) (m : Int) (i : Int) (ow : impl_chunkOf_3_ω) : ((impl_chunkOf_3_fin C X Y T m i)).val = some ow → ∃ fuel, loopN impl_chunkOf_3_st fuel (C, X, Y, T, m, i) = some ow := by
  refine auto_leaf (R := (impl_chunkOf_R3 C X Y T m i)) ?_
  intro ho
  have ho : is (i = 0 ∧ Typed tab (.slice 2) (.l T) ∧ m = (T.length : Int) ∧ T.length = C.length ∧ (∀ j : Nat, j < C.length → (nth (row C (j : Int)) 0).int ≠ 0) ∧ X = [] ∧ Y = []) = true := ho
  obtain ⟨rfl, ht, rfl, hl, hz, rfl, rfl⟩ := is_iff.1 ho
  have hlen : T.length ≤ 140737488351232 := by have := typed_room ht; simp only [show (tab 2).bytes = 8 from rfl] at this; omega
  refine ⟨(T.length) + 1, ?_⟩
  refine iter_loop (step := impl_chunkOf_3_st) (a := (([] : List (List TC)), ([] : List (List TC)))) (T.length) (fun i a => (impl_chunkOf_f3 C T (T.length : Int) (i : Int) (a.1) (a.2))) (fun a => (impl_chunkOf_e3 C T (T.length : Int) (a.1) (a.2))) (fun i a => (C, a.1, a.2, T, (T.length : Int), (i : Int))) (fun i (a : List (List TC) × List (List TC)) => a.1.length = i ∧ a.2.length = i) ⟨rfl, rfl⟩ (fun i a hi hI => ⟨?_, fun a' h => by
    unfold impl_chunkOf_f3 at h
    cases h
    simp only [List.length_append, List.length_singleton]
    omega⟩) (fun a hI => ?_)
  · show (impl_chunkOf_3_step C (a.1) (a.2) T (T.length : Int) (i : Int)).val = _
    unfold impl_chunkOf_3_step impl_chunkOf_f3
    skip
    refine Tr.t (by simp; omega) ?_
    exact (Tr.t (by first | omega | (constructor <;> omega) | (exact hz i (by omega)) | (unfold roomFor; simp only [show (tab 2).bytes = 8 from rfl, List.length_append, List.length_singleton]; have hI := hI; have hlen8 : T.length ≤ 17592186043904 := (by have := typed_room ht; simp only [show (tab 2).bytes = 8 from rfl] at this; omega); omega)) (Tr.t (by first | omega | (constructor <;> omega) | (exact hz i (by omega)) | (unfold roomFor; simp only [show (tab 2).bytes = 8 from rfl, List.length_append, List.length_singleton]; have hI := hI; have hlen8 : T.length ≤ 17592186043904 := (by have := typed_room ht; simp only [show (tab 2).bytes = 8 from rfl] at this; omega); omega)) (Tr.t (by first | omega | (constructor <;> omega) | (exact hz i (by omega)) | (unfold roomFor; simp only [show (tab 2).bytes = 8 from rfl, List.length_append, List.length_singleton]; have hI := hI; have hlen8 : T.length ≤ 17592186043904 := (by have := typed_room ht; simp only [show (tab 2).bytes = 8 from rfl] at this; omega); omega)) (Tr.t (by first | omega | (constructor <;> omega) | (exact hz i (by omega)) | (unfold roomFor; simp only [show (tab 2).bytes = 8 from rfl, List.length_append, List.length_singleton]; have hI := hI; have hlen8 : T.length ≤ 17592186043904 := (by have := typed_room ht; simp only [show (tab 2).bytes = 8 from rfl] at this; omega); omega)) (Tr.t (by first | omega | (constructor <;> omega) | (exact hz i (by omega)) | (unfold roomFor; simp only [show (tab 2).bytes = 8 from rfl, List.length_append, List.length_singleton]; have hI := hI; have hlen8 : T.length ≤ 17592186043904 := (by have := typed_room ht; simp only [show (tab 2).bytes = 8 from rfl] at this; omega); omega)) (Tr.t (by first | omega | (constructor <;> omega) | (exact hz i (by omega)) | (unfold roomFor; simp only [show (tab 2).bytes = 8 from rfl, List.length_append, List.length_singleton]; have hI := hI; have hlen8 : T.length ≤ 17592186043904 := (by have := typed_room ht; simp only [show (tab 2).bytes = 8 from rfl] at this; omega); omega)) (Tr.t (by first | omega | (constructor <;> omega) | (exact hz i (by omega)) | (unfold roomFor; simp only [show (tab 2).bytes = 8 from rfl, List.length_append, List.length_singleton]; have hI := hI; have hlen8 : T.length ≤ 17592186043904 := (by have := typed_room ht; simp only [show (tab 2).bytes = 8 from rfl] at this; omega); omega)) (by rw [Tr.val_ok, wrap64 (i := (i : Int) + 1) (by omega) (by omega)]; rfl))))))))
  · show (impl_chunkOf_3_step C (a.1) (a.2) T (T.length : Int) (T.length : Int)).val = _
    refine Tr.n (by first | (simp; done) | (simp; omega) | omega) ?_
    rfl
theorem impl_chunkOf_is3 : LoopIs tab FT D23 live 67 impl_chunkOf_lo 0 3 := by
  refine loop_told (sl := impl_chunkOf_3_sl) (step := impl_chunkOf_3_st) (out := impl_chunkOf_3_out) (lor := impl_chunkOf_lo3) (fin := fun x => (impl_chunkOf_3_fin (x.1) (x.2.1) (x.2.2.1) (x.2.2.2.1) (x.2.2.2.2.1) (x.2.2.2.2.2))) (fun _ => rfl) ?_ (fun x n => impl_chunkOf_3_r x.1 x.2.1 x.2.2.1 x.2.2.2.1 x.2.2.2.2.1 x.2.2.2.2.2 n) (fun x ow => impl_chunkOf_3_h x.1 x.2.1 x.2.2.1 x.2.2.2.1 x.2.2.2.2.1 x.2.2.2.2.2 ow)
  intro s t h
  unfold impl_chunkOf_lo3 at h
  split at h
  · cases h; exact ⟨(_, _, _, _, _, _), rfl, rfl⟩
  · cases h
noncomputable def impl_chunkOf_t (C : List (List TC)) (T : List (List TC)) : Tr (Int × Int) := (.ite ((impl_chunkOf_o3_1 C [] [] T (T.length : Int) (0 : Int)) = true) (.ite ((impl_keyOf_c (impl_chunkOf_u3_1_1 C [] [] T (T.length : Int) (0 : Int))) = true) (.ite ((impl_indexOf_c (impl_chunkOf_u3_1_0 C [] [] T (T.length : Int) (0 : Int)) (impl_chunkOf_u3_1_2 C [] [] T (T.length : Int) (0 : Int))) = true) (.ok ((impl_keyOf_v (impl_chunkOf_u3_1_1 C [] [] T (T.length : Int) (0 : Int))), (impl_indexOf_v (impl_chunkOf_u3_1_0 C [] [] T (T.length : Int) (0 : Int)) (impl_chunkOf_u3_1_2 C [] [] T (T.length : Int) (0 : Int)))))
    .no)
   .no)
  .no)
def impl_chunkOf_mk (p : Int × Int) : Res := [(false, [⟨.int .i64, .sh, TC.i (p.1)⟩]), (false, [⟨.int .i64, .sh, TC.i (p.2)⟩])]
noncomputable def impl_chunkOf_c (C : List (List TC)) (T : List (List TC)) : Bool := ((impl_chunkOf_o3_1 C [] [] T (T.length : Int) (0 : Int)) && ((impl_keyOf_c (impl_chunkOf_u3_1_1 C [] [] T (T.length : Int) (0 : Int))) && ((impl_indexOf_c (impl_chunkOf_u3_1_0 C [] [] T (T.length : Int) (0 : Int)) (impl_chunkOf_u3_1_2 C [] [] T (T.length : Int) (0 : Int))) && true)))
noncomputable def impl_chunkOf_v (C : List (List TC)) (T : List (List TC)) : Int × Int := ((impl_keyOf_v (impl_chunkOf_u3_1_1 C [] [] T (T.length : Int) (0 : Int))), (impl_indexOf_v (impl_chunkOf_u3_1_0 C [] [] T (T.length : Int) (0 : Int)) (impl_chunkOf_u3_1_2 C [] [] T (T.length : Int) (0 : Int))))
theorem impl_chunkOf_l (C : List (List TC)) (T : List (List TC)) : (impl_chunkOf_c C T) = true → (impl_chunkOf_t C T).val = some (impl_chunkOf_v C T) := by
  unfold impl_chunkOf_t impl_chunkOf_v impl_chunkOf_c
  exact fun h => (Tr.gb h fun h => (Tr.gb h fun h => (Tr.gb h fun h => rfl)))
noncomputable def impl_chunkOf_S : List Arg → Option (Bool × Res) := fun xs => match xs with
  | [(false, [(.slice 2, TC.l C)]), (false, [(.slice 2, TC.l T)])] => some ((impl_chunkOf_c C T), impl_chunkOf_mk (impl_chunkOf_v C T))
  | _ => .none
theorem impl_chunkOf_e (C : List (List TC)) (T : List (List TC)) : runF tab FT D23 live 67 impl_chunkOf_lo [(false, [(.slice 2, TC.l C)]), (false, [(.slice 2, TC.l T)])] = (impl_chunkOf_t C T).run fun p => some (impl_chunkOf_mk p) := by kernel_rfl
theorem impl_chunkOf_s : ∀ xs r, impl_chunkOf_S xs = some (true, r) → runF tab FT D23 live 67 impl_chunkOf_lo xs = some r := by
  intro xs r h
  unfold impl_chunkOf_S at h
  split at h
  · simp only [Option.some.injEq, Prod.mk.injEq] at h
    obtain ⟨h1, rfl⟩ := h
    exact fun_told (impl_chunkOf_e _ _) (impl_chunkOf_l _ _) h1
  · cases h
noncomputable def D24 : Dt := also D23 67 impl_chunkOf_S
theorem d24 : DOk Go.Proofs.Try.prog tab D24 := d23.also mixed_ok tab_ok names_ok (fnLoops_one (by kernel_rfl) impl_chunkOf_is3) impl_chunkOf_s
theorem impl_chunkOf_cc {C : List (List TC)} {T : List (List TC)} (hT : Typed tab (.slice 2) (.l T)) (hl : T.length = C.length) (hz : ∀ j : Nat, j < C.length → (nth (row C (j : Int)) 0).int ≠ 0) : (impl_chunkOf_c C T) = true := by
  unfold impl_chunkOf_c
  refine andT (by exact is_true ⟨rfl, hT, rfl, hl, hz, rfl, rfl⟩) ?_
  refine andT (by rw [impl_chunkOf_u3_1]; have hlen := typed_room hT; simp only [show (tab 2).bytes = 8 from rfl] at hlen; exact is_true ⟨rfl, rfl, by rw [divs_len.1]; omega, rfl⟩) ?_
  refine andT (by rw [impl_chunkOf_u3_0, impl_chunkOf_u3_2]; have hlen := typed_room hT; simp only [show (tab 2).bytes = 8 from rfl] at hlen; exact is_true ⟨rfl, rfl, by first | (rw [divs_len.2]; omega) | omega, rfl, by rw [divs_len.2]; omega⟩) ?_
  rfl
theorem impl_chunkOf_vv (C T : List (List TC)) (hl : T.length = C.length) : impl_chunkOf_v C T = (keyL (divs C T T.length).1, indexN C (divs C T T.length).2 T.length) := by
  unfold impl_chunkOf_v
  rw [impl_chunkOf_u3_0, impl_chunkOf_u3_1, impl_chunkOf_u3_2, impl_keyOf_vv, impl_indexOf_vv]
  rw [divs_len.2]
/-! impl_ChunkOf -/
noncomputable def impl_ChunkOf_t (D : List (List TC)) (C : List (List TC)) (T : List (List TC)) : Tr (Int × Int) := (.ite ((impl_ValidChunk_c D C) = true) (.ite ((!(impl_ValidChunk_v D C)) = true) (.ok ((-1 : Int), (-1 : Int)))
   (.ite ((impl_inDims_c D T) = true) (.ite ((!(impl_inDims_v D T)) = true) (.ok ((-1 : Int), (-1 : Int)))
     (.ite ((impl_chunkOf_c C T) = true) (.ok ((impl_chunkOf_v C T).1, (impl_chunkOf_v C T).2))
      .no))
    .no))
  .no)
def impl_ChunkOf_mk (p : Int × Int) : Res := [(false, [⟨.int .i64, .sh, TC.i (p.1)⟩]), (false, [⟨.int .i64, .sh, TC.i (p.2)⟩])]
noncomputable def impl_ChunkOf_c (D : List (List TC)) (C : List (List TC)) (T : List (List TC)) : Bool := is (Typed tab (.slice 2) (.l D) ∧ Typed tab (.slice 2) (.l C) ∧ Typed tab (.slice 2) (.l T))
noncomputable def impl_ChunkOf_v (D : List (List TC)) (C : List (List TC)) (T : List (List TC)) : Int × Int := hid (chunkOfV D C T)
theorem impl_ChunkOf_l (D : List (List TC)) (C : List (List TC)) (T : List (List TC)) : (impl_ChunkOf_c D C T) = true → (impl_ChunkOf_t D C T).val = some (impl_ChunkOf_v D C T) := by
  intro h
  obtain ⟨hD, hC, hT⟩ := is_iff.1 h
  unfold impl_ChunkOf_t impl_ChunkOf_v
  rw [hid_eq]
  refine Tr.t (impl_ValidChunk_cc hD hC) ?_
  rw [impl_ValidChunk_vv]
  unfold chunkOfV
  cases h : chunkOk D C with
  | false => exact Tr.t rfl rfl
  | true =>
    refine Tr.n (by simp) (Tr.t (impl_inDims_cc hT) ?_)
    rw [impl_inDims_vv]
    cases h' : insideOk D T with
    | false => exact Tr.t rfl rfl
    | true =>
      have hp := chunkOf_parts h h'
      refine Tr.n (by simp) (Tr.t (impl_chunkOf_cc hT hp.1 hp.2) ?_)
      rw [Tr.val_ok]
      exact congrArg some (impl_chunkOf_vv C T hp.1)
noncomputable def impl_ChunkOf_S : List Arg → Option (Bool × Res) := fun xs => match xs with
  | [(false, [(.slice 2, TC.l D)]), (false, [(.slice 2, TC.l C)]), (false, [(.slice 2, TC.l T)])] => some ((impl_ChunkOf_c D C T), impl_ChunkOf_mk (impl_ChunkOf_v D C T))
  | _ => .none
theorem impl_ChunkOf_e (D : List (List TC)) (C : List (List TC)) (T : List (List TC)) : runF tab FT D24 live 26 noLoops [(false, [(.slice 2, TC.l D)]), (false, [(.slice 2, TC.l C)]), (false, [(.slice 2, TC.l T)])] = (impl_ChunkOf_t D C T).run fun p => some (impl_ChunkOf_mk p) := by kernel_rfl
theorem impl_ChunkOf_s : ∀ xs r, impl_ChunkOf_S xs = some (true, r) → runF tab FT D24 live 26 noLoops xs = some r := by
  intro xs r h
  unfold impl_ChunkOf_S at h
  split at h
  · simp only [Option.some.injEq, Prod.mk.injEq] at h
    obtain ⟨h1, rfl⟩ := h
    exact fun_told (impl_ChunkOf_e _ _ _) (impl_ChunkOf_l _ _ _) h1
  · cases h
noncomputable def D25 : Dt := also D24 26 impl_ChunkOf_S
theorem d25 : DOk Go.Proofs.Try.prog tab D25 := d24.also mixed_ok tab_ok names_ok noLoops_ok impl_ChunkOf_s
theorem impl_ChunkOf_vv (D C T : List (List TC)) : impl_ChunkOf_v D C T = chunkOfV D C T := hid_eq _
/-! laws_eqInt64S -/
abbrev laws_eqInt64S_4_σ := List (List TC) × List (List TC) × Int
abbrev laws_eqInt64S_4_ω := (Unit) ⊕ (Unit)
noncomputable def laws_eqInt64S_4_step (A : List (List TC)) (C : List (List TC)) (i : Int) : Tr (laws_eqInt64S_4_σ ⊕ laws_eqInt64S_4_ω) := (.ite ((decide (i < (A.length : Int))) = true) (.ite ((0 : Int) ≤ i ∧ i < (A.length : Int)) (.ite ((0 : Int) ≤ i ∧ i < (C.length : Int)) (.ite ((!((nth (row A i) 0).int == (nth (row C i) 0).int)) = true) (.ok (.inr (.inl ())))
     (.ok (.inl (A, C, (IntKind.wrap .i64 (i + (1 : Int)))))))
    .no)
   .no)
  (.ok (.inr (.inr ()))))
noncomputable def laws_eqInt64S_4_st : laws_eqInt64S_4_σ → Tr (laws_eqInt64S_4_σ ⊕ laws_eqInt64S_4_ω) := fun x => (laws_eqInt64S_4_step (x.1) (x.2.1) (x.2.2))
noncomputable def laws_eqInt64S_o4_1 (A : List (List TC)) (C : List (List TC)) (i : Int) : Bool := is (A = C ∧ i = 0 ∧ Typed tab (.slice 2) (.l A))
noncomputable def laws_eqInt64S_4_fin (A : List (List TC)) (C : List (List TC)) (i : Int) : Told laws_eqInt64S_4_ω := (.leaf (laws_eqInt64S_o4_1 A C i) (.inr ()))
def laws_eqInt64S_4_sl (x : laws_eqInt64S_4_σ) : List Slot := [⟨.val false [⟨.slice 2, .sh, TC.l (x.1)⟩], ⟨0, 0⟩⟩, ⟨.val false [⟨.slice 2, .sh, TC.l (x.2.1)⟩], ⟨0, 0⟩⟩, ⟨.val false [⟨.int .i64, .sh, TC.i (x.2.2)⟩], ⟨0, 0⟩⟩]
def laws_eqInt64S_4_out : laws_eqInt64S_4_ω → Ex × List Slot := (Sum.elim (fun x => (.ret, [⟨.val false [⟨.bool, .sh, TC.b false⟩], ⟨0, 0⟩⟩])) (fun x => (.exit 0, [Slot.none])))
noncomputable def laws_eqInt64S_lo4 : List Slot → Option (Told (Ex × List Slot)) := fun s => match s with
  | [⟨.val false [⟨.slice 2, .sh, TC.l A⟩], ⟨0, 0⟩⟩, ⟨.val false [⟨.slice 2, .sh, TC.l C⟩], ⟨0, 0⟩⟩, ⟨.val false [⟨.int .i64, .sh, TC.i i⟩], ⟨0, 0⟩⟩] => some (((laws_eqInt64S_4_fin A C i)).map laws_eqInt64S_4_out)
  | _ => .none
noncomputable def laws_eqInt64S_lo : LoopTeller := fun r s => bif Nat.beq r 4 then laws_eqInt64S_lo4 s else .none
theorem laws_eqInt64S_4_r (A : List (List TC)) (C : List (List TC)) (i : Int) (fuel : Nat) : rounds (rnd tab FT D25 live 19 laws_eqInt64S_lo 0 4) leave (fuel + 1) (laws_eqInt64S_4_sl (A, C, i)) = ((laws_eqInt64S_4_step A C i)).run (goOn (fun s => rounds (rnd tab FT D25 live 19 laws_eqInt64S_lo 0 4) leave fuel (laws_eqInt64S_4_sl s)) fun w => some (laws_eqInt64S_4_out w)) := by kernel_rfl
theorem laws_eqInt64S_4_h (A : List (List TC)) (C : List (List TC)) (i : Int) (ow : laws_eqInt64S_4_ω) : ((laws_eqInt64S_4_fin A C i)).val = some ow → ∃ fuel, loopN laws_eqInt64S_4_st fuel (A, C, i) = some ow := by
  intro h
  simp only [laws_eqInt64S_4_fin, Told.val] at h
  split at h
  · rename_i ho
    obtain ⟨rfl, rfl, ht⟩ := is_iff.1 ho
    cases h
    have hlen : A.length ≤ 140737488351232 := by have := typed_room ht; simp only [show (tab 2).bytes = 8 from rfl] at this; omega
    refine ⟨_, loopN_run (N := A.length) (fun i => (A, A, (i : Int))) (fun i hi => ?_) ?_ A.length 0 (by omega)⟩
    · skip
      show (laws_eqInt64S_4_step A A (i : Int)).val = _
      unfold laws_eqInt64S_4_step
      refine Tr.t (by simp; omega) ?_
      refine Tr.t (by constructor <;> omega) ?_
      refine Tr.t (by constructor <;> omega) ?_
      refine Tr.n (by simp) ?_
      rw [Tr.val_ok, wrap64 (i := (i : Int) + 1) (by omega) (by omega)]; rfl
    · show (laws_eqInt64S_4_step A A (A.length : Int)).val = _
      refine Tr.n (by simp) ?_
      rfl
  · cases h
theorem laws_eqInt64S_is4 : LoopIs tab FT D25 live 19 laws_eqInt64S_lo 0 4 := by
  refine loop_told (sl := laws_eqInt64S_4_sl) (step := laws_eqInt64S_4_st) (out := laws_eqInt64S_4_out) (lor := laws_eqInt64S_lo4) (fin := fun x => (laws_eqInt64S_4_fin (x.1) (x.2.1) (x.2.2))) (fun _ => rfl) ?_ (fun x n => laws_eqInt64S_4_r x.1 x.2.1 x.2.2 n) (fun x ow => laws_eqInt64S_4_h x.1 x.2.1 x.2.2 ow)
  intro s t h
  unfold laws_eqInt64S_lo4 at h
  split at h
  · cases h; exact ⟨(_, _, _), rfl, rfl⟩
  · cases h
noncomputable def laws_eqInt64S_t (A : List (List TC)) (C : List (List TC)) : Tr (Bool) := (.ite ((!((A.length : Int) == (C.length : Int))) = true) (.ok false)
  (.ite ((laws_eqInt64S_o4_1 A C (0 : Int)) = true) (.ok true)
   .no))
def laws_eqInt64S_mk (p : Bool) : Res := [(false, [⟨.bool, .sh, TC.b p⟩])]
noncomputable def laws_eqInt64S_c (A : List (List TC)) (C : List (List TC)) : Bool := is (A = C ∧ Typed tab (.slice 2) (.l A))
noncomputable def laws_eqInt64S_v (A : List (List TC)) (C : List (List TC)) : Bool := true
theorem laws_eqInt64S_l (A : List (List TC)) (C : List (List TC)) : (laws_eqInt64S_c A C) = true → (laws_eqInt64S_t A C).val = some (laws_eqInt64S_v A C) := by
  intro h
  obtain ⟨rfl, ht⟩ := is_iff.1 h
  unfold laws_eqInt64S_t
  refine Tr.n (by simp) ?_
  refine Tr.t (by first | (apply is_true; and_intros <;> (first | rfl | assumption | (apply spec_l20Ok_cc <;> assumption) | (apply spec_l05Inside_cc <;> assumption) | (apply spec_l20Of_cc <;> assumption) | (apply impl_ValidChunk_cc <;> assumption) | (apply impl_inDims_cc <;> assumption) | (apply impl_chunkOf_cc <;> assumption) | (first | (apply is_true; and_intros <;> (first | rfl | assumption | (apply spec_l20Ok_cc <;> assumption) | (apply spec_l05Inside_cc <;> assumption) | (apply spec_l20Of_cc <;> assumption) | (apply impl_ValidChunk_cc <;> assumption) | (apply impl_inDims_cc <;> assumption) | (apply impl_chunkOf_cc <;> assumption) | (first | (apply is_true; and_intros <;> (first | rfl | assumption | (apply spec_l20Ok_cc <;> assumption) | (apply spec_l05Inside_cc <;> assumption) | (apply spec_l20Of_cc <;> assumption) | (apply impl_ValidChunk_cc <;> assumption) | (apply impl_inDims_cc <;> assumption) | (apply impl_chunkOf_cc <;> assumption) | (first | (apply is_true; and_intros <;> (first | rfl | assumption | (apply spec_l20Ok_cc <;> assumption) | (apply spec_l05Inside_cc <;> assumption) | (apply spec_l20Of_cc <;> assumption) | (apply impl_ValidChunk_cc <;> assumption) | (apply impl_inDims_cc <;> assumption) | (apply impl_chunkOf_cc <;> assumption))) | (apply spec_l20Ok_cc <;> assumption) | (apply spec_l05Inside_cc <;> assumption) | (apply spec_l20Of_cc <;> assumption) | (apply impl_ValidChunk_cc <;> assumption) | (apply impl_inDims_cc <;> assumption) | (apply impl_chunkOf_cc <;> assumption)))) | (apply spec_l20Ok_cc <;> assumption) | (apply spec_l05Inside_cc <;> assumption) | (apply spec_l20Of_cc <;> assumption) | (apply impl_ValidChunk_cc <;> assumption) | (apply impl_inDims_cc <;> assumption) | (apply impl_chunkOf_cc <;> assumption)))) | (apply spec_l20Ok_cc <;> assumption) | (apply spec_l05Inside_cc <;> assumption) | (apply spec_l20Of_cc <;> assumption) | (apply impl_ValidChunk_cc <;> assumption) | (apply impl_inDims_cc <;> assumption) | (apply impl_chunkOf_cc <;> assumption)))) | (apply spec_l20Ok_cc <;> assumption) | (apply spec_l05Inside_cc <;> assumption) | (apply spec_l20Of_cc <;> assumption) | (apply impl_ValidChunk_cc <;> assumption) | (apply impl_inDims_cc <;> assumption) | (apply impl_chunkOf_cc <;> assumption)) ?_
  rfl
noncomputable def laws_eqInt64S_S : List Arg → Option (Bool × Res) := fun xs => match xs with
  | [(false, [(.slice 2, TC.l A)]), (false, [(.slice 2, TC.l C)])] => some ((laws_eqInt64S_c A C), laws_eqInt64S_mk (laws_eqInt64S_v A C))
  | _ => .none
theorem laws_eqInt64S_e (A : List (List TC)) (C : List (List TC)) : runF tab FT D25 live 19 laws_eqInt64S_lo [(false, [(.slice 2, TC.l A)]), (false, [(.slice 2, TC.l C)])] = (laws_eqInt64S_t A C).run fun p => some (laws_eqInt64S_mk p) := by kernel_rfl
theorem laws_eqInt64S_s : ∀ xs r, laws_eqInt64S_S xs = some (true, r) → runF tab FT D25 live 19 laws_eqInt64S_lo xs = some r := by
  intro xs r h
  unfold laws_eqInt64S_S at h
  split at h
  · simp only [Option.some.injEq, Prod.mk.injEq] at h
    obtain ⟨h1, rfl⟩ := h
    exact fun_told (laws_eqInt64S_e _ _) (laws_eqInt64S_l _ _) h1
  · cases h
noncomputable def D26 : Dt := also D25 19 laws_eqInt64S_S
theorem d26 : DOk Go.Proofs.Try.prog tab D26 := d25.also mixed_ok tab_ok names_ok (fnLoops_one (by kernel_rfl) laws_eqInt64S_is4) laws_eqInt64S_s
/-! the law -/
noncomputable def laws_FnExactChunkOf_t (x0 : List (List TC)) (x1 : List (List TC)) (x2 : List (List TC)) : Tr Bool := (.ite ((decide ((x0.length : Int) > (1048576 : Int))) = true) (.ok true)
  (.ite ((decide ((x1.length : Int) > (1048576 : Int))) = true) (.ok true)
   (.ite ((decide ((x2.length : Int) > (1048576 : Int))) = true) (.ok true)
    (.ite ((laws_toInt64S_c x0) = true) (.ite ((laws_toInt64S_c x1) = true) (.ite ((laws_toInt64S_c x2) = true) (.ite ((spec_ChunkOf_c (laws_toInt64S_v x0) (laws_toInt64S_v x1) (laws_toInt64S_v x2)) = true) (.ite ((laws_toInt64S_c x0) = true) (.ite ((laws_toInt64S_c x1) = true) (.ite ((laws_toInt64S_c x2) = true) (.ite ((impl_ChunkOf_c (laws_toInt64S_v x0) (laws_toInt64S_v x1) (laws_toInt64S_v x2)) = true) (.ite ((!((impl_ChunkOf_v (laws_toInt64S_v x0) (laws_toInt64S_v x1) (laws_toInt64S_v x2)).1 == (spec_ChunkOf_v (laws_toInt64S_v x0) (laws_toInt64S_v x1) (laws_toInt64S_v x2)).1)) = true) (.ok false)
             (.ite ((!((impl_ChunkOf_v (laws_toInt64S_v x0) (laws_toInt64S_v x1) (laws_toInt64S_v x2)).2 == (spec_ChunkOf_v (laws_toInt64S_v x0) (laws_toInt64S_v x1) (laws_toInt64S_v x2)).2)) = true) (.ok false)
              (.ite ((laws_toInt64S_c x0) = true) (.ite ((laws_eqInt64S_c (laws_toInt64S_v x0) (laws_toInt64S_v x0)) = true) (.ite ((!(laws_eqInt64S_v (laws_toInt64S_v x0) (laws_toInt64S_v x0))) = true) (.ok false)
                 (.ite ((laws_toInt64S_c x1) = true) (.ite ((laws_eqInt64S_c (laws_toInt64S_v x1) (laws_toInt64S_v x1)) = true) (.ite ((!(laws_eqInt64S_v (laws_toInt64S_v x1) (laws_toInt64S_v x1))) = true) (.ok false)
                    (.ite ((laws_toInt64S_c x2) = true) (.ite ((laws_eqInt64S_c (laws_toInt64S_v x2) (laws_toInt64S_v x2)) = true) (.ite ((!(laws_eqInt64S_v (laws_toInt64S_v x2) (laws_toInt64S_v x2))) = true) (.ok false)
                       (.ok true))
                      .no)
                     .no))
                   .no)
                  .no))
                .no)
               .no)))
            .no)
           .no)
          .no)
         .no)
        .no)
       .no)
      .no)
     .no))))
noncomputable def laws_FnExactChunkOf_go (ops : List Oper) (σ : St) : St := (runOps tab 69 D26 ops ops σ [] (fun σ' _ => some σ')).getD σ
noncomputable def laws_FnExactChunkOf_K (e : Ex) (σ : St) : Option Res := match e with | .exit _ => .none | _ => resultsOf tab σ [.tmp 6]
noncomputable def laws_FnExactChunkOf_q0 : Code := match bodyOf FT 4 with | .seq _ c => c | _ => .skip
noncomputable def laws_FnExactChunkOf_o0 : List Oper := match bodyOf FT 4 with | .seq (.region _ ops _) _ => ops.toList | _ => []
noncomputable def laws_FnExactChunkOf_z0 (x0 : List (List TC)) (x1 : List (List TC)) (x2 : List (List TC)) : St := laws_FnExactChunkOf_go laws_FnExactChunkOf_o0 (argsSt [(false, [(.slice 2, TC.l x0)]), (false, [(.slice 2, TC.l x1)]), (false, [(.slice 2, TC.l x2)])])
theorem laws_FnExactChunkOf_w0 (x0 : List (List TC)) (x1 : List (List TC)) (x2 : List (List TC)) : runF tab FT D26 live 4 noLoops [(false, [(.slice 2, TC.l x0)]), (false, [(.slice 2, TC.l x1)]), (false, [(.slice 2, TC.l x2)])] = runT tab 69 D26 (live 4) noLoops laws_FnExactChunkOf_q0 (laws_FnExactChunkOf_z0 x0 x1 x2) laws_FnExactChunkOf_K := by kernel_rfl
noncomputable def laws_FnExactChunkOf_q1 : Code := match laws_FnExactChunkOf_q0 with | .seq _ c => c | _ => .skip
noncomputable def laws_FnExactChunkOf_i1 : Nat := match laws_FnExactChunkOf_q0 with | .seq (.seq (.region i _ _) _) _ => i | _ => 0
noncomputable def laws_FnExactChunkOf_O1 : Array Oper := match laws_FnExactChunkOf_q0 with | .seq (.seq (.region _ ops _) _) _ => ops | _ => #[]
noncomputable def laws_FnExactChunkOf_o1 : List Oper := laws_FnExactChunkOf_O1.toList
noncomputable def laws_FnExactChunkOf_p1 : Operand := match laws_FnExactChunkOf_q0 with | .seq (.seq _ (.cond c _ _)) _ => c | _ => .const (.bool false)
noncomputable def laws_FnExactChunkOf_z1 (x0 : List (List TC)) (x1 : List (List TC)) (x2 : List (List TC)) : St := substC (laws_FnExactChunkOf_go laws_FnExactChunkOf_o1 (laws_FnExactChunkOf_z0 x0 x1 x2)) laws_FnExactChunkOf_p1 false
noncomputable def laws_FnExactChunkOf_a1 : Code := match laws_FnExactChunkOf_q0 with | .seq (.seq _ (.cond _ a _)) _ => a | _ => .skip
theorem laws_FnExactChunkOf_r1 (x0 : List (List TC)) (x1 : List (List TC)) (x2 : List (List TC)) (F : St → Option Res) : runRegion tab 69 D26 laws_FnExactChunkOf_o1 false (laws_FnExactChunkOf_z0 x0 x1 x2) F = F (laws_FnExactChunkOf_go laws_FnExactChunkOf_o1 (laws_FnExactChunkOf_z0 x0 x1 x2)) := by kernel_rfl
theorem laws_FnExactChunkOf_c1 (x0 : List (List TC)) (x1 : List (List TC)) (x2 : List (List TC)) : condOf (laws_FnExactChunkOf_go laws_FnExactChunkOf_o1 (laws_FnExactChunkOf_z0 x0 x1 x2)) laws_FnExactChunkOf_p1 = some ((decide ((x0.length : Int) > (1048576 : Int)))) := by kernel_rfl
theorem laws_FnExactChunkOf_x1 (x0 : List (List TC)) (x1 : List (List TC)) (x2 : List (List TC)) : runT tab 69 D26 (live 4) noLoops laws_FnExactChunkOf_a1 (substC (laws_FnExactChunkOf_go laws_FnExactChunkOf_o1 (laws_FnExactChunkOf_z0 x0 x1 x2)) laws_FnExactChunkOf_p1 true) (fun e σ' => match e with | .normal => runT tab 69 D26 (live 4) noLoops laws_FnExactChunkOf_q1 σ' laws_FnExactChunkOf_K | e => laws_FnExactChunkOf_K e σ') = some [(false, [⟨.bool, .sh, .b true⟩])] := by kernel_rfl
end Go.Proofs.Ytplgngimjncpnaa.V
