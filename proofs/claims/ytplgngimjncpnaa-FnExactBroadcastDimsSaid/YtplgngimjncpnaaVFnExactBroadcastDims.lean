/- What the functions of FnExactBroadcastDims answer. No condition. -/
import Derived.Test.YtplgngimjncpnaaVFacts
namespace Go.Proofs.Ytplgngimjncpnaa.V
open Go
set_option maxRecDepth 100000
set_option linter.unusedVariables false
set_option linter.unusedSectionVars false
set_option linter.unusedSimpArgs false
set_option maxHeartbeats 2000000
def inR (lo hi : Int) (x : List TC) : Bool := bif decide ((nth x 0).int ≥ lo) then decide ((nth x 0).int ≤ hi) else false
def mulR (n : Int) (x : List TC) : Int := IntKind.wrap .i64 (n * (nth x 0).int)
def prodL (A : List (List TC)) : Int := A.foldl mulR 1
def gridC (d c : List TC) : List TC := [.i (IntKind.wrap .i64 (Int.tdiv (IntKind.wrap .i64 ((IntKind.wrap .i64 ((nth d 0).int + (nth c 0).int)) - (1 : Int))) ((nth c 0).int)))]
def gridL (D C : List (List TC)) : List (List TC) := List.zipWith gridC D C
theorem lenEq {D C : List (List TC)} (h : (!((C.length : Int) == (D.length : Int))) = false) : D.length = C.length := by
  have h2 : ((C.length : Int) == (D.length : Int)) = true := by simpa using h
  have h3 := eq_of_beq h2
  omega
theorem nnF {b : Bool} (h : (!(!(!b))) = false) : b = true := by simpa using h
theorem gridL_at {D C : List (List TC)} {i : Nat} (hl : D.length = C.length) (hi : i < (gridL D C).length) : (gridL D C)[i] = gridC (D.getD i []) (C.getD i []) := by
  have h1 : i < D.length := by simp [gridL] at hi; omega
  have h2 : i < C.length := by omega
  rw [getD_at h1, getD_at h2]
  exact List.getElem_zipWith
theorem inR_1 {C : List (List TC)} (h : C.all (inR 1 40) = true) {i : Nat} (hi : i < C.length) : (nth (C.getD i []) 0).int ≠ 0 := by
  have h1 := (List.all_eq_true.1 h) (C.getD i []) (mem_getD hi)
  unfold inR at h1
  intro h0
  rw [h0] at h1
  cases h1
theorem gridL_len {D C : List (List TC)} (h : D.length ≤ 140737488351232) : (gridL D C).length ≤ 140737488351232 := by simp only [gridL, List.length_zipWith]; omega
theorem gridL_ty {e : TypeId} {D C : List (List TC)} (he : (tab e).cts = [.int .i64]) (h : Typed tab (.slice e) (.l D)) : Typed tab (.slice e) (.l (gridL D C)) := by
  have hm : ∀ x, x ∈ gridL D C → ∃ d c, x = gridC d c := by
    intro x hx
    obtain ⟨i, hi, rfl⟩ := List.getElem_of_mem hx
    exact ⟨_, _, List.getElem_zipWith⟩
  cases h with
  | slice _ _ h1 h2 h3 h4 =>
    have hl : (gridL D C).length ≤ D.length := by simp only [gridL, List.length_zipWith]; omega
    refine .slice _ _ (Nat.le_trans (Nat.mul_le_mul_right _ hl) h1) (Nat.le_trans hl h2) (fun x hx => ?_) (fun x hx k hk => ?_)
    · obtain ⟨d, c, rfl⟩ := hm x hx
      rw [he]; rfl
    · obtain ⟨d, c, rfl⟩ := hm x hx
      rw [he] at hk ⊢
      match k, hk with
      | 0, _ => exact .int _ _ (wrap_wf _)
def dimsOk (D : List (List TC)) : Bool := decide ((D.length : Int) ≤ 3) && D.all (inR 0 40) && decide (prodL D ≤ 600)
def chunkOk (D C : List (List TC)) : Bool := dimsOk D && ((C.length : Int) == (D.length : Int)) && C.all (inR 1 40) && decide (prodL C ≤ 64) && (gridL D C).all (inR 0 16) && decide (prodL (gridL D C) ≤ 256)
theorem dimsOk_all {D : List (List TC)} (h : dimsOk D = true) : D.all (inR 0 40) = true := by
  unfold dimsOk at h
  simp only [Bool.and_eq_true] at h
  exact h.1.2
def le16 (x : List TC) : Bool := !(decide ((nth x 0).int > 16))
theorem inR_iff {lo hi : Int} {x : List TC} : inR lo hi x = true ↔ lo ≤ (nth x 0).int ∧ (nth x 0).int ≤ hi := by
  unfold inR
  by_cases h : lo ≤ (nth x 0).int <;> simp [h]
theorem gridC_val {d c : List TC} (hd : inR 0 40 d = true) (hc : inR 1 40 c = true) : (nth (gridC d c) 0).int = Int.tdiv ((nth d 0).int + (nth c 0).int - 1) ((nth c 0).int) ∧ 0 ≤ (nth (gridC d c) 0).int := by
  rw [inR_iff] at hd hc
  have h0 : 0 ≤ Int.tdiv ((nth d 0).int + (nth c 0).int - 1) ((nth c 0).int) := Int.tdiv_nonneg (by omega) (by omega)
  have h1 : Int.tdiv ((nth d 0).int + (nth c 0).int - 1) ((nth c 0).int) ≤ (nth d 0).int + (nth c 0).int - 1 := Int.tdiv_le_self _ (by omega)
  have e : (nth (gridC d c) 0).int = Int.tdiv ((nth d 0).int + (nth c 0).int - 1) ((nth c 0).int) := by
    show IntKind.wrap .i64 (Int.tdiv (IntKind.wrap .i64 ((IntKind.wrap .i64 ((nth d 0).int + (nth c 0).int)) - (1 : Int))) ((nth c 0).int)) = _
    rw [wrap64 (i := (nth d 0).int + (nth c 0).int) (by omega) (by omega), wrap64 (i := (nth d 0).int + (nth c 0).int - 1) (by omega) (by omega), wrap64 (by omega) (by omega)]
  rw [e]
  exact ⟨rfl, h0⟩
theorem grid_all {D C : List (List TC)} (hd : D.all (inR 0 40) = true) (hc : C.all (inR 1 40) = true) : (gridL D C).all le16 = (gridL D C).all (inR 0 16) := by
  rw [Bool.eq_iff_iff, List.all_eq_true, List.all_eq_true]
  refine forall_congr' fun x => forall_congr' fun hx => ?_
  obtain ⟨i, hi, rfl⟩ := List.getElem_of_mem hx
  have h1 : i < D.length := by simp [gridL] at hi; omega
  have h2 : i < C.length := by simp [gridL] at hi; omega
  have hg : (gridL D C)[i] = gridC D[i] C[i] := List.getElem_zipWith
  rw [hg]
  have h0 := (gridC_val (List.all_eq_true.1 hd _ (List.getElem_mem h1)) (List.all_eq_true.1 hc _ (List.getElem_mem h2))).2
  rw [inR_iff]
  unfold le16
  simp
  omega
def dimK (A : List (List TC)) (k : Nat) : Int := bif decide (k < A.length) then (nth (row A ((A.length - 1 - k : Nat) : Int)) 0).int else 1
def okK (A B : List (List TC)) (k : Nat) : Bool := bif dimK A k == dimK B k then true else bif dimK A k == 1 then true else dimK B k == 1
def nK (A B : List (List TC)) (k : Nat) : Int := bif dimK A k == 1 then dimK B k else dimK A k
def outF (N : Nat) (f : Nat → Int) : List (List TC) := ((List.range N).map f).map fun n => [TC.i n]
def bcN (A B : List (List TC)) : Nat := max A.length B.length
def bcS (A B : List (List TC)) (N j : Nat) : List (List TC) := outF N fun i => bif decide (N - 1 - i < j) then nK A B (N - 1 - i) else 0
def bcI (A B : List (List TC)) (j : Nat) : List (List TC) := outF A.length fun i => bif decide (i < A.length - B.length + j) then nK A B (A.length - 1 - i) else dimK A (A.length - 1 - i)
def bcL (A B : List (List TC)) : List (List TC) := outF (bcN A B) fun i => nK A B (bcN A B - 1 - i)
theorem outF_len {N : Nat} {f : Nat → Int} : (outF N f).length = N := by simp [outF]
theorem outF_row {N : Nat} {f : Nat → Int} {i : Nat} (h : i < N) : row (outF N f) (i : Int) = [TC.i (f i)] := by
  unfold row
  rw [Int.toNat_natCast, getD_at (by rw [outF_len]; exact h)]
  simp [outF]
theorem outF_congr {N : Nat} {f g : Nat → Int} (h : ∀ i, i < N → f i = g i) : outF N f = outF N g := by
  unfold outF
  refine congrArg _ (List.map_congr_left fun i hi => h i (List.mem_range.1 hi))
theorem outF_set {N j : Nat} {f : Nat → Int} {v : Int} : (outF N f).set j [TC.i v] = outF N fun i => if i = j then v else f i := by
  refine List.ext_getElem (by simp [outF]) fun i h1 h2 => ?_
  rw [List.getElem_set]
  have h3 : i < N := by rw [outF_len] at h2; exact h2
  by_cases hj : j = i
  · rw [if_pos hj]; subst hj; simp [outF]
  · rw [if_neg hj]
    have : ¬ i = j := fun h => hj h.symm
    simp [outF, this]
theorem outF_ty {N : Nat} {e : TypeId} {f : Nat → Int} (he : (tab e).cts = [.int .i64]) (hb : (tab e).bytes = 8) (hN : N ≤ 3) (h : ∀ i, i < N → Typed tab (.int .i64) (.i (f i))) : Typed tab (.slice e) (.l (outF N f)) := by
  refine typed_ints he hb (fun n hn => ?_) (by rw [List.length_map, List.length_range]; omega)
  obtain ⟨i, hi, rfl⟩ := List.mem_map.1 hn
  exact h i (List.mem_range.1 hi)
theorem outF_self {e : TypeId} {A : List (List TC)} (he : (tab e).cts = [.int .i64]) (h : Typed tab (.slice e) (.l A)) : A = outF A.length fun i => (nth (row A (i : Int)) 0).int := by
  refine List.ext_getElem (by rw [outF_len]) fun i h1 h2 => ?_
  have hm : A[i] ∈ A := List.getElem_mem _
  have h3 : A[i].length = 1 := by have := typed_rows h (show (tab e).cts.length = 1 by rw [he]; rfl) _ hm; exact this
  have h4 := typed_cell h _ hm 0 (by rw [he]; decide)
  rw [show (tab e).cts.getD 0 .bool = .int .i64 from by rw [he]; rfl] at h4
  have h5 := typed_int_eq h4
  have h6 : row A (i : Int) = A[i] := by unfold row; rw [Int.toNat_natCast, getD_at h1]
  have h7 : (outF A.length fun i => (nth (row A (i : Int)) 0).int)[i] = [TC.i (nth A[i] 0).int] := by
    simp [outF, h6]
  rw [h7, h5]
  match hx : A[i], h3 with
  | [c], _ => rfl
theorem dimK_ty {e : TypeId} {A : List (List TC)} {k : Nat} (he : (tab e).cts = [.int .i64]) (h : Typed tab (.slice e) (.l A)) : Typed tab (.int .i64) (.i (dimK A k)) := by
  unfold dimK
  cases hk : decide (k < A.length) with
  | false =>
    show Typed tab _ (.i 1)
    exact .int _ _ (by decide)
  | true =>
    have hk := of_decide_eq_true hk
    have hm : row A ((A.length - 1 - k : Nat) : Int) ∈ A := by unfold row; rw [Int.toNat_natCast]; exact mem_getD (by omega)
    have h4 := typed_cell h _ hm 0 (by rw [he]; decide)
    rw [show (tab e).cts.getD 0 .bool = .int .i64 from by rw [he]; rfl] at h4
    show Typed tab _ (.i (nth _ 0).int)
    rw [typed_int_eq h4]
    exact h4
theorem nK_ty {e : TypeId} {A B : List (List TC)} {k : Nat} (he : (tab e).cts = [.int .i64]) (hA : Typed tab (.slice e) (.l A)) (hB : Typed tab (.slice e) (.l B)) : Typed tab (.int .i64) (.i (nK A B k)) := by
  unfold nK
  cases dimK A k == 1 with
  | true => exact dimK_ty he hB
  | false => exact dimK_ty he hA
theorem bcL_ty {e : TypeId} {A B : List (List TC)} (he : (tab e).cts = [.int .i64]) (hb : (tab e).bytes = 8) (hA : Typed tab (.slice e) (.l A)) (hB : Typed tab (.slice e) (.l B)) (h : bcN A B ≤ 3) : Typed tab (.slice e) (.l (bcL A B)) :=
  outF_ty he hb h fun i _ => nK_ty he hA hB
theorem dimK_ge {A : List (List TC)} {k : Nat} (h : A.length ≤ k) : dimK A k = 1 := by
  unfold dimK
  rw [decide_eq_false (by omega)]; rfl
theorem okK_ge {A B : List (List TC)} {k : Nat} (h : B.length ≤ k) : okK A B k = true := by
  unfold okK
  rw [dimK_ge h]
  cases dimK A k == 1 <;> rfl
theorem nK_ge {A B : List (List TC)} {k : Nat} (h : B.length ≤ k) : nK A B k = dimK A k := by
  unfold nK
  rw [dimK_ge h]
  cases hd : dimK A k == 1 with
  | true => exact (eq_of_beq hd).symm
  | false => rfl
theorem okK_comm {A B : List (List TC)} {k : Nat} : okK A B k = okK B A k := by
  unfold okK
  rw [Bool.beq_comm]
  cases dimK B k == dimK A k <;> cases dimK A k == 1 <;> cases dimK B k == 1 <;> rfl
theorem nK_comm {A B : List (List TC)} {k : Nat} (h : okK A B k = true) : nK A B k = nK B A k := by
  unfold okK at h
  unfold nK
  cases ha : dimK A k == 1 with
  | true =>
    cases hb : dimK B k == 1 with
    | true => rw [eq_of_beq ha, eq_of_beq hb]
    | false => rfl
  | false =>
    cases hb : dimK B k == 1 with
    | true => rfl
    | false =>
      rw [ha, hb] at h
      cases he : dimK A k == dimK B k with
      | true => rw [eq_of_beq he]
      | false => rw [he] at h; cases h
theorem bcN_comm {A B : List (List TC)} : bcN A B = bcN B A := Nat.max_comm ..
theorem bc_comm {A B : List (List TC)} (h : allI (okK A B) (bcN A B) = true) : bcL A B = bcL B A := by
  unfold bcL
  rw [bcN_comm]
  refine outF_congr fun i hi => nK_comm (allI_iff.1 h _ ?_)
  have := @bcN_comm A B
  omega
theorem bc_all {A B : List (List TC)} (h : B.length ≤ A.length) : allI (fun i => okK A B (B.length - 1 - i)) B.length = allI (okK A B) (bcN A B) := by
  rw [Bool.eq_iff_iff, allI_iff, allI_iff]
  have hN : bcN A B = A.length := Nat.max_eq_left h
  constructor
  · intro g k hk
    rcases Nat.lt_or_ge k B.length with h1 | h1
    · have := g (B.length - 1 - k) (by omega)
      rwa [show B.length - 1 - (B.length - 1 - k) = k by omega] at this
    · exact okK_ge h1
  · intro g i hi
    exact g _ (by omega)
theorem bcI_end {A B : List (List TC)} (h : B.length ≤ A.length) : bcI A B B.length = bcL A B := by
  have hN : bcN A B = A.length := Nat.max_eq_left h
  unfold bcI bcL
  rw [hN]
  refine outF_congr fun i hi => ?_
  rw [decide_eq_true (by omega)]; rfl
theorem bcI_start {e : TypeId} {A B : List (List TC)} (he : (tab e).cts = [.int .i64]) (hA : Typed tab (.slice e) (.l A)) : bcI A B 0 = A := by
  refine Eq.trans ?_ (outF_self he hA).symm
  unfold bcI
  refine outF_congr fun i hi => ?_
  have hd : dimK A (A.length - 1 - i) = (nth (row A (i : Int)) 0).int := by
    unfold dimK
    rw [decide_eq_true (by omega), show A.length - 1 - (A.length - 1 - i) = i by omega]; rfl
  cases hk : decide (i < A.length - B.length + 0) with
  | false => exact hd
  | true =>
    have hk := of_decide_eq_true hk
    show nK A B _ = _
    rw [nK_ge (by omega), hd]
theorem bcI_set {A B : List (List TC)} {j : Nat} (h : B.length ≤ A.length) (hj : j < B.length) : (bcI A B j).set (A.length - B.length + j) [TC.i (nK A B (B.length - 1 - j))] = bcI A B (j + 1) := by
  unfold bcI
  rw [outF_set]
  refine outF_congr fun i hi => ?_
  by_cases hij : i = A.length - B.length + j
  · rw [if_pos hij, decide_eq_true (by omega), show A.length - 1 - i = B.length - 1 - j by omega]; rfl
  · rw [if_neg hij, show decide (i < A.length - B.length + j) = decide (i < A.length - B.length + (j + 1)) from by rw [Bool.eq_iff_iff]; simp; omega]
theorem bcI_row {A B : List (List TC)} {j : Nat} (h : B.length ≤ A.length) (hj : j < B.length) : row (bcI A B j) ((A.length - B.length + j : Nat) : Int) = [TC.i (dimK A (B.length - 1 - j))] := by
  unfold bcI
  rw [outF_row (by omega), decide_eq_false (by omega), show A.length - 1 - (A.length - B.length + j) = B.length - 1 - j by omega]; rfl
theorem bcI_keep {A B : List (List TC)} {j : Nat} (h : B.length ≤ A.length) (hj : j < B.length) (hn : nK A B (B.length - 1 - j) = dimK A (B.length - 1 - j)) : bcI A B (j + 1) = bcI A B j := by
  rw [← bcI_set h hj, hn]
  unfold bcI
  rw [outF_set]
  refine outF_congr fun i hi => ?_
  by_cases hij : i = A.length - B.length + j
  · rw [if_pos hij, decide_eq_false (by omega), show A.length - 1 - i = B.length - 1 - j by omega]; rfl
  · rw [if_neg hij]
theorem bcS_end {A B : List (List TC)} : bcS A B (bcN A B) (bcN A B) = bcL A B := by
  unfold bcS bcL
  refine outF_congr fun i hi => ?_
  rw [decide_eq_true (by omega)]; rfl
theorem bcS_start {A B : List (List TC)} {N : Nat} : List.replicate N [TC.i 0] = bcS A B N 0 := by
  refine List.ext_getElem (by rw [bcS, outF_len, List.length_replicate]) fun i h1 h2 => ?_
  simp [bcS, outF]
theorem bcS_set {A B : List (List TC)} {N j : Nat} (hj : j < N) : (bcS A B N j).set (N - 1 - j) [TC.i (nK A B j)] = bcS A B N (j + 1) := by
  unfold bcS
  rw [outF_set]
  refine outF_congr fun i hi => ?_
  by_cases hij : i = N - 1 - j
  · rw [if_pos hij, decide_eq_true (by omega), show N - 1 - i = j by omega]; rfl
  · rw [if_neg hij, show decide (N - 1 - i < j) = decide (N - 1 - i < j + 1) from by rw [Bool.eq_iff_iff]; simp; omega]
def bcV (A B : List (List TC)) : List (List TC) × Bool := bif allI (okK A B) (bcN A B) then (bcL A B, dimsOk (bcL A B)) else ([], false)
theorem bcV_comm {A B : List (List TC)} : bcV A B = bcV B A := by
  have h1 : allI (okK A B) (bcN A B) = allI (okK B A) (bcN B A) := by
    rw [bcN_comm]
    exact allI_congr fun i _ => okK_comm
  unfold bcV
  rw [← h1]
  cases h : allI (okK A B) (bcN A B) with
  | true => rw [bc_comm h]
  | false => rfl
theorem dimsOk_len {A : List (List TC)} (h : dimsOk A = true) : A.length ≤ 3 := by
  unfold dimsOk at h
  simp only [Bool.and_eq_true, decide_eq_true_eq] at h
  omega
theorem bd_len {A B : List (List TC)} (ha : dimsOk A = true) (hb : dimsOk B = true) : bcN A B ≤ 3 := Nat.max_le.2 ⟨dimsOk_len ha, dimsOk_len hb⟩
def bdV (A B : List (List TC)) : List (List TC) × Bool := bif !(dimsOk A) then ([], false) else bif !(dimsOk B) then ([], false) else bif !((bcV A B).2) then ([], false) else ((bcV A B).1, true)
theorem bdV_ty {e : TypeId} {A B : List (List TC)} (he : (tab e).cts = [.int .i64]) (hb8 : (tab e).bytes = 8) (hA : Typed tab (.slice e) (.l A)) (hB : Typed tab (.slice e) (.l B)) : Typed tab (.slice e) (.l (bdV A B).1) := by
  have hn : Typed tab (.slice e) (.l []) := .slice _ _ (by simp) (by simp) (fun _ h => by cases h) (fun _ h => by cases h)
  unfold bdV
  cases ha : dimsOk A with
  | false => exact hn
  | true =>
    cases hb : dimsOk B with
    | false => exact hn
    | true =>
      have ht := bcL_ty he hb8 hA hB (bd_len ha hb)
      unfold bcV
      cases allI (okK A B) (bcN A B) with
      | false => exact hn
      | true =>
        cases hd : dimsOk (bcL A B) with
        | false => exact hn
        | true => exact ht
/-! laws_toInt64S -/
def laws_toInt64S_g (x : List TC) : List TC := [TC.i ((nth x 0).int)]
def laws_toInt64S_z : List TC := [TC.i (0 : Int)]
abbrev laws_toInt64S_3_σ := List (List TC) × List (List TC) × Int
abbrev laws_toInt64S_3_ω := (List (List TC))
noncomputable def laws_toInt64S_3_step (A : List (List TC)) (X : List (List TC)) (i : Int) : Tr (laws_toInt64S_3_σ ⊕ laws_toInt64S_3_ω) := (.ite ((decide (i < (A.length : Int))) = true) (.ite ((0 : Int) ≤ i ∧ i < (A.length : Int)) (.ite ((0 : Int) ≤ i ∧ i < (X.length : Int)) (.ok (.inl (A, (X.set (i).toNat (splice (row X i) 0 [TC.i ((nth (row A i) 0).int)])), (IntKind.wrap .i64 (i + (1 : Int))))))
    .no)
   .no)
  (.ok (.inr X)))
noncomputable def laws_toInt64S_3_st : laws_toInt64S_3_σ → Tr (laws_toInt64S_3_σ ⊕ laws_toInt64S_3_ω) := fun x => (laws_toInt64S_3_step (x.1) (x.2.1) (x.2.2))
noncomputable def laws_toInt64S_o3_1 (A : List (List TC)) (X : List (List TC)) (i : Int) : Bool := is (Typed tab (.slice 2) (.l A) ∧ X = List.replicate A.length laws_toInt64S_z ∧ i = 0)
noncomputable def laws_toInt64S_u3_1 (A : List (List TC)) (X : List (List TC)) (i : Int) : List (List TC) := A.map laws_toInt64S_g
noncomputable def laws_toInt64S_3_fin (A : List (List TC)) (X : List (List TC)) (i : Int) : Told laws_toInt64S_3_ω := (.leaf (laws_toInt64S_o3_1 A X i) (laws_toInt64S_u3_1 A X i))
def laws_toInt64S_3_sl (x : laws_toInt64S_3_σ) : List Slot := [⟨.val false [⟨.slice 2, .sh, TC.l (x.1)⟩], ⟨0, 0⟩⟩, ⟨.val false [⟨.slice 2, .own true, TC.l (x.2.1)⟩], ⟨0, 0⟩⟩, ⟨.val false [⟨.int .i64, .sh, TC.i (x.2.2)⟩], ⟨0, 0⟩⟩]
def laws_toInt64S_3_out : laws_toInt64S_3_ω → Ex × List Slot := (fun x => (.exit 0, [Slot.none, ⟨.val false [⟨.slice 2, .own true, TC.l x⟩], ⟨0, 0⟩⟩]))
noncomputable def laws_toInt64S_lo3 : List Slot → Option (Told (Ex × List Slot)) := fun s => match s with
  | [⟨.val false [⟨.slice 2, .sh, TC.l A⟩], ⟨0, 0⟩⟩, ⟨.val false [⟨.slice 2, .own true, TC.l X⟩], ⟨0, 0⟩⟩, ⟨.val false [⟨.int .i64, .sh, TC.i i⟩], ⟨0, 0⟩⟩] => some (((laws_toInt64S_3_fin A X i)).map laws_toInt64S_3_out)
  | _ => .none
noncomputable def laws_toInt64S_lo : LoopTeller := fun r s => bif Nat.beq r 3 then laws_toInt64S_lo3 s else .none
theorem laws_toInt64S_3_r (A : List (List TC)) (X : List (List TC)) (i : Int) (fuel : Nat) : rounds (rnd tab FT D0 live 15 laws_toInt64S_lo 0 3) leave (fuel + 1) (laws_toInt64S_3_sl (A, X, i)) = ((laws_toInt64S_3_step A X i)).run (goOn (fun s => rounds (rnd tab FT D0 live 15 laws_toInt64S_lo 0 3) leave fuel (laws_toInt64S_3_sl s)) fun w => some (laws_toInt64S_3_out w)) := by kernel_rfl
theorem laws_toInt64S_3_h (A : List (List TC)) (X : List (List TC)) (i : Int) (ow : laws_toInt64S_3_ω) : ((laws_toInt64S_3_fin A X i)).val = some ow → ∃ fuel, loopN laws_toInt64S_3_st fuel (A, X, i) = some ow := by
  intro h
  simp only [laws_toInt64S_3_fin, Told.val] at h
  split at h
  · rename_i ho
    obtain ⟨ht, rfl, rfl⟩ := is_iff.1 ho
    cases h
    have hlen : A.length ≤ 140737488351232 := by have := typed_room ht; simp only [show (tab 2).bytes = 8 from rfl] at this; omega
    have key := loopN_copy (step := laws_toInt64S_3_st) A (List.replicate A.length laws_toInt64S_z) laws_toInt64S_g (fun Y i => (A, Y, (i : Int))) (A.map laws_toInt64S_g) (by simp) (fun x hx i _ => by rw [(List.mem_replicate.1 hx).2]; exact Nat.le_refl 1) (fun Y i hi hl => ?_) ?_ A.length 0 (by omega)
    · rw [copied_zero] at key
      exact ⟨_, key⟩
    · skip
      show (laws_toInt64S_3_step A Y (i : Int)).val = _
      unfold laws_toInt64S_3_step
      refine Tr.t (by simp; omega) ?_
      refine Tr.t (by constructor <;> omega) ?_
      refine Tr.t (by constructor <;> omega) ?_
      repeat (refine Tr.t (by first | (apply is_true; and_intros <;> (first | rfl | assumption | (first | (apply is_true; and_intros <;> (first | rfl | assumption | (first | (apply is_true; and_intros <;> (first | rfl | assumption | (first | (apply is_true; and_intros <;> (first | rfl | assumption)))))))))))) ?_)
      rw [Tr.val_ok, wrap64 (i := (i : Int) + 1) (by omega) (by omega)]; rfl
    · show (laws_toInt64S_3_step A (A.map laws_toInt64S_g) (A.length : Int)).val = _
      refine Tr.n (by simp) ?_
      rfl
  · cases h
theorem laws_toInt64S_is3 : LoopIs tab FT D0 live 15 laws_toInt64S_lo 0 3 := by
  refine loop_told (sl := laws_toInt64S_3_sl) (step := laws_toInt64S_3_st) (out := laws_toInt64S_3_out) (lor := laws_toInt64S_lo3) (fin := fun x => (laws_toInt64S_3_fin (x.1) (x.2.1) (x.2.2))) (fun _ => rfl) ?_ (fun x n => laws_toInt64S_3_r x.1 x.2.1 x.2.2 n) (fun x ow => laws_toInt64S_3_h x.1 x.2.1 x.2.2 ow)
  intro s t h
  unfold laws_toInt64S_lo3 at h
  split at h
  · cases h; exact ⟨(_, _, _), rfl, rfl⟩
  · cases h
noncomputable def laws_toInt64S_t (A : List (List TC)) : Tr (List (List TC)) := (.ite (0 ≤ (A.length : Int) ∧ (A.length : Int) ≤ (A.length : Int) ∧ (A.length : Int) * 8 ≤ 140737488355328 ∧ (A.length : Int) ≤ 140737488355328) (.ite ((laws_toInt64S_o3_1 A (List.replicate ((A.length : Int)).toNat [TC.i (0 : Int)]) (0 : Int)) = true) (.ok (laws_toInt64S_u3_1 A (List.replicate ((A.length : Int)).toNat [TC.i (0 : Int)]) (0 : Int)))
   .no)
  .no)
def laws_toInt64S_mk (p : List (List TC)) : Res := [(false, [⟨.slice 2, .own true, TC.l p⟩])]
noncomputable def laws_toInt64S_c (A : List (List TC)) : Bool := is (Typed tab (.slice 2) (.l A))
noncomputable def laws_toInt64S_v (A : List (List TC)) : List (List TC) := A.map laws_toInt64S_g
theorem laws_toInt64S_l (A : List (List TC)) : (laws_toInt64S_c A) = true → (laws_toInt64S_t A).val = some (laws_toInt64S_v A) := by
  intro h
  have ht := is_iff.1 h
  have hb := typed_room ht
  simp only [show (tab 2).bytes = 8 from rfl] at hb
  unfold laws_toInt64S_t
  refine Tr.t (by omega) ?_
  refine Tr.t (is_true ⟨ht, by rfl, rfl⟩) ?_
  rfl
noncomputable def laws_toInt64S_S : List Arg → Option (Bool × Res) := fun xs => match xs with
  | [(false, [(.slice 2, TC.l A)])] => some ((laws_toInt64S_c A), laws_toInt64S_mk (laws_toInt64S_v A))
  | _ => .none
theorem laws_toInt64S_e (A : List (List TC)) : runF tab FT D0 live 15 laws_toInt64S_lo [(false, [(.slice 2, TC.l A)])] = (laws_toInt64S_t A).run fun p => some (laws_toInt64S_mk p) := by kernel_rfl
theorem laws_toInt64S_s : ∀ xs r, laws_toInt64S_S xs = some (true, r) → runF tab FT D0 live 15 laws_toInt64S_lo xs = some r := by
  intro xs r h
  unfold laws_toInt64S_S at h
  split at h
  · simp only [Option.some.injEq, Prod.mk.injEq] at h
    obtain ⟨h1, rfl⟩ := h
    exact fun_told (laws_toInt64S_e _) (laws_toInt64S_l _) h1
  · cases h
noncomputable def D1 : Dt := also D0 15 laws_toInt64S_S
theorem d1 : DOk Go.Proofs.Try.prog tab D1 := d0.also mixed_ok tab_ok names_ok (fnLoops_one (by kernel_rfl) laws_toInt64S_is3) laws_toInt64S_s
theorem laws_toInt64S_ty {A : List (List TC)} (h : Typed tab (.slice 2) (.l A)) : Typed tab (.slice 2) (.l (A.map laws_toInt64S_g)) := by
  refine typed_map h (by decide) fun x _ _ hx => ⟨rfl, fun k hk => ?_⟩
  match k, hk with
    | 0, _ => exact typed_i (hx 0 (by decide))
/-! spec_l00In -/
noncomputable def spec_l00In_t (a0 : Int) (a1 : Int) (a2 : Int) : Tr (Bool) := (.ite ((decide (a0 ≥ a1)) = true) (.ok (decide (a0 ≤ a2)))
  (.ok false))
def spec_l00In_mk (p : Bool) : Res := [(false, [⟨.bool, .sh, TC.b p⟩])]
noncomputable def spec_l00In_c (a0 : Int) (a1 : Int) (a2 : Int) : Bool := true
noncomputable def spec_l00In_v (a0 : Int) (a1 : Int) (a2 : Int) : Bool := (bif (decide (a0 ≥ a1)) then (decide (a0 ≤ a2)) else false)
theorem spec_l00In_l (a0 : Int) (a1 : Int) (a2 : Int) : (spec_l00In_c a0 a1 a2) = true → (spec_l00In_t a0 a1 a2).val = some (spec_l00In_v a0 a1 a2) := by
  intro h
  skip
  unfold spec_l00In_t spec_l00In_v
  exact (Tr.s rfl rfl)
noncomputable def spec_l00In_S : List Arg → Option (Bool × Res) := fun xs => match xs with
  | [(false, [(.int .i64, TC.i a0)]), (false, [(.int .i64, TC.i a1)]), (false, [(.int .i64, TC.i a2)])] => some (true, spec_l00In_mk (spec_l00In_v a0 a1 a2))
  | _ => .none
theorem spec_l00In_e (a0 : Int) (a1 : Int) (a2 : Int) : runF tab FT D1 live 89 noLoops [(false, [(.int .i64, TC.i a0)]), (false, [(.int .i64, TC.i a1)]), (false, [(.int .i64, TC.i a2)])] = (spec_l00In_t a0 a1 a2).run fun p => some (spec_l00In_mk p) := by kernel_rfl
theorem spec_l00In_s : ∀ xs r, spec_l00In_S xs = some (true, r) → runF tab FT D1 live 89 noLoops xs = some r := by
  intro xs r h
  unfold spec_l00In_S at h
  split at h
  · simp only [Option.some.injEq, Prod.mk.injEq] at h
    obtain ⟨h1, rfl⟩ := h
    exact fun_told (spec_l00In_e _ _ _) (spec_l00In_l _ _ _) rfl
  · cases h
noncomputable def D2 : Dt := also D1 89 spec_l00In_S
theorem d2 : DOk Go.Proofs.Try.prog tab D2 := d1.also mixed_ok tab_ok names_ok noLoops_ok spec_l00In_s
/-! spec_l05Dims -/
abbrev spec_l05Dims_5_σ := List (List TC) × Int × Int
abbrev spec_l05Dims_5_ω := (Int) ⊕ (Int)
noncomputable def spec_l05Dims_5_step (A : List (List TC)) (n : Int) (i : Int) : Tr (spec_l05Dims_5_σ ⊕ spec_l05Dims_5_ω) := (.ite ((decide (i < (A.length : Int))) = true) (.ite ((0 : Int) ≤ i ∧ i < (A.length : Int)) (.ite ((!(spec_l00In_v ((nth (row A i) 0).int) (0 : Int) (40 : Int))) = true) (.ok (.inr (.inl n)))
    (.ite ((0 : Int) ≤ i ∧ i < (A.length : Int)) (.ok (.inl (A, (IntKind.wrap .i64 (n * (nth (row A i) 0).int)), (IntKind.wrap .i64 (i + (1 : Int))))))
     .no))
   .no)
  (.ok (.inr (.inr n))))
noncomputable def spec_l05Dims_5_st : spec_l05Dims_5_σ → Tr (spec_l05Dims_5_σ ⊕ spec_l05Dims_5_ω) := fun x => (spec_l05Dims_5_step (x.1) (x.2.1) (x.2.2))
noncomputable def spec_l05Dims_k5_1 (A : List (List TC)) (n : Int) (i : Int) : Bool := A.all (inR 0 40)
noncomputable def spec_l05Dims_o5_2 (A : List (List TC)) (n : Int) (i : Int) : Bool := is (i = 0 ∧ n = 1 ∧ Typed tab (.slice 2) (.l A))
noncomputable def spec_l05Dims_u5_2 (A : List (List TC)) (n : Int) (i : Int) : Int := (A.foldl mulR (1 : Int))
noncomputable def spec_l05Dims_o5_3 (A : List (List TC)) (n : Int) (i : Int) : Bool := is (i = 0 ∧ n = 1 ∧ Typed tab (.slice 2) (.l A))
noncomputable def spec_l05Dims_u5_3 (A : List (List TC)) (n : Int) (i : Int) : Int := ((A.take (A.findIdx fun x => !(inR 0 40) x)).foldl mulR (1 : Int))
noncomputable def spec_l05Dims_5_fin (A : List (List TC)) (n : Int) (i : Int) : Told spec_l05Dims_5_ω := (.br (spec_l05Dims_k5_1 A n i) (.leaf (spec_l05Dims_o5_2 A n i) (.inr (spec_l05Dims_u5_2 A n i))) (.leaf (spec_l05Dims_o5_3 A n i) (.inl (spec_l05Dims_u5_3 A n i))))
def spec_l05Dims_5_sl (x : spec_l05Dims_5_σ) : List Slot := [⟨.val false [⟨.slice 2, .sh, TC.l (x.1)⟩], ⟨0, 0⟩⟩, ⟨.val false [⟨.int .i64, .sh, TC.i (x.2.1)⟩], ⟨0, 0⟩⟩, ⟨.val false [⟨.int .i64, .sh, TC.i (x.2.2)⟩], ⟨0, 0⟩⟩]
def spec_l05Dims_5_out : spec_l05Dims_5_ω → Ex × List Slot := (Sum.elim (fun x => (.ret, [⟨.val false [⟨.bool, .sh, TC.b false⟩], ⟨0, 0⟩⟩, ⟨.val false [⟨.int .i64, .sh, TC.i x⟩], ⟨0, 0⟩⟩])) (fun x => (.exit 0, [Slot.none, ⟨.val false [⟨.int .i64, .sh, TC.i x⟩], ⟨0, 0⟩⟩])))
noncomputable def spec_l05Dims_lo5 : List Slot → Option (Told (Ex × List Slot)) := fun s => match s with
  | [⟨.val false [⟨.slice 2, .sh, TC.l A⟩], ⟨0, 0⟩⟩, ⟨.val false [⟨.int .i64, .sh, TC.i n⟩], ⟨0, 0⟩⟩, ⟨.val false [⟨.int .i64, .sh, TC.i i⟩], ⟨0, 0⟩⟩] => some (((spec_l05Dims_5_fin A n i)).map spec_l05Dims_5_out)
  | _ => .none
noncomputable def spec_l05Dims_lo : LoopTeller := fun r s => bif Nat.beq r 5 then spec_l05Dims_lo5 s else .none
theorem spec_l05Dims_5_r (A : List (List TC)) (n : Int) (i : Int) (fuel : Nat) : rounds (rnd tab FT D2 live 87 spec_l05Dims_lo 0 5) leave (fuel + 1) (spec_l05Dims_5_sl (A, n, i)) = ((spec_l05Dims_5_step A n i)).run (goOn (fun s => rounds (rnd tab FT D2 live 87 spec_l05Dims_lo 0 5) leave fuel (spec_l05Dims_5_sl s)) fun w => some (spec_l05Dims_5_out w)) := by kernel_rfl
theorem spec_l05Dims_5_h (A : List (List TC)) (n : Int) (i : Int) (ow : spec_l05Dims_5_ω) : ((spec_l05Dims_5_fin A n i)).val = some ow → ∃ fuel, loopN spec_l05Dims_5_st fuel (A, n, i) = some ow := by
  intro h
  have key : Typed tab (.slice 2) (.l A) → loopN spec_l05Dims_5_st (A.length + 1) (A, (1 : Int), (0 : Int)) = some (if A.all (inR 0 40) = true then (.inr (A.foldl mulR (1 : Int))) else (.inl ((A.take (A.findIdx fun x => !(inR 0 40) x)).foldl mulR (1 : Int)))) := by
    intro ht
    have hlen : A.length ≤ 140737488351232 := by have := typed_room ht; simp only [show (tab 2).bytes = 8 from rfl] at this; omega
    have key := loopN_scan (step := spec_l05Dims_5_st) A [] (inR 0 40) mulR (fun i a => (A, a, (i : Int))) (fun a => (.inr a)) (fun i a => (.inl a)) (fun i a hi => ?_) (fun a => ?_) A.length 0 (1 : Int) (by omega)
    · first | (rw [Nat.zero_add] at key; exact key) | exact key
    · skip
      show (spec_l05Dims_5_step A a (i : Int)).val = _
      unfold spec_l05Dims_5_step
      refine Tr.t (by simp; omega) ?_
      skip
      refine Tr.t (by first | omega | (constructor <;> omega)) ?_
      refine Tr.b (P := (inR 0 40) (A.getD i [])) (fun hP => ?_) (fun _ => rfl)
      refine Tr.t (by first | omega | (constructor <;> omega)) ?_
      rw [Tr.val_ok, wrap64 (i := (i : Int) + 1) (by omega) (by omega)]; rfl
    · show (spec_l05Dims_5_step A a (A.length : Int)).val = _
      refine Tr.n (by simp) ?_
      rfl
  simp only [spec_l05Dims_5_fin, Told.val] at h
  cases hk : A.all (inR 0 40) with
  | true =>
    rw [if_pos (show spec_l05Dims_k5_1 A n i = true from hk)] at h
    split at h
    · rename_i ho
      obtain ⟨rfl, rfl, ht⟩ := is_iff.1 ho
      cases h
      refine ⟨_, (key ht).trans ?_⟩
      rw [hk]; rfl
    · cases h
  | false =>
    rw [if_neg (show ¬spec_l05Dims_k5_1 A n i = true from by rw [show spec_l05Dims_k5_1 A n i = (A.all (inR 0 40)) from rfl, hk]; simp)] at h
    split at h
    · rename_i ho
      obtain ⟨rfl, rfl, ht⟩ := is_iff.1 ho
      cases h
      refine ⟨_, (key ht).trans ?_⟩
      rw [hk]; rfl
    · cases h
theorem spec_l05Dims_is5 : LoopIs tab FT D2 live 87 spec_l05Dims_lo 0 5 := by
  refine loop_told (sl := spec_l05Dims_5_sl) (step := spec_l05Dims_5_st) (out := spec_l05Dims_5_out) (lor := spec_l05Dims_lo5) (fin := fun x => (spec_l05Dims_5_fin (x.1) (x.2.1) (x.2.2))) (fun _ => rfl) ?_ (fun x n => spec_l05Dims_5_r x.1 x.2.1 x.2.2 n) (fun x ow => spec_l05Dims_5_h x.1 x.2.1 x.2.2 ow)
  intro s t h
  unfold spec_l05Dims_lo5 at h
  split at h
  · cases h; exact ⟨(_, _, _), rfl, rfl⟩
  · cases h
noncomputable def spec_l05Dims_t (A : List (List TC)) : Tr (Bool) := (.ite ((decide ((A.length : Int) > (3 : Int))) = true) (.ok false)
  (.ite ((spec_l05Dims_k5_1 A (1 : Int) (0 : Int)) = true) (.ite ((spec_l05Dims_o5_2 A (1 : Int) (0 : Int)) = true) (.ok (decide ((spec_l05Dims_u5_2 A (1 : Int) (0 : Int)) ≤ (600 : Int))))
    .no)
   (.ite ((spec_l05Dims_o5_3 A (1 : Int) (0 : Int)) = true) (.ok false)
    .no)))
def spec_l05Dims_mk (p : Bool) : Res := [(false, [⟨.bool, .sh, TC.b p⟩])]
noncomputable def spec_l05Dims_c (A : List (List TC)) : Bool := is (((spec_l05Dims_o5_2 A (1 : Int) (0 : Int)) = true) ∧ ((spec_l05Dims_o5_3 A (1 : Int) (0 : Int)) = true))
noncomputable def spec_l05Dims_v (A : List (List TC)) : Bool := (bif (decide ((A.length : Int) > (3 : Int))) then false else (bif (spec_l05Dims_k5_1 A (1 : Int) (0 : Int)) then (decide ((spec_l05Dims_u5_2 A (1 : Int) (0 : Int)) ≤ (600 : Int))) else false))
theorem spec_l05Dims_l (A : List (List TC)) : (spec_l05Dims_c A) = true → (spec_l05Dims_t A).val = some (spec_l05Dims_v A) := by
  intro h
  obtain ⟨g0, g1⟩ := is_iff.1 h
  unfold spec_l05Dims_t spec_l05Dims_v
  exact (Tr.s rfl (Tr.s (Tr.t g0 rfl) (Tr.t g1 rfl)))
noncomputable def spec_l05Dims_S : List Arg → Option (Bool × Res) := fun xs => match xs with
  | [(false, [(.slice 2, TC.l A)])] => some ((spec_l05Dims_c A), spec_l05Dims_mk (spec_l05Dims_v A))
  | _ => .none
theorem spec_l05Dims_e (A : List (List TC)) : runF tab FT D2 live 87 spec_l05Dims_lo [(false, [(.slice 2, TC.l A)])] = (spec_l05Dims_t A).run fun p => some (spec_l05Dims_mk p) := by kernel_rfl
theorem spec_l05Dims_s : ∀ xs r, spec_l05Dims_S xs = some (true, r) → runF tab FT D2 live 87 spec_l05Dims_lo xs = some r := by
  intro xs r h
  unfold spec_l05Dims_S at h
  split at h
  · simp only [Option.some.injEq, Prod.mk.injEq] at h
    obtain ⟨h1, rfl⟩ := h
    exact fun_told (spec_l05Dims_e _) (spec_l05Dims_l _) h1
  · cases h
noncomputable def D3 : Dt := also D2 87 spec_l05Dims_S
theorem d3 : DOk Go.Proofs.Try.prog tab D3 := d2.also mixed_ok tab_ok names_ok (fnLoops_one (by kernel_rfl) spec_l05Dims_is5) spec_l05Dims_s
theorem spec_l05Dims_vv (A : List (List TC)) : spec_l05Dims_v A = dimsOk A := by
  show (bif decide ((A.length : Int) > 3) then false else bif A.all (inR 0 40) then decide (prodL A ≤ 600) else false) = _
  unfold dimsOk
  rw [show decide ((A.length : Int) > 3) = !decide ((A.length : Int) ≤ 3) from by rw [← decide_not]; simp]
  cases decide ((A.length : Int) ≤ 3) <;> cases A.all (inR 0 40) <;> rfl
/-! spec_l25Dim -/
noncomputable def spec_l25Dim_t (a0 : List (List TC)) (a1 : Int) : Tr (Int) := (.ite ((decide (a1 ≥ (a0.length : Int))) = true) (.ok (1 : Int))
  (.ite ((0 : Int) ≤ (IntKind.wrap .i64 ((IntKind.wrap .i64 ((a0.length : Int) - (1 : Int))) - a1)) ∧ (IntKind.wrap .i64 ((IntKind.wrap .i64 ((a0.length : Int) - (1 : Int))) - a1)) < (a0.length : Int)) (.ok ((nth (row a0 (IntKind.wrap .i64 ((IntKind.wrap .i64 ((a0.length : Int) - (1 : Int))) - a1))) 0).int))
   .no))
def spec_l25Dim_mk (p : Int) : Res := [(false, [⟨.int .i64, .sh, TC.i p⟩])]
noncomputable def spec_l25Dim_c (a0 : List (List TC)) (a1 : Int) : Bool := (bif (decide (a1 ≥ (a0.length : Int))) then true else (is ((0 : Int) ≤ (IntKind.wrap .i64 ((IntKind.wrap .i64 ((a0.length : Int) - (1 : Int))) - a1)) ∧ (IntKind.wrap .i64 ((IntKind.wrap .i64 ((a0.length : Int) - (1 : Int))) - a1)) < (a0.length : Int)) && true))
noncomputable def spec_l25Dim_v (a0 : List (List TC)) (a1 : Int) : Int := (bif (decide (a1 ≥ (a0.length : Int))) then (1 : Int) else (nth (row a0 (IntKind.wrap .i64 ((IntKind.wrap .i64 ((a0.length : Int) - (1 : Int))) - a1))) 0).int)
theorem spec_l25Dim_l (a0 : List (List TC)) (a1 : Int) : (spec_l25Dim_c a0 a1) = true → (spec_l25Dim_t a0 a1).val = some (spec_l25Dim_v a0 a1) := by
  unfold spec_l25Dim_t spec_l25Dim_v spec_l25Dim_c
  exact fun h => (Tr.ss h (fun h => rfl) (fun h => (Tr.gs h fun h => rfl)))
noncomputable def spec_l25Dim_S : List Arg → Option (Bool × Res) := fun xs => match xs with
  | [(false, [(.slice 2, TC.l a0)]), (false, [(.int .i64, TC.i a1)])] => some ((spec_l25Dim_c a0 a1), spec_l25Dim_mk (spec_l25Dim_v a0 a1))
  | _ => .none
theorem spec_l25Dim_e (a0 : List (List TC)) (a1 : Int) : runF tab FT D3 live 128 noLoops [(false, [(.slice 2, TC.l a0)]), (false, [(.int .i64, TC.i a1)])] = (spec_l25Dim_t a0 a1).run fun p => some (spec_l25Dim_mk p) := by kernel_rfl
theorem spec_l25Dim_s : ∀ xs r, spec_l25Dim_S xs = some (true, r) → runF tab FT D3 live 128 noLoops xs = some r := by
  intro xs r h
  unfold spec_l25Dim_S at h
  split at h
  · simp only [Option.some.injEq, Prod.mk.injEq] at h
    obtain ⟨h1, rfl⟩ := h
    exact fun_told (spec_l25Dim_e _ _) (spec_l25Dim_l _ _) h1
  · cases h
noncomputable def D4 : Dt := also D3 128 spec_l25Dim_S
theorem d4 : DOk Go.Proofs.Try.prog tab D4 := d3.also mixed_ok tab_ok names_ok noLoops_ok spec_l25Dim_s
/-! spec_l25Broadcast -/
theorem dim_i {A : List (List TC)} {j : Nat} (h : A.length ≤ 3) (hj : j < A.length) : IntKind.wrap .i64 ((IntKind.wrap .i64 ((A.length : Int) - (1 : Int))) - (j : Int)) = ((A.length - 1 - j : Nat) : Int) := by
  rw [wrap64 (i := (A.length : Int) - 1) (by omega) (by omega), wrap64 (by omega) (by omega)]; omega
theorem dim_c {A : List (List TC)} {j : Nat} (h : A.length ≤ 3) : spec_l25Dim_c A (j : Int) = true := by
  unfold spec_l25Dim_c
  by_cases hj : j < A.length
  · rw [decide_eq_false (show ¬ ((j : Int) ≥ (A.length : Int)) by omega), dim_i h hj, is_true (p := _ ∧ _) ⟨by omega, by omega⟩]; rfl
  · rw [decide_eq_true (show ((j : Int) ≥ (A.length : Int)) by omega)]; rfl
theorem dim_v {A : List (List TC)} {j : Nat} (h : A.length ≤ 3) : spec_l25Dim_v A (j : Int) = dimK A j := by
  unfold spec_l25Dim_v dimK
  by_cases hj : j < A.length
  · rw [decide_eq_false (show ¬ ((j : Int) ≥ (A.length : Int)) by omega), dim_i h hj, decide_eq_true hj]; rfl
  · rw [decide_eq_true (show ((j : Int) ≥ (A.length : Int)) by omega), decide_eq_false hj]; rfl
abbrev spec_l25Broadcast_6_σ := List (List TC) × List (List TC) × Int × List (List TC) × Int
abbrev spec_l25Broadcast_6_ω := (List (List TC) × List (List TC)) ⊕ (List (List TC))
noncomputable def spec_l25Broadcast_6_step (A : List (List TC)) (B : List (List TC)) (n : Int) (out : List (List TC)) (k : Int) : Tr (spec_l25Broadcast_6_σ ⊕ spec_l25Broadcast_6_ω) := (.ite ((decide (k < n)) = true) (.ite ((spec_l25Dim_c A k) = true) (.ite ((spec_l25Dim_c B k) = true) (.ite ((!((spec_l25Dim_v A k) == (spec_l25Dim_v B k))) = true) (.ite ((!((spec_l25Dim_v A k) == (1 : Int))) = true) (.ite ((!((spec_l25Dim_v B k) == (1 : Int))) = true) (.ok (.inr (.inl ([], out))))
       (.ite (((spec_l25Dim_v A k) == (1 : Int)) = true) (.ite ((0 : Int) ≤ (IntKind.wrap .i64 ((IntKind.wrap .i64 (n - (1 : Int))) - k)) ∧ (IntKind.wrap .i64 ((IntKind.wrap .i64 (n - (1 : Int))) - k)) < (out.length : Int)) (.ok (.inl (A, B, n, (out.set ((IntKind.wrap .i64 ((IntKind.wrap .i64 (n - (1 : Int))) - k))).toNat (splice (row out (IntKind.wrap .i64 ((IntKind.wrap .i64 (n - (1 : Int))) - k))) 0 [TC.i (spec_l25Dim_v B k)])), (IntKind.wrap .i64 (k + (1 : Int))))))
         .no)
        (.ite ((0 : Int) ≤ (IntKind.wrap .i64 ((IntKind.wrap .i64 (n - (1 : Int))) - k)) ∧ (IntKind.wrap .i64 ((IntKind.wrap .i64 (n - (1 : Int))) - k)) < (out.length : Int)) (.ok (.inl (A, B, n, (out.set ((IntKind.wrap .i64 ((IntKind.wrap .i64 (n - (1 : Int))) - k))).toNat (splice (row out (IntKind.wrap .i64 ((IntKind.wrap .i64 (n - (1 : Int))) - k))) 0 [TC.i (spec_l25Dim_v A k)])), (IntKind.wrap .i64 (k + (1 : Int))))))
         .no)))
      (.ite (((spec_l25Dim_v A k) == (1 : Int)) = true) (.ite ((0 : Int) ≤ (IntKind.wrap .i64 ((IntKind.wrap .i64 (n - (1 : Int))) - k)) ∧ (IntKind.wrap .i64 ((IntKind.wrap .i64 (n - (1 : Int))) - k)) < (out.length : Int)) (.ok (.inl (A, B, n, (out.set ((IntKind.wrap .i64 ((IntKind.wrap .i64 (n - (1 : Int))) - k))).toNat (splice (row out (IntKind.wrap .i64 ((IntKind.wrap .i64 (n - (1 : Int))) - k))) 0 [TC.i (spec_l25Dim_v B k)])), (IntKind.wrap .i64 (k + (1 : Int))))))
        .no)
       (.ite ((0 : Int) ≤ (IntKind.wrap .i64 ((IntKind.wrap .i64 (n - (1 : Int))) - k)) ∧ (IntKind.wrap .i64 ((IntKind.wrap .i64 (n - (1 : Int))) - k)) < (out.length : Int)) (.ok (.inl (A, B, n, (out.set ((IntKind.wrap .i64 ((IntKind.wrap .i64 (n - (1 : Int))) - k))).toNat (splice (row out (IntKind.wrap .i64 ((IntKind.wrap .i64 (n - (1 : Int))) - k))) 0 [TC.i (spec_l25Dim_v A k)])), (IntKind.wrap .i64 (k + (1 : Int))))))
        .no)))
     (.ite (((spec_l25Dim_v A k) == (1 : Int)) = true) (.ite ((0 : Int) ≤ (IntKind.wrap .i64 ((IntKind.wrap .i64 (n - (1 : Int))) - k)) ∧ (IntKind.wrap .i64 ((IntKind.wrap .i64 (n - (1 : Int))) - k)) < (out.length : Int)) (.ok (.inl (A, B, n, (out.set ((IntKind.wrap .i64 ((IntKind.wrap .i64 (n - (1 : Int))) - k))).toNat (splice (row out (IntKind.wrap .i64 ((IntKind.wrap .i64 (n - (1 : Int))) - k))) 0 [TC.i (spec_l25Dim_v B k)])), (IntKind.wrap .i64 (k + (1 : Int))))))
       .no)
      (.ite ((0 : Int) ≤ (IntKind.wrap .i64 ((IntKind.wrap .i64 (n - (1 : Int))) - k)) ∧ (IntKind.wrap .i64 ((IntKind.wrap .i64 (n - (1 : Int))) - k)) < (out.length : Int)) (.ok (.inl (A, B, n, (out.set ((IntKind.wrap .i64 ((IntKind.wrap .i64 (n - (1 : Int))) - k))).toNat (splice (row out (IntKind.wrap .i64 ((IntKind.wrap .i64 (n - (1 : Int))) - k))) 0 [TC.i (spec_l25Dim_v A k)])), (IntKind.wrap .i64 (k + (1 : Int))))))
       .no)))
    .no)
   .no)
  (.ok (.inr (.inr out))))
noncomputable def spec_l25Broadcast_6_st : spec_l25Broadcast_6_σ → Tr (spec_l25Broadcast_6_σ ⊕ spec_l25Broadcast_6_ω) := fun x => (spec_l25Broadcast_6_step (x.1) (x.2.1) (x.2.2.1) (x.2.2.2.1) (x.2.2.2.2))
noncomputable def spec_l25Broadcast_k6_1 (A : List (List TC)) (B : List (List TC)) (n : Int) (out : List (List TC)) (k : Int) : Bool := allI (okK A B) (bcN A B)
noncomputable def spec_l25Broadcast_o6_2 (A : List (List TC)) (B : List (List TC)) (n : Int) (out : List (List TC)) (k : Int) : Bool := is (Typed tab (.slice 2) (.l A) ∧ Typed tab (.slice 2) (.l B) ∧ bcN A B ≤ 3 ∧ n = (bcN A B : Int) ∧ out = List.replicate (bcN A B) [TC.i 0] ∧ k = 0)
noncomputable def spec_l25Broadcast_u6_2 (A : List (List TC)) (B : List (List TC)) (n : Int) (out : List (List TC)) (k : Int) : List (List TC) := bcL A B
noncomputable def spec_l25Broadcast_o6_3 (A : List (List TC)) (B : List (List TC)) (n : Int) (out : List (List TC)) (k : Int) : Bool := is (Typed tab (.slice 2) (.l A) ∧ Typed tab (.slice 2) (.l B) ∧ bcN A B ≤ 3 ∧ n = (bcN A B : Int) ∧ out = List.replicate (bcN A B) [TC.i 0] ∧ k = 0)
noncomputable def spec_l25Broadcast_u6_3_0 (A : List (List TC)) (B : List (List TC)) (n : Int) (out : List (List TC)) (k : Int) : List (List TC) := []
noncomputable def spec_l25Broadcast_u6_3_1 (A : List (List TC)) (B : List (List TC)) (n : Int) (out : List (List TC)) (k : Int) : List (List TC) := bcS A B (bcN A B) (idxI (okK A B) (bcN A B))
noncomputable def spec_l25Broadcast_6_fin (A : List (List TC)) (B : List (List TC)) (n : Int) (out : List (List TC)) (k : Int) : Told spec_l25Broadcast_6_ω := (.br (spec_l25Broadcast_k6_1 A B n out k) (.leaf (spec_l25Broadcast_o6_2 A B n out k) (.inr (spec_l25Broadcast_u6_2 A B n out k))) (.leaf (spec_l25Broadcast_o6_3 A B n out k) (.inl ((spec_l25Broadcast_u6_3_0 A B n out k), (spec_l25Broadcast_u6_3_1 A B n out k)))))
def spec_l25Broadcast_6_sl (x : spec_l25Broadcast_6_σ) : List Slot := [⟨.val false [⟨.slice 2, .sh, TC.l (x.1)⟩], ⟨0, 0⟩⟩, ⟨.val false [⟨.slice 2, .sh, TC.l (x.2.1)⟩], ⟨0, 0⟩⟩, ⟨.val false [⟨.int .i64, .sh, TC.i (x.2.2.1)⟩], ⟨0, 0⟩⟩, ⟨.val false [⟨.slice 2, .own true, TC.l (x.2.2.2.1)⟩], ⟨0, 0⟩⟩, ⟨.val false [⟨.int .i64, .sh, TC.i (x.2.2.2.2)⟩], ⟨0, 0⟩⟩]
def spec_l25Broadcast_6_out : spec_l25Broadcast_6_ω → Ex × List Slot := (Sum.elim (fun x => (.ret, [⟨.val false [⟨.slice 2, .own true, TC.l (x.1)⟩], ⟨0, 0⟩⟩, ⟨.val false [⟨.bool, .sh, TC.b false⟩], ⟨0, 0⟩⟩, ⟨.val false [⟨.slice 2, .own true, TC.l (x.2)⟩], ⟨0, 0⟩⟩])) (fun x => (.exit 0, [Slot.none, Slot.none, ⟨.val false [⟨.slice 2, .own true, TC.l x⟩], ⟨0, 0⟩⟩])))
noncomputable def spec_l25Broadcast_lo6 : List Slot → Option (Told (Ex × List Slot)) := fun s => match s with
  | [⟨.val false [⟨.slice 2, .sh, TC.l A⟩], ⟨0, 0⟩⟩, ⟨.val false [⟨.slice 2, .sh, TC.l B⟩], ⟨0, 0⟩⟩, ⟨.val false [⟨.int .i64, .sh, TC.i n⟩], ⟨0, 0⟩⟩, ⟨.val false [⟨.slice 2, .own true, TC.l out⟩], ⟨0, 0⟩⟩, ⟨.val false [⟨.int .i64, .sh, TC.i k⟩], ⟨0, 0⟩⟩] => some (((spec_l25Broadcast_6_fin A B n out k)).map spec_l25Broadcast_6_out)
  | _ => .none
noncomputable def spec_l25Broadcast_lo : LoopTeller := fun r s => bif Nat.beq r 6 then spec_l25Broadcast_lo6 s else .none
theorem spec_l25Broadcast_6_r (A : List (List TC)) (B : List (List TC)) (n : Int) (out : List (List TC)) (k : Int) (fuel : Nat) : rounds (rnd tab FT D4 live 94 spec_l25Broadcast_lo 0 6) leave (fuel + 1) (spec_l25Broadcast_6_sl (A, B, n, out, k)) = ((spec_l25Broadcast_6_step A B n out k)).run (goOn (fun s => rounds (rnd tab FT D4 live 94 spec_l25Broadcast_lo 0 6) leave fuel (spec_l25Broadcast_6_sl s)) fun w => some (spec_l25Broadcast_6_out w)) := by kernel_rfl
theorem spec_l25Broadcast_6_h (A : List (List TC)) (B : List (List TC)) (n : Int) (out : List (List TC)) (k : Int) (ow : spec_l25Broadcast_6_ω) : ((spec_l25Broadcast_6_fin A B n out k)).val = some ow → ∃ fuel, loopN spec_l25Broadcast_6_st fuel (A, B, n, out, k) = some ow := by
  intro h
  refine auto_br (K := allI (okK A B) (bcN A B)) rfl (fun ho => ?_) h
  have ho := ho.elim id id
  obtain ⟨hA, hB, h3, rfl, rfl, rfl⟩ := is_iff.1 ho
  have ha3 : A.length ≤ 3 := Nat.le_trans (Nat.le_max_left ..) h3
  have hb3 : B.length ≤ 3 := Nat.le_trans (Nat.le_max_right ..) h3
  rw [bcS_start (A := A) (B := B)]
  refine loopN_along (step := spec_l25Broadcast_6_st) (bcN A B) (okK A B) (fun j => (A, B, (bcN A B : Int), bcS A B (bcN A B) j, (j : Int))) (.inr (bcL A B)) (fun j => .inl ([], bcS A B (bcN A B) j)) (fun j hj hb => ⟨fun hP => ?_, fun hP => ?_⟩) (fun _ => ?_)
  · have ei : IntKind.wrap .i64 ((IntKind.wrap .i64 ((bcN A B : Int) - (1 : Int))) - (j : Int)) = ((bcN A B - 1 - j : Nat) : Int) := by
      rw [wrap64 (i := (bcN A B : Int) - 1) (by omega) (by omega), wrap64 (by omega) (by omega)]; omega
    have hl : (bcS A B (bcN A B) j).length = bcN A B := outF_len
    obtain ⟨w, hw⟩ : ∃ w, row (bcS A B (bcN A B) j) ((bcN A B - 1 - j : Nat) : Int) = [TC.i w] := ⟨_, outF_row (by omega)⟩
    have hs : ∀ v, splice [TC.i w] 0 [TC.i v] = [TC.i v] := fun _ => rfl
    show (spec_l25Broadcast_6_step A B (bcN A B : Int) (bcS A B (bcN A B) j) (j : Int)).val = _
    unfold spec_l25Broadcast_6_step
    rw [dim_v ha3, dim_v hb3, ei]
    refine Tr.t (by simp; omega) (Tr.t (dim_c ha3) (Tr.t (dim_c hb3) ?_))
    cases hx : dimK A j == 1 with
    | true =>
      have hn : nK A B j = dimK B j := by unfold nK; rw [hx]; rfl
      cases dimK A j == dimK B j with
      | true =>
        refine Tr.n (by simp) (Tr.t rfl ?_)
        refine Tr.t ⟨by omega, by rw [hl]; omega⟩ ?_
        rw [Tr.val_ok, Int.toNat_natCast, hw, hs, ← hn, bcS_set hj, wrap64 (i := (j : Int) + 1) (by omega) (by omega)]; rfl
      | false =>
        refine Tr.t rfl (Tr.n (by simp) (Tr.t rfl ?_))
        refine Tr.t ⟨by omega, by rw [hl]; omega⟩ ?_
        rw [Tr.val_ok, Int.toNat_natCast, hw, hs, ← hn, bcS_set hj, wrap64 (i := (j : Int) + 1) (by omega) (by omega)]; rfl
    | false =>
      have hn : nK A B j = dimK A j := by unfold nK; rw [hx]; rfl
      cases hxy : dimK A j == dimK B j with
      | true =>
        refine Tr.n (by simp) (Tr.n (by simp) ?_)
        refine Tr.t ⟨by omega, by rw [hl]; omega⟩ ?_
        rw [Tr.val_ok, Int.toNat_natCast, hw, hs, ← hn, bcS_set hj, wrap64 (i := (j : Int) + 1) (by omega) (by omega)]; rfl
      | false =>
        cases hy : dimK B j == 1 with
        | true =>
          refine Tr.t rfl (Tr.t rfl (Tr.n (by simp) (Tr.n (by simp) ?_)))
          refine Tr.t ⟨by omega, by rw [hl]; omega⟩ ?_
          rw [Tr.val_ok, Int.toNat_natCast, hw, hs, ← hn, bcS_set hj, wrap64 (i := (j : Int) + 1) (by omega) (by omega)]; rfl
        | false =>
          unfold okK at hP
          rw [hxy, hx, hy] at hP
          cases hP
  · show (spec_l25Broadcast_6_step A B (bcN A B : Int) (bcS A B (bcN A B) j) (j : Int)).val = _
    unfold spec_l25Broadcast_6_step
    rw [dim_v ha3, dim_v hb3]
    refine Tr.t (by simp; omega) (Tr.t (dim_c ha3) (Tr.t (dim_c hb3) ?_))
    unfold okK at hP
    cases hxy : dimK A j == dimK B j with
    | true => rw [hxy] at hP; cases hP
    | false =>
      cases hx : dimK A j == 1 with
      | true => rw [hxy, hx] at hP; cases hP
      | false =>
        cases hy : dimK B j == 1 with
        | true => rw [hxy, hx, hy] at hP; cases hP
        | false => exact Tr.t rfl (Tr.t rfl (Tr.t rfl rfl))
  · show (spec_l25Broadcast_6_step A B (bcN A B : Int) (bcS A B (bcN A B) (bcN A B)) ((bcN A B : Nat) : Int)).val = _
    unfold spec_l25Broadcast_6_step
    refine Tr.n (by simp) ?_
    rw [Tr.val_ok, bcS_end]
theorem spec_l25Broadcast_is6 : LoopIs tab FT D4 live 94 spec_l25Broadcast_lo 0 6 := by
  refine loop_told (sl := spec_l25Broadcast_6_sl) (step := spec_l25Broadcast_6_st) (out := spec_l25Broadcast_6_out) (lor := spec_l25Broadcast_lo6) (fin := fun x => (spec_l25Broadcast_6_fin (x.1) (x.2.1) (x.2.2.1) (x.2.2.2.1) (x.2.2.2.2))) (fun _ => rfl) ?_ (fun x n => spec_l25Broadcast_6_r x.1 x.2.1 x.2.2.1 x.2.2.2.1 x.2.2.2.2 n) (fun x ow => spec_l25Broadcast_6_h x.1 x.2.1 x.2.2.1 x.2.2.2.1 x.2.2.2.2 ow)
  intro s t h
  unfold spec_l25Broadcast_lo6 at h
  split at h
  · cases h; exact ⟨(_, _, _, _, _), rfl, rfl⟩
  · cases h
noncomputable def spec_l25Broadcast_t (A : List (List TC)) (B : List (List TC)) : Tr (List (List TC) × Bool) := (.ite ((decide ((B.length : Int) > (A.length : Int))) = true) (.ite (0 ≤ (B.length : Int) ∧ (B.length : Int) ≤ (B.length : Int) ∧ (B.length : Int) * 8 ≤ 140737488355328 ∧ (B.length : Int) ≤ 140737488355328) (.ite ((spec_l25Broadcast_k6_1 A B (B.length : Int) (List.replicate ((B.length : Int)).toNat [TC.i (0 : Int)]) (0 : Int)) = true) (.ite ((spec_l25Broadcast_o6_2 A B (B.length : Int) (List.replicate ((B.length : Int)).toNat [TC.i (0 : Int)]) (0 : Int)) = true) (.ite ((spec_l05Dims_c (spec_l25Broadcast_u6_2 A B (B.length : Int) (List.replicate ((B.length : Int)).toNat [TC.i (0 : Int)]) (0 : Int))) = true) (.ok ((spec_l25Broadcast_u6_2 A B (B.length : Int) (List.replicate ((B.length : Int)).toNat [TC.i (0 : Int)]) (0 : Int)), (spec_l05Dims_v (spec_l25Broadcast_u6_2 A B (B.length : Int) (List.replicate ((B.length : Int)).toNat [TC.i (0 : Int)]) (0 : Int)))))
      .no)
     .no)
    (.ite ((spec_l25Broadcast_o6_3 A B (B.length : Int) (List.replicate ((B.length : Int)).toNat [TC.i (0 : Int)]) (0 : Int)) = true) (.ok ((spec_l25Broadcast_u6_3_0 A B (B.length : Int) (List.replicate ((B.length : Int)).toNat [TC.i (0 : Int)]) (0 : Int)), false))
     .no))
   .no)
  (.ite (0 ≤ (A.length : Int) ∧ (A.length : Int) ≤ (A.length : Int) ∧ (A.length : Int) * 8 ≤ 140737488355328 ∧ (A.length : Int) ≤ 140737488355328) (.ite ((spec_l25Broadcast_k6_1 A B (A.length : Int) (List.replicate ((A.length : Int)).toNat [TC.i (0 : Int)]) (0 : Int)) = true) (.ite ((spec_l25Broadcast_o6_2 A B (A.length : Int) (List.replicate ((A.length : Int)).toNat [TC.i (0 : Int)]) (0 : Int)) = true) (.ite ((spec_l05Dims_c (spec_l25Broadcast_u6_2 A B (A.length : Int) (List.replicate ((A.length : Int)).toNat [TC.i (0 : Int)]) (0 : Int))) = true) (.ok ((spec_l25Broadcast_u6_2 A B (A.length : Int) (List.replicate ((A.length : Int)).toNat [TC.i (0 : Int)]) (0 : Int)), (spec_l05Dims_v (spec_l25Broadcast_u6_2 A B (A.length : Int) (List.replicate ((A.length : Int)).toNat [TC.i (0 : Int)]) (0 : Int)))))
      .no)
     .no)
    (.ite ((spec_l25Broadcast_o6_3 A B (A.length : Int) (List.replicate ((A.length : Int)).toNat [TC.i (0 : Int)]) (0 : Int)) = true) (.ok ((spec_l25Broadcast_u6_3_0 A B (A.length : Int) (List.replicate ((A.length : Int)).toNat [TC.i (0 : Int)]) (0 : Int)), false))
     .no))
   .no))
def spec_l25Broadcast_mk (p : List (List TC) × Bool) : Res := [(false, [⟨.slice 2, .own true, TC.l (p.1)⟩]), (false, [⟨.bool, .sh, TC.b (p.2)⟩])]
noncomputable def spec_l25Broadcast_c (A : List (List TC)) (B : List (List TC)) : Bool := is (Typed tab (.slice 2) (.l A) ∧ Typed tab (.slice 2) (.l B) ∧ bcN A B ≤ 3)
noncomputable def spec_l25Broadcast_v (A : List (List TC)) (B : List (List TC)) : List (List TC) × Bool := bcV A B
theorem spec_l25Broadcast_l (A : List (List TC)) (B : List (List TC)) : (spec_l25Broadcast_c A B) = true → (spec_l25Broadcast_t A B).val = some (spec_l25Broadcast_v A B) := by
  intro h
  obtain ⟨hA, hB, h3⟩ := is_iff.1 h
  have ha3 : A.length ≤ 3 := Nat.le_trans (Nat.le_max_left ..) h3
  have hb3 : B.length ≤ 3 := Nat.le_trans (Nat.le_max_right ..) h3
  have ht := bcL_ty rfl rfl hA hB h3
  have hk : ∀ n o k, spec_l25Broadcast_k6_1 A B n o k = allI (okK A B) (bcN A B) := fun _ _ _ => rfl
  unfold spec_l25Broadcast_t spec_l25Broadcast_v bcV
  cases hd : decide ((B.length : Int) > (A.length : Int)) with
  | true =>
    have hd := of_decide_eq_true hd
    have e : B.length = bcN A B := (Nat.max_eq_right (by omega)).symm
    have o2 : spec_l25Broadcast_o6_2 A B (B.length : Int) (List.replicate ((B.length : Int)).toNat [TC.i (0 : Int)]) (0 : Int) = true := is_true ⟨hA, hB, h3, by omega, by rw [Int.toNat_natCast, e], rfl⟩
    refine Tr.t rfl (Tr.t ⟨by omega, by omega, by omega, by omega⟩ ?_)
    rw [hk]
    cases allI (okK A B) (bcN A B) with
    | true =>
      refine Tr.t rfl (Tr.t o2 (Tr.t (is_true ⟨is_true ⟨rfl, rfl, ht⟩, is_true ⟨rfl, rfl, ht⟩⟩) ?_))
      rw [Tr.val_ok, spec_l05Dims_vv]; rfl
    | false => exact Tr.n (by simp) (Tr.t o2 rfl)
  | false =>
    have hd := of_decide_eq_false hd
    have e : A.length = bcN A B := (Nat.max_eq_left (by omega)).symm
    have o2 : spec_l25Broadcast_o6_2 A B (A.length : Int) (List.replicate ((A.length : Int)).toNat [TC.i (0 : Int)]) (0 : Int) = true := is_true ⟨hA, hB, h3, by omega, by rw [Int.toNat_natCast, e], rfl⟩
    refine Tr.n (by simp) (Tr.t ⟨by omega, by omega, by omega, by omega⟩ ?_)
    rw [hk]
    cases allI (okK A B) (bcN A B) with
    | true =>
      refine Tr.t rfl (Tr.t o2 (Tr.t (is_true ⟨is_true ⟨rfl, rfl, ht⟩, is_true ⟨rfl, rfl, ht⟩⟩) ?_))
      rw [Tr.val_ok, spec_l05Dims_vv]; rfl
    | false => exact Tr.n (by simp) (Tr.t o2 rfl)
noncomputable def spec_l25Broadcast_S : List Arg → Option (Bool × Res) := fun xs => match xs with
  | [(false, [(.slice 2, TC.l A)]), (false, [(.slice 2, TC.l B)])] => some ((spec_l25Broadcast_c A B), spec_l25Broadcast_mk (spec_l25Broadcast_v A B))
  | _ => .none
theorem spec_l25Broadcast_e (A : List (List TC)) (B : List (List TC)) : runF tab FT D4 live 94 spec_l25Broadcast_lo [(false, [(.slice 2, TC.l A)]), (false, [(.slice 2, TC.l B)])] = (spec_l25Broadcast_t A B).run fun p => some (spec_l25Broadcast_mk p) := by kernel_rfl
theorem spec_l25Broadcast_s : ∀ xs r, spec_l25Broadcast_S xs = some (true, r) → runF tab FT D4 live 94 spec_l25Broadcast_lo xs = some r := by
  intro xs r h
  unfold spec_l25Broadcast_S at h
  split at h
  · simp only [Option.some.injEq, Prod.mk.injEq] at h
    obtain ⟨h1, rfl⟩ := h
    exact fun_told (spec_l25Broadcast_e _ _) (spec_l25Broadcast_l _ _) h1
  · cases h
noncomputable def D5 : Dt := also D4 94 spec_l25Broadcast_S
theorem d5 : DOk Go.Proofs.Try.prog tab D5 := d4.also mixed_ok tab_ok names_ok (fnLoops_one (by kernel_rfl) spec_l25Broadcast_is6) spec_l25Broadcast_s
/-! spec_BroadcastDims -/
noncomputable def spec_BroadcastDims_t (A : List (List TC)) (B : List (List TC)) : Tr (List (List TC) × Bool) := (.ite ((spec_l05Dims_c A) = true) (.ite ((!(spec_l05Dims_v A)) = true) (.ok ([], false))
   (.ite ((spec_l05Dims_c B) = true) (.ite ((!(spec_l05Dims_v B)) = true) (.ok ([], false))
     (.ite ((spec_l25Broadcast_c A B) = true) (.ite ((!(spec_l25Broadcast_v A B).2) = true) (.ok ([], false))
       (.ok ((spec_l25Broadcast_v A B).1, true)))
      .no))
    .no))
  .no)
def spec_BroadcastDims_mk (p : List (List TC) × Bool) : Res := [(false, [⟨.slice 2, .own true, TC.l (p.1)⟩]), (false, [⟨.bool, .sh, TC.b (p.2)⟩])]
noncomputable def spec_BroadcastDims_c (A : List (List TC)) (B : List (List TC)) : Bool := ((spec_l05Dims_c A) && (bif (!(spec_l05Dims_v A)) then true else ((spec_l05Dims_c B) && (bif (!(spec_l05Dims_v B)) then true else ((spec_l25Broadcast_c A B) && (bif (!(spec_l25Broadcast_v A B).2) then true else true))))))
noncomputable def spec_BroadcastDims_v (A : List (List TC)) (B : List (List TC)) : List (List TC) × Bool := (bif (!(spec_l05Dims_v A)) then ([], false) else (bif (!(spec_l05Dims_v B)) then ([], false) else (bif (!(spec_l25Broadcast_v A B).2) then ([], false) else ((spec_l25Broadcast_v A B).1, true))))
theorem spec_BroadcastDims_l (A : List (List TC)) (B : List (List TC)) : (spec_BroadcastDims_c A B) = true → (spec_BroadcastDims_t A B).val = some (spec_BroadcastDims_v A B) := by
  unfold spec_BroadcastDims_t spec_BroadcastDims_v spec_BroadcastDims_c
  exact fun h => (Tr.gb h fun h => (Tr.ss h (fun h => rfl) (fun h => (Tr.gb h fun h => (Tr.ss h (fun h => rfl) (fun h => (Tr.gb h fun h => (Tr.ss h (fun h => rfl) (fun h => rfl)))))))))
noncomputable def spec_BroadcastDims_S : List Arg → Option (Bool × Res) := fun xs => match xs with
  | [(false, [(.slice 2, TC.l A)]), (false, [(.slice 2, TC.l B)])] => some ((spec_BroadcastDims_c A B), spec_BroadcastDims_mk (spec_BroadcastDims_v A B))
  | _ => .none
theorem spec_BroadcastDims_e (A : List (List TC)) (B : List (List TC)) : runF tab FT D5 live 51 noLoops [(false, [(.slice 2, TC.l A)]), (false, [(.slice 2, TC.l B)])] = (spec_BroadcastDims_t A B).run fun p => some (spec_BroadcastDims_mk p) := by kernel_rfl
theorem spec_BroadcastDims_s : ∀ xs r, spec_BroadcastDims_S xs = some (true, r) → runF tab FT D5 live 51 noLoops xs = some r := by
  intro xs r h
  unfold spec_BroadcastDims_S at h
  split at h
  · simp only [Option.some.injEq, Prod.mk.injEq] at h
    obtain ⟨h1, rfl⟩ := h
    exact fun_told (spec_BroadcastDims_e _ _) (spec_BroadcastDims_l _ _) h1
  · cases h
noncomputable def D6 : Dt := also D5 51 spec_BroadcastDims_S
theorem d6 : DOk Go.Proofs.Try.prog tab D6 := d5.also mixed_ok tab_ok names_ok noLoops_ok spec_BroadcastDims_s
theorem spec_BroadcastDims_cc {A : List (List TC)} {B : List (List TC)} (hA : Typed tab (.slice 2) (.l A)) (hB : Typed tab (.slice 2) (.l B)) : (spec_BroadcastDims_c A B) = true := by
  unfold spec_BroadcastDims_c
  refine andT (by first | (apply is_true; and_intros <;> (first | rfl | assumption | (first | (apply is_true; and_intros <;> (first | rfl | assumption | (first | (apply is_true; and_intros <;> (first | rfl | assumption | (first | (apply is_true; and_intros <;> (first | rfl | assumption)))))))))))) ?_
  refine bifT (fun b1 => ?_) (fun b1 => ?_)
  · skip
    rfl
  · skip
    refine andT (by first | (apply is_true; and_intros <;> (first | rfl | assumption | (first | (apply is_true; and_intros <;> (first | rfl | assumption | (first | (apply is_true; and_intros <;> (first | rfl | assumption | (first | (apply is_true; and_intros <;> (first | rfl | assumption)))))))))))) ?_
    refine bifT (fun b2 => ?_) (fun b2 => ?_)
    · skip
      rfl
    · skip
      refine andT (by exact is_true ⟨hA, hB, bd_len ((spec_l05Dims_vv A).symm.trans (notF b1)) ((spec_l05Dims_vv B).symm.trans (notF b2))⟩) ?_
      refine bifT (fun b3 => ?_) (fun b3 => ?_)
      · skip
        rfl
      · skip
        rfl
theorem spec_BroadcastDims_vv (A B : List (List TC)) : spec_BroadcastDims_v A B = bdV A B := by
  unfold spec_BroadcastDims_v bdV
  rw [spec_l05Dims_vv, spec_l05Dims_vv]
  rfl
/-! impl_within -/
noncomputable def impl_within_t (a0 : Int) (a1 : Int) (a2 : Int) : Tr (Bool) := (.ite ((decide (a0 ≥ a1)) = true) (.ok (decide (a0 ≤ a2)))
  (.ok false))
def impl_within_mk (p : Bool) : Res := [(false, [⟨.bool, .sh, TC.b p⟩])]
noncomputable def impl_within_c (a0 : Int) (a1 : Int) (a2 : Int) : Bool := true
noncomputable def impl_within_v (a0 : Int) (a1 : Int) (a2 : Int) : Bool := (bif (decide (a0 ≥ a1)) then (decide (a0 ≤ a2)) else false)
theorem impl_within_l (a0 : Int) (a1 : Int) (a2 : Int) : (impl_within_c a0 a1 a2) = true → (impl_within_t a0 a1 a2).val = some (impl_within_v a0 a1 a2) := by
  intro h
  skip
  unfold impl_within_t impl_within_v
  exact (Tr.s rfl rfl)
noncomputable def impl_within_S : List Arg → Option (Bool × Res) := fun xs => match xs with
  | [(false, [(.int .i64, TC.i a0)]), (false, [(.int .i64, TC.i a1)]), (false, [(.int .i64, TC.i a2)])] => some (true, impl_within_mk (impl_within_v a0 a1 a2))
  | _ => .none
theorem impl_within_e (a0 : Int) (a1 : Int) (a2 : Int) : runF tab FT D6 live 112 noLoops [(false, [(.int .i64, TC.i a0)]), (false, [(.int .i64, TC.i a1)]), (false, [(.int .i64, TC.i a2)])] = (impl_within_t a0 a1 a2).run fun p => some (impl_within_mk p) := by kernel_rfl
theorem impl_within_s : ∀ xs r, impl_within_S xs = some (true, r) → runF tab FT D6 live 112 noLoops xs = some r := by
  intro xs r h
  unfold impl_within_S at h
  split at h
  · simp only [Option.some.injEq, Prod.mk.injEq] at h
    obtain ⟨h1, rfl⟩ := h
    exact fun_told (impl_within_e _ _ _) (impl_within_l _ _ _) rfl
  · cases h
noncomputable def D7 : Dt := also D6 112 impl_within_S
theorem d7 : DOk Go.Proofs.Try.prog tab D7 := d6.also mixed_ok tab_ok names_ok noLoops_ok impl_within_s
/-! impl_allWithin_1 -/
noncomputable def impl_allWithin_1_t (a0 : Int) (a1 : List TC) (a2 : List TC) : Tr (Bool) := .ok (!(impl_within_v a0 ((nth a1 0).int) ((nth a2 0).int)))
def impl_allWithin_1_mk (p : Bool) : Res := [(false, [⟨.bool, .sh, TC.b p⟩])]
noncomputable def impl_allWithin_1_c (a0 : Int) (a1 : List TC) (a2 : List TC) : Bool := true
noncomputable def impl_allWithin_1_v (a0 : Int) (a1 : List TC) (a2 : List TC) : Bool := (!(impl_within_v a0 ((nth a1 0).int) ((nth a2 0).int)))
theorem impl_allWithin_1_l (a0 : Int) (a1 : List TC) (a2 : List TC) : (impl_allWithin_1_c a0 a1 a2) = true → (impl_allWithin_1_t a0 a1 a2).val = some (impl_allWithin_1_v a0 a1 a2) := by
  intro h
  skip
  unfold impl_allWithin_1_t impl_allWithin_1_v
  exact rfl
noncomputable def impl_allWithin_1_S : List Arg → Option (Bool × Res) := fun xs => match xs with
  | [(false, [(.int .i64, TC.i a0)]), (false, [(.ptr 2, TC.p a1)]), (false, [(.ptr 2, TC.p a2)])] => some (true, impl_allWithin_1_mk (impl_allWithin_1_v a0 a1 a2))
  | _ => .none
theorem impl_allWithin_1_e (a0 : Int) (a1 : List TC) (a2 : List TC) : runF tab FT D7 live 125 noLoops [(false, [(.int .i64, TC.i a0)]), (false, [(.ptr 2, TC.p a1)]), (false, [(.ptr 2, TC.p a2)])] = (impl_allWithin_1_t a0 a1 a2).run fun p => some (impl_allWithin_1_mk p) := by kernel_rfl
theorem impl_allWithin_1_s : ∀ xs r, impl_allWithin_1_S xs = some (true, r) → runF tab FT D7 live 125 noLoops xs = some r := by
  intro xs r h
  unfold impl_allWithin_1_S at h
  split at h
  · simp only [Option.some.injEq, Prod.mk.injEq] at h
    obtain ⟨h1, rfl⟩ := h
    exact fun_told (impl_allWithin_1_e _ _ _) (impl_allWithin_1_l _ _ _) rfl
  · cases h
noncomputable def D8 : Dt := also D7 125 impl_allWithin_1_S
theorem d8 : DOk Go.Proofs.Try.prog tab D8 := d7.also mixed_ok tab_ok names_ok noLoops_ok impl_allWithin_1_s
/-! slices_IndexFunc_int64_int64 -/
abbrev slices_IndexFunc_int64_int64_2_σ := List (List TC) × List TC × List TC × Int × Int
abbrev slices_IndexFunc_int64_int64_2_ω := (Int) ⊕ (Unit)
noncomputable def slices_IndexFunc_int64_int64_2_step (A : List (List TC)) (lw : List TC) (hg : List TC) (m : Int) (i : Int) : Tr (slices_IndexFunc_int64_int64_2_σ ⊕ slices_IndexFunc_int64_int64_2_ω) := (.ite ((decide (i < m)) = true) (.ite ((0 : Int) ≤ i ∧ i < (A.length : Int)) (.ite ((!(impl_within_v ((nth (row A i) 0).int) ((nth lw 0).int) ((nth hg 0).int))) = true) (.ok (.inr (.inl i)))
    (.ok (.inl (A, lw, hg, m, (IntKind.wrap .i64 (i + (1 : Int)))))))
   .no)
  (.ok (.inr (.inr ()))))
noncomputable def slices_IndexFunc_int64_int64_2_st : slices_IndexFunc_int64_int64_2_σ → Tr (slices_IndexFunc_int64_int64_2_σ ⊕ slices_IndexFunc_int64_int64_2_ω) := fun x => (slices_IndexFunc_int64_int64_2_step (x.1) (x.2.1) (x.2.2.1) (x.2.2.2.1) (x.2.2.2.2))
noncomputable def slices_IndexFunc_int64_int64_k2_1 (A : List (List TC)) (lw : List TC) (hg : List TC) (m : Int) (i : Int) : Bool := A.all (inR (nth lw 0).int (nth hg 0).int)
noncomputable def slices_IndexFunc_int64_int64_o2_2 (A : List (List TC)) (lw : List TC) (hg : List TC) (m : Int) (i : Int) : Bool := is (i = 0 ∧ Typed tab (.slice 2) (.l A) ∧ m = (A.length : Int))
noncomputable def slices_IndexFunc_int64_int64_o2_3 (A : List (List TC)) (lw : List TC) (hg : List TC) (m : Int) (i : Int) : Bool := is (i = 0 ∧ Typed tab (.slice 2) (.l A) ∧ m = (A.length : Int))
noncomputable def slices_IndexFunc_int64_int64_u2_3 (A : List (List TC)) (lw : List TC) (hg : List TC) (m : Int) (i : Int) : Int := (Int.ofNat (A.findIdx fun x => !(inR (nth lw 0).int (nth hg 0).int) x))
noncomputable def slices_IndexFunc_int64_int64_2_fin (A : List (List TC)) (lw : List TC) (hg : List TC) (m : Int) (i : Int) : Told slices_IndexFunc_int64_int64_2_ω := (.br (slices_IndexFunc_int64_int64_k2_1 A lw hg m i) (.leaf (slices_IndexFunc_int64_int64_o2_2 A lw hg m i) (.inr ())) (.leaf (slices_IndexFunc_int64_int64_o2_3 A lw hg m i) (.inl (slices_IndexFunc_int64_int64_u2_3 A lw hg m i))))
def slices_IndexFunc_int64_int64_2_sl (x : slices_IndexFunc_int64_int64_2_σ) : List Slot := [⟨.val false [⟨.slice 2, .sh, TC.l (x.1)⟩], ⟨0, 0⟩⟩, ⟨.val false [⟨.func, .sh, TC.f 125 [(2, x.2.1), (2, x.2.2.1)]⟩], ⟨0, 0⟩⟩, ⟨.val false [⟨.int .i64, .sh, TC.i (x.2.2.2.1)⟩], ⟨0, 0⟩⟩, ⟨.val false [⟨.int .i64, .sh, TC.i (x.2.2.2.2)⟩], ⟨0, 0⟩⟩]
def slices_IndexFunc_int64_int64_2_out : slices_IndexFunc_int64_int64_2_ω → Ex × List Slot := (Sum.elim (fun x => (.ret, [⟨.val false [⟨.int .i64, .sh, TC.i x⟩], ⟨0, 0⟩⟩])) (fun x => (.exit 0, [Slot.none])))
noncomputable def slices_IndexFunc_int64_int64_lo2 : List Slot → Option (Told (Ex × List Slot)) := fun s => match s with
  | [⟨.val false [⟨.slice 2, .sh, TC.l A⟩], ⟨0, 0⟩⟩, ⟨.val false [⟨.func, .sh, TC.f 125 [(2, lw), (2, hg)]⟩], ⟨0, 0⟩⟩, ⟨.val false [⟨.int .i64, .sh, TC.i m⟩], ⟨0, 0⟩⟩, ⟨.val false [⟨.int .i64, .sh, TC.i i⟩], ⟨0, 0⟩⟩] => some (((slices_IndexFunc_int64_int64_2_fin A lw hg m i)).map slices_IndexFunc_int64_int64_2_out)
  | _ => .none
noncomputable def slices_IndexFunc_int64_int64_lo : LoopTeller := fun r s => bif Nat.beq r 2 then slices_IndexFunc_int64_int64_lo2 s else .none
theorem slices_IndexFunc_int64_int64_2_r (A : List (List TC)) (lw : List TC) (hg : List TC) (m : Int) (i : Int) (fuel : Nat) : rounds (rnd tab FT D8 live 144 slices_IndexFunc_int64_int64_lo 0 2) leave (fuel + 1) (slices_IndexFunc_int64_int64_2_sl (A, lw, hg, m, i)) = ((slices_IndexFunc_int64_int64_2_step A lw hg m i)).run (goOn (fun s => rounds (rnd tab FT D8 live 144 slices_IndexFunc_int64_int64_lo 0 2) leave fuel (slices_IndexFunc_int64_int64_2_sl s)) fun w => some (slices_IndexFunc_int64_int64_2_out w)) := by kernel_rfl
theorem slices_IndexFunc_int64_int64_2_h (A : List (List TC)) (lw : List TC) (hg : List TC) (m : Int) (i : Int) (ow : slices_IndexFunc_int64_int64_2_ω) : ((slices_IndexFunc_int64_int64_2_fin A lw hg m i)).val = some ow → ∃ fuel, loopN slices_IndexFunc_int64_int64_2_st fuel (A, lw, hg, m, i) = some ow := by
  intro h
  have key : Typed tab (.slice 2) (.l A) → loopN slices_IndexFunc_int64_int64_2_st (A.length + 1) (A, lw, hg, (A.length : Int), (0 : Int)) = some (if A.all (inR (nth lw 0).int (nth hg 0).int) = true then (.inr ()) else (.inl (Int.ofNat (A.findIdx fun x => !(inR (nth lw 0).int (nth hg 0).int) x)))) := by
    intro ht
    have hlen : A.length ≤ 140737488351232 := by have := typed_room ht; simp only [show (tab 2).bytes = 8 from rfl] at this; omega
    have key := loopN_scan (step := slices_IndexFunc_int64_int64_2_st) A [] (inR (nth lw 0).int (nth hg 0).int) (fun a _ => a) (fun i a => (A, lw, hg, (A.length : Int), (i : Int))) (fun a => (.inr ())) (fun i a => (.inl (i : Int))) (fun i a hi => ?_) (fun a => ?_) A.length 0 () (by omega)
    · first | (rw [Nat.zero_add] at key; exact key) | exact key
    · skip
      show (slices_IndexFunc_int64_int64_2_step A lw hg (A.length : Int) (i : Int)).val = _
      unfold slices_IndexFunc_int64_int64_2_step
      refine Tr.t (by simp; omega) ?_
      skip
      refine Tr.t (by first | omega | (constructor <;> omega)) ?_
      refine Tr.b (P := (inR (nth lw 0).int (nth hg 0).int) (A.getD i [])) (fun hP => ?_) (fun _ => rfl)
      rw [Tr.val_ok, wrap64 (i := (i : Int) + 1) (by omega) (by omega)]; rfl
    · show (slices_IndexFunc_int64_int64_2_step A lw hg (A.length : Int) (A.length : Int)).val = _
      refine Tr.n (by simp) ?_
      rfl
  simp only [slices_IndexFunc_int64_int64_2_fin, Told.val] at h
  cases hk : A.all (inR (nth lw 0).int (nth hg 0).int) with
  | true =>
    rw [if_pos (show slices_IndexFunc_int64_int64_k2_1 A lw hg m i = true from hk)] at h
    split at h
    · rename_i ho
      obtain ⟨rfl, ht, rfl⟩ := is_iff.1 ho
      cases h
      refine ⟨_, (key ht).trans ?_⟩
      rw [hk]; rfl
    · cases h
  | false =>
    rw [if_neg (show ¬slices_IndexFunc_int64_int64_k2_1 A lw hg m i = true from by rw [show slices_IndexFunc_int64_int64_k2_1 A lw hg m i = (A.all (inR (nth lw 0).int (nth hg 0).int)) from rfl, hk]; simp)] at h
    split at h
    · rename_i ho
      obtain ⟨rfl, ht, rfl⟩ := is_iff.1 ho
      cases h
      refine ⟨_, (key ht).trans ?_⟩
      rw [hk]; rfl
    · cases h
theorem slices_IndexFunc_int64_int64_is2 : LoopIs tab FT D8 live 144 slices_IndexFunc_int64_int64_lo 0 2 := by
  refine loop_told (sl := slices_IndexFunc_int64_int64_2_sl) (step := slices_IndexFunc_int64_int64_2_st) (out := slices_IndexFunc_int64_int64_2_out) (lor := slices_IndexFunc_int64_int64_lo2) (fin := fun x => (slices_IndexFunc_int64_int64_2_fin (x.1) (x.2.1) (x.2.2.1) (x.2.2.2.1) (x.2.2.2.2))) (fun _ => rfl) ?_ (fun x n => slices_IndexFunc_int64_int64_2_r x.1 x.2.1 x.2.2.1 x.2.2.2.1 x.2.2.2.2 n) (fun x ow => slices_IndexFunc_int64_int64_2_h x.1 x.2.1 x.2.2.1 x.2.2.2.1 x.2.2.2.2 ow)
  intro s t h
  unfold slices_IndexFunc_int64_int64_lo2 at h
  split at h
  · cases h; exact ⟨(_, _, _, _, _), rfl, rfl⟩
  · cases h
noncomputable def slices_IndexFunc_int64_int64_t (A : List (List TC)) (lw : List TC) (hg : List TC) : Tr (Int) := (.ite ((slices_IndexFunc_int64_int64_k2_1 A lw hg (A.length : Int) (0 : Int)) = true) (.ite ((slices_IndexFunc_int64_int64_o2_2 A lw hg (A.length : Int) (0 : Int)) = true) (.ok (-1 : Int))
   .no)
  (.ite ((slices_IndexFunc_int64_int64_o2_3 A lw hg (A.length : Int) (0 : Int)) = true) (.ok (slices_IndexFunc_int64_int64_u2_3 A lw hg (A.length : Int) (0 : Int)))
   .no))
def slices_IndexFunc_int64_int64_mk (p : Int) : Res := [(false, [⟨.int .i64, .sh, TC.i p⟩])]
noncomputable def slices_IndexFunc_int64_int64_c (A : List (List TC)) (lw : List TC) (hg : List TC) : Bool := is (Typed tab (.slice 2) (.l A))
noncomputable def slices_IndexFunc_int64_int64_v (A : List (List TC)) (lw : List TC) (hg : List TC) : Int := if (A.all (inR (nth lw 0).int (nth hg 0).int)) = true then -1 else (Int.ofNat (A.findIdx fun x => !(inR (nth lw 0).int (nth hg 0).int) x))
theorem slices_IndexFunc_int64_int64_l (A : List (List TC)) (lw : List TC) (hg : List TC) : (slices_IndexFunc_int64_int64_c A lw hg) = true → (slices_IndexFunc_int64_int64_t A lw hg).val = some (slices_IndexFunc_int64_int64_v A lw hg) := by
  intro h
  have ht := is_iff.1 h
  unfold slices_IndexFunc_int64_int64_t
  cases hk : A.all (inR (nth lw 0).int (nth hg 0).int) with
  | true =>
    refine Tr.t (show A.all (inR (nth lw 0).int (nth hg 0).int) = true from hk) ?_
    refine Tr.t (by first | (apply is_true; and_intros <;> (first | rfl | assumption | (apply spec_BroadcastDims_cc <;> assumption) | (first | (apply is_true; and_intros <;> (first | rfl | assumption | (apply spec_BroadcastDims_cc <;> assumption) | (first | (apply is_true; and_intros <;> (first | rfl | assumption | (apply spec_BroadcastDims_cc <;> assumption) | (first | (apply is_true; and_intros <;> (first | rfl | assumption | (apply spec_BroadcastDims_cc <;> assumption))) | (apply spec_BroadcastDims_cc <;> assumption)))) | (apply spec_BroadcastDims_cc <;> assumption)))) | (apply spec_BroadcastDims_cc <;> assumption)))) | (apply spec_BroadcastDims_cc <;> assumption)) ?_
    show _ = some (slices_IndexFunc_int64_int64_v A lw hg); unfold slices_IndexFunc_int64_int64_v; rw [if_pos hk]; rfl
  | false =>
    refine Tr.n (show ¬A.all (inR (nth lw 0).int (nth hg 0).int) = true from by rw [hk]; simp) ?_
    refine Tr.t (by first | (apply is_true; and_intros <;> (first | rfl | assumption | (apply spec_BroadcastDims_cc <;> assumption) | (first | (apply is_true; and_intros <;> (first | rfl | assumption | (apply spec_BroadcastDims_cc <;> assumption) | (first | (apply is_true; and_intros <;> (first | rfl | assumption | (apply spec_BroadcastDims_cc <;> assumption) | (first | (apply is_true; and_intros <;> (first | rfl | assumption | (apply spec_BroadcastDims_cc <;> assumption))) | (apply spec_BroadcastDims_cc <;> assumption)))) | (apply spec_BroadcastDims_cc <;> assumption)))) | (apply spec_BroadcastDims_cc <;> assumption)))) | (apply spec_BroadcastDims_cc <;> assumption)) ?_
    show _ = some (slices_IndexFunc_int64_int64_v A lw hg); unfold slices_IndexFunc_int64_int64_v; rw [if_neg (by rw [hk]; simp)]; rfl
noncomputable def slices_IndexFunc_int64_int64_S : List Arg → Option (Bool × Res) := fun xs => match xs with
  | [(false, [(.slice 2, TC.l A)]), (false, [(.func, TC.f 125 [(2, lw), (2, hg)])])] => some ((slices_IndexFunc_int64_int64_c A lw hg), slices_IndexFunc_int64_int64_mk (slices_IndexFunc_int64_int64_v A lw hg))
  | _ => .none
theorem slices_IndexFunc_int64_int64_e (A : List (List TC)) (lw : List TC) (hg : List TC) : runF tab FT D8 live 144 slices_IndexFunc_int64_int64_lo [(false, [(.slice 2, TC.l A)]), (false, [(.func, TC.f 125 [(2, lw), (2, hg)])])] = (slices_IndexFunc_int64_int64_t A lw hg).run fun p => some (slices_IndexFunc_int64_int64_mk p) := by kernel_rfl
theorem slices_IndexFunc_int64_int64_s : ∀ xs r, slices_IndexFunc_int64_int64_S xs = some (true, r) → runF tab FT D8 live 144 slices_IndexFunc_int64_int64_lo xs = some r := by
  intro xs r h
  unfold slices_IndexFunc_int64_int64_S at h
  split at h
  · simp only [Option.some.injEq, Prod.mk.injEq] at h
    obtain ⟨h1, rfl⟩ := h
    exact fun_told (slices_IndexFunc_int64_int64_e _ _ _) (slices_IndexFunc_int64_int64_l _ _ _) h1
  · cases h
noncomputable def D9 : Dt := also D8 144 slices_IndexFunc_int64_int64_S
theorem d9 : DOk Go.Proofs.Try.prog tab D9 := d8.also mixed_ok tab_ok names_ok (fnLoops_one (by kernel_rfl) slices_IndexFunc_int64_int64_is2) slices_IndexFunc_int64_int64_s
/-! slices_ContainsFunc_int64_int64 -/
noncomputable def slices_ContainsFunc_int64_int64_t (A : List (List TC)) (lw : List TC) (hg : List TC) : Tr (Bool) := (.ite ((slices_IndexFunc_int64_int64_c A lw hg) = true) (.ok (decide ((slices_IndexFunc_int64_int64_v A lw hg) ≥ (0 : Int))))
  .no)
def slices_ContainsFunc_int64_int64_mk (p : Bool) : Res := [(false, [⟨.bool, .sh, TC.b p⟩])]
noncomputable def slices_ContainsFunc_int64_int64_c (A : List (List TC)) (lw : List TC) (hg : List TC) : Bool := is (Typed tab (.slice 2) (.l A))
noncomputable def slices_ContainsFunc_int64_int64_v (A : List (List TC)) (lw : List TC) (hg : List TC) : Bool := !(A.all (inR (nth lw 0).int (nth hg 0).int))
theorem slices_ContainsFunc_int64_int64_l (A : List (List TC)) (lw : List TC) (hg : List TC) : (slices_ContainsFunc_int64_int64_c A lw hg) = true → (slices_ContainsFunc_int64_int64_t A lw hg).val = some (slices_ContainsFunc_int64_int64_v A lw hg) := by
  intro h
  have ht := is_iff.1 h
  unfold slices_ContainsFunc_int64_int64_t
  refine Tr.t (by first | (apply is_true; and_intros <;> (first | rfl | assumption | (apply spec_BroadcastDims_cc <;> assumption) | (first | (apply is_true; and_intros <;> (first | rfl | assumption | (apply spec_BroadcastDims_cc <;> assumption) | (first | (apply is_true; and_intros <;> (first | rfl | assumption | (apply spec_BroadcastDims_cc <;> assumption) | (first | (apply is_true; and_intros <;> (first | rfl | assumption | (apply spec_BroadcastDims_cc <;> assumption))) | (apply spec_BroadcastDims_cc <;> assumption)))) | (apply spec_BroadcastDims_cc <;> assumption)))) | (apply spec_BroadcastDims_cc <;> assumption)))) | (apply spec_BroadcastDims_cc <;> assumption)) ?_
  show some (decide (slices_IndexFunc_int64_int64_v A lw hg ≥ 0)) = some (!(A.all (inR (nth lw 0).int (nth hg 0).int)))
  unfold slices_IndexFunc_int64_int64_v
  cases hk : A.all (inR (nth lw 0).int (nth hg 0).int) <;> simp
noncomputable def slices_ContainsFunc_int64_int64_S : List Arg → Option (Bool × Res) := fun xs => match xs with
  | [(false, [(.slice 2, TC.l A)]), (false, [(.func, TC.f 125 [(2, lw), (2, hg)])])] => some ((slices_ContainsFunc_int64_int64_c A lw hg), slices_ContainsFunc_int64_int64_mk (slices_ContainsFunc_int64_int64_v A lw hg))
  | _ => .none
theorem slices_ContainsFunc_int64_int64_e (A : List (List TC)) (lw : List TC) (hg : List TC) : runF tab FT D9 live 124 noLoops [(false, [(.slice 2, TC.l A)]), (false, [(.func, TC.f 125 [(2, lw), (2, hg)])])] = (slices_ContainsFunc_int64_int64_t A lw hg).run fun p => some (slices_ContainsFunc_int64_int64_mk p) := by kernel_rfl
theorem slices_ContainsFunc_int64_int64_s : ∀ xs r, slices_ContainsFunc_int64_int64_S xs = some (true, r) → runF tab FT D9 live 124 noLoops xs = some r := by
  intro xs r h
  unfold slices_ContainsFunc_int64_int64_S at h
  split at h
  · simp only [Option.some.injEq, Prod.mk.injEq] at h
    obtain ⟨h1, rfl⟩ := h
    exact fun_told (slices_ContainsFunc_int64_int64_e _ _ _) (slices_ContainsFunc_int64_int64_l _ _ _) h1
  · cases h
noncomputable def D10 : Dt := also D9 124 slices_ContainsFunc_int64_int64_S
theorem d10 : DOk Go.Proofs.Try.prog tab D10 := d9.also mixed_ok tab_ok names_ok noLoops_ok slices_ContainsFunc_int64_int64_s
/-! impl_allWithin -/
noncomputable def impl_allWithin_t (a0 : List (List TC)) (a1 : Int) (a2 : Int) : Tr (Bool) := (.ite ((slices_ContainsFunc_int64_int64_c a0 [TC.i a1] [TC.i a2]) = true) (.ok (!(slices_ContainsFunc_int64_int64_v a0 [TC.i a1] [TC.i a2])))
  .no)
def impl_allWithin_mk (p : Bool) : Res := [(false, [⟨.bool, .sh, TC.b p⟩])]
noncomputable def impl_allWithin_c (a0 : List (List TC)) (a1 : Int) (a2 : Int) : Bool := (slices_ContainsFunc_int64_int64_c a0 [TC.i a1] [TC.i a2])
noncomputable def impl_allWithin_v (a0 : List (List TC)) (a1 : Int) (a2 : Int) : Bool := (!(slices_ContainsFunc_int64_int64_v a0 [TC.i a1] [TC.i a2]))
theorem impl_allWithin_l (a0 : List (List TC)) (a1 : Int) (a2 : Int) : (impl_allWithin_c a0 a1 a2) = true → (impl_allWithin_t a0 a1 a2).val = some (impl_allWithin_v a0 a1 a2) := by
  intro h
  have hc0 : (slices_ContainsFunc_int64_int64_c a0 [TC.i a1] [TC.i a2]) = true := h
  unfold impl_allWithin_t
  exact (Tr.t hc0 rfl)
noncomputable def impl_allWithin_S : List Arg → Option (Bool × Res) := fun xs => match xs with
  | [(false, [(.slice 2, TC.l a0)]), (false, [(.int .i64, TC.i a1)]), (false, [(.int .i64, TC.i a2)])] => some ((impl_allWithin_c a0 a1 a2), impl_allWithin_mk (impl_allWithin_v a0 a1 a2))
  | _ => .none
theorem impl_allWithin_e (a0 : List (List TC)) (a1 : Int) (a2 : Int) : runF tab FT D10 live 82 noLoops [(false, [(.slice 2, TC.l a0)]), (false, [(.int .i64, TC.i a1)]), (false, [(.int .i64, TC.i a2)])] = (impl_allWithin_t a0 a1 a2).run fun p => some (impl_allWithin_mk p) := by kernel_rfl
theorem impl_allWithin_s : ∀ xs r, impl_allWithin_S xs = some (true, r) → runF tab FT D10 live 82 noLoops xs = some r := by
  intro xs r h
  unfold impl_allWithin_S at h
  split at h
  · simp only [Option.some.injEq, Prod.mk.injEq] at h
    obtain ⟨h1, rfl⟩ := h
    exact fun_told (impl_allWithin_e _ _ _) (impl_allWithin_l _ _ _) h1
  · cases h
noncomputable def D11 : Dt := also D10 82 impl_allWithin_S
theorem d11 : DOk Go.Proofs.Try.prog tab D11 := d10.also mixed_ok tab_ok names_ok noLoops_ok impl_allWithin_s
/-! impl_product -/
abbrev impl_product_3_σ := Int × List (List TC) × Int × Int
abbrev impl_product_3_ω := (Int)
noncomputable def impl_product_3_step (n : Int) (A : List (List TC)) (m : Int) (i : Int) : Tr (impl_product_3_σ ⊕ impl_product_3_ω) := (.ite ((decide (i < m)) = true) (.ite ((0 : Int) ≤ i ∧ i < (A.length : Int)) (.ok (.inl ((IntKind.wrap .i64 (n * (nth (row A i) 0).int)), A, m, (IntKind.wrap .i64 (i + (1 : Int))))))
   .no)
  (.ok (.inr n)))
noncomputable def impl_product_3_st : impl_product_3_σ → Tr (impl_product_3_σ ⊕ impl_product_3_ω) := fun x => (impl_product_3_step (x.1) (x.2.1) (x.2.2.1) (x.2.2.2))
noncomputable def impl_product_o3_1 (n : Int) (A : List (List TC)) (m : Int) (i : Int) : Bool := is (i = 0 ∧ n = 1 ∧ Typed tab (.slice 2) (.l A) ∧ m = (A.length : Int))
noncomputable def impl_product_u3_1 (n : Int) (A : List (List TC)) (m : Int) (i : Int) : Int := (A.foldl mulR (1 : Int))
noncomputable def impl_product_3_fin (n : Int) (A : List (List TC)) (m : Int) (i : Int) : Told impl_product_3_ω := (.leaf (impl_product_o3_1 n A m i) (impl_product_u3_1 n A m i))
def impl_product_3_sl (x : impl_product_3_σ) : List Slot := [⟨.val false [⟨.int .i64, .sh, TC.i (x.1)⟩], ⟨0, 0⟩⟩, ⟨.val false [⟨.slice 2, .sh, TC.l (x.2.1)⟩], ⟨0, 0⟩⟩, ⟨.val false [⟨.int .i64, .sh, TC.i (x.2.2.1)⟩], ⟨0, 0⟩⟩, ⟨.val false [⟨.int .i64, .sh, TC.i (x.2.2.2)⟩], ⟨0, 0⟩⟩]
def impl_product_3_out : impl_product_3_ω → Ex × List Slot := (fun x => (.exit 0, [Slot.none, ⟨.val false [⟨.int .i64, .sh, TC.i x⟩], ⟨0, 0⟩⟩]))
noncomputable def impl_product_lo3 : List Slot → Option (Told (Ex × List Slot)) := fun s => match s with
  | [⟨.val false [⟨.int .i64, .sh, TC.i n⟩], ⟨0, 0⟩⟩, ⟨.val false [⟨.slice 2, .sh, TC.l A⟩], ⟨0, 0⟩⟩, ⟨.val false [⟨.int .i64, .sh, TC.i m⟩], ⟨0, 0⟩⟩, ⟨.val false [⟨.int .i64, .sh, TC.i i⟩], ⟨0, 0⟩⟩] => some (((impl_product_3_fin n A m i)).map impl_product_3_out)
  | _ => .none
noncomputable def impl_product_lo : LoopTeller := fun r s => bif Nat.beq r 3 then impl_product_lo3 s else .none
theorem impl_product_3_r (n : Int) (A : List (List TC)) (m : Int) (i : Int) (fuel : Nat) : rounds (rnd tab FT D11 live 83 impl_product_lo 0 3) leave (fuel + 1) (impl_product_3_sl (n, A, m, i)) = ((impl_product_3_step n A m i)).run (goOn (fun s => rounds (rnd tab FT D11 live 83 impl_product_lo 0 3) leave fuel (impl_product_3_sl s)) fun w => some (impl_product_3_out w)) := by kernel_rfl
theorem impl_product_3_h (n : Int) (A : List (List TC)) (m : Int) (i : Int) (ow : impl_product_3_ω) : ((impl_product_3_fin n A m i)).val = some ow → ∃ fuel, loopN impl_product_3_st fuel (n, A, m, i) = some ow := by
  intro h
  have key : Typed tab (.slice 2) (.l A) → loopN impl_product_3_st (A.length + 1) ((1 : Int), A, (A.length : Int), (0 : Int)) = some ((A.foldl mulR (1 : Int))) := by
    intro ht
    have hlen : A.length ≤ 140737488351232 := by have := typed_room ht; simp only [show (tab 2).bytes = 8 from rfl] at this; omega
    have key := loopN_scan (step := impl_product_3_st) A [] (fun _ => true) mulR (fun i a => (a, A, (A.length : Int), (i : Int))) (fun a => a) (fun i a => a) (fun i a hi => ?_) (fun a => ?_) A.length 0 (1 : Int) (by omega)
    · first | (rw [Nat.zero_add] at key; exact key) | exact key | (simpa using key)
    · skip
      show (impl_product_3_step a A (A.length : Int) (i : Int)).val = _
      unfold impl_product_3_step
      refine Tr.t (by simp; omega) ?_
      show _ = some _
      refine Tr.t (by first | omega | (constructor <;> omega)) ?_
      rw [Tr.val_ok, wrap64 (i := (i : Int) + 1) (by omega) (by omega)]; rfl
    · show (impl_product_3_step a A (A.length : Int) (A.length : Int)).val = _
      refine Tr.n (by simp) ?_
      rfl
  simp only [impl_product_3_fin, Told.val] at h
  split at h
  · rename_i ho
    obtain ⟨rfl, rfl, ht, rfl⟩ := is_iff.1 ho
    cases h
    exact ⟨_, key ht⟩
  · cases h
theorem impl_product_is3 : LoopIs tab FT D11 live 83 impl_product_lo 0 3 := by
  refine loop_told (sl := impl_product_3_sl) (step := impl_product_3_st) (out := impl_product_3_out) (lor := impl_product_lo3) (fin := fun x => (impl_product_3_fin (x.1) (x.2.1) (x.2.2.1) (x.2.2.2))) (fun _ => rfl) ?_ (fun x n => impl_product_3_r x.1 x.2.1 x.2.2.1 x.2.2.2 n) (fun x ow => impl_product_3_h x.1 x.2.1 x.2.2.1 x.2.2.2 ow)
  intro s t h
  unfold impl_product_lo3 at h
  split at h
  · cases h; exact ⟨(_, _, _, _), rfl, rfl⟩
  · cases h
noncomputable def impl_product_t (A : List (List TC)) : Tr (Int) := (.ite ((impl_product_o3_1 (1 : Int) A (A.length : Int) (0 : Int)) = true) (.ok (impl_product_u3_1 (1 : Int) A (A.length : Int) (0 : Int)))
  .no)
def impl_product_mk (p : Int) : Res := [(false, [⟨.int .i64, .sh, TC.i p⟩])]
noncomputable def impl_product_c (A : List (List TC)) : Bool := (impl_product_o3_1 (1 : Int) A (A.length : Int) (0 : Int))
noncomputable def impl_product_v (A : List (List TC)) : Int := (impl_product_u3_1 (1 : Int) A (A.length : Int) (0 : Int))
theorem impl_product_l (A : List (List TC)) : (impl_product_c A) = true → (impl_product_t A).val = some (impl_product_v A) := by
  intro h
  have hc0 : (impl_product_o3_1 (1 : Int) A (A.length : Int) (0 : Int)) = true := h
  unfold impl_product_t
  exact (Tr.t hc0 rfl)
noncomputable def impl_product_S : List Arg → Option (Bool × Res) := fun xs => match xs with
  | [(false, [(.slice 2, TC.l A)])] => some ((impl_product_c A), impl_product_mk (impl_product_v A))
  | _ => .none
theorem impl_product_e (A : List (List TC)) : runF tab FT D11 live 83 impl_product_lo [(false, [(.slice 2, TC.l A)])] = (impl_product_t A).run fun p => some (impl_product_mk p) := by kernel_rfl
theorem impl_product_s : ∀ xs r, impl_product_S xs = some (true, r) → runF tab FT D11 live 83 impl_product_lo xs = some r := by
  intro xs r h
  unfold impl_product_S at h
  split at h
  · simp only [Option.some.injEq, Prod.mk.injEq] at h
    obtain ⟨h1, rfl⟩ := h
    exact fun_told (impl_product_e _) (impl_product_l _) h1
  · cases h
noncomputable def D12 : Dt := also D11 83 impl_product_S
theorem d12 : DOk Go.Proofs.Try.prog tab D12 := d11.also mixed_ok tab_ok names_ok (fnLoops_one (by kernel_rfl) impl_product_is3) impl_product_s
/-! impl_ValidDims -/
noncomputable def impl_ValidDims_t (A : List (List TC)) : Tr (Bool) := (.ite ((decide ((A.length : Int) ≤ (3 : Int))) = true) (.ite ((impl_allWithin_c A (0 : Int) (40 : Int)) = true) (.ite ((impl_allWithin_v A (0 : Int) (40 : Int)) = true) (.ite ((impl_product_c A) = true) (.ok (decide ((impl_product_v A) ≤ (600 : Int))))
     .no)
    (.ok false))
   .no)
  (.ok false))
def impl_ValidDims_mk (p : Bool) : Res := [(false, [⟨.bool, .sh, TC.b p⟩])]
noncomputable def impl_ValidDims_c (A : List (List TC)) : Bool := is (((impl_allWithin_c A (0 : Int) (40 : Int)) = true) ∧ ((impl_product_c A) = true))
noncomputable def impl_ValidDims_v (A : List (List TC)) : Bool := (bif (decide ((A.length : Int) ≤ (3 : Int))) then (bif (impl_allWithin_v A (0 : Int) (40 : Int)) then (decide ((impl_product_v A) ≤ (600 : Int))) else false) else false)
theorem impl_ValidDims_l (A : List (List TC)) : (impl_ValidDims_c A) = true → (impl_ValidDims_t A).val = some (impl_ValidDims_v A) := by
  intro h
  obtain ⟨g0, g1⟩ := is_iff.1 h
  unfold impl_ValidDims_t impl_ValidDims_v
  exact (Tr.s (Tr.t g0 (Tr.s (Tr.t g1 rfl) rfl)) rfl)
noncomputable def impl_ValidDims_S : List Arg → Option (Bool × Res) := fun xs => match xs with
  | [(false, [(.slice 2, TC.l A)])] => some ((impl_ValidDims_c A), impl_ValidDims_mk (impl_ValidDims_v A))
  | _ => .none
theorem impl_ValidDims_e (A : List (List TC)) : runF tab FT D12 live 81 noLoops [(false, [(.slice 2, TC.l A)])] = (impl_ValidDims_t A).run fun p => some (impl_ValidDims_mk p) := by kernel_rfl
theorem impl_ValidDims_s : ∀ xs r, impl_ValidDims_S xs = some (true, r) → runF tab FT D12 live 81 noLoops xs = some r := by
  intro xs r h
  unfold impl_ValidDims_S at h
  split at h
  · simp only [Option.some.injEq, Prod.mk.injEq] at h
    obtain ⟨h1, rfl⟩ := h
    exact fun_told (impl_ValidDims_e _) (impl_ValidDims_l _) h1
  · cases h
noncomputable def D13 : Dt := also D12 81 impl_ValidDims_S
theorem d13 : DOk Go.Proofs.Try.prog tab D13 := d12.also mixed_ok tab_ok names_ok noLoops_ok impl_ValidDims_s
theorem impl_ValidDims_vv (A : List (List TC)) : impl_ValidDims_v A = dimsOk A := by
  show (bif decide ((A.length : Int) ≤ 3) then bif (!(!(A.all (inR 0 40)))) then decide (prodL A ≤ 600) else false else false) = _
  unfold dimsOk
  cases decide ((A.length : Int) ≤ 3) <;> cases A.all (inR 0 40) <;> rfl
/-! slices_Clone_int64_int64, by contract -/
def slices_Clone_int64_int64_ren : Go.Shelf.Ren := ⟨fun _ => 129, fun n => bif Nat.beq n 4 then 4 else bif Nat.beq n 22 then 22 else 2, fun _ => 0⟩
theorem slices_Clone_int64_int64_lays : SlLaysE0.n41 Go.Proofs.Try.prog slices_Clone_int64_int64_ren := {
  mixed := by kernel_rfl
  f41 := ⟨Go.Proofs.Try.f129.name, by decide, Go.Proofs.Try.func129.trans (congrArg some (by kernel_rfl))⟩
  t4 := Go.Proofs.Try.underlying4
  a4 := Go.Proofs.Try.isAgg4
  z4 := Go.Proofs.Try.sizeOf4
  v4 := Go.Proofs.Try.zeroValue4
  t22 := Go.Proofs.Try.underlying22
  a22 := Go.Proofs.Try.isAgg22
  z22 := Go.Proofs.Try.sizeOf22
  v22 := Go.Proofs.Try.zeroValue22 }
noncomputable def slices_Clone_int64_int64_c (A : List (List TC)) : Bool := is (Typed tab (.slice 2) (.l A))
noncomputable def slices_Clone_int64_int64_v (A : List (List TC)) : List (List TC) := A
def slices_Clone_int64_int64_mk (p : List (List TC)) : Res := [(false, [⟨.slice 2, .own true, TC.l p⟩])]
noncomputable def slices_Clone_int64_int64_S : List Arg → Option (Bool × Res) := fun xs => match xs with
  | [(false, [(.slice 2, TC.l A)])] => some ((slices_Clone_int64_int64_c A), slices_Clone_int64_int64_mk (slices_Clone_int64_int64_v A))
  | _ => .none
noncomputable def D14 : Dt := also D13 129 slices_Clone_int64_int64_S
theorem d14 : DOk Go.Proofs.Try.prog tab D14 := d13.alsoC names_ok (c := _) Go.Proofs.Try.func129 rfl (by
  intro xs r h w S hargs0 hS hargs
  unfold slices_Clone_int64_int64_S at h
  split at h
  · rename_i A
    simp only [Option.some.injEq, Prod.mk.injEq] at h
    obtain ⟨h1, rfl⟩ := h
    obtain ⟨u, us, rfl, ha, hr⟩ := args_cons hargs
    cases args_nil hr
    have ht := is_iff.1 h1
    have hroom := typed_room ht
    simp only [show (tab 2).bytes = 8 from rfl] at hroom
    exact clone_told slices_Clone_int64_int64_lays tab_ok rfl (zs := _) rfl (by decide) (deep := true) (fun _ => rfl) hS (arg_rep ha) (show roomFor (tab 2) A.length from by unfold roomFor; simp only [show (tab 2).bytes = 8 from rfl]; omega)
  · cases h)
theorem slices_Clone_int64_int64_cc {A : List (List TC)} (h : Typed tab (.slice 2) (.l A)) : slices_Clone_int64_int64_c A = true := is_true h
/-! impl_broadcastDims -/
abbrev impl_broadcastDims_6_σ := List (List TC) × Int × List (List TC) × Int × Int
abbrev impl_broadcastDims_6_ω := (List (List TC) × List (List TC)) ⊕ (List (List TC))
noncomputable def impl_broadcastDims_6_step (A : List (List TC)) (f : Int) (B : List (List TC)) (m : Int) (i : Int) : Tr (impl_broadcastDims_6_σ ⊕ impl_broadcastDims_6_ω) := (.ite ((decide (i < m)) = true) (.ite ((0 : Int) ≤ i ∧ i < (B.length : Int)) (.ite ((0 : Int) ≤ (IntKind.wrap .i64 (f + i)) ∧ (IntKind.wrap .i64 (f + i)) < (A.length : Int)) (.ite (((nth (row A (IntKind.wrap .i64 (f + i))) 0).int == (1 : Int)) = true) (.ite ((0 : Int) ≤ (IntKind.wrap .i64 (f + i)) ∧ (IntKind.wrap .i64 (f + i)) < (A.length : Int)) (.ok (.inl ((A.set ((IntKind.wrap .i64 (f + i))).toNat (splice (row A (IntKind.wrap .i64 (f + i))) 0 [TC.i ((nth (row B i) 0).int)])), f, B, m, (IntKind.wrap .i64 (i + (1 : Int))))))
      .no)
     (.ite ((!((nth (row B i) 0).int == (1 : Int))) = true) (.ite ((0 : Int) ≤ (IntKind.wrap .i64 (f + i)) ∧ (IntKind.wrap .i64 (f + i)) < (A.length : Int)) (.ite ((!((nth (row B i) 0).int == (nth (row A (IntKind.wrap .i64 (f + i))) 0).int)) = true) (.ok (.inr (.inl ([], A))))
        (.ok (.inl (A, f, B, m, (IntKind.wrap .i64 (i + (1 : Int)))))))
       .no)
      (.ok (.inl (A, f, B, m, (IntKind.wrap .i64 (i + (1 : Int))))))))
    .no)
   .no)
  (.ok (.inr (.inr A))))
noncomputable def impl_broadcastDims_6_st : impl_broadcastDims_6_σ → Tr (impl_broadcastDims_6_σ ⊕ impl_broadcastDims_6_ω) := fun x => (impl_broadcastDims_6_step (x.1) (x.2.1) (x.2.2.1) (x.2.2.2.1) (x.2.2.2.2))
noncomputable def impl_broadcastDims_k6_1 (A : List (List TC)) (f : Int) (B : List (List TC)) (m : Int) (i : Int) : Bool := allI (fun i => okK A B (B.length - 1 - i)) B.length
noncomputable def impl_broadcastDims_o6_2 (A : List (List TC)) (f : Int) (B : List (List TC)) (m : Int) (i : Int) : Bool := is (Typed tab (.slice 2) (.l A) ∧ Typed tab (.slice 2) (.l B) ∧ B.length ≤ A.length ∧ A.length ≤ 3 ∧ f = ((A.length - B.length : Nat) : Int) ∧ m = (B.length : Int) ∧ i = 0)
noncomputable def impl_broadcastDims_u6_2 (A : List (List TC)) (f : Int) (B : List (List TC)) (m : Int) (i : Int) : List (List TC) := bcL A B
noncomputable def impl_broadcastDims_o6_3 (A : List (List TC)) (f : Int) (B : List (List TC)) (m : Int) (i : Int) : Bool := is (Typed tab (.slice 2) (.l A) ∧ Typed tab (.slice 2) (.l B) ∧ B.length ≤ A.length ∧ A.length ≤ 3 ∧ f = ((A.length - B.length : Nat) : Int) ∧ m = (B.length : Int) ∧ i = 0)
noncomputable def impl_broadcastDims_u6_3_0 (A : List (List TC)) (f : Int) (B : List (List TC)) (m : Int) (i : Int) : List (List TC) := []
noncomputable def impl_broadcastDims_u6_3_1 (A : List (List TC)) (f : Int) (B : List (List TC)) (m : Int) (i : Int) : List (List TC) := bcI A B (idxI (fun i => okK A B (B.length - 1 - i)) B.length)
noncomputable def impl_broadcastDims_6_fin (A : List (List TC)) (f : Int) (B : List (List TC)) (m : Int) (i : Int) : Told impl_broadcastDims_6_ω := (.br (impl_broadcastDims_k6_1 A f B m i) (.leaf (impl_broadcastDims_o6_2 A f B m i) (.inr (impl_broadcastDims_u6_2 A f B m i))) (.leaf (impl_broadcastDims_o6_3 A f B m i) (.inl ((impl_broadcastDims_u6_3_0 A f B m i), (impl_broadcastDims_u6_3_1 A f B m i)))))
def impl_broadcastDims_6_sl (x : impl_broadcastDims_6_σ) : List Slot := [⟨.val false [⟨.slice 2, .own true, TC.l (x.1)⟩], ⟨0, 0⟩⟩, ⟨.val false [⟨.int .i64, .sh, TC.i (x.2.1)⟩], ⟨0, 0⟩⟩, ⟨.val false [⟨.slice 2, .sh, TC.l (x.2.2.1)⟩], ⟨0, 0⟩⟩, ⟨.val false [⟨.int .i64, .sh, TC.i (x.2.2.2.1)⟩], ⟨0, 0⟩⟩, ⟨.val false [⟨.int .i64, .sh, TC.i (x.2.2.2.2)⟩], ⟨0, 0⟩⟩]
def impl_broadcastDims_6_out : impl_broadcastDims_6_ω → Ex × List Slot := (Sum.elim (fun x => (.ret, [⟨.val false [⟨.slice 2, .own true, TC.l (x.1)⟩], ⟨0, 0⟩⟩, ⟨.val false [⟨.bool, .sh, TC.b false⟩], ⟨0, 0⟩⟩, ⟨.val false [⟨.slice 2, .own true, TC.l (x.2)⟩], ⟨0, 0⟩⟩])) (fun x => (.exit 0, [Slot.none, Slot.none, ⟨.val false [⟨.slice 2, .own true, TC.l x⟩], ⟨0, 0⟩⟩])))
noncomputable def impl_broadcastDims_lo6 : List Slot → Option (Told (Ex × List Slot)) := fun s => match s with
  | [⟨.val false [⟨.slice 2, .own true, TC.l A⟩], ⟨0, 0⟩⟩, ⟨.val false [⟨.int .i64, .sh, TC.i f⟩], ⟨0, 0⟩⟩, ⟨.val false [⟨.slice 2, .sh, TC.l B⟩], ⟨0, 0⟩⟩, ⟨.val false [⟨.int .i64, .sh, TC.i m⟩], ⟨0, 0⟩⟩, ⟨.val false [⟨.int .i64, .sh, TC.i i⟩], ⟨0, 0⟩⟩] => some (((impl_broadcastDims_6_fin A f B m i)).map impl_broadcastDims_6_out)
  | _ => .none
noncomputable def impl_broadcastDims_lo : LoopTeller := fun r s => bif Nat.beq r 6 then impl_broadcastDims_lo6 s else .none
theorem impl_broadcastDims_6_r (A : List (List TC)) (f : Int) (B : List (List TC)) (m : Int) (i : Int) (fuel : Nat) : rounds (rnd tab FT D14 live 95 impl_broadcastDims_lo 0 6) leave (fuel + 1) (impl_broadcastDims_6_sl (A, f, B, m, i)) = ((impl_broadcastDims_6_step A f B m i)).run (goOn (fun s => rounds (rnd tab FT D14 live 95 impl_broadcastDims_lo 0 6) leave fuel (impl_broadcastDims_6_sl s)) fun w => some (impl_broadcastDims_6_out w)) := by kernel_rfl
theorem impl_broadcastDims_6_h (A : List (List TC)) (f : Int) (B : List (List TC)) (m : Int) (i : Int) (ow : impl_broadcastDims_6_ω) : ((impl_broadcastDims_6_fin A f B m i)).val = some ow → ∃ fuel, loopN impl_broadcastDims_6_st fuel (A, f, B, m, i) = some ow := by
  intro h
  refine auto_br (K := allI (fun i => okK A B (B.length - 1 - i)) B.length) rfl (fun ho => ?_) h
  have ho := ho.elim id id
  obtain ⟨hA, hB, hBA, h3, rfl, rfl, rfl⟩ := is_iff.1 ho
  have h0 : bcI A B 0 = A := bcI_start rfl hA
  have key := loopN_along (step := impl_broadcastDims_6_st) B.length (fun i => okK A B (B.length - 1 - i)) (fun j => (bcI A B j, ((A.length - B.length : Nat) : Int), B, (B.length : Int), (j : Int))) (.inr (bcL A B)) (fun j => .inl ([], bcI A B j)) (fun j hj hb => ?_) (fun _ => ?_)
  · obtain ⟨M, hM⟩ := key
    refine ⟨M, Eq.trans (congrArg (loopN impl_broadcastDims_6_st M) ?_) hM⟩
    show (A, _, _, _, _) = (bcI A B 0, _, _, _, _)
    rw [h0]; rfl
  · have ei : IntKind.wrap .i64 (((A.length - B.length : Nat) : Int) + (j : Int)) = ((A.length - B.length + j : Nat) : Int) := by
      rw [wrap64 (by omega) (by omega)]; omega
    have hl : (bcI A B j).length = A.length := outF_len
    have hs : ∀ w v, splice [TC.i w] 0 [TC.i v] = [TC.i v] := fun _ _ => rfl
    have hy : (nth (row B (j : Int)) 0).int = dimK B (B.length - 1 - j) := by
      unfold dimK
      rw [decide_eq_true (by omega), show B.length - 1 - (B.length - 1 - j) = j by omega]; rfl
    have hxy : (dimK B (B.length - 1 - j) == dimK A (B.length - 1 - j)) = (dimK A (B.length - 1 - j) == dimK B (B.length - 1 - j)) := Bool.beq_comm
    refine ⟨fun hP => ?_, fun hP => ?_⟩
    · show (impl_broadcastDims_6_step (bcI A B j) ((A.length - B.length : Nat) : Int) B (B.length : Int) (j : Int)).val = _
      unfold impl_broadcastDims_6_step
      rw [ei, hy, bcI_row hBA hj, nth0, int_i, hxy, hl]
      refine Tr.t (by simp; omega) (Tr.t ⟨by omega, by omega⟩ (Tr.t ⟨by omega, by omega⟩ ?_))
      cases hx : dimK A (B.length - 1 - j) == 1 with
      | true =>
        have hn : nK A B (B.length - 1 - j) = dimK B (B.length - 1 - j) := by unfold nK; rw [hx]; rfl
        refine Tr.t rfl (Tr.t ⟨by omega, by omega⟩ ?_)
        rw [Tr.val_ok, Int.toNat_natCast, hs, ← hn, bcI_set hBA hj, wrap64 (i := (j : Int) + 1) (by omega) (by omega)]; rfl
      | false =>
        have hn : nK A B (B.length - 1 - j) = dimK A (B.length - 1 - j) := by unfold nK; rw [hx]; rfl
        cases hy1 : dimK B (B.length - 1 - j) == 1 with
        | true =>
          refine Tr.n (by simp) (Tr.n (by simp) ?_)
          rw [Tr.val_ok, ← bcI_keep hBA hj hn, wrap64 (i := (j : Int) + 1) (by omega) (by omega)]; rfl
        | false =>
          cases hq : dimK A (B.length - 1 - j) == dimK B (B.length - 1 - j) with
          | true =>
            refine Tr.n (by simp) (Tr.t rfl (Tr.t ⟨by omega, by omega⟩ (Tr.n (by simp) ?_)))
            rw [Tr.val_ok, ← bcI_keep hBA hj hn, wrap64 (i := (j : Int) + 1) (by omega) (by omega)]; rfl
          | false =>
            unfold okK at hP
            rw [hq, hx, hy1] at hP
            cases hP
    · show (impl_broadcastDims_6_step (bcI A B j) ((A.length - B.length : Nat) : Int) B (B.length : Int) (j : Int)).val = _
      unfold impl_broadcastDims_6_step
      rw [ei, hy, bcI_row hBA hj, nth0, int_i, hxy, hl]
      refine Tr.t (by simp; omega) (Tr.t ⟨by omega, by omega⟩ (Tr.t ⟨by omega, by omega⟩ ?_))
      unfold okK at hP
      cases hq : dimK A (B.length - 1 - j) == dimK B (B.length - 1 - j) with
      | true => rw [hq] at hP; cases hP
      | false =>
        cases hx : dimK A (B.length - 1 - j) == 1 with
        | true => rw [hq, hx] at hP; cases hP
        | false =>
          cases hy1 : dimK B (B.length - 1 - j) == 1 with
          | true => rw [hq, hx, hy1] at hP; cases hP
          | false => exact Tr.n (by simp) (Tr.t rfl (Tr.t ⟨by omega, by omega⟩ (Tr.t rfl rfl)))
  · show (impl_broadcastDims_6_step (bcI A B B.length) ((A.length - B.length : Nat) : Int) B (B.length : Int) ((B.length : Nat) : Int)).val = _
    unfold impl_broadcastDims_6_step
    refine Tr.n (by simp) ?_
    rw [Tr.val_ok, bcI_end hBA]
theorem impl_broadcastDims_is6 : LoopIs tab FT D14 live 95 impl_broadcastDims_lo 0 6 := by
  refine loop_told (sl := impl_broadcastDims_6_sl) (step := impl_broadcastDims_6_st) (out := impl_broadcastDims_6_out) (lor := impl_broadcastDims_lo6) (fin := fun x => (impl_broadcastDims_6_fin (x.1) (x.2.1) (x.2.2.1) (x.2.2.2.1) (x.2.2.2.2))) (fun _ => rfl) ?_ (fun x n => impl_broadcastDims_6_r x.1 x.2.1 x.2.2.1 x.2.2.2.1 x.2.2.2.2 n) (fun x ow => impl_broadcastDims_6_h x.1 x.2.1 x.2.2.1 x.2.2.2.1 x.2.2.2.2 ow)
  intro s t h
  unfold impl_broadcastDims_lo6 at h
  split at h
  · cases h; exact ⟨(_, _, _, _, _), rfl, rfl⟩
  · cases h
noncomputable def impl_broadcastDims_t (A : List (List TC)) (B : List (List TC)) : Tr (List (List TC) × Bool) := (.ite ((decide ((A.length : Int) < (B.length : Int))) = true) (.ite ((slices_Clone_int64_int64_c B) = true) (.ite ((impl_broadcastDims_k6_1 (slices_Clone_int64_int64_v B) (IntKind.wrap .i64 ((B.length : Int) - (A.length : Int))) A (A.length : Int) (0 : Int)) = true) (.ite ((impl_broadcastDims_o6_2 (slices_Clone_int64_int64_v B) (IntKind.wrap .i64 ((B.length : Int) - (A.length : Int))) A (A.length : Int) (0 : Int)) = true) (.ite ((impl_ValidDims_c (impl_broadcastDims_u6_2 (slices_Clone_int64_int64_v B) (IntKind.wrap .i64 ((B.length : Int) - (A.length : Int))) A (A.length : Int) (0 : Int))) = true) (.ok ((impl_broadcastDims_u6_2 (slices_Clone_int64_int64_v B) (IntKind.wrap .i64 ((B.length : Int) - (A.length : Int))) A (A.length : Int) (0 : Int)), (impl_ValidDims_v (impl_broadcastDims_u6_2 (slices_Clone_int64_int64_v B) (IntKind.wrap .i64 ((B.length : Int) - (A.length : Int))) A (A.length : Int) (0 : Int)))))
      .no)
     .no)
    (.ite ((impl_broadcastDims_o6_3 (slices_Clone_int64_int64_v B) (IntKind.wrap .i64 ((B.length : Int) - (A.length : Int))) A (A.length : Int) (0 : Int)) = true) (.ok ((impl_broadcastDims_u6_3_0 (slices_Clone_int64_int64_v B) (IntKind.wrap .i64 ((B.length : Int) - (A.length : Int))) A (A.length : Int) (0 : Int)), false))
     .no))
   .no)
  (.ite ((slices_Clone_int64_int64_c A) = true) (.ite ((impl_broadcastDims_k6_1 (slices_Clone_int64_int64_v A) (IntKind.wrap .i64 ((A.length : Int) - (B.length : Int))) B (B.length : Int) (0 : Int)) = true) (.ite ((impl_broadcastDims_o6_2 (slices_Clone_int64_int64_v A) (IntKind.wrap .i64 ((A.length : Int) - (B.length : Int))) B (B.length : Int) (0 : Int)) = true) (.ite ((impl_ValidDims_c (impl_broadcastDims_u6_2 (slices_Clone_int64_int64_v A) (IntKind.wrap .i64 ((A.length : Int) - (B.length : Int))) B (B.length : Int) (0 : Int))) = true) (.ok ((impl_broadcastDims_u6_2 (slices_Clone_int64_int64_v A) (IntKind.wrap .i64 ((A.length : Int) - (B.length : Int))) B (B.length : Int) (0 : Int)), (impl_ValidDims_v (impl_broadcastDims_u6_2 (slices_Clone_int64_int64_v A) (IntKind.wrap .i64 ((A.length : Int) - (B.length : Int))) B (B.length : Int) (0 : Int)))))
      .no)
     .no)
    (.ite ((impl_broadcastDims_o6_3 (slices_Clone_int64_int64_v A) (IntKind.wrap .i64 ((A.length : Int) - (B.length : Int))) B (B.length : Int) (0 : Int)) = true) (.ok ((impl_broadcastDims_u6_3_0 (slices_Clone_int64_int64_v A) (IntKind.wrap .i64 ((A.length : Int) - (B.length : Int))) B (B.length : Int) (0 : Int)), false))
     .no))
   .no))
def impl_broadcastDims_mk (p : List (List TC) × Bool) : Res := [(false, [⟨.slice 2, .own true, TC.l (p.1)⟩]), (false, [⟨.bool, .sh, TC.b (p.2)⟩])]
noncomputable def impl_broadcastDims_c (A : List (List TC)) (B : List (List TC)) : Bool := is (Typed tab (.slice 2) (.l A) ∧ Typed tab (.slice 2) (.l B) ∧ bcN A B ≤ 3)
noncomputable def impl_broadcastDims_v (A : List (List TC)) (B : List (List TC)) : List (List TC) × Bool := bcV A B
theorem impl_broadcastDims_l (A : List (List TC)) (B : List (List TC)) : (impl_broadcastDims_c A B) = true → (impl_broadcastDims_t A B).val = some (impl_broadcastDims_v A B) := by
  intro h
  obtain ⟨hA, hB, h3⟩ := is_iff.1 h
  have ha3 : A.length ≤ 3 := Nat.le_trans (Nat.le_max_left ..) h3
  have hb3 : B.length ≤ 3 := Nat.le_trans (Nat.le_max_right ..) h3
  have ec : ∀ X, slices_Clone_int64_int64_v X = X := fun _ => rfl
  unfold impl_broadcastDims_t impl_broadcastDims_v
  cases hd : decide ((A.length : Int) < (B.length : Int)) with
  | true =>
    have hd := of_decide_eq_true hd
    rw [bcV_comm]
    unfold bcV
    have hYX : A.length ≤ B.length := by omega
    have hf : IntKind.wrap .i64 ((B.length : Int) - (A.length : Int)) = ((B.length - A.length : Nat) : Int) := by
      rw [wrap64 (by omega) (by omega)]; omega
    have ht := bcL_ty rfl rfl hB hA (by first | exact h3 | (rw [bcN_comm]; exact h3))
    have hk : ∀ f m i, impl_broadcastDims_k6_1 B f A m i = allI (okK B A) (bcN B A) := fun _ _ _ => bc_all hYX
    have o2 : impl_broadcastDims_o6_2 B (IntKind.wrap .i64 ((B.length : Int) - (A.length : Int))) A (A.length : Int) (0 : Int) = true := is_true ⟨hB, hA, hYX, by omega, hf, rfl, rfl⟩
    refine Tr.t rfl (Tr.t (is_true hB) ?_)
    rw [ec B, hk]
    cases allI (okK B A) (bcN B A) with
    | true =>
      refine Tr.t rfl (Tr.t o2 (Tr.t (is_true ⟨is_true ht, is_true ⟨rfl, rfl, ht, rfl⟩⟩) ?_))
      rw [Tr.val_ok, impl_ValidDims_vv]; rfl
    | false => exact Tr.n (by simp) (Tr.t o2 rfl)
  | false =>
    have hd := of_decide_eq_false hd
    unfold bcV
    have hYX : B.length ≤ A.length := by omega
    have hf : IntKind.wrap .i64 ((A.length : Int) - (B.length : Int)) = ((A.length - B.length : Nat) : Int) := by
      rw [wrap64 (by omega) (by omega)]; omega
    have ht := bcL_ty rfl rfl hA hB (by first | exact h3 | (rw [bcN_comm]; exact h3))
    have hk : ∀ f m i, impl_broadcastDims_k6_1 A f B m i = allI (okK A B) (bcN A B) := fun _ _ _ => bc_all hYX
    have o2 : impl_broadcastDims_o6_2 A (IntKind.wrap .i64 ((A.length : Int) - (B.length : Int))) B (B.length : Int) (0 : Int) = true := is_true ⟨hA, hB, hYX, by omega, hf, rfl, rfl⟩
    refine Tr.n (by simp) (Tr.t (is_true hA) ?_)
    rw [ec A, hk]
    cases allI (okK A B) (bcN A B) with
    | true =>
      refine Tr.t rfl (Tr.t o2 (Tr.t (is_true ⟨is_true ht, is_true ⟨rfl, rfl, ht, rfl⟩⟩) ?_))
      rw [Tr.val_ok, impl_ValidDims_vv]; rfl
    | false => exact Tr.n (by simp) (Tr.t o2 rfl)
noncomputable def impl_broadcastDims_S : List Arg → Option (Bool × Res) := fun xs => match xs with
  | [(false, [(.slice 2, TC.l A)]), (false, [(.slice 2, TC.l B)])] => some ((impl_broadcastDims_c A B), impl_broadcastDims_mk (impl_broadcastDims_v A B))
  | _ => .none
theorem impl_broadcastDims_e (A : List (List TC)) (B : List (List TC)) : runF tab FT D14 live 95 impl_broadcastDims_lo [(false, [(.slice 2, TC.l A)]), (false, [(.slice 2, TC.l B)])] = (impl_broadcastDims_t A B).run fun p => some (impl_broadcastDims_mk p) := by kernel_rfl
theorem impl_broadcastDims_s : ∀ xs r, impl_broadcastDims_S xs = some (true, r) → runF tab FT D14 live 95 impl_broadcastDims_lo xs = some r := by
  intro xs r h
  unfold impl_broadcastDims_S at h
  split at h
  · simp only [Option.some.injEq, Prod.mk.injEq] at h
    obtain ⟨h1, rfl⟩ := h
    exact fun_told (impl_broadcastDims_e _ _) (impl_broadcastDims_l _ _) h1
  · cases h
noncomputable def D15 : Dt := also D14 95 impl_broadcastDims_S
theorem d15 : DOk Go.Proofs.Try.prog tab D15 := d14.also mixed_ok tab_ok names_ok (fnLoops_one (by kernel_rfl) impl_broadcastDims_is6) impl_broadcastDims_s
/-! impl_BroadcastDims -/
noncomputable def impl_BroadcastDims_t (A : List (List TC)) (B : List (List TC)) : Tr (List (List TC) × Bool) := (.ite ((impl_ValidDims_c A) = true) (.ite ((!(impl_ValidDims_v A)) = true) (.ok ([], false))
   (.ite ((impl_ValidDims_c B) = true) (.ite ((!(impl_ValidDims_v B)) = true) (.ok ([], false))
     (.ite ((impl_broadcastDims_c A B) = true) (.ite ((!(impl_broadcastDims_v A B).2) = true) (.ok ([], false))
       (.ok ((impl_broadcastDims_v A B).1, true)))
      .no))
    .no))
  .no)
def impl_BroadcastDims_mk (p : List (List TC) × Bool) : Res := [(false, [⟨.slice 2, .own true, TC.l (p.1)⟩]), (false, [⟨.bool, .sh, TC.b (p.2)⟩])]
noncomputable def impl_BroadcastDims_c (A : List (List TC)) (B : List (List TC)) : Bool := ((impl_ValidDims_c A) && (bif (!(impl_ValidDims_v A)) then true else ((impl_ValidDims_c B) && (bif (!(impl_ValidDims_v B)) then true else ((impl_broadcastDims_c A B) && (bif (!(impl_broadcastDims_v A B).2) then true else true))))))
noncomputable def impl_BroadcastDims_v (A : List (List TC)) (B : List (List TC)) : List (List TC) × Bool := (bif (!(impl_ValidDims_v A)) then ([], false) else (bif (!(impl_ValidDims_v B)) then ([], false) else (bif (!(impl_broadcastDims_v A B).2) then ([], false) else ((impl_broadcastDims_v A B).1, true))))
theorem impl_BroadcastDims_l (A : List (List TC)) (B : List (List TC)) : (impl_BroadcastDims_c A B) = true → (impl_BroadcastDims_t A B).val = some (impl_BroadcastDims_v A B) := by
  unfold impl_BroadcastDims_t impl_BroadcastDims_v impl_BroadcastDims_c
  exact fun h => (Tr.gb h fun h => (Tr.ss h (fun h => rfl) (fun h => (Tr.gb h fun h => (Tr.ss h (fun h => rfl) (fun h => (Tr.gb h fun h => (Tr.ss h (fun h => rfl) (fun h => rfl)))))))))
noncomputable def impl_BroadcastDims_S : List Arg → Option (Bool × Res) := fun xs => match xs with
  | [(false, [(.slice 2, TC.l A)]), (false, [(.slice 2, TC.l B)])] => some ((impl_BroadcastDims_c A B), impl_BroadcastDims_mk (impl_BroadcastDims_v A B))
  | _ => .none
theorem impl_BroadcastDims_e (A : List (List TC)) (B : List (List TC)) : runF tab FT D15 live 52 noLoops [(false, [(.slice 2, TC.l A)]), (false, [(.slice 2, TC.l B)])] = (impl_BroadcastDims_t A B).run fun p => some (impl_BroadcastDims_mk p) := by kernel_rfl
theorem impl_BroadcastDims_s : ∀ xs r, impl_BroadcastDims_S xs = some (true, r) → runF tab FT D15 live 52 noLoops xs = some r := by
  intro xs r h
  unfold impl_BroadcastDims_S at h
  split at h
  · simp only [Option.some.injEq, Prod.mk.injEq] at h
    obtain ⟨h1, rfl⟩ := h
    exact fun_told (impl_BroadcastDims_e _ _) (impl_BroadcastDims_l _ _) h1
  · cases h
noncomputable def D16 : Dt := also D15 52 impl_BroadcastDims_S
theorem d16 : DOk Go.Proofs.Try.prog tab D16 := d15.also mixed_ok tab_ok names_ok noLoops_ok impl_BroadcastDims_s
theorem impl_BroadcastDims_cc {A : List (List TC)} {B : List (List TC)} (hA : Typed tab (.slice 2) (.l A)) (hB : Typed tab (.slice 2) (.l B)) : (impl_BroadcastDims_c A B) = true := by
  unfold impl_BroadcastDims_c
  refine andT (by first | (apply is_true; and_intros <;> (first | rfl | assumption | (apply spec_BroadcastDims_cc <;> assumption) | (first | (apply is_true; and_intros <;> (first | rfl | assumption | (apply spec_BroadcastDims_cc <;> assumption) | (first | (apply is_true; and_intros <;> (first | rfl | assumption | (apply spec_BroadcastDims_cc <;> assumption) | (first | (apply is_true; and_intros <;> (first | rfl | assumption | (apply spec_BroadcastDims_cc <;> assumption))) | (apply spec_BroadcastDims_cc <;> assumption)))) | (apply spec_BroadcastDims_cc <;> assumption)))) | (apply spec_BroadcastDims_cc <;> assumption)))) | (apply spec_BroadcastDims_cc <;> assumption)) ?_
  refine bifT (fun b1 => ?_) (fun b1 => ?_)
  · skip
    rfl
  · skip
    refine andT (by first | (apply is_true; and_intros <;> (first | rfl | assumption | (apply spec_BroadcastDims_cc <;> assumption) | (first | (apply is_true; and_intros <;> (first | rfl | assumption | (apply spec_BroadcastDims_cc <;> assumption) | (first | (apply is_true; and_intros <;> (first | rfl | assumption | (apply spec_BroadcastDims_cc <;> assumption) | (first | (apply is_true; and_intros <;> (first | rfl | assumption | (apply spec_BroadcastDims_cc <;> assumption))) | (apply spec_BroadcastDims_cc <;> assumption)))) | (apply spec_BroadcastDims_cc <;> assumption)))) | (apply spec_BroadcastDims_cc <;> assumption)))) | (apply spec_BroadcastDims_cc <;> assumption)) ?_
    refine bifT (fun b2 => ?_) (fun b2 => ?_)
    · skip
      rfl
    · skip
      refine andT (by exact is_true ⟨hA, hB, bd_len ((impl_ValidDims_vv A).symm.trans (notF b1)) ((impl_ValidDims_vv B).symm.trans (notF b2))⟩) ?_
      refine bifT (fun b3 => ?_) (fun b3 => ?_)
      · skip
        rfl
      · skip
        rfl
theorem impl_BroadcastDims_vv (A B : List (List TC)) : impl_BroadcastDims_v A B = bdV A B := by
  unfold impl_BroadcastDims_v bdV
  rw [impl_ValidDims_vv, impl_ValidDims_vv]
  rfl
/-! laws_eqInt64S -/
abbrev laws_eqInt64S_4_σ := List (List TC) × List (List TC) × Int
abbrev laws_eqInt64S_4_ω := (Unit) ⊕ (Unit)
noncomputable def laws_eqInt64S_4_step (A : List (List TC)) (C : List (List TC)) (i : Int) : Tr (laws_eqInt64S_4_σ ⊕ laws_eqInt64S_4_ω) := (.ite ((decide (i < (A.length : Int))) = true) (.ite ((0 : Int) ≤ i ∧ i < (A.length : Int)) (.ite ((0 : Int) ≤ i ∧ i < (C.length : Int)) (.ite ((!((nth (row A i) 0).int == (nth (row C i) 0).int)) = true) (.ok (.inr (.inl ())))
     (.ok (.inl (A, C, (IntKind.wrap .i64 (i + (1 : Int)))))))
    .no)
   .no)
  (.ok (.inr (.inr ()))))
noncomputable def laws_eqInt64S_4_st : laws_eqInt64S_4_σ → Tr (laws_eqInt64S_4_σ ⊕ laws_eqInt64S_4_ω) := fun x => (laws_eqInt64S_4_step (x.1) (x.2.1) (x.2.2))
noncomputable def laws_eqInt64S_o4_1 (A : List (List TC)) (C : List (List TC)) (i : Int) : Bool := is (A = C ∧ i = 0 ∧ Typed tab (.slice 2) (.l A))
noncomputable def laws_eqInt64S_4_fin (A : List (List TC)) (C : List (List TC)) (i : Int) : Told laws_eqInt64S_4_ω := (.leaf (laws_eqInt64S_o4_1 A C i) (.inr ()))
def laws_eqInt64S_4_sl (x : laws_eqInt64S_4_σ) : List Slot := [⟨.val false [⟨.slice 2, .sh, TC.l (x.1)⟩], ⟨0, 0⟩⟩, ⟨.val false [⟨.slice 2, .sh, TC.l (x.2.1)⟩], ⟨0, 0⟩⟩, ⟨.val false [⟨.int .i64, .sh, TC.i (x.2.2)⟩], ⟨0, 0⟩⟩]
def laws_eqInt64S_4_out : laws_eqInt64S_4_ω → Ex × List Slot := (Sum.elim (fun x => (.ret, [⟨.val false [⟨.bool, .sh, TC.b false⟩], ⟨0, 0⟩⟩])) (fun x => (.exit 0, [Slot.none])))
noncomputable def laws_eqInt64S_lo4 : List Slot → Option (Told (Ex × List Slot)) := fun s => match s with
  | [⟨.val false [⟨.slice 2, .sh, TC.l A⟩], ⟨0, 0⟩⟩, ⟨.val false [⟨.slice 2, .sh, TC.l C⟩], ⟨0, 0⟩⟩, ⟨.val false [⟨.int .i64, .sh, TC.i i⟩], ⟨0, 0⟩⟩] => some (((laws_eqInt64S_4_fin A C i)).map laws_eqInt64S_4_out)
  | _ => .none
noncomputable def laws_eqInt64S_lo : LoopTeller := fun r s => bif Nat.beq r 4 then laws_eqInt64S_lo4 s else .none
theorem laws_eqInt64S_4_r (A : List (List TC)) (C : List (List TC)) (i : Int) (fuel : Nat) : rounds (rnd tab FT D16 live 19 laws_eqInt64S_lo 0 4) leave (fuel + 1) (laws_eqInt64S_4_sl (A, C, i)) = ((laws_eqInt64S_4_step A C i)).run (goOn (fun s => rounds (rnd tab FT D16 live 19 laws_eqInt64S_lo 0 4) leave fuel (laws_eqInt64S_4_sl s)) fun w => some (laws_eqInt64S_4_out w)) := by kernel_rfl
theorem laws_eqInt64S_4_h (A : List (List TC)) (C : List (List TC)) (i : Int) (ow : laws_eqInt64S_4_ω) : ((laws_eqInt64S_4_fin A C i)).val = some ow → ∃ fuel, loopN laws_eqInt64S_4_st fuel (A, C, i) = some ow := by
  intro h
  simp only [laws_eqInt64S_4_fin, Told.val] at h
  split at h
  · rename_i ho
    obtain ⟨rfl, rfl, ht⟩ := is_iff.1 ho
    cases h
    have hlen : A.length ≤ 140737488351232 := by have := typed_room ht; simp only [show (tab 2).bytes = 8 from rfl] at this; omega
    refine ⟨_, loopN_run (N := A.length) (fun i => (A, A, (i : Int))) (fun i hi => ?_) ?_ A.length 0 (by omega)⟩
    · skip
      show (laws_eqInt64S_4_step A A (i : Int)).val = _
      unfold laws_eqInt64S_4_step
      refine Tr.t (by simp; omega) ?_
      refine Tr.t (by constructor <;> omega) ?_
      refine Tr.t (by constructor <;> omega) ?_
      refine Tr.n (by simp) ?_
      rw [Tr.val_ok, wrap64 (i := (i : Int) + 1) (by omega) (by omega)]; rfl
    · show (laws_eqInt64S_4_step A A (A.length : Int)).val = _
      refine Tr.n (by simp) ?_
      rfl
  · cases h
theorem laws_eqInt64S_is4 : LoopIs tab FT D16 live 19 laws_eqInt64S_lo 0 4 := by
  refine loop_told (sl := laws_eqInt64S_4_sl) (step := laws_eqInt64S_4_st) (out := laws_eqInt64S_4_out) (lor := laws_eqInt64S_lo4) (fin := fun x => (laws_eqInt64S_4_fin (x.1) (x.2.1) (x.2.2))) (fun _ => rfl) ?_ (fun x n => laws_eqInt64S_4_r x.1 x.2.1 x.2.2 n) (fun x ow => laws_eqInt64S_4_h x.1 x.2.1 x.2.2 ow)
  intro s t h
  unfold laws_eqInt64S_lo4 at h
  split at h
  · cases h; exact ⟨(_, _, _), rfl, rfl⟩
  · cases h
noncomputable def laws_eqInt64S_t (A : List (List TC)) (C : List (List TC)) : Tr (Bool) := (.ite ((!((A.length : Int) == (C.length : Int))) = true) (.ok false)
  (.ite ((laws_eqInt64S_o4_1 A C (0 : Int)) = true) (.ok true)
   .no))
def laws_eqInt64S_mk (p : Bool) : Res := [(false, [⟨.bool, .sh, TC.b p⟩])]
noncomputable def laws_eqInt64S_c (A : List (List TC)) (C : List (List TC)) : Bool := is (A = C ∧ Typed tab (.slice 2) (.l A))
noncomputable def laws_eqInt64S_v (A : List (List TC)) (C : List (List TC)) : Bool := true
theorem laws_eqInt64S_l (A : List (List TC)) (C : List (List TC)) : (laws_eqInt64S_c A C) = true → (laws_eqInt64S_t A C).val = some (laws_eqInt64S_v A C) := by
  intro h
  obtain ⟨rfl, ht⟩ := is_iff.1 h
  unfold laws_eqInt64S_t
  refine Tr.n (by simp) ?_
  refine Tr.t (by first | (apply is_true; and_intros <;> (first | rfl | assumption | (apply spec_BroadcastDims_cc <;> assumption) | (apply impl_BroadcastDims_cc <;> assumption) | (first | (apply is_true; and_intros <;> (first | rfl | assumption | (apply spec_BroadcastDims_cc <;> assumption) | (apply impl_BroadcastDims_cc <;> assumption) | (first | (apply is_true; and_intros <;> (first | rfl | assumption | (apply spec_BroadcastDims_cc <;> assumption) | (apply impl_BroadcastDims_cc <;> assumption) | (first | (apply is_true; and_intros <;> (first | rfl | assumption | (apply spec_BroadcastDims_cc <;> assumption) | (apply impl_BroadcastDims_cc <;> assumption))) | (apply spec_BroadcastDims_cc <;> assumption) | (apply impl_BroadcastDims_cc <;> assumption)))) | (apply spec_BroadcastDims_cc <;> assumption) | (apply impl_BroadcastDims_cc <;> assumption)))) | (apply spec_BroadcastDims_cc <;> assumption) | (apply impl_BroadcastDims_cc <;> assumption)))) | (apply spec_BroadcastDims_cc <;> assumption) | (apply impl_BroadcastDims_cc <;> assumption)) ?_
  rfl
noncomputable def laws_eqInt64S_S : List Arg → Option (Bool × Res) := fun xs => match xs with
  | [(false, [(.slice 2, TC.l A)]), (false, [(.slice 2, TC.l C)])] => some ((laws_eqInt64S_c A C), laws_eqInt64S_mk (laws_eqInt64S_v A C))
  | _ => .none
theorem laws_eqInt64S_e (A : List (List TC)) (C : List (List TC)) : runF tab FT D16 live 19 laws_eqInt64S_lo [(false, [(.slice 2, TC.l A)]), (false, [(.slice 2, TC.l C)])] = (laws_eqInt64S_t A C).run fun p => some (laws_eqInt64S_mk p) := by kernel_rfl
theorem laws_eqInt64S_s : ∀ xs r, laws_eqInt64S_S xs = some (true, r) → runF tab FT D16 live 19 laws_eqInt64S_lo xs = some r := by
  intro xs r h
  unfold laws_eqInt64S_S at h
  split at h
  · simp only [Option.some.injEq, Prod.mk.injEq] at h
    obtain ⟨h1, rfl⟩ := h
    exact fun_told (laws_eqInt64S_e _ _) (laws_eqInt64S_l _ _) h1
  · cases h
noncomputable def D17 : Dt := also D16 19 laws_eqInt64S_S
theorem d17 : DOk Go.Proofs.Try.prog tab D17 := d16.also mixed_ok tab_ok names_ok (fnLoops_one (by kernel_rfl) laws_eqInt64S_is4) laws_eqInt64S_s
/-! laws_markInt64S -/
noncomputable def mkR_2 (k : Int) : List TC := [TC.i k]
theorem mkR_2_len (k : Int) : (mkR_2 k).length = 1 := rfl
noncomputable def mkL_2 (k : Int) (n : Nat) : List (List TC) := madeL (fun i => mkR_2 (k + 1 * (i : Int))) n
theorem mkL_2_length {k : Int} {n : Nat} : (mkL_2 k n).length = n := madeL_length
abbrev laws_markInt64S_2_σ := Int × Int × List (List TC)
abbrev laws_markInt64S_2_ω := (Int × List (List TC))
noncomputable def laws_markInt64S_2_step (k : Int) (i : Int) (A : List (List TC)) : Tr (laws_markInt64S_2_σ ⊕ laws_markInt64S_2_ω) := (.ite ((decide (i < (A.length : Int))) = true) (.ite ((0 : Int) ≤ i ∧ i < (A.length : Int)) (.ok (.inl ((IntKind.wrap .i64 (k + (1 : Int))), (IntKind.wrap .i64 (i + (1 : Int))), (A.set (i).toNat (splice (row A i) 0 [TC.i k])))))
   .no)
  (.ok (.inr (k, A))))
noncomputable def laws_markInt64S_2_st : laws_markInt64S_2_σ → Tr (laws_markInt64S_2_σ ⊕ laws_markInt64S_2_ω) := fun x => (laws_markInt64S_2_step (x.1) (x.2.1) (x.2.2))
noncomputable def laws_markInt64S_o2_1 (k : Int) (i : Int) (A : List (List TC)) : Bool := is ((∀ x, x ∈ A → x.length = 1) ∧ A.length ≤ 140737488351232 ∧ 0 ≤ k ∧ k ≤ 2305843009213693952 ∧ i = 0)
noncomputable def laws_markInt64S_u2_1_0 (k : Int) (i : Int) (A : List (List TC)) : Int := k + 1 * (A.length : Int)
noncomputable def laws_markInt64S_u2_1_1 (k : Int) (i : Int) (A : List (List TC)) : List (List TC) := mkL_2 k A.length
noncomputable def laws_markInt64S_2_fin (k : Int) (i : Int) (A : List (List TC)) : Told laws_markInt64S_2_ω := (.leaf (laws_markInt64S_o2_1 k i A) ((laws_markInt64S_u2_1_0 k i A), (laws_markInt64S_u2_1_1 k i A)))
def laws_markInt64S_2_sl (x : laws_markInt64S_2_σ) : List Slot := [⟨.gal false 0 1, ⟨0, 0⟩⟩, ⟨.val false [⟨.int .i64, .sh, TC.i (x.1)⟩], ⟨0, 0⟩⟩, ⟨.val false [⟨.int .i64, .sh, TC.i (x.2.1)⟩], ⟨0, 0⟩⟩, ⟨.gv [⟨.slice 2, .own true, TC.l (x.2.2)⟩], ⟨0, 0⟩⟩]
def laws_markInt64S_2_out : laws_markInt64S_2_ω → Ex × List Slot := (fun x => (.exit 0, [⟨.val false [⟨.int .i64, .sh, TC.i (x.1)⟩], ⟨0, 0⟩⟩, Slot.none, ⟨.gv [⟨.slice 2, .own true, TC.l (x.2)⟩], ⟨0, 0⟩⟩]))
noncomputable def laws_markInt64S_lo2 : List Slot → Option (Told (Ex × List Slot)) := fun s => match s with
  | [⟨.gal false 0 1, ⟨0, 0⟩⟩, ⟨.val false [⟨.int .i64, .sh, TC.i k⟩], ⟨0, 0⟩⟩, ⟨.val false [⟨.int .i64, .sh, TC.i i⟩], ⟨0, 0⟩⟩, ⟨.gv [⟨.slice 2, .own true, TC.l A⟩], ⟨0, 0⟩⟩] => some (((laws_markInt64S_2_fin k i A)).map laws_markInt64S_2_out)
  | _ => .none
noncomputable def laws_markInt64S_lo : LoopTeller := fun r s => bif Nat.beq r 2 then laws_markInt64S_lo2 s else .none
theorem laws_markInt64S_2_r (k : Int) (i : Int) (A : List (List TC)) (fuel : Nat) : rounds (rnd tab FT D17 live 21 laws_markInt64S_lo 0 2) leave (fuel + 1) (laws_markInt64S_2_sl (k, i, A)) = ((laws_markInt64S_2_step k i A)).run (goOn (fun s => rounds (rnd tab FT D17 live 21 laws_markInt64S_lo 0 2) leave fuel (laws_markInt64S_2_sl s)) fun w => some (laws_markInt64S_2_out w)) := by kernel_rfl
theorem laws_markInt64S_2_h (k : Int) (i : Int) (A : List (List TC)) (ow : laws_markInt64S_2_ω) : ((laws_markInt64S_2_fin k i A)).val = some ow → ∃ fuel, loopN laws_markInt64S_2_st fuel (k, i, A) = some ow := by
  intro h
  refine auto_leaf (R := (k + 1 * (A.length : Int), mkL_2 k A.length)) (fun ho => ?_) h
  obtain ⟨hr, hl, h0, h1, rfl⟩ := is_iff.1 ho
  have key := loopN_over (step := laws_markInt64S_2_st) A 1 (fun i => mkR_2 (k + 1 * (i : Int))) (fun Y i => (k + 1 * (i : Int), (i : Int), Y)) (k + 1 * (A.length : Int), mkL_2 k A.length) hr (fun _ => rfl) (fun Y i hi hY hy => ?_) ?_ A.length 0 (by omega)
  · exact ⟨A.length + 1, Eq.trans (congrArg (loopN laws_markInt64S_2_st (A.length + 1)) (by simp [madeL])) key⟩
  · obtain ⟨kk, hkk⟩ : ∃ kk : Int, kk = k + 1 * (i : Int) := ⟨_, rfl⟩
    have hk0 : 0 ≤ kk := by omega
    have hk1 : kk + 1 ≤ 4611686018427387904 := by omega
    have hy : ∃ y0, row Y (i : Int) = [y0] := len_1 hy
    obtain ⟨y0, hy⟩ := hy
    have hiY : i < Y.length := by omega
    show (laws_markInt64S_2_step (k + 1 * (i : Int)) (i : Int) Y).val = _
    rw [← hkk]
    unfold laws_markInt64S_2_step
    rw [wrap64 (i := kk + 1) (by omega) (by omega)]
    try rw [wrap64 (i := kk) (by omega) (by omega)]
    refine Tr.t (by simp; omega) ?_
    refine Tr.t (by constructor <;> (try simp only [List.length_set]) <;> omega) ?_
    rw [Tr.val_ok, wrap64 (i := (i : Int) + 1) (by omega) (by omega)]
    simp only [Int.toNat_natCast, hy, row_set, List.length_set, hiY, List.set_set]
    show some (Sum.inl (_, _, _)) = some (Sum.inl (_, _, _))
    rw [show k + 1 * ((i + 1 : Nat) : Int) = kk + 1 from by omega]
    rfl
  · show (laws_markInt64S_2_step (k + 1 * (A.length : Int)) (A.length : Int) (mkL_2 k A.length)).val = _
    unfold laws_markInt64S_2_step
    refine Tr.n (by simp [mkL_2_length]) ?_
    rfl
theorem laws_markInt64S_is2 : LoopIs tab FT D17 live 21 laws_markInt64S_lo 0 2 := by
  refine loop_told (sl := laws_markInt64S_2_sl) (step := laws_markInt64S_2_st) (out := laws_markInt64S_2_out) (lor := laws_markInt64S_lo2) (fin := fun x => (laws_markInt64S_2_fin (x.1) (x.2.1) (x.2.2))) (fun _ => rfl) ?_ (fun x n => laws_markInt64S_2_r x.1 x.2.1 x.2.2 n) (fun x ow => laws_markInt64S_2_h x.1 x.2.1 x.2.2 ow)
  intro s t h
  unfold laws_markInt64S_lo2 at h
  split at h
  · cases h; exact ⟨(_, _, _), rfl, rfl⟩
  · cases h
noncomputable def laws_markInt64S_t (A : List (List TC)) (k : Int) : Tr (List (List TC) × Int) := (.ite ((laws_markInt64S_o2_1 k (0 : Int) A) = true) (.ok ((laws_markInt64S_u2_1_1 k (0 : Int) A), (laws_markInt64S_u2_1_0 k (0 : Int) A)))
  .no)
def laws_markInt64S_mk (p : List (List TC) × Int) : Res := [(true, [⟨.slice 2, .own true, TC.l (p.1)⟩]), (false, [⟨.int .i64, .sh, TC.i (p.2)⟩])]
noncomputable def laws_markInt64S_c (A : List (List TC)) (k : Int) : Bool := is ((∀ x, x ∈ A → x.length = 1) ∧ A.length ≤ 140737488351232 ∧ 0 ≤ k ∧ k ≤ 2305843009213693952)
noncomputable def laws_markInt64S_v (A : List (List TC)) (k : Int) : List (List TC) × Int := (mkL_2 k A.length, k + 1 * (A.length : Int))
theorem laws_markInt64S_l (A : List (List TC)) (k : Int) : (laws_markInt64S_c A k) = true → (laws_markInt64S_t A k).val = some (laws_markInt64S_v A k) := by
  intro h
  obtain ⟨hr, hl, h0, h1⟩ := is_iff.1 h
  unfold laws_markInt64S_t
  exact Tr.t (is_true ⟨hr, hl, h0, h1, rfl⟩) rfl
noncomputable def laws_markInt64S_S : List Arg → Option (Bool × Res) := fun xs => match xs with
  | [(false, [(.slice 2, TC.l A)]), (false, [(.int .i64, TC.i k)])] => some ((laws_markInt64S_c A k), laws_markInt64S_mk (laws_markInt64S_v A k))
  | _ => .none
theorem laws_markInt64S_e (A : List (List TC)) (k : Int) : runFW false tab FT D17 live 21 laws_markInt64S_lo (false, [(.slice 2, TC.l A)]) [(false, [(.int .i64, TC.i k)])] = (laws_markInt64S_t A k).run fun p => some (laws_markInt64S_mk p) := by kernel_rfl
theorem laws_markInt64S_s0 : ∀ ys r, laws_markInt64S_S ys = some (true, r) → ∀ a0 xs, ys = a0 :: xs → runFW false tab FT D17 live 21 laws_markInt64S_lo a0 xs = some r := by
  intro ys r h
  unfold laws_markInt64S_S at h
  split at h
  · simp only [Option.some.injEq, Prod.mk.injEq] at h
    obtain ⟨h1, rfl⟩ := h
    intro a0 xs e
    cases e
    exact fun_toldW (laws_markInt64S_e _ _) (laws_markInt64S_l _ _) h1
  · cases h
theorem laws_markInt64S_s : ∀ a0 xs r, laws_markInt64S_S (a0 :: xs) = some (true, r) → runFW false tab FT D17 live 21 laws_markInt64S_lo a0 xs = some r := fun a0 xs r h => laws_markInt64S_s0 _ r h a0 xs rfl
noncomputable def D18 : Dt := alsoW D17 21 laws_markInt64S_S
theorem d18 : DOk Go.Proofs.Try.prog tab D18 := d17.alsoW mixed_ok tab_ok names_ok (fnLoops_one (by kernel_rfl) laws_markInt64S_is2) laws_markInt64S_s
theorem laws_markInt64S_cc {A : List (List TC)} {k : Int} (ht : Typed tab (.slice 2) (.l A)) (hl : A.length ≤ 140737488351232) (h0 : 0 ≤ k) (h1 : k ≤ 2305843009213693952) : laws_markInt64S_c A k = true := is_true ⟨typed_rows ht rfl, hl, h0, h1⟩
theorem laws_markInt64S_v2 {A : List (List TC)} {k : Int} : (laws_markInt64S_v A k).2 = k + 1 * (A.length : Int) := rfl
/-! laws_heldInt64S -/
abbrev laws_heldInt64S_2_σ := List (List TC) × Int × Int
abbrev laws_heldInt64S_2_ω := (Int) ⊕ (Int)
noncomputable def laws_heldInt64S_2_step (A : List (List TC)) (k : Int) (i : Int) : Tr (laws_heldInt64S_2_σ ⊕ laws_heldInt64S_2_ω) := (.ite ((decide (i < (A.length : Int))) = true) (.ite ((0 : Int) ≤ i ∧ i < (A.length : Int)) (.ite ((!((nth (row A i) 0).int == k)) = true) (.ok (.inr (.inl k)))
    (.ok (.inl (A, (IntKind.wrap .i64 (k + (1 : Int))), (IntKind.wrap .i64 (i + (1 : Int)))))))
   .no)
  (.ok (.inr (.inr k))))
noncomputable def laws_heldInt64S_2_st : laws_heldInt64S_2_σ → Tr (laws_heldInt64S_2_σ ⊕ laws_heldInt64S_2_ω) := fun x => (laws_heldInt64S_2_step (x.1) (x.2.1) (x.2.2))
noncomputable def laws_heldInt64S_o2_1 (A : List (List TC)) (k : Int) (i : Int) : Bool := is (A = mkL_2 k A.length ∧ A.length ≤ 140737488351232 ∧ 0 ≤ k ∧ k ≤ 2305843009213693952 ∧ i = 0)
noncomputable def laws_heldInt64S_u2_1 (A : List (List TC)) (k : Int) (i : Int) : Int := k + 1 * (A.length : Int)
noncomputable def laws_heldInt64S_2_fin (A : List (List TC)) (k : Int) (i : Int) : Told laws_heldInt64S_2_ω := (.leaf (laws_heldInt64S_o2_1 A k i) (.inr (laws_heldInt64S_u2_1 A k i)))
def laws_heldInt64S_2_sl (x : laws_heldInt64S_2_σ) : List Slot := [⟨.val false [⟨.slice 2, .sh, TC.l (x.1)⟩], ⟨0, 0⟩⟩, ⟨.val false [⟨.int .i64, .sh, TC.i (x.2.1)⟩], ⟨0, 0⟩⟩, ⟨.val false [⟨.int .i64, .sh, TC.i (x.2.2)⟩], ⟨0, 0⟩⟩]
def laws_heldInt64S_2_out : laws_heldInt64S_2_ω → Ex × List Slot := (Sum.elim (fun x => (.ret, [⟨.val false [⟨.int .i64, .sh, TC.i x⟩], ⟨0, 0⟩⟩, ⟨.val false [⟨.int .i64, .sh, TC.i (-1 : Int)⟩], ⟨0, 0⟩⟩])) (fun x => (.exit 0, [⟨.val false [⟨.int .i64, .sh, TC.i x⟩], ⟨0, 0⟩⟩, Slot.none])))
noncomputable def laws_heldInt64S_lo2 : List Slot → Option (Told (Ex × List Slot)) := fun s => match s with
  | [⟨.val false [⟨.slice 2, .sh, TC.l A⟩], ⟨0, 0⟩⟩, ⟨.val false [⟨.int .i64, .sh, TC.i k⟩], ⟨0, 0⟩⟩, ⟨.val false [⟨.int .i64, .sh, TC.i i⟩], ⟨0, 0⟩⟩] => some (((laws_heldInt64S_2_fin A k i)).map laws_heldInt64S_2_out)
  | _ => .none
noncomputable def laws_heldInt64S_lo : LoopTeller := fun r s => bif Nat.beq r 2 then laws_heldInt64S_lo2 s else .none
theorem laws_heldInt64S_2_r (A : List (List TC)) (k : Int) (i : Int) (fuel : Nat) : rounds (rnd tab FT D18 live 29 laws_heldInt64S_lo 0 2) leave (fuel + 1) (laws_heldInt64S_2_sl (A, k, i)) = ((laws_heldInt64S_2_step A k i)).run (goOn (fun s => rounds (rnd tab FT D18 live 29 laws_heldInt64S_lo 0 2) leave fuel (laws_heldInt64S_2_sl s)) fun w => some (laws_heldInt64S_2_out w)) := by kernel_rfl
theorem laws_heldInt64S_2_h (A : List (List TC)) (k : Int) (i : Int) (ow : laws_heldInt64S_2_ω) : ((laws_heldInt64S_2_fin A k i)).val = some ow → ∃ fuel, loopN laws_heldInt64S_2_st fuel (A, k, i) = some ow := by
  intro h
  refine auto_leaf (R := Sum.inr (k + 1 * (A.length : Int))) (fun ho => ?_) h
  obtain ⟨hA, hl, h0, h1, rfl⟩ := is_iff.1 ho
  have key := loopN_run (step := laws_heldInt64S_2_st) (N := A.length) (w := Sum.inr (k + 1 * (A.length : Int))) (fun i => (A, k + 1 * (i : Int), (i : Int))) (fun i hi => ?_) ?_ A.length 0 (by omega)
  · exact ⟨A.length + 1, Eq.trans (congrArg (loopN laws_heldInt64S_2_st (A.length + 1)) (by simp)) key⟩
  · obtain ⟨kk, hkk⟩ : ∃ kk : Int, kk = k + 1 * (i : Int) := ⟨_, rfl⟩
    have hk0 : 0 ≤ kk := by omega
    have hk1 : kk + 1 ≤ 4611686018427387904 := by omega
    have hrow : row A (i : Int) = mkR_2 kk := by
      rw [hA]
      unfold mkL_2
      rw [row_madeL hi, hkk]
    show (laws_heldInt64S_2_step A (k + 1 * (i : Int)) (i : Int)).val = _
    rw [← hkk]
    unfold laws_heldInt64S_2_step
    rw [hrow]
    rw [wrap64 (i := kk + 1) (by omega) (by omega)]
    try rw [wrap64 (i := kk) (by omega) (by omega)]
    refine Tr.t (by simp; omega) ?_
    refine Tr.t (by constructor <;> omega) ?_
    refine Tr.n (by simp [nth, mkR_2, TC.str, TC.int, TC.bool]) ?_
    rw [Tr.val_ok, wrap64 (i := (i : Int) + 1) (by omega) (by omega)]
    show some (Sum.inl (_, _, _)) = some (Sum.inl (_, _, _))
    rw [show k + 1 * ((i + 1 : Nat) : Int) = kk + 1 from by omega]
    rfl
  · show (laws_heldInt64S_2_step A (k + 1 * (A.length : Int)) (A.length : Int)).val = _
    unfold laws_heldInt64S_2_step
    refine Tr.n (by simp) ?_
    rfl
theorem laws_heldInt64S_is2 : LoopIs tab FT D18 live 29 laws_heldInt64S_lo 0 2 := by
  refine loop_told (sl := laws_heldInt64S_2_sl) (step := laws_heldInt64S_2_st) (out := laws_heldInt64S_2_out) (lor := laws_heldInt64S_lo2) (fin := fun x => (laws_heldInt64S_2_fin (x.1) (x.2.1) (x.2.2))) (fun _ => rfl) ?_ (fun x n => laws_heldInt64S_2_r x.1 x.2.1 x.2.2 n) (fun x ow => laws_heldInt64S_2_h x.1 x.2.1 x.2.2 ow)
  intro s t h
  unfold laws_heldInt64S_lo2 at h
  split at h
  · cases h; exact ⟨(_, _, _), rfl, rfl⟩
  · cases h
noncomputable def laws_heldInt64S_t (A : List (List TC)) (k : Int) : Tr (Int) := (.ite ((laws_heldInt64S_o2_1 A k (0 : Int)) = true) (.ok (laws_heldInt64S_u2_1 A k (0 : Int)))
  .no)
def laws_heldInt64S_mk (p : Int) : Res := [(false, [⟨.int .i64, .sh, TC.i p⟩])]
noncomputable def laws_heldInt64S_c (A : List (List TC)) (k : Int) : Bool := is (A = mkL_2 k A.length ∧ A.length ≤ 140737488351232 ∧ 0 ≤ k ∧ k ≤ 2305843009213693952)
noncomputable def laws_heldInt64S_v (A : List (List TC)) (k : Int) : Int := k + 1 * (A.length : Int)
theorem laws_heldInt64S_l (A : List (List TC)) (k : Int) : (laws_heldInt64S_c A k) = true → (laws_heldInt64S_t A k).val = some (laws_heldInt64S_v A k) := by
  intro h
  obtain ⟨hr, hl, h0, h1⟩ := is_iff.1 h
  unfold laws_heldInt64S_t
  exact Tr.t (is_true ⟨hr, hl, h0, h1, rfl⟩) rfl
noncomputable def laws_heldInt64S_S : List Arg → Option (Bool × Res) := fun xs => match xs with
  | [(false, [(.slice 2, TC.l A)]), (false, [(.int .i64, TC.i k)])] => some ((laws_heldInt64S_c A k), laws_heldInt64S_mk (laws_heldInt64S_v A k))
  | _ => .none
theorem laws_heldInt64S_e (A : List (List TC)) (k : Int) : runF tab FT D18 live 29 laws_heldInt64S_lo [(false, [(.slice 2, TC.l A)]), (false, [(.int .i64, TC.i k)])] = (laws_heldInt64S_t A k).run fun p => some (laws_heldInt64S_mk p) := by kernel_rfl
theorem laws_heldInt64S_s : ∀ xs r, laws_heldInt64S_S xs = some (true, r) → runF tab FT D18 live 29 laws_heldInt64S_lo xs = some r := by
  intro xs r h
  unfold laws_heldInt64S_S at h
  split at h
  · simp only [Option.some.injEq, Prod.mk.injEq] at h
    obtain ⟨h1, rfl⟩ := h
    exact fun_told (laws_heldInt64S_e _ _) (laws_heldInt64S_l _ _) h1
  · cases h
noncomputable def D19 : Dt := also D18 29 laws_heldInt64S_S
theorem d19 : DOk Go.Proofs.Try.prog tab D19 := d18.also mixed_ok tab_ok names_ok (fnLoops_one (by kernel_rfl) laws_heldInt64S_is2) laws_heldInt64S_s
theorem laws_heldInt64S_cc {A : List (List TC)} {k : Int} (hl : A.length ≤ 140737488351232) (h0 : 0 ≤ k) (h1 : k ≤ 2305843009213693952) : laws_heldInt64S_c (laws_markInt64S_v A k).1 k = true := is_true ⟨by show mkL_2 k A.length = mkL_2 k (mkL_2 k A.length).length; rw [mkL_2_length], by show (mkL_2 k A.length).length ≤ _; rw [mkL_2_length]; exact hl, h0, h1⟩
theorem laws_heldInt64S_vm {A : List (List TC)} {k : Int} : laws_heldInt64S_v (laws_markInt64S_v A k).1 k = (laws_markInt64S_v A k).2 := by
  show k + 1 * ((mkL_2 k A.length).length : Int) = k + 1 * (A.length : Int)
  rw [mkL_2_length]
/-! the law -/
noncomputable def laws_FnExactBroadcastDims_t (x0 : List (List TC)) (x1 : List (List TC)) : Tr Bool := (.ite ((decide ((x0.length : Int) > (1048576 : Int))) = true) (.ok true)
  (.ite ((decide ((x1.length : Int) > (1048576 : Int))) = true) (.ok true)
   (.ite ((laws_toInt64S_c x0) = true) (.ite ((laws_toInt64S_c x1) = true) (.ite ((spec_BroadcastDims_c (laws_toInt64S_v x0) (laws_toInt64S_v x1)) = true) (.ite ((laws_toInt64S_c x0) = true) (.ite ((laws_toInt64S_c x1) = true) (.ite ((impl_BroadcastDims_c (laws_toInt64S_v x0) (laws_toInt64S_v x1)) = true) (.ite ((laws_eqInt64S_c ((impl_BroadcastDims_v (laws_toInt64S_v x0) (laws_toInt64S_v x1)).1) ((spec_BroadcastDims_v (laws_toInt64S_v x0) (laws_toInt64S_v x1)).1)) = true) (.ite ((!(laws_eqInt64S_v ((impl_BroadcastDims_v (laws_toInt64S_v x0) (laws_toInt64S_v x1)).1) ((spec_BroadcastDims_v (laws_toInt64S_v x0) (laws_toInt64S_v x1)).1))) = true) (.ok false)
           (.ite ((!((impl_BroadcastDims_v (laws_toInt64S_v x0) (laws_toInt64S_v x1)).2 == (spec_BroadcastDims_v (laws_toInt64S_v x0) (laws_toInt64S_v x1)).2)) = true) (.ok false)
            (.ite ((laws_toInt64S_c x0) = true) (.ite ((laws_eqInt64S_c (laws_toInt64S_v x0) (laws_toInt64S_v x0)) = true) (.ite ((!(laws_eqInt64S_v (laws_toInt64S_v x0) (laws_toInt64S_v x0))) = true) (.ok false)
               (.ite ((laws_toInt64S_c x1) = true) (.ite ((laws_eqInt64S_c (laws_toInt64S_v x1) (laws_toInt64S_v x1)) = true) (.ite ((!(laws_eqInt64S_v (laws_toInt64S_v x1) (laws_toInt64S_v x1))) = true) (.ok false)
                  (.ite ((laws_markInt64S_c (laws_toInt64S_v x0) (1 : Int)) = true) (.ite ((laws_markInt64S_c (laws_toInt64S_v x1) ((laws_markInt64S_v (laws_toInt64S_v x0) (1 : Int)).2)) = true) (.ite ((decide ((laws_markInt64S_v (laws_toInt64S_v x1) ((laws_markInt64S_v (laws_toInt64S_v x0) (1 : Int)).2)).2 < (0 : Int))) = true) (.ok false)
                     (.ite ((laws_eqInt64S_c ((impl_BroadcastDims_v (laws_toInt64S_v x0) (laws_toInt64S_v x1)).1) ((spec_BroadcastDims_v (laws_toInt64S_v x0) (laws_toInt64S_v x1)).1)) = true) (.ite ((!(laws_eqInt64S_v ((impl_BroadcastDims_v (laws_toInt64S_v x0) (laws_toInt64S_v x1)).1) ((spec_BroadcastDims_v (laws_toInt64S_v x0) (laws_toInt64S_v x1)).1))) = true) (.ok false)
                       (.ite ((!((impl_BroadcastDims_v (laws_toInt64S_v x0) (laws_toInt64S_v x1)).2 == (spec_BroadcastDims_v (laws_toInt64S_v x0) (laws_toInt64S_v x1)).2)) = true) (.ok false)
                        (.ite ((laws_markInt64S_c ((impl_BroadcastDims_v (laws_toInt64S_v x0) (laws_toInt64S_v x1)).1) (1 : Int)) = true) (.ite ((laws_heldInt64S_c ((laws_markInt64S_v ((impl_BroadcastDims_v (laws_toInt64S_v x0) (laws_toInt64S_v x1)).1) (1 : Int)).1) (1 : Int)) = true) (.ite ((decide ((laws_heldInt64S_v ((laws_markInt64S_v ((impl_BroadcastDims_v (laws_toInt64S_v x0) (laws_toInt64S_v x1)).1) (1 : Int)).1) (1 : Int)) < (0 : Int))) = true) (.ok false)
                           (.ite ((!((laws_heldInt64S_v ((laws_markInt64S_v ((impl_BroadcastDims_v (laws_toInt64S_v x0) (laws_toInt64S_v x1)).1) (1 : Int)).1) (1 : Int)) == (laws_markInt64S_v ((impl_BroadcastDims_v (laws_toInt64S_v x0) (laws_toInt64S_v x1)).1) (1 : Int)).2)) = true) (.ok false)
                            (.ite ((laws_toInt64S_c x0) = true) (.ite ((laws_toInt64S_c x1) = true) (.ite ((impl_BroadcastDims_c (laws_toInt64S_v x0) (laws_toInt64S_v x1)) = true) (.ite ((laws_eqInt64S_c ((impl_BroadcastDims_v (laws_toInt64S_v x0) (laws_toInt64S_v x1)).1) ((spec_BroadcastDims_v (laws_toInt64S_v x0) (laws_toInt64S_v x1)).1)) = true) (.ite ((!(laws_eqInt64S_v ((impl_BroadcastDims_v (laws_toInt64S_v x0) (laws_toInt64S_v x1)).1) ((spec_BroadcastDims_v (laws_toInt64S_v x0) (laws_toInt64S_v x1)).1))) = true) (.ok false)
                                 (.ite ((!((impl_BroadcastDims_v (laws_toInt64S_v x0) (laws_toInt64S_v x1)).2 == (spec_BroadcastDims_v (laws_toInt64S_v x0) (laws_toInt64S_v x1)).2)) = true) (.ok false)
                                  (.ite ((laws_heldInt64S_c ((laws_markInt64S_v ((impl_BroadcastDims_v (laws_toInt64S_v x0) (laws_toInt64S_v x1)).1) (1 : Int)).1) (1 : Int)) = true) (.ite ((decide ((laws_heldInt64S_v ((laws_markInt64S_v ((impl_BroadcastDims_v (laws_toInt64S_v x0) (laws_toInt64S_v x1)).1) (1 : Int)).1) (1 : Int)) < (0 : Int))) = true) (.ok false)
                                    (.ite ((!((laws_heldInt64S_v ((laws_markInt64S_v ((impl_BroadcastDims_v (laws_toInt64S_v x0) (laws_toInt64S_v x1)).1) (1 : Int)).1) (1 : Int)) == (laws_markInt64S_v ((impl_BroadcastDims_v (laws_toInt64S_v x0) (laws_toInt64S_v x1)).1) (1 : Int)).2)) = true) (.ok false)
                                     (.ok true)))
                                   .no)))
                                .no)
                               .no)
                              .no)
                             .no)))
                          .no)
                         .no)))
                      .no))
                    .no)
                   .no))
                 .no)
                .no))
              .no)
             .no)))
          .no)
         .no)
        .no)
       .no)
      .no)
     .no)
    .no)))
theorem laws_FnExactBroadcastDims_e (x0 : List (List TC)) (x1 : List (List TC)) : runF tab FT D19 live 12 noLoops [(false, [(.slice 2, TC.l x0)]), (false, [(.slice 2, TC.l x1)])] = (laws_FnExactBroadcastDims_t x0 x1).run fun p => some [(false, [⟨.bool, .sh, .b p⟩])] := by kernel_rfl
theorem laws_FnExactBroadcastDims_p (x0 : List (List TC)) (x1 : List (List TC)) (h0 : Typed tab (.slice 2) (.l x0)) (h1 : Typed tab (.slice 2) (.l x1)) : (laws_FnExactBroadcastDims_t x0 x1).val = some true := by
  have t0_2 := laws_toInt64S_ty h0
  have t1_2 := laws_toInt64S_ty h1
  have hr0 := typed_room t0_2
  have hr1 := typed_room t1_2
  have ht := bdV_ty (A := List.map laws_toInt64S_g x0) (B := List.map laws_toInt64S_g x1) rfl rfl t0_2 t1_2
  have hr2 := typed_room ht
  simp only [show (tab 2).bytes = 8 from rfl] at hr0 hr1 hr2
  unfold laws_FnExactBroadcastDims_t
  simp only [spec_BroadcastDims_vv, impl_BroadcastDims_vv, laws_toInt64S_v]
  refine Tr.y ?_
  refine Tr.y ?_
  refine Tr.t (by first | exact (by first | (apply is_true; and_intros <;> (first | rfl | assumption | (apply spec_BroadcastDims_cc <;> assumption) | (apply impl_BroadcastDims_cc <;> assumption) | (first | (apply is_true; and_intros <;> (first | rfl | assumption | (apply spec_BroadcastDims_cc <;> assumption) | (apply impl_BroadcastDims_cc <;> assumption) | (first | (apply is_true; and_intros <;> (first | rfl | assumption | (apply spec_BroadcastDims_cc <;> assumption) | (apply impl_BroadcastDims_cc <;> assumption) | (first | (apply is_true; and_intros <;> (first | rfl | assumption | (apply spec_BroadcastDims_cc <;> assumption) | (apply impl_BroadcastDims_cc <;> assumption))) | (apply spec_BroadcastDims_cc <;> assumption) | (apply impl_BroadcastDims_cc <;> assumption)))) | (apply spec_BroadcastDims_cc <;> assumption) | (apply impl_BroadcastDims_cc <;> assumption)))) | (apply spec_BroadcastDims_cc <;> assumption) | (apply impl_BroadcastDims_cc <;> assumption)))) | (apply spec_BroadcastDims_cc <;> assumption) | (apply impl_BroadcastDims_cc <;> assumption)) | simp [*]) ?_
  refine Tr.t (by first | exact (by first | (apply is_true; and_intros <;> (first | rfl | assumption | (apply spec_BroadcastDims_cc <;> assumption) | (apply impl_BroadcastDims_cc <;> assumption) | (first | (apply is_true; and_intros <;> (first | rfl | assumption | (apply spec_BroadcastDims_cc <;> assumption) | (apply impl_BroadcastDims_cc <;> assumption) | (first | (apply is_true; and_intros <;> (first | rfl | assumption | (apply spec_BroadcastDims_cc <;> assumption) | (apply impl_BroadcastDims_cc <;> assumption) | (first | (apply is_true; and_intros <;> (first | rfl | assumption | (apply spec_BroadcastDims_cc <;> assumption) | (apply impl_BroadcastDims_cc <;> assumption))) | (apply spec_BroadcastDims_cc <;> assumption) | (apply impl_BroadcastDims_cc <;> assumption)))) | (apply spec_BroadcastDims_cc <;> assumption) | (apply impl_BroadcastDims_cc <;> assumption)))) | (apply spec_BroadcastDims_cc <;> assumption) | (apply impl_BroadcastDims_cc <;> assumption)))) | (apply spec_BroadcastDims_cc <;> assumption) | (apply impl_BroadcastDims_cc <;> assumption)) | simp [*]) ?_
  refine Tr.t (by first | exact (by first | (apply spec_BroadcastDims_cc <;> assumption) | (first | (apply is_true; and_intros <;> (first | rfl | assumption | (apply spec_BroadcastDims_cc <;> assumption) | (apply impl_BroadcastDims_cc <;> assumption) | (first | (apply is_true; and_intros <;> (first | rfl | assumption | (apply spec_BroadcastDims_cc <;> assumption) | (apply impl_BroadcastDims_cc <;> assumption))) | (apply spec_BroadcastDims_cc <;> assumption) | (apply impl_BroadcastDims_cc <;> assumption)))) | (apply spec_BroadcastDims_cc <;> assumption) | (apply impl_BroadcastDims_cc <;> assumption))) | simp [*]) ?_
  refine Tr.t (by first | exact (by first | (apply is_true; and_intros <;> (first | rfl | assumption | (apply spec_BroadcastDims_cc <;> assumption) | (apply impl_BroadcastDims_cc <;> assumption) | (first | (apply is_true; and_intros <;> (first | rfl | assumption | (apply spec_BroadcastDims_cc <;> assumption) | (apply impl_BroadcastDims_cc <;> assumption) | (first | (apply is_true; and_intros <;> (first | rfl | assumption | (apply spec_BroadcastDims_cc <;> assumption) | (apply impl_BroadcastDims_cc <;> assumption) | (first | (apply is_true; and_intros <;> (first | rfl | assumption | (apply spec_BroadcastDims_cc <;> assumption) | (apply impl_BroadcastDims_cc <;> assumption))) | (apply spec_BroadcastDims_cc <;> assumption) | (apply impl_BroadcastDims_cc <;> assumption)))) | (apply spec_BroadcastDims_cc <;> assumption) | (apply impl_BroadcastDims_cc <;> assumption)))) | (apply spec_BroadcastDims_cc <;> assumption) | (apply impl_BroadcastDims_cc <;> assumption)))) | (apply spec_BroadcastDims_cc <;> assumption) | (apply impl_BroadcastDims_cc <;> assumption)) | simp [*]) ?_
  refine Tr.t (by first | exact (by first | (apply is_true; and_intros <;> (first | rfl | assumption | (apply spec_BroadcastDims_cc <;> assumption) | (apply impl_BroadcastDims_cc <;> assumption) | (first | (apply is_true; and_intros <;> (first | rfl | assumption | (apply spec_BroadcastDims_cc <;> assumption) | (apply impl_BroadcastDims_cc <;> assumption) | (first | (apply is_true; and_intros <;> (first | rfl | assumption | (apply spec_BroadcastDims_cc <;> assumption) | (apply impl_BroadcastDims_cc <;> assumption) | (first | (apply is_true; and_intros <;> (first | rfl | assumption | (apply spec_BroadcastDims_cc <;> assumption) | (apply impl_BroadcastDims_cc <;> assumption))) | (apply spec_BroadcastDims_cc <;> assumption) | (apply impl_BroadcastDims_cc <;> assumption)))) | (apply spec_BroadcastDims_cc <;> assumption) | (apply impl_BroadcastDims_cc <;> assumption)))) | (apply spec_BroadcastDims_cc <;> assumption) | (apply impl_BroadcastDims_cc <;> assumption)))) | (apply spec_BroadcastDims_cc <;> assumption) | (apply impl_BroadcastDims_cc <;> assumption)) | simp [*]) ?_
  refine Tr.t (by first | exact (by first | (apply impl_BroadcastDims_cc <;> assumption) | (first | (apply is_true; and_intros <;> (first | rfl | assumption | (apply spec_BroadcastDims_cc <;> assumption) | (apply impl_BroadcastDims_cc <;> assumption) | (first | (apply is_true; and_intros <;> (first | rfl | assumption | (apply spec_BroadcastDims_cc <;> assumption) | (apply impl_BroadcastDims_cc <;> assumption))) | (apply spec_BroadcastDims_cc <;> assumption) | (apply impl_BroadcastDims_cc <;> assumption)))) | (apply spec_BroadcastDims_cc <;> assumption) | (apply impl_BroadcastDims_cc <;> assumption))) | simp [*]) ?_
  refine Tr.t (by first | exact (by first | (apply is_true; and_intros <;> (first | rfl | assumption | (apply spec_BroadcastDims_cc <;> assumption) | (apply impl_BroadcastDims_cc <;> assumption) | (first | (apply is_true; and_intros <;> (first | rfl | assumption | (apply spec_BroadcastDims_cc <;> assumption) | (apply impl_BroadcastDims_cc <;> assumption) | (first | (apply is_true; and_intros <;> (first | rfl | assumption | (apply spec_BroadcastDims_cc <;> assumption) | (apply impl_BroadcastDims_cc <;> assumption) | (first | (apply is_true; and_intros <;> (first | rfl | assumption | (apply spec_BroadcastDims_cc <;> assumption) | (apply impl_BroadcastDims_cc <;> assumption))) | (apply spec_BroadcastDims_cc <;> assumption) | (apply impl_BroadcastDims_cc <;> assumption)))) | (apply spec_BroadcastDims_cc <;> assumption) | (apply impl_BroadcastDims_cc <;> assumption)))) | (apply spec_BroadcastDims_cc <;> assumption) | (apply impl_BroadcastDims_cc <;> assumption)))) | (apply spec_BroadcastDims_cc <;> assumption) | (apply impl_BroadcastDims_cc <;> assumption)) | simp [*]) ?_
  refine Tr.n (by first | (simp [laws_heldInt64S_vm, laws_markInt64S_v2, laws_eqInt64S_v]; done) | (simp only [laws_heldInt64S_vm, laws_markInt64S_v2, laws_eqInt64S_v, decide_eq_true_eq]; omega) | (simp [laws_heldInt64S_vm, laws_markInt64S_v2, laws_eqInt64S_v]; omega) | (simp (disch := omega) only [laws_heldInt64S_vm, laws_markInt64S_v2, laws_eqInt64S_v, neg_bif, decide_eq_true_eq]; omega) | (simp (disch := omega) [laws_heldInt64S_vm, laws_markInt64S_v2, laws_eqInt64S_v, neg_bif]; done)) ?_
  refine Tr.n (by first | (simp [laws_heldInt64S_vm, laws_markInt64S_v2, laws_eqInt64S_v]; done) | (simp only [laws_heldInt64S_vm, laws_markInt64S_v2, laws_eqInt64S_v, decide_eq_true_eq]; omega) | (simp [laws_heldInt64S_vm, laws_markInt64S_v2, laws_eqInt64S_v]; omega) | (simp (disch := omega) only [laws_heldInt64S_vm, laws_markInt64S_v2, laws_eqInt64S_v, neg_bif, decide_eq_true_eq]; omega) | (simp (disch := omega) [laws_heldInt64S_vm, laws_markInt64S_v2, laws_eqInt64S_v, neg_bif]; done)) ?_
  refine Tr.t (by first | exact (by first | (apply is_true; and_intros <;> (first | rfl | assumption | (apply spec_BroadcastDims_cc <;> assumption) | (apply impl_BroadcastDims_cc <;> assumption) | (first | (apply is_true; and_intros <;> (first | rfl | assumption | (apply spec_BroadcastDims_cc <;> assumption) | (apply impl_BroadcastDims_cc <;> assumption) | (first | (apply is_true; and_intros <;> (first | rfl | assumption | (apply spec_BroadcastDims_cc <;> assumption) | (apply impl_BroadcastDims_cc <;> assumption) | (first | (apply is_true; and_intros <;> (first | rfl | assumption | (apply spec_BroadcastDims_cc <;> assumption) | (apply impl_BroadcastDims_cc <;> assumption))) | (apply spec_BroadcastDims_cc <;> assumption) | (apply impl_BroadcastDims_cc <;> assumption)))) | (apply spec_BroadcastDims_cc <;> assumption) | (apply impl_BroadcastDims_cc <;> assumption)))) | (apply spec_BroadcastDims_cc <;> assumption) | (apply impl_BroadcastDims_cc <;> assumption)))) | (apply spec_BroadcastDims_cc <;> assumption) | (apply impl_BroadcastDims_cc <;> assumption)) | simp [*]) ?_
  refine Tr.t (by first | exact (by first | (apply is_true; and_intros <;> (first | rfl | assumption | (apply spec_BroadcastDims_cc <;> assumption) | (apply impl_BroadcastDims_cc <;> assumption) | (first | (apply is_true; and_intros <;> (first | rfl | assumption | (apply spec_BroadcastDims_cc <;> assumption) | (apply impl_BroadcastDims_cc <;> assumption) | (first | (apply is_true; and_intros <;> (first | rfl | assumption | (apply spec_BroadcastDims_cc <;> assumption) | (apply impl_BroadcastDims_cc <;> assumption) | (first | (apply is_true; and_intros <;> (first | rfl | assumption | (apply spec_BroadcastDims_cc <;> assumption) | (apply impl_BroadcastDims_cc <;> assumption))) | (apply spec_BroadcastDims_cc <;> assumption) | (apply impl_BroadcastDims_cc <;> assumption)))) | (apply spec_BroadcastDims_cc <;> assumption) | (apply impl_BroadcastDims_cc <;> assumption)))) | (apply spec_BroadcastDims_cc <;> assumption) | (apply impl_BroadcastDims_cc <;> assumption)))) | (apply spec_BroadcastDims_cc <;> assumption) | (apply impl_BroadcastDims_cc <;> assumption)) | simp [*]) ?_
  refine Tr.n (by first | (simp [laws_heldInt64S_vm, laws_markInt64S_v2, laws_eqInt64S_v]; done) | (simp only [laws_heldInt64S_vm, laws_markInt64S_v2, laws_eqInt64S_v, decide_eq_true_eq]; omega) | (simp [laws_heldInt64S_vm, laws_markInt64S_v2, laws_eqInt64S_v]; omega) | (simp (disch := omega) only [laws_heldInt64S_vm, laws_markInt64S_v2, laws_eqInt64S_v, neg_bif, decide_eq_true_eq]; omega) | (simp (disch := omega) [laws_heldInt64S_vm, laws_markInt64S_v2, laws_eqInt64S_v, neg_bif]; done)) ?_
  refine Tr.t (by first | exact (by first | (apply is_true; and_intros <;> (first | rfl | assumption | (apply spec_BroadcastDims_cc <;> assumption) | (apply impl_BroadcastDims_cc <;> assumption) | (first | (apply is_true; and_intros <;> (first | rfl | assumption | (apply spec_BroadcastDims_cc <;> assumption) | (apply impl_BroadcastDims_cc <;> assumption) | (first | (apply is_true; and_intros <;> (first | rfl | assumption | (apply spec_BroadcastDims_cc <;> assumption) | (apply impl_BroadcastDims_cc <;> assumption) | (first | (apply is_true; and_intros <;> (first | rfl | assumption | (apply spec_BroadcastDims_cc <;> assumption) | (apply impl_BroadcastDims_cc <;> assumption))) | (apply spec_BroadcastDims_cc <;> assumption) | (apply impl_BroadcastDims_cc <;> assumption)))) | (apply spec_BroadcastDims_cc <;> assumption) | (apply impl_BroadcastDims_cc <;> assumption)))) | (apply spec_BroadcastDims_cc <;> assumption) | (apply impl_BroadcastDims_cc <;> assumption)))) | (apply spec_BroadcastDims_cc <;> assumption) | (apply impl_BroadcastDims_cc <;> assumption)) | simp [*]) ?_
  refine Tr.t (by first | exact (by first | (apply is_true; and_intros <;> (first | rfl | assumption | (apply spec_BroadcastDims_cc <;> assumption) | (apply impl_BroadcastDims_cc <;> assumption) | (first | (apply is_true; and_intros <;> (first | rfl | assumption | (apply spec_BroadcastDims_cc <;> assumption) | (apply impl_BroadcastDims_cc <;> assumption) | (first | (apply is_true; and_intros <;> (first | rfl | assumption | (apply spec_BroadcastDims_cc <;> assumption) | (apply impl_BroadcastDims_cc <;> assumption) | (first | (apply is_true; and_intros <;> (first | rfl | assumption | (apply spec_BroadcastDims_cc <;> assumption) | (apply impl_BroadcastDims_cc <;> assumption))) | (apply spec_BroadcastDims_cc <;> assumption) | (apply impl_BroadcastDims_cc <;> assumption)))) | (apply spec_BroadcastDims_cc <;> assumption) | (apply impl_BroadcastDims_cc <;> assumption)))) | (apply spec_BroadcastDims_cc <;> assumption) | (apply impl_BroadcastDims_cc <;> assumption)))) | (apply spec_BroadcastDims_cc <;> assumption) | (apply impl_BroadcastDims_cc <;> assumption)) | simp [*]) ?_
  refine Tr.n (by first | (simp [laws_heldInt64S_vm, laws_markInt64S_v2, laws_eqInt64S_v]; done) | (simp only [laws_heldInt64S_vm, laws_markInt64S_v2, laws_eqInt64S_v, decide_eq_true_eq]; omega) | (simp [laws_heldInt64S_vm, laws_markInt64S_v2, laws_eqInt64S_v]; omega) | (simp (disch := omega) only [laws_heldInt64S_vm, laws_markInt64S_v2, laws_eqInt64S_v, neg_bif, decide_eq_true_eq]; omega) | (simp (disch := omega) [laws_heldInt64S_vm, laws_markInt64S_v2, laws_eqInt64S_v, neg_bif]; done)) ?_
  refine Tr.t (by apply laws_markInt64S_cc <;> (first | assumption | omega | (simp only [laws_heldInt64S_vm, laws_markInt64S_v2]; omega) | (simp (disch := omega) only [laws_heldInt64S_vm, laws_markInt64S_v2, neg_bif]; omega))) ?_
  refine Tr.t (by apply laws_markInt64S_cc <;> (first | assumption | omega | (simp only [laws_heldInt64S_vm, laws_markInt64S_v2]; omega) | (simp (disch := omega) only [laws_heldInt64S_vm, laws_markInt64S_v2, neg_bif]; omega))) ?_
  refine Tr.n (by first | (simp [laws_heldInt64S_vm, laws_markInt64S_v2, laws_eqInt64S_v]; done) | (simp only [laws_heldInt64S_vm, laws_markInt64S_v2, laws_eqInt64S_v, decide_eq_true_eq]; omega) | (simp [laws_heldInt64S_vm, laws_markInt64S_v2, laws_eqInt64S_v]; omega) | (simp (disch := omega) only [laws_heldInt64S_vm, laws_markInt64S_v2, laws_eqInt64S_v, neg_bif, decide_eq_true_eq]; omega) | (simp (disch := omega) [laws_heldInt64S_vm, laws_markInt64S_v2, laws_eqInt64S_v, neg_bif]; done)) ?_
  refine Tr.t (by first | exact (by first | (apply is_true; and_intros <;> (first | rfl | assumption | (apply spec_BroadcastDims_cc <;> assumption) | (apply impl_BroadcastDims_cc <;> assumption) | (first | (apply is_true; and_intros <;> (first | rfl | assumption | (apply spec_BroadcastDims_cc <;> assumption) | (apply impl_BroadcastDims_cc <;> assumption) | (first | (apply is_true; and_intros <;> (first | rfl | assumption | (apply spec_BroadcastDims_cc <;> assumption) | (apply impl_BroadcastDims_cc <;> assumption) | (first | (apply is_true; and_intros <;> (first | rfl | assumption | (apply spec_BroadcastDims_cc <;> assumption) | (apply impl_BroadcastDims_cc <;> assumption))) | (apply spec_BroadcastDims_cc <;> assumption) | (apply impl_BroadcastDims_cc <;> assumption)))) | (apply spec_BroadcastDims_cc <;> assumption) | (apply impl_BroadcastDims_cc <;> assumption)))) | (apply spec_BroadcastDims_cc <;> assumption) | (apply impl_BroadcastDims_cc <;> assumption)))) | (apply spec_BroadcastDims_cc <;> assumption) | (apply impl_BroadcastDims_cc <;> assumption)) | simp [*]) ?_
  refine Tr.n (by first | (simp [laws_heldInt64S_vm, laws_markInt64S_v2, laws_eqInt64S_v]; done) | (simp only [laws_heldInt64S_vm, laws_markInt64S_v2, laws_eqInt64S_v, decide_eq_true_eq]; omega) | (simp [laws_heldInt64S_vm, laws_markInt64S_v2, laws_eqInt64S_v]; omega) | (simp (disch := omega) only [laws_heldInt64S_vm, laws_markInt64S_v2, laws_eqInt64S_v, neg_bif, decide_eq_true_eq]; omega) | (simp (disch := omega) [laws_heldInt64S_vm, laws_markInt64S_v2, laws_eqInt64S_v, neg_bif]; done)) ?_
  refine Tr.n (by first | (simp [laws_heldInt64S_vm, laws_markInt64S_v2, laws_eqInt64S_v]; done) | (simp only [laws_heldInt64S_vm, laws_markInt64S_v2, laws_eqInt64S_v, decide_eq_true_eq]; omega) | (simp [laws_heldInt64S_vm, laws_markInt64S_v2, laws_eqInt64S_v]; omega) | (simp (disch := omega) only [laws_heldInt64S_vm, laws_markInt64S_v2, laws_eqInt64S_v, neg_bif, decide_eq_true_eq]; omega) | (simp (disch := omega) [laws_heldInt64S_vm, laws_markInt64S_v2, laws_eqInt64S_v, neg_bif]; done)) ?_
  refine Tr.t (by apply laws_markInt64S_cc <;> (first | assumption | omega | (simp only [laws_heldInt64S_vm, laws_markInt64S_v2]; omega) | (simp (disch := omega) only [laws_heldInt64S_vm, laws_markInt64S_v2, neg_bif]; omega))) ?_
  refine Tr.t (by apply laws_heldInt64S_cc <;> (first | assumption | omega | (simp only [laws_heldInt64S_vm, laws_markInt64S_v2]; omega) | (simp (disch := omega) only [laws_heldInt64S_vm, laws_markInt64S_v2, neg_bif]; omega))) ?_
  refine Tr.n (by first | (simp [laws_heldInt64S_vm, laws_markInt64S_v2, laws_eqInt64S_v]; done) | (simp only [laws_heldInt64S_vm, laws_markInt64S_v2, laws_eqInt64S_v, decide_eq_true_eq]; omega) | (simp [laws_heldInt64S_vm, laws_markInt64S_v2, laws_eqInt64S_v]; omega) | (simp (disch := omega) only [laws_heldInt64S_vm, laws_markInt64S_v2, laws_eqInt64S_v, neg_bif, decide_eq_true_eq]; omega) | (simp (disch := omega) [laws_heldInt64S_vm, laws_markInt64S_v2, laws_eqInt64S_v, neg_bif]; done)) ?_
  refine Tr.n (by first | (simp [laws_heldInt64S_vm, laws_markInt64S_v2, laws_eqInt64S_v]; done) | (simp only [laws_heldInt64S_vm, laws_markInt64S_v2, laws_eqInt64S_v, decide_eq_true_eq]; omega) | (simp [laws_heldInt64S_vm, laws_markInt64S_v2, laws_eqInt64S_v]; omega) | (simp (disch := omega) only [laws_heldInt64S_vm, laws_markInt64S_v2, laws_eqInt64S_v, neg_bif, decide_eq_true_eq]; omega) | (simp (disch := omega) [laws_heldInt64S_vm, laws_markInt64S_v2, laws_eqInt64S_v, neg_bif]; done)) ?_
  refine Tr.t (by first | exact (by first | (apply is_true; and_intros <;> (first | rfl | assumption | (apply spec_BroadcastDims_cc <;> assumption) | (apply impl_BroadcastDims_cc <;> assumption) | (first | (apply is_true; and_intros <;> (first | rfl | assumption | (apply spec_BroadcastDims_cc <;> assumption) | (apply impl_BroadcastDims_cc <;> assumption) | (first | (apply is_true; and_intros <;> (first | rfl | assumption | (apply spec_BroadcastDims_cc <;> assumption) | (apply impl_BroadcastDims_cc <;> assumption) | (first | (apply is_true; and_intros <;> (first | rfl | assumption | (apply spec_BroadcastDims_cc <;> assumption) | (apply impl_BroadcastDims_cc <;> assumption))) | (apply spec_BroadcastDims_cc <;> assumption) | (apply impl_BroadcastDims_cc <;> assumption)))) | (apply spec_BroadcastDims_cc <;> assumption) | (apply impl_BroadcastDims_cc <;> assumption)))) | (apply spec_BroadcastDims_cc <;> assumption) | (apply impl_BroadcastDims_cc <;> assumption)))) | (apply spec_BroadcastDims_cc <;> assumption) | (apply impl_BroadcastDims_cc <;> assumption)) | simp [*]) ?_
  refine Tr.t (by first | exact (by first | (apply is_true; and_intros <;> (first | rfl | assumption | (apply spec_BroadcastDims_cc <;> assumption) | (apply impl_BroadcastDims_cc <;> assumption) | (first | (apply is_true; and_intros <;> (first | rfl | assumption | (apply spec_BroadcastDims_cc <;> assumption) | (apply impl_BroadcastDims_cc <;> assumption) | (first | (apply is_true; and_intros <;> (first | rfl | assumption | (apply spec_BroadcastDims_cc <;> assumption) | (apply impl_BroadcastDims_cc <;> assumption) | (first | (apply is_true; and_intros <;> (first | rfl | assumption | (apply spec_BroadcastDims_cc <;> assumption) | (apply impl_BroadcastDims_cc <;> assumption))) | (apply spec_BroadcastDims_cc <;> assumption) | (apply impl_BroadcastDims_cc <;> assumption)))) | (apply spec_BroadcastDims_cc <;> assumption) | (apply impl_BroadcastDims_cc <;> assumption)))) | (apply spec_BroadcastDims_cc <;> assumption) | (apply impl_BroadcastDims_cc <;> assumption)))) | (apply spec_BroadcastDims_cc <;> assumption) | (apply impl_BroadcastDims_cc <;> assumption)) | simp [*]) ?_
  refine Tr.t (by first | exact (by first | (apply impl_BroadcastDims_cc <;> assumption) | (first | (apply is_true; and_intros <;> (first | rfl | assumption | (apply spec_BroadcastDims_cc <;> assumption) | (apply impl_BroadcastDims_cc <;> assumption) | (first | (apply is_true; and_intros <;> (first | rfl | assumption | (apply spec_BroadcastDims_cc <;> assumption) | (apply impl_BroadcastDims_cc <;> assumption))) | (apply spec_BroadcastDims_cc <;> assumption) | (apply impl_BroadcastDims_cc <;> assumption)))) | (apply spec_BroadcastDims_cc <;> assumption) | (apply impl_BroadcastDims_cc <;> assumption))) | simp [*]) ?_
  refine Tr.t (by first | exact (by first | (apply is_true; and_intros <;> (first | rfl | assumption | (apply spec_BroadcastDims_cc <;> assumption) | (apply impl_BroadcastDims_cc <;> assumption) | (first | (apply is_true; and_intros <;> (first | rfl | assumption | (apply spec_BroadcastDims_cc <;> assumption) | (apply impl_BroadcastDims_cc <;> assumption) | (first | (apply is_true; and_intros <;> (first | rfl | assumption | (apply spec_BroadcastDims_cc <;> assumption) | (apply impl_BroadcastDims_cc <;> assumption) | (first | (apply is_true; and_intros <;> (first | rfl | assumption | (apply spec_BroadcastDims_cc <;> assumption) | (apply impl_BroadcastDims_cc <;> assumption))) | (apply spec_BroadcastDims_cc <;> assumption) | (apply impl_BroadcastDims_cc <;> assumption)))) | (apply spec_BroadcastDims_cc <;> assumption) | (apply impl_BroadcastDims_cc <;> assumption)))) | (apply spec_BroadcastDims_cc <;> assumption) | (apply impl_BroadcastDims_cc <;> assumption)))) | (apply spec_BroadcastDims_cc <;> assumption) | (apply impl_BroadcastDims_cc <;> assumption)) | simp [*]) ?_
  refine Tr.n (by first | (simp [laws_heldInt64S_vm, laws_markInt64S_v2, laws_eqInt64S_v]; done) | (simp only [laws_heldInt64S_vm, laws_markInt64S_v2, laws_eqInt64S_v, decide_eq_true_eq]; omega) | (simp [laws_heldInt64S_vm, laws_markInt64S_v2, laws_eqInt64S_v]; omega) | (simp (disch := omega) only [laws_heldInt64S_vm, laws_markInt64S_v2, laws_eqInt64S_v, neg_bif, decide_eq_true_eq]; omega) | (simp (disch := omega) [laws_heldInt64S_vm, laws_markInt64S_v2, laws_eqInt64S_v, neg_bif]; done)) ?_
  refine Tr.n (by first | (simp [laws_heldInt64S_vm, laws_markInt64S_v2, laws_eqInt64S_v]; done) | (simp only [laws_heldInt64S_vm, laws_markInt64S_v2, laws_eqInt64S_v, decide_eq_true_eq]; omega) | (simp [laws_heldInt64S_vm, laws_markInt64S_v2, laws_eqInt64S_v]; omega) | (simp (disch := omega) only [laws_heldInt64S_vm, laws_markInt64S_v2, laws_eqInt64S_v, neg_bif, decide_eq_true_eq]; omega) | (simp (disch := omega) [laws_heldInt64S_vm, laws_markInt64S_v2, laws_eqInt64S_v, neg_bif]; done)) ?_
  refine Tr.t (by apply laws_heldInt64S_cc <;> (first | assumption | omega | (simp only [laws_heldInt64S_vm, laws_markInt64S_v2]; omega) | (simp (disch := omega) only [laws_heldInt64S_vm, laws_markInt64S_v2, neg_bif]; omega))) ?_
  refine Tr.n (by first | (simp [laws_heldInt64S_vm, laws_markInt64S_v2, laws_eqInt64S_v]; done) | (simp only [laws_heldInt64S_vm, laws_markInt64S_v2, laws_eqInt64S_v, decide_eq_true_eq]; omega) | (simp [laws_heldInt64S_vm, laws_markInt64S_v2, laws_eqInt64S_v]; omega) | (simp (disch := omega) only [laws_heldInt64S_vm, laws_markInt64S_v2, laws_eqInt64S_v, neg_bif, decide_eq_true_eq]; omega) | (simp (disch := omega) [laws_heldInt64S_vm, laws_markInt64S_v2, laws_eqInt64S_v, neg_bif]; done)) ?_
  refine Tr.n (by first | (simp [laws_heldInt64S_vm, laws_markInt64S_v2, laws_eqInt64S_v]; done) | (simp only [laws_heldInt64S_vm, laws_markInt64S_v2, laws_eqInt64S_v, decide_eq_true_eq]; omega) | (simp [laws_heldInt64S_vm, laws_markInt64S_v2, laws_eqInt64S_v]; omega) | (simp (disch := omega) only [laws_heldInt64S_vm, laws_markInt64S_v2, laws_eqInt64S_v, neg_bif, decide_eq_true_eq]; omega) | (simp (disch := omega) [laws_heldInt64S_vm, laws_markInt64S_v2, laws_eqInt64S_v, neg_bif]; done)) ?_
  rfl
theorem laws_FnExactBroadcastDims_pure : ∀ xs, ArgsTyped tab [22, 22] xs → runF tab FT D19 live 12 noLoops xs = yes := by
  intro xs h
  cases h with | cons l0 g0 h =>
  obtain ⟨z0_0, rfl⟩ := len_1 l0
  have q0 := g0 0 (by decide)
  have q0 : Typed tab (.slice 2) z0_0 := q0
  obtain ⟨y0, rfl⟩ := typed_slice q0
  cases h with | cons l1 g1 h =>
  obtain ⟨z1_0, rfl⟩ := len_1 l1
  have q1 := g1 0 (by decide)
  have q1 : Typed tab (.slice 2) z1_0 := q1
  obtain ⟨y1, rfl⟩ := typed_slice q1
  cases h
  refine (laws_FnExactBroadcastDims_e y0 y1).trans ?_
  rw [Tr.run_eq, laws_FnExactBroadcastDims_p y0 y1 q0 q1]
  rfl
end Go.Proofs.Ytplgngimjncpnaa.V
