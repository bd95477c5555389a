/- What the functions of FnExactChunksLost answer. No condition. -/
import Derived.Test.YtmdbccmbmcgclaaVFacts
namespace Go.Proofs.Ytmdbccmbmcgclaa.V
open Go
set_option maxRecDepth 100000
set_option linter.unusedVariables false
set_option linter.unusedSectionVars false
set_option linter.unusedSimpArgs false
set_option maxHeartbeats 2000000
abbrev LL := List (List TC)
abbrev BS := List UInt8
def inR (lo hi : Int) (x : List TC) : Bool := bif decide ((nth x 0).int ≥ lo) then decide ((nth x 0).int ≤ hi) else false
def mulR (n : Int) (x : List TC) : Int := IntKind.wrap .i64 (n * (nth x 0).int)
def prodL (A : LL) : Int := A.foldl mulR 1
def gridC (d c : List TC) : List TC := [.i (IntKind.wrap .i64 (Int.tdiv (IntKind.wrap .i64 ((IntKind.wrap .i64 ((nth d 0).int + (nth c 0).int)) - (1 : Int))) ((nth c 0).int)))]
def gridL (D C : LL) : LL := List.zipWith gridC D C
theorem lenEq {D C : LL} (h : (!((C.length : Int) == (D.length : Int))) = false) : D.length = C.length := by
  have h2 : ((C.length : Int) == (D.length : Int)) = true := by simpa using h
  have h3 := eq_of_beq h2
  omega
theorem nnF {b : Bool} (h : (!(!(!b))) = false) : b = true := by simpa using h
theorem gridL_at {D C : LL} {i : Nat} (hl : D.length = C.length) (hi : i < (gridL D C).length) : (gridL D C)[i] = gridC (D.getD i []) (C.getD i []) := by
  have h1 : i < D.length := by simp [gridL] at hi; omega
  have h2 : i < C.length := by omega
  rw [getD_at h1, getD_at h2]
  exact List.getElem_zipWith
theorem inR_1 {C : LL} (h : C.all (inR 1 40) = true) {i : Nat} (hi : i < C.length) : (nth (C.getD i []) 0).int ≠ 0 := by
  have h1 := (List.all_eq_true.1 h) (C.getD i []) (mem_getD hi)
  unfold inR at h1
  intro h0
  rw [h0] at h1
  cases h1
theorem gridL_len {D C : LL} (h : D.length ≤ 140737488351232) : (gridL D C).length ≤ 140737488351232 := by simp only [gridL, List.length_zipWith]; omega
theorem gridL_ty {e : TypeId} {D C : LL} (he : (tab e).cts = [.int .i64]) (h : Typed tab (.slice e) (.l D)) : Typed tab (.slice e) (.l (gridL D C)) := by
  have hm : ∀ x, x ∈ gridL D C → ∃ d c, x = gridC d c := by
    intro x hx
    obtain ⟨i, hi, rfl⟩ := List.getElem_of_mem hx
    exact ⟨_, _, List.getElem_zipWith⟩
  cases h with
  | slice _ _ h1 h2 h3 h4 =>
    have hl : (gridL D C).length ≤ D.length := by simp only [gridL, List.length_zipWith]; omega
    refine .slice _ _ (Nat.le_trans (Nat.mul_le_mul_right _ hl) h1) (Nat.le_trans hl h2) (fun x hx => ?_) (fun x hx k hk => ?_)
    · obtain ⟨d, c, rfl⟩ := hm x hx
      rw [he]; rfl
    · obtain ⟨d, c, rfl⟩ := hm x hx
      rw [he] at hk ⊢
      match k, hk with
      | 0, _ => exact .int _ _ (wrap_wf _)
def dimsOk (D : LL) : Bool := decide ((D.length : Int) ≤ 3) && D.all (inR 0 40) && decide (prodL D ≤ 600)
def chunkOk (D C : LL) : Bool := dimsOk D && ((C.length : Int) == (D.length : Int)) && C.all (inR 1 40) && decide (prodL C ≤ 64) && (gridL D C).all (inR 0 16) && decide (prodL (gridL D C) ≤ 256)
theorem dimsOk_all {D : LL} (h : dimsOk D = true) : D.all (inR 0 40) = true := by
  unfold dimsOk at h
  simp only [Bool.and_eq_true] at h
  exact h.1.2
def le16 (x : List TC) : Bool := !(decide ((nth x 0).int > 16))
theorem inR_iff {lo hi : Int} {x : List TC} : inR lo hi x = true ↔ lo ≤ (nth x 0).int ∧ (nth x 0).int ≤ hi := by
  unfold inR
  by_cases h : lo ≤ (nth x 0).int <;> simp [h]
theorem gridC_val {d c : List TC} (hd : inR 0 40 d = true) (hc : inR 1 40 c = true) : (nth (gridC d c) 0).int = Int.tdiv ((nth d 0).int + (nth c 0).int - 1) ((nth c 0).int) ∧ 0 ≤ (nth (gridC d c) 0).int := by
  rw [inR_iff] at hd hc
  have h0 : 0 ≤ Int.tdiv ((nth d 0).int + (nth c 0).int - 1) ((nth c 0).int) := Int.tdiv_nonneg (by omega) (by omega)
  have h1 : Int.tdiv ((nth d 0).int + (nth c 0).int - 1) ((nth c 0).int) ≤ (nth d 0).int + (nth c 0).int - 1 := Int.tdiv_le_self _ (by omega)
  have e : (nth (gridC d c) 0).int = Int.tdiv ((nth d 0).int + (nth c 0).int - 1) ((nth c 0).int) := by
    show IntKind.wrap .i64 (Int.tdiv (IntKind.wrap .i64 ((IntKind.wrap .i64 ((nth d 0).int + (nth c 0).int)) - (1 : Int))) ((nth c 0).int)) = _
    rw [wrap64 (i := (nth d 0).int + (nth c 0).int) (by omega) (by omega), wrap64 (i := (nth d 0).int + (nth c 0).int - 1) (by omega) (by omega), wrap64 (by omega) (by omega)]
  rw [e]
  exact ⟨rfl, h0⟩
theorem grid_all {D C : LL} (hd : D.all (inR 0 40) = true) (hc : C.all (inR 1 40) = true) : (gridL D C).all le16 = (gridL D C).all (inR 0 16) := by
  rw [Bool.eq_iff_iff, List.all_eq_true, List.all_eq_true]
  refine forall_congr' fun x => forall_congr' fun hx => ?_
  obtain ⟨i, hi, rfl⟩ := List.getElem_of_mem hx
  have h1 : i < D.length := by simp [gridL] at hi; omega
  have h2 : i < C.length := by simp [gridL] at hi; omega
  have hg : (gridL D C)[i] = gridC D[i] C[i] := List.getElem_zipWith
  rw [hg]
  have h0 := (gridC_val (List.all_eq_true.1 hd _ (List.getElem_mem h1)) (List.all_eq_true.1 hc _ (List.getElem_mem h2))).2
  rw [inR_iff]
  unfold le16
  simp
  omega
abbrev dimD (A : LL) : Nat → Int := fun j => (nth (A.getD j []) 0).int
noncomputable def crowR (A : LL) (x : Int) (k : Nat) : LL := (List.range A.length).map fun j => [TC.i (if A.length - k ≤ j then crdD A.length (dimD A) x j else 0)]
theorem crowR_len {A : LL} {x : Int} {k : Nat} : (crowR A x k).length = A.length := by simp [crowR]
theorem crowR_at {A : LL} {x : Int} {k j : Nat} (h : j < A.length) : (crowR A x k)[j]? = some [TC.i (if A.length - k ≤ j then crdD A.length (dimD A) x j else 0)] := by
  unfold crowR
  rw [List.getElem?_map, List.getElem?_range h]; rfl
theorem crowR_set {A : LL} {x : Int} {k : Nat} (h : k < A.length) : (crowR A x k).set (A.length - 1 - k) [TC.i (crdD A.length (dimD A) x (A.length - 1 - k))] = crowR A x (k + 1) := by
  refine List.ext_getElem (by simp [crowR_len]) fun j h1 h2 => ?_
  have hj : j < A.length := by rw [crowR_len] at h2; exact h2
  have a1 := crowR_at (x := x) (k := k) hj
  have a2 := crowR_at (x := x) (k := k + 1) hj
  rw [List.getElem?_eq_getElem (by rw [crowR_len]; exact hj)] at a1 a2
  rw [Option.some.inj a2, List.getElem_set]
  by_cases hc : A.length - 1 - k = j
  · rw [if_pos hc, if_pos (by omega), hc]
  · rw [if_neg hc, Option.some.inj a1]
    by_cases h3 : A.length - k ≤ j
    · rw [if_pos h3, if_pos (by omega)]
    · rw [if_neg h3, if_neg (by omega)]
theorem crowR_zero {A : LL} {x : Int} : List.replicate A.length [TC.i (0 : Int)] = crowR A x 0 := by
  refine List.ext_getElem (by simp [crowR_len]) fun j h1 h2 => ?_
  have hj : j < A.length := by rw [crowR_len] at h2; exact h2
  have a1 := crowR_at (x := x) (k := 0) hj
  rw [List.getElem?_eq_getElem (by rw [crowR_len]; exact hj)] at a1
  rw [Option.some.inj a1, List.getElem_replicate, if_neg (by omega)]
theorem crowR_all {A : LL} {x : Int} : crowR A x A.length = coordsV A x := by
  unfold crowR coordsV
  refine List.map_congr_left fun j hj => ?_
  rw [if_pos (by omega)]
theorem chunkOk_parts {D C : LL} (h : chunkOk D C = true) : D.length = C.length ∧ C.all (inR 1 40) = true ∧ dimsOk D = true := by
  unfold chunkOk at h
  simp only [Bool.and_eq_true, beq_iff_eq] at h
  obtain ⟨⟨⟨⟨⟨h1, h2⟩, h3⟩, _⟩, _⟩, _⟩ := h
  exact ⟨by omega, h3, h1⟩
def chunkCount (D C : LL) : Int := bif chunkOk D C then prodL (gridL D C) else -1
def insB (D T : LL) (i : Int) : Bool := bif decide ((nth (row T i) 0).int ≥ 0) then decide ((nth (row T i) 0).int ≤ IntKind.wrap .i64 ((nth (row D i) 0).int - (1 : Int))) else false
def insideOk (D T : LL) : Bool := ((T.length : Int) == (D.length : Int)) && allI (fun i : Nat => insB D T (i : Int)) T.length
def keyL (A : LL) : Int := foldI (fun i n => IntKind.wrap .i64 ((IntKind.wrap .i64 (n * 16)) + (nth (row A (i : Int)) 0).int)) A.length 0
def indexN (D T : LL) (k : Nat) : Int := foldI (fun i n => IntKind.wrap .i64 ((IntKind.wrap .i64 (n * (nth (row D (i : Int)) 0).int)) + (nth (row T (i : Int)) 0).int)) k 0
def divStep (C T : LL) (i : Nat) (a : LL × LL) : LL × LL := (a.1 ++ [[TC.i (IntKind.wrap .i64 (Int.tdiv ((nth (row T (i : Int)) 0).int) ((nth (row C (i : Int)) 0).int)))]], a.2 ++ [[TC.i (Int.tmod ((nth (row T (i : Int)) 0).int) ((nth (row C (i : Int)) 0).int))]])
def divs (C T : LL) (n : Nat) : LL × LL := foldI (divStep C T) n ([], [])
theorem divs_len {C T : LL} : ∀ {n : Nat}, (divs C T n).1.length = n ∧ (divs C T n).2.length = n
  | 0 => ⟨rfl, rfl⟩
  | n + 1 => by
    obtain ⟨h1, h2⟩ := divs_len (C := C) (T := T) (n := n)
    unfold divs at h1 h2 ⊢
    rw [foldI_succ]
    unfold divStep at h1 h2 ⊢
    simp only [List.length_append, List.length_singleton]
    omega
def gridV (D C : LL) : LL := bif chunkOk D C then gridL D C else []
theorem nil_ty {e : TypeId} : Typed tab (.slice e) (.l []) := .slice _ _ (by simp) (by simp) (fun _ h => by cases h) (fun _ h => by cases h)
theorem gridV_ty {e : TypeId} {D C : LL} (he : (tab e).cts = [.int .i64]) (h : Typed tab (.slice e) (.l D)) : Typed tab (.slice e) (.l (gridV D C)) := by
  unfold gridV
  cases chunkOk D C with
  | true => exact gridL_ty he h
  | false => exact nil_ty
noncomputable def keysL (G : LL) (n : Nat) : LL := (List.range n).map fun i : Nat => [TC.i (keyL (coordsV G (i : Int)))]
theorem keysL_len {G : LL} {n : Nat} : (keysL G n).length = n := by simp [keysL]
theorem keysL_succ {G : LL} {n : Nat} : keysL G n ++ [[TC.i (keyL (coordsV G (n : Int)))]] = keysL G (n + 1) := by simp [keysL, List.range_succ]
theorem mul_zero_fold : ∀ (A : LL), A.foldl mulR 0 = 0
  | [] => rfl
  | x :: A => by
    show A.foldl mulR (mulR 0 x) = 0
    have : mulR 0 x = 0 := by unfold mulR; rw [Int.zero_mul]; rfl
    rw [this]; exact mul_zero_fold A
theorem prod_pos {A : LL} (h : 0 < prodL A) : ∀ j : Nat, j < A.length → (nth (A.getD j []) 0).int ≠ 0 := by
  have key : ∀ (A : LL) (a : Int), A.foldl mulR a ≠ 0 → ∀ j : Nat, j < A.length → (nth (A.getD j []) 0).int ≠ 0 := by
    intro A
    induction A with
    | nil => intro a _ j hj; simp at hj
    | cons x A ih =>
      intro a ha j hj
      have ha : A.foldl mulR (mulR a x) ≠ 0 := ha
      cases j with
      | zero =>
        intro h0
        have h0 : (nth x 0).int = 0 := h0
        apply ha
        have : mulR a x = 0 := by unfold mulR; rw [h0, Int.mul_zero]; rfl
        rw [this]; exact mul_zero_fold A
      | succ j => exact ih _ ha j (by simpa using hj)
  exact key A 1 (by unfold prodL at h; omega)
theorem keys_num {D C : LL} (h : chunkOk D C = true) : prodL (gridL D C) ≤ 100000 := by
  unfold chunkOk at h
  simp only [Bool.and_eq_true, decide_eq_true_eq] at h
  omega
theorem keyL_wf (A : LL) : (Lit.int .i64 (keyL A)).wf = true := by
  unfold keyL
  cases A.length with
  | zero => rfl
  | succ n => rw [foldI_succ]; exact wrap_wf _
theorem keysL_ty {e : TypeId} {G : LL} {n : Nat} (he : (tab e).cts = [.int .i64]) (h8 : (tab e).bytes = 8) (hn : n ≤ 100000) : Typed tab (.slice e) (.l (keysL G n)) := by
  refine .slice _ _ (by rw [keysL_len, h8]; simp only [reachBytes]; omega) (by rw [keysL_len]; simp only [maxLen]; omega) (fun r hr => ?_) (fun r hr k hk => ?_)
  · obtain ⟨i, _, rfl⟩ := List.mem_map.1 hr
    rw [he]; rfl
  · obtain ⟨i, _, rfl⟩ := List.mem_map.1 hr
    rw [he] at hk ⊢
    match k, hk with
    | 0, _ => exact .int _ _ (keyL_wf _)
noncomputable def keysV (D C : LL) : LL := bif chunkOk D C then keysL (gridL D C) (prodL (gridL D C)).toNat else []
theorem keysV_ty {e : TypeId} {D C : LL} (he : (tab e).cts = [.int .i64]) (h8 : (tab e).bytes = 8) : Typed tab (.slice e) (.l (keysV D C)) := by
  unfold keysV
  cases hk : chunkOk D C with
  | true => exact keysL_ty he h8 (by have := keys_num hk; omega)
  | false => exact nil_ty
noncomputable def keysG (D C : LL) : LL := keysL (gridL D C) (prodL (gridL D C)).toNat
def hasK (A : LL) (n : Int) : Bool := !(A.all fun x => !((nth x 0).int == n))
noncomputable def lostV (D F C : LL) : LL := bif chunkOk D C && chunkOk F C then (keysG D C).filter (fun x => !(hasK (keysG F C) (nth x 0).int)) else []
theorem keysG_ty {e : TypeId} {D C : LL} (he : (tab e).cts = [.int .i64]) (h8 : (tab e).bytes = 8) (h : chunkOk D C = true) : Typed tab (.slice e) (.l (keysG D C)) := keysL_ty he h8 (by have := keys_num h; omega)
theorem lostV_ty {e : TypeId} {D F C : LL} (he : (tab e).cts = [.int .i64]) (h8 : (tab e).bytes = 8) : Typed tab (.slice e) (.l (lostV D F C)) := by
  unfold lostV
  cases hk : chunkOk D C && chunkOk F C with
  | true =>
    rw [Bool.and_eq_true] at hk
    exact typed_sub (keysG_ty he h8 hk.1) (fun _ hx => (List.mem_filter.1 hx).1) (List.length_filter_le _ _)
  | false => exact nil_ty
def delL (P : List TC → Bool) : LL → LL → Nat → LL × Nat
  | [], S, i => (S, i)
  | x :: xs, S, i => bif P x then delL P xs (S.set i x) (i + 1) else delL P xs S i
theorem delL_t {P : List TC → Bool} {x : List TC} {xs S : LL} {i : Nat} (h : P x = true) : delL P (x :: xs) S i = delL P xs (S.set i x) (i + 1) := by
  rw [delL, h]; rfl
theorem delL_f {P : List TC → Bool} {x : List TC} {xs S : LL} {i : Nat} (h : P x = false) : delL P (x :: xs) S i = delL P xs S i := by
  rw [delL, h]; rfl
theorem delL_ok (P : List TC → Bool) : ∀ (xs S : LL) (i : Nat), i + xs.length ≤ S.length → (delL P xs S i).1.take (delL P xs S i).2 = S.take i ++ xs.filter P ∧ (delL P xs S i).1.length = S.length ∧ (delL P xs S i).2 ≤ S.length
  | [], S, i, h => by
    refine ⟨by simp [delL], rfl, ?_⟩
    simp only [List.length_nil, Nat.add_zero] at h
    exact h
  | x :: xs, S, i, h => by
    simp only [List.length_cons] at h
    unfold delL
    cases hP : P x with
    | true =>
      obtain ⟨h1, h2, h3⟩ := delL_ok P xs (S.set i x) (i + 1) (by simp; omega)
      simp only [cond_true]
      refine ⟨?_, by rw [h2]; simp, by simpa using h3⟩
      rw [h1, List.filter_cons_of_pos hP, List.take_succ_eq_append_getElem (by simp; omega), List.getElem_set_self, List.take_set_of_le (Nat.le_refl i)]
      simp
    | false =>
      obtain ⟨h1, h2, h3⟩ := delL_ok P xs S i (by omega)
      simp only [cond_false]
      refine ⟨?_, h2, h3⟩
      rw [h1, List.filter_cons_of_neg (by simp [hP])]
theorem filter_split {P : List TC → Bool} {A : LL} {i : Nat} (hi : i < A.length) (h1 : ∀ x, x ∈ A.take i → P x = true) (h2 : P (A.getD i []) = false) : A.filter P = A.take i ++ (A.drop (i + 1)).filter P := by
  have e : A = A.take i ++ A.getD i [] :: A.drop (i + 1) := by
    rw [List.getD_eq_getElem?_getD, List.getElem?_eq_getElem hi, Option.getD_some, ← List.drop_eq_getElem_cons hi, List.take_append_drop]
  have e2 : (A.take i).filter P = A.take i := List.filter_eq_self.2 h1
  conv => lhs; rw [e]
  rw [List.filter_append, e2, List.filter_cons_of_neg (by rw [h2]; exact Bool.false_ne_true)]
theorem find_split {P : List TC → Bool} {A : LL} (h : A.all P = false) : A.findIdx (fun x => !P x) < A.length ∧ (∀ x, x ∈ A.take (A.findIdx fun x => !P x) → P x = true) ∧ P (A.getD (A.findIdx fun x => !P x) []) = false := by
  have hlt : A.findIdx (fun x => !P x) < A.length := by
    rw [List.findIdx_lt_length]
    obtain ⟨x, hx, hp⟩ := List.all_eq_false.1 h
    exact ⟨x, hx, by simpa using hp⟩
  refine ⟨hlt, fun x hx => ?_, ?_⟩
  · obtain ⟨j, hj, rfl⟩ := List.getElem_of_mem hx
    rw [List.length_take] at hj
    have := List.not_of_lt_findIdx (p := fun x => !P x) (xs := A) (i := j) (by omega)
    rw [List.getElem_take]
    simpa using this
  · have := List.findIdx_getElem (p := fun x => !P x) (xs := A) (w := hlt)
    rw [getD_at hlt]
    simpa using this
theorem row_drop {A xs : LL} {x : List TC} {j : Nat} (h : A.drop j = x :: xs) : j < A.length ∧ row A (j : Int) = x ∧ A.drop (j + 1) = xs := by
  have hj : j < A.length := by
    rcases Nat.lt_or_ge j A.length with h' | h'
    · exact h'
    · rw [List.drop_eq_nil_of_le h'] at h; cases h
  rw [List.drop_eq_getElem_cons hj] at h
  injection h with h1 h2
  exact ⟨hj, by rw [row_nat, getD_at hj]; exact h1, h2⟩
def qj_g (x : List TC) : List TC := [TC.i ((nth x 0).int)]
def qj_z : List TC := [TC.i (0 : Int)]
abbrev qj_3_σ := LL × LL × Int
abbrev qj_3_ω := (LL)
noncomputable def qj_3_step (A X : LL) (i : Int) : Tr (qj_3_σ ⊕ qj_3_ω) := (.ite ((decide (i < (A.length : Int))) = true) (.ite ((0 : Int) ≤ i ∧ i < (A.length : Int)) (.ite ((0 : Int) ≤ i ∧ i < (X.length : Int)) (.ok (.inl (A, (X.set (i).toNat (splice (row X i) 0 [TC.i ((nth (row A i) 0).int)])), (IntKind.wrap .i64 (i + (1 : Int))))))
    .no)
   .no)
  (.ok (.inr X)))
noncomputable def qj_3_st : qj_3_σ → Tr (qj_3_σ ⊕ qj_3_ω) := fun x => (qj_3_step (x.1) (x.2.1) (x.2.2))
noncomputable def qj_o3_1 (A X : LL) (i : Int) : Bool := is (Typed tab (.slice 2) (.l A) ∧ X = List.replicate A.length qj_z ∧ i = 0)
noncomputable def qj_u3_1 (A X : LL) (i : Int) : LL := A.map qj_g
noncomputable def qj_3_fin (A X : LL) (i : Int) : Told qj_3_ω := (.leaf (qj_o3_1 A X i) (qj_u3_1 A X i))
def qj_3_sl (x : qj_3_σ) : List Slot := [⟨.val false [⟨.slice 2, .sh, TC.l (x.1)⟩], ⟨0, 0⟩⟩, ⟨.val false [⟨.slice 2, .own true, TC.l (x.2.1)⟩], ⟨0, 0⟩⟩, ⟨.val false [⟨.int .i64, .sh, TC.i (x.2.2)⟩], ⟨0, 0⟩⟩]
def qj_3_out : qj_3_ω → Ex × List Slot := (fun x => (.exit 0, [Slot.none, ⟨.val false [⟨.slice 2, .own true, TC.l x⟩], ⟨0, 0⟩⟩]))
noncomputable def qj_lo3 : List Slot → Option (Told (Ex × List Slot)) := fun s => match s with
  | [⟨.val false [⟨.slice 2, .sh, TC.l A⟩], ⟨0, 0⟩⟩, ⟨.val false [⟨.slice 2, .own true, TC.l X⟩], ⟨0, 0⟩⟩, ⟨.val false [⟨.int .i64, .sh, TC.i i⟩], ⟨0, 0⟩⟩] => some (((qj_3_fin A X i)).map qj_3_out)
  | _ => .none
noncomputable def qj_lo : LoopTeller := fun r s => bif Nat.beq r 3 then qj_lo3 s else .none
theorem qj_3_r (A X : LL) (i : Int) (fuel : Nat) : rounds (rnd tab FT D0 live 13 qj_lo 0 3) leave (fuel + 1) (qj_3_sl (A, X, i)) = ((qj_3_step A X i)).run (goOn (fun s => rounds (rnd tab FT D0 live 13 qj_lo 0 3) leave fuel (qj_3_sl s)) fun w => some (qj_3_out w)) := by kernel_rfl
theorem qj_3_h (A X : LL) (i : Int) (ow : qj_3_ω) : ((qj_3_fin A X i)).val = some ow → ∃ fuel, loopN qj_3_st fuel (A, X, i) = some ow := by
  intro h
  simp only [qj_3_fin, Told.val] at h
  split at h
  · rename_i ho
    obtain ⟨ht, rfl, rfl⟩ := is_iff.1 ho
    cases h
    have hlen : A.length ≤ 140737488351232 := by have := typed_room ht; simp only [show (tab 2).bytes = 8 from rfl] at this; omega
    have key := loopN_copy (step := qj_3_st) A (List.replicate A.length qj_z) qj_g (fun Y i => (A, Y, (i : Int))) (A.map qj_g) (by simp) (fun x hx i _ => by rw [(List.mem_replicate.1 hx).2]; exact Nat.le_refl 1) (fun Y i hi hl => ?_) ?_ A.length 0 (by omega)
    · rw [copied_zero] at key
      exact ⟨_, key⟩
    · skip
      show (qj_3_step A Y (i : Int)).val = _
      unfold qj_3_step
      refine Tr.t (by simp; omega) ?_
      refine Tr.t (by constructor <;> omega) ?_
      refine Tr.t (by constructor <;> omega) ?_
      repeat (refine Tr.t (by first | (apply is_true; and_intros <;> (first | rfl | assumption | (first | (apply is_true; and_intros <;> (first | rfl | assumption | (first | (apply is_true; and_intros <;> (first | rfl | assumption | (first | (apply is_true; and_intros <;> (first | rfl | assumption)))))))))))) ?_)
      rw [Tr.val_ok, wrap64 (i := (i : Int) + 1) (by omega) (by omega)]; rfl
    · show (qj_3_step A (A.map qj_g) (A.length : Int)).val = _
      refine Tr.n (by simp) ?_
      rfl
  · cases h
theorem qj_is3 : LoopIs tab FT D0 live 13 qj_lo 0 3 := by
  refine loop_told (sl := qj_3_sl) (step := qj_3_st) (out := qj_3_out) (lor := qj_lo3) (fin := fun x => (qj_3_fin (x.1) (x.2.1) (x.2.2))) (fun _ => rfl) ?_ (fun x n => qj_3_r x.1 x.2.1 x.2.2 n) (fun x ow => qj_3_h x.1 x.2.1 x.2.2 ow)
  intro s t h
  unfold qj_lo3 at h
  split at h
  · cases h; exact ⟨(_, _, _), rfl, rfl⟩
  · cases h
noncomputable def qj_t (A : LL) : Tr (LL) := (.ite (0 ≤ (A.length : Int) ∧ (A.length : Int) ≤ (A.length : Int) ∧ (A.length : Int) * 8 ≤ 140737488355328 ∧ (A.length : Int) ≤ 140737488355328) (.ite ((qj_o3_1 A (List.replicate ((A.length : Int)).toNat [TC.i (0 : Int)]) (0 : Int)) = true) (.ok (qj_u3_1 A (List.replicate ((A.length : Int)).toNat [TC.i (0 : Int)]) (0 : Int)))
   .no)
  .no)
def qj_mk (p : LL) : Res := [(false, [⟨.slice 2, .own true, TC.l p⟩])]
noncomputable def qj_c (A : LL) : Bool := is (Typed tab (.slice 2) (.l A))
noncomputable def qj_v (A : LL) : LL := A.map qj_g
theorem qj_l (A : LL) : (qj_c A) = true → (qj_t A).val = some (qj_v A) := by
  intro h
  have ht := is_iff.1 h
  have hb := typed_room ht
  simp only [show (tab 2).bytes = 8 from rfl] at hb
  unfold qj_t
  refine Tr.t (by omega) ?_
  refine Tr.t (is_true ⟨ht, by rfl, rfl⟩) ?_
  rfl
noncomputable def qj_S : List Arg → Option (Bool × Res) := fun xs => match xs with
  | [(false, [(.slice 2, TC.l A)])] => some ((qj_c A), qj_mk (qj_v A))
  | _ => .none
theorem qj_e (A : LL) : runF tab FT D0 live 13 qj_lo [(false, [(.slice 2, TC.l A)])] = (qj_t A).run fun p => some (qj_mk p) := by kernel_rfl
theorem qj_s : ∀ xs r, qj_S xs = some (true, r) → runF tab FT D0 live 13 qj_lo xs = some r := by
  intro xs r h
  unfold qj_S at h
  split at h
  · simp only [Option.some.injEq, Prod.mk.injEq] at h
    obtain ⟨h1, rfl⟩ := h
    exact fun_told (qj_e _) (qj_l _) h1
  · cases h
noncomputable def D1 : Dt := also D0 13 qj_S
theorem d1 : DOk Go.Proofs.Try.prog tab D1 := d0.also mixed_ok tab_ok names_ok (fnLoops_one (by kernel_rfl) qj_is3) qj_s
theorem qj_ty {A : LL} (h : Typed tab (.slice 2) (.l A)) : Typed tab (.slice 2) (.l (A.map qj_g)) := by
  refine typed_map h (by decide) fun x _ _ hx => ⟨rfl, fun k hk => ?_⟩
  match k, hk with
    | 0, _ => exact typed_i (hx 0 (by decide))
noncomputable def qbg_t (a0 a1 a2 : Int) : Tr (Bool) := (.ite ((decide (a0 ≥ a1)) = true) (.ok (decide (a0 ≤ a2)))
  (.ok false))
def qbg_mk (p : Bool) : Res := [(false, [⟨.bool, .sh, TC.b p⟩])]
noncomputable def qbg_c (a0 a1 a2 : Int) : Bool := true
noncomputable def qbg_v (a0 a1 a2 : Int) : Bool := (bif (decide (a0 ≥ a1)) then (decide (a0 ≤ a2)) else false)
theorem qbg_l (a0 a1 a2 : Int) : (qbg_c a0 a1 a2) = true → (qbg_t a0 a1 a2).val = some (qbg_v a0 a1 a2) := by
  intro h
  skip
  unfold qbg_t qbg_v
  exact (Tr.s rfl rfl)
noncomputable def qbg_S : List Arg → Option (Bool × Res) := fun xs => match xs with
  | [(false, [(.int .i64, TC.i a0)]), (false, [(.int .i64, TC.i a1)]), (false, [(.int .i64, TC.i a2)])] => some (true, qbg_mk (qbg_v a0 a1 a2))
  | _ => .none
theorem qbg_e (a0 a1 a2 : Int) : runF tab FT D1 live 87 noLoops [(false, [(.int .i64, TC.i a0)]), (false, [(.int .i64, TC.i a1)]), (false, [(.int .i64, TC.i a2)])] = (qbg_t a0 a1 a2).run fun p => some (qbg_mk p) := by kernel_rfl
theorem qbg_s : ∀ xs r, qbg_S xs = some (true, r) → runF tab FT D1 live 87 noLoops xs = some r := by
  intro xs r h
  unfold qbg_S at h
  split at h
  · simp only [Option.some.injEq, Prod.mk.injEq] at h
    obtain ⟨h1, rfl⟩ := h
    exact fun_told (qbg_e _ _ _) (qbg_l _ _ _) rfl
  · cases h
noncomputable def D2 : Dt := also D1 87 qbg_S
theorem d2 : DOk Go.Proofs.Try.prog tab D2 := d1.also mixed_ok tab_ok names_ok noLoops_ok qbg_s
abbrev qr_5_σ := LL × Int × Int
abbrev qr_5_ω := (Int) ⊕ (Int)
noncomputable def qr_5_step (A : LL) (n i : Int) : Tr (qr_5_σ ⊕ qr_5_ω) := (.ite ((decide (i < (A.length : Int))) = true) (.ite ((0 : Int) ≤ i ∧ i < (A.length : Int)) (.ite ((!(qbg_v ((nth (row A i) 0).int) (0 : Int) (40 : Int))) = true) (.ok (.inr (.inl n)))
    (.ite ((0 : Int) ≤ i ∧ i < (A.length : Int)) (.ok (.inl (A, (IntKind.wrap .i64 (n * (nth (row A i) 0).int)), (IntKind.wrap .i64 (i + (1 : Int))))))
     .no))
   .no)
  (.ok (.inr (.inr n))))
noncomputable def qr_5_st : qr_5_σ → Tr (qr_5_σ ⊕ qr_5_ω) := fun x => (qr_5_step (x.1) (x.2.1) (x.2.2))
noncomputable def qr_k5_1 (A : LL) (n i : Int) : Bool := A.all (inR 0 40)
noncomputable def qr_o5_2 (A : LL) (n i : Int) : Bool := is (i = 0 ∧ n = 1 ∧ Typed tab (.slice 2) (.l A))
noncomputable def qr_u5_2 (A : LL) (n i : Int) : Int := (A.foldl mulR (1 : Int))
noncomputable def qr_o5_3 (A : LL) (n i : Int) : Bool := is (i = 0 ∧ n = 1 ∧ Typed tab (.slice 2) (.l A))
noncomputable def qr_u5_3 (A : LL) (n i : Int) : Int := ((A.take (A.findIdx fun x => !(inR 0 40) x)).foldl mulR (1 : Int))
noncomputable def qr_5_fin (A : LL) (n i : Int) : Told qr_5_ω := (.br (qr_k5_1 A n i) (.leaf (qr_o5_2 A n i) (.inr (qr_u5_2 A n i))) (.leaf (qr_o5_3 A n i) (.inl (qr_u5_3 A n i))))
def qr_5_sl (x : qr_5_σ) : List Slot := [⟨.val false [⟨.slice 2, .sh, TC.l (x.1)⟩], ⟨0, 0⟩⟩, ⟨.val false [⟨.int .i64, .sh, TC.i (x.2.1)⟩], ⟨0, 0⟩⟩, ⟨.val false [⟨.int .i64, .sh, TC.i (x.2.2)⟩], ⟨0, 0⟩⟩]
def qr_5_out : qr_5_ω → Ex × List Slot := (Sum.elim (fun x => (.ret, [⟨.val false [⟨.bool, .sh, TC.b false⟩], ⟨0, 0⟩⟩, ⟨.val false [⟨.int .i64, .sh, TC.i x⟩], ⟨0, 0⟩⟩])) (fun x => (.exit 0, [Slot.none, ⟨.val false [⟨.int .i64, .sh, TC.i x⟩], ⟨0, 0⟩⟩])))
noncomputable def qr_lo5 : List Slot → Option (Told (Ex × List Slot)) := fun s => match s with
  | [⟨.val false [⟨.slice 2, .sh, TC.l A⟩], ⟨0, 0⟩⟩, ⟨.val false [⟨.int .i64, .sh, TC.i n⟩], ⟨0, 0⟩⟩, ⟨.val false [⟨.int .i64, .sh, TC.i i⟩], ⟨0, 0⟩⟩] => some (((qr_5_fin A n i)).map qr_5_out)
  | _ => .none
noncomputable def qr_lo : LoopTeller := fun r s => bif Nat.beq r 5 then qr_lo5 s else .none
theorem qr_5_r (A : LL) (n i : Int) (fuel : Nat) : rounds (rnd tab FT D2 live 86 qr_lo 0 5) leave (fuel + 1) (qr_5_sl (A, n, i)) = ((qr_5_step A n i)).run (goOn (fun s => rounds (rnd tab FT D2 live 86 qr_lo 0 5) leave fuel (qr_5_sl s)) fun w => some (qr_5_out w)) := by kernel_rfl
theorem qr_5_h (A : LL) (n i : Int) (ow : qr_5_ω) : ((qr_5_fin A n i)).val = some ow → ∃ fuel, loopN qr_5_st fuel (A, n, i) = some ow := by
  intro h
  have key : Typed tab (.slice 2) (.l A) → loopN qr_5_st (A.length + 1) (A, (1 : Int), (0 : Int)) = some (if A.all (inR 0 40) = true then (.inr (A.foldl mulR (1 : Int))) else (.inl ((A.take (A.findIdx fun x => !(inR 0 40) x)).foldl mulR (1 : Int)))) := by
    intro ht
    have hlen : A.length ≤ 140737488351232 := by have := typed_room ht; simp only [show (tab 2).bytes = 8 from rfl] at this; omega
    have key := loopN_scan (step := qr_5_st) A [] (inR 0 40) mulR (fun i a => (A, a, (i : Int))) (fun a => (.inr a)) (fun i a => (.inl a)) (fun i a hi => ?_) (fun a => ?_) A.length 0 (1 : Int) (by omega)
    · first | (rw [Nat.zero_add] at key; exact key) | exact key
    · skip
      show (qr_5_step A a (i : Int)).val = _
      unfold qr_5_step
      refine Tr.t (by simp; omega) ?_
      skip
      refine Tr.t (by first | omega | (constructor <;> omega)) ?_
      refine Tr.b (P := (inR 0 40) (A.getD i [])) (fun hP => ?_) (fun _ => rfl)
      refine Tr.t (by first | omega | (constructor <;> omega)) ?_
      rw [Tr.val_ok, wrap64 (i := (i : Int) + 1) (by omega) (by omega)]; rfl
    · show (qr_5_step A a (A.length : Int)).val = _
      refine Tr.n (by simp) ?_
      rfl
  simp only [qr_5_fin, Told.val] at h
  cases hk : A.all (inR 0 40) with
  | true =>
    rw [if_pos (show qr_k5_1 A n i = true from hk)] at h
    split at h
    · rename_i ho
      obtain ⟨rfl, rfl, ht⟩ := is_iff.1 ho
      cases h
      refine ⟨_, (key ht).trans ?_⟩
      rw [hk]; rfl
    · cases h
  | false =>
    rw [if_neg (show ¬qr_k5_1 A n i = true from by rw [show qr_k5_1 A n i = (A.all (inR 0 40)) from rfl, hk]; simp)] at h
    split at h
    · rename_i ho
      obtain ⟨rfl, rfl, ht⟩ := is_iff.1 ho
      cases h
      refine ⟨_, (key ht).trans ?_⟩
      rw [hk]; rfl
    · cases h
theorem qr_is5 : LoopIs tab FT D2 live 86 qr_lo 0 5 := by
  refine loop_told (sl := qr_5_sl) (step := qr_5_st) (out := qr_5_out) (lor := qr_lo5) (fin := fun x => (qr_5_fin (x.1) (x.2.1) (x.2.2))) (fun _ => rfl) ?_ (fun x n => qr_5_r x.1 x.2.1 x.2.2 n) (fun x ow => qr_5_h x.1 x.2.1 x.2.2 ow)
  intro s t h
  unfold qr_lo5 at h
  split at h
  · cases h; exact ⟨(_, _, _), rfl, rfl⟩
  · cases h
noncomputable def qr_t (A : LL) : Tr (Bool) := (.ite ((decide ((A.length : Int) > (3 : Int))) = true) (.ok false)
  (.ite ((qr_k5_1 A (1 : Int) (0 : Int)) = true) (.ite ((qr_o5_2 A (1 : Int) (0 : Int)) = true) (.ok (decide ((qr_u5_2 A (1 : Int) (0 : Int)) ≤ (600 : Int))))
    .no)
   (.ite ((qr_o5_3 A (1 : Int) (0 : Int)) = true) (.ok false)
    .no)))
def qr_mk (p : Bool) : Res := [(false, [⟨.bool, .sh, TC.b p⟩])]
noncomputable def qr_c (A : LL) : Bool := is (((qr_o5_2 A (1 : Int) (0 : Int)) = true) ∧ ((qr_o5_3 A (1 : Int) (0 : Int)) = true))
noncomputable def qr_v (A : LL) : Bool := (bif (decide ((A.length : Int) > (3 : Int))) then false else (bif (qr_k5_1 A (1 : Int) (0 : Int)) then (decide ((qr_u5_2 A (1 : Int) (0 : Int)) ≤ (600 : Int))) else false))
theorem qr_l (A : LL) : (qr_c A) = true → (qr_t A).val = some (qr_v A) := by
  intro h
  obtain ⟨g0, g1⟩ := is_iff.1 h
  unfold qr_t qr_v
  exact (Tr.s rfl (Tr.s (Tr.t g0 rfl) (Tr.t g1 rfl)))
noncomputable def qr_S : List Arg → Option (Bool × Res) := fun xs => match xs with
  | [(false, [(.slice 2, TC.l A)])] => some ((qr_c A), qr_mk (qr_v A))
  | _ => .none
theorem qr_e (A : LL) : runF tab FT D2 live 86 qr_lo [(false, [(.slice 2, TC.l A)])] = (qr_t A).run fun p => some (qr_mk p) := by kernel_rfl
theorem qr_s : ∀ xs r, qr_S xs = some (true, r) → runF tab FT D2 live 86 qr_lo xs = some r := by
  intro xs r h
  unfold qr_S at h
  split at h
  · simp only [Option.some.injEq, Prod.mk.injEq] at h
    obtain ⟨h1, rfl⟩ := h
    exact fun_told (qr_e _) (qr_l _) h1
  · cases h
noncomputable def D3 : Dt := also D2 86 qr_S
theorem d3 : DOk Go.Proofs.Try.prog tab D3 := d2.also mixed_ok tab_ok names_ok (fnLoops_one (by kernel_rfl) qr_is5) qr_s
theorem qr_vv (A : LL) : qr_v A = dimsOk A := by
  show (bif decide ((A.length : Int) > 3) then false else bif A.all (inR 0 40) then decide (prodL A ≤ 600) else false) = _
  unfold dimsOk
  rw [show decide ((A.length : Int) > 3) = !decide ((A.length : Int) ≤ 3) from by rw [← decide_not]; simp]
  cases decide ((A.length : Int) ≤ 3) <;> cases A.all (inR 0 40) <;> rfl
abbrev qv_3_σ := LL × LL × LL × Int
abbrev qv_3_ω := (LL)
noncomputable def qv_3_step (D C X : LL) (i : Int) : Tr (qv_3_σ ⊕ qv_3_ω) := (.ite ((decide (i < (D.length : Int))) = true) (.ite ((0 : Int) ≤ i ∧ i < (D.length : Int)) (.ite ((0 : Int) ≤ i ∧ i < (C.length : Int)) (.ite ((0 : Int) ≤ i ∧ i < (C.length : Int)) (.ite ((nth (row C i) 0).int ≠ 0) (.ite (roomFor (tab 2) (X ++ [[TC.i (IntKind.wrap .i64 (Int.tdiv (IntKind.wrap .i64 ((IntKind.wrap .i64 ((nth (row D i) 0).int + (nth (row C i) 0).int)) - (1 : Int))) ((nth (row C i) 0).int)))]]).length) (.ok (.inl (D, C, (X ++ [[TC.i (IntKind.wrap .i64 (Int.tdiv (IntKind.wrap .i64 ((IntKind.wrap .i64 ((nth (row D i) 0).int + (nth (row C i) 0).int)) - (1 : Int))) ((nth (row C i) 0).int)))]]), (IntKind.wrap .i64 (i + (1 : Int))))))
       .no)
      .no)
     .no)
    .no)
   .no)
  (.ok (.inr X)))
noncomputable def qv_3_st : qv_3_σ → Tr (qv_3_σ ⊕ qv_3_ω) := fun x => (qv_3_step (x.1) (x.2.1) (x.2.2.1) (x.2.2.2))
noncomputable def qv_o3_1 (D C X : LL) (i : Int) : Bool := is (X = [] ∧ i = 0 ∧ Typed tab (.slice 2) (.l D) ∧ D.length = C.length ∧ C.all (inR 1 40) = true)
noncomputable def qv_u3_1 (D C X : LL) (i : Int) : LL := gridL D C
noncomputable def qv_3_fin (D C X : LL) (i : Int) : Told qv_3_ω := (.leaf (qv_o3_1 D C X i) (qv_u3_1 D C X i))
def qv_3_sl (x : qv_3_σ) : List Slot := [⟨.val false [⟨.slice 2, .sh, TC.l (x.1)⟩], ⟨0, 0⟩⟩, ⟨.val false [⟨.slice 2, .sh, TC.l (x.2.1)⟩], ⟨0, 0⟩⟩, ⟨.val false [⟨.slice 2, .own true, TC.l (x.2.2.1)⟩], ⟨0, 0⟩⟩, ⟨.val false [⟨.int .i64, .sh, TC.i (x.2.2.2)⟩], ⟨0, 0⟩⟩]
def qv_3_out : qv_3_ω → Ex × List Slot := (fun x => (.exit 0, [Slot.none, ⟨.val false [⟨.slice 2, .own true, TC.l x⟩], ⟨0, 0⟩⟩]))
noncomputable def qv_lo3 : List Slot → Option (Told (Ex × List Slot)) := fun s => match s with
  | [⟨.val false [⟨.slice 2, .sh, TC.l D⟩], ⟨0, 0⟩⟩, ⟨.val false [⟨.slice 2, .sh, TC.l C⟩], ⟨0, 0⟩⟩, ⟨.val false [⟨.slice 2, .own true, TC.l X⟩], ⟨0, 0⟩⟩, ⟨.val false [⟨.int .i64, .sh, TC.i i⟩], ⟨0, 0⟩⟩] => some (((qv_3_fin D C X i)).map qv_3_out)
  | _ => .none
noncomputable def qv_lo : LoopTeller := fun r s => bif Nat.beq r 3 then qv_lo3 s else .none
theorem qv_3_r (D C X : LL) (i : Int) (fuel : Nat) : rounds (rnd tab FT D3 live 98 qv_lo 0 3) leave (fuel + 1) (qv_3_sl (D, C, X, i)) = ((qv_3_step D C X i)).run (goOn (fun s => rounds (rnd tab FT D3 live 98 qv_lo 0 3) leave fuel (qv_3_sl s)) fun w => some (qv_3_out w)) := by kernel_rfl
theorem qv_3_h (D C X : LL) (i : Int) (ow : qv_3_ω) : ((qv_3_fin D C X i)).val = some ow → ∃ fuel, loopN qv_3_st fuel (D, C, X, i) = some ow := by
  intro h
  simp only [qv_3_fin, Told.val] at h
  split at h
  · rename_i ho
    obtain ⟨rfl, rfl, ht, hl, hc⟩ := is_iff.1 ho
    cases h
    have hlen : D.length ≤ 17592186044404 := by have := typed_room ht; simp only [show (tab 2).bytes = 8 from rfl] at this; omega
    have hg : (gridL D C).length = D.length := by simp [gridL, hl]
    refine ⟨_, loopN_build (step := qv_3_st) (gridL D C) (fun i X => (D, C, X, (i : Int))) _ (fun i hi => ?_) ?_⟩
    · have hi' : i < D.length := by omega
      rw [gridL_at hl hi]
      show (qv_3_step D C ((gridL D C).take i) (i : Int)).val = _
      unfold qv_3_step
      refine Tr.t (by simp; omega) ?_
      refine Tr.t (by constructor <;> omega) ?_
      refine Tr.t (by constructor <;> omega) ?_
      refine Tr.t (by constructor <;> omega) ?_
      refine Tr.t (inR_1 hc (by omega)) ?_
      refine Tr.t (by unfold roomFor; simp only [show (tab 2).bytes = 8 from rfl, List.length_append, List.length_take, List.length_singleton]; omega) ?_
      rw [Tr.val_ok, wrap64 (i := (i : Int) + 1) (by omega) (by omega)]; rfl
    · show (qv_3_step D C (gridL D C) ((gridL D C).length : Int)).val = _
      refine Tr.n (by simp [hg]) ?_
      rfl
  · cases h
theorem qv_is3 : LoopIs tab FT D3 live 98 qv_lo 0 3 := by
  refine loop_told (sl := qv_3_sl) (step := qv_3_st) (out := qv_3_out) (lor := qv_lo3) (fin := fun x => (qv_3_fin (x.1) (x.2.1) (x.2.2.1) (x.2.2.2))) (fun _ => rfl) ?_ (fun x n => qv_3_r x.1 x.2.1 x.2.2.1 x.2.2.2 n) (fun x ow => qv_3_h x.1 x.2.1 x.2.2.1 x.2.2.2 ow)
  intro s t h
  unfold qv_lo3 at h
  split at h
  · cases h; exact ⟨(_, _, _, _), rfl, rfl⟩
  · cases h
noncomputable def qv_t (D C : LL) : Tr (LL) := (.ite ((qv_o3_1 D C [] (0 : Int)) = true) (.ok (qv_u3_1 D C [] (0 : Int)))
  .no)
def qv_mk (p : LL) : Res := [(false, [⟨.slice 2, .own true, TC.l p⟩])]
noncomputable def qv_c (D C : LL) : Bool := is (Typed tab (.slice 2) (.l D) ∧ D.length = C.length ∧ C.all (inR 1 40) = true)
noncomputable def qv_v (D C : LL) : LL := gridL D C
theorem qv_l (D C : LL) : (qv_c D C) = true → (qv_t D C).val = some (qv_v D C) := by
  intro h
  obtain ⟨ht, hl, hc⟩ := is_iff.1 h
  unfold qv_t
  exact Tr.t (is_true ⟨rfl, rfl, ht, hl, hc⟩) rfl
noncomputable def qv_S : List Arg → Option (Bool × Res) := fun xs => match xs with
  | [(false, [(.slice 2, TC.l D)]), (false, [(.slice 2, TC.l C)])] => some ((qv_c D C), qv_mk (qv_v D C))
  | _ => .none
theorem qv_e (D C : LL) : runF tab FT D3 live 98 qv_lo [(false, [(.slice 2, TC.l D)]), (false, [(.slice 2, TC.l C)])] = (qv_t D C).run fun p => some (qv_mk p) := by kernel_rfl
theorem qv_s : ∀ xs r, qv_S xs = some (true, r) → runF tab FT D3 live 98 qv_lo xs = some r := by
  intro xs r h
  unfold qv_S at h
  split at h
  · simp only [Option.some.injEq, Prod.mk.injEq] at h
    obtain ⟨h1, rfl⟩ := h
    exact fun_told (qv_e _ _) (qv_l _ _) h1
  · cases h
noncomputable def D4 : Dt := also D3 98 qv_S
theorem d4 : DOk Go.Proofs.Try.prog tab D4 := d3.also mixed_ok tab_ok names_ok (fnLoops_one (by kernel_rfl) qv_is3) qv_s
abbrev qu_3_σ := LL × Int × Int
abbrev qu_3_ω := (Int)
noncomputable def qu_3_step (A : LL) (n i : Int) : Tr (qu_3_σ ⊕ qu_3_ω) := (.ite ((decide (i < (A.length : Int))) = true) (.ite ((0 : Int) ≤ i ∧ i < (A.length : Int)) (.ok (.inl (A, (IntKind.wrap .i64 (n * (nth (row A i) 0).int)), (IntKind.wrap .i64 (i + (1 : Int))))))
   .no)
  (.ok (.inr n)))
noncomputable def qu_3_st : qu_3_σ → Tr (qu_3_σ ⊕ qu_3_ω) := fun x => (qu_3_step (x.1) (x.2.1) (x.2.2))
noncomputable def qu_o3_1 (A : LL) (n i : Int) : Bool := is (i = 0 ∧ n = 1 ∧ Typed tab (.slice 2) (.l A))
noncomputable def qu_u3_1 (A : LL) (n i : Int) : Int := (A.foldl mulR (1 : Int))
noncomputable def qu_3_fin (A : LL) (n i : Int) : Told qu_3_ω := (.leaf (qu_o3_1 A n i) (qu_u3_1 A n i))
def qu_3_sl (x : qu_3_σ) : List Slot := [⟨.val false [⟨.slice 2, .sh, TC.l (x.1)⟩], ⟨0, 0⟩⟩, ⟨.val false [⟨.int .i64, .sh, TC.i (x.2.1)⟩], ⟨0, 0⟩⟩, ⟨.val false [⟨.int .i64, .sh, TC.i (x.2.2)⟩], ⟨0, 0⟩⟩]
def qu_3_out : qu_3_ω → Ex × List Slot := (fun x => (.exit 0, [Slot.none, ⟨.val false [⟨.int .i64, .sh, TC.i x⟩], ⟨0, 0⟩⟩]))
noncomputable def qu_lo3 : List Slot → Option (Told (Ex × List Slot)) := fun s => match s with
  | [⟨.val false [⟨.slice 2, .sh, TC.l A⟩], ⟨0, 0⟩⟩, ⟨.val false [⟨.int .i64, .sh, TC.i n⟩], ⟨0, 0⟩⟩, ⟨.val false [⟨.int .i64, .sh, TC.i i⟩], ⟨0, 0⟩⟩] => some (((qu_3_fin A n i)).map qu_3_out)
  | _ => .none
noncomputable def qu_lo : LoopTeller := fun r s => bif Nat.beq r 3 then qu_lo3 s else .none
theorem qu_3_r (A : LL) (n i : Int) (fuel : Nat) : rounds (rnd tab FT D4 live 71 qu_lo 0 3) leave (fuel + 1) (qu_3_sl (A, n, i)) = ((qu_3_step A n i)).run (goOn (fun s => rounds (rnd tab FT D4 live 71 qu_lo 0 3) leave fuel (qu_3_sl s)) fun w => some (qu_3_out w)) := by kernel_rfl
theorem qu_3_h (A : LL) (n i : Int) (ow : qu_3_ω) : ((qu_3_fin A n i)).val = some ow → ∃ fuel, loopN qu_3_st fuel (A, n, i) = some ow := by
  intro h
  have key : Typed tab (.slice 2) (.l A) → loopN qu_3_st (A.length + 1) (A, (1 : Int), (0 : Int)) = some ((A.foldl mulR (1 : Int))) := by
    intro ht
    have hlen : A.length ≤ 140737488351232 := by have := typed_room ht; simp only [show (tab 2).bytes = 8 from rfl] at this; omega
    have key := loopN_scan (step := qu_3_st) A [] (fun _ => true) mulR (fun i a => (A, a, (i : Int))) (fun a => a) (fun i a => a) (fun i a hi => ?_) (fun a => ?_) A.length 0 (1 : Int) (by omega)
    · first | (rw [Nat.zero_add] at key; exact key) | exact key | (simpa using key)
    · skip
      show (qu_3_step A a (i : Int)).val = _
      unfold qu_3_step
      refine Tr.t (by simp; omega) ?_
      show _ = some _
      refine Tr.t (by first | omega | (constructor <;> omega)) ?_
      rw [Tr.val_ok, wrap64 (i := (i : Int) + 1) (by omega) (by omega)]; rfl
    · show (qu_3_step A a (A.length : Int)).val = _
      refine Tr.n (by simp) ?_
      rfl
  simp only [qu_3_fin, Told.val] at h
  split at h
  · rename_i ho
    obtain ⟨rfl, rfl, ht⟩ := is_iff.1 ho
    cases h
    exact ⟨_, key ht⟩
  · cases h
theorem qu_is3 : LoopIs tab FT D4 live 71 qu_lo 0 3 := by
  refine loop_told (sl := qu_3_sl) (step := qu_3_st) (out := qu_3_out) (lor := qu_lo3) (fin := fun x => (qu_3_fin (x.1) (x.2.1) (x.2.2))) (fun _ => rfl) ?_ (fun x n => qu_3_r x.1 x.2.1 x.2.2 n) (fun x ow => qu_3_h x.1 x.2.1 x.2.2 ow)
  intro s t h
  unfold qu_lo3 at h
  split at h
  · cases h; exact ⟨(_, _, _), rfl, rfl⟩
  · cases h
noncomputable def qu_t (A : LL) : Tr (Int) := (.ite ((qu_o3_1 A (1 : Int) (0 : Int)) = true) (.ok (qu_u3_1 A (1 : Int) (0 : Int)))
  .no)
def qu_mk (p : Int) : Res := [(false, [⟨.int .i64, .sh, TC.i p⟩])]
noncomputable def qu_c (A : LL) : Bool := (qu_o3_1 A (1 : Int) (0 : Int))
noncomputable def qu_v (A : LL) : Int := (qu_u3_1 A (1 : Int) (0 : Int))
theorem qu_l (A : LL) : (qu_c A) = true → (qu_t A).val = some (qu_v A) := by
  intro h
  have hc0 : (qu_o3_1 A (1 : Int) (0 : Int)) = true := h
  unfold qu_t
  exact (Tr.t hc0 rfl)
noncomputable def qu_S : List Arg → Option (Bool × Res) := fun xs => match xs with
  | [(false, [(.slice 2, TC.l A)])] => some ((qu_c A), qu_mk (qu_v A))
  | _ => .none
theorem qu_e (A : LL) : runF tab FT D4 live 71 qu_lo [(false, [(.slice 2, TC.l A)])] = (qu_t A).run fun p => some (qu_mk p) := by kernel_rfl
theorem qu_s : ∀ xs r, qu_S xs = some (true, r) → runF tab FT D4 live 71 qu_lo xs = some r := by
  intro xs r h
  unfold qu_S at h
  split at h
  · simp only [Option.some.injEq, Prod.mk.injEq] at h
    obtain ⟨h1, rfl⟩ := h
    exact fun_told (qu_e _) (qu_l _) h1
  · cases h
noncomputable def D5 : Dt := also D4 71 qu_S
theorem d5 : DOk Go.Proofs.Try.prog tab D5 := d4.also mixed_ok tab_ok names_ok (fnLoops_one (by kernel_rfl) qu_is3) qu_s
abbrev qe_12_σ := Int × LL × Int
abbrev qe_12_ω := (Int × LL) ⊕ (Int × LL)
noncomputable def qe_12_step (n : Int) (A : LL) (i : Int) : Tr (qe_12_σ ⊕ qe_12_ω) := (.ite ((decide (i < (A.length : Int))) = true) (.ite ((0 : Int) ≤ i ∧ i < (A.length : Int)) (.ite ((decide ((nth (row A i) 0).int > (16 : Int))) = true) (.ok (.inr (.inl (n, A))))
    (.ok (.inl (n, A, (IntKind.wrap .i64 (i + (1 : Int)))))))
   .no)
  (.ok (.inr (.inr (n, A)))))
noncomputable def qe_12_st : qe_12_σ → Tr (qe_12_σ ⊕ qe_12_ω) := fun x => (qe_12_step (x.1) (x.2.1) (x.2.2))
noncomputable def qe_k12_1 (n : Int) (A : LL) (i : Int) : Bool := A.all le16
noncomputable def qe_o12_2 (n : Int) (A : LL) (i : Int) : Bool := is (i = 0 ∧ A.length ≤ 140737488351232)
noncomputable def qe_o12_3 (n : Int) (A : LL) (i : Int) : Bool := is (i = 0 ∧ A.length ≤ 140737488351232)
noncomputable def qe_12_fin (n : Int) (A : LL) (i : Int) : Told qe_12_ω := (.br (qe_k12_1 n A i) (.leaf (qe_o12_2 n A i) (.inr (n, A))) (.leaf (qe_o12_3 n A i) (.inl (n, A))))
def qe_12_sl (x : qe_12_σ) : List Slot := [⟨.val false [⟨.int .i64, .sh, TC.i (x.1)⟩], ⟨0, 0⟩⟩, ⟨.val false [⟨.slice 2, .own true, TC.l (x.2.1)⟩], ⟨0, 0⟩⟩, ⟨.val false [⟨.int .i64, .sh, TC.i (x.2.2)⟩], ⟨0, 0⟩⟩]
def qe_12_out : qe_12_ω → Ex × List Slot := (Sum.elim (fun x => (.ret, [⟨.val false [⟨.bool, .sh, TC.b false⟩], ⟨0, 0⟩⟩, ⟨.val false [⟨.int .i64, .sh, TC.i (x.1)⟩], ⟨0, 0⟩⟩, ⟨.val false [⟨.slice 2, .own true, TC.l (x.2)⟩], ⟨0, 0⟩⟩])) (fun x => (.exit 2, [Slot.none, ⟨.val false [⟨.int .i64, .sh, TC.i (x.1)⟩], ⟨0, 0⟩⟩, ⟨.val false [⟨.slice 2, .own true, TC.l (x.2)⟩], ⟨0, 0⟩⟩])))
noncomputable def qe_lo12 : List Slot → Option (Told (Ex × List Slot)) := fun s => match s with
  | [⟨.val false [⟨.int .i64, .sh, TC.i n⟩], ⟨0, 0⟩⟩, ⟨.val false [⟨.slice 2, .own true, TC.l A⟩], ⟨0, 0⟩⟩, ⟨.val false [⟨.int .i64, .sh, TC.i i⟩], ⟨0, 0⟩⟩] => some (((qe_12_fin n A i)).map qe_12_out)
  | _ => .none
abbrev qe_5_σ := LL × LL × Int × Int
abbrev qe_5_ω := (LL × LL × Int) ⊕ (LL × LL × Int)
noncomputable def qe_5_step (D A : LL) (n i : Int) : Tr (qe_5_σ ⊕ qe_5_ω) := (.ite ((decide (i < (A.length : Int))) = true) (.ite ((0 : Int) ≤ i ∧ i < (A.length : Int)) (.ite ((!(qbg_v ((nth (row A i) 0).int) (1 : Int) (40 : Int))) = true) (.ok (.inr (.inl (D, A, n))))
    (.ite ((0 : Int) ≤ i ∧ i < (A.length : Int)) (.ok (.inl (D, A, (IntKind.wrap .i64 (n * (nth (row A i) 0).int)), (IntKind.wrap .i64 (i + (1 : Int))))))
     .no))
   .no)
  (.ok (.inr (.inr (D, A, n)))))
noncomputable def qe_5_st : qe_5_σ → Tr (qe_5_σ ⊕ qe_5_ω) := fun x => (qe_5_step (x.1) (x.2.1) (x.2.2.1) (x.2.2.2))
noncomputable def qe_k5_1 (D A : LL) (n i : Int) : Bool := A.all (inR 1 40)
noncomputable def qe_o5_2 (D A : LL) (n i : Int) : Bool := is (i = 0 ∧ n = 1 ∧ Typed tab (.slice 2) (.l A))
noncomputable def qe_u5_2_2 (D A : LL) (n i : Int) : Int := (A.foldl mulR (1 : Int))
noncomputable def qe_o5_3 (D A : LL) (n i : Int) : Bool := is (i = 0 ∧ n = 1 ∧ Typed tab (.slice 2) (.l A))
noncomputable def qe_u5_3_2 (D A : LL) (n i : Int) : Int := ((A.take (A.findIdx fun x => !(inR 1 40) x)).foldl mulR (1 : Int))
noncomputable def qe_5_fin (D A : LL) (n i : Int) : Told qe_5_ω := (.br (qe_k5_1 D A n i) (.leaf (qe_o5_2 D A n i) (.inr (D, A, (qe_u5_2_2 D A n i)))) (.leaf (qe_o5_3 D A n i) (.inl (D, A, (qe_u5_3_2 D A n i)))))
def qe_5_sl (x : qe_5_σ) : List Slot := [⟨.val false [⟨.slice 2, .sh, TC.l (x.1)⟩], ⟨0, 0⟩⟩, ⟨.val false [⟨.slice 2, .sh, TC.l (x.2.1)⟩], ⟨0, 0⟩⟩, ⟨.val false [⟨.int .i64, .sh, TC.i (x.2.2.1)⟩], ⟨0, 0⟩⟩, ⟨.val false [⟨.int .i64, .sh, TC.i (x.2.2.2)⟩], ⟨0, 0⟩⟩]
def qe_5_out : qe_5_ω → Ex × List Slot := (Sum.elim (fun x => (.ret, [⟨.val false [⟨.slice 2, .sh, TC.l (x.1)⟩], ⟨0, 0⟩⟩, ⟨.val false [⟨.slice 2, .sh, TC.l (x.2.1)⟩], ⟨0, 0⟩⟩, ⟨.val false [⟨.bool, .sh, TC.b false⟩], ⟨0, 0⟩⟩, ⟨.val false [⟨.int .i64, .sh, TC.i (x.2.2)⟩], ⟨0, 0⟩⟩])) (fun x => (.exit 0, [⟨.val false [⟨.slice 2, .sh, TC.l (x.1)⟩], ⟨0, 0⟩⟩, ⟨.val false [⟨.slice 2, .sh, TC.l (x.2.1)⟩], ⟨0, 0⟩⟩, Slot.none, ⟨.val false [⟨.int .i64, .sh, TC.i (x.2.2)⟩], ⟨0, 0⟩⟩])))
noncomputable def qe_lo5 : List Slot → Option (Told (Ex × List Slot)) := fun s => match s with
  | [⟨.val false [⟨.slice 2, .sh, TC.l D⟩], ⟨0, 0⟩⟩, ⟨.val false [⟨.slice 2, .sh, TC.l A⟩], ⟨0, 0⟩⟩, ⟨.val false [⟨.int .i64, .sh, TC.i n⟩], ⟨0, 0⟩⟩, ⟨.val false [⟨.int .i64, .sh, TC.i i⟩], ⟨0, 0⟩⟩] => some (((qe_5_fin D A n i)).map qe_5_out)
  | _ => .none
noncomputable def qe_lo : LoopTeller := fun r s => bif Nat.beq r 5 then qe_lo5 s else bif Nat.beq r 12 then qe_lo12 s else .none
theorem qe_12_r (n : Int) (A : LL) (i : Int) (fuel : Nat) : rounds (rnd tab FT D5 live 52 qe_lo 1 12) leave (fuel + 1) (qe_12_sl (n, A, i)) = ((qe_12_step n A i)).run (goOn (fun s => rounds (rnd tab FT D5 live 52 qe_lo 1 12) leave fuel (qe_12_sl s)) fun w => some (qe_12_out w)) := by kernel_rfl
theorem qe_12_h (n : Int) (A : LL) (i : Int) (ow : qe_12_ω) : ((qe_12_fin n A i)).val = some ow → ∃ fuel, loopN qe_12_st fuel (n, A, i) = some ow := by
  intro h
  have key : A.length ≤ 140737488351232 → loopN qe_12_st (A.length + 1) (n, A, (0 : Int)) = some (if A.all le16 = true then (.inr (n, A)) else (.inl (n, A))) := by
    intro ht
    have hlen : A.length ≤ 140737488351232 := ht
    have key := loopN_scan (step := qe_12_st) A [] le16 (fun a _ => a) (fun i a => (n, A, (i : Int))) (fun a => (.inr (n, A))) (fun i a => (.inl (n, A))) (fun i a hi => ?_) (fun a => ?_) A.length 0 () (by omega)
    · first | (rw [Nat.zero_add] at key; exact key) | exact key
    · skip
      show (qe_12_step n A (i : Int)).val = _
      unfold qe_12_step
      refine Tr.t (by simp; omega) ?_
      skip
      refine Tr.t (by first | omega | (constructor <;> omega)) ?_
      refine Tr.b2 (fun hP => ?_) (fun _ => rfl)
      rw [Tr.val_ok, wrap64 (i := (i : Int) + 1) (by omega) (by omega)]; rfl
    · show (qe_12_step n A (A.length : Int)).val = _
      refine Tr.n (by simp) ?_
      rfl
  simp only [qe_12_fin, Told.val] at h
  cases hk : A.all le16 with
  | true =>
    rw [if_pos (show qe_k12_1 n A i = true from hk)] at h
    split at h
    · rename_i ho
      obtain ⟨rfl, ht⟩ := is_iff.1 ho
      cases h
      refine ⟨_, (key ht).trans ?_⟩
      rw [hk]; rfl
    · cases h
  | false =>
    rw [if_neg (show ¬qe_k12_1 n A i = true from by rw [show qe_k12_1 n A i = (A.all le16) from rfl, hk]; simp)] at h
    split at h
    · rename_i ho
      obtain ⟨rfl, ht⟩ := is_iff.1 ho
      cases h
      refine ⟨_, (key ht).trans ?_⟩
      rw [hk]; rfl
    · cases h
theorem qe_is12 : LoopIs tab FT D5 live 52 qe_lo 1 12 := by
  refine loop_told (sl := qe_12_sl) (step := qe_12_st) (out := qe_12_out) (lor := qe_lo12) (fin := fun x => (qe_12_fin (x.1) (x.2.1) (x.2.2))) (fun _ => rfl) ?_ (fun x n => qe_12_r x.1 x.2.1 x.2.2 n) (fun x ow => qe_12_h x.1 x.2.1 x.2.2 ow)
  intro s t h
  unfold qe_lo12 at h
  split at h
  · cases h; exact ⟨(_, _, _), rfl, rfl⟩
  · cases h
theorem qe_5_r (D A : LL) (n i : Int) (fuel : Nat) : rounds (rnd tab FT D5 live 52 qe_lo 0 5) leave (fuel + 1) (qe_5_sl (D, A, n, i)) = ((qe_5_step D A n i)).run (goOn (fun s => rounds (rnd tab FT D5 live 52 qe_lo 0 5) leave fuel (qe_5_sl s)) fun w => some (qe_5_out w)) := by kernel_rfl
theorem qe_5_h (D A : LL) (n i : Int) (ow : qe_5_ω) : ((qe_5_fin D A n i)).val = some ow → ∃ fuel, loopN qe_5_st fuel (D, A, n, i) = some ow := by
  intro h
  have key : Typed tab (.slice 2) (.l A) → loopN qe_5_st (A.length + 1) (D, A, (1 : Int), (0 : Int)) = some (if A.all (inR 1 40) = true then (.inr (D, A, (A.foldl mulR (1 : Int)))) else (.inl (D, A, ((A.take (A.findIdx fun x => !(inR 1 40) x)).foldl mulR (1 : Int))))) := by
    intro ht
    have hlen : A.length ≤ 140737488351232 := by have := typed_room ht; simp only [show (tab 2).bytes = 8 from rfl] at this; omega
    have key := loopN_scan (step := qe_5_st) A [] (inR 1 40) mulR (fun i a => (D, A, a, (i : Int))) (fun a => (.inr (D, A, a))) (fun i a => (.inl (D, A, a))) (fun i a hi => ?_) (fun a => ?_) A.length 0 (1 : Int) (by omega)
    · first | (rw [Nat.zero_add] at key; exact key) | exact key
    · skip
      show (qe_5_step D A a (i : Int)).val = _
      unfold qe_5_step
      refine Tr.t (by simp; omega) ?_
      skip
      refine Tr.t (by first | omega | (constructor <;> omega)) ?_
      refine Tr.b (P := (inR 1 40) (A.getD i [])) (fun hP => ?_) (fun _ => rfl)
      refine Tr.t (by first | omega | (constructor <;> omega)) ?_
      rw [Tr.val_ok, wrap64 (i := (i : Int) + 1) (by omega) (by omega)]; rfl
    · show (qe_5_step D A a (A.length : Int)).val = _
      refine Tr.n (by simp) ?_
      rfl
  simp only [qe_5_fin, Told.val] at h
  cases hk : A.all (inR 1 40) with
  | true =>
    rw [if_pos (show qe_k5_1 D A n i = true from hk)] at h
    split at h
    · rename_i ho
      obtain ⟨rfl, rfl, ht⟩ := is_iff.1 ho
      cases h
      refine ⟨_, (key ht).trans ?_⟩
      rw [hk]; rfl
    · cases h
  | false =>
    rw [if_neg (show ¬qe_k5_1 D A n i = true from by rw [show qe_k5_1 D A n i = (A.all (inR 1 40)) from rfl, hk]; simp)] at h
    split at h
    · rename_i ho
      obtain ⟨rfl, rfl, ht⟩ := is_iff.1 ho
      cases h
      refine ⟨_, (key ht).trans ?_⟩
      rw [hk]; rfl
    · cases h
theorem qe_is5 : LoopIs tab FT D5 live 52 qe_lo 0 5 := by
  refine loop_told (sl := qe_5_sl) (step := qe_5_st) (out := qe_5_out) (lor := qe_lo5) (fin := fun x => (qe_5_fin (x.1) (x.2.1) (x.2.2.1) (x.2.2.2))) (fun _ => rfl) ?_ (fun x n => qe_5_r x.1 x.2.1 x.2.2.1 x.2.2.2 n) (fun x ow => qe_5_h x.1 x.2.1 x.2.2.1 x.2.2.2 ow)
  intro s t h
  unfold qe_lo5 at h
  split at h
  · cases h; exact ⟨(_, _, _, _), rfl, rfl⟩
  · cases h
noncomputable def qe_t (D C : LL) : Tr (Bool) := (.ite ((qr_c D) = true) (.ite ((!(qr_v D)) = true) (.ok false)
   (.ite ((!((C.length : Int) == (D.length : Int))) = true) (.ok false)
    (.ite ((qe_k5_1 D C (1 : Int) (0 : Int)) = true) (.ite ((qe_o5_2 D C (1 : Int) (0 : Int)) = true) (.ite ((qv_c D C) = true) (.ite ((qe_k12_1 (qe_u5_2_2 D C (1 : Int) (0 : Int)) (qv_v D C) (0 : Int)) = true) (.ite ((qe_o12_2 (qe_u5_2_2 D C (1 : Int) (0 : Int)) (qv_v D C) (0 : Int)) = true) (.ite ((decide ((qe_u5_2_2 D C (1 : Int) (0 : Int)) ≤ (64 : Int))) = true) (.ite ((qu_c (qv_v D C)) = true) (.ok (decide ((qu_v (qv_v D C)) ≤ (256 : Int))))
           .no)
          (.ok false))
         .no)
        (.ite ((qe_o12_3 (qe_u5_2_2 D C (1 : Int) (0 : Int)) (qv_v D C) (0 : Int)) = true) (.ok false)
         .no))
       .no)
      .no)
     (.ite ((qe_o5_3 D C (1 : Int) (0 : Int)) = true) (.ok false)
      .no))))
  .no)
def qe_mk (p : Bool) : Res := [(false, [⟨.bool, .sh, TC.b p⟩])]
noncomputable def qe_c (D C : LL) : Bool := ((qr_c D) && (bif (!(qr_v D)) then true else (bif (!((C.length : Int) == (D.length : Int))) then true else (bif (qe_k5_1 D C (1 : Int) (0 : Int)) then ((qe_o5_2 D C (1 : Int) (0 : Int)) && ((qv_c D C) && (bif (qe_k12_1 (qe_u5_2_2 D C (1 : Int) (0 : Int)) (qv_v D C) (0 : Int)) then ((qe_o12_2 (qe_u5_2_2 D C (1 : Int) (0 : Int)) (qv_v D C) (0 : Int)) && (bif (decide ((qe_u5_2_2 D C (1 : Int) (0 : Int)) ≤ (64 : Int))) then ((qu_c (qv_v D C)) && true) else true)) else ((qe_o12_3 (qe_u5_2_2 D C (1 : Int) (0 : Int)) (qv_v D C) (0 : Int)) && true)))) else ((qe_o5_3 D C (1 : Int) (0 : Int)) && true)))))
noncomputable def qe_v (D C : LL) : Bool := (bif (!(qr_v D)) then false else (bif (!((C.length : Int) == (D.length : Int))) then false else (bif (qe_k5_1 D C (1 : Int) (0 : Int)) then (bif (qe_k12_1 (qe_u5_2_2 D C (1 : Int) (0 : Int)) (qv_v D C) (0 : Int)) then (bif (decide ((qe_u5_2_2 D C (1 : Int) (0 : Int)) ≤ (64 : Int))) then (decide ((qu_v (qv_v D C)) ≤ (256 : Int))) else false) else false) else false)))
theorem qe_l (D C : LL) : (qe_c D C) = true → (qe_t D C).val = some (qe_v D C) := by
  unfold qe_t qe_v qe_c
  exact fun h => (Tr.gb h fun h => (Tr.ss h (fun h => rfl) (fun h => (Tr.ss h (fun h => rfl) (fun h => (Tr.ss h (fun h => (Tr.gb h fun h => (Tr.gb h fun h => (Tr.ss h (fun h => (Tr.gb h fun h => (Tr.ss h (fun h => (Tr.gb h fun h => rfl)) (fun h => rfl)))) (fun h => (Tr.gb h fun h => rfl)))))) (fun h => (Tr.gb h fun h => rfl))))))))
noncomputable def qe_S : List Arg → Option (Bool × Res) := fun xs => match xs with
  | [(false, [(.slice 2, TC.l D)]), (false, [(.slice 2, TC.l C)])] => some ((qe_c D C), qe_mk (qe_v D C))
  | _ => .none
theorem qe_e (D C : LL) : runF tab FT D5 live 52 qe_lo [(false, [(.slice 2, TC.l D)]), (false, [(.slice 2, TC.l C)])] = (qe_t D C).run fun p => some (qe_mk p) := by kernel_rfl
theorem qe_s : ∀ xs r, qe_S xs = some (true, r) → runF tab FT D5 live 52 qe_lo xs = some r := by
  intro xs r h
  unfold qe_S at h
  split at h
  · simp only [Option.some.injEq, Prod.mk.injEq] at h
    obtain ⟨h1, rfl⟩ := h
    exact fun_told (qe_e _ _) (qe_l _ _) h1
  · cases h
noncomputable def D6 : Dt := also D5 52 qe_S
theorem d6 : DOk Go.Proofs.Try.prog tab D6 := d5.also mixed_ok tab_ok names_ok (fnLoops_two (by kernel_rfl) qe_is5 qe_is12) qe_s
theorem qe_cc {D : LL} {C : LL} (hD : Typed tab (.slice 2) (.l D)) (hC : Typed tab (.slice 2) (.l C)) : (qe_c D C) = true := by
  unfold qe_c
  refine andT (by first | (apply is_true; and_intros <;> (first | rfl | assumption | (first | (apply is_true; and_intros <;> (first | rfl | assumption | (first | (apply is_true; and_intros <;> (first | rfl | assumption | (first | (apply is_true; and_intros <;> (first | rfl | assumption)))))))))))) ?_
  refine bifT (fun b1 => ?_) (fun b1 => ?_)
  · skip
    rfl
  · skip
    refine bifT (fun b2 => ?_) (fun b2 => ?_)
    · skip
      rfl
    · skip
      refine bifT (fun b3 => ?_) (fun b3 => ?_)
      · skip
        refine andT (by first | (apply is_true; and_intros <;> (first | rfl | assumption | (first | (apply is_true; and_intros <;> (first | rfl | assumption | (first | (apply is_true; and_intros <;> (first | rfl | assumption | (first | (apply is_true; and_intros <;> (first | rfl | assumption)))))))))))) ?_
        refine andT (by exact is_true (p := Typed tab (.slice 2) (.l D) ∧ D.length = C.length ∧ C.all (inR 1 40) = true) ⟨hD, lenEq b2, b3⟩) ?_
        refine bifT (fun b4 => ?_) (fun b4 => ?_)
        · skip
          refine andT (by exact is_true (p := (0 : Int) = 0 ∧ (gridL D C).length ≤ 140737488351232) ⟨rfl, gridL_len (by have := typed_room hD; simp only [show (tab 2).bytes = 8 from rfl] at this; omega)⟩) ?_
          refine bifT (fun b5 => ?_) (fun b5 => ?_)
          · skip
            refine andT (by exact is_true ⟨rfl, rfl, gridL_ty rfl hD⟩) ?_
            rfl
          · skip
            rfl
        · skip
          refine andT (by exact is_true (p := (0 : Int) = 0 ∧ (gridL D C).length ≤ 140737488351232) ⟨rfl, gridL_len (by have := typed_room hD; simp only [show (tab 2).bytes = 8 from rfl] at this; omega)⟩) ?_
          rfl
      · skip
        refine andT (by first | (apply is_true; and_intros <;> (first | rfl | assumption | (first | (apply is_true; and_intros <;> (first | rfl | assumption | (first | (apply is_true; and_intros <;> (first | rfl | assumption | (first | (apply is_true; and_intros <;> (first | rfl | assumption)))))))))))) ?_
        rfl
theorem qe_vv (D C : LL) : qe_v D C = chunkOk D C := by
  show (bif (!(qr_v D)) then false else bif (!((C.length : Int) == (D.length : Int))) then false else bif C.all (inR 1 40) then bif (gridL D C).all le16 then bif decide (prodL C ≤ 64) then decide (prodL (gridL D C) ≤ 256) else false else false else false) = _
  rw [qr_vv]
  unfold chunkOk
  cases hd : dimsOk D
  · rfl
  cases ((C.length : Int) == (D.length : Int))
  · rfl
  cases hc : C.all (inR 1 40)
  · rfl
  rw [grid_all (dimsOk_all hd) hc]
  cases (gridL D C).all (inR 0 16) <;> cases decide (prodL C ≤ 64) <;> rfl
noncomputable def qbe_t (D F C : LL) : Tr (Bool) := (.ite ((qe_c D C) = true) (.ite ((qe_v D C) = true) (.ite ((qe_c F C) = true) (.ok (qe_v F C))
    .no)
   (.ok false))
  .no)
def qbe_mk (p : Bool) : Res := [(false, [⟨.bool, .sh, TC.b p⟩])]
noncomputable def qbe_c (D F C : LL) : Bool := is (((qe_c D C) = true) ∧ ((qe_c F C) = true))
noncomputable def qbe_v (D F C : LL) : Bool := (bif (qe_v D C) then (qe_v F C) else false)
theorem qbe_l (D F C : LL) : (qbe_c D F C) = true → (qbe_t D F C).val = some (qbe_v D F C) := by
  intro h
  obtain ⟨g0, g1⟩ := is_iff.1 h
  unfold qbe_t qbe_v
  exact (Tr.t g0 (Tr.s (Tr.t g1 rfl) rfl))
noncomputable def qbe_S : List Arg → Option (Bool × Res) := fun xs => match xs with
  | [(false, [(.slice 2, TC.l D)]), (false, [(.slice 2, TC.l F)]), (false, [(.slice 2, TC.l C)])] => some ((qbe_c D F C), qbe_mk (qbe_v D F C))
  | _ => .none
theorem qbe_e (D F C : LL) : runF tab FT D6 live 55 noLoops [(false, [(.slice 2, TC.l D)]), (false, [(.slice 2, TC.l F)]), (false, [(.slice 2, TC.l C)])] = (qbe_t D F C).run fun p => some (qbe_mk p) := by kernel_rfl
theorem qbe_s : ∀ xs r, qbe_S xs = some (true, r) → runF tab FT D6 live 55 noLoops xs = some r := by
  intro xs r h
  unfold qbe_S at h
  split at h
  · simp only [Option.some.injEq, Prod.mk.injEq] at h
    obtain ⟨h1, rfl⟩ := h
    exact fun_told (qbe_e _ _ _) (qbe_l _ _ _) h1
  · cases h
noncomputable def D7 : Dt := also D6 55 qbe_S
theorem d7 : DOk Go.Proofs.Try.prog tab D7 := d6.also mixed_ok tab_ok names_ok noLoops_ok qbe_s
theorem two_ok {D F C : LL} (h : qbe_v D F C = true) : chunkOk D C = true ∧ chunkOk F C = true := by
  unfold qbe_v at h
  rw [qe_vv, qe_vv] at h
  revert h
  cases chunkOk D C <;> cases chunkOk F C <;> intro h <;> first | exact ⟨rfl, rfl⟩ | cases h
abbrev qt_3_σ := LL × Int × LL × Int
abbrev qt_3_ω := (LL)
noncomputable def qt_3_step (A : LL) (q : Int) (X : LL) (i : Int) : Tr (qt_3_σ ⊕ qt_3_ω) := (.ite ((decide (i ≥ (0 : Int))) = true) (.ite ((0 : Int) ≤ i ∧ i < (A.length : Int)) (.ite ((nth (row A i) 0).int ≠ 0) (.ite ((0 : Int) ≤ i ∧ i < (X.length : Int)) (.ite ((0 : Int) ≤ i ∧ i < (A.length : Int)) (.ite ((nth (row A i) 0).int ≠ 0) (.ok (.inl (A, (IntKind.wrap .i64 (Int.tdiv q ((nth (row A i) 0).int))), (X.set (i).toNat (splice (row X i) 0 [TC.i (Int.tmod q ((nth (row A i) 0).int))])), (IntKind.wrap .i64 (i - (1 : Int))))))
       .no)
      .no)
     .no)
    .no)
   .no)
  (.ok (.inr X)))
noncomputable def qt_3_st : qt_3_σ → Tr (qt_3_σ ⊕ qt_3_ω) := fun x => (qt_3_step (x.1) (x.2.1) (x.2.2.1) (x.2.2.2))
noncomputable def qt_o3_1 (A : LL) (q : Int) (X : LL) (i : Int) : Bool := is (i = (A.length : Int) - 1 ∧ X = List.replicate A.length [TC.i (0 : Int)] ∧ Typed tab (.slice 2) (.l A) ∧ (∀ j : Nat, j < A.length → (nth (A.getD j []) 0).int ≠ 0))
noncomputable def qt_u3_1 (A : LL) (q : Int) (X : LL) (i : Int) : LL := coordsV A q
noncomputable def qt_3_fin (A : LL) (q : Int) (X : LL) (i : Int) : Told qt_3_ω := (.leaf (qt_o3_1 A q X i) (qt_u3_1 A q X i))
def qt_3_sl (x : qt_3_σ) : List Slot := [⟨.val false [⟨.slice 2, .sh, TC.l (x.1)⟩], ⟨0, 0⟩⟩, ⟨.val false [⟨.int .i64, .sh, TC.i (x.2.1)⟩], ⟨0, 0⟩⟩, ⟨.val false [⟨.slice 2, .own true, TC.l (x.2.2.1)⟩], ⟨0, 0⟩⟩, ⟨.val false [⟨.int .i64, .sh, TC.i (x.2.2.2)⟩], ⟨0, 0⟩⟩]
def qt_3_out : qt_3_ω → Ex × List Slot := (fun x => (.exit 0, [Slot.none, ⟨.val false [⟨.slice 2, .own true, TC.l x⟩], ⟨0, 0⟩⟩]))
noncomputable def qt_lo3 : List Slot → Option (Told (Ex × List Slot)) := fun s => match s with
  | [⟨.val false [⟨.slice 2, .sh, TC.l A⟩], ⟨0, 0⟩⟩, ⟨.val false [⟨.int .i64, .sh, TC.i q⟩], ⟨0, 0⟩⟩, ⟨.val false [⟨.slice 2, .own true, TC.l X⟩], ⟨0, 0⟩⟩, ⟨.val false [⟨.int .i64, .sh, TC.i i⟩], ⟨0, 0⟩⟩] => some (((qt_3_fin A q X i)).map qt_3_out)
  | _ => .none
noncomputable def qt_lo : LoopTeller := fun r s => bif Nat.beq r 3 then qt_lo3 s else .none
theorem qt_3_r (A : LL) (q : Int) (X : LL) (i : Int) (fuel : Nat) : rounds (rnd tab FT D7 live 72 qt_lo 0 3) leave (fuel + 1) (qt_3_sl (A, q, X, i)) = ((qt_3_step A q X i)).run (goOn (fun s => rounds (rnd tab FT D7 live 72 qt_lo 0 3) leave fuel (qt_3_sl s)) fun w => some (qt_3_out w)) := by kernel_rfl
theorem qt_3_h (A : LL) (q : Int) (X : LL) (i : Int) (ow : qt_3_ω) : ((qt_3_fin A q X i)).val = some ow → ∃ fuel, loopN qt_3_st fuel (A, q, X, i) = some ow := by
  intro h
  refine auto_leaf (R := coordsV A q) (fun ho => ?_) h
  obtain ⟨rfl, rfl, ht, hz⟩ := is_iff.1 ho
  have hlen : A.length ≤ 140737488351232 := by have := typed_room ht; simp only [show (tab 2).bytes = 8 from rfl] at this; omega
  have key := loopN_run (step := qt_3_st) (N := A.length) (fun k => (A, idxD A.length (dimD A) q k, crowR A q k, (A.length : Int) - 1 - (k : Int))) (w := coordsV A q) (fun k hk => ?_) ?_ A.length 0 (by omega)
  · refine ⟨_, Eq.trans (congrArg (loopN qt_3_st _) ?_) key⟩
    show (_, _, _, _) = (_, _, crowR A q 0, _)
    rw [← crowR_zero]
    simp [idxD]
  · have hi : (A.length : Int) - 1 - (k : Int) = ((A.length - 1 - k : Nat) : Int) := by omega
    have hr : (nth (row A ((A.length - 1 - k : Nat) : Int)) 0).int = dimD A (A.length - 1 - k) := rfl
    have hne : dimD A (A.length - 1 - k) ≠ 0 := hz _ (by omega)
    show (qt_3_step A (idxD A.length (dimD A) q k) (crowR A q k) ((A.length : Int) - 1 - (k : Int))).val = _
    rw [hi]
    unfold qt_3_step
    rw [hr]
    refine Tr.t (by simp) (Tr.t (by constructor <;> omega) (Tr.t hne (Tr.t (by rw [crowR_len]; constructor <;> omega) (Tr.t (by constructor <;> omega) (Tr.t hne ?_)))))
    have hsp : splice (row (crowR A q k) ((A.length - 1 - k : Nat) : Int)) 0 [TC.i (Int.tmod (idxD A.length (dimD A) q k) (dimD A (A.length - 1 - k)))] = [TC.i (crdD A.length (dimD A) q (A.length - 1 - k))] := by
      have h1 : row (crowR A q k) ((A.length - 1 - k : Nat) : Int) = [TC.i (if A.length - k ≤ A.length - 1 - k then crdD A.length (dimD A) q (A.length - 1 - k) else 0)] := by
        rw [row_nat, List.getD_eq_getElem?_getD, crowR_at (by omega)]; rfl
      rw [h1]
      unfold crdD
      rw [show A.length - 1 - (A.length - 1 - k) = k from by omega]
      rfl
    rw [Tr.val_ok, hsp, Int.toNat_natCast, crowR_set hk, wrap64 (i := ((A.length - 1 - k : Nat) : Int) - 1) (by omega) (by omega)]
    show some (Sum.inl (_, _, _, _)) = some (Sum.inl (_, _, _, _))
    rw [show ((A.length - 1 - k : Nat) : Int) - 1 = (A.length : Int) - 1 - ((k + 1 : Nat) : Int) from by omega]
    rfl
  · show (qt_3_step A (idxD A.length (dimD A) q A.length) (crowR A q A.length) ((A.length : Int) - 1 - (A.length : Int))).val = _
    unfold qt_3_step
    refine Tr.n (by first | (simp; done) | (simp; omega)) ?_
    rw [Tr.val_ok, crowR_all]
theorem qt_is3 : LoopIs tab FT D7 live 72 qt_lo 0 3 := by
  refine loop_told (sl := qt_3_sl) (step := qt_3_st) (out := qt_3_out) (lor := qt_lo3) (fin := fun x => (qt_3_fin (x.1) (x.2.1) (x.2.2.1) (x.2.2.2))) (fun _ => rfl) ?_ (fun x n => qt_3_r x.1 x.2.1 x.2.2.1 x.2.2.2 n) (fun x ow => qt_3_h x.1 x.2.1 x.2.2.1 x.2.2.2 ow)
  intro s t h
  unfold qt_lo3 at h
  split at h
  · cases h; exact ⟨(_, _, _, _), rfl, rfl⟩
  · cases h
noncomputable def qt_t (A : LL) (x : Int) : Tr (LL) := (.ite (0 ≤ (A.length : Int) ∧ (A.length : Int) ≤ (A.length : Int) ∧ (A.length : Int) * 8 ≤ 140737488355328 ∧ (A.length : Int) ≤ 140737488355328) (.ite ((qt_o3_1 A x (List.replicate ((A.length : Int)).toNat [TC.i (0 : Int)]) (IntKind.wrap .i64 ((A.length : Int) - (1 : Int)))) = true) (.ok (qt_u3_1 A x (List.replicate ((A.length : Int)).toNat [TC.i (0 : Int)]) (IntKind.wrap .i64 ((A.length : Int) - (1 : Int)))))
   .no)
  .no)
def qt_mk (p : LL) : Res := [(false, [⟨.slice 2, .own true, TC.l p⟩])]
noncomputable def qt_c (A : LL) (x : Int) : Bool := is (Typed tab (.slice 2) (.l A) ∧ (∀ j : Nat, j < A.length → (nth (A.getD j []) 0).int ≠ 0))
noncomputable def qt_v (A : LL) (x : Int) : LL := coordsV A x
theorem qt_l (A : LL) (x : Int) : (qt_c A x) = true → (qt_t A x).val = some (qt_v A x) := by
  intro h
  obtain ⟨ht, hz⟩ := is_iff.1 h
  have hlen := typed_room ht
  simp only [show (tab 2).bytes = 8 from rfl] at hlen
  unfold qt_t qt_v
  refine Tr.t (by omega) (Tr.t (is_true ⟨wrap64 (by omega) (by omega), by rw [Int.toNat_natCast], ht, hz⟩) ?_)
  rfl
noncomputable def qt_S : List Arg → Option (Bool × Res) := fun xs => match xs with
  | [(false, [(.slice 2, TC.l A)]), (false, [(.int .i64, TC.i x)])] => some ((qt_c A x), qt_mk (qt_v A x))
  | _ => .none
theorem qt_e (A : LL) (x : Int) : runF tab FT D7 live 72 qt_lo [(false, [(.slice 2, TC.l A)]), (false, [(.int .i64, TC.i x)])] = (qt_t A x).run fun p => some (qt_mk p) := by kernel_rfl
theorem qt_s : ∀ xs r, qt_S xs = some (true, r) → runF tab FT D7 live 72 qt_lo xs = some r := by
  intro xs r h
  unfold qt_S at h
  split at h
  · simp only [Option.some.injEq, Prod.mk.injEq] at h
    obtain ⟨h1, rfl⟩ := h
    exact fun_told (qt_e _ _) (qt_l _ _) h1
  · cases h
noncomputable def D8 : Dt := also D7 72 qt_S
theorem d8 : DOk Go.Proofs.Try.prog tab D8 := d7.also mixed_ok tab_ok names_ok (fnLoops_one (by kernel_rfl) qt_is3) qt_s
noncomputable def qw_f3 (A : LL) (i n : Int) : (Int) ⊕ ((Int)) := (.inl (IntKind.wrap .i64 ((IntKind.wrap .i64 ((16 : Int) * n)) + (nth (row A i) 0).int)))
noncomputable def qw_e3 (A : LL) (n : Int) : (Int) := n
noncomputable def qw_R3 (A : LL) (n i : Int) : (Int) := iter (fun i a => (qw_f3 A (i : Int) a)) (fun a => (qw_e3 A a)) (A.length) 0 n
abbrev qw_3_σ := LL × Int × Int
abbrev qw_3_ω := (Int)
noncomputable def qw_3_step (A : LL) (n i : Int) : Tr (qw_3_σ ⊕ qw_3_ω) := (.ite ((decide (i < (A.length : Int))) = true) (.ite ((0 : Int) ≤ i ∧ i < (A.length : Int)) (.ok (.inl (A, (IntKind.wrap .i64 ((IntKind.wrap .i64 ((16 : Int) * n)) + (nth (row A i) 0).int)), (IntKind.wrap .i64 (i + (1 : Int))))))
   .no)
  (.ok (.inr n)))
noncomputable def qw_3_st : qw_3_σ → Tr (qw_3_σ ⊕ qw_3_ω) := fun x => (qw_3_step (x.1) (x.2.1) (x.2.2))
noncomputable def qw_o3_1 (A : LL) (n i : Int) : Bool := is (i = 0 ∧ n = 0 ∧ A.length ≤ 140737488351232)
noncomputable def qw_u3_1 (A : LL) (n i : Int) : Int := (qw_R3 A n i)
noncomputable def qw_3_fin (A : LL) (n i : Int) : Told qw_3_ω := (.leaf (qw_o3_1 A n i) (qw_u3_1 A n i))
def qw_3_sl (x : qw_3_σ) : List Slot := [⟨.val false [⟨.slice 2, .sh, TC.l (x.1)⟩], ⟨0, 0⟩⟩, ⟨.val false [⟨.int .i64, .sh, TC.i (x.2.1)⟩], ⟨0, 0⟩⟩, ⟨.val false [⟨.int .i64, .sh, TC.i (x.2.2)⟩], ⟨0, 0⟩⟩]
def qw_3_out : qw_3_ω → Ex × List Slot := (fun x => (.exit 0, [Slot.none, ⟨.val false [⟨.int .i64, .sh, TC.i x⟩], ⟨0, 0⟩⟩]))
noncomputable def qw_lo3 : List Slot → Option (Told (Ex × List Slot)) := fun s => match s with
  | [⟨.val false [⟨.slice 2, .sh, TC.l A⟩], ⟨0, 0⟩⟩, ⟨.val false [⟨.int .i64, .sh, TC.i n⟩], ⟨0, 0⟩⟩, ⟨.val false [⟨.int .i64, .sh, TC.i i⟩], ⟨0, 0⟩⟩] => some (((qw_3_fin A n i)).map qw_3_out)
  | _ => .none
noncomputable def qw_lo : LoopTeller := fun r s => bif Nat.beq r 3 then qw_lo3 s else .none
theorem qw_3_r (A : LL) (n i : Int) (fuel : Nat) : rounds (rnd tab FT D8 live 99 qw_lo 0 3) leave (fuel + 1) (qw_3_sl (A, n, i)) = ((qw_3_step A n i)).run (goOn (fun s => rounds (rnd tab FT D8 live 99 qw_lo 0 3) leave fuel (qw_3_sl s)) fun w => some (qw_3_out w)) := by kernel_rfl
theorem qw_R3_eq (A : LL) : qw_R3 A 0 0 = keyL A := by
  unfold qw_R3
  refine (iter_each (g := (fun i n => IntKind.wrap .i64 ((IntKind.wrap .i64 (n * 16)) + (nth (row A (i : Int)) 0).int))) (fin := fun a => qw_e3 A a) fun j a hj => ?_)
  unfold qw_f3
  rw [Int.mul_comm 16 a]
theorem qw_3_h (A : LL) (n i : Int) (ow : qw_3_ω) : ((qw_3_fin A n i)).val = some ow → ∃ fuel, loopN qw_3_st fuel (A, n, i) = some ow := by
  refine auto_leaf (R := (qw_R3 A n i)) ?_
  intro ho
  have ho : is (i = 0 ∧ n = 0 ∧ A.length ≤ 140737488351232) = true := ho
  obtain ⟨rfl, rfl, hlen⟩ := is_iff.1 ho
  skip
  refine ⟨(A.length) + 1, ?_⟩
  refine iter_loop (step := qw_3_st) (A.length) (fun i a => (qw_f3 A (i : Int) a)) (fun a => (qw_e3 A a)) (fun i a => (A, a, (i : Int))) (fun _ _ => True) trivial (fun i a hi hI => ⟨?_, fun _ _ => trivial⟩) (fun a hI => ?_)
  · show (qw_3_step A a (i : Int)).val = _
    unfold qw_3_step qw_f3
    skip
    refine Tr.t (by simp; omega) ?_
    exact (Tr.t (by first | omega | (constructor <;> omega)) (by rw [Tr.val_ok, wrap64 (i := (i : Int) + 1) (by omega) (by omega)]; rfl))
  · show (qw_3_step A a (A.length : Int)).val = _
    refine Tr.n (by first | (simp; done) | (simp; omega) | omega) ?_
    rfl
theorem qw_is3 : LoopIs tab FT D8 live 99 qw_lo 0 3 := by
  refine loop_told (sl := qw_3_sl) (step := qw_3_st) (out := qw_3_out) (lor := qw_lo3) (fin := fun x => (qw_3_fin (x.1) (x.2.1) (x.2.2))) (fun _ => rfl) ?_ (fun x n => qw_3_r x.1 x.2.1 x.2.2 n) (fun x ow => qw_3_h x.1 x.2.1 x.2.2 ow)
  intro s t h
  unfold qw_lo3 at h
  split at h
  · cases h; exact ⟨(_, _, _), rfl, rfl⟩
  · cases h
noncomputable def qw_t (A : LL) : Tr (Int) := (.ite ((qw_o3_1 A (0 : Int) (0 : Int)) = true) (.ok (qw_u3_1 A (0 : Int) (0 : Int)))
  .no)
def qw_mk (p : Int) : Res := [(false, [⟨.int .i64, .sh, TC.i p⟩])]
noncomputable def qw_c (A : LL) : Bool := (qw_o3_1 A (0 : Int) (0 : Int))
noncomputable def qw_v (A : LL) : Int := (qw_u3_1 A (0 : Int) (0 : Int))
theorem qw_l (A : LL) : (qw_c A) = true → (qw_t A).val = some (qw_v A) := by
  intro h
  have hc0 : (qw_o3_1 A (0 : Int) (0 : Int)) = true := h
  unfold qw_t
  exact (Tr.t hc0 rfl)
noncomputable def qw_S : List Arg → Option (Bool × Res) := fun xs => match xs with
  | [(false, [(.slice 2, TC.l A)])] => some ((qw_c A), qw_mk (qw_v A))
  | _ => .none
theorem qw_e (A : LL) : runF tab FT D8 live 99 qw_lo [(false, [(.slice 2, TC.l A)])] = (qw_t A).run fun p => some (qw_mk p) := by kernel_rfl
theorem qw_s : ∀ xs r, qw_S xs = some (true, r) → runF tab FT D8 live 99 qw_lo xs = some r := by
  intro xs r h
  unfold qw_S at h
  split at h
  · simp only [Option.some.injEq, Prod.mk.injEq] at h
    obtain ⟨h1, rfl⟩ := h
    exact fun_told (qw_e _) (qw_l _) h1
  · cases h
noncomputable def D9 : Dt := also D8 99 qw_S
theorem d9 : DOk Go.Proofs.Try.prog tab D9 := d8.also mixed_ok tab_ok names_ok (fnLoops_one (by kernel_rfl) qw_is3) qw_s
theorem qw_vv (A : LL) : qw_v A = keyL A := qw_R3_eq A
abbrev qh_4_σ := LL × LL × Int
abbrev qh_4_ω := (LL)
noncomputable def qh_4_step (g X : LL) (i : Int) : Tr (qh_4_σ ⊕ qh_4_ω) := (.ite ((qu_c g) = true) (.ite ((decide (i < (qu_v g))) = true) (.ite ((qt_c g i) = true) (.ite ((qw_c (qt_v g i)) = true) (.ite (roomFor (tab 2) (X ++ [[TC.i (qw_v (qt_v g i))]]).length) (.ok (.inl (g, (X ++ [[TC.i (qw_v (qt_v g i))]]), (IntKind.wrap .i64 (i + (1 : Int))))))
      .no)
     .no)
    .no)
   (.ok (.inr X)))
  .no)
noncomputable def qh_4_st : qh_4_σ → Tr (qh_4_σ ⊕ qh_4_ω) := fun x => (qh_4_step (x.1) (x.2.1) (x.2.2))
noncomputable def qh_o4_1 (g X : LL) (i : Int) : Bool := is (X = [] ∧ i = 0 ∧ prodL g ≤ 100000 ∧ Typed tab (.slice 2) (.l g) ∧ (0 < prodL g → ∀ j : Nat, j < g.length → (nth (g.getD j []) 0).int ≠ 0))
noncomputable def qh_u4_1 (g X : LL) (i : Int) : LL := keysL g (prodL g).toNat
noncomputable def qh_4_fin (g X : LL) (i : Int) : Told qh_4_ω := (.leaf (qh_o4_1 g X i) (qh_u4_1 g X i))
def qh_4_sl (x : qh_4_σ) : List Slot := [⟨.val false [⟨.slice 2, .own true, TC.l (x.1)⟩], ⟨0, 0⟩⟩, ⟨.val false [⟨.slice 2, .own true, TC.l (x.2.1)⟩], ⟨0, 0⟩⟩, ⟨.val false [⟨.int .i64, .sh, TC.i (x.2.2)⟩], ⟨0, 0⟩⟩]
def qh_4_out : qh_4_ω → Ex × List Slot := (fun x => (.exit 0, [Slot.none, ⟨.val false [⟨.slice 2, .own true, TC.l x⟩], ⟨0, 0⟩⟩]))
noncomputable def qh_lo4 : List Slot → Option (Told (Ex × List Slot)) := fun s => match s with
  | [⟨.val false [⟨.slice 2, .own true, TC.l g⟩], ⟨0, 0⟩⟩, ⟨.val false [⟨.slice 2, .own true, TC.l X⟩], ⟨0, 0⟩⟩, ⟨.val false [⟨.int .i64, .sh, TC.i i⟩], ⟨0, 0⟩⟩] => some (((qh_4_fin g X i)).map qh_4_out)
  | _ => .none
noncomputable def qh_lo : LoopTeller := fun r s => bif Nat.beq r 4 then qh_lo4 s else .none
theorem qh_4_r (g X : LL) (i : Int) (fuel : Nat) : rounds (rnd tab FT D9 live 53 qh_lo 0 4) leave (fuel + 1) (qh_4_sl (g, X, i)) = ((qh_4_step g X i)).run (goOn (fun s => rounds (rnd tab FT D9 live 53 qh_lo 0 4) leave fuel (qh_4_sl s)) fun w => some (qh_4_out w)) := by kernel_rfl
theorem qh_4_h (g X : LL) (i : Int) (ow : qh_4_ω) : ((qh_4_fin g X i)).val = some ow → ∃ fuel, loopN qh_4_st fuel (g, X, i) = some ow := by
  intro h
  refine auto_leaf (R := keysL g (prodL g).toNat) (fun ho => ?_) h
  obtain ⟨rfl, rfl, hM, ht, hz⟩ := is_iff.1 ho
  have hlen := typed_room ht
  simp only [show (tab 2).bytes = 8 from rfl] at hlen
  have key := loopN_run (step := qh_4_st) (N := (prodL g).toNat) (fun k => (g, keysL g k, (k : Int))) (w := keysL g (prodL g).toNat) (fun k hk => ?_) ?_ (prodL g).toNat 0 (by omega)
  · exact ⟨_, Eq.trans (congrArg (loopN qh_4_st _) (by simp [keysL])) key⟩
  · have hz' := hz (by omega)
    show (qh_4_step g (keysL g k) (k : Int)).val = _
    unfold qh_4_step
    refine Tr.t (is_true ⟨rfl, rfl, ht⟩) ?_
    refine Tr.t (by rw [show qu_v g = prodL g from rfl]; simp; omega) (Tr.t (is_true ⟨ht, hz'⟩) ?_)
    rw [show qt_v g (k : Int) = coordsV g (k : Int) from rfl, qw_vv]
    refine Tr.t (is_true (by and_intros <;> first | rfl | (rw [coordsV_len]; omega) | (rw [coordsV_len]))) (Tr.t ?_ ?_)
    · unfold roomFor
      simp only [show (tab 2).bytes = 8 from rfl, List.length_append, List.length_singleton, keysL_len]
      omega
    · rw [Tr.val_ok, keysL_succ, wrap64 (i := (k : Int) + 1) (by omega) (by omega)]; rfl
  · show (qh_4_step g (keysL g (prodL g).toNat) (((prodL g).toNat : Nat) : Int)).val = _
    unfold qh_4_step
    refine Tr.t (is_true ⟨rfl, rfl, ht⟩) ?_
    refine Tr.n (by rw [show qu_v g = prodL g from rfl]; simp; omega) ?_
    rfl
theorem qh_is4 : LoopIs tab FT D9 live 53 qh_lo 0 4 := by
  refine loop_told (sl := qh_4_sl) (step := qh_4_st) (out := qh_4_out) (lor := qh_lo4) (fin := fun x => (qh_4_fin (x.1) (x.2.1) (x.2.2))) (fun _ => rfl) ?_ (fun x n => qh_4_r x.1 x.2.1 x.2.2 n) (fun x ow => qh_4_h x.1 x.2.1 x.2.2 ow)
  intro s t h
  unfold qh_lo4 at h
  split at h
  · cases h; exact ⟨(_, _, _), rfl, rfl⟩
  · cases h
noncomputable def qh_t (D C : LL) : Tr (LL) := (.ite ((qv_c D C) = true) (.ite ((qh_o4_1 (qv_v D C) [] (0 : Int)) = true) (.ok (qh_u4_1 (qv_v D C) [] (0 : Int)))
   .no)
  .no)
def qh_mk (p : LL) : Res := [(false, [⟨.slice 2, .own true, TC.l p⟩])]
noncomputable def qh_c (D C : LL) : Bool := ((qv_c D C) && ((qh_o4_1 (qv_v D C) [] (0 : Int)) && true))
noncomputable def qh_v (D C : LL) : LL := (qh_u4_1 (qv_v D C) [] (0 : Int))
theorem qh_l (D C : LL) : (qh_c D C) = true → (qh_t D C).val = some (qh_v D C) := by
  unfold qh_t qh_v qh_c
  exact fun h => (Tr.gb h fun h => (Tr.gb h fun h => rfl))
noncomputable def qh_S : List Arg → Option (Bool × Res) := fun xs => match xs with
  | [(false, [(.slice 2, TC.l D)]), (false, [(.slice 2, TC.l C)])] => some ((qh_c D C), qh_mk (qh_v D C))
  | _ => .none
theorem qh_e (D C : LL) : runF tab FT D9 live 53 qh_lo [(false, [(.slice 2, TC.l D)]), (false, [(.slice 2, TC.l C)])] = (qh_t D C).run fun p => some (qh_mk p) := by kernel_rfl
theorem qh_s : ∀ xs r, qh_S xs = some (true, r) → runF tab FT D9 live 53 qh_lo xs = some r := by
  intro xs r h
  unfold qh_S at h
  split at h
  · simp only [Option.some.injEq, Prod.mk.injEq] at h
    obtain ⟨h1, rfl⟩ := h
    exact fun_told (qh_e _ _) (qh_l _ _) h1
  · cases h
noncomputable def D10 : Dt := also D9 53 qh_S
theorem d10 : DOk Go.Proofs.Try.prog tab D10 := d9.also mixed_ok tab_ok names_ok (fnLoops_one (by kernel_rfl) qh_is4) qh_s
theorem qh_cc {D : LL} {C : LL} (hD : Typed tab (.slice 2) (.l D)) (hk : chunkOk D C = true) : (qh_c D C) = true := by
  unfold qh_c
  refine andT (by have hp := chunkOk_parts hk; exact is_true (p := Typed tab (.slice 2) (.l D) ∧ D.length = C.length ∧ C.all (inR 1 40) = true) ⟨hD, hp.1, hp.2.1⟩) ?_
  refine andT (by exact is_true ⟨rfl, rfl, keys_num hk, gridL_ty rfl hD, fun h => prod_pos h⟩) ?_
  rfl
theorem qh_vv (D C : LL) : qh_v D C = keysL (gridL D C) (prodL (gridL D C)).toNat := rfl
abbrev qk_2_σ := LL × Int × Int
abbrev qk_2_ω := (Unit) ⊕ (Unit)
noncomputable def qk_2_step (A : LL) (v i : Int) : Tr (qk_2_σ ⊕ qk_2_ω) := (.ite ((decide (i < (A.length : Int))) = true) (.ite ((0 : Int) ≤ i ∧ i < (A.length : Int)) (.ite (((nth (row A i) 0).int == v) = true) (.ok (.inr (.inl ())))
    (.ok (.inl (A, v, (IntKind.wrap .i64 (i + (1 : Int)))))))
   .no)
  (.ok (.inr (.inr ()))))
noncomputable def qk_2_st : qk_2_σ → Tr (qk_2_σ ⊕ qk_2_ω) := fun x => (qk_2_step (x.1) (x.2.1) (x.2.2))
noncomputable def qk_k2_1 (A : LL) (v i : Int) : Bool := A.all (fun x => !((nth x 0).int == v))
noncomputable def qk_o2_2 (A : LL) (v i : Int) : Bool := is (i = 0 ∧ A.length ≤ 140737488351232)
noncomputable def qk_o2_3 (A : LL) (v i : Int) : Bool := is (i = 0 ∧ A.length ≤ 140737488351232)
noncomputable def qk_2_fin (A : LL) (v i : Int) : Told qk_2_ω := (.br (qk_k2_1 A v i) (.leaf (qk_o2_2 A v i) (.inr ())) (.leaf (qk_o2_3 A v i) (.inl ())))
def qk_2_sl (x : qk_2_σ) : List Slot := [⟨.val false [⟨.slice 2, .sh, TC.l (x.1)⟩], ⟨0, 0⟩⟩, ⟨.val false [⟨.int .i64, .sh, TC.i (x.2.1)⟩], ⟨0, 0⟩⟩, ⟨.val false [⟨.int .i64, .sh, TC.i (x.2.2)⟩], ⟨0, 0⟩⟩]
def qk_2_out : qk_2_ω → Ex × List Slot := (Sum.elim (fun x => (.ret, [⟨.val false [⟨.bool, .sh, TC.b true⟩], ⟨0, 0⟩⟩])) (fun x => (.exit 0, [Slot.none])))
noncomputable def qk_lo2 : List Slot → Option (Told (Ex × List Slot)) := fun s => match s with
  | [⟨.val false [⟨.slice 2, .sh, TC.l A⟩], ⟨0, 0⟩⟩, ⟨.val false [⟨.int .i64, .sh, TC.i v⟩], ⟨0, 0⟩⟩, ⟨.val false [⟨.int .i64, .sh, TC.i i⟩], ⟨0, 0⟩⟩] => some (((qk_2_fin A v i)).map qk_2_out)
  | _ => .none
noncomputable def qk_lo : LoopTeller := fun r s => bif Nat.beq r 2 then qk_lo2 s else .none
theorem qk_2_r (A : LL) (v i : Int) (fuel : Nat) : rounds (rnd tab FT D10 live 56 qk_lo 0 2) leave (fuel + 1) (qk_2_sl (A, v, i)) = ((qk_2_step A v i)).run (goOn (fun s => rounds (rnd tab FT D10 live 56 qk_lo 0 2) leave fuel (qk_2_sl s)) fun w => some (qk_2_out w)) := by kernel_rfl
theorem qk_2_h (A : LL) (v i : Int) (ow : qk_2_ω) : ((qk_2_fin A v i)).val = some ow → ∃ fuel, loopN qk_2_st fuel (A, v, i) = some ow := by
  intro h
  have key : A.length ≤ 140737488351232 → loopN qk_2_st (A.length + 1) (A, v, (0 : Int)) = some (if A.all (fun x => !((nth x 0).int == v)) = true then (.inr ()) else (.inl ())) := by
    intro ht
    have hlen : A.length ≤ 140737488351232 := ht
    have key := loopN_scan (step := qk_2_st) A [] (fun x => !((nth x 0).int == v)) (fun a _ => a) (fun i a => (A, v, (i : Int))) (fun a => (.inr ())) (fun i a => (.inl ())) (fun i a hi => ?_) (fun a => ?_) A.length 0 () (by omega)
    · first | (rw [Nat.zero_add] at key; exact key) | exact key
    · skip
      show (qk_2_step A v (i : Int)).val = _
      unfold qk_2_step
      refine Tr.t (by simp; omega) ?_
      skip
      refine Tr.t (by first | omega | (constructor <;> omega)) ?_
      refine Tr.b2 (fun hP => ?_) (fun _ => rfl)
      rw [Tr.val_ok, wrap64 (i := (i : Int) + 1) (by omega) (by omega)]; rfl
    · show (qk_2_step A v (A.length : Int)).val = _
      refine Tr.n (by simp) ?_
      rfl
  simp only [qk_2_fin, Told.val] at h
  cases hk : A.all (fun x => !((nth x 0).int == v)) with
  | true =>
    rw [if_pos (show qk_k2_1 A v i = true from hk)] at h
    split at h
    · rename_i ho
      obtain ⟨rfl, ht⟩ := is_iff.1 ho
      cases h
      refine ⟨_, (key ht).trans ?_⟩
      rw [hk]; rfl
    · cases h
  | false =>
    rw [if_neg (show ¬qk_k2_1 A v i = true from by rw [show qk_k2_1 A v i = (A.all (fun x => !((nth x 0).int == v))) from rfl, hk]; simp)] at h
    split at h
    · rename_i ho
      obtain ⟨rfl, ht⟩ := is_iff.1 ho
      cases h
      refine ⟨_, (key ht).trans ?_⟩
      rw [hk]; rfl
    · cases h
theorem qk_is2 : LoopIs tab FT D10 live 56 qk_lo 0 2 := by
  refine loop_told (sl := qk_2_sl) (step := qk_2_st) (out := qk_2_out) (lor := qk_lo2) (fin := fun x => (qk_2_fin (x.1) (x.2.1) (x.2.2))) (fun _ => rfl) ?_ (fun x n => qk_2_r x.1 x.2.1 x.2.2 n) (fun x ow => qk_2_h x.1 x.2.1 x.2.2 ow)
  intro s t h
  unfold qk_lo2 at h
  split at h
  · cases h; exact ⟨(_, _, _), rfl, rfl⟩
  · cases h
noncomputable def qk_t (A : LL) (v : Int) : Tr (Bool) := (.ite ((qk_k2_1 A v (0 : Int)) = true) (.ite ((qk_o2_2 A v (0 : Int)) = true) (.ok false)
   .no)
  (.ite ((qk_o2_3 A v (0 : Int)) = true) (.ok true)
   .no))
def qk_mk (p : Bool) : Res := [(false, [⟨.bool, .sh, TC.b p⟩])]
noncomputable def qk_c (A : LL) (v : Int) : Bool := (bif (qk_k2_1 A v (0 : Int)) then ((qk_o2_2 A v (0 : Int)) && true) else ((qk_o2_3 A v (0 : Int)) && true))
noncomputable def qk_v (A : LL) (v : Int) : Bool := (bif (qk_k2_1 A v (0 : Int)) then false else true)
theorem qk_l (A : LL) (v : Int) : (qk_c A v) = true → (qk_t A v).val = some (qk_v A v) := by
  unfold qk_t qk_v qk_c
  exact fun h => (Tr.ss h (fun h => (Tr.gb h fun h => rfl)) (fun h => (Tr.gb h fun h => rfl)))
noncomputable def qk_S : List Arg → Option (Bool × Res) := fun xs => match xs with
  | [(false, [(.slice 2, TC.l A)]), (false, [(.int .i64, TC.i v)])] => some ((qk_c A v), qk_mk (qk_v A v))
  | _ => .none
theorem qk_e (A : LL) (v : Int) : runF tab FT D10 live 56 qk_lo [(false, [(.slice 2, TC.l A)]), (false, [(.int .i64, TC.i v)])] = (qk_t A v).run fun p => some (qk_mk p) := by kernel_rfl
theorem qk_s : ∀ xs r, qk_S xs = some (true, r) → runF tab FT D10 live 56 qk_lo xs = some r := by
  intro xs r h
  unfold qk_S at h
  split at h
  · simp only [Option.some.injEq, Prod.mk.injEq] at h
    obtain ⟨h1, rfl⟩ := h
    exact fun_told (qk_e _ _) (qk_l _ _) h1
  · cases h
noncomputable def D11 : Dt := also D10 56 qk_S
theorem d11 : DOk Go.Proofs.Try.prog tab D11 := d10.also mixed_ok tab_ok names_ok (fnLoops_one (by kernel_rfl) qk_is2) qk_s
theorem qk_cc {A : LL} {v : Int} (hl : A.length ≤ 140737488351232) : (qk_c A v) = true := by
  unfold qk_c
  refine bifT (fun b1 => ?_) (fun b1 => ?_)
  · skip
    refine andT (by exact is_true ⟨rfl, hl⟩) ?_
    rfl
  · skip
    refine andT (by exact is_true ⟨rfl, hl⟩) ?_
    rfl
theorem qd_row {A : LL} {x : List TC} (h : Typed tab (.slice 2) (.l A)) (hx : x ∈ A) : x.length = 1 ∧ [TC.i ((nth x 0).int)] = x := by
  obtain ⟨hl, hk⟩ := typed_elem h hx
  have e0 : TC.i ((nth x 0).int) = nth x 0 := typed_int_eq (hk 0 (by decide))
  refine ⟨hl, ?_⟩
  rw [e0]
  exact (row_eta hl).symm
abbrev qd_7_σ := LL × LL × LL × Int
abbrev qd_7_ω := (LL)
noncomputable def qd_7_step (X K Z : LL) (i : Int) : Tr (qd_7_σ ⊕ qd_7_ω) := (.ite ((decide (i < (Z.length : Int))) = true) (.ite ((0 : Int) ≤ i ∧ i < (Z.length : Int)) (.ite ((qk_c K ((nth (row Z i) 0).int)) = true) (.ite ((!(qk_v K ((nth (row Z i) 0).int))) = true) (.ite ((0 : Int) ≤ i ∧ i < (Z.length : Int)) (.ite (roomFor (tab 2) (X ++ [[TC.i ((nth (row Z i) 0).int)]]).length) (.ok (.inl ((X ++ [[TC.i ((nth (row Z i) 0).int)]]), K, Z, (IntKind.wrap .i64 (i + (1 : Int))))))
       .no)
      .no)
     (.ok (.inl (X, K, Z, (IntKind.wrap .i64 (i + (1 : Int)))))))
    .no)
   .no)
  (.ok (.inr X)))
noncomputable def qd_7_st : qd_7_σ → Tr (qd_7_σ ⊕ qd_7_ω) := fun x => (qd_7_step (x.1) (x.2.1) (x.2.2.1) (x.2.2.2))
noncomputable def qd_o7_1 (X K Z : LL) (i : Int) : Bool := is (X = [] ∧ i = 0 ∧ Typed tab (.slice 2) (.l Z) ∧ K.length ≤ 140737488351232)
noncomputable def qd_u7_1 (X K Z : LL) (i : Int) : LL := Z.filter (fun x => !(qk_v K (nth x 0).int))
noncomputable def qd_7_fin (X K Z : LL) (i : Int) : Told qd_7_ω := (.leaf (qd_o7_1 X K Z i) (qd_u7_1 X K Z i))
def qd_7_sl (x : qd_7_σ) : List Slot := [⟨.val false [⟨.slice 2, .own true, TC.l (x.1)⟩], ⟨0, 0⟩⟩, ⟨.val false [⟨.slice 2, .own true, TC.l (x.2.1)⟩], ⟨0, 0⟩⟩, ⟨.val false [⟨.slice 2, .own true, TC.l (x.2.2.1)⟩], ⟨0, 0⟩⟩, ⟨.val false [⟨.int .i64, .sh, TC.i (x.2.2.2)⟩], ⟨0, 0⟩⟩]
def qd_7_out : qd_7_ω → Ex × List Slot := (fun x => (.exit 0, [Slot.none, ⟨.val false [⟨.slice 2, .own true, TC.l x⟩], ⟨0, 0⟩⟩]))
noncomputable def qd_lo7 : List Slot → Option (Told (Ex × List Slot)) := fun s => match s with
  | [⟨.val false [⟨.slice 2, .own true, TC.l X⟩], ⟨0, 0⟩⟩, ⟨.val false [⟨.slice 2, .own true, TC.l K⟩], ⟨0, 0⟩⟩, ⟨.val false [⟨.slice 2, .own true, TC.l Z⟩], ⟨0, 0⟩⟩, ⟨.val false [⟨.int .i64, .sh, TC.i i⟩], ⟨0, 0⟩⟩] => some (((qd_7_fin X K Z i)).map qd_7_out)
  | _ => .none
noncomputable def qd_lo : LoopTeller := fun r s => bif Nat.beq r 7 then qd_lo7 s else .none
theorem qd_7_r (X K Z : LL) (i : Int) (fuel : Nat) : rounds (rnd tab FT D11 live 18 qd_lo 0 7) leave (fuel + 1) (qd_7_sl (X, K, Z, i)) = ((qd_7_step X K Z i)).run (goOn (fun s => rounds (rnd tab FT D11 live 18 qd_lo 0 7) leave fuel (qd_7_sl s)) fun w => some (qd_7_out w)) := by kernel_rfl
theorem qd_7_h (X K Z : LL) (i : Int) (ow : qd_7_ω) : ((qd_7_fin X K Z i)).val = some ow → ∃ fuel, loopN qd_7_st fuel (X, K, Z, i) = some ow := by
  intro h
  refine auto_leaf (R := Z.filter (fun x => !(qk_v K (nth x 0).int))) (fun ho => ?_) h
  obtain ⟨rfl, rfl, ht, hK⟩ := is_iff.1 ho
  have hlen := typed_room ht
  simp only [show (tab 2).bytes = 8 from rfl] at hlen
  have key := loopN_run (step := qd_7_st) (N := Z.length) (fun k => ((Z.take k).filter (fun x => !(qk_v K (nth x 0).int)), K, Z, (k : Int))) (w := Z.filter (fun x => !(qk_v K (nth x 0).int))) (fun k hk => ?_) ?_ Z.length 0 (by omega)
  · exact ⟨_, Eq.trans (congrArg (loopN qd_7_st _) (by simp)) key⟩
  · show (qd_7_step ((Z.take k).filter (fun x => !(qk_v K (nth x 0).int))) K Z (k : Int)).val = _
    unfold qd_7_step
    have hr := (qd_row (x := row Z (k : Int)) ht (by rw [row_nat]; exact mem_getD hk)).2
    have htk : Z.take (k + 1) = Z.take k ++ [row Z (k : Int)] := by rw [List.take_succ_eq_append_getElem hk, row_nat, getD_at hk]
    have hfl : ((Z.take k).filter (fun x => !(qk_v K (nth x 0).int))).length ≤ k := Nat.le_trans (List.length_filter_le _ _) (by rw [List.length_take]; omega)
    refine Tr.t (by simp; omega) (Tr.t (by constructor <;> omega) (Tr.t (qk_cc hK) ?_))
    rw [htk, List.filter_append]
    have hw : IntKind.wrap .i64 ((k : Int) + 1) = ((k + 1 : Nat) : Int) := by rw [wrap64 (by omega) (by omega)]; rfl
    cases hP : qk_v K (nth (row Z (k : Int)) 0).int with
    | true =>
      refine Tr.n (by simp) ?_
      rw [Tr.val_ok, hw, List.filter_cons_of_neg (by simp [hP])]
      simp
    | false =>
      refine Tr.t (by simp) (Tr.t (by constructor <;> omega) (Tr.t ?_ ?_))
      · unfold roomFor
        simp only [show (tab 2).bytes = 8 from rfl, List.length_append, List.length_singleton]
        omega
      · rw [Tr.val_ok, hw, hr, List.filter_cons_of_pos (by simp [hP])]
        rfl
  · show (qd_7_step ((Z.take Z.length).filter (fun x => !(qk_v K (nth x 0).int))) K Z (Z.length : Int)).val = _
    unfold qd_7_step
    refine Tr.n (by simp) ?_
    rw [Tr.val_ok, List.take_length]
theorem qd_is7 : LoopIs tab FT D11 live 18 qd_lo 0 7 := by
  refine loop_told (sl := qd_7_sl) (step := qd_7_st) (out := qd_7_out) (lor := qd_lo7) (fin := fun x => (qd_7_fin (x.1) (x.2.1) (x.2.2.1) (x.2.2.2))) (fun _ => rfl) ?_ (fun x n => qd_7_r x.1 x.2.1 x.2.2.1 x.2.2.2 n) (fun x ow => qd_7_h x.1 x.2.1 x.2.2.1 x.2.2.2 ow)
  intro s t h
  unfold qd_lo7 at h
  split at h
  · cases h; exact ⟨(_, _, _, _), rfl, rfl⟩
  · cases h
noncomputable def qd_t (D F C : LL) : Tr (LL) := (.ite ((qbe_c D F C) = true) (.ite ((!(qbe_v D F C)) = true) (.ok ([]))
   (.ite ((qh_c F C) = true) (.ite ((qh_c D C) = true) (.ite ((qd_o7_1 [] (qh_v F C) (qh_v D C) (0 : Int)) = true) (.ok (qd_u7_1 [] (qh_v F C) (qh_v D C) (0 : Int)))
      .no)
     .no)
    .no))
  .no)
def qd_mk (p : LL) : Res := [(false, [⟨.slice 2, .own true, TC.l p⟩])]
noncomputable def qd_c (D F C : LL) : Bool := ((qbe_c D F C) && (bif (!(qbe_v D F C)) then true else ((qh_c F C) && ((qh_c D C) && ((qd_o7_1 [] (qh_v F C) (qh_v D C) (0 : Int)) && true)))))
noncomputable def qd_v (D F C : LL) : LL := (bif (!(qbe_v D F C)) then [] else (qd_u7_1 [] (qh_v F C) (qh_v D C) (0 : Int)))
theorem qd_l (D F C : LL) : (qd_c D F C) = true → (qd_t D F C).val = some (qd_v D F C) := by
  unfold qd_t qd_v qd_c
  exact fun h => (Tr.gb h fun h => (Tr.ss h (fun h => rfl) (fun h => (Tr.gb h fun h => (Tr.gb h fun h => (Tr.gb h fun h => rfl))))))
noncomputable def qd_S : List Arg → Option (Bool × Res) := fun xs => match xs with
  | [(false, [(.slice 2, TC.l D)]), (false, [(.slice 2, TC.l F)]), (false, [(.slice 2, TC.l C)])] => some ((qd_c D F C), qd_mk (qd_v D F C))
  | _ => .none
theorem qd_e (D F C : LL) : runF tab FT D11 live 18 qd_lo [(false, [(.slice 2, TC.l D)]), (false, [(.slice 2, TC.l F)]), (false, [(.slice 2, TC.l C)])] = (qd_t D F C).run fun p => some (qd_mk p) := by kernel_rfl
theorem qd_s : ∀ xs r, qd_S xs = some (true, r) → runF tab FT D11 live 18 qd_lo xs = some r := by
  intro xs r h
  unfold qd_S at h
  split at h
  · simp only [Option.some.injEq, Prod.mk.injEq] at h
    obtain ⟨h1, rfl⟩ := h
    exact fun_told (qd_e _ _ _) (qd_l _ _ _) h1
  · cases h
noncomputable def D12 : Dt := also D11 18 qd_S
theorem d12 : DOk Go.Proofs.Try.prog tab D12 := d11.also mixed_ok tab_ok names_ok (fnLoops_one (by kernel_rfl) qd_is7) qd_s
theorem qd_cc {D : LL} {F : LL} {C : LL} (hD : Typed tab (.slice 2) (.l D)) (hF : Typed tab (.slice 2) (.l F)) (hC : Typed tab (.slice 2) (.l C)) : (qd_c D F C) = true := by
  unfold qd_c
  refine andT (by exact is_true ⟨qe_cc hD hC, qe_cc hF hC⟩) ?_
  refine bifT (fun b1 => ?_) (fun b1 => ?_)
  · skip
    rfl
  · skip
    refine andT (by exact qh_cc hF (two_ok (notF b1)).2) ?_
    refine andT (by exact qh_cc hD (two_ok (notF b1)).1) ?_
    refine andT (by exact is_true ⟨rfl, rfl, keysG_ty rfl rfl (two_ok (notF b1)).1, by have := keysG_ty (e := 2) rfl rfl (two_ok (notF b1)).2; have := typed_room this; simp only [show (tab 2).bytes = 8 from rfl] at this; show (keysG F C).length ≤ _; omega⟩) ?_
    rfl
theorem qd_vv (D F C : LL) : qd_v D F C = lostV D F C := by
  unfold qd_v lostV qbe_v
  rw [qe_vv, qe_vv]
  cases chunkOk D C <;> cases chunkOk F C <;> rfl
noncomputable def qbf_t (a0 a1 a2 : Int) : Tr (Bool) := (.ite ((decide (a0 ≥ a1)) = true) (.ok (decide (a0 ≤ a2)))
  (.ok false))
def qbf_mk (p : Bool) : Res := [(false, [⟨.bool, .sh, TC.b p⟩])]
noncomputable def qbf_c (a0 a1 a2 : Int) : Bool := true
noncomputable def qbf_v (a0 a1 a2 : Int) : Bool := (bif (decide (a0 ≥ a1)) then (decide (a0 ≤ a2)) else false)
theorem qbf_l (a0 a1 a2 : Int) : (qbf_c a0 a1 a2) = true → (qbf_t a0 a1 a2).val = some (qbf_v a0 a1 a2) := by
  intro h
  skip
  unfold qbf_t qbf_v
  exact (Tr.s rfl rfl)
noncomputable def qbf_S : List Arg → Option (Bool × Res) := fun xs => match xs with
  | [(false, [(.int .i64, TC.i a0)]), (false, [(.int .i64, TC.i a1)]), (false, [(.int .i64, TC.i a2)])] => some (true, qbf_mk (qbf_v a0 a1 a2))
  | _ => .none
theorem qbf_e (a0 a1 a2 : Int) : runF tab FT D12 live 128 noLoops [(false, [(.int .i64, TC.i a0)]), (false, [(.int .i64, TC.i a1)]), (false, [(.int .i64, TC.i a2)])] = (qbf_t a0 a1 a2).run fun p => some (qbf_mk p) := by kernel_rfl
theorem qbf_s : ∀ xs r, qbf_S xs = some (true, r) → runF tab FT D12 live 128 noLoops xs = some r := by
  intro xs r h
  unfold qbf_S at h
  split at h
  · simp only [Option.some.injEq, Prod.mk.injEq] at h
    obtain ⟨h1, rfl⟩ := h
    exact fun_told (qbf_e _ _ _) (qbf_l _ _ _) rfl
  · cases h
noncomputable def D13 : Dt := also D12 128 qbf_S
theorem d13 : DOk Go.Proofs.Try.prog tab D13 := d12.also mixed_ok tab_ok names_ok noLoops_ok qbf_s
noncomputable def qbd_t (a0 : Int) (a1 a2 : List TC) : Tr (Bool) := .ok (!(qbf_v a0 ((nth a1 0).int) ((nth a2 0).int)))
def qbd_mk (p : Bool) : Res := [(false, [⟨.bool, .sh, TC.b p⟩])]
noncomputable def qbd_c (a0 : Int) (a1 a2 : List TC) : Bool := true
noncomputable def qbd_v (a0 : Int) (a1 a2 : List TC) : Bool := (!(qbf_v a0 ((nth a1 0).int) ((nth a2 0).int)))
theorem qbd_l (a0 : Int) (a1 a2 : List TC) : (qbd_c a0 a1 a2) = true → (qbd_t a0 a1 a2).val = some (qbd_v a0 a1 a2) := by
  intro h
  skip
  unfold qbd_t qbd_v
  exact rfl
noncomputable def qbd_S : List Arg → Option (Bool × Res) := fun xs => match xs with
  | [(false, [(.int .i64, TC.i a0)]), (false, [(.ptr 2, TC.p a1)]), (false, [(.ptr 2, TC.p a2)])] => some (true, qbd_mk (qbd_v a0 a1 a2))
  | _ => .none
theorem qbd_e (a0 : Int) (a1 a2 : List TC) : runF tab FT D13 live 127 noLoops [(false, [(.int .i64, TC.i a0)]), (false, [(.ptr 2, TC.p a1)]), (false, [(.ptr 2, TC.p a2)])] = (qbd_t a0 a1 a2).run fun p => some (qbd_mk p) := by kernel_rfl
theorem qbd_s : ∀ xs r, qbd_S xs = some (true, r) → runF tab FT D13 live 127 noLoops xs = some r := by
  intro xs r h
  unfold qbd_S at h
  split at h
  · simp only [Option.some.injEq, Prod.mk.injEq] at h
    obtain ⟨h1, rfl⟩ := h
    exact fun_told (qbd_e _ _ _) (qbd_l _ _ _) rfl
  · cases h
noncomputable def D14 : Dt := also D13 127 qbd_S
theorem d14 : DOk Go.Proofs.Try.prog tab D14 := d13.also mixed_ok tab_ok names_ok noLoops_ok qbd_s
abbrev qc_2_σ := LL × List TC × List TC × Int × Int
abbrev qc_2_ω := (Int) ⊕ (Unit)
noncomputable def qc_2_step (A : LL) (lw hg : List TC) (m i : Int) : Tr (qc_2_σ ⊕ qc_2_ω) := (.ite ((decide (i < m)) = true) (.ite ((0 : Int) ≤ i ∧ i < (A.length : Int)) (.ite ((!(qbf_v ((nth (row A i) 0).int) ((nth lw 0).int) ((nth hg 0).int))) = true) (.ok (.inr (.inl i)))
    (.ok (.inl (A, lw, hg, m, (IntKind.wrap .i64 (i + (1 : Int)))))))
   .no)
  (.ok (.inr (.inr ()))))
noncomputable def qc_2_st : qc_2_σ → Tr (qc_2_σ ⊕ qc_2_ω) := fun x => (qc_2_step (x.1) (x.2.1) (x.2.2.1) (x.2.2.2.1) (x.2.2.2.2))
noncomputable def qc_k2_1 (A : LL) (lw hg : List TC) (m i : Int) : Bool := A.all (inR (nth lw 0).int (nth hg 0).int)
noncomputable def qc_o2_2 (A : LL) (lw hg : List TC) (m i : Int) : Bool := is (i = 0 ∧ Typed tab (.slice 2) (.l A) ∧ m = (A.length : Int))
noncomputable def qc_o2_3 (A : LL) (lw hg : List TC) (m i : Int) : Bool := is (i = 0 ∧ Typed tab (.slice 2) (.l A) ∧ m = (A.length : Int))
noncomputable def qc_u2_3 (A : LL) (lw hg : List TC) (m i : Int) : Int := (Int.ofNat (A.findIdx fun x => !(inR (nth lw 0).int (nth hg 0).int) x))
noncomputable def qc_2_fin (A : LL) (lw hg : List TC) (m i : Int) : Told qc_2_ω := (.br (qc_k2_1 A lw hg m i) (.leaf (qc_o2_2 A lw hg m i) (.inr ())) (.leaf (qc_o2_3 A lw hg m i) (.inl (qc_u2_3 A lw hg m i))))
def qc_2_sl (x : qc_2_σ) : List Slot := [⟨.val false [⟨.slice 2, .sh, TC.l (x.1)⟩], ⟨0, 0⟩⟩, ⟨.val false [⟨.func, .sh, TC.f 127 [(2, x.2.1), (2, x.2.2.1)]⟩], ⟨0, 0⟩⟩, ⟨.val false [⟨.int .i64, .sh, TC.i (x.2.2.2.1)⟩], ⟨0, 0⟩⟩, ⟨.val false [⟨.int .i64, .sh, TC.i (x.2.2.2.2)⟩], ⟨0, 0⟩⟩]
def qc_2_out : qc_2_ω → Ex × List Slot := (Sum.elim (fun x => (.ret, [⟨.val false [⟨.int .i64, .sh, TC.i x⟩], ⟨0, 0⟩⟩])) (fun x => (.exit 0, [Slot.none])))
noncomputable def qc_lo2 : List Slot → Option (Told (Ex × List Slot)) := fun s => match s with
  | [⟨.val false [⟨.slice 2, .sh, TC.l A⟩], ⟨0, 0⟩⟩, ⟨.val false [⟨.func, .sh, TC.f 127 [(2, lw), (2, hg)]⟩], ⟨0, 0⟩⟩, ⟨.val false [⟨.int .i64, .sh, TC.i m⟩], ⟨0, 0⟩⟩, ⟨.val false [⟨.int .i64, .sh, TC.i i⟩], ⟨0, 0⟩⟩] => some (((qc_2_fin A lw hg m i)).map qc_2_out)
  | _ => .none
noncomputable def qc_lo : LoopTeller := fun r s => bif Nat.beq r 2 then qc_lo2 s else .none
theorem qc_2_r (A : LL) (lw hg : List TC) (m i : Int) (fuel : Nat) : rounds (rnd tab FT D14 live 138 qc_lo 0 2) leave (fuel + 1) (qc_2_sl (A, lw, hg, m, i)) = ((qc_2_step A lw hg m i)).run (goOn (fun s => rounds (rnd tab FT D14 live 138 qc_lo 0 2) leave fuel (qc_2_sl s)) fun w => some (qc_2_out w)) := by kernel_rfl
theorem qc_2_h (A : LL) (lw hg : List TC) (m i : Int) (ow : qc_2_ω) : ((qc_2_fin A lw hg m i)).val = some ow → ∃ fuel, loopN qc_2_st fuel (A, lw, hg, m, i) = some ow := by
  intro h
  have key : Typed tab (.slice 2) (.l A) → loopN qc_2_st (A.length + 1) (A, lw, hg, (A.length : Int), (0 : Int)) = some (if A.all (inR (nth lw 0).int (nth hg 0).int) = true then (.inr ()) else (.inl (Int.ofNat (A.findIdx fun x => !(inR (nth lw 0).int (nth hg 0).int) x)))) := by
    intro ht
    have hlen : A.length ≤ 140737488351232 := by have := typed_room ht; simp only [show (tab 2).bytes = 8 from rfl] at this; omega
    have key := loopN_scan (step := qc_2_st) A [] (inR (nth lw 0).int (nth hg 0).int) (fun a _ => a) (fun i a => (A, lw, hg, (A.length : Int), (i : Int))) (fun a => (.inr ())) (fun i a => (.inl (i : Int))) (fun i a hi => ?_) (fun a => ?_) A.length 0 () (by omega)
    · first | (rw [Nat.zero_add] at key; exact key) | exact key
    · skip
      show (qc_2_step A lw hg (A.length : Int) (i : Int)).val = _
      unfold qc_2_step
      refine Tr.t (by simp; omega) ?_
      skip
      refine Tr.t (by first | omega | (constructor <;> omega)) ?_
      refine Tr.b (P := (inR (nth lw 0).int (nth hg 0).int) (A.getD i [])) (fun hP => ?_) (fun _ => rfl)
      rw [Tr.val_ok, wrap64 (i := (i : Int) + 1) (by omega) (by omega)]; rfl
    · show (qc_2_step A lw hg (A.length : Int) (A.length : Int)).val = _
      refine Tr.n (by simp) ?_
      rfl
  simp only [qc_2_fin, Told.val] at h
  cases hk : A.all (inR (nth lw 0).int (nth hg 0).int) with
  | true =>
    rw [if_pos (show qc_k2_1 A lw hg m i = true from hk)] at h
    split at h
    · rename_i ho
      obtain ⟨rfl, ht, rfl⟩ := is_iff.1 ho
      cases h
      refine ⟨_, (key ht).trans ?_⟩
      rw [hk]; rfl
    · cases h
  | false =>
    rw [if_neg (show ¬qc_k2_1 A lw hg m i = true from by rw [show qc_k2_1 A lw hg m i = (A.all (inR (nth lw 0).int (nth hg 0).int)) from rfl, hk]; simp)] at h
    split at h
    · rename_i ho
      obtain ⟨rfl, ht, rfl⟩ := is_iff.1 ho
      cases h
      refine ⟨_, (key ht).trans ?_⟩
      rw [hk]; rfl
    · cases h
theorem qc_is2 : LoopIs tab FT D14 live 138 qc_lo 0 2 := by
  refine loop_told (sl := qc_2_sl) (step := qc_2_st) (out := qc_2_out) (lor := qc_lo2) (fin := fun x => (qc_2_fin (x.1) (x.2.1) (x.2.2.1) (x.2.2.2.1) (x.2.2.2.2))) (fun _ => rfl) ?_ (fun x n => qc_2_r x.1 x.2.1 x.2.2.1 x.2.2.2.1 x.2.2.2.2 n) (fun x ow => qc_2_h x.1 x.2.1 x.2.2.1 x.2.2.2.1 x.2.2.2.2 ow)
  intro s t h
  unfold qc_lo2 at h
  split at h
  · cases h; exact ⟨(_, _, _, _, _), rfl, rfl⟩
  · cases h
noncomputable def qc_t (A : LL) (lw hg : List TC) : Tr (Int) := (.ite ((qc_k2_1 A lw hg (A.length : Int) (0 : Int)) = true) (.ite ((qc_o2_2 A lw hg (A.length : Int) (0 : Int)) = true) (.ok (-1 : Int))
   .no)
  (.ite ((qc_o2_3 A lw hg (A.length : Int) (0 : Int)) = true) (.ok (qc_u2_3 A lw hg (A.length : Int) (0 : Int)))
   .no))
def qc_mk (p : Int) : Res := [(false, [⟨.int .i64, .sh, TC.i p⟩])]
noncomputable def qc_c (A : LL) (lw hg : List TC) : Bool := is (Typed tab (.slice 2) (.l A))
noncomputable def qc_v (A : LL) (lw hg : List TC) : Int := if (A.all (inR (nth lw 0).int (nth hg 0).int)) = true then -1 else (Int.ofNat (A.findIdx fun x => !(inR (nth lw 0).int (nth hg 0).int) x))
theorem qc_l (A : LL) (lw hg : List TC) : (qc_c A lw hg) = true → (qc_t A lw hg).val = some (qc_v A lw hg) := by
  intro h
  have ht := is_iff.1 h
  unfold qc_t
  cases hk : A.all (inR (nth lw 0).int (nth hg 0).int) with
  | true =>
    refine Tr.t (show A.all (inR (nth lw 0).int (nth hg 0).int) = true from hk) ?_
    refine Tr.t (by first | (apply is_true; and_intros <;> (first | rfl | assumption | (apply qe_cc <;> assumption) | (apply qh_cc <;> assumption) | (apply qk_cc <;> assumption) | (apply qd_cc <;> assumption) | (first | (apply is_true; and_intros <;> (first | rfl | assumption | (apply qe_cc <;> assumption) | (apply qh_cc <;> assumption) | (apply qk_cc <;> assumption) | (apply qd_cc <;> assumption) | (first | (apply is_true; and_intros <;> (first | rfl | assumption | (apply qe_cc <;> assumption) | (apply qh_cc <;> assumption) | (apply qk_cc <;> assumption) | (apply qd_cc <;> assumption) | (first | (apply is_true; and_intros <;> (first | rfl | assumption | (apply qe_cc <;> assumption) | (apply qh_cc <;> assumption) | (apply qk_cc <;> assumption) | (apply qd_cc <;> assumption))) | (apply qe_cc <;> assumption) | (apply qh_cc <;> assumption) | (apply qk_cc <;> assumption) | (apply qd_cc <;> assumption)))) | (apply qe_cc <;> assumption) | (apply qh_cc <;> assumption) | (apply qk_cc <;> assumption) | (apply qd_cc <;> assumption)))) | (apply qe_cc <;> assumption) | (apply qh_cc <;> assumption) | (apply qk_cc <;> assumption) | (apply qd_cc <;> assumption)))) | (apply qe_cc <;> assumption) | (apply qh_cc <;> assumption) | (apply qk_cc <;> assumption) | (apply qd_cc <;> assumption)) ?_
    show _ = some (qc_v A lw hg); unfold qc_v; rw [if_pos hk]; rfl
  | false =>
    refine Tr.n (show ¬A.all (inR (nth lw 0).int (nth hg 0).int) = true from by rw [hk]; simp) ?_
    refine Tr.t (by first | (apply is_true; and_intros <;> (first | rfl | assumption | (apply qe_cc <;> assumption) | (apply qh_cc <;> assumption) | (apply qk_cc <;> assumption) | (apply qd_cc <;> assumption) | (first | (apply is_true; and_intros <;> (first | rfl | assumption | (apply qe_cc <;> assumption) | (apply qh_cc <;> assumption) | (apply qk_cc <;> assumption) | (apply qd_cc <;> assumption) | (first | (apply is_true; and_intros <;> (first | rfl | assumption | (apply qe_cc <;> assumption) | (apply qh_cc <;> assumption) | (apply qk_cc <;> assumption) | (apply qd_cc <;> assumption) | (first | (apply is_true; and_intros <;> (first | rfl | assumption | (apply qe_cc <;> assumption) | (apply qh_cc <;> assumption) | (apply qk_cc <;> assumption) | (apply qd_cc <;> assumption))) | (apply qe_cc <;> assumption) | (apply qh_cc <;> assumption) | (apply qk_cc <;> assumption) | (apply qd_cc <;> assumption)))) | (apply qe_cc <;> assumption) | (apply qh_cc <;> assumption) | (apply qk_cc <;> assumption) | (apply qd_cc <;> assumption)))) | (apply qe_cc <;> assumption) | (apply qh_cc <;> assumption) | (apply qk_cc <;> assumption) | (apply qd_cc <;> assumption)))) | (apply qe_cc <;> assumption) | (apply qh_cc <;> assumption) | (apply qk_cc <;> assumption) | (apply qd_cc <;> assumption)) ?_
    show _ = some (qc_v A lw hg); unfold qc_v; rw [if_neg (by rw [hk]; simp)]; rfl
noncomputable def qc_S : List Arg → Option (Bool × Res) := fun xs => match xs with
  | [(false, [(.slice 2, TC.l A)]), (false, [(.func, TC.f 127 [(2, lw), (2, hg)])])] => some ((qc_c A lw hg), qc_mk (qc_v A lw hg))
  | _ => .none
theorem qc_e (A : LL) (lw hg : List TC) : runF tab FT D14 live 138 qc_lo [(false, [(.slice 2, TC.l A)]), (false, [(.func, TC.f 127 [(2, lw), (2, hg)])])] = (qc_t A lw hg).run fun p => some (qc_mk p) := by kernel_rfl
theorem qc_s : ∀ xs r, qc_S xs = some (true, r) → runF tab FT D14 live 138 qc_lo xs = some r := by
  intro xs r h
  unfold qc_S at h
  split at h
  · simp only [Option.some.injEq, Prod.mk.injEq] at h
    obtain ⟨h1, rfl⟩ := h
    exact fun_told (qc_e _ _ _) (qc_l _ _ _) h1
  · cases h
noncomputable def D15 : Dt := also D14 138 qc_S
theorem d15 : DOk Go.Proofs.Try.prog tab D15 := d14.also mixed_ok tab_ok names_ok (fnLoops_one (by kernel_rfl) qc_is2) qc_s
noncomputable def qz_t (A : LL) (lw hg : List TC) : Tr (Bool) := (.ite ((qc_c A lw hg) = true) (.ok (decide ((qc_v A lw hg) ≥ (0 : Int))))
  .no)
def qz_mk (p : Bool) : Res := [(false, [⟨.bool, .sh, TC.b p⟩])]
noncomputable def qz_c (A : LL) (lw hg : List TC) : Bool := is (Typed tab (.slice 2) (.l A))
noncomputable def qz_v (A : LL) (lw hg : List TC) : Bool := !(A.all (inR (nth lw 0).int (nth hg 0).int))
theorem qz_l (A : LL) (lw hg : List TC) : (qz_c A lw hg) = true → (qz_t A lw hg).val = some (qz_v A lw hg) := by
  intro h
  have ht := is_iff.1 h
  unfold qz_t
  refine Tr.t (by first | (apply is_true; and_intros <;> (first | rfl | assumption | (apply qe_cc <;> assumption) | (apply qh_cc <;> assumption) | (apply qk_cc <;> assumption) | (apply qd_cc <;> assumption) | (first | (apply is_true; and_intros <;> (first | rfl | assumption | (apply qe_cc <;> assumption) | (apply qh_cc <;> assumption) | (apply qk_cc <;> assumption) | (apply qd_cc <;> assumption) | (first | (apply is_true; and_intros <;> (first | rfl | assumption | (apply qe_cc <;> assumption) | (apply qh_cc <;> assumption) | (apply qk_cc <;> assumption) | (apply qd_cc <;> assumption) | (first | (apply is_true; and_intros <;> (first | rfl | assumption | (apply qe_cc <;> assumption) | (apply qh_cc <;> assumption) | (apply qk_cc <;> assumption) | (apply qd_cc <;> assumption))) | (apply qe_cc <;> assumption) | (apply qh_cc <;> assumption) | (apply qk_cc <;> assumption) | (apply qd_cc <;> assumption)))) | (apply qe_cc <;> assumption) | (apply qh_cc <;> assumption) | (apply qk_cc <;> assumption) | (apply qd_cc <;> assumption)))) | (apply qe_cc <;> assumption) | (apply qh_cc <;> assumption) | (apply qk_cc <;> assumption) | (apply qd_cc <;> assumption)))) | (apply qe_cc <;> assumption) | (apply qh_cc <;> assumption) | (apply qk_cc <;> assumption) | (apply qd_cc <;> assumption)) ?_
  show some (decide (qc_v A lw hg ≥ 0)) = some (!(A.all (inR (nth lw 0).int (nth hg 0).int)))
  unfold qc_v
  cases hk : A.all (inR (nth lw 0).int (nth hg 0).int) <;> simp
noncomputable def qz_S : List Arg → Option (Bool × Res) := fun xs => match xs with
  | [(false, [(.slice 2, TC.l A)]), (false, [(.func, TC.f 127 [(2, lw), (2, hg)])])] => some ((qz_c A lw hg), qz_mk (qz_v A lw hg))
  | _ => .none
theorem qz_e (A : LL) (lw hg : List TC) : runF tab FT D15 live 126 noLoops [(false, [(.slice 2, TC.l A)]), (false, [(.func, TC.f 127 [(2, lw), (2, hg)])])] = (qz_t A lw hg).run fun p => some (qz_mk p) := by kernel_rfl
theorem qz_s : ∀ xs r, qz_S xs = some (true, r) → runF tab FT D15 live 126 noLoops xs = some r := by
  intro xs r h
  unfold qz_S at h
  split at h
  · simp only [Option.some.injEq, Prod.mk.injEq] at h
    obtain ⟨h1, rfl⟩ := h
    exact fun_told (qz_e _ _ _) (qz_l _ _ _) h1
  · cases h
noncomputable def D16 : Dt := also D15 126 qz_S
theorem d16 : DOk Go.Proofs.Try.prog tab D16 := d15.also mixed_ok tab_ok names_ok noLoops_ok qz_s
noncomputable def qba_t (a0 : LL) (a1 a2 : Int) : Tr (Bool) := (.ite ((qz_c a0 [TC.i a1] [TC.i a2]) = true) (.ok (!(qz_v a0 [TC.i a1] [TC.i a2])))
  .no)
def qba_mk (p : Bool) : Res := [(false, [⟨.bool, .sh, TC.b p⟩])]
noncomputable def qba_c (a0 : LL) (a1 a2 : Int) : Bool := (qz_c a0 [TC.i a1] [TC.i a2])
noncomputable def qba_v (a0 : LL) (a1 a2 : Int) : Bool := (!(qz_v a0 [TC.i a1] [TC.i a2]))
theorem qba_l (a0 : LL) (a1 a2 : Int) : (qba_c a0 a1 a2) = true → (qba_t a0 a1 a2).val = some (qba_v a0 a1 a2) := by
  intro h
  have hc0 : (qz_c a0 [TC.i a1] [TC.i a2]) = true := h
  unfold qba_t
  exact (Tr.t hc0 rfl)
noncomputable def qba_S : List Arg → Option (Bool × Res) := fun xs => match xs with
  | [(false, [(.slice 2, TC.l a0)]), (false, [(.int .i64, TC.i a1)]), (false, [(.int .i64, TC.i a2)])] => some ((qba_c a0 a1 a2), qba_mk (qba_v a0 a1 a2))
  | _ => .none
theorem qba_e (a0 : LL) (a1 a2 : Int) : runF tab FT D16 live 81 noLoops [(false, [(.slice 2, TC.l a0)]), (false, [(.int .i64, TC.i a1)]), (false, [(.int .i64, TC.i a2)])] = (qba_t a0 a1 a2).run fun p => some (qba_mk p) := by kernel_rfl
theorem qba_s : ∀ xs r, qba_S xs = some (true, r) → runF tab FT D16 live 81 noLoops xs = some r := by
  intro xs r h
  unfold qba_S at h
  split at h
  · simp only [Option.some.injEq, Prod.mk.injEq] at h
    obtain ⟨h1, rfl⟩ := h
    exact fun_told (qba_e _ _ _) (qba_l _ _ _) h1
  · cases h
noncomputable def D17 : Dt := also D16 81 qba_S
theorem d17 : DOk Go.Proofs.Try.prog tab D17 := d16.also mixed_ok tab_ok names_ok noLoops_ok qba_s
abbrev qs_3_σ := Int × LL × Int × Int
abbrev qs_3_ω := (Int)
noncomputable def qs_3_step (n : Int) (A : LL) (m i : Int) : Tr (qs_3_σ ⊕ qs_3_ω) := (.ite ((decide (i < m)) = true) (.ite ((0 : Int) ≤ i ∧ i < (A.length : Int)) (.ok (.inl ((IntKind.wrap .i64 (n * (nth (row A i) 0).int)), A, m, (IntKind.wrap .i64 (i + (1 : Int))))))
   .no)
  (.ok (.inr n)))
noncomputable def qs_3_st : qs_3_σ → Tr (qs_3_σ ⊕ qs_3_ω) := fun x => (qs_3_step (x.1) (x.2.1) (x.2.2.1) (x.2.2.2))
noncomputable def qs_o3_1 (n : Int) (A : LL) (m i : Int) : Bool := is (i = 0 ∧ n = 1 ∧ Typed tab (.slice 2) (.l A) ∧ m = (A.length : Int))
noncomputable def qs_u3_1 (n : Int) (A : LL) (m i : Int) : Int := (A.foldl mulR (1 : Int))
noncomputable def qs_3_fin (n : Int) (A : LL) (m i : Int) : Told qs_3_ω := (.leaf (qs_o3_1 n A m i) (qs_u3_1 n A m i))
def qs_3_sl (x : qs_3_σ) : List Slot := [⟨.val false [⟨.int .i64, .sh, TC.i (x.1)⟩], ⟨0, 0⟩⟩, ⟨.val false [⟨.slice 2, .sh, TC.l (x.2.1)⟩], ⟨0, 0⟩⟩, ⟨.val false [⟨.int .i64, .sh, TC.i (x.2.2.1)⟩], ⟨0, 0⟩⟩, ⟨.val false [⟨.int .i64, .sh, TC.i (x.2.2.2)⟩], ⟨0, 0⟩⟩]
def qs_3_out : qs_3_ω → Ex × List Slot := (fun x => (.exit 0, [Slot.none, ⟨.val false [⟨.int .i64, .sh, TC.i x⟩], ⟨0, 0⟩⟩]))
noncomputable def qs_lo3 : List Slot → Option (Told (Ex × List Slot)) := fun s => match s with
  | [⟨.val false [⟨.int .i64, .sh, TC.i n⟩], ⟨0, 0⟩⟩, ⟨.val false [⟨.slice 2, .sh, TC.l A⟩], ⟨0, 0⟩⟩, ⟨.val false [⟨.int .i64, .sh, TC.i m⟩], ⟨0, 0⟩⟩, ⟨.val false [⟨.int .i64, .sh, TC.i i⟩], ⟨0, 0⟩⟩] => some (((qs_3_fin n A m i)).map qs_3_out)
  | _ => .none
noncomputable def qs_lo : LoopTeller := fun r s => bif Nat.beq r 3 then qs_lo3 s else .none
theorem qs_3_r (n : Int) (A : LL) (m i : Int) (fuel : Nat) : rounds (rnd tab FT D17 live 82 qs_lo 0 3) leave (fuel + 1) (qs_3_sl (n, A, m, i)) = ((qs_3_step n A m i)).run (goOn (fun s => rounds (rnd tab FT D17 live 82 qs_lo 0 3) leave fuel (qs_3_sl s)) fun w => some (qs_3_out w)) := by kernel_rfl
theorem qs_3_h (n : Int) (A : LL) (m i : Int) (ow : qs_3_ω) : ((qs_3_fin n A m i)).val = some ow → ∃ fuel, loopN qs_3_st fuel (n, A, m, i) = some ow := by
  intro h
  have key : Typed tab (.slice 2) (.l A) → loopN qs_3_st (A.length + 1) ((1 : Int), A, (A.length : Int), (0 : Int)) = some ((A.foldl mulR (1 : Int))) := by
    intro ht
    have hlen : A.length ≤ 140737488351232 := by have := typed_room ht; simp only [show (tab 2).bytes = 8 from rfl] at this; omega
    have key := loopN_scan (step := qs_3_st) A [] (fun _ => true) mulR (fun i a => (a, A, (A.length : Int), (i : Int))) (fun a => a) (fun i a => a) (fun i a hi => ?_) (fun a => ?_) A.length 0 (1 : Int) (by omega)
    · first | (rw [Nat.zero_add] at key; exact key) | exact key | (simpa using key)
    · skip
      show (qs_3_step a A (A.length : Int) (i : Int)).val = _
      unfold qs_3_step
      refine Tr.t (by simp; omega) ?_
      show _ = some _
      refine Tr.t (by first | omega | (constructor <;> omega)) ?_
      rw [Tr.val_ok, wrap64 (i := (i : Int) + 1) (by omega) (by omega)]; rfl
    · show (qs_3_step a A (A.length : Int) (A.length : Int)).val = _
      refine Tr.n (by simp) ?_
      rfl
  simp only [qs_3_fin, Told.val] at h
  split at h
  · rename_i ho
    obtain ⟨rfl, rfl, ht, rfl⟩ := is_iff.1 ho
    cases h
    exact ⟨_, key ht⟩
  · cases h
theorem qs_is3 : LoopIs tab FT D17 live 82 qs_lo 0 3 := by
  refine loop_told (sl := qs_3_sl) (step := qs_3_st) (out := qs_3_out) (lor := qs_lo3) (fin := fun x => (qs_3_fin (x.1) (x.2.1) (x.2.2.1) (x.2.2.2))) (fun _ => rfl) ?_ (fun x n => qs_3_r x.1 x.2.1 x.2.2.1 x.2.2.2 n) (fun x ow => qs_3_h x.1 x.2.1 x.2.2.1 x.2.2.2 ow)
  intro s t h
  unfold qs_lo3 at h
  split at h
  · cases h; exact ⟨(_, _, _, _), rfl, rfl⟩
  · cases h
noncomputable def qs_t (A : LL) : Tr (Int) := (.ite ((qs_o3_1 (1 : Int) A (A.length : Int) (0 : Int)) = true) (.ok (qs_u3_1 (1 : Int) A (A.length : Int) (0 : Int)))
  .no)
def qs_mk (p : Int) : Res := [(false, [⟨.int .i64, .sh, TC.i p⟩])]
noncomputable def qs_c (A : LL) : Bool := (qs_o3_1 (1 : Int) A (A.length : Int) (0 : Int))
noncomputable def qs_v (A : LL) : Int := (qs_u3_1 (1 : Int) A (A.length : Int) (0 : Int))
theorem qs_l (A : LL) : (qs_c A) = true → (qs_t A).val = some (qs_v A) := by
  intro h
  have hc0 : (qs_o3_1 (1 : Int) A (A.length : Int) (0 : Int)) = true := h
  unfold qs_t
  exact (Tr.t hc0 rfl)
noncomputable def qs_S : List Arg → Option (Bool × Res) := fun xs => match xs with
  | [(false, [(.slice 2, TC.l A)])] => some ((qs_c A), qs_mk (qs_v A))
  | _ => .none
theorem qs_e (A : LL) : runF tab FT D17 live 82 qs_lo [(false, [(.slice 2, TC.l A)])] = (qs_t A).run fun p => some (qs_mk p) := by kernel_rfl
theorem qs_s : ∀ xs r, qs_S xs = some (true, r) → runF tab FT D17 live 82 qs_lo xs = some r := by
  intro xs r h
  unfold qs_S at h
  split at h
  · simp only [Option.some.injEq, Prod.mk.injEq] at h
    obtain ⟨h1, rfl⟩ := h
    exact fun_told (qs_e _) (qs_l _) h1
  · cases h
noncomputable def D18 : Dt := also D17 82 qs_S
theorem d18 : DOk Go.Proofs.Try.prog tab D18 := d17.also mixed_ok tab_ok names_ok (fnLoops_one (by kernel_rfl) qs_is3) qs_s
noncomputable def qbc_t (A : LL) : Tr (Bool) := (.ite ((decide ((A.length : Int) ≤ (3 : Int))) = true) (.ite ((qba_c A (0 : Int) (40 : Int)) = true) (.ite ((qba_v A (0 : Int) (40 : Int)) = true) (.ite ((qs_c A) = true) (.ok (decide ((qs_v A) ≤ (600 : Int))))
     .no)
    (.ok false))
   .no)
  (.ok false))
def qbc_mk (p : Bool) : Res := [(false, [⟨.bool, .sh, TC.b p⟩])]
noncomputable def qbc_c (A : LL) : Bool := is (((qba_c A (0 : Int) (40 : Int)) = true) ∧ ((qs_c A) = true))
noncomputable def qbc_v (A : LL) : Bool := (bif (decide ((A.length : Int) ≤ (3 : Int))) then (bif (qba_v A (0 : Int) (40 : Int)) then (decide ((qs_v A) ≤ (600 : Int))) else false) else false)
theorem qbc_l (A : LL) : (qbc_c A) = true → (qbc_t A).val = some (qbc_v A) := by
  intro h
  obtain ⟨g0, g1⟩ := is_iff.1 h
  unfold qbc_t qbc_v
  exact (Tr.s (Tr.t g0 (Tr.s (Tr.t g1 rfl) rfl)) rfl)
noncomputable def qbc_S : List Arg → Option (Bool × Res) := fun xs => match xs with
  | [(false, [(.slice 2, TC.l A)])] => some ((qbc_c A), qbc_mk (qbc_v A))
  | _ => .none
theorem qbc_e (A : LL) : runF tab FT D18 live 80 noLoops [(false, [(.slice 2, TC.l A)])] = (qbc_t A).run fun p => some (qbc_mk p) := by kernel_rfl
theorem qbc_s : ∀ xs r, qbc_S xs = some (true, r) → runF tab FT D18 live 80 noLoops xs = some r := by
  intro xs r h
  unfold qbc_S at h
  split at h
  · simp only [Option.some.injEq, Prod.mk.injEq] at h
    obtain ⟨h1, rfl⟩ := h
    exact fun_told (qbc_e _) (qbc_l _) h1
  · cases h
noncomputable def D19 : Dt := also D18 80 qbc_S
theorem d19 : DOk Go.Proofs.Try.prog tab D19 := d18.also mixed_ok tab_ok names_ok noLoops_ok qbc_s
theorem qbc_vv (A : LL) : qbc_v A = dimsOk A := by
  show (bif decide ((A.length : Int) ≤ 3) then bif (!(!(A.all (inR 0 40)))) then decide (prodL A ≤ 600) else false else false) = _
  unfold dimsOk
  cases decide ((A.length : Int) ≤ 3) <;> cases A.all (inR 0 40) <;> rfl
abbrev qx_3_σ := LL × LL × LL × Int × Int
abbrev qx_3_ω := (LL)
noncomputable def qx_3_step (C X D : LL) (m i : Int) : Tr (qx_3_σ ⊕ qx_3_ω) := (.ite ((decide (i < m)) = true) (.ite ((0 : Int) ≤ i ∧ i < (D.length : Int)) (.ite ((0 : Int) ≤ i ∧ i < (C.length : Int)) (.ite ((0 : Int) ≤ i ∧ i < (C.length : Int)) (.ite ((nth (row C i) 0).int ≠ 0) (.ite (roomFor (tab 2) (X ++ [[TC.i (IntKind.wrap .i64 (Int.tdiv (IntKind.wrap .i64 ((IntKind.wrap .i64 ((nth (row D i) 0).int + (nth (row C i) 0).int)) - (1 : Int))) ((nth (row C i) 0).int)))]]).length) (.ok (.inl (C, (X ++ [[TC.i (IntKind.wrap .i64 (Int.tdiv (IntKind.wrap .i64 ((IntKind.wrap .i64 ((nth (row D i) 0).int + (nth (row C i) 0).int)) - (1 : Int))) ((nth (row C i) 0).int)))]]), D, m, (IntKind.wrap .i64 (i + (1 : Int))))))
       .no)
      .no)
     .no)
    .no)
   .no)
  (.ok (.inr X)))
noncomputable def qx_3_st : qx_3_σ → Tr (qx_3_σ ⊕ qx_3_ω) := fun x => (qx_3_step (x.1) (x.2.1) (x.2.2.1) (x.2.2.2.1) (x.2.2.2.2))
noncomputable def qx_o3_1 (C X D : LL) (m i : Int) : Bool := is (X = [] ∧ i = 0 ∧ Typed tab (.slice 2) (.l D) ∧ D.length = C.length ∧ C.all (inR 1 40) = true ∧ m = (D.length : Int))
noncomputable def qx_u3_1 (C X D : LL) (m i : Int) : LL := gridL D C
noncomputable def qx_3_fin (C X D : LL) (m i : Int) : Told qx_3_ω := (.leaf (qx_o3_1 C X D m i) (qx_u3_1 C X D m i))
def qx_3_sl (x : qx_3_σ) : List Slot := [⟨.val false [⟨.slice 2, .sh, TC.l (x.1)⟩], ⟨0, 0⟩⟩, ⟨.val false [⟨.slice 2, .own true, TC.l (x.2.1)⟩], ⟨0, 0⟩⟩, ⟨.val false [⟨.slice 2, .sh, TC.l (x.2.2.1)⟩], ⟨0, 0⟩⟩, ⟨.val false [⟨.int .i64, .sh, TC.i (x.2.2.2.1)⟩], ⟨0, 0⟩⟩, ⟨.val false [⟨.int .i64, .sh, TC.i (x.2.2.2.2)⟩], ⟨0, 0⟩⟩]
def qx_3_out : qx_3_ω → Ex × List Slot := (fun x => (.exit 0, [Slot.none, ⟨.val false [⟨.slice 2, .own true, TC.l x⟩], ⟨0, 0⟩⟩]))
noncomputable def qx_lo3 : List Slot → Option (Told (Ex × List Slot)) := fun s => match s with
  | [⟨.val false [⟨.slice 2, .sh, TC.l C⟩], ⟨0, 0⟩⟩, ⟨.val false [⟨.slice 2, .own true, TC.l X⟩], ⟨0, 0⟩⟩, ⟨.val false [⟨.slice 2, .sh, TC.l D⟩], ⟨0, 0⟩⟩, ⟨.val false [⟨.int .i64, .sh, TC.i m⟩], ⟨0, 0⟩⟩, ⟨.val false [⟨.int .i64, .sh, TC.i i⟩], ⟨0, 0⟩⟩] => some (((qx_3_fin C X D m i)).map qx_3_out)
  | _ => .none
noncomputable def qx_lo : LoopTeller := fun r s => bif Nat.beq r 3 then qx_lo3 s else .none
theorem qx_3_r (C X D : LL) (m i : Int) (fuel : Nat) : rounds (rnd tab FT D19 live 83 qx_lo 0 3) leave (fuel + 1) (qx_3_sl (C, X, D, m, i)) = ((qx_3_step C X D m i)).run (goOn (fun s => rounds (rnd tab FT D19 live 83 qx_lo 0 3) leave fuel (qx_3_sl s)) fun w => some (qx_3_out w)) := by kernel_rfl
theorem qx_3_h (C X D : LL) (m i : Int) (ow : qx_3_ω) : ((qx_3_fin C X D m i)).val = some ow → ∃ fuel, loopN qx_3_st fuel (C, X, D, m, i) = some ow := by
  intro h
  simp only [qx_3_fin, Told.val] at h
  split at h
  · rename_i ho
    obtain ⟨rfl, rfl, ht, hl, hc, rfl⟩ := is_iff.1 ho
    cases h
    have hlen : D.length ≤ 17592186044404 := by have := typed_room ht; simp only [show (tab 2).bytes = 8 from rfl] at this; omega
    have hg : (gridL D C).length = D.length := by simp [gridL, hl]
    refine ⟨_, loopN_build (step := qx_3_st) (gridL D C) (fun i X => (C, X, D, (D.length : Int), (i : Int))) _ (fun i hi => ?_) ?_⟩
    · have hi' : i < D.length := by omega
      rw [gridL_at hl hi]
      show (qx_3_step C ((gridL D C).take i) D (D.length : Int) (i : Int)).val = _
      unfold qx_3_step
      refine Tr.t (by simp; omega) ?_
      refine Tr.t (by constructor <;> omega) ?_
      refine Tr.t (by constructor <;> omega) ?_
      refine Tr.t (by constructor <;> omega) ?_
      refine Tr.t (inR_1 hc (by omega)) ?_
      refine Tr.t (by unfold roomFor; simp only [show (tab 2).bytes = 8 from rfl, List.length_append, List.length_take, List.length_singleton]; omega) ?_
      rw [Tr.val_ok, wrap64 (i := (i : Int) + 1) (by omega) (by omega)]; rfl
    · show (qx_3_step C (gridL D C) D (D.length : Int) ((gridL D C).length : Int)).val = _
      refine Tr.n (by simp [hg]) ?_
      rfl
  · cases h
theorem qx_is3 : LoopIs tab FT D19 live 83 qx_lo 0 3 := by
  refine loop_told (sl := qx_3_sl) (step := qx_3_st) (out := qx_3_out) (lor := qx_lo3) (fin := fun x => (qx_3_fin (x.1) (x.2.1) (x.2.2.1) (x.2.2.2.1) (x.2.2.2.2))) (fun _ => rfl) ?_ (fun x n => qx_3_r x.1 x.2.1 x.2.2.1 x.2.2.2.1 x.2.2.2.2 n) (fun x ow => qx_3_h x.1 x.2.1 x.2.2.1 x.2.2.2.1 x.2.2.2.2 ow)
  intro s t h
  unfold qx_lo3 at h
  split at h
  · cases h; exact ⟨(_, _, _, _, _), rfl, rfl⟩
  · cases h
noncomputable def qx_t (D C : LL) : Tr (LL) := (.ite ((qx_o3_1 C [] D (D.length : Int) (0 : Int)) = true) (.ok (qx_u3_1 C [] D (D.length : Int) (0 : Int)))
  .no)
def qx_mk (p : LL) : Res := [(false, [⟨.slice 2, .own true, TC.l p⟩])]
noncomputable def qx_c (D C : LL) : Bool := is (Typed tab (.slice 2) (.l D) ∧ D.length = C.length ∧ C.all (inR 1 40) = true)
noncomputable def qx_v (D C : LL) : LL := gridL D C
theorem qx_l (D C : LL) : (qx_c D C) = true → (qx_t D C).val = some (qx_v D C) := by
  intro h
  obtain ⟨ht, hl, hc⟩ := is_iff.1 h
  unfold qx_t
  exact Tr.t (is_true ⟨rfl, rfl, ht, hl, hc, rfl⟩) rfl
noncomputable def qx_S : List Arg → Option (Bool × Res) := fun xs => match xs with
  | [(false, [(.slice 2, TC.l D)]), (false, [(.slice 2, TC.l C)])] => some ((qx_c D C), qx_mk (qx_v D C))
  | _ => .none
theorem qx_e (D C : LL) : runF tab FT D19 live 83 qx_lo [(false, [(.slice 2, TC.l D)]), (false, [(.slice 2, TC.l C)])] = (qx_t D C).run fun p => some (qx_mk p) := by kernel_rfl
theorem qx_s : ∀ xs r, qx_S xs = some (true, r) → runF tab FT D19 live 83 qx_lo xs = some r := by
  intro xs r h
  unfold qx_S at h
  split at h
  · simp only [Option.some.injEq, Prod.mk.injEq] at h
    obtain ⟨h1, rfl⟩ := h
    exact fun_told (qx_e _ _) (qx_l _ _) h1
  · cases h
noncomputable def D20 : Dt := also D19 83 qx_S
theorem d20 : DOk Go.Proofs.Try.prog tab D20 := d19.also mixed_ok tab_ok names_ok (fnLoops_one (by kernel_rfl) qx_is3) qx_s
noncomputable def qm_t (D C : LL) : Tr (Bool) := (.ite ((qbc_c D) = true) (.ite ((!(qbc_v D)) = true) (.ok false)
   (.ite ((!((C.length : Int) == (D.length : Int))) = true) (.ok false)
    (.ite ((qba_c C (1 : Int) (40 : Int)) = true) (.ite ((!(qba_v C (1 : Int) (40 : Int))) = true) (.ok false)
      (.ite ((qs_c C) = true) (.ite ((decide ((qs_v C) > (64 : Int))) = true) (.ok false)
        (.ite ((qx_c D C) = true) (.ite ((qba_c (qx_v D C) (0 : Int) (16 : Int)) = true) (.ite ((qba_v (qx_v D C) (0 : Int) (16 : Int)) = true) (.ite ((qs_c (qx_v D C)) = true) (.ok (decide ((qs_v (qx_v D C)) ≤ (256 : Int))))
            .no)
           (.ok false))
          .no)
         .no))
       .no))
     .no)))
  .no)
def qm_mk (p : Bool) : Res := [(false, [⟨.bool, .sh, TC.b p⟩])]
noncomputable def qm_c (D C : LL) : Bool := ((qbc_c D) && (bif (!(qbc_v D)) then true else (bif (!((C.length : Int) == (D.length : Int))) then true else ((qba_c C (1 : Int) (40 : Int)) && (bif (!(qba_v C (1 : Int) (40 : Int))) then true else ((qs_c C) && (bif (decide ((qs_v C) > (64 : Int))) then true else ((qx_c D C) && ((qba_c (qx_v D C) (0 : Int) (16 : Int)) && (bif (qba_v (qx_v D C) (0 : Int) (16 : Int)) then ((qs_c (qx_v D C)) && true) else true))))))))))
noncomputable def qm_v (D C : LL) : Bool := (bif (!(qbc_v D)) then false else (bif (!((C.length : Int) == (D.length : Int))) then false else (bif (!(qba_v C (1 : Int) (40 : Int))) then false else (bif (decide ((qs_v C) > (64 : Int))) then false else (bif (qba_v (qx_v D C) (0 : Int) (16 : Int)) then (decide ((qs_v (qx_v D C)) ≤ (256 : Int))) else false)))))
theorem qm_l (D C : LL) : (qm_c D C) = true → (qm_t D C).val = some (qm_v D C) := by
  unfold qm_t qm_v qm_c
  exact fun h => (Tr.gb h fun h => (Tr.ss h (fun h => rfl) (fun h => (Tr.ss h (fun h => rfl) (fun h => (Tr.gb h fun h => (Tr.ss h (fun h => rfl) (fun h => (Tr.gb h fun h => (Tr.ss h (fun h => rfl) (fun h => (Tr.gb h fun h => (Tr.gb h fun h => (Tr.ss h (fun h => (Tr.gb h fun h => rfl)) (fun h => rfl)))))))))))))))
noncomputable def qm_S : List Arg → Option (Bool × Res) := fun xs => match xs with
  | [(false, [(.slice 2, TC.l D)]), (false, [(.slice 2, TC.l C)])] => some ((qm_c D C), qm_mk (qm_v D C))
  | _ => .none
theorem qm_e (D C : LL) : runF tab FT D20 live 37 noLoops [(false, [(.slice 2, TC.l D)]), (false, [(.slice 2, TC.l C)])] = (qm_t D C).run fun p => some (qm_mk p) := by kernel_rfl
theorem qm_s : ∀ xs r, qm_S xs = some (true, r) → runF tab FT D20 live 37 noLoops xs = some r := by
  intro xs r h
  unfold qm_S at h
  split at h
  · simp only [Option.some.injEq, Prod.mk.injEq] at h
    obtain ⟨h1, rfl⟩ := h
    exact fun_told (qm_e _ _) (qm_l _ _) h1
  · cases h
noncomputable def D21 : Dt := also D20 37 qm_S
theorem d21 : DOk Go.Proofs.Try.prog tab D21 := d20.also mixed_ok tab_ok names_ok noLoops_ok qm_s
theorem qm_cc {D : LL} {C : LL} (hD : Typed tab (.slice 2) (.l D)) (hC : Typed tab (.slice 2) (.l C)) : (qm_c D C) = true := by
  unfold qm_c
  refine andT (by first | (apply is_true; and_intros <;> (first | rfl | assumption | (apply qe_cc <;> assumption) | (apply qh_cc <;> assumption) | (apply qk_cc <;> assumption) | (apply qd_cc <;> assumption) | (first | (apply is_true; and_intros <;> (first | rfl | assumption | (apply qe_cc <;> assumption) | (apply qh_cc <;> assumption) | (apply qk_cc <;> assumption) | (apply qd_cc <;> assumption) | (first | (apply is_true; and_intros <;> (first | rfl | assumption | (apply qe_cc <;> assumption) | (apply qh_cc <;> assumption) | (apply qk_cc <;> assumption) | (apply qd_cc <;> assumption) | (first | (apply is_true; and_intros <;> (first | rfl | assumption | (apply qe_cc <;> assumption) | (apply qh_cc <;> assumption) | (apply qk_cc <;> assumption) | (apply qd_cc <;> assumption))) | (apply qe_cc <;> assumption) | (apply qh_cc <;> assumption) | (apply qk_cc <;> assumption) | (apply qd_cc <;> assumption)))) | (apply qe_cc <;> assumption) | (apply qh_cc <;> assumption) | (apply qk_cc <;> assumption) | (apply qd_cc <;> assumption)))) | (apply qe_cc <;> assumption) | (apply qh_cc <;> assumption) | (apply qk_cc <;> assumption) | (apply qd_cc <;> assumption)))) | (apply qe_cc <;> assumption) | (apply qh_cc <;> assumption) | (apply qk_cc <;> assumption) | (apply qd_cc <;> assumption)) ?_
  refine bifT (fun b1 => ?_) (fun b1 => ?_)
  · skip
    rfl
  · skip
    refine bifT (fun b2 => ?_) (fun b2 => ?_)
    · skip
      rfl
    · skip
      refine andT (by first | (apply is_true; and_intros <;> (first | rfl | assumption | (apply qe_cc <;> assumption) | (apply qh_cc <;> assumption) | (apply qk_cc <;> assumption) | (apply qd_cc <;> assumption) | (first | (apply is_true; and_intros <;> (first | rfl | assumption | (apply qe_cc <;> assumption) | (apply qh_cc <;> assumption) | (apply qk_cc <;> assumption) | (apply qd_cc <;> assumption) | (first | (apply is_true; and_intros <;> (first | rfl | assumption | (apply qe_cc <;> assumption) | (apply qh_cc <;> assumption) | (apply qk_cc <;> assumption) | (apply qd_cc <;> assumption) | (first | (apply is_true; and_intros <;> (first | rfl | assumption | (apply qe_cc <;> assumption) | (apply qh_cc <;> assumption) | (apply qk_cc <;> assumption) | (apply qd_cc <;> assumption))) | (apply qe_cc <;> assumption) | (apply qh_cc <;> assumption) | (apply qk_cc <;> assumption) | (apply qd_cc <;> assumption)))) | (apply qe_cc <;> assumption) | (apply qh_cc <;> assumption) | (apply qk_cc <;> assumption) | (apply qd_cc <;> assumption)))) | (apply qe_cc <;> assumption) | (apply qh_cc <;> assumption) | (apply qk_cc <;> assumption) | (apply qd_cc <;> assumption)))) | (apply qe_cc <;> assumption) | (apply qh_cc <;> assumption) | (apply qk_cc <;> assumption) | (apply qd_cc <;> assumption)) ?_
      refine bifT (fun b3 => ?_) (fun b3 => ?_)
      · skip
        rfl
      · skip
        refine andT (by first | (apply is_true; and_intros <;> (first | rfl | assumption | (apply qe_cc <;> assumption) | (apply qh_cc <;> assumption) | (apply qk_cc <;> assumption) | (apply qd_cc <;> assumption) | (first | (apply is_true; and_intros <;> (first | rfl | assumption | (apply qe_cc <;> assumption) | (apply qh_cc <;> assumption) | (apply qk_cc <;> assumption) | (apply qd_cc <;> assumption) | (first | (apply is_true; and_intros <;> (first | rfl | assumption | (apply qe_cc <;> assumption) | (apply qh_cc <;> assumption) | (apply qk_cc <;> assumption) | (apply qd_cc <;> assumption) | (first | (apply is_true; and_intros <;> (first | rfl | assumption | (apply qe_cc <;> assumption) | (apply qh_cc <;> assumption) | (apply qk_cc <;> assumption) | (apply qd_cc <;> assumption))) | (apply qe_cc <;> assumption) | (apply qh_cc <;> assumption) | (apply qk_cc <;> assumption) | (apply qd_cc <;> assumption)))) | (apply qe_cc <;> assumption) | (apply qh_cc <;> assumption) | (apply qk_cc <;> assumption) | (apply qd_cc <;> assumption)))) | (apply qe_cc <;> assumption) | (apply qh_cc <;> assumption) | (apply qk_cc <;> assumption) | (apply qd_cc <;> assumption)))) | (apply qe_cc <;> assumption) | (apply qh_cc <;> assumption) | (apply qk_cc <;> assumption) | (apply qd_cc <;> assumption)) ?_
        refine bifT (fun b4 => ?_) (fun b4 => ?_)
        · skip
          rfl
        · skip
          refine andT (by exact is_true (p := Typed tab (.slice 2) (.l D) ∧ D.length = C.length ∧ C.all (inR 1 40) = true) ⟨hD, lenEq b2, nnF b3⟩) ?_
          refine andT (by exact is_true (gridL_ty rfl hD)) ?_
          refine bifT (fun b5 => ?_) (fun b5 => ?_)
          · skip
            refine andT (by exact is_true ⟨rfl, rfl, gridL_ty rfl hD, rfl⟩) ?_
            rfl
          · skip
            rfl
theorem qm_vv (D C : LL) : qm_v D C = chunkOk D C := by
  show (bif (!(qbc_v D)) then false else bif (!((C.length : Int) == (D.length : Int))) then false else bif (!(!(!(C.all (inR 1 40))))) then false else bif decide (prodL C > 64) then false else bif (!(!((gridL D C).all (inR 0 16)))) then decide (prodL (gridL D C) ≤ 256) else false) = _
  rw [qbc_vv]
  unfold chunkOk
  rw [show decide (prodL C > 64) = !decide (prodL C ≤ 64) from by rw [← decide_not]; simp]
  cases dimsOk D <;> cases ((C.length : Int) == (D.length : Int)) <;> cases C.all (inR 1 40) <;> cases (gridL D C).all (inR 0 16) <;> cases decide (prodL C ≤ 64) <;> rfl
noncomputable def qbh_c (A : LL) (x : Int) : Bool := is (Typed tab (.slice 2) (.l A) ∧ ∀ j : Nat, j < A.length → (nth (A.getD j []) 0).int ≠ 0)
noncomputable def qbh_v (A : LL) (x : Int) : LL := coordsV A x
def qbh_mk (p : LL) : Res := [(false, [⟨.slice 2, .own true, TC.l p⟩])]
noncomputable def qbh_S : List Arg → Option (Bool × Res) := fun xs => match xs with
  | [(false, [(.slice 2, TC.l A)]), (false, [(.int .i64, TC.i x)])] => some ((qbh_c A x), qbh_mk (qbh_v A x))
  | _ => .none
noncomputable def D22 : Dt := also D21 101 qbh_S
theorem d22 : DOk Go.Proofs.Try.prog tab D22 := d21.alsoC names_ok (c := _) Go.Proofs.Try.func101 rfl (by
  intro xs r h w S hargs0 hS hargs
  unfold qbh_S at h
  split at h
  · rename_i A x
    simp only [Option.some.injEq, Prod.mk.injEq] at h
    obtain ⟨h1, rfl⟩ := h
    obtain ⟨u, us, rfl, ha, hr⟩ := args_cons hargs
    obtain ⟨u2, us2, rfl, hb, hr2⟩ := args_cons hr
    have := args_nil hr2
    subst this
    obtain ⟨ht, hz⟩ := is_iff.1 h1
    have hlen := typed_room ht
    simp only [show (tab 2).bytes = 8 from rfl] at hlen
    rw [rep_int' (arg_rep hb)]
    exact coords_told hS (arg_rep ha) hz hlen
  · cases h)
noncomputable def qy_f3 (A : LL) (m i n : Int) : (Int) ⊕ ((Int)) := (.inl (IntKind.wrap .i64 ((IntKind.wrap .i64 (n * (16 : Int))) + (nth (row A i) 0).int)))
noncomputable def qy_e3 (A : LL) (m n : Int) : (Int) := n
noncomputable def qy_R3 (n : Int) (A : LL) (m i : Int) : (Int) := iter (fun i a => (qy_f3 A m (i : Int) a)) (fun a => (qy_e3 A m a)) (A.length) 0 n
abbrev qy_3_σ := Int × LL × Int × Int
abbrev qy_3_ω := (Int)
noncomputable def qy_3_step (n : Int) (A : LL) (m i : Int) : Tr (qy_3_σ ⊕ qy_3_ω) := (.ite ((decide (i < m)) = true) (.ite ((0 : Int) ≤ i ∧ i < (A.length : Int)) (.ok (.inl ((IntKind.wrap .i64 ((IntKind.wrap .i64 (n * (16 : Int))) + (nth (row A i) 0).int)), A, m, (IntKind.wrap .i64 (i + (1 : Int))))))
   .no)
  (.ok (.inr n)))
noncomputable def qy_3_st : qy_3_σ → Tr (qy_3_σ ⊕ qy_3_ω) := fun x => (qy_3_step (x.1) (x.2.1) (x.2.2.1) (x.2.2.2))
noncomputable def qy_o3_1 (n : Int) (A : LL) (m i : Int) : Bool := is (i = 0 ∧ n = 0 ∧ A.length ≤ 140737488351232 ∧ m = (A.length : Int))
noncomputable def qy_u3_1 (n : Int) (A : LL) (m i : Int) : Int := (qy_R3 n A m i)
noncomputable def qy_3_fin (n : Int) (A : LL) (m i : Int) : Told qy_3_ω := (.leaf (qy_o3_1 n A m i) (qy_u3_1 n A m i))
def qy_3_sl (x : qy_3_σ) : List Slot := [⟨.val false [⟨.int .i64, .sh, TC.i (x.1)⟩], ⟨0, 0⟩⟩, ⟨.val false [⟨.slice 2, .sh, TC.l (x.2.1)⟩], ⟨0, 0⟩⟩, ⟨.val false [⟨.int .i64, .sh, TC.i (x.2.2.1)⟩], ⟨0, 0⟩⟩, ⟨.val false [⟨.int .i64, .sh, TC.i (x.2.2.2)⟩], ⟨0, 0⟩⟩]
def qy_3_out : qy_3_ω → Ex × List Slot := (fun x => (.exit 0, [Slot.none, ⟨.val false [⟨.int .i64, .sh, TC.i x⟩], ⟨0, 0⟩⟩]))
noncomputable def qy_lo3 : List Slot → Option (Told (Ex × List Slot)) := fun s => match s with
  | [⟨.val false [⟨.int .i64, .sh, TC.i n⟩], ⟨0, 0⟩⟩, ⟨.val false [⟨.slice 2, .sh, TC.l A⟩], ⟨0, 0⟩⟩, ⟨.val false [⟨.int .i64, .sh, TC.i m⟩], ⟨0, 0⟩⟩, ⟨.val false [⟨.int .i64, .sh, TC.i i⟩], ⟨0, 0⟩⟩] => some (((qy_3_fin n A m i)).map qy_3_out)
  | _ => .none
noncomputable def qy_lo : LoopTeller := fun r s => bif Nat.beq r 3 then qy_lo3 s else .none
theorem qy_3_r (n : Int) (A : LL) (m i : Int) (fuel : Nat) : rounds (rnd tab FT D22 live 100 qy_lo 0 3) leave (fuel + 1) (qy_3_sl (n, A, m, i)) = ((qy_3_step n A m i)).run (goOn (fun s => rounds (rnd tab FT D22 live 100 qy_lo 0 3) leave fuel (qy_3_sl s)) fun w => some (qy_3_out w)) := by kernel_rfl
theorem qy_R3_eq (A : LL) : qy_R3 0 A (A.length : Int) 0 = keyL A := by
  unfold qy_R3
  refine (iter_each (g := (fun i n => IntKind.wrap .i64 ((IntKind.wrap .i64 (n * 16)) + (nth (row A (i : Int)) 0).int))) (fin := fun a => qy_e3 A (A.length : Int) a) fun j a hj => ?_)
  unfold qy_f3
  rfl
theorem qy_3_h (n : Int) (A : LL) (m i : Int) (ow : qy_3_ω) : ((qy_3_fin n A m i)).val = some ow → ∃ fuel, loopN qy_3_st fuel (n, A, m, i) = some ow := by
  refine auto_leaf (R := (qy_R3 n A m i)) ?_
  intro ho
  have ho : is (i = 0 ∧ n = 0 ∧ A.length ≤ 140737488351232 ∧ m = (A.length : Int)) = true := ho
  obtain ⟨rfl, rfl, hlen, rfl⟩ := is_iff.1 ho
  skip
  refine ⟨(A.length) + 1, ?_⟩
  refine iter_loop (step := qy_3_st) (A.length) (fun i a => (qy_f3 A (A.length : Int) (i : Int) a)) (fun a => (qy_e3 A (A.length : Int) a)) (fun i a => (a, A, (A.length : Int), (i : Int))) (fun _ _ => True) trivial (fun i a hi hI => ⟨?_, fun _ _ => trivial⟩) (fun a hI => ?_)
  · show (qy_3_step a A (A.length : Int) (i : Int)).val = _
    unfold qy_3_step qy_f3
    skip
    refine Tr.t (by simp; omega) ?_
    exact (Tr.t (by first | omega | (constructor <;> omega)) (by rw [Tr.val_ok, wrap64 (i := (i : Int) + 1) (by omega) (by omega)]; rfl))
  · show (qy_3_step a A (A.length : Int) (A.length : Int)).val = _
    refine Tr.n (by first | (simp; done) | (simp; omega) | omega) ?_
    rfl
theorem qy_is3 : LoopIs tab FT D22 live 100 qy_lo 0 3 := by
  refine loop_told (sl := qy_3_sl) (step := qy_3_st) (out := qy_3_out) (lor := qy_lo3) (fin := fun x => (qy_3_fin (x.1) (x.2.1) (x.2.2.1) (x.2.2.2))) (fun _ => rfl) ?_ (fun x n => qy_3_r x.1 x.2.1 x.2.2.1 x.2.2.2 n) (fun x ow => qy_3_h x.1 x.2.1 x.2.2.1 x.2.2.2 ow)
  intro s t h
  unfold qy_lo3 at h
  split at h
  · cases h; exact ⟨(_, _, _, _), rfl, rfl⟩
  · cases h
noncomputable def qy_t (A : LL) : Tr (Int) := (.ite ((qy_o3_1 (0 : Int) A (A.length : Int) (0 : Int)) = true) (.ok (qy_u3_1 (0 : Int) A (A.length : Int) (0 : Int)))
  .no)
def qy_mk (p : Int) : Res := [(false, [⟨.int .i64, .sh, TC.i p⟩])]
noncomputable def qy_c (A : LL) : Bool := (qy_o3_1 (0 : Int) A (A.length : Int) (0 : Int))
noncomputable def qy_v (A : LL) : Int := (qy_u3_1 (0 : Int) A (A.length : Int) (0 : Int))
theorem qy_l (A : LL) : (qy_c A) = true → (qy_t A).val = some (qy_v A) := by
  intro h
  have hc0 : (qy_o3_1 (0 : Int) A (A.length : Int) (0 : Int)) = true := h
  unfold qy_t
  exact (Tr.t hc0 rfl)
noncomputable def qy_S : List Arg → Option (Bool × Res) := fun xs => match xs with
  | [(false, [(.slice 2, TC.l A)])] => some ((qy_c A), qy_mk (qy_v A))
  | _ => .none
theorem qy_e (A : LL) : runF tab FT D22 live 100 qy_lo [(false, [(.slice 2, TC.l A)])] = (qy_t A).run fun p => some (qy_mk p) := by kernel_rfl
theorem qy_s : ∀ xs r, qy_S xs = some (true, r) → runF tab FT D22 live 100 qy_lo xs = some r := by
  intro xs r h
  unfold qy_S at h
  split at h
  · simp only [Option.some.injEq, Prod.mk.injEq] at h
    obtain ⟨h1, rfl⟩ := h
    exact fun_told (qy_e _) (qy_l _) h1
  · cases h
noncomputable def D23 : Dt := also D22 100 qy_S
theorem d23 : DOk Go.Proofs.Try.prog tab D23 := d22.also mixed_ok tab_ok names_ok (fnLoops_one (by kernel_rfl) qy_is3) qy_s
theorem qy_vv (A : LL) : qy_v A = keyL A := qy_R3_eq A
abbrev qi_4_σ := LL × LL × Int × Int
abbrev qi_4_ω := (LL)
noncomputable def qi_4_step (g X : LL) (m i : Int) : Tr (qi_4_σ ⊕ qi_4_ω) := (.ite ((decide (i < m)) = true) (.ite ((qbh_c g i) = true) (.ite ((qy_c (qbh_v g i)) = true) (.ite (roomFor (tab 2) (X ++ [[TC.i (qy_v (qbh_v g i))]]).length) (.ok (.inl (g, (X ++ [[TC.i (qy_v (qbh_v g i))]]), m, (IntKind.wrap .i64 (i + (1 : Int))))))
     .no)
    .no)
   .no)
  (.ok (.inr X)))
noncomputable def qi_4_st : qi_4_σ → Tr (qi_4_σ ⊕ qi_4_ω) := fun x => (qi_4_step (x.1) (x.2.1) (x.2.2.1) (x.2.2.2))
noncomputable def qi_o4_1 (g X : LL) (m i : Int) : Bool := is (X = [] ∧ i = 0 ∧ m ≤ 100000 ∧ Typed tab (.slice 2) (.l g) ∧ (0 < m → ∀ j : Nat, j < g.length → (nth (g.getD j []) 0).int ≠ 0))
noncomputable def qi_u4_1 (g X : LL) (m i : Int) : LL := keysL g (m).toNat
noncomputable def qi_4_fin (g X : LL) (m i : Int) : Told qi_4_ω := (.leaf (qi_o4_1 g X m i) (qi_u4_1 g X m i))
def qi_4_sl (x : qi_4_σ) : List Slot := [⟨.val false [⟨.slice 2, .own true, TC.l (x.1)⟩], ⟨0, 0⟩⟩, ⟨.val false [⟨.slice 2, .own true, TC.l (x.2.1)⟩], ⟨0, 0⟩⟩, ⟨.val false [⟨.int .i64, .sh, TC.i (x.2.2.1)⟩], ⟨0, 0⟩⟩, ⟨.val false [⟨.int .i64, .sh, TC.i (x.2.2.2)⟩], ⟨0, 0⟩⟩]
def qi_4_out : qi_4_ω → Ex × List Slot := (fun x => (.exit 0, [Slot.none, ⟨.val false [⟨.slice 2, .own true, TC.l x⟩], ⟨0, 0⟩⟩]))
noncomputable def qi_lo4 : List Slot → Option (Told (Ex × List Slot)) := fun s => match s with
  | [⟨.val false [⟨.slice 2, .own true, TC.l g⟩], ⟨0, 0⟩⟩, ⟨.val false [⟨.slice 2, .own true, TC.l X⟩], ⟨0, 0⟩⟩, ⟨.val false [⟨.int .i64, .sh, TC.i m⟩], ⟨0, 0⟩⟩, ⟨.val false [⟨.int .i64, .sh, TC.i i⟩], ⟨0, 0⟩⟩] => some (((qi_4_fin g X m i)).map qi_4_out)
  | _ => .none
noncomputable def qi_lo : LoopTeller := fun r s => bif Nat.beq r 4 then qi_lo4 s else .none
theorem qi_4_r (g X : LL) (m i : Int) (fuel : Nat) : rounds (rnd tab FT D23 live 54 qi_lo 0 4) leave (fuel + 1) (qi_4_sl (g, X, m, i)) = ((qi_4_step g X m i)).run (goOn (fun s => rounds (rnd tab FT D23 live 54 qi_lo 0 4) leave fuel (qi_4_sl s)) fun w => some (qi_4_out w)) := by kernel_rfl
theorem qi_4_h (g X : LL) (m i : Int) (ow : qi_4_ω) : ((qi_4_fin g X m i)).val = some ow → ∃ fuel, loopN qi_4_st fuel (g, X, m, i) = some ow := by
  intro h
  refine auto_leaf (R := keysL g (m).toNat) (fun ho => ?_) h
  obtain ⟨rfl, rfl, hM, ht, hz⟩ := is_iff.1 ho
  have hlen := typed_room ht
  simp only [show (tab 2).bytes = 8 from rfl] at hlen
  have key := loopN_run (step := qi_4_st) (N := (m).toNat) (fun k => (g, keysL g k, m, (k : Int))) (w := keysL g (m).toNat) (fun k hk => ?_) ?_ (m).toNat 0 (by omega)
  · exact ⟨_, Eq.trans (congrArg (loopN qi_4_st _) (by simp [keysL])) key⟩
  · have hz' := hz (by omega)
    show (qi_4_step g (keysL g k) m (k : Int)).val = _
    unfold qi_4_step
    refine Tr.t (by simp; omega) (Tr.t (is_true ⟨ht, hz'⟩) ?_)
    rw [show qbh_v g (k : Int) = coordsV g (k : Int) from rfl, qy_vv]
    refine Tr.t (is_true (by and_intros <;> first | rfl | (rw [coordsV_len]; omega) | (rw [coordsV_len]))) (Tr.t ?_ ?_)
    · unfold roomFor
      simp only [show (tab 2).bytes = 8 from rfl, List.length_append, List.length_singleton, keysL_len]
      omega
    · rw [Tr.val_ok, keysL_succ, wrap64 (i := (k : Int) + 1) (by omega) (by omega)]; rfl
  · show (qi_4_step g (keysL g (m).toNat) m (((m).toNat : Nat) : Int)).val = _
    unfold qi_4_step
    refine Tr.n (by simp; omega) ?_
    rfl
theorem qi_is4 : LoopIs tab FT D23 live 54 qi_lo 0 4 := by
  refine loop_told (sl := qi_4_sl) (step := qi_4_st) (out := qi_4_out) (lor := qi_lo4) (fin := fun x => (qi_4_fin (x.1) (x.2.1) (x.2.2.1) (x.2.2.2))) (fun _ => rfl) ?_ (fun x n => qi_4_r x.1 x.2.1 x.2.2.1 x.2.2.2 n) (fun x ow => qi_4_h x.1 x.2.1 x.2.2.1 x.2.2.2 ow)
  intro s t h
  unfold qi_lo4 at h
  split at h
  · cases h; exact ⟨(_, _, _, _), rfl, rfl⟩
  · cases h
noncomputable def qi_t (D C : LL) : Tr (LL) := (.ite ((qx_c D C) = true) (.ite ((qs_c (qx_v D C)) = true) (.ite ((qi_o4_1 (qx_v D C) [] (qs_v (qx_v D C)) (0 : Int)) = true) (.ok (qi_u4_1 (qx_v D C) [] (qs_v (qx_v D C)) (0 : Int)))
    .no)
   .no)
  .no)
def qi_mk (p : LL) : Res := [(false, [⟨.slice 2, .own true, TC.l p⟩])]
noncomputable def qi_c (D C : LL) : Bool := ((qx_c D C) && ((qs_c (qx_v D C)) && ((qi_o4_1 (qx_v D C) [] (qs_v (qx_v D C)) (0 : Int)) && true)))
noncomputable def qi_v (D C : LL) : LL := (qi_u4_1 (qx_v D C) [] (qs_v (qx_v D C)) (0 : Int))
theorem qi_l (D C : LL) : (qi_c D C) = true → (qi_t D C).val = some (qi_v D C) := by
  unfold qi_t qi_v qi_c
  exact fun h => (Tr.gb h fun h => (Tr.gb h fun h => (Tr.gb h fun h => rfl)))
noncomputable def qi_S : List Arg → Option (Bool × Res) := fun xs => match xs with
  | [(false, [(.slice 2, TC.l D)]), (false, [(.slice 2, TC.l C)])] => some ((qi_c D C), qi_mk (qi_v D C))
  | _ => .none
theorem qi_e (D C : LL) : runF tab FT D23 live 54 qi_lo [(false, [(.slice 2, TC.l D)]), (false, [(.slice 2, TC.l C)])] = (qi_t D C).run fun p => some (qi_mk p) := by kernel_rfl
theorem qi_s : ∀ xs r, qi_S xs = some (true, r) → runF tab FT D23 live 54 qi_lo xs = some r := by
  intro xs r h
  unfold qi_S at h
  split at h
  · simp only [Option.some.injEq, Prod.mk.injEq] at h
    obtain ⟨h1, rfl⟩ := h
    exact fun_told (qi_e _ _) (qi_l _ _) h1
  · cases h
noncomputable def D24 : Dt := also D23 54 qi_S
theorem d24 : DOk Go.Proofs.Try.prog tab D24 := d23.also mixed_ok tab_ok names_ok (fnLoops_one (by kernel_rfl) qi_is4) qi_s
theorem qi_cc {D : LL} {C : LL} (hD : Typed tab (.slice 2) (.l D)) (hk : chunkOk D C = true) : (qi_c D C) = true := by
  unfold qi_c
  refine andT (by have hp := chunkOk_parts hk; exact is_true (p := Typed tab (.slice 2) (.l D) ∧ D.length = C.length ∧ C.all (inR 1 40) = true) ⟨hD, hp.1, hp.2.1⟩) ?_
  refine andT (by exact is_true ⟨rfl, rfl, gridL_ty rfl hD, rfl⟩) ?_
  refine andT (by exact is_true ⟨rfl, rfl, keys_num hk, gridL_ty rfl hD, fun h => prod_pos h⟩) ?_
  rfl
theorem qi_vv (D C : LL) : qi_v D C = keysL (gridL D C) (prodL (gridL D C)).toNat := rfl
abbrev qa_2_σ := LL × Int × Int × Int
abbrev qa_2_ω := (Int) ⊕ (Unit)
noncomputable def qa_2_step (A : LL) (v m i : Int) : Tr (qa_2_σ ⊕ qa_2_ω) := (.ite ((decide (i < m)) = true) (.ite ((0 : Int) ≤ i ∧ i < (A.length : Int)) (.ite ((v == (nth (row A i) 0).int) = true) (.ok (.inr (.inl i)))
    (.ok (.inl (A, v, m, (IntKind.wrap .i64 (i + (1 : Int)))))))
   .no)
  (.ok (.inr (.inr ()))))
noncomputable def qa_2_st : qa_2_σ → Tr (qa_2_σ ⊕ qa_2_ω) := fun x => (qa_2_step (x.1) (x.2.1) (x.2.2.1) (x.2.2.2))
noncomputable def qa_k2_1 (A : LL) (v m i : Int) : Bool := A.all (fun x => !(v == (nth x 0).int))
noncomputable def qa_o2_2 (A : LL) (v m i : Int) : Bool := is (i = 0 ∧ A.length ≤ 140737488351232 ∧ m = (A.length : Int))
noncomputable def qa_o2_3 (A : LL) (v m i : Int) : Bool := is (i = 0 ∧ A.length ≤ 140737488351232 ∧ m = (A.length : Int))
noncomputable def qa_u2_3 (A : LL) (v m i : Int) : Int := (Int.ofNat (A.findIdx fun x => !(fun x => !(v == (nth x 0).int)) x))
noncomputable def qa_2_fin (A : LL) (v m i : Int) : Told qa_2_ω := (.br (qa_k2_1 A v m i) (.leaf (qa_o2_2 A v m i) (.inr ())) (.leaf (qa_o2_3 A v m i) (.inl (qa_u2_3 A v m i))))
def qa_2_sl (x : qa_2_σ) : List Slot := [⟨.val false [⟨.slice 2, .sh, TC.l (x.1)⟩], ⟨0, 0⟩⟩, ⟨.val false [⟨.int .i64, .sh, TC.i (x.2.1)⟩], ⟨0, 0⟩⟩, ⟨.val false [⟨.int .i64, .sh, TC.i (x.2.2.1)⟩], ⟨0, 0⟩⟩, ⟨.val false [⟨.int .i64, .sh, TC.i (x.2.2.2)⟩], ⟨0, 0⟩⟩]
def qa_2_out : qa_2_ω → Ex × List Slot := (Sum.elim (fun x => (.ret, [⟨.val false [⟨.int .i64, .sh, TC.i x⟩], ⟨0, 0⟩⟩])) (fun x => (.exit 0, [Slot.none])))
noncomputable def qa_lo2 : List Slot → Option (Told (Ex × List Slot)) := fun s => match s with
  | [⟨.val false [⟨.slice 2, .sh, TC.l A⟩], ⟨0, 0⟩⟩, ⟨.val false [⟨.int .i64, .sh, TC.i v⟩], ⟨0, 0⟩⟩, ⟨.val false [⟨.int .i64, .sh, TC.i m⟩], ⟨0, 0⟩⟩, ⟨.val false [⟨.int .i64, .sh, TC.i i⟩], ⟨0, 0⟩⟩] => some (((qa_2_fin A v m i)).map qa_2_out)
  | _ => .none
noncomputable def qa_lo : LoopTeller := fun r s => bif Nat.beq r 2 then qa_lo2 s else .none
theorem qa_2_r (A : LL) (v m i : Int) (fuel : Nat) : rounds (rnd tab FT D24 live 139 qa_lo 0 2) leave (fuel + 1) (qa_2_sl (A, v, m, i)) = ((qa_2_step A v m i)).run (goOn (fun s => rounds (rnd tab FT D24 live 139 qa_lo 0 2) leave fuel (qa_2_sl s)) fun w => some (qa_2_out w)) := by kernel_rfl
theorem qa_2_h (A : LL) (v m i : Int) (ow : qa_2_ω) : ((qa_2_fin A v m i)).val = some ow → ∃ fuel, loopN qa_2_st fuel (A, v, m, i) = some ow := by
  intro h
  have key : A.length ≤ 140737488351232 → loopN qa_2_st (A.length + 1) (A, v, (A.length : Int), (0 : Int)) = some (if A.all (fun x => !(v == (nth x 0).int)) = true then (.inr ()) else (.inl (Int.ofNat (A.findIdx fun x => !(fun x => !(v == (nth x 0).int)) x)))) := by
    intro ht
    have hlen : A.length ≤ 140737488351232 := ht
    have key := loopN_scan (step := qa_2_st) A [] (fun x => !(v == (nth x 0).int)) (fun a _ => a) (fun i a => (A, v, (A.length : Int), (i : Int))) (fun a => (.inr ())) (fun i a => (.inl (i : Int))) (fun i a hi => ?_) (fun a => ?_) A.length 0 () (by omega)
    · first | (rw [Nat.zero_add] at key; exact key) | exact key
    · skip
      show (qa_2_step A v (A.length : Int) (i : Int)).val = _
      unfold qa_2_step
      refine Tr.t (by simp; omega) ?_
      skip
      refine Tr.t (by first | omega | (constructor <;> omega)) ?_
      refine Tr.b2 (fun hP => ?_) (fun _ => rfl)
      rw [Tr.val_ok, wrap64 (i := (i : Int) + 1) (by omega) (by omega)]; rfl
    · show (qa_2_step A v (A.length : Int) (A.length : Int)).val = _
      refine Tr.n (by simp) ?_
      rfl
  simp only [qa_2_fin, Told.val] at h
  cases hk : A.all (fun x => !(v == (nth x 0).int)) with
  | true =>
    rw [if_pos (show qa_k2_1 A v m i = true from hk)] at h
    split at h
    · rename_i ho
      obtain ⟨rfl, ht, rfl⟩ := is_iff.1 ho
      cases h
      refine ⟨_, (key ht).trans ?_⟩
      rw [hk]; rfl
    · cases h
  | false =>
    rw [if_neg (show ¬qa_k2_1 A v m i = true from by rw [show qa_k2_1 A v m i = (A.all (fun x => !(v == (nth x 0).int))) from rfl, hk]; simp)] at h
    split at h
    · rename_i ho
      obtain ⟨rfl, ht, rfl⟩ := is_iff.1 ho
      cases h
      refine ⟨_, (key ht).trans ?_⟩
      rw [hk]; rfl
    · cases h
theorem qa_is2 : LoopIs tab FT D24 live 139 qa_lo 0 2 := by
  refine loop_told (sl := qa_2_sl) (step := qa_2_st) (out := qa_2_out) (lor := qa_lo2) (fin := fun x => (qa_2_fin (x.1) (x.2.1) (x.2.2.1) (x.2.2.2))) (fun _ => rfl) ?_ (fun x n => qa_2_r x.1 x.2.1 x.2.2.1 x.2.2.2 n) (fun x ow => qa_2_h x.1 x.2.1 x.2.2.1 x.2.2.2 ow)
  intro s t h
  unfold qa_lo2 at h
  split at h
  · cases h; exact ⟨(_, _, _, _), rfl, rfl⟩
  · cases h
noncomputable def qa_t (A : LL) (v : Int) : Tr (Int) := (.ite ((qa_k2_1 A v (A.length : Int) (0 : Int)) = true) (.ite ((qa_o2_2 A v (A.length : Int) (0 : Int)) = true) (.ok (-1 : Int))
   .no)
  (.ite ((qa_o2_3 A v (A.length : Int) (0 : Int)) = true) (.ok (qa_u2_3 A v (A.length : Int) (0 : Int)))
   .no))
def qa_mk (p : Int) : Res := [(false, [⟨.int .i64, .sh, TC.i p⟩])]
noncomputable def qa_c (A : LL) (v : Int) : Bool := (bif (qa_k2_1 A v (A.length : Int) (0 : Int)) then ((qa_o2_2 A v (A.length : Int) (0 : Int)) && true) else ((qa_o2_3 A v (A.length : Int) (0 : Int)) && true))
noncomputable def qa_v (A : LL) (v : Int) : Int := (bif (qa_k2_1 A v (A.length : Int) (0 : Int)) then (-1 : Int) else (qa_u2_3 A v (A.length : Int) (0 : Int)))
theorem qa_l (A : LL) (v : Int) : (qa_c A v) = true → (qa_t A v).val = some (qa_v A v) := by
  unfold qa_t qa_v qa_c
  exact fun h => (Tr.ss h (fun h => (Tr.gb h fun h => rfl)) (fun h => (Tr.gb h fun h => rfl)))
noncomputable def qa_S : List Arg → Option (Bool × Res) := fun xs => match xs with
  | [(false, [(.slice 2, TC.l A)]), (false, [(.int .i64, TC.i v)])] => some ((qa_c A v), qa_mk (qa_v A v))
  | _ => .none
theorem qa_e (A : LL) (v : Int) : runF tab FT D24 live 139 qa_lo [(false, [(.slice 2, TC.l A)]), (false, [(.int .i64, TC.i v)])] = (qa_t A v).run fun p => some (qa_mk p) := by kernel_rfl
theorem qa_s : ∀ xs r, qa_S xs = some (true, r) → runF tab FT D24 live 139 qa_lo xs = some r := by
  intro xs r h
  unfold qa_S at h
  split at h
  · simp only [Option.some.injEq, Prod.mk.injEq] at h
    obtain ⟨h1, rfl⟩ := h
    exact fun_told (qa_e _ _) (qa_l _ _) h1
  · cases h
noncomputable def D25 : Dt := also D24 139 qa_S
theorem d25 : DOk Go.Proofs.Try.prog tab D25 := d24.also mixed_ok tab_ok names_ok (fnLoops_one (by kernel_rfl) qa_is2) qa_s
theorem qa_cc {A : LL} {v : Int} (hl : A.length ≤ 140737488351232) : (qa_c A v) = true := by
  unfold qa_c
  refine bifT (fun b1 => ?_) (fun b1 => ?_)
  · skip
    refine andT (by exact is_true ⟨rfl, hl, rfl⟩) ?_
    rfl
  · skip
    refine andT (by exact is_true ⟨rfl, hl, rfl⟩) ?_
    rfl
noncomputable def qbb_t (a0 : LL) (a1 : Int) : Tr (Bool) := (.ite ((qa_c a0 a1) = true) (.ok (decide ((qa_v a0 a1) ≥ (0 : Int))))
  .no)
def qbb_mk (p : Bool) : Res := [(false, [⟨.bool, .sh, TC.b p⟩])]
noncomputable def qbb_c (a0 : LL) (a1 : Int) : Bool := (qa_c a0 a1)
noncomputable def qbb_v (a0 : LL) (a1 : Int) : Bool := (decide ((qa_v a0 a1) ≥ (0 : Int)))
theorem qbb_l (a0 : LL) (a1 : Int) : (qbb_c a0 a1) = true → (qbb_t a0 a1).val = some (qbb_v a0 a1) := by
  intro h
  have hc0 : (qa_c a0 a1) = true := h
  unfold qbb_t
  exact (Tr.t hc0 rfl)
noncomputable def qbb_S : List Arg → Option (Bool × Res) := fun xs => match xs with
  | [(false, [(.slice 2, TC.l a0)]), (false, [(.int .i64, TC.i a1)])] => some ((qbb_c a0 a1), qbb_mk (qbb_v a0 a1))
  | _ => .none
theorem qbb_e (a0 : LL) (a1 : Int) : runF tab FT D25 live 104 noLoops [(false, [(.slice 2, TC.l a0)]), (false, [(.int .i64, TC.i a1)])] = (qbb_t a0 a1).run fun p => some (qbb_mk p) := by kernel_rfl
theorem qbb_s : ∀ xs r, qbb_S xs = some (true, r) → runF tab FT D25 live 104 noLoops xs = some r := by
  intro xs r h
  unfold qbb_S at h
  split at h
  · simp only [Option.some.injEq, Prod.mk.injEq] at h
    obtain ⟨h1, rfl⟩ := h
    exact fun_told (qbb_e _ _) (qbb_l _ _) h1
  · cases h
noncomputable def D26 : Dt := also D25 104 qbb_S
theorem d26 : DOk Go.Proofs.Try.prog tab D26 := d25.also mixed_ok tab_ok names_ok noLoops_ok qbb_s
noncomputable def qf_t (a0 : Int) (a1 : List TC) : Tr (Bool) := (.ite ((qbb_c ((nth a1 0).list) a0) = true) (.ok (qbb_v ((nth a1 0).list) a0))
  .no)
def qf_mk (p : Bool) : Res := [(false, [⟨.bool, .sh, TC.b p⟩])]
noncomputable def qf_c (a0 : Int) (a1 : List TC) : Bool := ((qbb_c ((nth a1 0).list) a0) && true)
noncomputable def qf_v (a0 : Int) (a1 : List TC) : Bool := (qbb_v ((nth a1 0).list) a0)
theorem qf_l (a0 : Int) (a1 : List TC) : (qf_c a0 a1) = true → (qf_t a0 a1).val = some (qf_v a0 a1) := by
  unfold qf_t qf_v qf_c
  exact fun h => (Tr.gb h fun h => rfl)
noncomputable def qf_S : List Arg → Option (Bool × Res) := fun xs => match xs with
  | [(false, [(.int .i64, TC.i a0)]), (false, [(.ptr 22, TC.p a1)])] => some ((qf_c a0 a1), qf_mk (qf_v a0 a1))
  | _ => .none
theorem qf_e (a0 : Int) (a1 : List TC) : runF tab FT D26 live 103 noLoops [(false, [(.int .i64, TC.i a0)]), (false, [(.ptr 22, TC.p a1)])] = (qf_t a0 a1).run fun p => some (qf_mk p) := by kernel_rfl
theorem qf_s : ∀ xs r, qf_S xs = some (true, r) → runF tab FT D26 live 103 noLoops xs = some r := by
  intro xs r h
  unfold qf_S at h
  split at h
  · simp only [Option.some.injEq, Prod.mk.injEq] at h
    obtain ⟨h1, rfl⟩ := h
    exact fun_told (qf_e _ _) (qf_l _ _) h1
  · cases h
noncomputable def D27 : Dt := also D26 103 qf_S
theorem d27 : DOk Go.Proofs.Try.prog tab D27 := d26.also mixed_ok tab_ok names_ok noLoops_ok qf_s
theorem qf_cc {a0 : Int} {a1 : List TC} (ht : Typed tab (.slice 2) (.l (nth a1 0).list)) : (qf_c a0 a1) = true := by
  unfold qf_c
  refine andT (by exact qa_cc (by have := typed_room ht; simp only [show (tab 2).bytes = 8 from rfl] at this; omega)) ?_
  rfl
abbrev qg_2_σ := LL × List TC × Int × Int
abbrev qg_2_ω := (Int) ⊕ (Unit)
noncomputable def qg_2_step (A : LL) (cap0 : List TC) (m i : Int) : Tr (qg_2_σ ⊕ qg_2_ω) := (.ite ((decide (i < m)) = true) (.ite ((0 : Int) ≤ i ∧ i < (A.length : Int)) (.ite ((qf_c ((nth (row A i) 0).int) cap0) = true) (.ite ((qf_v ((nth (row A i) 0).int) cap0) = true) (.ok (.inr (.inl i)))
     (.ok (.inl (A, cap0, m, (IntKind.wrap .i64 (i + (1 : Int)))))))
    .no)
   .no)
  (.ok (.inr (.inr ()))))
noncomputable def qg_2_st : qg_2_σ → Tr (qg_2_σ ⊕ qg_2_ω) := fun x => (qg_2_step (x.1) (x.2.1) (x.2.2.1) (x.2.2.2))
noncomputable def qg_k2_1 (A : LL) (cap0 : List TC) (m i : Int) : Bool := A.all (fun x => !(qf_v ((nth x 0).int) cap0))
noncomputable def qg_o2_2 (A : LL) (cap0 : List TC) (m i : Int) : Bool := is (i = 0 ∧ (Typed tab (.slice 2) (.l A) ∧ Typed tab (.slice 2) (.l (nth cap0 0).list)) ∧ m = (A.length : Int))
noncomputable def qg_o2_3 (A : LL) (cap0 : List TC) (m i : Int) : Bool := is (i = 0 ∧ (Typed tab (.slice 2) (.l A) ∧ Typed tab (.slice 2) (.l (nth cap0 0).list)) ∧ m = (A.length : Int))
noncomputable def qg_u2_3 (A : LL) (cap0 : List TC) (m i : Int) : Int := (Int.ofNat (A.findIdx fun x => !(fun x => !(qf_v ((nth x 0).int) cap0)) x))
noncomputable def qg_2_fin (A : LL) (cap0 : List TC) (m i : Int) : Told qg_2_ω := (.br (qg_k2_1 A cap0 m i) (.leaf (qg_o2_2 A cap0 m i) (.inr ())) (.leaf (qg_o2_3 A cap0 m i) (.inl (qg_u2_3 A cap0 m i))))
def qg_2_sl (x : qg_2_σ) : List Slot := [⟨.val false [⟨.slice 2, .sh, TC.l (x.1)⟩], ⟨0, 0⟩⟩, ⟨.val false [⟨.func, .sh, TC.f 103 [(22, x.2.1)]⟩], ⟨0, 0⟩⟩, ⟨.val false [⟨.int .i64, .sh, TC.i (x.2.2.1)⟩], ⟨0, 0⟩⟩, ⟨.val false [⟨.int .i64, .sh, TC.i (x.2.2.2)⟩], ⟨0, 0⟩⟩]
def qg_2_out : qg_2_ω → Ex × List Slot := (Sum.elim (fun x => (.ret, [⟨.val false [⟨.int .i64, .sh, TC.i x⟩], ⟨0, 0⟩⟩])) (fun x => (.exit 0, [Slot.none])))
noncomputable def qg_lo2 : List Slot → Option (Told (Ex × List Slot)) := fun s => match s with
  | [⟨.val false [⟨.slice 2, .sh, TC.l A⟩], ⟨0, 0⟩⟩, ⟨.val false [⟨.func, .sh, TC.f 103 [(22, cap0)]⟩], ⟨0, 0⟩⟩, ⟨.val false [⟨.int .i64, .sh, TC.i m⟩], ⟨0, 0⟩⟩, ⟨.val false [⟨.int .i64, .sh, TC.i i⟩], ⟨0, 0⟩⟩] => some (((qg_2_fin A cap0 m i)).map qg_2_out)
  | _ => .none
noncomputable def qg_lo : LoopTeller := fun r s => bif Nat.beq r 2 then qg_lo2 s else .none
theorem qg_2_r (A : LL) (cap0 : List TC) (m i : Int) (fuel : Nat) : rounds (rnd tab FT D27 live 138 qg_lo 0 2) leave (fuel + 1) (qg_2_sl (A, cap0, m, i)) = ((qg_2_step A cap0 m i)).run (goOn (fun s => rounds (rnd tab FT D27 live 138 qg_lo 0 2) leave fuel (qg_2_sl s)) fun w => some (qg_2_out w)) := by kernel_rfl
theorem qg_2_h (A : LL) (cap0 : List TC) (m i : Int) (ow : qg_2_ω) : ((qg_2_fin A cap0 m i)).val = some ow → ∃ fuel, loopN qg_2_st fuel (A, cap0, m, i) = some ow := by
  intro h
  have key : (Typed tab (.slice 2) (.l A) ∧ Typed tab (.slice 2) (.l (nth cap0 0).list)) → loopN qg_2_st (A.length + 1) (A, cap0, (A.length : Int), (0 : Int)) = some (if A.all (fun x => !(qf_v ((nth x 0).int) cap0)) = true then (.inr ()) else (.inl (Int.ofNat (A.findIdx fun x => !(fun x => !(qf_v ((nth x 0).int) cap0)) x)))) := by
    intro ht
    obtain ⟨ht, hcl⟩ := ht
    have hlen : A.length ≤ 140737488351232 := by have := typed_room ht; simp only [show (tab 2).bytes = 8 from rfl] at this; omega
    have key := loopN_scan (step := qg_2_st) A [] (fun x => !(qf_v ((nth x 0).int) cap0)) (fun a _ => a) (fun i a => (A, cap0, (A.length : Int), (i : Int))) (fun a => (.inr ())) (fun i a => (.inl (i : Int))) (fun i a hi => ?_) (fun a => ?_) A.length 0 () (by omega)
    · first | (rw [Nat.zero_add] at key; exact key) | exact key
    · skip
      show (qg_2_step A cap0 (A.length : Int) (i : Int)).val = _
      unfold qg_2_step
      refine Tr.t (by simp; omega) ?_
      skip
      refine Tr.t (by first | omega | (constructor <;> omega)) ?_
      refine Tr.t (by first | (apply qf_cc <;> assumption) | (first | (apply is_true; and_intros <;> (first | rfl | assumption | (apply qe_cc <;> assumption) | (apply qh_cc <;> assumption) | (apply qk_cc <;> assumption) | (apply qd_cc <;> assumption) | (apply qm_cc <;> assumption) | (apply qi_cc <;> assumption) | (apply qa_cc <;> assumption) | (apply qf_cc <;> assumption) | (first | (apply is_true; and_intros <;> (first | rfl | assumption | (apply qe_cc <;> assumption) | (apply qh_cc <;> assumption) | (apply qk_cc <;> assumption) | (apply qd_cc <;> assumption) | (apply qm_cc <;> assumption) | (apply qi_cc <;> assumption) | (apply qa_cc <;> assumption) | (apply qf_cc <;> assumption))) | (apply qe_cc <;> assumption) | (apply qh_cc <;> assumption) | (apply qk_cc <;> assumption) | (apply qd_cc <;> assumption) | (apply qm_cc <;> assumption) | (apply qi_cc <;> assumption) | (apply qa_cc <;> assumption) | (apply qf_cc <;> assumption)))) | (apply qe_cc <;> assumption) | (apply qh_cc <;> assumption) | (apply qk_cc <;> assumption) | (apply qd_cc <;> assumption) | (apply qm_cc <;> assumption) | (apply qi_cc <;> assumption) | (apply qa_cc <;> assumption) | (apply qf_cc <;> assumption))) ?_
      refine Tr.b2 (fun hP => ?_) (fun _ => rfl)
      rw [Tr.val_ok, wrap64 (i := (i : Int) + 1) (by omega) (by omega)]; rfl
    · show (qg_2_step A cap0 (A.length : Int) (A.length : Int)).val = _
      refine Tr.n (by simp) ?_
      rfl
  simp only [qg_2_fin, Told.val] at h
  cases hk : A.all (fun x => !(qf_v ((nth x 0).int) cap0)) with
  | true =>
    rw [if_pos (show qg_k2_1 A cap0 m i = true from hk)] at h
    split at h
    · rename_i ho
      obtain ⟨rfl, ht, rfl⟩ := is_iff.1 ho
      cases h
      refine ⟨_, (key ht).trans ?_⟩
      rw [hk]; rfl
    · cases h
  | false =>
    rw [if_neg (show ¬qg_k2_1 A cap0 m i = true from by rw [show qg_k2_1 A cap0 m i = (A.all (fun x => !(qf_v ((nth x 0).int) cap0))) from rfl, hk]; simp)] at h
    split at h
    · rename_i ho
      obtain ⟨rfl, ht, rfl⟩ := is_iff.1 ho
      cases h
      refine ⟨_, (key ht).trans ?_⟩
      rw [hk]; rfl
    · cases h
theorem qg_is2 : LoopIs tab FT D27 live 138 qg_lo 0 2 := by
  refine loop_told (sl := qg_2_sl) (step := qg_2_st) (out := qg_2_out) (lor := qg_lo2) (fin := fun x => (qg_2_fin (x.1) (x.2.1) (x.2.2.1) (x.2.2.2))) (fun _ => rfl) ?_ (fun x n => qg_2_r x.1 x.2.1 x.2.2.1 x.2.2.2 n) (fun x ow => qg_2_h x.1 x.2.1 x.2.2.1 x.2.2.2 ow)
  intro s t h
  unfold qg_lo2 at h
  split at h
  · cases h; exact ⟨(_, _, _, _), rfl, rfl⟩
  · cases h
noncomputable def qg_t (A : LL) (cap0 : List TC) : Tr (Int) := (.ite ((qg_k2_1 A cap0 (A.length : Int) (0 : Int)) = true) (.ite ((qg_o2_2 A cap0 (A.length : Int) (0 : Int)) = true) (.ok (-1 : Int))
   .no)
  (.ite ((qg_o2_3 A cap0 (A.length : Int) (0 : Int)) = true) (.ok (qg_u2_3 A cap0 (A.length : Int) (0 : Int)))
   .no))
def qg_mk (p : Int) : Res := [(false, [⟨.int .i64, .sh, TC.i p⟩])]
noncomputable def qg_c (A : LL) (cap0 : List TC) : Bool := is ((Typed tab (.slice 2) (.l A) ∧ Typed tab (.slice 2) (.l (nth cap0 0).list)))
noncomputable def qg_v (A : LL) (cap0 : List TC) : Int := if (A.all (fun x => !(qf_v ((nth x 0).int) cap0))) = true then -1 else (Int.ofNat (A.findIdx fun x => !(fun x => !(qf_v ((nth x 0).int) cap0)) x))
theorem qg_l (A : LL) (cap0 : List TC) : (qg_c A cap0) = true → (qg_t A cap0).val = some (qg_v A cap0) := by
  intro h
  have ht := is_iff.1 h; obtain ⟨ht2, hcl⟩ := ht
  unfold qg_t
  cases hk : A.all (fun x => !(qf_v ((nth x 0).int) cap0)) with
  | true =>
    refine Tr.t (show A.all (fun x => !(qf_v ((nth x 0).int) cap0)) = true from hk) ?_
    refine Tr.t (by first | (apply is_true; and_intros <;> (first | rfl | assumption | (apply qe_cc <;> assumption) | (apply qh_cc <;> assumption) | (apply qk_cc <;> assumption) | (apply qd_cc <;> assumption) | (apply qm_cc <;> assumption) | (apply qi_cc <;> assumption) | (apply qa_cc <;> assumption) | (apply qf_cc <;> assumption) | (first | (apply is_true; and_intros <;> (first | rfl | assumption | (apply qe_cc <;> assumption) | (apply qh_cc <;> assumption) | (apply qk_cc <;> assumption) | (apply qd_cc <;> assumption) | (apply qm_cc <;> assumption) | (apply qi_cc <;> assumption) | (apply qa_cc <;> assumption) | (apply qf_cc <;> assumption) | (first | (apply is_true; and_intros <;> (first | rfl | assumption | (apply qe_cc <;> assumption) | (apply qh_cc <;> assumption) | (apply qk_cc <;> assumption) | (apply qd_cc <;> assumption) | (apply qm_cc <;> assumption) | (apply qi_cc <;> assumption) | (apply qa_cc <;> assumption) | (apply qf_cc <;> assumption) | (first | (apply is_true; and_intros <;> (first | rfl | assumption | (apply qe_cc <;> assumption) | (apply qh_cc <;> assumption) | (apply qk_cc <;> assumption) | (apply qd_cc <;> assumption) | (apply qm_cc <;> assumption) | (apply qi_cc <;> assumption) | (apply qa_cc <;> assumption) | (apply qf_cc <;> assumption))) | (apply qe_cc <;> assumption) | (apply qh_cc <;> assumption) | (apply qk_cc <;> assumption) | (apply qd_cc <;> assumption) | (apply qm_cc <;> assumption) | (apply qi_cc <;> assumption) | (apply qa_cc <;> assumption) | (apply qf_cc <;> assumption)))) | (apply qe_cc <;> assumption) | (apply qh_cc <;> assumption) | (apply qk_cc <;> assumption) | (apply qd_cc <;> assumption) | (apply qm_cc <;> assumption) | (apply qi_cc <;> assumption) | (apply qa_cc <;> assumption) | (apply qf_cc <;> assumption)))) | (apply qe_cc <;> assumption) | (apply qh_cc <;> assumption) | (apply qk_cc <;> assumption) | (apply qd_cc <;> assumption) | (apply qm_cc <;> assumption) | (apply qi_cc <;> assumption) | (apply qa_cc <;> assumption) | (apply qf_cc <;> assumption)))) | (apply qe_cc <;> assumption) | (apply qh_cc <;> assumption) | (apply qk_cc <;> assumption) | (apply qd_cc <;> assumption) | (apply qm_cc <;> assumption) | (apply qi_cc <;> assumption) | (apply qa_cc <;> assumption) | (apply qf_cc <;> assumption)) ?_
    show _ = some (qg_v A cap0); unfold qg_v; rw [if_pos hk]; rfl
  | false =>
    refine Tr.n (show ¬A.all (fun x => !(qf_v ((nth x 0).int) cap0)) = true from by rw [hk]; simp) ?_
    refine Tr.t (by first | (apply is_true; and_intros <;> (first | rfl | assumption | (apply qe_cc <;> assumption) | (apply qh_cc <;> assumption) | (apply qk_cc <;> assumption) | (apply qd_cc <;> assumption) | (apply qm_cc <;> assumption) | (apply qi_cc <;> assumption) | (apply qa_cc <;> assumption) | (apply qf_cc <;> assumption) | (first | (apply is_true; and_intros <;> (first | rfl | assumption | (apply qe_cc <;> assumption) | (apply qh_cc <;> assumption) | (apply qk_cc <;> assumption) | (apply qd_cc <;> assumption) | (apply qm_cc <;> assumption) | (apply qi_cc <;> assumption) | (apply qa_cc <;> assumption) | (apply qf_cc <;> assumption) | (first | (apply is_true; and_intros <;> (first | rfl | assumption | (apply qe_cc <;> assumption) | (apply qh_cc <;> assumption) | (apply qk_cc <;> assumption) | (apply qd_cc <;> assumption) | (apply qm_cc <;> assumption) | (apply qi_cc <;> assumption) | (apply qa_cc <;> assumption) | (apply qf_cc <;> assumption) | (first | (apply is_true; and_intros <;> (first | rfl | assumption | (apply qe_cc <;> assumption) | (apply qh_cc <;> assumption) | (apply qk_cc <;> assumption) | (apply qd_cc <;> assumption) | (apply qm_cc <;> assumption) | (apply qi_cc <;> assumption) | (apply qa_cc <;> assumption) | (apply qf_cc <;> assumption))) | (apply qe_cc <;> assumption) | (apply qh_cc <;> assumption) | (apply qk_cc <;> assumption) | (apply qd_cc <;> assumption) | (apply qm_cc <;> assumption) | (apply qi_cc <;> assumption) | (apply qa_cc <;> assumption) | (apply qf_cc <;> assumption)))) | (apply qe_cc <;> assumption) | (apply qh_cc <;> assumption) | (apply qk_cc <;> assumption) | (apply qd_cc <;> assumption) | (apply qm_cc <;> assumption) | (apply qi_cc <;> assumption) | (apply qa_cc <;> assumption) | (apply qf_cc <;> assumption)))) | (apply qe_cc <;> assumption) | (apply qh_cc <;> assumption) | (apply qk_cc <;> assumption) | (apply qd_cc <;> assumption) | (apply qm_cc <;> assumption) | (apply qi_cc <;> assumption) | (apply qa_cc <;> assumption) | (apply qf_cc <;> assumption)))) | (apply qe_cc <;> assumption) | (apply qh_cc <;> assumption) | (apply qk_cc <;> assumption) | (apply qd_cc <;> assumption) | (apply qm_cc <;> assumption) | (apply qi_cc <;> assumption) | (apply qa_cc <;> assumption) | (apply qf_cc <;> assumption)) ?_
    show _ = some (qg_v A cap0); unfold qg_v; rw [if_neg (by rw [hk]; simp)]; rfl
end Go.Proofs.Ytmdbccmbmcgclaa.V
