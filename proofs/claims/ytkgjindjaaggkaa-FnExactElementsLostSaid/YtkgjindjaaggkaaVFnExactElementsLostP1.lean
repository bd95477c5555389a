/- What the functions of FnExactElementsLost answer. No condition. -/
import Derived.Test.YtkgjindjaaggkaaVFacts
namespace Go.Proofs.Ytkgjindjaaggkaa.V
open Go
set_option maxRecDepth 100000
set_option linter.unusedVariables false
set_option linter.unusedSectionVars false
set_option linter.unusedSimpArgs false
set_option maxHeartbeats 2000000
noncomputable section
abbrev LL := List (List TC)
theorem sp {α β : Type} {a b : α} {c d : β} (h : some (a, c) = some (b, d)) : a = b ∧ c = d := by cases h; exact ⟨rfl, rfl⟩
def inR (lo hi : Int) (x : List TC) : Bool := bif decide ((nth x 0).int ≥ lo) then decide ((nth x 0).int ≤ hi) else false
def mulR (n : Int) (x : List TC) : Int := IntKind.wrap .i64 (n * (nth x 0).int)
def prodL (A : LL) : Int := A.foldl mulR 1
def gridC (d c : List TC) : List TC := [.i (IntKind.wrap .i64 (Int.tdiv (IntKind.wrap .i64 ((IntKind.wrap .i64 ((nth d 0).int + (nth c 0).int)) - (1 : Int))) ((nth c 0).int)))]
def gridL (D C : LL) : LL := List.zipWith gridC D C
theorem lenEq {D C : LL} (h : (!((C.length : Int) == (D.length : Int))) = false) : D.length = C.length := by
  have h2 : ((C.length : Int) == (D.length : Int)) = true := by simpa using h
  have h3 := eq_of_beq h2
  omega
theorem nnF {b : Bool} (h : (!(!(!b))) = false) : b = true := by simpa using h
theorem gridL_at {D C : LL} {i : Nat} (hl : D.length = C.length) (hi : i < (gridL D C).length) : (gridL D C)[i] = gridC (D.getD i []) (C.getD i []) := by
  have h1 : i < D.length := by simp [gridL] at hi; omega
  have h2 : i < C.length := by omega
  rw [getD_at h1, getD_at h2]
  exact List.getElem_zipWith
theorem inR_1 {C : LL} (h : C.all (inR 1 40) = true) {i : Nat} (hi : i < C.length) : (nth (C.getD i []) 0).int ≠ 0 := by
  have h1 := (List.all_eq_true.1 h) (C.getD i []) (mem_getD hi)
  unfold inR at h1
  intro h0
  rw [h0] at h1
  cases h1
theorem gridL_len {D C : LL} (h : D.length ≤ 140737488351232) : (gridL D C).length ≤ 140737488351232 := by simp only [gridL, List.length_zipWith]; omega
theorem gridL_ty {e : TypeId} {D C : LL} (he : (tab e).cts = [.int .i64]) (h : Typed tab (.slice e) (.l D)) : Typed tab (.slice e) (.l (gridL D C)) := by
  have hm : ∀ x, x ∈ gridL D C → ∃ d c, x = gridC d c := by
    intro x hx
    obtain ⟨i, hi, rfl⟩ := List.getElem_of_mem hx
    exact ⟨_, _, List.getElem_zipWith⟩
  cases h with
  | slice _ _ h1 h2 h3 h4 =>
    have hl : (gridL D C).length ≤ D.length := by simp only [gridL, List.length_zipWith]; omega
    refine .slice _ _ (Nat.le_trans (Nat.mul_le_mul_right _ hl) h1) (Nat.le_trans hl h2) (fun x hx => ?_) (fun x hx k hk => ?_)
    · obtain ⟨d, c, rfl⟩ := hm x hx
      rw [he]; rfl
    · obtain ⟨d, c, rfl⟩ := hm x hx
      rw [he] at hk ⊢
      match k, hk with
      | 0, _ => exact .int _ _ (wrap_wf _)
def dimsOk (D : LL) : Bool := decide ((D.length : Int) ≤ 3) && D.all (inR 0 40) && decide (prodL D ≤ 600)
def chunkOk (D C : LL) : Bool := dimsOk D && ((C.length : Int) == (D.length : Int)) && C.all (inR 1 40) && decide (prodL C ≤ 64) && (gridL D C).all (inR 0 16) && decide (prodL (gridL D C) ≤ 256)
theorem dimsOk_all {D : LL} (h : dimsOk D = true) : D.all (inR 0 40) = true := by
  unfold dimsOk at h
  simp only [Bool.and_eq_true] at h
  exact h.1.2
def le16 (x : List TC) : Bool := !(decide ((nth x 0).int > 16))
theorem inR_iff {lo hi : Int} {x : List TC} : inR lo hi x = true ↔ lo ≤ (nth x 0).int ∧ (nth x 0).int ≤ hi := by
  unfold inR
  by_cases h : lo ≤ (nth x 0).int <;> simp [h]
theorem gridC_val {d c : List TC} (hd : inR 0 40 d = true) (hc : inR 1 40 c = true) : (nth (gridC d c) 0).int = Int.tdiv ((nth d 0).int + (nth c 0).int - 1) ((nth c 0).int) ∧ 0 ≤ (nth (gridC d c) 0).int := by
  rw [inR_iff] at hd hc
  have h0 : 0 ≤ Int.tdiv ((nth d 0).int + (nth c 0).int - 1) ((nth c 0).int) := Int.tdiv_nonneg (by omega) (by omega)
  have h1 : Int.tdiv ((nth d 0).int + (nth c 0).int - 1) ((nth c 0).int) ≤ (nth d 0).int + (nth c 0).int - 1 := Int.tdiv_le_self _ (by omega)
  have e : (nth (gridC d c) 0).int = Int.tdiv ((nth d 0).int + (nth c 0).int - 1) ((nth c 0).int) := by
    show IntKind.wrap .i64 (Int.tdiv (IntKind.wrap .i64 ((IntKind.wrap .i64 ((nth d 0).int + (nth c 0).int)) - (1 : Int))) ((nth c 0).int)) = _
    rw [wrap64 (i := (nth d 0).int + (nth c 0).int) (by omega) (by omega), wrap64 (i := (nth d 0).int + (nth c 0).int - 1) (by omega) (by omega), wrap64 (by omega) (by omega)]
  rw [e]
  exact ⟨rfl, h0⟩
theorem grid_all {D C : LL} (hd : D.all (inR 0 40) = true) (hc : C.all (inR 1 40) = true) : (gridL D C).all le16 = (gridL D C).all (inR 0 16) := by
  rw [Bool.eq_iff_iff, List.all_eq_true, List.all_eq_true]
  refine forall_congr' fun x => forall_congr' fun hx => ?_
  obtain ⟨i, hi, rfl⟩ := List.getElem_of_mem hx
  have h1 : i < D.length := by simp [gridL] at hi; omega
  have h2 : i < C.length := by simp [gridL] at hi; omega
  have hg : (gridL D C)[i] = gridC D[i] C[i] := List.getElem_zipWith
  rw [hg]
  have h0 := (gridC_val (List.all_eq_true.1 hd _ (List.getElem_mem h1)) (List.all_eq_true.1 hc _ (List.getElem_mem h2))).2
  rw [inR_iff]
  unfold le16
  simp
  omega
abbrev dimD (A : LL) : Nat → Int := fun j => (nth (A.getD j []) 0).int
def crowR (A : LL) (x : Int) (k : Nat) : LL := (List.range A.length).map fun j => [TC.i (if A.length - k ≤ j then crdD A.length (dimD A) x j else 0)]
theorem crowR_len {A : LL} {x : Int} {k : Nat} : (crowR A x k).length = A.length := by simp [crowR]
theorem crowR_at {A : LL} {x : Int} {k j : Nat} (h : j < A.length) : (crowR A x k)[j]? = some [TC.i (if A.length - k ≤ j then crdD A.length (dimD A) x j else 0)] := by
  unfold crowR
  rw [List.getElem?_map, List.getElem?_range h]; rfl
theorem crowR_set {A : LL} {x : Int} {k : Nat} (h : k < A.length) : (crowR A x k).set (A.length - 1 - k) [TC.i (crdD A.length (dimD A) x (A.length - 1 - k))] = crowR A x (k + 1) := by
  refine List.ext_getElem (by simp [crowR_len]) fun j h1 h2 => ?_
  have hj : j < A.length := by rw [crowR_len] at h2; exact h2
  have a1 := crowR_at (x := x) (k := k) hj
  have a2 := crowR_at (x := x) (k := k + 1) hj
  rw [List.getElem?_eq_getElem (by rw [crowR_len]; exact hj)] at a1 a2
  rw [Option.some.inj a2, List.getElem_set]
  by_cases hc : A.length - 1 - k = j
  · rw [if_pos hc, if_pos (by omega), hc]
  · rw [if_neg hc, Option.some.inj a1]
    by_cases h3 : A.length - k ≤ j
    · rw [if_pos h3, if_pos (by omega)]
    · rw [if_neg h3, if_neg (by omega)]
theorem crowR_zero {A : LL} {x : Int} : List.replicate A.length [TC.i (0 : Int)] = crowR A x 0 := by
  refine List.ext_getElem (by simp [crowR_len]) fun j h1 h2 => ?_
  have hj : j < A.length := by rw [crowR_len] at h2; exact h2
  have a1 := crowR_at (x := x) (k := 0) hj
  rw [List.getElem?_eq_getElem (by rw [crowR_len]; exact hj)] at a1
  rw [Option.some.inj a1, List.getElem_replicate, if_neg (by omega)]
theorem crowR_all {A : LL} {x : Int} : crowR A x A.length = coordsV A x := by
  unfold crowR coordsV
  refine List.map_congr_left fun j hj => ?_
  rw [if_pos (by omega)]
theorem chunkOk_parts {D C : LL} (h : chunkOk D C = true) : D.length = C.length ∧ C.all (inR 1 40) = true ∧ dimsOk D = true := by
  unfold chunkOk at h
  simp only [Bool.and_eq_true, beq_iff_eq] at h
  obtain ⟨⟨⟨⟨⟨h1, h2⟩, h3⟩, _⟩, _⟩, _⟩ := h
  exact ⟨by omega, h3, h1⟩
def insB (D T : LL) (i : Int) : Bool := bif decide ((nth (row T i) 0).int ≥ 0) then decide ((nth (row T i) 0).int ≤ IntKind.wrap .i64 ((nth (row D i) 0).int - (1 : Int))) else false
def insideOk (D T : LL) : Bool := ((T.length : Int) == (D.length : Int)) && allI (fun i : Nat => insB D T (i : Int)) T.length
def keyL (A : LL) : Int := foldI (fun i n => IntKind.wrap .i64 ((IntKind.wrap .i64 (n * 16)) + (nth (row A (i : Int)) 0).int)) A.length 0
def indexN (D T : LL) (k : Nat) : Int := foldI (fun i n => IntKind.wrap .i64 ((IntKind.wrap .i64 (n * (nth (row D (i : Int)) 0).int)) + (nth (row T (i : Int)) 0).int)) k 0
def divStep (C T : LL) (i : Nat) (a : LL × LL) : LL × LL := (a.1 ++ [[TC.i (IntKind.wrap .i64 (Int.tdiv ((nth (row T (i : Int)) 0).int) ((nth (row C (i : Int)) 0).int)))]], a.2 ++ [[TC.i (Int.tmod ((nth (row T (i : Int)) 0).int) ((nth (row C (i : Int)) 0).int))]])
def divs (C T : LL) (n : Nat) : LL × LL := foldI (divStep C T) n ([], [])
theorem divs_len {C T : LL} : ∀ {n : Nat}, (divs C T n).1.length = n ∧ (divs C T n).2.length = n
  | 0 => ⟨rfl, rfl⟩
  | n + 1 => by
    obtain ⟨h1, h2⟩ := divs_len (C := C) (T := T) (n := n)
    unfold divs at h1 h2 ⊢
    rw [foldI_succ]
    unfold divStep at h1 h2 ⊢
    simp only [List.length_append, List.length_singleton]
    omega
def keysL (G : LL) (n : Nat) : LL := (List.range n).map fun i : Nat => [TC.i (keyL (coordsV G (i : Int)))]
theorem keysL_len {G : LL} {n : Nat} : (keysL G n).length = n := by simp [keysL]
theorem keysL_succ {G : LL} {n : Nat} : keysL G n ++ [[TC.i (keyL (coordsV G (n : Int)))]] = keysL G (n + 1) := by simp [keysL, List.range_succ]
theorem mul_zero_fold : ∀ (A : LL), A.foldl mulR 0 = 0
  | [] => rfl
  | x :: A => by
    show A.foldl mulR (mulR 0 x) = 0
    have : mulR 0 x = 0 := by unfold mulR; rw [Int.zero_mul]; rfl
    rw [this]; exact mul_zero_fold A
theorem prod_pos {A : LL} (h : 0 < prodL A) : ∀ j : Nat, j < A.length → (nth (A.getD j []) 0).int ≠ 0 := by
  have key : ∀ (A : LL) (a : Int), A.foldl mulR a ≠ 0 → ∀ j : Nat, j < A.length → (nth (A.getD j []) 0).int ≠ 0 := by
    intro A
    induction A with
    | nil => intro a _ j hj; simp at hj
    | cons x A ih =>
      intro a ha j hj
      have ha : A.foldl mulR (mulR a x) ≠ 0 := ha
      cases j with
      | zero =>
        intro h0
        have h0 : (nth x 0).int = 0 := h0
        apply ha
        have : mulR a x = 0 := by unfold mulR; rw [h0, Int.mul_zero]; rfl
        rw [this]; exact mul_zero_fold A
      | succ j => exact ih _ ha j (by simpa using hj)
  exact key A 1 (by unfold prodL at h; omega)
theorem keys_num {D C : LL} (h : chunkOk D C = true) : prodL (gridL D C) ≤ 100000 := by
  unfold chunkOk at h
  simp only [Bool.and_eq_true, decide_eq_true_eq] at h
  omega
theorem keyL_wf (A : LL) : (Lit.int .i64 (keyL A)).wf = true := by
  unfold keyL
  cases A.length with
  | zero => rfl
  | succ n => rw [foldI_succ]; exact wrap_wf _
theorem keysL_ty {e : TypeId} {G : LL} {n : Nat} (he : (tab e).cts = [.int .i64]) (h8 : (tab e).bytes = 8) (hn : n ≤ 100000) : Typed tab (.slice e) (.l (keysL G n)) := by
  refine .slice _ _ (by rw [keysL_len, h8]; simp only [reachBytes]; omega) (by rw [keysL_len]; simp only [maxLen]; omega) (fun r hr => ?_) (fun r hr k hk => ?_)
  · obtain ⟨i, _, rfl⟩ := List.mem_map.1 hr
    rw [he]; rfl
  · obtain ⟨i, _, rfl⟩ := List.mem_map.1 hr
    rw [he] at hk ⊢
    match k, hk with
    | 0, _ => exact .int _ _ (keyL_wf _)
theorem dig3 (a b c q : Int) (ha : 0 ≤ a ∧ a < 16) (hb : 0 ≤ b ∧ b < 16) (hc : 0 ≤ c ∧ c < 16) (hq : q = (a * 16 + b) * 16 + c) :
    Int.tmod q 16 = c ∧ Int.tdiv q 16 = a * 16 + b ∧ Int.tmod (a * 16 + b) 16 = b ∧ Int.tdiv (a * 16 + b) 16 = a ∧ Int.tmod a 16 = a := by
  have h1 : Int.tdiv q 16 = a * 16 + b := by rw [Int.tdiv_eq_ediv_of_nonneg (by omega)]; omega
  have h2 : Int.tdiv (a * 16 + b) 16 = a := by rw [Int.tdiv_eq_ediv_of_nonneg (by omega)]; omega
  rw [h1, h2, Int.tmod_eq_emod_of_nonneg (by omega), Int.tmod_eq_emod_of_nonneg (by omega), Int.tmod_eq_emod_of_nonneg (by omega)]
  omega
theorem place_key {A : LL} (hl : A.length ≤ 3) (h : ∀ x, x ∈ A → ∃ a : Int, x = [TC.i a] ∧ 0 ≤ a ∧ a < 16) : coordsV (List.replicate A.length [TC.i (16 : Int)]) (keyL A) = A := by
  match A, hl, h with
  | [], _, _ => rfl
  | [x], _, h =>
    obtain ⟨c, rfl, hc⟩ := h x (by simp)
    have hk : keyL [[TC.i c]] = c := by
      show IntKind.wrap .i64 ((IntKind.wrap .i64 ((0 : Int) * 16)) + c) = c
      rw [wrap64 (i := (0 : Int) * 16) (by omega) (by omega), wrap64 (by omega) (by omega)]; omega
    rw [hk]
    obtain ⟨d1, d2, d3, d4, d5⟩ := dig3 0 0 c c (by omega) (by omega) hc (by omega)
    show [[TC.i (Int.tmod c 16)]] = _
    rw [d1]
  | [x, y], _, h =>
    obtain ⟨b, rfl, hb⟩ := h x (by simp)
    obtain ⟨c, rfl, hc⟩ := h y (by simp)
    have hk : keyL [[TC.i b], [TC.i c]] = b * 16 + c := by
      show IntKind.wrap .i64 ((IntKind.wrap .i64 ((IntKind.wrap .i64 ((IntKind.wrap .i64 ((0 : Int) * 16)) + b)) * 16)) + c) = b * 16 + c
      rw [wrap64 (i := (0 : Int) * 16) (by omega) (by omega), wrap64 (i := (0 : Int) * 16 + b) (by omega) (by omega), wrap64 (i := ((0 : Int) * 16 + b) * 16) (by omega) (by omega), wrap64 (by omega) (by omega)]; omega
    rw [hk]
    obtain ⟨d1, d2, d3, d4, d5⟩ := dig3 0 b c (b * 16 + c) (by omega) hb hc (by omega)
    show [[TC.i (Int.tmod (IntKind.wrap .i64 (Int.tdiv (b * 16 + c) 16)) 16)], [TC.i (Int.tmod (b * 16 + c) 16)]] = _
    rw [d1, d2, wrap64 (by omega) (by omega), d3]
  | [x, y, z], _, h =>
    obtain ⟨a, rfl, ha⟩ := h x (by simp)
    obtain ⟨b, rfl, hb⟩ := h y (by simp)
    obtain ⟨c, rfl, hc⟩ := h z (by simp)
    have hk : keyL [[TC.i a], [TC.i b], [TC.i c]] = (a * 16 + b) * 16 + c := by
      show IntKind.wrap .i64 ((IntKind.wrap .i64 ((IntKind.wrap .i64 ((IntKind.wrap .i64 ((IntKind.wrap .i64 ((IntKind.wrap .i64 ((0 : Int) * 16)) + a)) * 16)) + b)) * 16)) + c) = (a * 16 + b) * 16 + c
      rw [wrap64 (i := (0 : Int) * 16) (by omega) (by omega), wrap64 (i := (0 : Int) * 16 + a) (by omega) (by omega), wrap64 (i := ((0 : Int) * 16 + a) * 16) (by omega) (by omega), wrap64 (i := ((0 : Int) * 16 + a) * 16 + b) (by omega) (by omega), wrap64 (i := (((0 : Int) * 16 + a) * 16 + b) * 16) (by omega) (by omega), wrap64 (by omega) (by omega)]; omega
    rw [hk]
    obtain ⟨d1, d2, d3, d4, d5⟩ := dig3 a b c ((a * 16 + b) * 16 + c) ha hb hc rfl
    show [[TC.i (Int.tmod (IntKind.wrap .i64 (Int.tdiv (IntKind.wrap .i64 (Int.tdiv ((a * 16 + b) * 16 + c) 16)) 16)) 16)], [TC.i (Int.tmod (IntKind.wrap .i64 (Int.tdiv ((a * 16 + b) * 16 + c) 16)) 16)], [TC.i (Int.tmod ((a * 16 + b) * 16 + c) 16)]] = _
    rw [d1, d2, wrap64 (i := a * 16 + b) (by omega) (by omega), d3, d4, wrap64 (by omega) (by omega), d5]
  | x :: y :: z :: t :: A, hl, _ => simp at hl
def keysG (D C : LL) : LL := keysL (gridL D C) (prodL (gridL D C)).toNat
def hasK (A : LL) (n : Int) : Bool := !(A.all fun x => !((nth x 0).int == n))
theorem keysG_ty {e : TypeId} {D C : LL} (he : (tab e).cts = [.int .i64]) (h8 : (tab e).bytes = 8) (h : chunkOk D C = true) : Typed tab (.slice e) (.l (keysG D C)) := keysL_ty he h8 (by have := keys_num h; omega)
def loC (C P : LL) (j : Nat) : Int := IntKind.wrap .i64 ((nth (row P (j : Int)) 0).int * (nth (row C (j : Int)) 0).int)
def hiC (D C P : LL) (j : Nat) : Int := if (nth (row D (j : Int)) 0).int < IntKind.wrap .i64 (loC C P j + (nth (row C (j : Int)) 0).int) then (nth (row D (j : Int)) 0).int else IntKind.wrap .i64 (loC C P j + (nth (row C (j : Int)) 0).int)
def rowsF (f : Nat → Int) (n : Nat) : LL := (List.range n).map fun j => [TC.i (f j)]
def boxP (D C P : LL) : LL × LL := (rowsF (loC C P) P.length, rowsF (hiC D C P) P.length)
theorem idxD_nonneg {len : Nat} {d : Nat → Int} {q : Int} (hq : 0 ≤ q) (hq2 : q ≤ 100000) (hd : ∀ j, j < len → 0 < d j) : ∀ k, k ≤ len → 0 ≤ idxD len d q k ∧ idxD len d q k ≤ 100000
  | 0, _ => ⟨hq, hq2⟩
  | k + 1, hk => by
    obtain ⟨h1, h2⟩ := idxD_nonneg hq hq2 hd k (by omega)
    have h3 := hd (len - 1 - k) (by omega)
    show 0 ≤ IntKind.wrap .i64 (Int.tdiv (idxD len d q k) (d (len - 1 - k))) ∧ _
    have h4 : 0 ≤ Int.tdiv (idxD len d q k) (d (len - 1 - k)) := Int.tdiv_nonneg h1 (by omega)
    have h5 : Int.tdiv (idxD len d q k) (d (len - 1 - k)) ≤ idxD len d q k := by
      rw [Int.tdiv_eq_ediv_of_nonneg h1]
      exact Int.ediv_le_self _ h1
    show 0 ≤ IntKind.wrap .i64 (Int.tdiv (idxD len d q k) (d (len - 1 - k))) ∧ IntKind.wrap .i64 (Int.tdiv (idxD len d q k) (d (len - 1 - k))) ≤ 100000
    rw [wrap64 (by omega) (by omega)]
    omega
theorem coords_digits {G : LL} {q : Int} (hq : 0 ≤ q) (hq2 : q ≤ 100000) (hd : ∀ j, j < G.length → 0 < dimD G j ∧ dimD G j ≤ 16) : ∀ x, x ∈ coordsV G q → ∃ a : Int, x = [TC.i a] ∧ 0 ≤ a ∧ a < 16 := by
  intro x hx
  unfold coordsV at hx
  obtain ⟨j, hj, rfl⟩ := List.mem_map.1 hx
  have hj := List.mem_range.1 hj
  refine ⟨_, rfl, ?_⟩
  have h0 := (idxD_nonneg (len := G.length) (d := dimD G) hq hq2 (fun j h => (hd j h).1) (G.length - 1 - j) (by omega)).1
  obtain ⟨h1, h2⟩ := hd j hj
  show 0 ≤ Int.tmod (idxD G.length (dimD G) q (G.length - 1 - j)) (dimD G j) ∧ Int.tmod (idxD G.length (dimD G) q (G.length - 1 - j)) (dimD G j) < 16
  have h3 := Int.tmod_nonneg (dimD G j) h0
  have h4 := Int.tmod_lt_of_pos (idxD G.length (dimD G) q (G.length - 1 - j)) h1
  omega
theorem place_of {G : LL} {i q : Int} (hl : G.length ≤ 3) (h0 : 0 ≤ i) (h2 : i ≤ 100000) (hd : ∀ j, j < G.length → 0 < dimD G j ∧ dimD G j ≤ 16) (hk : keyL (coordsV G i) = q) : coordsV (List.replicate G.length [TC.i (16 : Int)]) q = coordsV G i := by
  have := place_key (A := coordsV G i) (by rw [coordsV_len]; exact hl) (coords_digits h0 h2 hd)
  rw [coordsV_len, hk] at this
  exact this
theorem rowsF_len {f : Nat → Int} {n : Nat} : (rowsF f n).length = n := by simp [rowsF]
theorem rowsF_succ {f : Nat → Int} {n : Nat} : rowsF f n ++ [[TC.i (f n)]] = rowsF f (n + 1) := by simp [rowsF, List.range_succ]
theorem dims_rank {D : LL} (h : dimsOk D = true) : D.length ≤ 3 := by
  unfold dimsOk at h
  simp only [Bool.and_eq_true, decide_eq_true_eq] at h
  omega
theorem keys_all {G : LL} {n : Nat} {q : Int} : allI (fun j : Nat => !(keyL (coordsV G (j : Int)) == q)) n = (keysL G n).all (fun x => !((nth x 0).int == q)) := by
  unfold allI keysL
  rw [List.all_map]
  rfl
theorem keys_idx {G : LL} {n : Nat} {q : Int} (h : allI (fun j : Nat => !(keyL (coordsV G (j : Int)) == q)) n = false) : idxI (fun j : Nat => !(keyL (coordsV G (j : Int)) == q)) n < n ∧ keyL (coordsV G ((idxI (fun j : Nat => !(keyL (coordsV G (j : Int)) == q)) n : Nat) : Int)) = q := by
  unfold allI at h
  have hlt : (List.range n).findIdx (fun j : Nat => !(!(keyL (coordsV G (j : Int)) == q))) < (List.range n).length := by
    rw [List.findIdx_lt_length]
    obtain ⟨x, hx, hp⟩ := List.all_eq_false.1 h
    exact ⟨x, hx, by simpa using hp⟩
  have h2 := List.findIdx_getElem (p := fun j : Nat => !(!(keyL (coordsV G (j : Int)) == q))) (xs := List.range n) (w := hlt)
  unfold idxI
  rw [List.length_range] at hlt
  rw [List.getElem_range] at h2
  exact ⟨hlt, by simpa using h2⟩
theorem grid_dims {D C : LL} (hk : chunkOk D C = true) (hp : 0 < prodL (gridL D C)) : ∀ j, j < (gridL D C).length → 0 < dimD (gridL D C) j ∧ dimD (gridL D C) j ≤ 16 := by
  intro j hj
  have h1 := prod_pos hp j hj
  unfold chunkOk at hk
  simp only [Bool.and_eq_true] at hk
  have h2 := inR_iff.1 (List.all_eq_true.1 hk.1.2 ((gridL D C).getD j []) (mem_getD hj))
  have h3 : dimD (gridL D C) j = (nth ((gridL D C).getD j []) 0).int := rfl
  omega
theorem grid_rank {D C : LL} (hk : chunkOk D C = true) : (gridL D C).length = D.length := by
  have := (chunkOk_parts hk).1
  unfold gridL
  rw [List.length_zipWith]
  omega
theorem place_digits {D C : LL} {q : Int} (hk : chunkOk D C = true) (hh : hasK (keysG D C) q = true) : ∀ x, x ∈ coordsV (List.replicate D.length [TC.i (16 : Int)]) q → ∃ a : Int, x = [TC.i a] ∧ 0 ≤ a ∧ a < 16 := by
  have ha : allI (fun j : Nat => !(keyL (coordsV (gridL D C) (j : Int)) == q)) (prodL (gridL D C)).toNat = false := by
    rw [keys_all]
    unfold hasK keysG at hh
    simpa using hh
  obtain ⟨h1, h2⟩ := keys_idx ha
  have hn := keys_num hk
  have e := place_of (G := gridL D C) (i := ((idxI (fun j : Nat => !(keyL (coordsV (gridL D C) (j : Int)) == q)) (prodL (gridL D C)).toNat : Nat) : Int)) (q := q) (by rw [grid_rank hk]; exact dims_rank (chunkOk_parts hk).2.2) (by omega) (by omega) (grid_dims hk (by omega)) h2
  rw [grid_rank hk] at e
  rw [e]
  exact coords_digits (by omega) (by omega) (grid_dims hk (by omega))
def hor (d x : Nat → Int) : Nat → Int
  | 0 => 0
  | k + 1 => hor d x k * d k + x k
def prodN (d : Nat → Int) : Nat → Int
  | 0 => 1
  | k + 1 => prodN d k * d k
theorem dm {a d x : Int} (h0 : 0 ≤ x) (h1 : x < d) : (a * d + x) / d = a ∧ (a * d + x) % d = x := by
  have hd : d ≠ 0 := by omega
  have e : (a * d + x) / d = a := by
    rw [Int.add_comm, Int.add_mul_ediv_right _ _ hd, Int.ediv_eq_zero_of_lt h0 h1, Int.zero_add]
  refine ⟨e, ?_⟩
  rw [Int.emod_def, e, Int.mul_comm d a]
  omega
theorem hor_lt {d x : Nat → Int} : ∀ {r : Nat}, (∀ j, j < r → 0 ≤ x j ∧ x j < d j) → 0 ≤ hor d x r ∧ hor d x r < prodN d r
  | 0, _ => ⟨Int.le_refl _, by show (0 : Int) < 1; decide⟩
  | r + 1, h => by
    obtain ⟨h0, h1⟩ := hor_lt (r := r) (fun j hj => h j (by omega))
    obtain ⟨h2, h3⟩ := h r (by omega)
    have m0 : 0 ≤ hor d x r * d r := Int.mul_nonneg h0 (by omega)
    have m1 : hor d x r * d r ≤ (prodN d r - 1) * d r := Int.mul_le_mul_of_nonneg_right (by omega) (by omega)
    rw [Int.sub_mul, Int.one_mul] at m1
    show 0 ≤ hor d x r * d r + x r ∧ hor d x r * d r + x r < prodN d r * d r
    omega
theorem prodN_le {d : Nat → Int} {r : Nat} (h : ∀ j, j < r → 0 ≤ d j ∧ d j ≤ 40) (hr : r ≤ 3) : ∀ k, k ≤ r → 0 ≤ prodN d k ∧ prodN d k ≤ 64000 := by
  have key : ∀ k, k ≤ r → 0 ≤ prodN d k ∧ prodN d k ≤ 40 ^ k := by
    intro k
    induction k with
    | zero => intro _; exact ⟨by show (0 : Int) ≤ 1; decide, by show (1 : Int) ≤ 1; decide⟩
    | succ k ih =>
      intro hk
      obtain ⟨h0, h1⟩ := ih (by omega)
      obtain ⟨h2, h3⟩ := h k (by omega)
      show 0 ≤ prodN d k * d k ∧ prodN d k * d k ≤ 40 ^ (k + 1)
      exact ⟨Int.mul_nonneg h0 h2, by rw [Int.pow_succ]; exact Int.mul_le_mul h1 h3 h2 (Int.pow_nonneg (by decide))⟩
  intro k hk
  obtain ⟨h0, h1⟩ := key k hk
  refine ⟨h0, Int.le_trans h1 ?_⟩
  match k, (show k ≤ 3 by omega) with
  | 0, _ => decide
  | 1, _ => decide
  | 2, _ => decide
  | 3, _ => decide
theorem idx_hor {d x : Nat → Int} {r : Nat} (h : ∀ j, j < r → 0 ≤ x j ∧ x j < d j) (hP : ∀ k, k ≤ r → prodN d k ≤ 64000) : ∀ k, k ≤ r → idxD r d (hor d x r) k = hor d x (r - k)
  | 0, _ => rfl
  | k + 1, hk => by
    have ih := idx_hor h hP k (by omega)
    obtain ⟨h2, h3⟩ := h (r - 1 - k) (by omega)
    have hl := hor_lt (d := d) (x := x) (r := r - 1 - k) (fun j hj => h j (by omega))
    have hl2 := hor_lt (d := d) (x := x) (r := r - k) (fun j hj => h j (by omega))
    have hp := hP (r - 1 - k) (by omega)
    have e1 : hor d x (r - k) = hor d x (r - 1 - k) * d (r - 1 - k) + x (r - 1 - k) := by
      rw [show r - k = (r - 1 - k) + 1 by omega]; rfl
    show IntKind.wrap .i64 (Int.tdiv (idxD r d (hor d x r) k) (d (r - 1 - k))) = _
    rw [ih, Int.tdiv_eq_ediv_of_nonneg hl2.1, e1, (dm h2 h3).1, show r - (k + 1) = r - 1 - k by omega]
    exact wrap64 (by omega) (by omega)
theorem crd_hor {d x : Nat → Int} {r j : Nat} (h : ∀ j, j < r → 0 ≤ x j ∧ x j < d j) (hP : ∀ k, k ≤ r → prodN d k ≤ 64000) (hj : j < r) : crdD r d (hor d x r) j = x j := by
  unfold crdD
  rw [idx_hor h hP (r - 1 - j) (by omega), show r - (r - 1 - j) = j + 1 by omega]
  have hl := hor_lt (d := d) (x := x) (r := j + 1) (fun i hi => h i (by omega))
  obtain ⟨h2, h3⟩ := h j hj
  rw [Int.tmod_eq_emod_of_nonneg hl.1]
  exact (dm h2 h3).2
theorem idx_lt {d : Nat → Int} {q : Int} {r : Nat} (h0 : 0 ≤ q) (hq : q < prodN d r) (hd : ∀ j, j < r → 0 < d j) (hP : ∀ k, k ≤ r → prodN d k ≤ 64000) : ∀ k, k ≤ r → 0 ≤ idxD r d q k ∧ idxD r d q k < prodN d (r - k)
  | 0, _ => ⟨h0, hq⟩
  | k + 1, hk => by
    obtain ⟨h1, h2⟩ := idx_lt h0 hq hd hP k (by omega)
    have h3 := hd (r - 1 - k) (by omega)
    have hp := hP (r - 1 - k) (by omega)
    rw [show r - k = (r - 1 - k) + 1 by omega] at h2
    have h4 : 0 ≤ idxD r d q k / d (r - 1 - k) := Int.ediv_nonneg h1 (by omega)
    have h5 : idxD r d q k / d (r - 1 - k) < prodN d (r - 1 - k) := Int.ediv_lt_of_lt_mul h3 h2
    show 0 ≤ IntKind.wrap .i64 (Int.tdiv (idxD r d q k) (d (r - 1 - k))) ∧ IntKind.wrap .i64 (Int.tdiv (idxD r d q k) (d (r - 1 - k))) < _
    rw [Int.tdiv_eq_ediv_of_nonneg h1, wrap64 (by omega) (by omega), show r - (k + 1) = r - 1 - k by omega]
    exact ⟨h4, h5⟩
theorem crd_lt {d : Nat → Int} {q : Int} {r j : Nat} (h0 : 0 ≤ q) (hq : q < prodN d r) (hd : ∀ j, j < r → 0 < d j) (hP : ∀ k, k ≤ r → prodN d k ≤ 64000) (hj : j < r) : 0 ≤ crdD r d q j ∧ crdD r d q j < d j := by
  have h1 := (idx_lt h0 hq hd hP (r - 1 - j) (by omega)).1
  exact ⟨Int.tmod_nonneg _ h1, Int.tmod_lt_of_pos _ (hd j hj)⟩
theorem hor_crd {d : Nat → Int} {q : Int} {r : Nat} (h0 : 0 ≤ q) (hq : q < prodN d r) (hd : ∀ j, j < r → 0 < d j) (hP : ∀ k, k ≤ r → prodN d k ≤ 64000) : hor d (crdD r d q) r = q := by
  have key : ∀ m, m ≤ r → hor d (crdD r d q) m = idxD r d q (r - m) := by
    intro m
    induction m with
    | zero =>
      intro _
      have := idx_lt h0 hq hd hP r (Nat.le_refl _)
      rw [Nat.sub_self] at this
      show 0 = _
      have e : prodN d 0 = 1 := rfl
      rw [Nat.sub_zero]
      omega
    | succ m ih =>
      intro hm
      have h1 := (idx_lt h0 hq hd hP (r - 1 - m) (by omega))
      have h2 := (idx_lt h0 hq hd hP (r - m) (by omega))
      have h3 := hd m (by omega)
      show hor d (crdD r d q) m * d m + crdD r d q m = _
      have e : idxD r d q (r - m) = idxD r d q (r - 1 - m) / d m := by
        rw [show r - m = (r - 1 - m) + 1 by omega]
        show IntKind.wrap .i64 (Int.tdiv (idxD r d q (r - 1 - m)) (d (r - 1 - (r - 1 - m)))) = _
        rw [show r - 1 - (r - 1 - m) = m by omega, Int.tdiv_eq_ediv_of_nonneg h1.1]
        have hp := hP (r - (r - 1 - m)) (by omega)
        have h4 : 0 ≤ idxD r d q (r - 1 - m) / d m := Int.ediv_nonneg h1.1 (by omega)
        have h5 : idxD r d q (r - 1 - m) / d m ≤ idxD r d q (r - 1 - m) := Int.ediv_le_self _ h1.1
        exact wrap64 (by omega) (by omega)
      rw [ih (by omega), e]
      unfold crdD
      rw [Int.tmod_eq_emod_of_nonneg h1.1, show r - (m + 1) = r - 1 - m by omega, Int.mul_comm]
      exact Int.mul_ediv_add_emod _ _
  have := key r (Nat.le_refl _)
  rw [Nat.sub_self] at this
  exact this
theorem rowsF_at {f : Nat → Int} {n j : Nat} (h : j < n) : dimD (rowsF f n) j = f j := by
  unfold dimD rowsF
  rw [List.getD_eq_getElem?_getD, List.getElem?_map, List.getElem?_range h]
  rfl
theorem rowsF_congr {f g : Nat → Int} {n : Nat} (h : ∀ j, j < n → f j = g j) : rowsF f n = rowsF g n := by
  unfold rowsF
  refine List.map_congr_left fun j hj => ?_
  rw [h j (List.mem_range.1 hj)]
theorem rowsF_inj {f g : Nat → Int} {n : Nat} (h : rowsF f n = rowsF g n) : ∀ j, j < n → f j = g j := fun j hj => by
  rw [← rowsF_at (f := f) hj, h, rowsF_at hj]
theorem coords_rows {A : LL} {q : Int} : coordsV A q = rowsF (crdD A.length (dimD A) q) A.length := rfl
theorem indexN_hor {D T : LL} {r : Nat} (h : ∀ j, j < r → 0 ≤ dimD T j ∧ dimD T j < dimD D j) (hP : ∀ k, k ≤ r → prodN (dimD D) k ≤ 64000) : ∀ k, k ≤ r → indexN D T k = hor (dimD D) (dimD T) k
  | 0, _ => rfl
  | k + 1, hk => by
    have ih := indexN_hor h hP k (by omega)
    unfold indexN at ih ⊢
    rw [foldI_succ, ih]
    have hl := hor_lt (d := dimD D) (x := dimD T) (r := k + 1) (fun j hj => h j (by omega))
    have hl0 := hor_lt (d := dimD D) (x := dimD T) (r := k) (fun j hj => h j (by omega))
    have hp := hP (k + 1) hk
    obtain ⟨h2, h3⟩ := h k (by omega)
    have m0 : 0 ≤ hor (dimD D) (dimD T) k * dimD D k := Int.mul_nonneg hl0.1 (by omega)
    have hs : hor (dimD D) (dimD T) (k + 1) = hor (dimD D) (dimD T) k * dimD D k + dimD T k := rfl
    show IntKind.wrap .i64 ((IntKind.wrap .i64 (hor (dimD D) (dimD T) k * dimD D k)) + dimD T k) = _
    rw [wrap64 (i := hor (dimD D) (dimD T) k * dimD D k) (by omega) (by omega), wrap64 (by omega) (by omega)]
    rfl
theorem divs_rows {C T : LL} : ∀ n : Nat, divs C T n = (rowsF (fun j => IntKind.wrap .i64 (Int.tdiv (dimD T j) (dimD C j))) n, rowsF (fun j => Int.tmod (dimD T j) (dimD C j)) n)
  | 0 => rfl
  | n + 1 => by
    have ih := divs_rows (C := C) (T := T) n
    unfold divs at ih ⊢
    rw [foldI_succ, ih, ← rowsF_succ, ← rowsF_succ]
    rfl
theorem prodL_prodN {A : LL} (h : ∀ j, j < A.length → 0 ≤ dimD A j ∧ dimD A j ≤ 40) (hr : A.length ≤ 3) : prodL A = prodN (dimD A) A.length := by
  have key : ∀ k, k ≤ A.length → (A.take k).foldl mulR 1 = prodN (dimD A) k := by
    intro k
    induction k with
    | zero => intro _; rfl
    | succ k ih =>
      intro hk
      rw [List.take_succ_eq_append_getElem (by omega), List.foldl_append, ih (by omega)]
      have hp := prodN_le h hr (k + 1) hk
      have hs : prodN (dimD A) (k + 1) = prodN (dimD A) k * dimD A k := rfl
      have e : A[k] = A.getD k [] := (getD_at (by omega)).symm
      show IntKind.wrap .i64 (prodN (dimD A) k * (nth A[k] 0).int) = _
      rw [e]
      show IntKind.wrap .i64 (prodN (dimD A) k * dimD A k) = _
      rw [wrap64 (by omega) (by omega)]; rfl
  have := key A.length (Nat.le_refl _)
  rw [List.take_length] at this
  exact this
theorem inside_iff {D T : LL} (hT : T.length = D.length) (hD : ∀ j, j < D.length → 0 ≤ dimD D j ∧ dimD D j ≤ 40) : insideOk D T = true ↔ ∀ j, j < D.length → 0 ≤ dimD T j ∧ dimD T j < dimD D j := by
  unfold insideOk
  rw [hT, beq_self_eq_true, Bool.true_and, allI_iff]
  refine forall_congr' fun j => forall_congr' fun hj => ?_
  obtain ⟨h0, h1⟩ := hD j hj
  unfold insB
  show (bif decide (dimD T j ≥ 0) then decide (dimD T j ≤ IntKind.wrap .i64 (dimD D j - 1)) else false) = true ↔ _
  rw [wrap64 (by omega) (by omega)]
  by_cases h : dimD T j ≥ 0
  · rw [decide_eq_true h, cond_true, decide_eq_true_eq]; omega
  · rw [decide_eq_false h, cond_false]
    constructor
    · intro h; cases h
    · intro h'; omega
def elP (D F C : LL) (q : Int) (i : Nat) : Bool := (keyL (divs C (coordsV D (i : Int)) (coordsV D (i : Int)).length).1 == q) && !(insideOk F (coordsV D (i : Int)))
def elN (D C : LL) (i : Nat) : Int := indexN C (divs C (coordsV D (i : Int)) (coordsV D (i : Int)).length).2 (coordsV D (i : Int)).length
def elI (D F C : LL) (q : Int) (n : Nat) : LL := ((List.range n).filter (elP D F C q)).map fun i => [TC.i (elN D C i)]
def shR (C B : LL) (n : Nat) : LL := rowsF (fun j => IntKind.wrap .i64 (dimD (coordsV C (n : Int)) j + dimD B j)) C.length
def elT (D F C B : LL) (n : Nat) : Bool := insideOk D (shR C B n) && !(insideOk F (shR C B n))
def elS (D F C B : LL) (m : Nat) : LL := ((List.range m).filter (elT D F C B)).map fun n : Nat => [TC.i (n : Int)]
def pl16 (D : LL) (q : Int) : LL := coordsV (List.replicate D.length [TC.i (16 : Int)]) q
def elV (D F C : LL) (q : Int) : LL := bif chunkOk D C && chunkOk F C && hasK (keysG D C) q then elS D F C (boxP D C (pl16 D q)).1 (prodL C).toNat else []
theorem strict_ext : ∀ {A B : List Int}, A.Pairwise (· < ·) → B.Pairwise (· < ·) → (∀ x, x ∈ A ↔ x ∈ B) → A = B
  | [], [], _, _, _ => rfl
  | [], b :: B, _, _, h => absurd ((h b).2 List.mem_cons_self) (by simp)
  | a :: A, [], _, _, h => absurd ((h a).1 List.mem_cons_self) (by simp)
  | a :: A, b :: B, hA, hB, h => by
    obtain ⟨ha, hA'⟩ := List.pairwise_cons.1 hA
    obtain ⟨hb, hB'⟩ := List.pairwise_cons.1 hB
    have e : a = b := by
      rcases List.mem_cons.1 ((h a).1 List.mem_cons_self) with e | h1
      · exact e
      · rcases List.mem_cons.1 ((h b).2 List.mem_cons_self) with e | h2
        · exact e.symm
        · have := ha b h2; have := hb a h1; omega
    subst e
    refine congrArg (a :: ·) (strict_ext hA' hB' fun x => ?_)
    have hx := h x
    constructor
    · intro hm
      rcases List.mem_cons.1 (hx.1 (List.mem_cons_of_mem _ hm)) with e | h1
      · subst e; exact absurd (ha x hm) (by omega)
      · exact h1
    · intro hm
      rcases List.mem_cons.1 (hx.2 (List.mem_cons_of_mem _ hm)) with e | h1
      · subst e; exact absurd (hb x hm) (by omega)
      · exact h1
/-- What valid dimensions of chunks say. -/
structure Ck (D C : LL) : Prop where
  r3 : D.length ≤ 3
  len : D.length = C.length
  dd : ∀ j, j < D.length → 0 ≤ dimD D j ∧ dimD D j ≤ 40
  cc : ∀ j, j < C.length → 1 ≤ dimD C j ∧ dimD C j ≤ 40
  gl : (gridL D C).length = D.length
  gg : ∀ j, j < D.length → dimD (gridL D C) j = (dimD D j + dimD C j - 1) / dimD C j ∧ 0 ≤ dimD (gridL D C) j ∧ dimD (gridL D C) j ≤ 16
  pc : prodL C = prodN (dimD C) C.length
  pd : prodL D = prodN (dimD D) D.length
  pg : prodL (gridL D C) = prodN (dimD (gridL D C)) D.length
theorem chunkOk_ck {D C : LL} (h : chunkOk D C = true) : Ck D C := by
  have h0 := chunkOk_parts h
  have hd := dimsOk_all h0.2.2
  have h3 : D.length ≤ 3 := by
    have := h0.2.2
    unfold dimsOk at this
    simp only [Bool.and_eq_true, decide_eq_true_eq] at this
    omega
  have dd : ∀ j, j < D.length → 0 ≤ dimD D j ∧ dimD D j ≤ 40 := fun j hj => inR_iff.1 (List.all_eq_true.1 hd (D.getD j []) (mem_getD hj))
  have cc : ∀ j, j < C.length → 1 ≤ dimD C j ∧ dimD C j ≤ 40 := fun j hj => inR_iff.1 (List.all_eq_true.1 h0.2.1 (C.getD j []) (mem_getD hj))
  have gl := grid_rank h
  have h2 := h
  unfold chunkOk at h2
  simp only [Bool.and_eq_true] at h2
  have gg : ∀ j, j < D.length → dimD (gridL D C) j = (dimD D j + dimD C j - 1) / dimD C j ∧ 0 ≤ dimD (gridL D C) j ∧ dimD (gridL D C) j ≤ 16 := fun j hj => by
    have a1 := inR_iff.1 (List.all_eq_true.1 h2.1.2 ((gridL D C).getD j []) (mem_getD (by rw [gl]; exact hj)))
    refine ⟨?_, a1⟩
    obtain ⟨b0, b1⟩ := dd j hj
    obtain ⟨c0, c1⟩ := cc j (by omega)
    show (nth ((gridL D C).getD j []) 0).int = _
    rw [getD_at (by rw [gl]; exact hj), gridL_at h0.1 (by rw [gl]; exact hj)]
    show IntKind.wrap .i64 (Int.tdiv (IntKind.wrap .i64 ((IntKind.wrap .i64 (dimD D j + dimD C j)) - (1 : Int))) (dimD C j)) = _
    rw [wrap64 (i := dimD D j + dimD C j) (by omega) (by omega), wrap64 (i := dimD D j + dimD C j - 1) (by omega) (by omega), Int.tdiv_eq_ediv_of_nonneg (by omega)]
    have e0 : 0 ≤ (dimD D j + dimD C j - 1) / dimD C j := Int.ediv_nonneg (by omega) (by omega)
    have e1 : (dimD D j + dimD C j - 1) / dimD C j ≤ dimD D j + dimD C j - 1 := Int.ediv_le_self _ (by omega)
    exact wrap64 (by omega) (by omega)
  refine ⟨h3, h0.1, dd, cc, gl, gg, prodL_prodN (fun j hj => ⟨by have := cc j hj; omega, (cc j hj).2⟩) (by omega), prodL_prodN dd h3, ?_⟩
  rw [prodL_prodN (fun j hj => by rw [gl] at hj; have := gg j hj; omega) (by omega), gl]
theorem Ck.dpos {D C : LL} (k : Ck D C) (h : 0 < prodL D) : ∀ j, j < D.length → 0 < dimD D j := by
  rw [k.pd] at h
  have key : ∀ m, m ≤ D.length → 0 < prodN (dimD D) m → ∀ j, j < m → 0 < dimD D j := by
    intro m
    induction m with
    | zero => intro _ _ j hj; omega
    | succ m ih =>
      intro hm hp j hj
      have hp' : 0 < prodN (dimD D) m * dimD D m := hp
      have h1 := (prodN_le k.dd k.r3 m (by omega)).1
      have h2 := (k.dd m (by omega)).1
      have h3 : 0 < dimD D m := by
        rcases Int.lt_or_eq_of_le h2 with h | h
        · exact h
        · rw [← h, Int.mul_zero] at hp'; omega
      have h4 : 0 < prodN (dimD D) m := by
        rcases Int.lt_or_eq_of_le h1 with h | h
        · exact h
        · rw [← h, Int.zero_mul] at hp'; omega
      rcases Nat.lt_or_ge j m with hjm | hjm
      · exact ih (by omega) h4 j hjm
      · rw [show j = m by omega]; exact h3
  exact key D.length (Nat.le_refl _) h
/-- The place of an element's chunk, its place within. -/
theorem Ck.div {D C : LL} (k : Ck D C) {x : Nat → Int} (hx : ∀ j, j < D.length → 0 ≤ x j ∧ x j < dimD D j) :
    divs C (rowsF x D.length) D.length = (rowsF (fun j => x j / dimD C j) D.length, rowsF (fun j => x j % dimD C j) D.length) ∧
    ∀ j, j < D.length → (0 ≤ x j / dimD C j ∧ x j / dimD C j < dimD (gridL D C) j) ∧ (0 ≤ x j % dimD C j ∧ x j % dimD C j < dimD C j) := by
  have h2 : ∀ j, j < D.length → (0 ≤ x j / dimD C j ∧ x j / dimD C j < dimD (gridL D C) j) ∧ (0 ≤ x j % dimD C j ∧ x j % dimD C j < dimD C j) := fun j hj => by
    obtain ⟨a0, a1⟩ := hx j hj
    obtain ⟨c0, c1⟩ := k.cc j (by have := k.len; omega)
    refine ⟨⟨Int.ediv_nonneg a0 (by omega), ?_⟩, Int.emod_nonneg _ (by omega), Int.emod_lt_of_pos _ (by omega)⟩
    rw [(k.gg j hj).1]
    have e : dimD D j + dimD C j - 1 = (dimD D j - 1) + 1 * dimD C j := by omega
    rw [e, Int.add_mul_ediv_right _ _ (by omega)]
    have := Int.ediv_le_ediv (a := x j) (b := dimD D j - 1) (c := dimD C j) (by omega) (by omega)
    omega
  refine ⟨?_, h2⟩
  rw [divs_rows]
  refine Prod.ext (rowsF_congr fun j hj => ?_) (rowsF_congr fun j hj => ?_)
  · show IntKind.wrap .i64 (Int.tdiv (dimD (rowsF x D.length) j) (dimD C j)) = _
    have := (h2 j hj).1
    have hg := k.gg j hj
    rw [rowsF_at hj, Int.tdiv_eq_ediv_of_nonneg (hx j hj).1, wrap64 (by omega) (by omega)]
  · show Int.tmod (dimD (rowsF x D.length) j) (dimD C j) = _
    rw [rowsF_at hj, Int.tmod_eq_emod_of_nonneg (hx j hj).1]
theorem Ck.hP {D C : LL} (k : Ck D C) : (∀ m, m ≤ D.length → prodN (dimD D) m ≤ 64000) ∧ (∀ m, m ≤ D.length → prodN (dimD C) m ≤ 64000) ∧ (∀ m, m ≤ D.length → prodN (dimD (gridL D C)) m ≤ 64000) := by
  have := k.len
  refine ⟨fun m hm => (prodN_le k.dd k.r3 m hm).2, fun m hm => (prodN_le (r := C.length) (fun j hj => ⟨by have := k.cc j hj; omega, (k.cc j hj).2⟩) (by have := k.r3; omega) m (by omega)).2, fun m hm => (prodN_le (r := D.length) (fun j hj => ⟨(k.gg j hj).2.1, by have := (k.gg j hj).2.2; omega⟩) k.r3 m hm).2⟩
/-- An element's coordinates. -/
theorem Ck.crd {D C : LL} (k : Ck D C) {i : Nat} (hi : (i : Int) < prodL D) : ∀ j, j < D.length → 0 ≤ crdD D.length (dimD D) (i : Int) j ∧ crdD D.length (dimD D) (i : Int) j < dimD D j := by
  have hp := k.dpos (by omega)
  exact fun j hj => crd_lt (by omega) (by rw [← k.pd]; exact hi) hp k.hP.1 hj
theorem Ck.grd {D C : LL} (k : Ck D C) {p : Nat → Int} (hp : ∀ j, j < D.length → 0 ≤ p j ∧ p j < dimD (gridL D C) j) :
    coordsV (gridL D C) (hor (dimD (gridL D C)) p D.length) = rowsF p D.length ∧ 0 ≤ hor (dimD (gridL D C)) p D.length ∧ hor (dimD (gridL D C)) p D.length < prodL (gridL D C) := by
  have hl := hor_lt hp
  refine ⟨?_, hl.1, by rw [k.pg]; exact hl.2⟩
  rw [coords_rows, k.gl]
  exact rowsF_congr fun j hj => crd_hor hp k.hP.2.2 hj
theorem hasK_iff {G : LL} {n : Nat} {q : Int} : hasK (keysL G n) q = true ↔ ∃ k : Nat, k < n ∧ keyL (coordsV G (k : Int)) = q := by
  unfold hasK
  rw [← keys_all]
  constructor
  · intro h
    have h : allI (fun j : Nat => !(keyL (coordsV G (j : Int)) == q)) n = false := by simpa using h
    cases hx : decide (∃ k : Nat, k < n ∧ keyL (coordsV G (k : Int)) = q) with
    | true => exact of_decide_eq_true hx
    | false =>
      have hx := of_decide_eq_false hx
      rw [allI_iff.2 (fun i hi => by
        have : ¬ keyL (coordsV G (i : Int)) = q := fun e => hx ⟨i, hi, e⟩
        simpa using this)] at h
      cases h
  · rintro ⟨k, hk, e⟩
    cases hx : allI (fun j : Nat => !(keyL (coordsV G (j : Int)) == q)) n with
    | false => rfl
    | true =>
      have := allI_iff.1 hx k hk
      rw [e] at this
      simp at this
/-- The keys that are there tell their places. -/
theorem Ck.place {D C : LL} (k : Ck D C) {i : Nat} {q : Int} (hi : (i : Int) < prodL (gridL D C)) (hq : keyL (coordsV (gridL D C) (i : Int)) = q) : pl16 D q = coordsV (gridL D C) (i : Int) := by
  have hg : ∀ j, j < (gridL D C).length → 0 < dimD (gridL D C) j ∧ dimD (gridL D C) j ≤ 16 := fun j hj => by
    have hj' : j < D.length := by rw [k.gl] at hj; exact hj
    have := prod_pos (A := gridL D C) (by omega) j hj
    have := k.gg j hj'
    have e : dimD (gridL D C) j = (nth ((gridL D C).getD j []) 0).int := rfl
    omega
  have h6 : (i : Int) ≤ 100000 := by have := k.hP.2.2 D.length (Nat.le_refl _); have := k.pg; omega
  have := place_of (G := gridL D C) (i := (i : Int)) (q := q) (by rw [k.gl]; exact k.r3) (by omega) h6 hg hq
  rw [k.gl] at this
  exact this
/-- An element's chunk and its number there. -/
theorem Ck.num {D C : LL} (k : Ck D C) {x : Nat → Int} (hx : ∀ j, j < D.length → 0 ≤ x j ∧ x j < dimD D j) :
    indexN C (rowsF (fun j => x j % dimD C j) D.length) D.length = hor (dimD C) (fun j => x j % dimD C j) D.length ∧ 0 ≤ hor (dimD C) (fun j => x j % dimD C j) D.length ∧ hor (dimD C) (fun j => x j % dimD C j) D.length < prodL C ∧
    ∀ j, j < D.length → crdD C.length (dimD C) (hor (dimD C) (fun j => x j % dimD C j) D.length) j = x j % dimD C j := by
  have hd := (k.div hx).2
  have hr : ∀ j, j < D.length → 0 ≤ dimD (rowsF (fun j => x j % dimD C j) D.length) j ∧ dimD (rowsF (fun j => x j % dimD C j) D.length) j < dimD C j := fun j hj => by
    rw [rowsF_at hj]; exact (hd j hj).2
  have h0 := indexN_hor (D := C) hr k.hP.2.1 D.length (Nat.le_refl _)
  have e : hor (dimD C) (dimD (rowsF (fun j => x j % dimD C j) D.length)) D.length = hor (dimD C) (fun j => x j % dimD C j) D.length := by
    have key : ∀ m, m ≤ D.length → hor (dimD C) (dimD (rowsF (fun j => x j % dimD C j) D.length)) m = hor (dimD C) (fun j => x j % dimD C j) m := by
      intro m
      induction m with
      | zero => intro _; rfl
      | succ m ih =>
        intro hm
        show hor _ _ m * _ + _ = hor _ _ m * _ + _
        rw [ih (by omega), rowsF_at (by omega)]
    exact key D.length (Nat.le_refl _)
  have hl := hor_lt (d := dimD C) (x := fun j => x j % dimD C j) (r := D.length) fun j hj => (hd j hj).2
  refine ⟨h0.trans e, hl.1, by rw [k.pc, ← k.len]; exact hl.2, fun j hj => ?_⟩
  rw [← k.len]
  exact crd_hor (fun j hj => (hd j hj).2) k.hP.2.1 hj
theorem elP_iff {D F C : LL} {q : Int} (k : Ck D C) {i : Nat} (hi : (i : Int) < prodL D) : elP D F C q i = true ↔ keyL (rowsF (fun j => crdD D.length (dimD D) (i : Int) j / dimD C j) D.length) = q ∧ insideOk F (coordsV D (i : Int)) = false := by
  unfold elP
  rw [coordsV_len, coords_rows, (k.div (k.crd hi)).1, Bool.and_eq_true, beq_iff_eq, Bool.not_eq_true']
theorem elN_eq {D C : LL} (k : Ck D C) {i : Nat} (hi : (i : Int) < prodL D) : elN D C i = hor (dimD C) (fun j => crdD D.length (dimD D) (i : Int) j % dimD C j) D.length := by
  unfold elN
  rw [coordsV_len, coords_rows, (k.div (k.crd hi)).1]
  exact (k.num (k.crd hi)).1
theorem boxP_low {D C P : LL} {p : Nat → Int} (k : Ck D C) (hP : P = rowsF p D.length) (hp : ∀ j, j < D.length → 0 ≤ p j ∧ p j < 16) : ∀ j, j < D.length → dimD (boxP D C P).1 j = p j * dimD C j := fun j hj => by
  have hl : P.length = D.length := by rw [hP, rowsF_len]
  unfold boxP
  rw [hl]
  show dimD (rowsF (loC C P) D.length) j = _
  rw [rowsF_at hj]
  have e : loC C P j = IntKind.wrap .i64 (dimD P j * dimD C j) := rfl
  have e2 : dimD P j = p j := by rw [hP]; exact rowsF_at hj
  rw [e, e2]
  obtain ⟨a, b⟩ := hp j hj
  obtain ⟨c, d⟩ := k.cc j (by have := k.len; omega)
  have m0 : 0 ≤ p j * dimD C j := Int.mul_nonneg a (by omega)
  have m1 : p j * dimD C j ≤ 16 * 40 := Int.mul_le_mul (by omega) d (by omega) (by omega)
  exact wrap64 (by omega) (by omega)
theorem el_main {D F C : LL} {q : Int} (hD : chunkOk D C = true) (hF : chunkOk F C = true) :
    rowsOf TC.i ((elems TC.int (elI D F C q (prodL D).toNat)).mergeSort fun x y => decide (x ≤ y)) = bif hasK (keysG D C) q then elS D F C (boxP D C (pl16 D q)).1 (prodL C).toNat else [] := by
  have k := chunkOk_ck hD
  have k2 := chunkOk_ck hF
  have hFD : F.length = D.length := by have := k.len; have := k2.len; omega
  have hpd : 0 ≤ prodL D := by rw [k.pd]; exact (prodN_le k.dd k.r3 _ (Nat.le_refl _)).1
  have hpg : 0 ≤ prodL (gridL D C) := by rw [k.pg]; exact (prodN_le (r := D.length) (fun j hj => ⟨(k.gg j hj).2.1, by have := (k.gg j hj).2.2; omega⟩) k.r3 _ (Nat.le_refl _)).1
  have hpc : 0 ≤ prodL C := by rw [k.pc]; exact (prodN_le (r := C.length) (fun j hj => ⟨by have := k.cc j hj; omega, (k.cc j hj).2⟩) (by have := k.r3; have := k.len; omega) _ (Nat.le_refl _)).1
  have hel : elems TC.int (elI D F C q (prodL D).toNat) = ((List.range (prodL D).toNat).filter (elP D F C q)).map (elN D C) := by
    unfold elems elI
    rw [List.map_map]
    rfl
  rw [hel]
  -- a key that is met is there
  have hkey : ∀ i : Nat, (i : Int) < prodL D → elP D F C q i = true → hasK (keysG D C) q = true ∧ pl16 D q = rowsF (fun j => crdD D.length (dimD D) (i : Int) j / dimD C j) D.length := by
    intro i hi hP
    obtain ⟨h1, -⟩ := (elP_iff k hi).1 hP
    have hpl := (k.div (k.crd hi)).2
    obtain ⟨g1, g2, g3⟩ := k.grd (p := fun j => crdD D.length (dimD D) (i : Int) j / dimD C j) fun j hj => (hpl j hj).1
    obtain ⟨m, hm⟩ := Int.eq_ofNat_of_zero_le g2
    rw [hm] at g1 g3
    have hq : keyL (coordsV (gridL D C) (m : Int)) = q := by rw [g1]; exact h1
    refine ⟨hasK_iff.2 ⟨m, by omega, hq⟩, ?_⟩
    rw [k.place g3 hq, g1]
  cases hh : hasK (keysG D C) q with
  | false =>
    have : (List.range (prodL D).toNat).filter (elP D F C q) = [] := by
      rw [List.filter_eq_nil_iff]
      intro i hi hP
      have := (hkey i (by have := List.mem_range.1 hi; omega) hP).1
      rw [hh] at this
      cases this
    rw [this]
    simp [rowsOf]
  | true =>
    obtain ⟨m, hm, hq⟩ := hasK_iff.1 hh
    have hmg : (m : Int) < prodL (gridL D C) := by omega
    have hpl := k.place hmg hq
    have hp := fun (j : Nat) (hj : j < D.length) => crd_lt (d := dimD (gridL D C)) (q := (m : Int)) (r := D.length) (j := j) (by omega) (by rw [← k.pg]; exact hmg) (fun j hj => by
      have := prod_pos (A := gridL D C) (by omega) j (by rw [k.gl]; exact hj)
      have e : dimD (gridL D C) j = (nth ((gridL D C).getD j []) 0).int := rfl
      have := k.gg j hj
      omega) k.hP.2.2 hj
    have hpr : pl16 D q = rowsF (crdD D.length (dimD (gridL D C)) (m : Int)) D.length := by rw [hpl, coords_rows, k.gl]
    generalize hpe : crdD D.length (dimD (gridL D C)) (m : Int) = p at hp hpr
    have hp16 : ∀ j, j < D.length → 0 ≤ p j ∧ p j < 16 := fun j hj => by
      have := hp j hj; have := k.gg j hj; omega
    have hlow := boxP_low k hpr hp16
    have hkq : keyL (rowsF p D.length) = q := by rw [← hpr, hpl]; exact hq
    -- the coordinates of number n in the chunk
    have hsh : ∀ n : Nat, (n : Int) < prodL C → (∀ j, j < D.length → 0 ≤ crdD C.length (dimD C) (n : Int) j ∧ crdD C.length (dimD C) (n : Int) j < dimD C j) ∧ shR C (boxP D C (pl16 D q)).1 n = rowsF (fun j => p j * dimD C j + crdD C.length (dimD C) (n : Int) j) D.length := by
      intro n hn
      have hc : ∀ j, j < D.length → 0 ≤ crdD C.length (dimD C) (n : Int) j ∧ crdD C.length (dimD C) (n : Int) j < dimD C j := fun j hj => by
        have hl := k.len
        exact crd_lt (by omega) (by rw [← k.pc]; exact hn) (fun j hj => by have := k.cc j hj; omega) (fun m hm => k.hP.2.1 m (by omega)) (by omega)
      refine ⟨hc, ?_⟩
      unfold shR
      refine Eq.trans (congrArg (rowsF _) k.len.symm) ?_
      refine rowsF_congr fun j hj => ?_
      rw [hlow j hj, coords_rows, rowsF_at (by have := k.len; omega)]
      obtain ⟨a, b⟩ := hp16 j hj
      obtain ⟨c, d⟩ := k.cc j (by have := k.len; omega)
      have m0 : 0 ≤ p j * dimD C j := Int.mul_nonneg a (by omega)
      have m1 : p j * dimD C j ≤ 16 * 40 := Int.mul_le_mul (by omega) d (by omega) (by omega)
      have := hc j hj
      rw [wrap64 (by omega) (by omega)]
      omega
    have hX : ((List.range (prodL D).toNat).filter (elP D F C q)).map (elN D C) |>.Nodup := by
      refine List.pairwise_map.2 ((List.nodup_range.filter _).imp_of_mem fun {a b} ha hb hne he => hne ?_)
      obtain ⟨ha1, ha2⟩ := List.mem_filter.1 ha
      obtain ⟨hb1, hb2⟩ := List.mem_filter.1 hb
      have ia : (a : Int) < prodL D := by have := List.mem_range.1 ha1; omega
      have ib : (b : Int) < prodL D := by have := List.mem_range.1 hb1; omega
      have ka := (hkey a ia ha2).2
      have kb := (hkey b ib hb2).2
      have hpab := rowsF_inj (ka.symm.trans kb)
      rw [elN_eq k ia, elN_eq k ib] at he
      have na := (k.num (k.crd ia)).2.2.2
      have nb := (k.num (k.crd ib)).2.2.2
      have hat : ∀ j, j < D.length → crdD D.length (dimD D) (a : Int) j = crdD D.length (dimD D) (b : Int) j := fun j hj => by
        have h1 := na j hj
        have h2 := nb j hj
        rw [he] at h1
        have h3 := h1.symm.trans h2
        have h4 := hpab j hj
        have e1 := Int.mul_ediv_add_emod (crdD D.length (dimD D) (a : Int) j) (dimD C j)
        have e2 := Int.mul_ediv_add_emod (crdD D.length (dimD D) (b : Int) j) (dimD C j)
        rw [← e1, ← e2]
        have h4 : crdD D.length (dimD D) (a : Int) j / dimD C j = crdD D.length (dimD D) (b : Int) j / dimD C j := h4
        rw [h3, h4]
      have ea := hor_crd (d := dimD D) (q := (a : Int)) (r := D.length) (by omega) (by rw [← k.pd]; exact ia) (k.dpos (by omega)) k.hP.1
      have eb := hor_crd (d := dimD D) (q := (b : Int)) (r := D.length) (by omega) (by rw [← k.pd]; exact ib) (k.dpos (by omega)) k.hP.1
      have hh2 : ∀ m, m ≤ D.length → hor (dimD D) (crdD D.length (dimD D) (a : Int)) m = hor (dimD D) (crdD D.length (dimD D) (b : Int)) m := by
        intro m
        induction m with
        | zero => intro _; rfl
        | succ m ih =>
          intro hm
          show hor _ _ m * _ + _ = hor _ _ m * _ + _
          rw [ih (by omega), hat m (by omega)]
      have := hh2 D.length (Nat.le_refl _)
      omega
    have hs : ((((List.range (prodL D).toNat).filter (elP D F C q)).map (elN D C)).mergeSort fun x y => decide (x ≤ y)) = ((List.range (prodL C).toNat).filter (elT D F C (boxP D C (pl16 D q)).1)).map fun n : Nat => (n : Int) := by
      refine strict_ext ?_ ?_ fun x => ?_
      · have h1 := List.pairwise_mergeSort (le := fun x y : Int => decide (x ≤ y)) (fun a b c h1 h2 => by simp at *; omega) (fun a b => by simp; omega) (((List.range (prodL D).toNat).filter (elP D F C q)).map (elN D C))
        have h2 := (List.mergeSort_perm (((List.range (prodL D).toNat).filter (elP D F C q)).map (elN D C)) fun x y => decide (x ≤ y)).nodup_iff.2 hX
        exact (h1.and h2).imp fun ⟨h3, h4⟩ => by simp at h3; omega
      · exact List.pairwise_map.2 ((List.pairwise_lt_range.filter _).imp fun h => by omega)
      · rw [(List.mergeSort_perm _ _).mem_iff, List.mem_map, List.mem_map]
        constructor
        · rintro ⟨i, hi, rfl⟩
          obtain ⟨hi1, hi2⟩ := List.mem_filter.1 hi
          have ii : (i : Int) < prodL D := by have := List.mem_range.1 hi1; omega
          have hn := k.num (k.crd ii)
          obtain ⟨n, en⟩ := Int.eq_ofNat_of_zero_le hn.2.1
          have hnl := hn.2.2.1
          have hnc := hn.2.2.2
          rw [en] at hnl hnc
          refine ⟨n, List.mem_filter.2 ⟨List.mem_range.2 (by omega), ?_⟩, by rw [elN_eq k ii, en]⟩
          have hs := (hsh n hnl).2
          have hpi := rowsF_inj (hpr.symm.trans (hkey i ii hi2).2)
          have e : shR C (boxP D C (pl16 D q)).1 n = coordsV D (i : Int) := by
            rw [hs, coords_rows]
            refine rowsF_congr fun j hj => ?_
            rw [hnc j hj, hpi j hj, Int.mul_comm]
            exact Int.mul_ediv_add_emod _ _
          unfold elT
          rw [e, ((elP_iff k ii).1 hi2).2]
          have : insideOk D (coordsV D (i : Int)) = true := (inside_iff (coordsV_len) k.dd).2 fun j hj => by
            rw [coords_rows, rowsF_at hj]; exact k.crd ii j hj
          rw [this]; rfl
        · rintro ⟨n, hn, rfl⟩
          obtain ⟨hn1, hn2⟩ := List.mem_filter.1 hn
          have nn : (n : Int) < prodL C := by have := List.mem_range.1 hn1; omega
          obtain ⟨hc, hs⟩ := hsh n nn
          unfold elT at hn2
          rw [hs, Bool.and_eq_true, Bool.not_eq_true'] at hn2
          have hin := (inside_iff (D := D) (T := rowsF (fun j => p j * dimD C j + crdD C.length (dimD C) (n : Int) j) D.length) rowsF_len k.dd).1 hn2.1
          have hin : ∀ j, j < D.length → 0 ≤ p j * dimD C j + crdD C.length (dimD C) (n : Int) j ∧ p j * dimD C j + crdD C.length (dimD C) (n : Int) j < dimD D j := fun j hj => by
            have := hin j hj; rw [rowsF_at hj] at this; exact this
          have hl := hor_lt hin
          obtain ⟨i, ei⟩ := Int.eq_ofNat_of_zero_le hl.1
          have ii : (i : Int) < prodL D := by rw [← ei, k.pd]; exact hl.2
          have hci : ∀ j, j < D.length → crdD D.length (dimD D) (i : Int) j = p j * dimD C j + crdD C.length (dimD C) (n : Int) j := fun j hj => by
            rw [← ei]; exact crd_hor hin k.hP.1 hj
          have hdm : ∀ j, j < D.length → crdD D.length (dimD D) (i : Int) j / dimD C j = p j ∧ crdD D.length (dimD D) (i : Int) j % dimD C j = crdD C.length (dimD C) (n : Int) j := fun j hj => by
            rw [hci j hj]; exact dm (hc j hj).1 (hc j hj).2
          refine ⟨i, List.mem_filter.2 ⟨List.mem_range.2 (by omega), (elP_iff k ii).2 ⟨?_, ?_⟩⟩, ?_⟩
          · rw [rowsF_congr fun j hj => (hdm j hj).1]; exact hkq
          · rw [coords_rows, rowsF_congr hci]; exact hn2.2
          · rw [elN_eq k ii]
            have e1 : ∀ m, m ≤ D.length → hor (dimD C) (fun j => crdD D.length (dimD D) (i : Int) j % dimD C j) m = hor (dimD C) (crdD C.length (dimD C) (n : Int)) m := by
              intro m
              induction m with
              | zero => intro _; rfl
              | succ m ih =>
                intro hm
                show hor _ _ m * dimD C m + crdD D.length (dimD D) (i : Int) m % dimD C m = _
                rw [ih (by omega), (hdm m (by omega)).2]
                rfl
            rw [e1 D.length (Nat.le_refl _), k.len]
            exact hor_crd (by omega) (by rw [← k.pc]; exact nn) (fun j hj => by have := k.cc j hj; omega) (fun m hm => k.hP.2.1 m (by have := k.len; omega))
    rw [hs]
    show rowsOf TC.i _ = elS D F C _ _
    unfold rowsOf elS
    rw [List.map_map]
    rfl
theorem wf_i64 {n : Int} (h0 : -9223372036854775808 ≤ n) (h1 : n ≤ 9223372036854775807) : (Lit.int .i64 n).wf = true := by
  simp only [Lit.wf, Bool.and_eq_true, decide_eq_true_eq]
  exact ⟨h0, h1⟩
theorem rowsF_ty2 {f : Nat → Int} {n : Nat} (hn : n ≤ 600) (h : ∀ j, j < n → -9223372036854775808 ≤ f j ∧ f j ≤ 9223372036854775807) : Typed tab (.slice 2) (.l (rowsF f n)) := by
  refine .slice _ _ ?_ ?_ (fun x hx => ?_) (fun x hx k hk => ?_)
  · rw [rowsF_len]; show n * 8 ≤ 140737488351232; omega
  · rw [rowsF_len]; show n ≤ 9223372036854775807; omega
  · obtain ⟨j, -, rfl⟩ := List.mem_map.1 hx; rfl
  · obtain ⟨j, hj, rfl⟩ := List.mem_map.1 hx
    have hj := List.mem_range.1 hj
    have : k = 0 := by have : k < 1 := hk; omega
    subst this
    have := h j hj
    show Typed tab (.int .i64) (.i (f j))
    exact .int _ _ (wf_i64 this.1 this.2)
theorem coordsV_ty {A : LL} {q : Int} (h3 : A.length ≤ 3) (h : ∀ j, j < A.length → 0 ≤ crdD A.length (dimD A) q j ∧ crdD A.length (dimD A) q j < dimD A j) (h4 : ∀ j, j < A.length → dimD A j ≤ 40) : Typed tab (.slice 2) (.l (coordsV A q)) := by
  rw [coords_rows]
  exact rowsF_ty2 (by omega) fun j hj => by have := h j hj; have := h4 j hj; omega
theorem elI_len {D F C : LL} {q : Int} {n : Nat} : (elI D F C q n).length ≤ n := by
  unfold elI
  rw [List.length_map]
  exact Nat.le_trans (List.length_filter_le _ _) (by simp)
theorem elI_succ {D F C : LL} {q : Int} {n : Nat} : elI D F C q (n + 1) = if elP D F C q n = true then elI D F C q n ++ [[TC.i (elN D C n)]] else elI D F C q n := by
  unfold elI
  rw [List.range_succ, List.filter_append]
  cases h : elP D F C q n with
  | true => rw [if_pos rfl, List.filter_cons_of_pos h, List.map_append]; rfl
  | false => rw [if_neg (by simp), List.filter_cons_of_neg (by simp [h])]; simp
theorem elS_len {D F C B : LL} {n : Nat} : (elS D F C B n).length ≤ n := by
  unfold elS
  rw [List.length_map]
  exact Nat.le_trans (List.length_filter_le _ _) (by simp)
theorem elS_succ {D F C B : LL} {n : Nat} : elS D F C B (n + 1) = if elT D F C B n = true then elS D F C B n ++ [[TC.i (n : Int)]] else elS D F C B n := by
  unfold elS
  rw [List.range_succ, List.filter_append]
  cases h : elT D F C B n with
  | true => rw [if_pos rfl, List.filter_cons_of_pos h, List.map_append]; rfl
  | false => rw [if_neg (by simp), List.filter_cons_of_neg (by simp [h])]; simp
theorem elS_ty {D F C B : LL} {m : Nat} (hm : m ≤ 64) : Typed tab (.slice 2) (.l (elS D F C B m)) := by
  have hl := elS_len (D := D) (F := F) (C := C) (B := B) (n := m)
  have hx : ∀ x, x ∈ elS D F C B m → ∃ n : Nat, x = [TC.i (n : Int)] ∧ n < m := fun x hx => by
    unfold elS at hx
    obtain ⟨n, hn, rfl⟩ := List.mem_map.1 hx
    exact ⟨n, rfl, List.mem_range.1 (List.mem_filter.1 hn).1⟩
  refine .slice _ _ ?_ ?_ (fun x hm => ?_) (fun x hm' k hk => ?_)
  · show (elS D F C B m).length * 8 ≤ 140737488351232; omega
  · show (elS D F C B m).length ≤ 9223372036854775807; omega
  · obtain ⟨n, rfl, _⟩ := hx x hm; rfl
  · obtain ⟨n, rfl, hn⟩ := hx x hm'
    have : k = 0 := by have : k < 1 := hk; omega
    subst this
    show Typed tab (.int .i64) (.i (n : Int))
    exact .int _ _ (wf_i64 (by omega) (by omega))
theorem rowsF_set {f : Nat → Int} {n k : Nat} {v : Int} (hk : k < n) : (rowsF f n).set k (splice (row (rowsF f n) (k : Int)) 0 [TC.i v]) = rowsF (fun j => if j = k then v else f j) n := by
  have hr : row (rowsF f n) (k : Int) = [TC.i (f k)] := by
    rw [row_nat]
    unfold rowsF
    rw [List.getD_eq_getElem?_getD, List.getElem?_map, List.getElem?_range hk]
    rfl
  rw [hr, show splice [TC.i (f k)] 0 [TC.i v] = [TC.i v] from rfl]
  unfold rowsF
  refine List.ext_getElem (by simp) fun j h1 h2 => ?_
  rw [List.getElem_set, List.getElem_map, List.getElem_map, List.getElem_range]
  by_cases h : k = j
  · subst h; rw [if_pos rfl]; simp
  · rw [if_neg h]; simp [show ¬ j = k from fun e => h e.symm]
def addF (T L : LL) (k : Nat) : LL := rowsF (fun j => if j < k then IntKind.wrap .i64 (dimD T j + dimD L j) else dimD T j) T.length
theorem addF_all {T L : LL} : addF T L T.length = rowsF (fun j => IntKind.wrap .i64 (dimD T j + dimD L j)) T.length := rowsF_congr fun j hj => by rw [if_pos hj]
theorem addF_len {T L : LL} {k : Nat} : (addF T L k).length = T.length := rowsF_len
theorem addF_step {T L : LL} {k : Nat} (hk : k < T.length) : (addF T L k).set k (splice (row (addF T L k) (k : Int)) 0 [TC.i (IntKind.wrap .i64 (dimD (addF T L k) k + dimD L k))]) = addF T L (k + 1) := by
  have e : dimD (addF T L k) k = dimD T k := by unfold addF; rw [rowsF_at hk, if_neg (by omega)]
  rw [e]
  unfold addF
  rw [rowsF_set hk]
  refine rowsF_congr fun j hj => ?_
  by_cases h : j = k
  · subst h; rw [if_pos rfl, if_pos (by omega)]
  · rw [if_neg h]
    by_cases h2 : j < k
    · rw [if_pos h2, if_pos (by omega)]
    · rw [if_neg h2, if_neg (by omega)]
def qd_g (x : List TC) : List TC := [TC.i ((nth x 0).int)]
def qd_z : List TC := [TC.i (0 : Int)]
abbrev qd_3_σ := LL × LL × Int
abbrev qd_3_ω := (LL)
def qd_3_step (A X : LL) (i : Int) : Tr (qd_3_σ ⊕ qd_3_ω) := (.ite ((decide (i < (A.length : Int))) = true) (.ite ((0 : Int) ≤ i ∧ i < (A.length : Int)) (.ite ((0 : Int) ≤ i ∧ i < (X.length : Int)) (.ok (.inl (A, (X.set (i).toNat (splice (row X i) 0 [TC.i ((nth (row A i) 0).int)])), (IntKind.wrap .i64 (i + (1 : Int))))))
    .no)
   .no)
  (.ok (.inr X)))
def qd_3_st : qd_3_σ → Tr (qd_3_σ ⊕ qd_3_ω) := fun x => (qd_3_step (x.1) (x.2.1) (x.2.2))
def qd_o3_1 (A X : LL) (i : Int) : Bool := is (Typed tab (.slice 2) (.l A) ∧ X = List.replicate A.length qd_z ∧ i = 0)
def qd_u3_1 (A X : LL) (i : Int) : LL := A.map qd_g
def qd_3_fin (A X : LL) (i : Int) : Told qd_3_ω := (.leaf (qd_o3_1 A X i) (qd_u3_1 A X i))
def qd_3_sl (x : qd_3_σ) : List Slot := [⟨.val false [⟨.slice 2, .sh, TC.l (x.1)⟩], ⟨0, 0⟩⟩, ⟨.val false [⟨.slice 2, .own true, TC.l (x.2.1)⟩], ⟨0, 0⟩⟩, ⟨.val false [⟨.int .i64, .sh, TC.i (x.2.2)⟩], ⟨0, 0⟩⟩]
def qd_3_out : qd_3_ω → Ex × List Slot := (fun x => (.exit 0, [Slot.none, ⟨.val false [⟨.slice 2, .own true, TC.l x⟩], ⟨0, 0⟩⟩]))
def qd_lo3 : List Slot → Option (Told (Ex × List Slot)) := fun s => match s with
  | [⟨.val false [⟨.slice 2, .sh, TC.l A⟩], ⟨0, 0⟩⟩, ⟨.val false [⟨.slice 2, .own true, TC.l X⟩], ⟨0, 0⟩⟩, ⟨.val false [⟨.int .i64, .sh, TC.i i⟩], ⟨0, 0⟩⟩] => some (((qd_3_fin A X i)).map qd_3_out)
  | _ => .none
def qd_lo : LoopTeller := fun r s => bif Nat.beq r 3 then qd_lo3 s else .none
theorem qd_3_r (A X : LL) (i : Int) (fuel : Nat) : rounds (rnd tab FT D0 live 11 qd_lo 0 3) leave (fuel + 1) (qd_3_sl (A, X, i)) = ((qd_3_step A X i)).run (goOn (fun s => rounds (rnd tab FT D0 live 11 qd_lo 0 3) leave fuel (qd_3_sl s)) fun w => some (qd_3_out w)) := by kernel_rfl
theorem qd_3_h (A X : LL) (i : Int) (ow : qd_3_ω) : ((qd_3_fin A X i)).val = some ow → ∃ fuel, loopN qd_3_st fuel (A, X, i) = some ow := by
  intro h
  simp only [qd_3_fin, Told.val] at h
  split at h
  · rename_i ho
    obtain ⟨ht, rfl, rfl⟩ := is_iff.1 ho
    cases h
    have hlen : A.length ≤ 140737488351232 := by have := typed_room ht; simp only [show (tab 2).bytes = 8 from rfl] at this; omega
    have key := loopN_copy (step := qd_3_st) A (List.replicate A.length qd_z) qd_g (fun Y i => (A, Y, (i : Int))) (A.map qd_g) (by simp) (fun x hx i _ => by rw [(List.mem_replicate.1 hx).2]; exact Nat.le_refl 1) (fun Y i hi hl => ?_) ?_ A.length 0 (by omega)
    · rw [copied_zero] at key
      exact ⟨_, key⟩
    · skip
      show (qd_3_step A Y (i : Int)).val = _
      unfold qd_3_step
      refine Tr.t (by simp; omega) ?_
      refine Tr.t (by constructor <;> omega) ?_
      refine Tr.t (by constructor <;> omega) ?_
      repeat (refine Tr.t (by first | (apply is_true; and_intros <;> (first | rfl | assumption | (first | (apply is_true; and_intros <;> (first | rfl | assumption | (first | (apply is_true; and_intros <;> (first | rfl | assumption | (first | (apply is_true; and_intros <;> (first | rfl | assumption)))))))))))) ?_)
      rw [Tr.val_ok, wrap64 (i := (i : Int) + 1) (by omega) (by omega)]; rfl
    · show (qd_3_step A (A.map qd_g) (A.length : Int)).val = _
      refine Tr.n (by simp) ?_
      rfl
  · cases h
theorem qd_is3 : LoopIs tab FT D0 live 11 qd_lo 0 3 := by
  refine loop_told (sl := qd_3_sl) (step := qd_3_st) (out := qd_3_out) (lor := qd_lo3) (fin := fun x => (qd_3_fin (x.1) (x.2.1) (x.2.2))) (fun _ => rfl) ?_ (fun x n => qd_3_r x.1 x.2.1 x.2.2 n) (fun x ow => qd_3_h x.1 x.2.1 x.2.2 ow)
  intro s t h
  unfold qd_lo3 at h
  split at h
  · cases h; exact ⟨(_, _, _), rfl, rfl⟩
  · cases h
def qd_t (A : LL) : Tr (LL) := (.ite (0 ≤ (A.length : Int) ∧ (A.length : Int) ≤ (A.length : Int) ∧ (A.length : Int) * 8 ≤ 140737488355328 ∧ (A.length : Int) ≤ 140737488355328) (.ite ((qd_o3_1 A (List.replicate ((A.length : Int)).toNat [TC.i (0 : Int)]) (0 : Int)) = true) (.ok (qd_u3_1 A (List.replicate ((A.length : Int)).toNat [TC.i (0 : Int)]) (0 : Int)))
   .no)
  .no)
def qd_mk (p : LL) : Res := [(false, [⟨.slice 2, .own true, TC.l p⟩])]
def qd_c (A : LL) : Bool := is (Typed tab (.slice 2) (.l A))
def qd_v (A : LL) : LL := A.map qd_g
theorem qd_l (A : LL) : (qd_c A) = true → (qd_t A).val = some (qd_v A) := by
  intro h
  have ht := is_iff.1 h
  have hb := typed_room ht
  simp only [show (tab 2).bytes = 8 from rfl] at hb
  unfold qd_t
  refine Tr.t (by omega) ?_
  refine Tr.t (is_true ⟨ht, by rfl, rfl⟩) ?_
  rfl
def qd_S : List Arg → Option (Bool × Res) := fun xs => match xs with
  | [(false, [(.slice 2, TC.l A)])] => some ((qd_c A), qd_mk (qd_v A))
  | _ => .none
theorem qd_e (A : LL) : runF tab FT D0 live 11 qd_lo [(false, [(.slice 2, TC.l A)])] = (qd_t A).run fun p => some (qd_mk p) := by kernel_rfl
theorem qd_s : ∀ xs r, qd_S xs = some (true, r) → runF tab FT D0 live 11 qd_lo xs = some r := by
  intro xs r h
  unfold qd_S at h
  split at h
  · obtain ⟨h1, rfl⟩ := sp h
    exact fun_told (qd_e _) (qd_l _) h1
  · cases h
def D1 : Dt := also D0 11 qd_S
theorem d1 : DOk Go.Proofs.Try.prog tab D1 := d0.also mixed_ok tab_ok names_ok (fnLoops_one (by kernel_rfl) qd_is3) qd_s
theorem qd_ty {A : LL} (h : Typed tab (.slice 2) (.l A)) : Typed tab (.slice 2) (.l (A.map qd_g)) := by
  refine typed_map h (by decide) fun x _ _ hx => ⟨rfl, fun k hk => ?_⟩
  match k, hk with
    | 0, _ => exact typed_i (hx 0 (by decide))
def qbj_t (a0 a1 a2 : Int) : Tr (Bool) := (.ite ((decide (a0 ≥ a1)) = true) (.ok (decide (a0 ≤ a2)))
  (.ok false))
def qbj_mk (p : Bool) : Res := [(false, [⟨.bool, .sh, TC.b p⟩])]
def qbj_c (a0 a1 a2 : Int) : Bool := true
def qbj_v (a0 a1 a2 : Int) : Bool := (bif (decide (a0 ≥ a1)) then (decide (a0 ≤ a2)) else false)
theorem qbj_l (a0 a1 a2 : Int) : (qbj_c a0 a1 a2) = true → (qbj_t a0 a1 a2).val = some (qbj_v a0 a1 a2) := by
  intro h
  skip
  unfold qbj_t qbj_v
  exact (Tr.s rfl rfl)
def qbj_S : List Arg → Option (Bool × Res) := fun xs => match xs with
  | [(false, [(.int .i64, TC.i a0)]), (false, [(.int .i64, TC.i a1)]), (false, [(.int .i64, TC.i a2)])] => some (true, qbj_mk (qbj_v a0 a1 a2))
  | _ => .none
theorem qbj_e (a0 a1 a2 : Int) : runF tab FT D1 live 75 noLoops [(false, [(.int .i64, TC.i a0)]), (false, [(.int .i64, TC.i a1)]), (false, [(.int .i64, TC.i a2)])] = (qbj_t a0 a1 a2).run fun p => some (qbj_mk p) := by kernel_rfl
theorem qbj_s : ∀ xs r, qbj_S xs = some (true, r) → runF tab FT D1 live 75 noLoops xs = some r := by
  intro xs r h
  unfold qbj_S at h
  split at h
  · obtain ⟨h1, rfl⟩ := sp h
    exact fun_told (qbj_e ..) (qbj_l _ _ _) rfl
  · cases h
def D2 : Dt := also D1 75 qbj_S
theorem d2 : DOk Go.Proofs.Try.prog tab D2 := d1.also mixed_ok tab_ok names_ok noLoops_ok qbj_s
abbrev qu_5_σ := LL × Int × Int
abbrev qu_5_ω := (Int) ⊕ (Int)
def qu_5_step (A : LL) (n i : Int) : Tr (qu_5_σ ⊕ qu_5_ω) := (.ite ((decide (i < (A.length : Int))) = true) (.ite ((0 : Int) ≤ i ∧ i < (A.length : Int)) (.ite ((!(qbj_v ((nth (row A i) 0).int) (0 : Int) (40 : Int))) = true) (.ok (.inr (.inl n)))
    (.ite ((0 : Int) ≤ i ∧ i < (A.length : Int)) (.ok (.inl (A, (IntKind.wrap .i64 (n * (nth (row A i) 0).int)), (IntKind.wrap .i64 (i + (1 : Int))))))
     .no))
   .no)
  (.ok (.inr (.inr n))))
def qu_5_st : qu_5_σ → Tr (qu_5_σ ⊕ qu_5_ω) := fun x => (qu_5_step (x.1) (x.2.1) (x.2.2))
def qu_k5_1 (A : LL) (n i : Int) : Bool := A.all (inR 0 40)
def qu_o5_2 (A : LL) (n i : Int) : Bool := is (i = 0 ∧ n = 1 ∧ Typed tab (.slice 2) (.l A))
def qu_u5_2 (A : LL) (n i : Int) : Int := (A.foldl mulR (1 : Int))
def qu_o5_3 (A : LL) (n i : Int) : Bool := is (i = 0 ∧ n = 1 ∧ Typed tab (.slice 2) (.l A))
def qu_u5_3 (A : LL) (n i : Int) : Int := ((A.take (A.findIdx fun x => !(inR 0 40) x)).foldl mulR (1 : Int))
def qu_5_fin (A : LL) (n i : Int) : Told qu_5_ω := (.br (qu_k5_1 A n i) (.leaf (qu_o5_2 A n i) (.inr (qu_u5_2 A n i))) (.leaf (qu_o5_3 A n i) (.inl (qu_u5_3 A n i))))
def qu_5_sl (x : qu_5_σ) : List Slot := [⟨.val false [⟨.slice 2, .sh, TC.l (x.1)⟩], ⟨0, 0⟩⟩, ⟨.val false [⟨.int .i64, .sh, TC.i (x.2.1)⟩], ⟨0, 0⟩⟩, ⟨.val false [⟨.int .i64, .sh, TC.i (x.2.2)⟩], ⟨0, 0⟩⟩]
def qu_5_out : qu_5_ω → Ex × List Slot := (Sum.elim (fun x => (.ret, [⟨.val false [⟨.bool, .sh, TC.b false⟩], ⟨0, 0⟩⟩, ⟨.val false [⟨.int .i64, .sh, TC.i x⟩], ⟨0, 0⟩⟩])) (fun x => (.exit 0, [Slot.none, ⟨.val false [⟨.int .i64, .sh, TC.i x⟩], ⟨0, 0⟩⟩])))
def qu_lo5 : List Slot → Option (Told (Ex × List Slot)) := fun s => match s with
  | [⟨.val false [⟨.slice 2, .sh, TC.l A⟩], ⟨0, 0⟩⟩, ⟨.val false [⟨.int .i64, .sh, TC.i n⟩], ⟨0, 0⟩⟩, ⟨.val false [⟨.int .i64, .sh, TC.i i⟩], ⟨0, 0⟩⟩] => some (((qu_5_fin A n i)).map qu_5_out)
  | _ => .none
def qu_lo : LoopTeller := fun r s => bif Nat.beq r 5 then qu_lo5 s else .none
theorem qu_5_r (A : LL) (n i : Int) (fuel : Nat) : rounds (rnd tab FT D2 live 74 qu_lo 0 5) leave (fuel + 1) (qu_5_sl (A, n, i)) = ((qu_5_step A n i)).run (goOn (fun s => rounds (rnd tab FT D2 live 74 qu_lo 0 5) leave fuel (qu_5_sl s)) fun w => some (qu_5_out w)) := by kernel_rfl
theorem qu_5_h (A : LL) (n i : Int) (ow : qu_5_ω) : ((qu_5_fin A n i)).val = some ow → ∃ fuel, loopN qu_5_st fuel (A, n, i) = some ow := by
  intro h
  have key : Typed tab (.slice 2) (.l A) → loopN qu_5_st (A.length + 1) (A, (1 : Int), (0 : Int)) = some (if A.all (inR 0 40) = true then (.inr (A.foldl mulR (1 : Int))) else (.inl ((A.take (A.findIdx fun x => !(inR 0 40) x)).foldl mulR (1 : Int)))) := by
    intro ht
    have hlen : A.length ≤ 140737488351232 := by have := typed_room ht; simp only [show (tab 2).bytes = 8 from rfl] at this; omega
    have key := loopN_scan (step := qu_5_st) A [] (inR 0 40) mulR (fun i a => (A, a, (i : Int))) (fun a => (.inr a)) (fun i a => (.inl a)) (fun i a hi => ?_) (fun a => ?_) A.length 0 (1 : Int) (by omega)
    · first | (rw [Nat.zero_add] at key; exact key) | exact key
    · skip
      show (qu_5_step A a (i : Int)).val = _
      unfold qu_5_step
      refine Tr.t (by simp; omega) ?_
      skip
      refine Tr.t (by first | omega | (constructor <;> omega)) ?_
      refine Tr.b (P := (inR 0 40) (A.getD i [])) (fun hP => ?_) (fun _ => rfl)
      refine Tr.t (by first | omega | (constructor <;> omega)) ?_
      rw [Tr.val_ok, wrap64 (i := (i : Int) + 1) (by omega) (by omega)]; rfl
    · show (qu_5_step A a (A.length : Int)).val = _
      refine Tr.n (by simp) ?_
      rfl
  simp only [qu_5_fin, Told.val] at h
  cases hk : A.all (inR 0 40) with
  | true =>
    rw [if_pos (show qu_k5_1 A n i = true from hk)] at h
    split at h
    · rename_i ho
      obtain ⟨rfl, rfl, ht⟩ := is_iff.1 ho
      cases h
      refine ⟨_, (key ht).trans ?_⟩
      rw [hk]; rfl
    · cases h
  | false =>
    rw [if_neg (show ¬qu_k5_1 A n i = true from by rw [show qu_k5_1 A n i = (A.all (inR 0 40)) from rfl, hk]; simp)] at h
    split at h
    · rename_i ho
      obtain ⟨rfl, rfl, ht⟩ := is_iff.1 ho
      cases h
      refine ⟨_, (key ht).trans ?_⟩
      rw [hk]; rfl
    · cases h
theorem qu_is5 : LoopIs tab FT D2 live 74 qu_lo 0 5 := by
  refine loop_told (sl := qu_5_sl) (step := qu_5_st) (out := qu_5_out) (lor := qu_lo5) (fin := fun x => (qu_5_fin (x.1) (x.2.1) (x.2.2))) (fun _ => rfl) ?_ (fun x n => qu_5_r x.1 x.2.1 x.2.2 n) (fun x ow => qu_5_h x.1 x.2.1 x.2.2 ow)
  intro s t h
  unfold qu_lo5 at h
  split at h
  · cases h; exact ⟨(_, _, _), rfl, rfl⟩
  · cases h
def qu_t (A : LL) : Tr (Bool) := (.ite ((decide ((A.length : Int) > (3 : Int))) = true) (.ok false)
  (.ite ((qu_k5_1 A (1 : Int) (0 : Int)) = true) (.ite ((qu_o5_2 A (1 : Int) (0 : Int)) = true) (.ok (decide ((qu_u5_2 A (1 : Int) (0 : Int)) ≤ (600 : Int))))
    .no)
   (.ite ((qu_o5_3 A (1 : Int) (0 : Int)) = true) (.ok false)
    .no)))
def qu_mk (p : Bool) : Res := [(false, [⟨.bool, .sh, TC.b p⟩])]
def qu_c (A : LL) : Bool := is (((qu_o5_2 A (1 : Int) (0 : Int)) = true) ∧ ((qu_o5_3 A (1 : Int) (0 : Int)) = true))
def qu_v (A : LL) : Bool := (bif (decide ((A.length : Int) > (3 : Int))) then false else (bif (qu_k5_1 A (1 : Int) (0 : Int)) then (decide ((qu_u5_2 A (1 : Int) (0 : Int)) ≤ (600 : Int))) else false))
theorem qu_l (A : LL) : (qu_c A) = true → (qu_t A).val = some (qu_v A) := by
  intro h
  obtain ⟨g0, g1⟩ := is_iff.1 h
  unfold qu_t qu_v
  exact (Tr.s rfl (Tr.s (Tr.t g0 rfl) (Tr.t g1 rfl)))
def qu_S : List Arg → Option (Bool × Res) := fun xs => match xs with
  | [(false, [(.slice 2, TC.l A)])] => some ((qu_c A), qu_mk (qu_v A))
  | _ => .none
theorem qu_e (A : LL) : runF tab FT D2 live 74 qu_lo [(false, [(.slice 2, TC.l A)])] = (qu_t A).run fun p => some (qu_mk p) := by kernel_rfl
theorem qu_s : ∀ xs r, qu_S xs = some (true, r) → runF tab FT D2 live 74 qu_lo xs = some r := by
  intro xs r h
  unfold qu_S at h
  split at h
  · obtain ⟨h1, rfl⟩ := sp h
    exact fun_told (qu_e _) (qu_l _) h1
  · cases h
def D3 : Dt := also D2 74 qu_S
theorem d3 : DOk Go.Proofs.Try.prog tab D3 := d2.also mixed_ok tab_ok names_ok (fnLoops_one (by kernel_rfl) qu_is5) qu_s
theorem qu_vv (A : LL) : qu_v A = dimsOk A := by
  show (bif decide ((A.length : Int) > 3) then false else bif A.all (inR 0 40) then decide (prodL A ≤ 600) else false) = _
  unfold dimsOk
  rw [show decide ((A.length : Int) > 3) = !decide ((A.length : Int) ≤ 3) from by rw [← decide_not]; simp]
  cases decide ((A.length : Int) ≤ 3) <;> cases A.all (inR 0 40) <;> rfl
abbrev qx_3_σ := LL × LL × LL × Int
abbrev qx_3_ω := (LL)
def qx_3_step (D C X : LL) (i : Int) : Tr (qx_3_σ ⊕ qx_3_ω) := (.ite ((decide (i < (D.length : Int))) = true) (.ite ((0 : Int) ≤ i ∧ i < (D.length : Int)) (.ite ((0 : Int) ≤ i ∧ i < (C.length : Int)) (.ite ((0 : Int) ≤ i ∧ i < (C.length : Int)) (.ite ((nth (row C i) 0).int ≠ 0) (.ite (roomFor (tab 2) (X ++ [[TC.i (IntKind.wrap .i64 (Int.tdiv (IntKind.wrap .i64 ((IntKind.wrap .i64 ((nth (row D i) 0).int + (nth (row C i) 0).int)) - (1 : Int))) ((nth (row C i) 0).int)))]]).length) (.ok (.inl (D, C, (X ++ [[TC.i (IntKind.wrap .i64 (Int.tdiv (IntKind.wrap .i64 ((IntKind.wrap .i64 ((nth (row D i) 0).int + (nth (row C i) 0).int)) - (1 : Int))) ((nth (row C i) 0).int)))]]), (IntKind.wrap .i64 (i + (1 : Int))))))
       .no)
      .no)
     .no)
    .no)
   .no)
  (.ok (.inr X)))
def qx_3_st : qx_3_σ → Tr (qx_3_σ ⊕ qx_3_ω) := fun x => (qx_3_step (x.1) (x.2.1) (x.2.2.1) (x.2.2.2))
def qx_o3_1 (D C X : LL) (i : Int) : Bool := is (X = [] ∧ i = 0 ∧ Typed tab (.slice 2) (.l D) ∧ D.length = C.length ∧ C.all (inR 1 40) = true)
def qx_u3_1 (D C X : LL) (i : Int) : LL := gridL D C
def qx_3_fin (D C X : LL) (i : Int) : Told qx_3_ω := (.leaf (qx_o3_1 D C X i) (qx_u3_1 D C X i))
def qx_3_sl (x : qx_3_σ) : List Slot := [⟨.val false [⟨.slice 2, .sh, TC.l (x.1)⟩], ⟨0, 0⟩⟩, ⟨.val false [⟨.slice 2, .sh, TC.l (x.2.1)⟩], ⟨0, 0⟩⟩, ⟨.val false [⟨.slice 2, .own true, TC.l (x.2.2.1)⟩], ⟨0, 0⟩⟩, ⟨.val false [⟨.int .i64, .sh, TC.i (x.2.2.2)⟩], ⟨0, 0⟩⟩]
def qx_3_out : qx_3_ω → Ex × List Slot := (fun x => (.exit 0, [Slot.none, ⟨.val false [⟨.slice 2, .own true, TC.l x⟩], ⟨0, 0⟩⟩]))
def qx_lo3 : List Slot → Option (Told (Ex × List Slot)) := fun s => match s with
  | [⟨.val false [⟨.slice 2, .sh, TC.l D⟩], ⟨0, 0⟩⟩, ⟨.val false [⟨.slice 2, .sh, TC.l C⟩], ⟨0, 0⟩⟩, ⟨.val false [⟨.slice 2, .own true, TC.l X⟩], ⟨0, 0⟩⟩, ⟨.val false [⟨.int .i64, .sh, TC.i i⟩], ⟨0, 0⟩⟩] => some (((qx_3_fin D C X i)).map qx_3_out)
  | _ => .none
def qx_lo : LoopTeller := fun r s => bif Nat.beq r 3 then qx_lo3 s else .none
theorem qx_3_r (D C X : LL) (i : Int) (fuel : Nat) : rounds (rnd tab FT D3 live 88 qx_lo 0 3) leave (fuel + 1) (qx_3_sl (D, C, X, i)) = ((qx_3_step D C X i)).run (goOn (fun s => rounds (rnd tab FT D3 live 88 qx_lo 0 3) leave fuel (qx_3_sl s)) fun w => some (qx_3_out w)) := by kernel_rfl
theorem qx_3_h (D C X : LL) (i : Int) (ow : qx_3_ω) : ((qx_3_fin D C X i)).val = some ow → ∃ fuel, loopN qx_3_st fuel (D, C, X, i) = some ow := by
  intro h
  simp only [qx_3_fin, Told.val] at h
  split at h
  · rename_i ho
    obtain ⟨rfl, rfl, ht, hl, hc⟩ := is_iff.1 ho
    cases h
    have hlen : D.length ≤ 17592186044404 := by have := typed_room ht; simp only [show (tab 2).bytes = 8 from rfl] at this; omega
    have hg : (gridL D C).length = D.length := by simp [gridL, hl]
    refine ⟨_, loopN_build (step := qx_3_st) (gridL D C) (fun i X => (D, C, X, (i : Int))) _ (fun i hi => ?_) ?_⟩
    · have hi' : i < D.length := by omega
      rw [gridL_at hl hi]
      show (qx_3_step D C ((gridL D C).take i) (i : Int)).val = _
      unfold qx_3_step
      refine Tr.t (by simp; omega) ?_
      refine Tr.t (by constructor <;> omega) ?_
      refine Tr.t (by constructor <;> omega) ?_
      refine Tr.t (by constructor <;> omega) ?_
      refine Tr.t (inR_1 hc (by omega)) ?_
      refine Tr.t (by unfold roomFor; simp only [show (tab 2).bytes = 8 from rfl, List.length_append, List.length_take, List.length_singleton]; omega) ?_
      rw [Tr.val_ok, wrap64 (i := (i : Int) + 1) (by omega) (by omega)]; rfl
    · show (qx_3_step D C (gridL D C) ((gridL D C).length : Int)).val = _
      refine Tr.n (by simp [hg]) ?_
      rfl
  · cases h
theorem qx_is3 : LoopIs tab FT D3 live 88 qx_lo 0 3 := by
  refine loop_told (sl := qx_3_sl) (step := qx_3_st) (out := qx_3_out) (lor := qx_lo3) (fin := fun x => (qx_3_fin (x.1) (x.2.1) (x.2.2.1) (x.2.2.2))) (fun _ => rfl) ?_ (fun x n => qx_3_r x.1 x.2.1 x.2.2.1 x.2.2.2 n) (fun x ow => qx_3_h x.1 x.2.1 x.2.2.1 x.2.2.2 ow)
  intro s t h
  unfold qx_lo3 at h
  split at h
  · cases h; exact ⟨(_, _, _, _), rfl, rfl⟩
  · cases h
def qx_t (D C : LL) : Tr (LL) := (.ite ((qx_o3_1 D C [] (0 : Int)) = true) (.ok (qx_u3_1 D C [] (0 : Int)))
  .no)
def qx_mk (p : LL) : Res := [(false, [⟨.slice 2, .own true, TC.l p⟩])]
def qx_c (D C : LL) : Bool := is (Typed tab (.slice 2) (.l D) ∧ D.length = C.length ∧ C.all (inR 1 40) = true)
def qx_v (D C : LL) : LL := gridL D C
theorem qx_l (D C : LL) : (qx_c D C) = true → (qx_t D C).val = some (qx_v D C) := by
  intro h
  obtain ⟨ht, hl, hc⟩ := is_iff.1 h
  unfold qx_t
  exact Tr.t (is_true ⟨rfl, rfl, ht, hl, hc⟩) rfl
def qx_S : List Arg → Option (Bool × Res) := fun xs => match xs with
  | [(false, [(.slice 2, TC.l D)]), (false, [(.slice 2, TC.l C)])] => some ((qx_c D C), qx_mk (qx_v D C))
  | _ => .none
theorem qx_e (D C : LL) : runF tab FT D3 live 88 qx_lo [(false, [(.slice 2, TC.l D)]), (false, [(.slice 2, TC.l C)])] = (qx_t D C).run fun p => some (qx_mk p) := by kernel_rfl
theorem qx_s : ∀ xs r, qx_S xs = some (true, r) → runF tab FT D3 live 88 qx_lo xs = some r := by
  intro xs r h
  unfold qx_S at h
  split at h
  · obtain ⟨h1, rfl⟩ := sp h
    exact fun_told (qx_e ..) (qx_l _ _) h1
  · cases h
def D4 : Dt := also D3 88 qx_S
theorem d4 : DOk Go.Proofs.Try.prog tab D4 := d3.also mixed_ok tab_ok names_ok (fnLoops_one (by kernel_rfl) qx_is3) qx_s
abbrev qw_3_σ := LL × Int × Int
abbrev qw_3_ω := (Int)
def qw_3_step (A : LL) (n i : Int) : Tr (qw_3_σ ⊕ qw_3_ω) := (.ite ((decide (i < (A.length : Int))) = true) (.ite ((0 : Int) ≤ i ∧ i < (A.length : Int)) (.ok (.inl (A, (IntKind.wrap .i64 (n * (nth (row A i) 0).int)), (IntKind.wrap .i64 (i + (1 : Int))))))
   .no)
  (.ok (.inr n)))
def qw_3_st : qw_3_σ → Tr (qw_3_σ ⊕ qw_3_ω) := fun x => (qw_3_step (x.1) (x.2.1) (x.2.2))
def qw_o3_1 (A : LL) (n i : Int) : Bool := is (i = 0 ∧ n = 1 ∧ Typed tab (.slice 2) (.l A))
def qw_u3_1 (A : LL) (n i : Int) : Int := (A.foldl mulR (1 : Int))
def qw_3_fin (A : LL) (n i : Int) : Told qw_3_ω := (.leaf (qw_o3_1 A n i) (qw_u3_1 A n i))
def qw_3_sl (x : qw_3_σ) : List Slot := [⟨.val false [⟨.slice 2, .sh, TC.l (x.1)⟩], ⟨0, 0⟩⟩, ⟨.val false [⟨.int .i64, .sh, TC.i (x.2.1)⟩], ⟨0, 0⟩⟩, ⟨.val false [⟨.int .i64, .sh, TC.i (x.2.2)⟩], ⟨0, 0⟩⟩]
def qw_3_out : qw_3_ω → Ex × List Slot := (fun x => (.exit 0, [Slot.none, ⟨.val false [⟨.int .i64, .sh, TC.i x⟩], ⟨0, 0⟩⟩]))
def qw_lo3 : List Slot → Option (Told (Ex × List Slot)) := fun s => match s with
  | [⟨.val false [⟨.slice 2, .sh, TC.l A⟩], ⟨0, 0⟩⟩, ⟨.val false [⟨.int .i64, .sh, TC.i n⟩], ⟨0, 0⟩⟩, ⟨.val false [⟨.int .i64, .sh, TC.i i⟩], ⟨0, 0⟩⟩] => some (((qw_3_fin A n i)).map qw_3_out)
  | _ => .none
def qw_lo : LoopTeller := fun r s => bif Nat.beq r 3 then qw_lo3 s else .none
theorem qw_3_r (A : LL) (n i : Int) (fuel : Nat) : rounds (rnd tab FT D4 live 57 qw_lo 0 3) leave (fuel + 1) (qw_3_sl (A, n, i)) = ((qw_3_step A n i)).run (goOn (fun s => rounds (rnd tab FT D4 live 57 qw_lo 0 3) leave fuel (qw_3_sl s)) fun w => some (qw_3_out w)) := by kernel_rfl
theorem qw_3_h (A : LL) (n i : Int) (ow : qw_3_ω) : ((qw_3_fin A n i)).val = some ow → ∃ fuel, loopN qw_3_st fuel (A, n, i) = some ow := by
  intro h
  have key : Typed tab (.slice 2) (.l A) → loopN qw_3_st (A.length + 1) (A, (1 : Int), (0 : Int)) = some ((A.foldl mulR (1 : Int))) := by
    intro ht
    have hlen : A.length ≤ 140737488351232 := by have := typed_room ht; simp only [show (tab 2).bytes = 8 from rfl] at this; omega
    have key := loopN_scan (step := qw_3_st) A [] (fun _ => true) mulR (fun i a => (A, a, (i : Int))) (fun a => a) (fun i a => a) (fun i a hi => ?_) (fun a => ?_) A.length 0 (1 : Int) (by omega)
    · first | (rw [Nat.zero_add] at key; exact key) | exact key | (simpa using key)
    · skip
      show (qw_3_step A a (i : Int)).val = _
      unfold qw_3_step
      refine Tr.t (by simp; omega) ?_
      show _ = some _
      refine Tr.t (by first | omega | (constructor <;> omega)) ?_
      rw [Tr.val_ok, wrap64 (i := (i : Int) + 1) (by omega) (by omega)]; rfl
    · show (qw_3_step A a (A.length : Int)).val = _
      refine Tr.n (by simp) ?_
      rfl
  simp only [qw_3_fin, Told.val] at h
  split at h
  · rename_i ho
    obtain ⟨rfl, rfl, ht⟩ := is_iff.1 ho
    cases h
    exact ⟨_, key ht⟩
  · cases h
theorem qw_is3 : LoopIs tab FT D4 live 57 qw_lo 0 3 := by
  refine loop_told (sl := qw_3_sl) (step := qw_3_st) (out := qw_3_out) (lor := qw_lo3) (fin := fun x => (qw_3_fin (x.1) (x.2.1) (x.2.2))) (fun _ => rfl) ?_ (fun x n => qw_3_r x.1 x.2.1 x.2.2 n) (fun x ow => qw_3_h x.1 x.2.1 x.2.2 ow)
  intro s t h
  unfold qw_lo3 at h
  split at h
  · cases h; exact ⟨(_, _, _), rfl, rfl⟩
  · cases h
def qw_t (A : LL) : Tr (Int) := (.ite ((qw_o3_1 A (1 : Int) (0 : Int)) = true) (.ok (qw_u3_1 A (1 : Int) (0 : Int)))
  .no)
def qw_mk (p : Int) : Res := [(false, [⟨.int .i64, .sh, TC.i p⟩])]
def qw_c (A : LL) : Bool := (qw_o3_1 A (1 : Int) (0 : Int))
def qw_v (A : LL) : Int := (qw_u3_1 A (1 : Int) (0 : Int))
theorem qw_l (A : LL) : (qw_c A) = true → (qw_t A).val = some (qw_v A) := by
  intro h
  have hc0 : (qw_o3_1 A (1 : Int) (0 : Int)) = true := h
  unfold qw_t
  exact (Tr.t hc0 rfl)
def qw_S : List Arg → Option (Bool × Res) := fun xs => match xs with
  | [(false, [(.slice 2, TC.l A)])] => some ((qw_c A), qw_mk (qw_v A))
  | _ => .none
theorem qw_e (A : LL) : runF tab FT D4 live 57 qw_lo [(false, [(.slice 2, TC.l A)])] = (qw_t A).run fun p => some (qw_mk p) := by kernel_rfl
theorem qw_s : ∀ xs r, qw_S xs = some (true, r) → runF tab FT D4 live 57 qw_lo xs = some r := by
  intro xs r h
  unfold qw_S at h
  split at h
  · obtain ⟨h1, rfl⟩ := sp h
    exact fun_told (qw_e _) (qw_l _) h1
  · cases h
def D5 : Dt := also D4 57 qw_S
theorem d5 : DOk Go.Proofs.Try.prog tab D5 := d4.also mixed_ok tab_ok names_ok (fnLoops_one (by kernel_rfl) qw_is3) qw_s
abbrev qf_12_σ := Int × LL × Int
abbrev qf_12_ω := (Int × LL) ⊕ (Int × LL)
def qf_12_step (n : Int) (A : LL) (i : Int) : Tr (qf_12_σ ⊕ qf_12_ω) := (.ite ((decide (i < (A.length : Int))) = true) (.ite ((0 : Int) ≤ i ∧ i < (A.length : Int)) (.ite ((decide ((nth (row A i) 0).int > (16 : Int))) = true) (.ok (.inr (.inl (n, A))))
    (.ok (.inl (n, A, (IntKind.wrap .i64 (i + (1 : Int)))))))
   .no)
  (.ok (.inr (.inr (n, A)))))
def qf_12_st : qf_12_σ → Tr (qf_12_σ ⊕ qf_12_ω) := fun x => (qf_12_step (x.1) (x.2.1) (x.2.2))
def qf_k12_1 (n : Int) (A : LL) (i : Int) : Bool := A.all le16
def qf_o12_2 (n : Int) (A : LL) (i : Int) : Bool := is (i = 0 ∧ A.length ≤ 140737488351232)
def qf_o12_3 (n : Int) (A : LL) (i : Int) : Bool := is (i = 0 ∧ A.length ≤ 140737488351232)
def qf_12_fin (n : Int) (A : LL) (i : Int) : Told qf_12_ω := (.br (qf_k12_1 n A i) (.leaf (qf_o12_2 n A i) (.inr (n, A))) (.leaf (qf_o12_3 n A i) (.inl (n, A))))
def qf_12_sl (x : qf_12_σ) : List Slot := [⟨.val false [⟨.int .i64, .sh, TC.i (x.1)⟩], ⟨0, 0⟩⟩, ⟨.val false [⟨.slice 2, .own true, TC.l (x.2.1)⟩], ⟨0, 0⟩⟩, ⟨.val false [⟨.int .i64, .sh, TC.i (x.2.2)⟩], ⟨0, 0⟩⟩]
def qf_12_out : qf_12_ω → Ex × List Slot := (Sum.elim (fun x => (.ret, [⟨.val false [⟨.bool, .sh, TC.b false⟩], ⟨0, 0⟩⟩, ⟨.val false [⟨.int .i64, .sh, TC.i (x.1)⟩], ⟨0, 0⟩⟩, ⟨.val false [⟨.slice 2, .own true, TC.l (x.2)⟩], ⟨0, 0⟩⟩])) (fun x => (.exit 2, [Slot.none, ⟨.val false [⟨.int .i64, .sh, TC.i (x.1)⟩], ⟨0, 0⟩⟩, ⟨.val false [⟨.slice 2, .own true, TC.l (x.2)⟩], ⟨0, 0⟩⟩])))
def qf_lo12 : List Slot → Option (Told (Ex × List Slot)) := fun s => match s with
  | [⟨.val false [⟨.int .i64, .sh, TC.i n⟩], ⟨0, 0⟩⟩, ⟨.val false [⟨.slice 2, .own true, TC.l A⟩], ⟨0, 0⟩⟩, ⟨.val false [⟨.int .i64, .sh, TC.i i⟩], ⟨0, 0⟩⟩] => some (((qf_12_fin n A i)).map qf_12_out)
  | _ => .none
abbrev qf_5_σ := LL × LL × Int × Int
abbrev qf_5_ω := (LL × LL × Int) ⊕ (LL × LL × Int)
def qf_5_step (D A : LL) (n i : Int) : Tr (qf_5_σ ⊕ qf_5_ω) := (.ite ((decide (i < (A.length : Int))) = true) (.ite ((0 : Int) ≤ i ∧ i < (A.length : Int)) (.ite ((!(qbj_v ((nth (row A i) 0).int) (1 : Int) (40 : Int))) = true) (.ok (.inr (.inl (D, A, n))))
    (.ite ((0 : Int) ≤ i ∧ i < (A.length : Int)) (.ok (.inl (D, A, (IntKind.wrap .i64 (n * (nth (row A i) 0).int)), (IntKind.wrap .i64 (i + (1 : Int))))))
     .no))
   .no)
  (.ok (.inr (.inr (D, A, n)))))
def qf_5_st : qf_5_σ → Tr (qf_5_σ ⊕ qf_5_ω) := fun x => (qf_5_step (x.1) (x.2.1) (x.2.2.1) (x.2.2.2))
def qf_k5_1 (D A : LL) (n i : Int) : Bool := A.all (inR 1 40)
def qf_o5_2 (D A : LL) (n i : Int) : Bool := is (i = 0 ∧ n = 1 ∧ Typed tab (.slice 2) (.l A))
def qf_u5_2_2 (D A : LL) (n i : Int) : Int := (A.foldl mulR (1 : Int))
def qf_o5_3 (D A : LL) (n i : Int) : Bool := is (i = 0 ∧ n = 1 ∧ Typed tab (.slice 2) (.l A))
def qf_u5_3_2 (D A : LL) (n i : Int) : Int := ((A.take (A.findIdx fun x => !(inR 1 40) x)).foldl mulR (1 : Int))
def qf_5_fin (D A : LL) (n i : Int) : Told qf_5_ω := (.br (qf_k5_1 D A n i) (.leaf (qf_o5_2 D A n i) (.inr (D, A, (qf_u5_2_2 D A n i)))) (.leaf (qf_o5_3 D A n i) (.inl (D, A, (qf_u5_3_2 D A n i)))))
def qf_5_sl (x : qf_5_σ) : List Slot := [⟨.val false [⟨.slice 2, .sh, TC.l (x.1)⟩], ⟨0, 0⟩⟩, ⟨.val false [⟨.slice 2, .sh, TC.l (x.2.1)⟩], ⟨0, 0⟩⟩, ⟨.val false [⟨.int .i64, .sh, TC.i (x.2.2.1)⟩], ⟨0, 0⟩⟩, ⟨.val false [⟨.int .i64, .sh, TC.i (x.2.2.2)⟩], ⟨0, 0⟩⟩]
def qf_5_out : qf_5_ω → Ex × List Slot := (Sum.elim (fun x => (.ret, [⟨.val false [⟨.slice 2, .sh, TC.l (x.1)⟩], ⟨0, 0⟩⟩, ⟨.val false [⟨.slice 2, .sh, TC.l (x.2.1)⟩], ⟨0, 0⟩⟩, ⟨.val false [⟨.bool, .sh, TC.b false⟩], ⟨0, 0⟩⟩, ⟨.val false [⟨.int .i64, .sh, TC.i (x.2.2)⟩], ⟨0, 0⟩⟩])) (fun x => (.exit 0, [⟨.val false [⟨.slice 2, .sh, TC.l (x.1)⟩], ⟨0, 0⟩⟩, ⟨.val false [⟨.slice 2, .sh, TC.l (x.2.1)⟩], ⟨0, 0⟩⟩, Slot.none, ⟨.val false [⟨.int .i64, .sh, TC.i (x.2.2)⟩], ⟨0, 0⟩⟩])))
def qf_lo5 : List Slot → Option (Told (Ex × List Slot)) := fun s => match s with
  | [⟨.val false [⟨.slice 2, .sh, TC.l D⟩], ⟨0, 0⟩⟩, ⟨.val false [⟨.slice 2, .sh, TC.l A⟩], ⟨0, 0⟩⟩, ⟨.val false [⟨.int .i64, .sh, TC.i n⟩], ⟨0, 0⟩⟩, ⟨.val false [⟨.int .i64, .sh, TC.i i⟩], ⟨0, 0⟩⟩] => some (((qf_5_fin D A n i)).map qf_5_out)
  | _ => .none
def qf_lo : LoopTeller := fun r s => bif Nat.beq r 5 then qf_lo5 s else bif Nat.beq r 12 then qf_lo12 s else .none
theorem qf_12_r (n : Int) (A : LL) (i : Int) (fuel : Nat) : rounds (rnd tab FT D5 live 45 qf_lo 1 12) leave (fuel + 1) (qf_12_sl (n, A, i)) = ((qf_12_step n A i)).run (goOn (fun s => rounds (rnd tab FT D5 live 45 qf_lo 1 12) leave fuel (qf_12_sl s)) fun w => some (qf_12_out w)) := by kernel_rfl
theorem qf_12_h (n : Int) (A : LL) (i : Int) (ow : qf_12_ω) : ((qf_12_fin n A i)).val = some ow → ∃ fuel, loopN qf_12_st fuel (n, A, i) = some ow := by
  intro h
  have key : A.length ≤ 140737488351232 → loopN qf_12_st (A.length + 1) (n, A, (0 : Int)) = some (if A.all le16 = true then (.inr (n, A)) else (.inl (n, A))) := by
    intro ht
    have hlen : A.length ≤ 140737488351232 := ht
    have key := loopN_scan (step := qf_12_st) A [] le16 (fun a _ => a) (fun i a => (n, A, (i : Int))) (fun a => (.inr (n, A))) (fun i a => (.inl (n, A))) (fun i a hi => ?_) (fun a => ?_) A.length 0 () (by omega)
    · first | (rw [Nat.zero_add] at key; exact key) | exact key
    · skip
      show (qf_12_step n A (i : Int)).val = _
      unfold qf_12_step
      refine Tr.t (by simp; omega) ?_
      skip
      refine Tr.t (by first | omega | (constructor <;> omega)) ?_
      refine Tr.b2 (fun hP => ?_) (fun _ => rfl)
      rw [Tr.val_ok, wrap64 (i := (i : Int) + 1) (by omega) (by omega)]; rfl
    · show (qf_12_step n A (A.length : Int)).val = _
      refine Tr.n (by simp) ?_
      rfl
  simp only [qf_12_fin, Told.val] at h
  cases hk : A.all le16 with
  | true =>
    rw [if_pos (show qf_k12_1 n A i = true from hk)] at h
    split at h
    · rename_i ho
      obtain ⟨rfl, ht⟩ := is_iff.1 ho
      cases h
      refine ⟨_, (key ht).trans ?_⟩
      rw [hk]; rfl
    · cases h
  | false =>
    rw [if_neg (show ¬qf_k12_1 n A i = true from by rw [show qf_k12_1 n A i = (A.all le16) from rfl, hk]; simp)] at h
    split at h
    · rename_i ho
      obtain ⟨rfl, ht⟩ := is_iff.1 ho
      cases h
      refine ⟨_, (key ht).trans ?_⟩
      rw [hk]; rfl
    · cases h
theorem qf_is12 : LoopIs tab FT D5 live 45 qf_lo 1 12 := by
  refine loop_told (sl := qf_12_sl) (step := qf_12_st) (out := qf_12_out) (lor := qf_lo12) (fin := fun x => (qf_12_fin (x.1) (x.2.1) (x.2.2))) (fun _ => rfl) ?_ (fun x n => qf_12_r x.1 x.2.1 x.2.2 n) (fun x ow => qf_12_h x.1 x.2.1 x.2.2 ow)
  intro s t h
  unfold qf_lo12 at h
  split at h
  · cases h; exact ⟨(_, _, _), rfl, rfl⟩
  · cases h
theorem qf_5_r (D A : LL) (n i : Int) (fuel : Nat) : rounds (rnd tab FT D5 live 45 qf_lo 0 5) leave (fuel + 1) (qf_5_sl (D, A, n, i)) = ((qf_5_step D A n i)).run (goOn (fun s => rounds (rnd tab FT D5 live 45 qf_lo 0 5) leave fuel (qf_5_sl s)) fun w => some (qf_5_out w)) := by kernel_rfl
theorem qf_5_h (D A : LL) (n i : Int) (ow : qf_5_ω) : ((qf_5_fin D A n i)).val = some ow → ∃ fuel, loopN qf_5_st fuel (D, A, n, i) = some ow := by
  intro h
  have key : Typed tab (.slice 2) (.l A) → loopN qf_5_st (A.length + 1) (D, A, (1 : Int), (0 : Int)) = some (if A.all (inR 1 40) = true then (.inr (D, A, (A.foldl mulR (1 : Int)))) else (.inl (D, A, ((A.take (A.findIdx fun x => !(inR 1 40) x)).foldl mulR (1 : Int))))) := by
    intro ht
    have hlen : A.length ≤ 140737488351232 := by have := typed_room ht; simp only [show (tab 2).bytes = 8 from rfl] at this; omega
    have key := loopN_scan (step := qf_5_st) A [] (inR 1 40) mulR (fun i a => (D, A, a, (i : Int))) (fun a => (.inr (D, A, a))) (fun i a => (.inl (D, A, a))) (fun i a hi => ?_) (fun a => ?_) A.length 0 (1 : Int) (by omega)
    · first | (rw [Nat.zero_add] at key; exact key) | exact key
    · skip
      show (qf_5_step D A a (i : Int)).val = _
      unfold qf_5_step
      refine Tr.t (by simp; omega) ?_
      skip
      refine Tr.t (by first | omega | (constructor <;> omega)) ?_
      refine Tr.b (P := (inR 1 40) (A.getD i [])) (fun hP => ?_) (fun _ => rfl)
      refine Tr.t (by first | omega | (constructor <;> omega)) ?_
      rw [Tr.val_ok, wrap64 (i := (i : Int) + 1) (by omega) (by omega)]; rfl
    · show (qf_5_step D A a (A.length : Int)).val = _
      refine Tr.n (by simp) ?_
      rfl
  simp only [qf_5_fin, Told.val] at h
  cases hk : A.all (inR 1 40) with
  | true =>
    rw [if_pos (show qf_k5_1 D A n i = true from hk)] at h
    split at h
    · rename_i ho
      obtain ⟨rfl, rfl, ht⟩ := is_iff.1 ho
      cases h
      refine ⟨_, (key ht).trans ?_⟩
      rw [hk]; rfl
    · cases h
  | false =>
    rw [if_neg (show ¬qf_k5_1 D A n i = true from by rw [show qf_k5_1 D A n i = (A.all (inR 1 40)) from rfl, hk]; simp)] at h
    split at h
    · rename_i ho
      obtain ⟨rfl, rfl, ht⟩ := is_iff.1 ho
      cases h
      refine ⟨_, (key ht).trans ?_⟩
      rw [hk]; rfl
    · cases h
theorem qf_is5 : LoopIs tab FT D5 live 45 qf_lo 0 5 := by
  refine loop_told (sl := qf_5_sl) (step := qf_5_st) (out := qf_5_out) (lor := qf_lo5) (fin := fun x => (qf_5_fin (x.1) (x.2.1) (x.2.2.1) (x.2.2.2))) (fun _ => rfl) ?_ (fun x n => qf_5_r x.1 x.2.1 x.2.2.1 x.2.2.2 n) (fun x ow => qf_5_h x.1 x.2.1 x.2.2.1 x.2.2.2 ow)
  intro s t h
  unfold qf_lo5 at h
  split at h
  · cases h; exact ⟨(_, _, _, _), rfl, rfl⟩
  · cases h
def qf_t (D C : LL) : Tr (Bool) := (.ite ((qu_c D) = true) (.ite ((!(qu_v D)) = true) (.ok false)
   (.ite ((!((C.length : Int) == (D.length : Int))) = true) (.ok false)
    (.ite ((qf_k5_1 D C (1 : Int) (0 : Int)) = true) (.ite ((qf_o5_2 D C (1 : Int) (0 : Int)) = true) (.ite ((qx_c D C) = true) (.ite ((qf_k12_1 (qf_u5_2_2 D C (1 : Int) (0 : Int)) (qx_v D C) (0 : Int)) = true) (.ite ((qf_o12_2 (qf_u5_2_2 D C (1 : Int) (0 : Int)) (qx_v D C) (0 : Int)) = true) (.ite ((decide ((qf_u5_2_2 D C (1 : Int) (0 : Int)) ≤ (64 : Int))) = true) (.ite ((qw_c (qx_v D C)) = true) (.ok (decide ((qw_v (qx_v D C)) ≤ (256 : Int))))
           .no)
          (.ok false))
         .no)
        (.ite ((qf_o12_3 (qf_u5_2_2 D C (1 : Int) (0 : Int)) (qx_v D C) (0 : Int)) = true) (.ok false)
         .no))
       .no)
      .no)
     (.ite ((qf_o5_3 D C (1 : Int) (0 : Int)) = true) (.ok false)
      .no))))
  .no)
def qf_mk (p : Bool) : Res := [(false, [⟨.bool, .sh, TC.b p⟩])]
def qf_c (D C : LL) : Bool := ((qu_c D) && (bif (!(qu_v D)) then true else (bif (!((C.length : Int) == (D.length : Int))) then true else (bif (qf_k5_1 D C (1 : Int) (0 : Int)) then ((qf_o5_2 D C (1 : Int) (0 : Int)) && ((qx_c D C) && (bif (qf_k12_1 (qf_u5_2_2 D C (1 : Int) (0 : Int)) (qx_v D C) (0 : Int)) then ((qf_o12_2 (qf_u5_2_2 D C (1 : Int) (0 : Int)) (qx_v D C) (0 : Int)) && (bif (decide ((qf_u5_2_2 D C (1 : Int) (0 : Int)) ≤ (64 : Int))) then ((qw_c (qx_v D C)) && true) else true)) else ((qf_o12_3 (qf_u5_2_2 D C (1 : Int) (0 : Int)) (qx_v D C) (0 : Int)) && true)))) else ((qf_o5_3 D C (1 : Int) (0 : Int)) && true)))))
def qf_v (D C : LL) : Bool := (bif (!(qu_v D)) then false else (bif (!((C.length : Int) == (D.length : Int))) then false else (bif (qf_k5_1 D C (1 : Int) (0 : Int)) then (bif (qf_k12_1 (qf_u5_2_2 D C (1 : Int) (0 : Int)) (qx_v D C) (0 : Int)) then (bif (decide ((qf_u5_2_2 D C (1 : Int) (0 : Int)) ≤ (64 : Int))) then (decide ((qw_v (qx_v D C)) ≤ (256 : Int))) else false) else false) else false)))
theorem qf_l (D C : LL) : (qf_c D C) = true → (qf_t D C).val = some (qf_v D C) := by
  unfold qf_t qf_v qf_c
  intro h
  repeat' first | refine Tr.gb h fun h => ?_ | refine Tr.gs h fun h => ?_ | refine Tr.ss h (fun h => ?_) fun h => ?_ | exact rfl
def qf_S : List Arg → Option (Bool × Res) := fun xs => match xs with
  | [(false, [(.slice 2, TC.l D)]), (false, [(.slice 2, TC.l C)])] => some ((qf_c D C), qf_mk (qf_v D C))
  | _ => .none
theorem qf_e (D C : LL) : runF tab FT D5 live 45 qf_lo [(false, [(.slice 2, TC.l D)]), (false, [(.slice 2, TC.l C)])] = (qf_t D C).run fun p => some (qf_mk p) := by kernel_rfl
theorem qf_s : ∀ xs r, qf_S xs = some (true, r) → runF tab FT D5 live 45 qf_lo xs = some r := by
  intro xs r h
  unfold qf_S at h
  split at h
  · obtain ⟨h1, rfl⟩ := sp h
    exact fun_told (qf_e ..) (qf_l _ _) h1
  · cases h
def D6 : Dt := also D5 45 qf_S
theorem d6 : DOk Go.Proofs.Try.prog tab D6 := d5.also mixed_ok tab_ok names_ok (fnLoops_two (by kernel_rfl) qf_is5 qf_is12) qf_s
theorem qf_cc {D : LL} {C : LL} (hD : Typed tab (.slice 2) (.l D)) (hC : Typed tab (.slice 2) (.l C)) : (qf_c D C) = true := by
  unfold qf_c
  refine andT (by first | (apply is_true; and_intros <;> (first | rfl | assumption | (first | (apply is_true; and_intros <;> (first | rfl | assumption | (first | (apply is_true; and_intros <;> (first | rfl | assumption | (first | (apply is_true; and_intros <;> (first | rfl | assumption)))))))))))) ?_
  refine bifT (fun b1 => ?_) (fun b1 => ?_)
  · skip
    rfl
  · skip
    refine bifT (fun b2 => ?_) (fun b2 => ?_)
    · skip
      rfl
    · skip
      refine bifT (fun b3 => ?_) (fun b3 => ?_)
      · skip
        refine andT (by first | (apply is_true; and_intros <;> (first | rfl | assumption | (first | (apply is_true; and_intros <;> (first | rfl | assumption | (first | (apply is_true; and_intros <;> (first | rfl | assumption | (first | (apply is_true; and_intros <;> (first | rfl | assumption)))))))))))) ?_
        refine andT (by exact is_true (p := Typed tab (.slice 2) (.l D) ∧ D.length = C.length ∧ C.all (inR 1 40) = true) ⟨hD, lenEq b2, b3⟩) ?_
        refine bifT (fun b4 => ?_) (fun b4 => ?_)
        · skip
          refine andT (by exact is_true (p := (0 : Int) = 0 ∧ (gridL D C).length ≤ 140737488351232) ⟨rfl, gridL_len (by have := typed_room hD; simp only [show (tab 2).bytes = 8 from rfl] at this; omega)⟩) ?_
          refine bifT (fun b5 => ?_) (fun b5 => ?_)
          · skip
            refine andT (by exact is_true ⟨rfl, rfl, gridL_ty rfl hD⟩) ?_
            rfl
          · skip
            rfl
        · skip
          refine andT (by exact is_true (p := (0 : Int) = 0 ∧ (gridL D C).length ≤ 140737488351232) ⟨rfl, gridL_len (by have := typed_room hD; simp only [show (tab 2).bytes = 8 from rfl] at this; omega)⟩) ?_
          rfl
      · skip
        refine andT (by first | (apply is_true; and_intros <;> (first | rfl | assumption | (first | (apply is_true; and_intros <;> (first | rfl | assumption | (first | (apply is_true; and_intros <;> (first | rfl | assumption | (first | (apply is_true; and_intros <;> (first | rfl | assumption)))))))))))) ?_
        rfl
theorem qf_vv (D C : LL) : qf_v D C = chunkOk D C := by
  show (bif (!(qu_v D)) then false else bif (!((C.length : Int) == (D.length : Int))) then false else bif C.all (inR 1 40) then bif (gridL D C).all le16 then bif decide (prodL C ≤ 64) then decide (prodL (gridL D C) ≤ 256) else false else false else false) = _
  rw [qu_vv]
  unfold chunkOk
  cases hd : dimsOk D
  · rfl
  cases ((C.length : Int) == (D.length : Int))
  · rfl
  cases hc : C.all (inR 1 40)
  · rfl
  rw [grid_all (dimsOk_all hd) hc]
  cases (gridL D C).all (inR 0 16) <;> cases decide (prodL C ≤ 64) <;> rfl
def qbe_t (D F C : LL) : Tr (Bool) := (.ite ((qf_c D C) = true) (.ite ((qf_v D C) = true) (.ite ((qf_c F C) = true) (.ok (qf_v F C))
    .no)
   (.ok false))
  .no)
def qbe_mk (p : Bool) : Res := [(false, [⟨.bool, .sh, TC.b p⟩])]
def qbe_c (D F C : LL) : Bool := is (((qf_c D C) = true) ∧ ((qf_c F C) = true))
def qbe_v (D F C : LL) : Bool := (bif (qf_v D C) then (qf_v F C) else false)
theorem qbe_l (D F C : LL) : (qbe_c D F C) = true → (qbe_t D F C).val = some (qbe_v D F C) := by
  intro h
  obtain ⟨g0, g1⟩ := is_iff.1 h
  unfold qbe_t qbe_v
  exact (Tr.t g0 (Tr.s (Tr.t g1 rfl) rfl))
def qbe_S : List Arg → Option (Bool × Res) := fun xs => match xs with
  | [(false, [(.slice 2, TC.l D)]), (false, [(.slice 2, TC.l F)]), (false, [(.slice 2, TC.l C)])] => some ((qbe_c D F C), qbe_mk (qbe_v D F C))
  | _ => .none
theorem qbe_e (D F C : LL) : runF tab FT D6 live 54 noLoops [(false, [(.slice 2, TC.l D)]), (false, [(.slice 2, TC.l F)]), (false, [(.slice 2, TC.l C)])] = (qbe_t D F C).run fun p => some (qbe_mk p) := by kernel_rfl
theorem qbe_s : ∀ xs r, qbe_S xs = some (true, r) → runF tab FT D6 live 54 noLoops xs = some r := by
  intro xs r h
  unfold qbe_S at h
  split at h
  · obtain ⟨h1, rfl⟩ := sp h
    exact fun_told (qbe_e ..) (qbe_l _ _ _) h1
  · cases h
def D7 : Dt := also D6 54 qbe_S
theorem d7 : DOk Go.Proofs.Try.prog tab D7 := d6.also mixed_ok tab_ok names_ok noLoops_ok qbe_s
theorem two_ok {D F C : LL} (h : qbe_v D F C = true) : chunkOk D C = true ∧ chunkOk F C = true := by
  unfold qbe_v at h
  rw [qf_vv, qf_vv] at h
  revert h
  cases chunkOk D C <;> cases chunkOk F C <;> intro h <;> first | exact ⟨rfl, rfl⟩ | cases h
abbrev qs_3_σ := LL × Int × LL × Int
abbrev qs_3_ω := (LL)
def qs_3_step (A : LL) (q : Int) (X : LL) (i : Int) : Tr (qs_3_σ ⊕ qs_3_ω) := (.ite ((decide (i ≥ (0 : Int))) = true) (.ite ((0 : Int) ≤ i ∧ i < (A.length : Int)) (.ite ((nth (row A i) 0).int ≠ 0) (.ite ((0 : Int) ≤ i ∧ i < (X.length : Int)) (.ite ((0 : Int) ≤ i ∧ i < (A.length : Int)) (.ite ((nth (row A i) 0).int ≠ 0) (.ok (.inl (A, (IntKind.wrap .i64 (Int.tdiv q ((nth (row A i) 0).int))), (X.set (i).toNat (splice (row X i) 0 [TC.i (Int.tmod q ((nth (row A i) 0).int))])), (IntKind.wrap .i64 (i - (1 : Int))))))
       .no)
      .no)
     .no)
    .no)
   .no)
  (.ok (.inr X)))
def qs_3_st : qs_3_σ → Tr (qs_3_σ ⊕ qs_3_ω) := fun x => (qs_3_step (x.1) (x.2.1) (x.2.2.1) (x.2.2.2))
def qs_o3_1 (A : LL) (q : Int) (X : LL) (i : Int) : Bool := is (i = (A.length : Int) - 1 ∧ X = List.replicate A.length [TC.i (0 : Int)] ∧ Typed tab (.slice 2) (.l A) ∧ (∀ j : Nat, j < A.length → (nth (A.getD j []) 0).int ≠ 0))
def qs_u3_1 (A : LL) (q : Int) (X : LL) (i : Int) : LL := coordsV A q
def qs_3_fin (A : LL) (q : Int) (X : LL) (i : Int) : Told qs_3_ω := (.leaf (qs_o3_1 A q X i) (qs_u3_1 A q X i))
def qs_3_sl (x : qs_3_σ) : List Slot := [⟨.val false [⟨.slice 2, .sh, TC.l (x.1)⟩], ⟨0, 0⟩⟩, ⟨.val false [⟨.int .i64, .sh, TC.i (x.2.1)⟩], ⟨0, 0⟩⟩, ⟨.val false [⟨.slice 2, .own true, TC.l (x.2.2.1)⟩], ⟨0, 0⟩⟩, ⟨.val false [⟨.int .i64, .sh, TC.i (x.2.2.2)⟩], ⟨0, 0⟩⟩]
def qs_3_out : qs_3_ω → Ex × List Slot := (fun x => (.exit 0, [Slot.none, ⟨.val false [⟨.slice 2, .own true, TC.l x⟩], ⟨0, 0⟩⟩]))
def qs_lo3 : List Slot → Option (Told (Ex × List Slot)) := fun s => match s with
  | [⟨.val false [⟨.slice 2, .sh, TC.l A⟩], ⟨0, 0⟩⟩, ⟨.val false [⟨.int .i64, .sh, TC.i q⟩], ⟨0, 0⟩⟩, ⟨.val false [⟨.slice 2, .own true, TC.l X⟩], ⟨0, 0⟩⟩, ⟨.val false [⟨.int .i64, .sh, TC.i i⟩], ⟨0, 0⟩⟩] => some (((qs_3_fin A q X i)).map qs_3_out)
  | _ => .none
def qs_lo : LoopTeller := fun r s => bif Nat.beq r 3 then qs_lo3 s else .none
theorem qs_3_r (A : LL) (q : Int) (X : LL) (i : Int) (fuel : Nat) : rounds (rnd tab FT D7 live 58 qs_lo 0 3) leave (fuel + 1) (qs_3_sl (A, q, X, i)) = ((qs_3_step A q X i)).run (goOn (fun s => rounds (rnd tab FT D7 live 58 qs_lo 0 3) leave fuel (qs_3_sl s)) fun w => some (qs_3_out w)) := by kernel_rfl
theorem qs_3_h (A : LL) (q : Int) (X : LL) (i : Int) (ow : qs_3_ω) : ((qs_3_fin A q X i)).val = some ow → ∃ fuel, loopN qs_3_st fuel (A, q, X, i) = some ow := by
  intro h
  refine auto_leaf (R := coordsV A q) (fun ho => ?_) h
  obtain ⟨rfl, rfl, ht, hz⟩ := is_iff.1 ho
  have hlen : A.length ≤ 140737488351232 := by have := typed_room ht; simp only [show (tab 2).bytes = 8 from rfl] at this; omega
  have key := loopN_run (step := qs_3_st) (N := A.length) (fun k => (A, idxD A.length (dimD A) q k, crowR A q k, (A.length : Int) - 1 - (k : Int))) (w := coordsV A q) (fun k hk => ?_) ?_ A.length 0 (by omega)
  · refine ⟨_, Eq.trans (congrArg (loopN qs_3_st _) ?_) key⟩
    show (_, _, _, _) = (_, _, crowR A q 0, _)
    rw [← crowR_zero]
    simp [idxD]
  · have hi : (A.length : Int) - 1 - (k : Int) = ((A.length - 1 - k : Nat) : Int) := by omega
    have hr : (nth (row A ((A.length - 1 - k : Nat) : Int)) 0).int = dimD A (A.length - 1 - k) := rfl
    have hne : dimD A (A.length - 1 - k) ≠ 0 := hz _ (by omega)
    show (qs_3_step A (idxD A.length (dimD A) q k) (crowR A q k) ((A.length : Int) - 1 - (k : Int))).val = _
    rw [hi]
    unfold qs_3_step
    rw [hr]
    refine Tr.t (by simp) (Tr.t (by constructor <;> omega) (Tr.t hne (Tr.t (by rw [crowR_len]; constructor <;> omega) (Tr.t (by constructor <;> omega) (Tr.t hne ?_)))))
    have hsp : splice (row (crowR A q k) ((A.length - 1 - k : Nat) : Int)) 0 [TC.i (Int.tmod (idxD A.length (dimD A) q k) (dimD A (A.length - 1 - k)))] = [TC.i (crdD A.length (dimD A) q (A.length - 1 - k))] := by
      have h1 : row (crowR A q k) ((A.length - 1 - k : Nat) : Int) = [TC.i (if A.length - k ≤ A.length - 1 - k then crdD A.length (dimD A) q (A.length - 1 - k) else 0)] := by
        rw [row_nat, List.getD_eq_getElem?_getD, crowR_at (by omega)]; rfl
      rw [h1]
      unfold crdD
      rw [show A.length - 1 - (A.length - 1 - k) = k from by omega]
      rfl
    rw [Tr.val_ok, hsp, Int.toNat_natCast, crowR_set hk, wrap64 (i := ((A.length - 1 - k : Nat) : Int) - 1) (by omega) (by omega)]
    show some (Sum.inl (_, _, _, _)) = some (Sum.inl (_, _, _, _))
    rw [show ((A.length - 1 - k : Nat) : Int) - 1 = (A.length : Int) - 1 - ((k + 1 : Nat) : Int) from by omega]
    rfl
  · show (qs_3_step A (idxD A.length (dimD A) q A.length) (crowR A q A.length) ((A.length : Int) - 1 - (A.length : Int))).val = _
    unfold qs_3_step
    refine Tr.n (by first | (simp; done) | (simp; omega)) ?_
    rw [Tr.val_ok, crowR_all]
theorem qs_is3 : LoopIs tab FT D7 live 58 qs_lo 0 3 := by
  refine loop_told (sl := qs_3_sl) (step := qs_3_st) (out := qs_3_out) (lor := qs_lo3) (fin := fun x => (qs_3_fin (x.1) (x.2.1) (x.2.2.1) (x.2.2.2))) (fun _ => rfl) ?_ (fun x n => qs_3_r x.1 x.2.1 x.2.2.1 x.2.2.2 n) (fun x ow => qs_3_h x.1 x.2.1 x.2.2.1 x.2.2.2 ow)
  intro s t h
  unfold qs_lo3 at h
  split at h
  · cases h; exact ⟨(_, _, _, _), rfl, rfl⟩
  · cases h
def qs_t (A : LL) (x : Int) : Tr (LL) := (.ite (0 ≤ (A.length : Int) ∧ (A.length : Int) ≤ (A.length : Int) ∧ (A.length : Int) * 8 ≤ 140737488355328 ∧ (A.length : Int) ≤ 140737488355328) (.ite ((qs_o3_1 A x (List.replicate ((A.length : Int)).toNat [TC.i (0 : Int)]) (IntKind.wrap .i64 ((A.length : Int) - (1 : Int)))) = true) (.ok (qs_u3_1 A x (List.replicate ((A.length : Int)).toNat [TC.i (0 : Int)]) (IntKind.wrap .i64 ((A.length : Int) - (1 : Int)))))
   .no)
  .no)
def qs_mk (p : LL) : Res := [(false, [⟨.slice 2, .own true, TC.l p⟩])]
def qs_c (A : LL) (x : Int) : Bool := is (Typed tab (.slice 2) (.l A) ∧ (∀ j : Nat, j < A.length → (nth (A.getD j []) 0).int ≠ 0))
def qs_v (A : LL) (x : Int) : LL := coordsV A x
theorem qs_l (A : LL) (x : Int) : (qs_c A x) = true → (qs_t A x).val = some (qs_v A x) := by
  intro h
  obtain ⟨ht, hz⟩ := is_iff.1 h
  have hlen := typed_room ht
  simp only [show (tab 2).bytes = 8 from rfl] at hlen
  unfold qs_t qs_v
  refine Tr.t (by omega) (Tr.t (is_true ⟨wrap64 (by omega) (by omega), by rw [Int.toNat_natCast], ht, hz⟩) ?_)
  rfl
def qs_S : List Arg → Option (Bool × Res) := fun xs => match xs with
  | [(false, [(.slice 2, TC.l A)]), (false, [(.int .i64, TC.i x)])] => some ((qs_c A x), qs_mk (qs_v A x))
  | _ => .none
theorem qs_e (A : LL) (x : Int) : runF tab FT D7 live 58 qs_lo [(false, [(.slice 2, TC.l A)]), (false, [(.int .i64, TC.i x)])] = (qs_t A x).run fun p => some (qs_mk p) := by kernel_rfl
theorem qs_s : ∀ xs r, qs_S xs = some (true, r) → runF tab FT D7 live 58 qs_lo xs = some r := by
  intro xs r h
  unfold qs_S at h
  split at h
  · obtain ⟨h1, rfl⟩ := sp h
    exact fun_told (qs_e ..) (qs_l _ _) h1
  · cases h
def D8 : Dt := also D7 58 qs_S
theorem d8 : DOk Go.Proofs.Try.prog tab D8 := d7.also mixed_ok tab_ok names_ok (fnLoops_one (by kernel_rfl) qs_is3) qs_s
def qy_f3 (A : LL) (i n : Int) : (Int) ⊕ ((Int)) := (.inl (IntKind.wrap .i64 ((IntKind.wrap .i64 ((16 : Int) * n)) + (nth (row A i) 0).int)))
def qy_e3 (A : LL) (n : Int) : (Int) := n
def qy_R3 (A : LL) (n i : Int) : (Int) := iter (fun i a => (qy_f3 A (i : Int) a)) (fun a => (qy_e3 A a)) (A.length) 0 n
abbrev qy_3_σ := LL × Int × Int
abbrev qy_3_ω := (Int)
def qy_3_step (A : LL) (n i : Int) : Tr (qy_3_σ ⊕ qy_3_ω) := (.ite ((decide (i < (A.length : Int))) = true) (.ite ((0 : Int) ≤ i ∧ i < (A.length : Int)) (.ok (.inl (A, (IntKind.wrap .i64 ((IntKind.wrap .i64 ((16 : Int) * n)) + (nth (row A i) 0).int)), (IntKind.wrap .i64 (i + (1 : Int))))))
   .no)
  (.ok (.inr n)))
def qy_3_st : qy_3_σ → Tr (qy_3_σ ⊕ qy_3_ω) := fun x => (qy_3_step (x.1) (x.2.1) (x.2.2))
def qy_o3_1 (A : LL) (n i : Int) : Bool := is (i = 0 ∧ n = 0 ∧ A.length ≤ 140737488351232)
def qy_u3_1 (A : LL) (n i : Int) : Int := (qy_R3 A n i)
def qy_3_fin (A : LL) (n i : Int) : Told qy_3_ω := (.leaf (qy_o3_1 A n i) (qy_u3_1 A n i))
def qy_3_sl (x : qy_3_σ) : List Slot := [⟨.val false [⟨.slice 2, .sh, TC.l (x.1)⟩], ⟨0, 0⟩⟩, ⟨.val false [⟨.int .i64, .sh, TC.i (x.2.1)⟩], ⟨0, 0⟩⟩, ⟨.val false [⟨.int .i64, .sh, TC.i (x.2.2)⟩], ⟨0, 0⟩⟩]
def qy_3_out : qy_3_ω → Ex × List Slot := (fun x => (.exit 0, [Slot.none, ⟨.val false [⟨.int .i64, .sh, TC.i x⟩], ⟨0, 0⟩⟩]))
def qy_lo3 : List Slot → Option (Told (Ex × List Slot)) := fun s => match s with
  | [⟨.val false [⟨.slice 2, .sh, TC.l A⟩], ⟨0, 0⟩⟩, ⟨.val false [⟨.int .i64, .sh, TC.i n⟩], ⟨0, 0⟩⟩, ⟨.val false [⟨.int .i64, .sh, TC.i i⟩], ⟨0, 0⟩⟩] => some (((qy_3_fin A n i)).map qy_3_out)
  | _ => .none
def qy_lo : LoopTeller := fun r s => bif Nat.beq r 3 then qy_lo3 s else .none
theorem qy_3_r (A : LL) (n i : Int) (fuel : Nat) : rounds (rnd tab FT D8 live 130 qy_lo 0 3) leave (fuel + 1) (qy_3_sl (A, n, i)) = ((qy_3_step A n i)).run (goOn (fun s => rounds (rnd tab FT D8 live 130 qy_lo 0 3) leave fuel (qy_3_sl s)) fun w => some (qy_3_out w)) := by kernel_rfl
theorem qy_R3_eq (A : LL) : qy_R3 A 0 0 = keyL A := by
  unfold qy_R3
  refine (iter_each (g := (fun i n => IntKind.wrap .i64 ((IntKind.wrap .i64 (n * 16)) + (nth (row A (i : Int)) 0).int))) (fin := fun a => qy_e3 A a) fun j a hj => ?_)
  unfold qy_f3
  rw [Int.mul_comm 16 a]
theorem qy_3_h (A : LL) (n i : Int) (ow : qy_3_ω) : ((qy_3_fin A n i)).val = some ow → ∃ fuel, loopN qy_3_st fuel (A, n, i) = some ow := by
  refine auto_leaf (R := (qy_R3 A n i)) ?_
  intro ho
  have ho : is (i = 0 ∧ n = 0 ∧ A.length ≤ 140737488351232) = true := ho
  obtain ⟨rfl, rfl, hlen⟩ := is_iff.1 ho
  skip
  refine ⟨(A.length) + 1, ?_⟩
  refine iter_loop (step := qy_3_st) (A.length) (fun i a => (qy_f3 A (i : Int) a)) (fun a => (qy_e3 A a)) (fun i a => (A, a, (i : Int))) (fun _ _ => True) trivial (fun i a hi hI => ⟨?_, fun _ _ => trivial⟩) (fun a hI => ?_)
  · show (qy_3_step A a (i : Int)).val = _
    unfold qy_3_step qy_f3
    skip
    refine Tr.t (by simp; omega) ?_
    exact (Tr.t (by first | omega | (constructor <;> omega)) (by rw [Tr.val_ok, wrap64 (i := (i : Int) + 1) (by omega) (by omega)]; rfl))
  · show (qy_3_step A a (A.length : Int)).val = _
    refine Tr.n (by first | (simp; done) | (simp; omega) | omega) ?_
    rfl
theorem qy_is3 : LoopIs tab FT D8 live 130 qy_lo 0 3 := by
  refine loop_told (sl := qy_3_sl) (step := qy_3_st) (out := qy_3_out) (lor := qy_lo3) (fin := fun x => (qy_3_fin (x.1) (x.2.1) (x.2.2))) (fun _ => rfl) ?_ (fun x n => qy_3_r x.1 x.2.1 x.2.2 n) (fun x ow => qy_3_h x.1 x.2.1 x.2.2 ow)
  intro s t h
  unfold qy_lo3 at h
  split at h
  · cases h; exact ⟨(_, _, _), rfl, rfl⟩
  · cases h
def qy_t (A : LL) : Tr (Int) := (.ite ((qy_o3_1 A (0 : Int) (0 : Int)) = true) (.ok (qy_u3_1 A (0 : Int) (0 : Int)))
  .no)
def qy_mk (p : Int) : Res := [(false, [⟨.int .i64, .sh, TC.i p⟩])]
def qy_c (A : LL) : Bool := (qy_o3_1 A (0 : Int) (0 : Int))
def qy_v (A : LL) : Int := (qy_u3_1 A (0 : Int) (0 : Int))
theorem qy_l (A : LL) : (qy_c A) = true → (qy_t A).val = some (qy_v A) := by
  intro h
  have hc0 : (qy_o3_1 A (0 : Int) (0 : Int)) = true := h
  unfold qy_t
  exact (Tr.t hc0 rfl)
def qy_S : List Arg → Option (Bool × Res) := fun xs => match xs with
  | [(false, [(.slice 2, TC.l A)])] => some ((qy_c A), qy_mk (qy_v A))
  | _ => .none
theorem qy_e (A : LL) : runF tab FT D8 live 130 qy_lo [(false, [(.slice 2, TC.l A)])] = (qy_t A).run fun p => some (qy_mk p) := by kernel_rfl
theorem qy_s : ∀ xs r, qy_S xs = some (true, r) → runF tab FT D8 live 130 qy_lo xs = some r := by
  intro xs r h
  unfold qy_S at h
  split at h
  · obtain ⟨h1, rfl⟩ := sp h
    exact fun_told (qy_e _) (qy_l _) h1
  · cases h
def D9 : Dt := also D8 130 qy_S
theorem d9 : DOk Go.Proofs.Try.prog tab D9 := d8.also mixed_ok tab_ok names_ok (fnLoops_one (by kernel_rfl) qy_is3) qy_s
theorem qy_vv (A : LL) : qy_v A = keyL A := qy_R3_eq A
abbrev qi_4_σ := LL × LL × Int
abbrev qi_4_ω := (LL)
def qi_4_step (g X : LL) (i : Int) : Tr (qi_4_σ ⊕ qi_4_ω) := (.ite ((qw_c g) = true) (.ite ((decide (i < (qw_v g))) = true) (.ite ((qs_c g i) = true) (.ite ((qy_c (qs_v g i)) = true) (.ite (roomFor (tab 2) (X ++ [[TC.i (qy_v (qs_v g i))]]).length) (.ok (.inl (g, (X ++ [[TC.i (qy_v (qs_v g i))]]), (IntKind.wrap .i64 (i + (1 : Int))))))
      .no)
     .no)
    .no)
   (.ok (.inr X)))
  .no)
def qi_4_st : qi_4_σ → Tr (qi_4_σ ⊕ qi_4_ω) := fun x => (qi_4_step (x.1) (x.2.1) (x.2.2))
def qi_o4_1 (g X : LL) (i : Int) : Bool := is (X = [] ∧ i = 0 ∧ prodL g ≤ 100000 ∧ Typed tab (.slice 2) (.l g) ∧ (0 < prodL g → ∀ j : Nat, j < g.length → (nth (g.getD j []) 0).int ≠ 0))
def qi_u4_1 (g X : LL) (i : Int) : LL := keysL g (prodL g).toNat
def qi_4_fin (g X : LL) (i : Int) : Told qi_4_ω := (.leaf (qi_o4_1 g X i) (qi_u4_1 g X i))
def qi_4_sl (x : qi_4_σ) : List Slot := [⟨.val false [⟨.slice 2, .own true, TC.l (x.1)⟩], ⟨0, 0⟩⟩, ⟨.val false [⟨.slice 2, .own true, TC.l (x.2.1)⟩], ⟨0, 0⟩⟩, ⟨.val false [⟨.int .i64, .sh, TC.i (x.2.2)⟩], ⟨0, 0⟩⟩]
def qi_4_out : qi_4_ω → Ex × List Slot := (fun x => (.exit 0, [Slot.none, ⟨.val false [⟨.slice 2, .own true, TC.l x⟩], ⟨0, 0⟩⟩]))
def qi_lo4 : List Slot → Option (Told (Ex × List Slot)) := fun s => match s with
  | [⟨.val false [⟨.slice 2, .own true, TC.l g⟩], ⟨0, 0⟩⟩, ⟨.val false [⟨.slice 2, .own true, TC.l X⟩], ⟨0, 0⟩⟩, ⟨.val false [⟨.int .i64, .sh, TC.i i⟩], ⟨0, 0⟩⟩] => some (((qi_4_fin g X i)).map qi_4_out)
  | _ => .none
def qi_lo : LoopTeller := fun r s => bif Nat.beq r 4 then qi_lo4 s else .none
theorem qi_4_r (g X : LL) (i : Int) (fuel : Nat) : rounds (rnd tab FT D9 live 104 qi_lo 0 4) leave (fuel + 1) (qi_4_sl (g, X, i)) = ((qi_4_step g X i)).run (goOn (fun s => rounds (rnd tab FT D9 live 104 qi_lo 0 4) leave fuel (qi_4_sl s)) fun w => some (qi_4_out w)) := by kernel_rfl
theorem qi_4_h (g X : LL) (i : Int) (ow : qi_4_ω) : ((qi_4_fin g X i)).val = some ow → ∃ fuel, loopN qi_4_st fuel (g, X, i) = some ow := by
  intro h
  refine auto_leaf (R := keysL g (prodL g).toNat) (fun ho => ?_) h
  obtain ⟨rfl, rfl, hM, ht, hz⟩ := is_iff.1 ho
  have hlen := typed_room ht
  simp only [show (tab 2).bytes = 8 from rfl] at hlen
  have key := loopN_run (step := qi_4_st) (N := (prodL g).toNat) (fun k => (g, keysL g k, (k : Int))) (w := keysL g (prodL g).toNat) (fun k hk => ?_) ?_ (prodL g).toNat 0 (by omega)
  · exact ⟨_, Eq.trans (congrArg (loopN qi_4_st _) (by simp [keysL])) key⟩
  · have hz' := hz (by omega)
    show (qi_4_step g (keysL g k) (k : Int)).val = _
    unfold qi_4_step
    refine Tr.t (is_true ⟨rfl, rfl, ht⟩) ?_
    refine Tr.t (by rw [show qw_v g = prodL g from rfl]; simp; omega) (Tr.t (is_true ⟨ht, hz'⟩) ?_)
    rw [show qs_v g (k : Int) = coordsV g (k : Int) from rfl, qy_vv]
    refine Tr.t (is_true (by and_intros <;> first | rfl | (rw [coordsV_len]; omega) | (rw [coordsV_len]))) (Tr.t ?_ ?_)
    · unfold roomFor
      simp only [show (tab 2).bytes = 8 from rfl, List.length_append, List.length_singleton, keysL_len]
      omega
    · rw [Tr.val_ok, keysL_succ, wrap64 (i := (k : Int) + 1) (by omega) (by omega)]; rfl
  · show (qi_4_step g (keysL g (prodL g).toNat) (((prodL g).toNat : Nat) : Int)).val = _
    unfold qi_4_step
    refine Tr.t (is_true ⟨rfl, rfl, ht⟩) ?_
    refine Tr.n (by rw [show qw_v g = prodL g from rfl]; simp; omega) ?_
    rfl
theorem qi_is4 : LoopIs tab FT D9 live 104 qi_lo 0 4 := by
  refine loop_told (sl := qi_4_sl) (step := qi_4_st) (out := qi_4_out) (lor := qi_lo4) (fin := fun x => (qi_4_fin (x.1) (x.2.1) (x.2.2))) (fun _ => rfl) ?_ (fun x n => qi_4_r x.1 x.2.1 x.2.2 n) (fun x ow => qi_4_h x.1 x.2.1 x.2.2 ow)
  intro s t h
  unfold qi_lo4 at h
  split at h
  · cases h; exact ⟨(_, _, _), rfl, rfl⟩
  · cases h
def qi_t (D C : LL) : Tr (LL) := (.ite ((qx_c D C) = true) (.ite ((qi_o4_1 (qx_v D C) [] (0 : Int)) = true) (.ok (qi_u4_1 (qx_v D C) [] (0 : Int)))
   .no)
  .no)
def qi_mk (p : LL) : Res := [(false, [⟨.slice 2, .own true, TC.l p⟩])]
def qi_c (D C : LL) : Bool := ((qx_c D C) && ((qi_o4_1 (qx_v D C) [] (0 : Int)) && true))
def qi_v (D C : LL) : LL := (qi_u4_1 (qx_v D C) [] (0 : Int))
theorem qi_l (D C : LL) : (qi_c D C) = true → (qi_t D C).val = some (qi_v D C) := by
  unfold qi_t qi_v qi_c
  exact fun h => (Tr.gb h fun h => (Tr.gb h fun h => rfl))
def qi_S : List Arg → Option (Bool × Res) := fun xs => match xs with
  | [(false, [(.slice 2, TC.l D)]), (false, [(.slice 2, TC.l C)])] => some ((qi_c D C), qi_mk (qi_v D C))
  | _ => .none
theorem qi_e (D C : LL) : runF tab FT D9 live 104 qi_lo [(false, [(.slice 2, TC.l D)]), (false, [(.slice 2, TC.l C)])] = (qi_t D C).run fun p => some (qi_mk p) := by kernel_rfl
theorem qi_s : ∀ xs r, qi_S xs = some (true, r) → runF tab FT D9 live 104 qi_lo xs = some r := by
  intro xs r h
  unfold qi_S at h
  split at h
  · obtain ⟨h1, rfl⟩ := sp h
    exact fun_told (qi_e ..) (qi_l _ _) h1
  · cases h
def D10 : Dt := also D9 104 qi_S
theorem d10 : DOk Go.Proofs.Try.prog tab D10 := d9.also mixed_ok tab_ok names_ok (fnLoops_one (by kernel_rfl) qi_is4) qi_s
theorem qi_cc {D : LL} {C : LL} (hD : Typed tab (.slice 2) (.l D)) (hk : chunkOk D C = true) : (qi_c D C) = true := by
  unfold qi_c
  refine andT (by have hp := chunkOk_parts hk; exact is_true (p := Typed tab (.slice 2) (.l D) ∧ D.length = C.length ∧ C.all (inR 1 40) = true) ⟨hD, hp.1, hp.2.1⟩) ?_
  refine andT (by exact is_true ⟨rfl, rfl, keys_num hk, gridL_ty rfl hD, fun h => prod_pos h⟩) ?_
  rfl
abbrev ql_2_σ := LL × Int × Int
abbrev ql_2_ω := (Unit) ⊕ (Unit)
def ql_2_step (A : LL) (v i : Int) : Tr (ql_2_σ ⊕ ql_2_ω) := (.ite ((decide (i < (A.length : Int))) = true) (.ite ((0 : Int) ≤ i ∧ i < (A.length : Int)) (.ite (((nth (row A i) 0).int == v) = true) (.ok (.inr (.inl ())))
    (.ok (.inl (A, v, (IntKind.wrap .i64 (i + (1 : Int)))))))
   .no)
  (.ok (.inr (.inr ()))))
def ql_2_st : ql_2_σ → Tr (ql_2_σ ⊕ ql_2_ω) := fun x => (ql_2_step (x.1) (x.2.1) (x.2.2))
def ql_k2_1 (A : LL) (v i : Int) : Bool := A.all (fun x => !((nth x 0).int == v))
def ql_o2_2 (A : LL) (v i : Int) : Bool := is (i = 0 ∧ A.length ≤ 140737488351232)
def ql_o2_3 (A : LL) (v i : Int) : Bool := is (i = 0 ∧ A.length ≤ 140737488351232)
def ql_2_fin (A : LL) (v i : Int) : Told ql_2_ω := (.br (ql_k2_1 A v i) (.leaf (ql_o2_2 A v i) (.inr ())) (.leaf (ql_o2_3 A v i) (.inl ())))
def ql_2_sl (x : ql_2_σ) : List Slot := [⟨.val false [⟨.slice 2, .sh, TC.l (x.1)⟩], ⟨0, 0⟩⟩, ⟨.val false [⟨.int .i64, .sh, TC.i (x.2.1)⟩], ⟨0, 0⟩⟩, ⟨.val false [⟨.int .i64, .sh, TC.i (x.2.2)⟩], ⟨0, 0⟩⟩]
def ql_2_out : ql_2_ω → Ex × List Slot := (Sum.elim (fun x => (.ret, [⟨.val false [⟨.bool, .sh, TC.b true⟩], ⟨0, 0⟩⟩])) (fun x => (.exit 0, [Slot.none])))
def ql_lo2 : List Slot → Option (Told (Ex × List Slot)) := fun s => match s with
  | [⟨.val false [⟨.slice 2, .sh, TC.l A⟩], ⟨0, 0⟩⟩, ⟨.val false [⟨.int .i64, .sh, TC.i v⟩], ⟨0, 0⟩⟩, ⟨.val false [⟨.int .i64, .sh, TC.i i⟩], ⟨0, 0⟩⟩] => some (((ql_2_fin A v i)).map ql_2_out)
  | _ => .none
def ql_lo : LoopTeller := fun r s => bif Nat.beq r 2 then ql_lo2 s else .none
theorem ql_2_r (A : LL) (v i : Int) (fuel : Nat) : rounds (rnd tab FT D10 live 103 ql_lo 0 2) leave (fuel + 1) (ql_2_sl (A, v, i)) = ((ql_2_step A v i)).run (goOn (fun s => rounds (rnd tab FT D10 live 103 ql_lo 0 2) leave fuel (ql_2_sl s)) fun w => some (ql_2_out w)) := by kernel_rfl
theorem ql_2_h (A : LL) (v i : Int) (ow : ql_2_ω) : ((ql_2_fin A v i)).val = some ow → ∃ fuel, loopN ql_2_st fuel (A, v, i) = some ow := by
  intro h
  have key : A.length ≤ 140737488351232 → loopN ql_2_st (A.length + 1) (A, v, (0 : Int)) = some (if A.all (fun x => !((nth x 0).int == v)) = true then (.inr ()) else (.inl ())) := by
    intro ht
    have hlen : A.length ≤ 140737488351232 := ht
    have key := loopN_scan (step := ql_2_st) A [] (fun x => !((nth x 0).int == v)) (fun a _ => a) (fun i a => (A, v, (i : Int))) (fun a => (.inr ())) (fun i a => (.inl ())) (fun i a hi => ?_) (fun a => ?_) A.length 0 () (by omega)
    · first | (rw [Nat.zero_add] at key; exact key) | exact key
    · skip
      show (ql_2_step A v (i : Int)).val = _
      unfold ql_2_step
      refine Tr.t (by simp; omega) ?_
      skip
      refine Tr.t (by first | omega | (constructor <;> omega)) ?_
      refine Tr.b2 (fun hP => ?_) (fun _ => rfl)
      rw [Tr.val_ok, wrap64 (i := (i : Int) + 1) (by omega) (by omega)]; rfl
    · show (ql_2_step A v (A.length : Int)).val = _
      refine Tr.n (by simp) ?_
      rfl
  simp only [ql_2_fin, Told.val] at h
  cases hk : A.all (fun x => !((nth x 0).int == v)) with
  | true =>
    rw [if_pos (show ql_k2_1 A v i = true from hk)] at h
    split at h
    · rename_i ho
      obtain ⟨rfl, ht⟩ := is_iff.1 ho
      cases h
      refine ⟨_, (key ht).trans ?_⟩
      rw [hk]; rfl
    · cases h
  | false =>
    rw [if_neg (show ¬ql_k2_1 A v i = true from by rw [show ql_k2_1 A v i = (A.all (fun x => !((nth x 0).int == v))) from rfl, hk]; simp)] at h
    split at h
    · rename_i ho
      obtain ⟨rfl, ht⟩ := is_iff.1 ho
      cases h
      refine ⟨_, (key ht).trans ?_⟩
      rw [hk]; rfl
    · cases h
theorem ql_is2 : LoopIs tab FT D10 live 103 ql_lo 0 2 := by
  refine loop_told (sl := ql_2_sl) (step := ql_2_st) (out := ql_2_out) (lor := ql_lo2) (fin := fun x => (ql_2_fin (x.1) (x.2.1) (x.2.2))) (fun _ => rfl) ?_ (fun x n => ql_2_r x.1 x.2.1 x.2.2 n) (fun x ow => ql_2_h x.1 x.2.1 x.2.2 ow)
  intro s t h
  unfold ql_lo2 at h
  split at h
  · cases h; exact ⟨(_, _, _), rfl, rfl⟩
  · cases h
def ql_t (A : LL) (v : Int) : Tr (Bool) := (.ite ((ql_k2_1 A v (0 : Int)) = true) (.ite ((ql_o2_2 A v (0 : Int)) = true) (.ok false)
   .no)
  (.ite ((ql_o2_3 A v (0 : Int)) = true) (.ok true)
   .no))
def ql_mk (p : Bool) : Res := [(false, [⟨.bool, .sh, TC.b p⟩])]
def ql_c (A : LL) (v : Int) : Bool := (bif (ql_k2_1 A v (0 : Int)) then ((ql_o2_2 A v (0 : Int)) && true) else ((ql_o2_3 A v (0 : Int)) && true))
def ql_v (A : LL) (v : Int) : Bool := (bif (ql_k2_1 A v (0 : Int)) then false else true)
theorem ql_l (A : LL) (v : Int) : (ql_c A v) = true → (ql_t A v).val = some (ql_v A v) := by
  unfold ql_t ql_v ql_c
  exact fun h => (Tr.ss h (fun h => (Tr.gb h fun h => rfl)) (fun h => (Tr.gb h fun h => rfl)))
def ql_S : List Arg → Option (Bool × Res) := fun xs => match xs with
  | [(false, [(.slice 2, TC.l A)]), (false, [(.int .i64, TC.i v)])] => some ((ql_c A v), ql_mk (ql_v A v))
  | _ => .none
theorem ql_e (A : LL) (v : Int) : runF tab FT D10 live 103 ql_lo [(false, [(.slice 2, TC.l A)]), (false, [(.int .i64, TC.i v)])] = (ql_t A v).run fun p => some (ql_mk p) := by kernel_rfl
theorem ql_s : ∀ xs r, ql_S xs = some (true, r) → runF tab FT D10 live 103 ql_lo xs = some r := by
  intro xs r h
  unfold ql_S at h
  split at h
  · obtain ⟨h1, rfl⟩ := sp h
    exact fun_told (ql_e ..) (ql_l _ _) h1
  · cases h
def D11 : Dt := also D10 103 ql_S
theorem d11 : DOk Go.Proofs.Try.prog tab D11 := d10.also mixed_ok tab_ok names_ok (fnLoops_one (by kernel_rfl) ql_is2) ql_s
theorem ql_cc {A : LL} {v : Int} (hl : A.length ≤ 140737488351232) : (ql_c A v) = true := by
  unfold ql_c
  refine bifT (fun b1 => ?_) (fun b1 => ?_)
  · skip
    refine andT (by exact is_true ⟨rfl, hl⟩) ?_
    rfl
  · skip
    refine andT (by exact is_true ⟨rfl, hl⟩) ?_
    rfl
def qq_t (D C : LL) (q : Int) : Tr (Bool) := (.ite ((qf_c D C) = true) (.ite ((qf_v D C) = true) (.ite ((qi_c D C) = true) (.ite ((ql_c (qi_v D C) q) = true) (.ok (ql_v (qi_v D C) q))
     .no)
    .no)
   (.ok false))
  .no)
def qq_mk (p : Bool) : Res := [(false, [⟨.bool, .sh, TC.b p⟩])]
def qq_c (D C : LL) (q : Int) : Bool := ((qf_c D C) && (bif (qf_v D C) then ((qi_c D C) && ((ql_c (qi_v D C) q) && true)) else true))
def qq_v (D C : LL) (q : Int) : Bool := (bif (qf_v D C) then (ql_v (qi_v D C) q) else false)
theorem qq_l (D C : LL) (q : Int) : (qq_c D C q) = true → (qq_t D C q).val = some (qq_v D C q) := by
  unfold qq_t qq_v qq_c
  exact fun h => (Tr.gb h fun h => (Tr.ss h (fun h => (Tr.gb h fun h => (Tr.gb h fun h => rfl))) (fun h => rfl)))
def qq_S : List Arg → Option (Bool × Res) := fun xs => match xs with
  | [(false, [(.slice 2, TC.l D)]), (false, [(.slice 2, TC.l C)]), (false, [(.int .i64, TC.i q)])] => some ((qq_c D C q), qq_mk (qq_v D C q))
  | _ => .none
theorem qq_e (D C : LL) (q : Int) : runF tab FT D11 live 55 noLoops [(false, [(.slice 2, TC.l D)]), (false, [(.slice 2, TC.l C)]), (false, [(.int .i64, TC.i q)])] = (qq_t D C q).run fun p => some (qq_mk p) := by kernel_rfl
theorem qq_s : ∀ xs r, qq_S xs = some (true, r) → runF tab FT D11 live 55 noLoops xs = some r := by
  intro xs r h
  unfold qq_S at h
  split at h
  · obtain ⟨h1, rfl⟩ := sp h
    exact fun_told (qq_e ..) (qq_l _ _ _) h1
  · cases h
def D12 : Dt := also D11 55 qq_S
theorem d12 : DOk Go.Proofs.Try.prog tab D12 := d11.also mixed_ok tab_ok names_ok noLoops_ok qq_s
theorem qq_cc {D : LL} {C : LL} {q : Int} (hD : Typed tab (.slice 2) (.l D)) (hC : Typed tab (.slice 2) (.l C)) : (qq_c D C q) = true := by
  unfold qq_c
  refine andT (by exact qf_cc hD hC) ?_
  refine bifT (fun b1 => ?_) (fun b1 => ?_)
  · skip
    refine andT (by exact qi_cc hD ((qf_vv _ _).symm.trans b1)) ?_
    refine andT (by exact ql_cc (by have := keysG_ty (e := 2) rfl rfl ((qf_vv _ _).symm.trans b1); have := typed_room this; simp only [show (tab 2).bytes = 8 from rfl] at this; show (keysG D C).length ≤ _; omega)) ?_
    rfl
  · skip
    rfl
theorem qq_vv (D C : LL) (q : Int) : qq_v D C q = (chunkOk D C && hasK (keysG D C) q) := by
  unfold qq_v
  rw [qf_vv]
  show (bif chunkOk D C then (bif (keysG D C).all (fun x => !((nth x 0).int == q)) then false else true) else false) = _
  unfold hasK
  cases chunkOk D C <;> cases (keysG D C).all (fun x => !((nth x 0).int == q)) <;> rfl
abbrev qg_3_σ := Int × LL × Int
abbrev qg_3_ω := (LL)
def qg_3_step (q : Int) (X : LL) (i : Int) : Tr (qg_3_σ ⊕ qg_3_ω) := (.ite ((decide (i ≥ (0 : Int))) = true) (.ite ((0 : Int) ≤ i ∧ i < (X.length : Int)) (.ok (.inl ((IntKind.wrap .i64 (Int.tdiv q (16 : Int))), (X.set (i).toNat (splice (row X i) 0 [TC.i (Int.tmod q (16 : Int))])), (IntKind.wrap .i64 (i - (1 : Int))))))
   .no)
  (.ok (.inr X)))
def qg_3_st : qg_3_σ → Tr (qg_3_σ ⊕ qg_3_ω) := fun x => (qg_3_step (x.1) (x.2.1) (x.2.2))
def qg_o3_1 (q : Int) (X : LL) (i : Int) : Bool := is (X = List.replicate X.length [TC.i (0 : Int)] ∧ i = (X.length : Int) - 1 ∧ X.length ≤ 100000)
def qg_u3_1 (q : Int) (X : LL) (i : Int) : LL := coordsV (List.replicate X.length [TC.i (16 : Int)]) q
def qg_3_fin (q : Int) (X : LL) (i : Int) : Told qg_3_ω := (.leaf (qg_o3_1 q X i) (qg_u3_1 q X i))
def qg_3_sl (x : qg_3_σ) : List Slot := [⟨.val false [⟨.int .i64, .sh, TC.i (x.1)⟩], ⟨0, 0⟩⟩, ⟨.val false [⟨.slice 2, .own true, TC.l (x.2.1)⟩], ⟨0, 0⟩⟩, ⟨.val false [⟨.int .i64, .sh, TC.i (x.2.2)⟩], ⟨0, 0⟩⟩]
def qg_3_out : qg_3_ω → Ex × List Slot := (fun x => (.exit 0, [Slot.none, ⟨.val false [⟨.slice 2, .own true, TC.l x⟩], ⟨0, 0⟩⟩]))
def qg_lo3 : List Slot → Option (Told (Ex × List Slot)) := fun s => match s with
  | [⟨.val false [⟨.int .i64, .sh, TC.i q⟩], ⟨0, 0⟩⟩, ⟨.val false [⟨.slice 2, .own true, TC.l X⟩], ⟨0, 0⟩⟩, ⟨.val false [⟨.int .i64, .sh, TC.i i⟩], ⟨0, 0⟩⟩] => some (((qg_3_fin q X i)).map qg_3_out)
  | _ => .none
def qg_lo : LoopTeller := fun r s => bif Nat.beq r 3 then qg_lo3 s else .none
theorem qg_3_r (q : Int) (X : LL) (i : Int) (fuel : Nat) : rounds (rnd tab FT D12 live 105 qg_lo 0 3) leave (fuel + 1) (qg_3_sl (q, X, i)) = ((qg_3_step q X i)).run (goOn (fun s => rounds (rnd tab FT D12 live 105 qg_lo 0 3) leave fuel (qg_3_sl s)) fun w => some (qg_3_out w)) := by kernel_rfl
theorem qg_3_h (q : Int) (X : LL) (i : Int) (ow : qg_3_ω) : ((qg_3_fin q X i)).val = some ow → ∃ fuel, loopN qg_3_st fuel (q, X, i) = some ow := by
  intro h
  refine auto_leaf (R := coordsV (List.replicate X.length [TC.i (16 : Int)]) q) (fun ho => ?_) h
  obtain ⟨hX, rfl, hlen⟩ := is_iff.1 ho
  generalize X.length = n at hX hlen ⊢
  obtain ⟨A, hA16, hAl⟩ : ∃ A : LL, A = List.replicate n [TC.i (16 : Int)] ∧ n = A.length := ⟨_, rfl, by simp⟩
  rw [← hA16]
  subst hAl
  subst hX
  have hd : ∀ j, j < A.length → dimD A j = 16 := fun j hj => by
    have e : A.getD j [] = [TC.i (16 : Int)] := by rw [hA16, List.getD_eq_getElem?_getD, List.getElem?_replicate, if_pos hj]; rfl
    show (nth (A.getD j []) 0).int = 16
    rw [e]; rfl
  have key := loopN_run (step := qg_3_st) (N := A.length) (fun k => (idxD A.length (dimD A) q k, crowR A q k, (A.length : Int) - 1 - (k : Int))) (w := coordsV A q) (fun k hk => ?_) ?_ A.length 0 (by omega)
  · refine ⟨_, Eq.trans (congrArg (loopN qg_3_st _) ?_) key⟩
    show (_, _, _) = (_, crowR A q 0, _)
    rw [← crowR_zero]
    simp [idxD]
  · have hi : (A.length : Int) - 1 - (k : Int) = ((A.length - 1 - k : Nat) : Int) := by omega
    have hr := hd (A.length - 1 - k) (by omega)
    show (qg_3_step (idxD A.length (dimD A) q k) (crowR A q k) ((A.length : Int) - 1 - (k : Int))).val = _
    rw [hi]
    unfold qg_3_step
    rw [← hr]
    refine Tr.t (by simp) (Tr.t (by rw [crowR_len]; constructor <;> omega) ?_)
    have hsp : splice (row (crowR A q k) ((A.length - 1 - k : Nat) : Int)) 0 [TC.i (Int.tmod (idxD A.length (dimD A) q k) (dimD A (A.length - 1 - k)))] = [TC.i (crdD A.length (dimD A) q (A.length - 1 - k))] := by
      have h1 : row (crowR A q k) ((A.length - 1 - k : Nat) : Int) = [TC.i (if A.length - k ≤ A.length - 1 - k then crdD A.length (dimD A) q (A.length - 1 - k) else 0)] := by
        rw [row_nat, List.getD_eq_getElem?_getD, crowR_at (by omega)]; rfl
      rw [h1]
      unfold crdD
      rw [show A.length - 1 - (A.length - 1 - k) = k from by omega]
      rfl
    rw [Tr.val_ok, hsp, Int.toNat_natCast, crowR_set hk, wrap64 (i := ((A.length - 1 - k : Nat) : Int) - 1) (by omega) (by omega)]
    show some (Sum.inl (_, _, _)) = some (Sum.inl (_, _, _))
    rw [show ((A.length - 1 - k : Nat) : Int) - 1 = (A.length : Int) - 1 - ((k + 1 : Nat) : Int) from by omega]
    rfl
  · show (qg_3_step (idxD A.length (dimD A) q A.length) (crowR A q A.length) ((A.length : Int) - 1 - (A.length : Int))).val = _
    unfold qg_3_step
    refine Tr.n (by first | (simp; done) | (simp; omega)) ?_
    rw [Tr.val_ok, crowR_all]
theorem qg_is3 : LoopIs tab FT D12 live 105 qg_lo 0 3 := by
  refine loop_told (sl := qg_3_sl) (step := qg_3_st) (out := qg_3_out) (lor := qg_lo3) (fin := fun x => (qg_3_fin (x.1) (x.2.1) (x.2.2))) (fun _ => rfl) ?_ (fun x n => qg_3_r x.1 x.2.1 x.2.2 n) (fun x ow => qg_3_h x.1 x.2.1 x.2.2 ow)
  intro s t h
  unfold qg_lo3 at h
  split at h
  · cases h; exact ⟨(_, _, _), rfl, rfl⟩
  · cases h
def qg_t (n q : Int) : Tr (LL) := (.ite (0 ≤ n ∧ n ≤ n ∧ n * 8 ≤ 140737488355328 ∧ n ≤ 140737488355328) (.ite ((qg_o3_1 q (List.replicate (n).toNat [TC.i (0 : Int)]) (IntKind.wrap .i64 (n - (1 : Int)))) = true) (.ok (qg_u3_1 q (List.replicate (n).toNat [TC.i (0 : Int)]) (IntKind.wrap .i64 (n - (1 : Int)))))
   .no)
  .no)
def qg_mk (p : LL) : Res := [(false, [⟨.slice 2, .own true, TC.l p⟩])]
def qg_c (n q : Int) : Bool := (is (0 ≤ n ∧ n ≤ n ∧ n * 8 ≤ 140737488355328 ∧ n ≤ 140737488355328) && ((qg_o3_1 q (List.replicate (n).toNat [TC.i (0 : Int)]) (IntKind.wrap .i64 (n - (1 : Int)))) && true))
def qg_v (n q : Int) : LL := (qg_u3_1 q (List.replicate (n).toNat [TC.i (0 : Int)]) (IntKind.wrap .i64 (n - (1 : Int))))
theorem qg_l (n q : Int) : (qg_c n q) = true → (qg_t n q).val = some (qg_v n q) := by
  unfold qg_t qg_v qg_c
  exact fun h => (Tr.gs h fun h => (Tr.gb h fun h => rfl))
def qg_S : List Arg → Option (Bool × Res) := fun xs => match xs with
  | [(false, [(.int .i64, TC.i n)]), (false, [(.int .i64, TC.i q)])] => some ((qg_c n q), qg_mk (qg_v n q))
  | _ => .none
theorem qg_e (n q : Int) : runF tab FT D12 live 105 qg_lo [(false, [(.int .i64, TC.i n)]), (false, [(.int .i64, TC.i q)])] = (qg_t n q).run fun p => some (qg_mk p) := by kernel_rfl
theorem qg_s : ∀ xs r, qg_S xs = some (true, r) → runF tab FT D12 live 105 qg_lo xs = some r := by
  intro xs r h
  unfold qg_S at h
  split at h
  · obtain ⟨h1, rfl⟩ := sp h
    exact fun_told (qg_e ..) (qg_l _ _) h1
  · cases h
def D13 : Dt := also D12 105 qg_S
theorem d13 : DOk Go.Proofs.Try.prog tab D13 := d12.also mixed_ok tab_ok names_ok (fnLoops_one (by kernel_rfl) qg_is3) qg_s
theorem qg_cc {n : Int} {q : Int} (h0 : 0 ≤ n) (hm : n ≤ 1000) : (qg_c n q) = true := by
  unfold qg_c
  refine andT (is_true (by exact ⟨by omega, by omega, by omega, by omega⟩)) ?_
  refine andT (by exact is_true ⟨by simp, by rw [wrap64 (by omega) (by omega), List.length_replicate]; omega, by simp; omega⟩) ?_
  rfl
theorem qg_vv (n q : Int) : qg_v n q = coordsV (List.replicate n.toNat [TC.i (16 : Int)]) q := by
  show coordsV (List.replicate (List.replicate n.toNat [TC.i (0 : Int)]).length [TC.i (16 : Int)]) q = _
  rw [List.length_replicate]
def qbi_t (a0 a1 : Int) : Tr (Int) := (.ite ((decide (a0 < a1)) = true) (.ok a0)
  (.ok a1))
def qbi_mk (p : Int) : Res := [(false, [⟨.int .i64, .sh, TC.i p⟩])]
def qbi_c (a0 a1 : Int) : Bool := true
def qbi_v (a0 a1 : Int) : Int := (bif (decide (a0 < a1)) then a0 else a1)
theorem qbi_l (a0 a1 : Int) : (qbi_c a0 a1) = true → (qbi_t a0 a1).val = some (qbi_v a0 a1) := by
  intro h
  skip
  unfold qbi_t qbi_v
  exact (Tr.s rfl rfl)
def qbi_S : List Arg → Option (Bool × Res) := fun xs => match xs with
  | [(false, [(.int .i64, TC.i a0)]), (false, [(.int .i64, TC.i a1)])] => some (true, qbi_mk (qbi_v a0 a1))
  | _ => .none
theorem qbi_e (a0 a1 : Int) : runF tab FT D13 live 106 noLoops [(false, [(.int .i64, TC.i a0)]), (false, [(.int .i64, TC.i a1)])] = (qbi_t a0 a1).run fun p => some (qbi_mk p) := by kernel_rfl
theorem qbi_s : ∀ xs r, qbi_S xs = some (true, r) → runF tab FT D13 live 106 noLoops xs = some r := by
  intro xs r h
  unfold qbi_S at h
  split at h
  · obtain ⟨h1, rfl⟩ := sp h
    exact fun_told (qbi_e ..) (qbi_l _ _) rfl
  · cases h
def D14 : Dt := also D13 106 qbi_S
theorem d14 : DOk Go.Proofs.Try.prog tab D14 := d13.also mixed_ok tab_ok names_ok noLoops_ok qbi_s
abbrev qj_4_σ := LL × LL × LL × LL × LL × LL × LL × Int
abbrev qj_4_ω := (LL × LL × LL × LL)
def qj_4_step (D C Z0 Z1 P X Y : LL) (i : Int) : Tr (qj_4_σ ⊕ qj_4_ω) := (.ite ((decide (i < (D.length : Int))) = true) (.ite ((0 : Int) ≤ i ∧ i < (P.length : Int)) (.ite ((0 : Int) ≤ i ∧ i < (C.length : Int)) (.ite (roomFor (tab 2) (X ++ [[TC.i (IntKind.wrap .i64 ((nth (row P i) 0).int * (nth (row C i) 0).int))]]).length) (.ite ((0 : Int) ≤ i ∧ i < (D.length : Int)) (.ite ((0 : Int) ≤ i ∧ i < (P.length : Int)) (.ite ((0 : Int) ≤ i ∧ i < (C.length : Int)) (.ite ((0 : Int) ≤ i ∧ i < (C.length : Int)) (.ite (roomFor (tab 2) (Y ++ [[TC.i (qbi_v ((nth (row D i) 0).int) (IntKind.wrap .i64 ((IntKind.wrap .i64 ((nth (row P i) 0).int * (nth (row C i) 0).int)) + (nth (row C i) 0).int)))]]).length) (.ok (.inl (D, C, Z0, Z1, P, (X ++ [[TC.i (IntKind.wrap .i64 ((nth (row P i) 0).int * (nth (row C i) 0).int))]]), (Y ++ [[TC.i (qbi_v ((nth (row D i) 0).int) (IntKind.wrap .i64 ((IntKind.wrap .i64 ((nth (row P i) 0).int * (nth (row C i) 0).int)) + (nth (row C i) 0).int)))]]), (IntKind.wrap .i64 (i + (1 : Int))))))
          .no)
         .no)
        .no)
       .no)
      .no)
     .no)
    .no)
   .no)
  (.ok (.inr (Z0, Z1, X, Y))))
def qj_4_st : qj_4_σ → Tr (qj_4_σ ⊕ qj_4_ω) := fun x => (qj_4_step (x.1) (x.2.1) (x.2.2.1) (x.2.2.2.1) (x.2.2.2.2.1) (x.2.2.2.2.2.1) (x.2.2.2.2.2.2.1) (x.2.2.2.2.2.2.2))
def qj_o4_1 (D C Z0 Z1 P X Y : LL) (i : Int) : Bool := is (X = [] ∧ Y = [] ∧ i = 0 ∧ P.length = C.length ∧ P.length = D.length ∧ P.length ≤ 100000)
def qj_u4_1_2 (D C Z0 Z1 P X Y : LL) (i : Int) : LL := rowsF (loC C P) P.length
def qj_u4_1_3 (D C Z0 Z1 P X Y : LL) (i : Int) : LL := rowsF (hiC D C P) P.length
def qj_4_fin (D C Z0 Z1 P X Y : LL) (i : Int) : Told qj_4_ω := (.leaf (qj_o4_1 D C Z0 Z1 P X Y i) (Z0, Z1, (qj_u4_1_2 D C Z0 Z1 P X Y i), (qj_u4_1_3 D C Z0 Z1 P X Y i)))
def qj_4_sl (x : qj_4_σ) : List Slot := [⟨.val false [⟨.slice 2, .sh, TC.l (x.1)⟩], ⟨0, 0⟩⟩, ⟨.val false [⟨.slice 2, .sh, TC.l (x.2.1)⟩], ⟨0, 0⟩⟩, ⟨.bx 50 [⟨.slice 2, .own true, TC.l (x.2.2.1)⟩, ⟨.slice 2, .own true, TC.l (x.2.2.2.1)⟩], ⟨0, 0⟩⟩, ⟨.val false [⟨.slice 2, .own true, TC.l (x.2.2.2.2.1)⟩], ⟨0, 0⟩⟩, ⟨.bx 50 [⟨.slice 2, .own true, TC.l (x.2.2.2.2.2.1)⟩, ⟨.slice 2, .own true, TC.l (x.2.2.2.2.2.2.1)⟩], ⟨0, 0⟩⟩, ⟨.val false [⟨.int .i64, .sh, TC.i (x.2.2.2.2.2.2.2)⟩], ⟨0, 0⟩⟩]
def qj_4_out : qj_4_ω → Ex × List Slot := (fun x => (.exit 0, [⟨.bx 50 [⟨.slice 2, .own true, TC.l (x.1)⟩, ⟨.slice 2, .own true, TC.l (x.2.1)⟩], ⟨0, 0⟩⟩, ⟨.bx 50 [⟨.slice 2, .own true, TC.l (x.2.2.1)⟩, ⟨.slice 2, .own true, TC.l (x.2.2.2)⟩], ⟨0, 0⟩⟩]))
def qj_lo4 : List Slot → Option (Told (Ex × List Slot)) := fun s => match s with
  | [⟨.val false [⟨.slice 2, .sh, TC.l D⟩], ⟨0, 0⟩⟩, ⟨.val false [⟨.slice 2, .sh, TC.l C⟩], ⟨0, 0⟩⟩, ⟨.bx 50 [⟨.slice 2, .own true, TC.l Z0⟩, ⟨.slice 2, .own true, TC.l Z1⟩], ⟨0, 0⟩⟩, ⟨.val false [⟨.slice 2, .own true, TC.l P⟩], ⟨0, 0⟩⟩, ⟨.bx 50 [⟨.slice 2, .own true, TC.l X⟩, ⟨.slice 2, .own true, TC.l Y⟩], ⟨0, 0⟩⟩, ⟨.val false [⟨.int .i64, .sh, TC.i i⟩], ⟨0, 0⟩⟩] => some (((qj_4_fin D C Z0 Z1 P X Y i)).map qj_4_out)
  | _ => .none
def qj_lo : LoopTeller := fun r s => bif Nat.beq r 4 then qj_lo4 s else .none
theorem qj_4_r (D C Z0 Z1 P X Y : LL) (i : Int) (fuel : Nat) : rounds (rnd tab FT D14 live 56 qj_lo 0 4) leave (fuel + 1) (qj_4_sl (D, C, Z0, Z1, P, X, Y, i)) = ((qj_4_step D C Z0 Z1 P X Y i)).run (goOn (fun s => rounds (rnd tab FT D14 live 56 qj_lo 0 4) leave fuel (qj_4_sl s)) fun w => some (qj_4_out w)) := by kernel_rfl
theorem qj_4_h (D C Z0 Z1 P X Y : LL) (i : Int) (ow : qj_4_ω) : ((qj_4_fin D C Z0 Z1 P X Y i)).val = some ow → ∃ fuel, loopN qj_4_st fuel (D, C, Z0, Z1, P, X, Y, i) = some ow := by
  intro h
  refine auto_leaf (R := (Z0, Z1, rowsF (loC C P) P.length, rowsF (hiC D C P) P.length)) (fun ho => ?_) h
  obtain ⟨rfl, rfl, rfl, hPC, hPD, hlen⟩ := is_iff.1 ho
  have key := loopN_run (step := qj_4_st) (N := P.length) (fun k => (D, C, Z0, Z1, P, rowsF (loC C P) k, rowsF (hiC D C P) k, (k : Int))) (w := (Z0, Z1, rowsF (loC C P) P.length, rowsF (hiC D C P) P.length)) (fun k hk => ?_) ?_ P.length 0 (by omega)
  · exact ⟨_, Eq.trans (congrArg (loopN qj_4_st _) (by simp [rowsF])) key⟩
  · show (qj_4_step D C Z0 Z1 P (rowsF (loC C P) k) (rowsF (hiC D C P) k) (k : Int)).val = _
    unfold qj_4_step
    have hmin : ∀ x y : Int, qbi_v x y = if x < y then x else y := fun x y => by
      unfold qbi_v
      by_cases hxy : x < y
      · rw [if_pos hxy, decide_eq_true hxy]; rfl
      · rw [if_neg hxy, decide_eq_false hxy]; rfl
    rw [hmin]
    refine (Tr.t (by simp; omega) (Tr.t (by constructor <;> omega) (Tr.t (by constructor <;> omega) (Tr.t (by unfold roomFor; simp only [show (tab 2).bytes = 8 from rfl, List.length_append, List.length_singleton, rowsF_len]; omega) (Tr.t (by constructor <;> omega) (Tr.t (by constructor <;> omega) (Tr.t (by constructor <;> omega) (Tr.t (by constructor <;> omega) (Tr.t (by unfold roomFor; simp only [show (tab 2).bytes = 8 from rfl, List.length_append, List.length_singleton, rowsF_len]; omega) ?_)))))))))
    rw [Tr.val_ok, wrap64 (i := (k : Int) + 1) (by omega) (by omega)]
    show some (Sum.inl (_, _, _, _, _, rowsF (loC C P) k ++ [[TC.i (loC C P k)]], rowsF (hiC D C P) k ++ [[TC.i (hiC D C P k)]], _)) = _
    rw [rowsF_succ, rowsF_succ]
    rfl
  · show (qj_4_step D C Z0 Z1 P (rowsF (loC C P) P.length) (rowsF (hiC D C P) P.length) (P.length : Int)).val = _
    unfold qj_4_step
    refine Tr.n (by first | (simp; done) | (simp; omega)) ?_
    rfl
theorem qj_is4 : LoopIs tab FT D14 live 56 qj_lo 0 4 := by
  refine loop_told (sl := qj_4_sl) (step := qj_4_st) (out := qj_4_out) (lor := qj_lo4) (fin := fun x => (qj_4_fin (x.1) (x.2.1) (x.2.2.1) (x.2.2.2.1) (x.2.2.2.2.1) (x.2.2.2.2.2.1) (x.2.2.2.2.2.2.1) (x.2.2.2.2.2.2.2))) (fun _ => rfl) ?_ (fun x n => qj_4_r x.1 x.2.1 x.2.2.1 x.2.2.2.1 x.2.2.2.2.1 x.2.2.2.2.2.1 x.2.2.2.2.2.2.1 x.2.2.2.2.2.2.2 n) (fun x ow => qj_4_h x.1 x.2.1 x.2.2.1 x.2.2.2.1 x.2.2.2.2.1 x.2.2.2.2.2.1 x.2.2.2.2.2.2.1 x.2.2.2.2.2.2.2 ow)
  intro s t h
  unfold qj_lo4 at h
  split at h
  · cases h; exact ⟨(_, _, _, _, _, _, _, _), rfl, rfl⟩
  · cases h
def qj_t (D C : LL) (q : Int) : Tr (LL × LL) := (.ite ((qg_c (D.length : Int) q) = true) (.ite ((qj_o4_1 D C [] [] (qg_v (D.length : Int) q) [] [] (0 : Int)) = true) (.ok ((qj_u4_1_2 D C [] [] (qg_v (D.length : Int) q) [] [] (0 : Int)), (qj_u4_1_3 D C [] [] (qg_v (D.length : Int) q) [] [] (0 : Int))))
   .no)
  .no)
def qj_mk (p : LL × LL) : Res := [(true, [⟨.slice 2, .own true, TC.l (p.1)⟩, ⟨.slice 2, .own true, TC.l (p.2)⟩])]
def qj_c (D C : LL) (q : Int) : Bool := ((qg_c (D.length : Int) q) && ((qj_o4_1 D C [] [] (qg_v (D.length : Int) q) [] [] (0 : Int)) && true))
def qj_v (D C : LL) (q : Int) : LL × LL := ((qj_u4_1_2 D C [] [] (qg_v (D.length : Int) q) [] [] (0 : Int)), (qj_u4_1_3 D C [] [] (qg_v (D.length : Int) q) [] [] (0 : Int)))
theorem qj_l (D C : LL) (q : Int) : (qj_c D C q) = true → (qj_t D C q).val = some (qj_v D C q) := by
  unfold qj_t qj_v qj_c
  exact fun h => (Tr.gb h fun h => (Tr.gb h fun h => rfl))
def qj_S : List Arg → Option (Bool × Res) := fun xs => match xs with
  | [(false, [(.slice 2, TC.l D)]), (false, [(.slice 2, TC.l C)]), (false, [(.int .i64, TC.i q)])] => some ((qj_c D C q), qj_mk (qj_v D C q))
  | _ => .none
theorem qj_e (D C : LL) (q : Int) : runF tab FT D14 live 56 qj_lo [(false, [(.slice 2, TC.l D)]), (false, [(.slice 2, TC.l C)]), (false, [(.int .i64, TC.i q)])] = (qj_t D C q).run fun p => some (qj_mk p) := by kernel_rfl
theorem qj_s : ∀ xs r, qj_S xs = some (true, r) → runF tab FT D14 live 56 qj_lo xs = some r := by
  intro xs r h
  unfold qj_S at h
  split at h
  · obtain ⟨h1, rfl⟩ := sp h
    exact fun_told (qj_e ..) (qj_l _ _ _) h1
  · cases h
def D15 : Dt := also D14 56 qj_S
theorem d15 : DOk Go.Proofs.Try.prog tab D15 := d14.also mixed_ok tab_ok names_ok (fnLoops_one (by kernel_rfl) qj_is4) qj_s
theorem qj_cc {D : LL} {C : LL} {q : Int} (hl : D.length ≤ 3) (hc : D.length = C.length) : (qj_c D C q) = true := by
  unfold qj_c
  refine andT (by exact qg_cc (by omega) (by omega)) ?_
  refine andT (by rw [qg_vv]; exact is_true ⟨rfl, rfl, rfl, by rw [coordsV_len, List.length_replicate]; omega, by rw [coordsV_len, List.length_replicate]; omega, by rw [coordsV_len, List.length_replicate]; omega⟩) ?_
  rfl
theorem qj_vv (D C : LL) (q : Int) : qj_v D C q = boxP D C (coordsV (List.replicate D.length [TC.i (16 : Int)]) q) := by
  show boxP D C (qg_v (D.length : Int) q) = _
  rw [qg_vv]
  rfl
def qc_f4 (D T : LL) (i : Int) : (Unit) ⊕ ((Unit) ⊕ (Unit)) := (bif (!(qbj_v ((nth (row T i) 0).int) (0 : Int) (IntKind.wrap .i64 ((nth (row D i) 0).int - (1 : Int))))) then (.inr (.inl ())) else (.inl ()))
def qc_e4 (D T : LL) : (Unit) ⊕ (Unit) := .inr ()
def qc_R4 (D T : LL) (i : Int) : (Unit) ⊕ (Unit) := iter (fun i a => (qc_f4 D T (i : Int))) (fun a => (qc_e4 D T)) (T.length) 0 ()
abbrev qc_4_σ := LL × LL × Int
abbrev qc_4_ω := (Unit) ⊕ (Unit)
def qc_4_step (D T : LL) (i : Int) : Tr (qc_4_σ ⊕ qc_4_ω) := (.ite ((decide (i < (T.length : Int))) = true) (.ite ((0 : Int) ≤ i ∧ i < (T.length : Int)) (.ite ((0 : Int) ≤ i ∧ i < (D.length : Int)) (.ite ((!(qbj_v ((nth (row T i) 0).int) (0 : Int) (IntKind.wrap .i64 ((nth (row D i) 0).int - (1 : Int))))) = true) (.ok (.inr (.inl ())))
     (.ok (.inl (D, T, (IntKind.wrap .i64 (i + (1 : Int)))))))
    .no)
   .no)
  (.ok (.inr (.inr ()))))
def qc_4_st : qc_4_σ → Tr (qc_4_σ ⊕ qc_4_ω) := fun x => (qc_4_step (x.1) (x.2.1) (x.2.2))
def qc_k4_1 (D T : LL) (i : Int) : Bool := sumIs (qc_R4 D T i)
def qc_o4_2 (D T : LL) (i : Int) : Bool := is (i = 0 ∧ Typed tab (.slice 2) (.l T) ∧ D.length = T.length)
def qc_o4_3 (D T : LL) (i : Int) : Bool := is (i = 0 ∧ Typed tab (.slice 2) (.l T) ∧ D.length = T.length)
def qc_4_fin (D T : LL) (i : Int) : Told qc_4_ω := (.br (qc_k4_1 D T i) (.leaf (qc_o4_2 D T i) (.inl ())) (.leaf (qc_o4_3 D T i) (.inr ())))
def qc_4_sl (x : qc_4_σ) : List Slot := [⟨.val false [⟨.slice 2, .sh, TC.l (x.1)⟩], ⟨0, 0⟩⟩, ⟨.val false [⟨.slice 2, .sh, TC.l (x.2.1)⟩], ⟨0, 0⟩⟩, ⟨.val false [⟨.int .i64, .sh, TC.i (x.2.2)⟩], ⟨0, 0⟩⟩]
def qc_4_out : qc_4_ω → Ex × List Slot := (Sum.elim (fun x => (.ret, [⟨.val false [⟨.bool, .sh, TC.b false⟩], ⟨0, 0⟩⟩])) (fun x => (.exit 0, [Slot.none])))
def qc_lo4 : List Slot → Option (Told (Ex × List Slot)) := fun s => match s with
  | [⟨.val false [⟨.slice 2, .sh, TC.l D⟩], ⟨0, 0⟩⟩, ⟨.val false [⟨.slice 2, .sh, TC.l T⟩], ⟨0, 0⟩⟩, ⟨.val false [⟨.int .i64, .sh, TC.i i⟩], ⟨0, 0⟩⟩] => some (((qc_4_fin D T i)).map qc_4_out)
  | _ => .none
def qc_lo : LoopTeller := fun r s => bif Nat.beq r 4 then qc_lo4 s else .none
theorem qc_4_r (D T : LL) (i : Int) (fuel : Nat) : rounds (rnd tab FT D15 live 59 qc_lo 0 4) leave (fuel + 1) (qc_4_sl (D, T, i)) = ((qc_4_step D T i)).run (goOn (fun s => rounds (rnd tab FT D15 live 59 qc_lo 0 4) leave fuel (qc_4_sl s)) fun w => some (qc_4_out w)) := by kernel_rfl
theorem qc_f4_eq (D T : LL) (i : Int) : qc_f4 D T i = bif insB D T i then Sum.inl () else Sum.inr (Sum.inl ()) := by
  unfold qc_f4
  rw [show qbj_v ((nth (row T i) 0).int) 0 (IntKind.wrap .i64 ((nth (row D i) 0).int - (1 : Int))) = insB D T i from rfl]
  generalize insB D T i = p0
  cases p0 <;> rfl
theorem qc_R4_eq (D T : LL)  : qc_R4 D T 0 = bif allI (fun i : Nat => insB D T (i : Int)) (T.length) then Sum.inr () else (Sum.inl ()) := by
  unfold qc_R4
  exact (iter_all (P := (fun i : Nat => insB D T (i : Int))) (g := fun _ a => a) (w := Sum.inl ()) fun j a _ => qc_f4_eq D T _)
theorem qc_4_h (D T : LL) (i : Int) (ow : qc_4_ω) : ((qc_4_fin D T i)).val = some ow → ∃ fuel, loopN qc_4_st fuel (D, T, i) = some ow := by
  refine auto_const (R := (qc_R4 D T i)) rfl (iter_onR (f := (fun i a => (qc_f4 D T (i : Int)))) (fin := (fun a => (qc_e4 D T))) (Q := endsAs () ()) (fun i a => by unfold qc_f4; exact (onR_bif rfl trivial)) (fun _ => rfl) _ _ _) ?_
  intro ho
  have ho : is (i = 0 ∧ Typed tab (.slice 2) (.l T) ∧ D.length = T.length) = true := ho.elim id id
  obtain ⟨rfl, ht, hl⟩ := is_iff.1 ho
  have hlen : T.length ≤ 140737488351232 := by have := typed_room ht; simp only [show (tab 2).bytes = 8 from rfl] at this; omega
  refine ⟨(T.length) + 1, ?_⟩
  refine iter_loop (step := qc_4_st) (T.length) (fun i a => (qc_f4 D T (i : Int))) (fun a => (qc_e4 D T)) (fun i a => (D, T, (i : Int))) (fun _ _ => True) trivial (fun i a hi hI => ⟨?_, fun _ _ => trivial⟩) (fun a hI => ?_)
  · show (qc_4_step D T (i : Int)).val = _
    unfold qc_4_step qc_f4
    skip
    refine Tr.t (by simp; omega) ?_
    exact (Tr.t (by first | omega | (constructor <;> omega)) (Tr.t (by first | omega | (constructor <;> omega)) (Tr.bf rfl (by rw [Tr.val_ok, wrap64 (i := (i : Int) + 1) (by omega) (by omega)]; rfl))))
  · show (qc_4_step D T (T.length : Int)).val = _
    refine Tr.n (by first | (simp; done) | (simp; omega) | omega) ?_
    rfl
theorem qc_is4 : LoopIs tab FT D15 live 59 qc_lo 0 4 := by
  refine loop_told (sl := qc_4_sl) (step := qc_4_st) (out := qc_4_out) (lor := qc_lo4) (fin := fun x => (qc_4_fin (x.1) (x.2.1) (x.2.2))) (fun _ => rfl) ?_ (fun x n => qc_4_r x.1 x.2.1 x.2.2 n) (fun x ow => qc_4_h x.1 x.2.1 x.2.2 ow)
  intro s t h
  unfold qc_lo4 at h
  split at h
  · cases h; exact ⟨(_, _, _), rfl, rfl⟩
  · cases h
def qc_t (D T : LL) : Tr (Bool) := (.ite ((!((T.length : Int) == (D.length : Int))) = true) (.ok false)
  (.ite ((qc_k4_1 D T (0 : Int)) = true) (.ite ((qc_o4_2 D T (0 : Int)) = true) (.ok false)
    .no)
   (.ite ((qc_o4_3 D T (0 : Int)) = true) (.ok true)
    .no)))
def qc_mk (p : Bool) : Res := [(false, [⟨.bool, .sh, TC.b p⟩])]
def qc_c (D T : LL) : Bool := (bif (!((T.length : Int) == (D.length : Int))) then true else (bif (qc_k4_1 D T (0 : Int)) then ((qc_o4_2 D T (0 : Int)) && true) else ((qc_o4_3 D T (0 : Int)) && true)))
def qc_v (D T : LL) : Bool := (bif (!((T.length : Int) == (D.length : Int))) then false else (bif (qc_k4_1 D T (0 : Int)) then false else true))
theorem qc_l (D T : LL) : (qc_c D T) = true → (qc_t D T).val = some (qc_v D T) := by
  unfold qc_t qc_v qc_c
  exact fun h => (Tr.ss h (fun h => rfl) (fun h => (Tr.ss h (fun h => (Tr.gb h fun h => rfl)) (fun h => (Tr.gb h fun h => rfl)))))
def qc_S : List Arg → Option (Bool × Res) := fun xs => match xs with
  | [(false, [(.slice 2, TC.l D)]), (false, [(.slice 2, TC.l T)])] => some ((qc_c D T), qc_mk (qc_v D T))
  | _ => .none
theorem qc_e (D T : LL) : runF tab FT D15 live 59 qc_lo [(false, [(.slice 2, TC.l D)]), (false, [(.slice 2, TC.l T)])] = (qc_t D T).run fun p => some (qc_mk p) := by kernel_rfl
theorem qc_s : ∀ xs r, qc_S xs = some (true, r) → runF tab FT D15 live 59 qc_lo xs = some r := by
  intro xs r h
  unfold qc_S at h
  split at h
  · obtain ⟨h1, rfl⟩ := sp h
    exact fun_told (qc_e ..) (qc_l _ _) h1
  · cases h
def D16 : Dt := also D15 59 qc_S
theorem d16 : DOk Go.Proofs.Try.prog tab D16 := d15.also mixed_ok tab_ok names_ok (fnLoops_one (by kernel_rfl) qc_is4) qc_s
theorem qc_cc {D : LL} {T : LL} (hT : Typed tab (.slice 2) (.l T)) : (qc_c D T) = true := by
  unfold qc_c
  refine bifT (fun b1 => ?_) (fun b1 => ?_)
  · skip
    rfl
  · skip
    refine bifT (fun b2 => ?_) (fun b2 => ?_)
    · skip
      refine andT (by exact is_true ⟨rfl, hT, lenEq b1⟩) ?_
      rfl
    · skip
      refine andT (by exact is_true ⟨rfl, hT, lenEq b1⟩) ?_
      rfl
theorem qc_vv (D T : LL) : qc_v D T = insideOk D T := by
  unfold qc_v qc_k4_1
  rw [qc_R4_eq]
  unfold insideOk
  cases ((T.length : Int) == (D.length : Int)) <;> cases allI (fun i : Nat => insB D T (i : Int)) T.length <;> rfl
abbrev qa_10_σ := LL × LL × LL × LL × LL × LL × Int × LL × Int
abbrev qa_10_ω := (LL × LL × LL × LL × LL × LL × Int × LL)
def qa_10_step (D F C X Lo Hi : LL) (n : Int) (T : LL) (i : Int) : Tr (qa_10_σ ⊕ qa_10_ω) := (.ite ((decide (i < (T.length : Int))) = true) (.ite ((0 : Int) ≤ i ∧ i < (T.length : Int)) (.ite ((0 : Int) ≤ i ∧ i < (Lo.length : Int)) (.ite ((0 : Int) ≤ i ∧ i < (T.length : Int)) (.ok (.inl (D, F, C, X, Lo, Hi, n, (T.set (i).toNat (splice (row T i) 0 [TC.i (IntKind.wrap .i64 ((nth (row T i) 0).int + (nth (row Lo i) 0).int))])), (IntKind.wrap .i64 (i + (1 : Int))))))
     .no)
    .no)
   .no)
  (.ok (.inr (D, F, C, X, Lo, Hi, n, T))))
def qa_10_st : qa_10_σ → Tr (qa_10_σ ⊕ qa_10_ω) := fun x => (qa_10_step (x.1) (x.2.1) (x.2.2.1) (x.2.2.2.1) (x.2.2.2.2.1) (x.2.2.2.2.2.1) (x.2.2.2.2.2.2.1) (x.2.2.2.2.2.2.2.1) (x.2.2.2.2.2.2.2.2))
def qa_o10_1 (D F C X Lo Hi : LL) (n : Int) (T : LL) (i : Int) : Bool := is (i = 0 ∧ T.length ≤ 3 ∧ T.length ≤ Lo.length ∧ T = rowsF (dimD T) T.length)
def qa_u10_1_7 (D F C X Lo Hi : LL) (n : Int) (T : LL) (i : Int) : LL := rowsF (fun j => IntKind.wrap .i64 (dimD T j + dimD Lo j)) T.length
def qa_10_fin (D F C X Lo Hi : LL) (n : Int) (T : LL) (i : Int) : Told qa_10_ω := (.leaf (qa_o10_1 D F C X Lo Hi n T i) (D, F, C, X, Lo, Hi, n, (qa_u10_1_7 D F C X Lo Hi n T i)))
def qa_10_sl (x : qa_10_σ) : List Slot := [⟨.val false [⟨.slice 2, .sh, TC.l (x.1)⟩], ⟨0, 0⟩⟩, ⟨.val false [⟨.slice 2, .sh, TC.l (x.2.1)⟩], ⟨0, 0⟩⟩, ⟨.val false [⟨.slice 2, .sh, TC.l (x.2.2.1)⟩], ⟨0, 0⟩⟩, ⟨.val false [⟨.slice 2, .own true, TC.l (x.2.2.2.1)⟩], ⟨0, 0⟩⟩, ⟨.bx 50 [⟨.slice 2, .own true, TC.l (x.2.2.2.2.1)⟩, ⟨.slice 2, .own true, TC.l (x.2.2.2.2.2.1)⟩], ⟨0, 0⟩⟩, ⟨.val false [⟨.int .i64, .sh, TC.i (x.2.2.2.2.2.2.1)⟩], ⟨0, 0⟩⟩, ⟨.val false [⟨.slice 2, .own true, TC.l (x.2.2.2.2.2.2.2.1)⟩], ⟨0, 0⟩⟩, ⟨.val false [⟨.int .i64, .sh, TC.i (x.2.2.2.2.2.2.2.2)⟩], ⟨0, 0⟩⟩]
def qa_10_out : qa_10_ω → Ex × List Slot := (fun x => (.exit 2, [⟨.val false [⟨.slice 2, .sh, TC.l (x.1)⟩], ⟨0, 0⟩⟩, ⟨.val false [⟨.slice 2, .sh, TC.l (x.2.1)⟩], ⟨0, 0⟩⟩, ⟨.val false [⟨.slice 2, .sh, TC.l (x.2.2.1)⟩], ⟨0, 0⟩⟩, Slot.none, ⟨.val false [⟨.slice 2, .own true, TC.l (x.2.2.2.1)⟩], ⟨0, 0⟩⟩, ⟨.bx 50 [⟨.slice 2, .own true, TC.l (x.2.2.2.2.1)⟩, ⟨.slice 2, .own true, TC.l (x.2.2.2.2.2.1)⟩], ⟨0, 0⟩⟩, ⟨.val false [⟨.int .i64, .sh, TC.i (x.2.2.2.2.2.2.1)⟩], ⟨0, 0⟩⟩, ⟨.val false [⟨.slice 2, .own true, TC.l (x.2.2.2.2.2.2.2)⟩], ⟨0, 0⟩⟩]))
def qa_lo10 : List Slot → Option (Told (Ex × List Slot)) := fun s => match s with
  | [⟨.val false [⟨.slice 2, .sh, TC.l D⟩], ⟨0, 0⟩⟩, ⟨.val false [⟨.slice 2, .sh, TC.l F⟩], ⟨0, 0⟩⟩, ⟨.val false [⟨.slice 2, .sh, TC.l C⟩], ⟨0, 0⟩⟩, ⟨.val false [⟨.slice 2, .own true, TC.l X⟩], ⟨0, 0⟩⟩, ⟨.bx 50 [⟨.slice 2, .own true, TC.l Lo⟩, ⟨.slice 2, .own true, TC.l Hi⟩], ⟨0, 0⟩⟩, ⟨.val false [⟨.int .i64, .sh, TC.i n⟩], ⟨0, 0⟩⟩, ⟨.val false [⟨.slice 2, .own true, TC.l T⟩], ⟨0, 0⟩⟩, ⟨.val false [⟨.int .i64, .sh, TC.i i⟩], ⟨0, 0⟩⟩] => some (((qa_10_fin D F C X Lo Hi n T i)).map qa_10_out)
  | _ => .none
abbrev qa_6_σ := LL × LL × LL × LL × LL × LL × Int
abbrev qa_6_ω := (LL)
def qa_6_step (D F C X Lo Hi : LL) (n : Int) : Tr (qa_6_σ ⊕ qa_6_ω) := (.ite ((qw_c C) = true) (.ite ((decide (n < (qw_v C))) = true) (.ite ((qs_c C n) = true) (.ite ((qa_o10_1 D F C X Lo Hi n (qs_v C n) (0 : Int)) = true) (.ite ((qc_c D (qa_u10_1_7 D F C X Lo Hi n (qs_v C n) (0 : Int))) = true) (.ite ((qc_v D (qa_u10_1_7 D F C X Lo Hi n (qs_v C n) (0 : Int))) = true) (.ite ((qc_c F (qa_u10_1_7 D F C X Lo Hi n (qs_v C n) (0 : Int))) = true) (.ite ((!(qc_v F (qa_u10_1_7 D F C X Lo Hi n (qs_v C n) (0 : Int)))) = true) (.ite (roomFor (tab 2) (X ++ [[TC.i n]]).length) (.ok (.inl (D, F, C, (X ++ [[TC.i n]]), Lo, Hi, (IntKind.wrap .i64 (n + (1 : Int))))))
          .no)
         (.ok (.inl (D, F, C, X, Lo, Hi, (IntKind.wrap .i64 (n + (1 : Int)))))))
        .no)
       (.ok (.inl (D, F, C, X, Lo, Hi, (IntKind.wrap .i64 (n + (1 : Int)))))))
      .no)
     .no)
    .no)
   (.ok (.inr X)))
  .no)
def qa_6_st : qa_6_σ → Tr (qa_6_σ ⊕ qa_6_ω) := fun x => (qa_6_step (x.1) (x.2.1) (x.2.2.1) (x.2.2.2.1) (x.2.2.2.2.1) (x.2.2.2.2.2.1) (x.2.2.2.2.2.2))
def qa_o6_1 (D F C X Lo Hi : LL) (n : Int) : Bool := is (X = [] ∧ n = 0 ∧ Typed tab (.slice 2) (.l C) ∧ chunkOk D C = true ∧ chunkOk F C = true ∧ Lo.length = D.length ∧ (∀ j, j < D.length → 0 ≤ dimD Lo j ∧ dimD Lo j ≤ 1000))
def qa_u6_1 (D F C X Lo Hi : LL) (n : Int) : LL := elS D F C Lo (prodL C).toNat
def qa_6_fin (D F C X Lo Hi : LL) (n : Int) : Told qa_6_ω := (.leaf (qa_o6_1 D F C X Lo Hi n) (qa_u6_1 D F C X Lo Hi n))
def qa_6_sl (x : qa_6_σ) : List Slot := [⟨.val false [⟨.slice 2, .sh, TC.l (x.1)⟩], ⟨0, 0⟩⟩, ⟨.val false [⟨.slice 2, .sh, TC.l (x.2.1)⟩], ⟨0, 0⟩⟩, ⟨.val false [⟨.slice 2, .sh, TC.l (x.2.2.1)⟩], ⟨0, 0⟩⟩, ⟨.val false [⟨.slice 2, .own true, TC.l (x.2.2.2.1)⟩], ⟨0, 0⟩⟩, ⟨.bx 50 [⟨.slice 2, .own true, TC.l (x.2.2.2.2.1)⟩, ⟨.slice 2, .own true, TC.l (x.2.2.2.2.2.1)⟩], ⟨0, 0⟩⟩, ⟨.val false [⟨.int .i64, .sh, TC.i (x.2.2.2.2.2.2)⟩], ⟨0, 0⟩⟩]
def qa_6_out : qa_6_ω → Ex × List Slot := (fun x => (.exit 0, [Slot.none, ⟨.val false [⟨.slice 2, .own true, TC.l x⟩], ⟨0, 0⟩⟩]))
def qa_lo6 : List Slot → Option (Told (Ex × List Slot)) := fun s => match s with
  | [⟨.val false [⟨.slice 2, .sh, TC.l D⟩], ⟨0, 0⟩⟩, ⟨.val false [⟨.slice 2, .sh, TC.l F⟩], ⟨0, 0⟩⟩, ⟨.val false [⟨.slice 2, .sh, TC.l C⟩], ⟨0, 0⟩⟩, ⟨.val false [⟨.slice 2, .own true, TC.l X⟩], ⟨0, 0⟩⟩, ⟨.bx 50 [⟨.slice 2, .own true, TC.l Lo⟩, ⟨.slice 2, .own true, TC.l Hi⟩], ⟨0, 0⟩⟩, ⟨.val false [⟨.int .i64, .sh, TC.i n⟩], ⟨0, 0⟩⟩] => some (((qa_6_fin D F C X Lo Hi n)).map qa_6_out)
  | _ => .none
def qa_lo : LoopTeller := fun r s => bif Nat.beq r 6 then qa_lo6 s else bif Nat.beq r 10 then qa_lo10 s else .none
theorem qa_10_r (D F C X Lo Hi : LL) (n : Int) (T : LL) (i : Int) (fuel : Nat) : rounds (rnd tab FT D16 live 21 qa_lo 1 10) leave (fuel + 1) (qa_10_sl (D, F, C, X, Lo, Hi, n, T, i)) = ((qa_10_step D F C X Lo Hi n T i)).run (goOn (fun s => rounds (rnd tab FT D16 live 21 qa_lo 1 10) leave fuel (qa_10_sl s)) fun w => some (qa_10_out w)) := by kernel_rfl
theorem qa_10_h (D F C X Lo Hi : LL) (n : Int) (T : LL) (i : Int) (ow : qa_10_ω) : ((qa_10_fin D F C X Lo Hi n T i)).val = some ow → ∃ fuel, loopN qa_10_st fuel (D, F, C, X, Lo, Hi, n, T, i) = some ow := by
  intro h
  refine auto_leaf (R := (D, F, C, X, Lo, Hi, n, rowsF (fun j => IntKind.wrap .i64 (dimD T j + dimD Lo j)) T.length)) (fun ho => ?_) h
  obtain ⟨rfl, h3, hl, hT⟩ := is_iff.1 ho
  have h0 : addF T Lo 0 = T := (rowsF_congr fun j hj => by rw [if_neg (by omega)]).trans hT.symm
  have key := loopN_run (step := qa_10_st) (N := T.length) (fun j => (D, F, C, X, Lo, Hi, n, addF T Lo j, (j : Int))) (w := (D, F, C, X, Lo, Hi, n, rowsF (fun j => IntKind.wrap .i64 (dimD T j + dimD Lo j)) T.length)) (fun j hj => ?_) ?_ T.length 0 (by omega)
  · refine ⟨_, Eq.trans (congrArg (loopN qa_10_st _) ?_) key⟩
    rw [h0]; rfl
  · show (qa_10_step D F C X Lo Hi n (addF T Lo j) (j : Int)).val = _
    unfold qa_10_step
    have hal := addF_len (T := T) (L := Lo) (k := j)
    refine Tr.t (by simp only [decide_eq_true_eq]; omega) (Tr.t (by constructor <;> omega) (Tr.t (by constructor <;> omega) (Tr.t (by constructor <;> omega) ?_)))
    rw [Tr.val_ok, wrap64 (i := (j : Int) + 1) (by omega) (by omega)]
    have hs := addF_step (T := T) (L := Lo) hj
    rw [Int.toNat_natCast]
    exact congrArg some (congrArg Sum.inl (by rw [← hs]; rfl))
  · show (qa_10_step D F C X Lo Hi n (addF T Lo T.length) (T.length : Int)).val = _
    unfold qa_10_step
    refine Tr.n (by rw [addF_len]; simp) ?_
    rw [Tr.val_ok, addF_all]
theorem qa_is10 : LoopIs tab FT D16 live 21 qa_lo 1 10 := by
  refine loop_told (sl := qa_10_sl) (step := qa_10_st) (out := qa_10_out) (lor := qa_lo10) (fin := fun x => (qa_10_fin (x.1) (x.2.1) (x.2.2.1) (x.2.2.2.1) (x.2.2.2.2.1) (x.2.2.2.2.2.1) (x.2.2.2.2.2.2.1) (x.2.2.2.2.2.2.2.1) (x.2.2.2.2.2.2.2.2))) (fun _ => rfl) ?_ (fun x n => qa_10_r x.1 x.2.1 x.2.2.1 x.2.2.2.1 x.2.2.2.2.1 x.2.2.2.2.2.1 x.2.2.2.2.2.2.1 x.2.2.2.2.2.2.2.1 x.2.2.2.2.2.2.2.2 n) (fun x ow => qa_10_h x.1 x.2.1 x.2.2.1 x.2.2.2.1 x.2.2.2.2.1 x.2.2.2.2.2.1 x.2.2.2.2.2.2.1 x.2.2.2.2.2.2.2.1 x.2.2.2.2.2.2.2.2 ow)
  intro s t h
  unfold qa_lo10 at h
  split at h
  · cases h; exact ⟨(_, _, _, _, _, _, _, _, _), rfl, rfl⟩
  · cases h
theorem qa_6_r (D F C X Lo Hi : LL) (n : Int) (fuel : Nat) : rounds (rnd tab FT D16 live 21 qa_lo 0 6) leave (fuel + 1) (qa_6_sl (D, F, C, X, Lo, Hi, n)) = ((qa_6_step D F C X Lo Hi n)).run (goOn (fun s => rounds (rnd tab FT D16 live 21 qa_lo 0 6) leave fuel (qa_6_sl s)) fun w => some (qa_6_out w)) := by kernel_rfl
theorem qa_6_h (D F C X Lo Hi : LL) (n : Int) (ow : qa_6_ω) : ((qa_6_fin D F C X Lo Hi n)).val = some ow → ∃ fuel, loopN qa_6_st fuel (D, F, C, X, Lo, Hi, n) = some ow := by
  intro h
  refine auto_leaf (R := elS D F C Lo (prodL C).toNat) (fun ho => ?_) h
  obtain ⟨rfl, rfl, hC, hk, hF, hLo, hlo⟩ := is_iff.1 ho
  have k := chunkOk_ck hk
  have kF := chunkOk_ck hF
  have hcc : ∀ j, j < C.length → 0 ≤ dimD C j ∧ dimD C j ≤ 40 := fun j hj => ⟨by have := k.cc j hj; omega, (k.cc j hj).2⟩
  have hcl : C.length ≤ 3 := by have := k.r3; have := k.len; omega
  have hp6 : prodL C ≤ 64000 := by rw [k.pc]; exact (prodN_le hcc hcl _ (Nat.le_refl _)).2
  have hp0 : 0 ≤ prodL C := by rw [k.pc]; exact (prodN_le hcc hcl _ (Nat.le_refl _)).1
  have hcnt : qw_v C = prodL C := rfl
  have hcc2 : qw_c C = true := is_true ⟨rfl, rfl, hC⟩
  obtain ⟨M, hM⟩ := Int.eq_ofNat_of_zero_le hp0
  have key := loopN_run (step := qa_6_st) (N := M) (fun j => (D, F, C, elS D F C Lo j, Lo, Hi, (j : Int))) (w := elS D F C Lo M) (fun j hj => ?_) ?_ M 0 (by omega)
  · rw [hM, Int.toNat_natCast]
    exact ⟨_, key⟩
  · show (qa_6_step D F C (elS D F C Lo j) Lo Hi (j : Int)).val = _
    unfold qa_6_step
    have hj' : (j : Int) < prodL C := by omega
    have hc : ∀ i, i < C.length → 0 ≤ crdD C.length (dimD C) (j : Int) i ∧ crdD C.length (dimD C) (j : Int) i < dimD C i := fun i hi => crd_lt (by omega) (by rw [← k.pc]; exact hj') (fun j hj => by have := k.cc j hj; omega) (fun m hm => k.hP.2.1 m (by have := k.len; omega)) hi
    have hl := elS_len (D := D) (F := F) (C := C) (B := Lo) (n := j)
    have eT : (qa_u10_1_7 D F C (elS D F C Lo j) Lo Hi (j : Int) (coordsV C (j : Int)) 0) = shR C Lo j := by
      show rowsF _ (coordsV C (j : Int)).length = _
      rw [coordsV_len]; rfl
    have hT : Typed tab (.slice 2) (.l (shR C Lo j)) := rowsF_ty2 (by omega) fun i hi => by
      have h1 := hc i hi
      have h2 := hcc i hi
      have h3 := hlo i (by have := k.len; omega)
      show _ ≤ IntKind.wrap .i64 (dimD (coordsV C (j : Int)) i + dimD Lo i) ∧ IntKind.wrap .i64 (dimD (coordsV C (j : Int)) i + dimD Lo i) ≤ _
      rw [coords_rows, rowsF_at hi, wrap64 (by omega) (by omega)]
      omega
    rw [show qs_v C (j : Int) = coordsV C (j : Int) from rfl, eT, qc_vv, qc_vv, hcnt]
    refine Tr.t hcc2 (Tr.t (by simp only [decide_eq_true_eq]; omega) (Tr.t (is_true ⟨hC, fun i hi => by have := k.cc i hi; have e : dimD C i = (nth (C.getD i []) 0).int := rfl; omega⟩) (Tr.t (is_true ⟨rfl, by rw [coordsV_len]; exact hcl, by rw [coordsV_len]; have := k.len; omega, by rw [coordsV_len, coords_rows]; exact (rowsF_congr fun i hi => rowsF_at hi).symm⟩) (Tr.t (qc_cc hT) ?_))))
    have hs := elS_succ (D := D) (F := F) (C := C) (B := Lo) (n := j)
    have hw : IntKind.wrap .i64 ((j : Int) + 1) = ((j + 1 : Nat) : Int) := by rw [wrap64 (by omega) (by omega)]; rfl
    rw [hw]
    unfold elT at hs
    cases h1 : insideOk D (shR C Lo j) with
    | false =>
      rw [h1, Bool.false_and, if_neg (by simp)] at hs
      refine Tr.n (by simp) ?_
      rw [hs]; rfl
    | true =>
      rw [h1, Bool.true_and] at hs
      refine Tr.t rfl (Tr.t (qc_cc hT) ?_)
      cases h2 : insideOk F (shR C Lo j) with
      | true =>
        rw [h2, if_neg (show ¬ (!true) = true by simp)] at hs
        refine Tr.n (by simp) ?_
        rw [hs]; rfl
      | false =>
        rw [h2, if_pos (show (!false) = true from rfl)] at hs
        refine Tr.t rfl (Tr.t (by unfold roomFor; simp only [show (tab 2).bytes = 8 from rfl, List.length_append, List.length_singleton]; omega) ?_)
        rw [hs]; rfl
  · show (qa_6_step D F C (elS D F C Lo M) Lo Hi (M : Int)).val = _
    unfold qa_6_step
    rw [hcnt, hM]
    refine Tr.t hcc2 (Tr.n (by simp) ?_)
    rfl
theorem qa_is6 : LoopIs tab FT D16 live 21 qa_lo 0 6 := by
  refine loop_told (sl := qa_6_sl) (step := qa_6_st) (out := qa_6_out) (lor := qa_lo6) (fin := fun x => (qa_6_fin (x.1) (x.2.1) (x.2.2.1) (x.2.2.2.1) (x.2.2.2.2.1) (x.2.2.2.2.2.1) (x.2.2.2.2.2.2))) (fun _ => rfl) ?_ (fun x n => qa_6_r x.1 x.2.1 x.2.2.1 x.2.2.2.1 x.2.2.2.2.1 x.2.2.2.2.2.1 x.2.2.2.2.2.2 n) (fun x ow => qa_6_h x.1 x.2.1 x.2.2.1 x.2.2.2.1 x.2.2.2.2.1 x.2.2.2.2.2.1 x.2.2.2.2.2.2 ow)
  intro s t h
  unfold qa_lo6 at h
  split at h
  · cases h; exact ⟨(_, _, _, _, _, _, _), rfl, rfl⟩
  · cases h
def qa_t (D F C : LL) (q : Int) : Tr (LL) := (.ite ((qbe_c D F C) = true) (.ite ((!(qbe_v D F C)) = true) (.ok ([]))
   (.ite ((qq_c D C q) = true) (.ite ((!(qq_v D C q)) = true) (.ok ([]))
     (.ite ((qj_c D C q) = true) (.ite ((qa_o6_1 D F C [] ((qj_v D C q).1) ((qj_v D C q).2) (0 : Int)) = true) (.ok (qa_u6_1 D F C [] ((qj_v D C q).1) ((qj_v D C q).2) (0 : Int)))
       .no)
      .no))
    .no))
  .no)
def qa_mk (p : LL) : Res := [(false, [⟨.slice 2, .own true, TC.l p⟩])]
def qa_c (D F C : LL) (q : Int) : Bool := ((qbe_c D F C) && (bif (!(qbe_v D F C)) then true else ((qq_c D C q) && (bif (!(qq_v D C q)) then true else ((qj_c D C q) && ((qa_o6_1 D F C [] ((qj_v D C q).1) ((qj_v D C q).2) (0 : Int)) && true))))))
def qa_v (D F C : LL) (q : Int) : LL := (bif (!(qbe_v D F C)) then [] else (bif (!(qq_v D C q)) then [] else (qa_u6_1 D F C [] ((qj_v D C q).1) ((qj_v D C q).2) (0 : Int))))
theorem qa_l (D F C : LL) (q : Int) : (qa_c D F C q) = true → (qa_t D F C q).val = some (qa_v D F C q) := by
  unfold qa_t qa_v qa_c
  exact fun h => (Tr.gb h fun h => (Tr.ss h (fun h => rfl) (fun h => (Tr.gb h fun h => (Tr.ss h (fun h => rfl) (fun h => (Tr.gb h fun h => (Tr.gb h fun h => rfl))))))))
def qa_S : List Arg → Option (Bool × Res) := fun xs => match xs with
  | [(false, [(.slice 2, TC.l D)]), (false, [(.slice 2, TC.l F)]), (false, [(.slice 2, TC.l C)]), (false, [(.int .i64, TC.i q)])] => some ((qa_c D F C q), qa_mk (qa_v D F C q))
  | _ => .none
theorem qa_e (D F C : LL) (q : Int) : runF tab FT D16 live 21 qa_lo [(false, [(.slice 2, TC.l D)]), (false, [(.slice 2, TC.l F)]), (false, [(.slice 2, TC.l C)]), (false, [(.int .i64, TC.i q)])] = (qa_t D F C q).run fun p => some (qa_mk p) := by kernel_rfl
end
end Go.Proofs.Ytkgjindjaaggkaa.V
