/- What the functions of FnExactChunkBox answer. No condition. -/
import Derived.Test.YtmdbccmbmcgclaaVFacts
namespace Go.Proofs.Ytmdbccmbmcgclaa.V
open Go
set_option maxRecDepth 100000
set_option linter.unusedVariables false
set_option linter.unusedSectionVars false
set_option linter.unusedSimpArgs false
set_option maxHeartbeats 2000000
abbrev LL := List (List TC)
abbrev BS := List UInt8
def inR (lo hi : Int) (x : List TC) : Bool := bif decide ((nth x 0).int ≥ lo) then decide ((nth x 0).int ≤ hi) else false
def mulR (n : Int) (x : List TC) : Int := IntKind.wrap .i64 (n * (nth x 0).int)
def prodL (A : LL) : Int := A.foldl mulR 1
def gridC (d c : List TC) : List TC := [.i (IntKind.wrap .i64 (Int.tdiv (IntKind.wrap .i64 ((IntKind.wrap .i64 ((nth d 0).int + (nth c 0).int)) - (1 : Int))) ((nth c 0).int)))]
def gridL (D C : LL) : LL := List.zipWith gridC D C
theorem lenEq {D C : LL} (h : (!((C.length : Int) == (D.length : Int))) = false) : D.length = C.length := by
  have h2 : ((C.length : Int) == (D.length : Int)) = true := by simpa using h
  have h3 := eq_of_beq h2
  omega
theorem nnF {b : Bool} (h : (!(!(!b))) = false) : b = true := by simpa using h
theorem gridL_at {D C : LL} {i : Nat} (hl : D.length = C.length) (hi : i < (gridL D C).length) : (gridL D C)[i] = gridC (D.getD i []) (C.getD i []) := by
  have h1 : i < D.length := by simp [gridL] at hi; omega
  have h2 : i < C.length := by omega
  rw [getD_at h1, getD_at h2]
  exact List.getElem_zipWith
theorem inR_1 {C : LL} (h : C.all (inR 1 40) = true) {i : Nat} (hi : i < C.length) : (nth (C.getD i []) 0).int ≠ 0 := by
  have h1 := (List.all_eq_true.1 h) (C.getD i []) (mem_getD hi)
  unfold inR at h1
  intro h0
  rw [h0] at h1
  cases h1
theorem gridL_len {D C : LL} (h : D.length ≤ 140737488351232) : (gridL D C).length ≤ 140737488351232 := by simp only [gridL, List.length_zipWith]; omega
theorem gridL_ty {e : TypeId} {D C : LL} (he : (tab e).cts = [.int .i64]) (h : Typed tab (.slice e) (.l D)) : Typed tab (.slice e) (.l (gridL D C)) := by
  have hm : ∀ x, x ∈ gridL D C → ∃ d c, x = gridC d c := by
    intro x hx
    obtain ⟨i, hi, rfl⟩ := List.getElem_of_mem hx
    exact ⟨_, _, List.getElem_zipWith⟩
  cases h with
  | slice _ _ h1 h2 h3 h4 =>
    have hl : (gridL D C).length ≤ D.length := by simp only [gridL, List.length_zipWith]; omega
    refine .slice _ _ (Nat.le_trans (Nat.mul_le_mul_right _ hl) h1) (Nat.le_trans hl h2) (fun x hx => ?_) (fun x hx k hk => ?_)
    · obtain ⟨d, c, rfl⟩ := hm x hx
      rw [he]; rfl
    · obtain ⟨d, c, rfl⟩ := hm x hx
      rw [he] at hk ⊢
      match k, hk with
      | 0, _ => exact .int _ _ (wrap_wf _)
def dimsOk (D : LL) : Bool := decide ((D.length : Int) ≤ 3) && D.all (inR 0 40) && decide (prodL D ≤ 600)
def chunkOk (D C : LL) : Bool := dimsOk D && ((C.length : Int) == (D.length : Int)) && C.all (inR 1 40) && decide (prodL C ≤ 64) && (gridL D C).all (inR 0 16) && decide (prodL (gridL D C) ≤ 256)
theorem dimsOk_all {D : LL} (h : dimsOk D = true) : D.all (inR 0 40) = true := by
  unfold dimsOk at h
  simp only [Bool.and_eq_true] at h
  exact h.1.2
def le16 (x : List TC) : Bool := !(decide ((nth x 0).int > 16))
theorem inR_iff {lo hi : Int} {x : List TC} : inR lo hi x = true ↔ lo ≤ (nth x 0).int ∧ (nth x 0).int ≤ hi := by
  unfold inR
  by_cases h : lo ≤ (nth x 0).int <;> simp [h]
theorem gridC_val {d c : List TC} (hd : inR 0 40 d = true) (hc : inR 1 40 c = true) : (nth (gridC d c) 0).int = Int.tdiv ((nth d 0).int + (nth c 0).int - 1) ((nth c 0).int) ∧ 0 ≤ (nth (gridC d c) 0).int := by
  rw [inR_iff] at hd hc
  have h0 : 0 ≤ Int.tdiv ((nth d 0).int + (nth c 0).int - 1) ((nth c 0).int) := Int.tdiv_nonneg (by omega) (by omega)
  have h1 : Int.tdiv ((nth d 0).int + (nth c 0).int - 1) ((nth c 0).int) ≤ (nth d 0).int + (nth c 0).int - 1 := Int.tdiv_le_self _ (by omega)
  have e : (nth (gridC d c) 0).int = Int.tdiv ((nth d 0).int + (nth c 0).int - 1) ((nth c 0).int) := by
    show IntKind.wrap .i64 (Int.tdiv (IntKind.wrap .i64 ((IntKind.wrap .i64 ((nth d 0).int + (nth c 0).int)) - (1 : Int))) ((nth c 0).int)) = _
    rw [wrap64 (i := (nth d 0).int + (nth c 0).int) (by omega) (by omega), wrap64 (i := (nth d 0).int + (nth c 0).int - 1) (by omega) (by omega), wrap64 (by omega) (by omega)]
  rw [e]
  exact ⟨rfl, h0⟩
theorem grid_all {D C : LL} (hd : D.all (inR 0 40) = true) (hc : C.all (inR 1 40) = true) : (gridL D C).all le16 = (gridL D C).all (inR 0 16) := by
  rw [Bool.eq_iff_iff, List.all_eq_true, List.all_eq_true]
  refine forall_congr' fun x => forall_congr' fun hx => ?_
  obtain ⟨i, hi, rfl⟩ := List.getElem_of_mem hx
  have h1 : i < D.length := by simp [gridL] at hi; omega
  have h2 : i < C.length := by simp [gridL] at hi; omega
  have hg : (gridL D C)[i] = gridC D[i] C[i] := List.getElem_zipWith
  rw [hg]
  have h0 := (gridC_val (List.all_eq_true.1 hd _ (List.getElem_mem h1)) (List.all_eq_true.1 hc _ (List.getElem_mem h2))).2
  rw [inR_iff]
  unfold le16
  simp
  omega
abbrev dimD (A : LL) : Nat → Int := fun j => (nth (A.getD j []) 0).int
noncomputable def crowR (A : LL) (x : Int) (k : Nat) : LL := (List.range A.length).map fun j => [TC.i (if A.length - k ≤ j then crdD A.length (dimD A) x j else 0)]
theorem crowR_len {A : LL} {x : Int} {k : Nat} : (crowR A x k).length = A.length := by simp [crowR]
theorem crowR_at {A : LL} {x : Int} {k j : Nat} (h : j < A.length) : (crowR A x k)[j]? = some [TC.i (if A.length - k ≤ j then crdD A.length (dimD A) x j else 0)] := by
  unfold crowR
  rw [List.getElem?_map, List.getElem?_range h]; rfl
theorem crowR_set {A : LL} {x : Int} {k : Nat} (h : k < A.length) : (crowR A x k).set (A.length - 1 - k) [TC.i (crdD A.length (dimD A) x (A.length - 1 - k))] = crowR A x (k + 1) := by
  refine List.ext_getElem (by simp [crowR_len]) fun j h1 h2 => ?_
  have hj : j < A.length := by rw [crowR_len] at h2; exact h2
  have a1 := crowR_at (x := x) (k := k) hj
  have a2 := crowR_at (x := x) (k := k + 1) hj
  rw [List.getElem?_eq_getElem (by rw [crowR_len]; exact hj)] at a1 a2
  rw [Option.some.inj a2, List.getElem_set]
  by_cases hc : A.length - 1 - k = j
  · rw [if_pos hc, if_pos (by omega), hc]
  · rw [if_neg hc, Option.some.inj a1]
    by_cases h3 : A.length - k ≤ j
    · rw [if_pos h3, if_pos (by omega)]
    · rw [if_neg h3, if_neg (by omega)]
theorem crowR_zero {A : LL} {x : Int} : List.replicate A.length [TC.i (0 : Int)] = crowR A x 0 := by
  refine List.ext_getElem (by simp [crowR_len]) fun j h1 h2 => ?_
  have hj : j < A.length := by rw [crowR_len] at h2; exact h2
  have a1 := crowR_at (x := x) (k := 0) hj
  rw [List.getElem?_eq_getElem (by rw [crowR_len]; exact hj)] at a1
  rw [Option.some.inj a1, List.getElem_replicate, if_neg (by omega)]
theorem crowR_all {A : LL} {x : Int} : crowR A x A.length = coordsV A x := by
  unfold crowR coordsV
  refine List.map_congr_left fun j hj => ?_
  rw [if_pos (by omega)]
theorem chunkOk_parts {D C : LL} (h : chunkOk D C = true) : D.length = C.length ∧ C.all (inR 1 40) = true ∧ dimsOk D = true := by
  unfold chunkOk at h
  simp only [Bool.and_eq_true, beq_iff_eq] at h
  obtain ⟨⟨⟨⟨⟨h1, h2⟩, h3⟩, _⟩, _⟩, _⟩ := h
  exact ⟨by omega, h3, h1⟩
def chunkCount (D C : LL) : Int := bif chunkOk D C then prodL (gridL D C) else -1
def insB (D T : LL) (i : Int) : Bool := bif decide ((nth (row T i) 0).int ≥ 0) then decide ((nth (row T i) 0).int ≤ IntKind.wrap .i64 ((nth (row D i) 0).int - (1 : Int))) else false
def insideOk (D T : LL) : Bool := ((T.length : Int) == (D.length : Int)) && allI (fun i : Nat => insB D T (i : Int)) T.length
def keyL (A : LL) : Int := foldI (fun i n => IntKind.wrap .i64 ((IntKind.wrap .i64 (n * 16)) + (nth (row A (i : Int)) 0).int)) A.length 0
def indexN (D T : LL) (k : Nat) : Int := foldI (fun i n => IntKind.wrap .i64 ((IntKind.wrap .i64 (n * (nth (row D (i : Int)) 0).int)) + (nth (row T (i : Int)) 0).int)) k 0
def divStep (C T : LL) (i : Nat) (a : LL × LL) : LL × LL := (a.1 ++ [[TC.i (IntKind.wrap .i64 (Int.tdiv ((nth (row T (i : Int)) 0).int) ((nth (row C (i : Int)) 0).int)))]], a.2 ++ [[TC.i (Int.tmod ((nth (row T (i : Int)) 0).int) ((nth (row C (i : Int)) 0).int))]])
def divs (C T : LL) (n : Nat) : LL × LL := foldI (divStep C T) n ([], [])
theorem divs_len {C T : LL} : ∀ {n : Nat}, (divs C T n).1.length = n ∧ (divs C T n).2.length = n
  | 0 => ⟨rfl, rfl⟩
  | n + 1 => by
    obtain ⟨h1, h2⟩ := divs_len (C := C) (T := T) (n := n)
    unfold divs at h1 h2 ⊢
    rw [foldI_succ]
    unfold divStep at h1 h2 ⊢
    simp only [List.length_append, List.length_singleton]
    omega
def gridV (D C : LL) : LL := bif chunkOk D C then gridL D C else []
theorem nil_ty {e : TypeId} : Typed tab (.slice e) (.l []) := .slice _ _ (by simp) (by simp) (fun _ h => by cases h) (fun _ h => by cases h)
theorem gridV_ty {e : TypeId} {D C : LL} (he : (tab e).cts = [.int .i64]) (h : Typed tab (.slice e) (.l D)) : Typed tab (.slice e) (.l (gridV D C)) := by
  unfold gridV
  cases chunkOk D C with
  | true => exact gridL_ty he h
  | false => exact nil_ty
noncomputable def keysL (G : LL) (n : Nat) : LL := (List.range n).map fun i : Nat => [TC.i (keyL (coordsV G (i : Int)))]
theorem keysL_len {G : LL} {n : Nat} : (keysL G n).length = n := by simp [keysL]
theorem keysL_succ {G : LL} {n : Nat} : keysL G n ++ [[TC.i (keyL (coordsV G (n : Int)))]] = keysL G (n + 1) := by simp [keysL, List.range_succ]
theorem mul_zero_fold : ∀ (A : LL), A.foldl mulR 0 = 0
  | [] => rfl
  | x :: A => by
    show A.foldl mulR (mulR 0 x) = 0
    have : mulR 0 x = 0 := by unfold mulR; rw [Int.zero_mul]; rfl
    rw [this]; exact mul_zero_fold A
theorem prod_pos {A : LL} (h : 0 < prodL A) : ∀ j : Nat, j < A.length → (nth (A.getD j []) 0).int ≠ 0 := by
  have key : ∀ (A : LL) (a : Int), A.foldl mulR a ≠ 0 → ∀ j : Nat, j < A.length → (nth (A.getD j []) 0).int ≠ 0 := by
    intro A
    induction A with
    | nil => intro a _ j hj; simp at hj
    | cons x A ih =>
      intro a ha j hj
      have ha : A.foldl mulR (mulR a x) ≠ 0 := ha
      cases j with
      | zero =>
        intro h0
        have h0 : (nth x 0).int = 0 := h0
        apply ha
        have : mulR a x = 0 := by unfold mulR; rw [h0, Int.mul_zero]; rfl
        rw [this]; exact mul_zero_fold A
      | succ j => exact ih _ ha j (by simpa using hj)
  exact key A 1 (by unfold prodL at h; omega)
theorem keys_num {D C : LL} (h : chunkOk D C = true) : prodL (gridL D C) ≤ 100000 := by
  unfold chunkOk at h
  simp only [Bool.and_eq_true, decide_eq_true_eq] at h
  omega
theorem keyL_wf (A : LL) : (Lit.int .i64 (keyL A)).wf = true := by
  unfold keyL
  cases A.length with
  | zero => rfl
  | succ n => rw [foldI_succ]; exact wrap_wf _
theorem keysL_ty {e : TypeId} {G : LL} {n : Nat} (he : (tab e).cts = [.int .i64]) (h8 : (tab e).bytes = 8) (hn : n ≤ 100000) : Typed tab (.slice e) (.l (keysL G n)) := by
  refine .slice _ _ (by rw [keysL_len, h8]; simp only [reachBytes]; omega) (by rw [keysL_len]; simp only [maxLen]; omega) (fun r hr => ?_) (fun r hr k hk => ?_)
  · obtain ⟨i, _, rfl⟩ := List.mem_map.1 hr
    rw [he]; rfl
  · obtain ⟨i, _, rfl⟩ := List.mem_map.1 hr
    rw [he] at hk ⊢
    match k, hk with
    | 0, _ => exact .int _ _ (keyL_wf _)
noncomputable def keysV (D C : LL) : LL := bif chunkOk D C then keysL (gridL D C) (prodL (gridL D C)).toNat else []
theorem keysV_ty {e : TypeId} {D C : LL} (he : (tab e).cts = [.int .i64]) (h8 : (tab e).bytes = 8) : Typed tab (.slice e) (.l (keysV D C)) := by
  unfold keysV
  cases hk : chunkOk D C with
  | true => exact keysL_ty he h8 (by have := keys_num hk; omega)
  | false => exact nil_ty
theorem dig3 (a b c q : Int) (ha : 0 ≤ a ∧ a < 16) (hb : 0 ≤ b ∧ b < 16) (hc : 0 ≤ c ∧ c < 16) (hq : q = (a * 16 + b) * 16 + c) :
    Int.tmod q 16 = c ∧ Int.tdiv q 16 = a * 16 + b ∧ Int.tmod (a * 16 + b) 16 = b ∧ Int.tdiv (a * 16 + b) 16 = a ∧ Int.tmod a 16 = a := by
  have h1 : Int.tdiv q 16 = a * 16 + b := by rw [Int.tdiv_eq_ediv_of_nonneg (by omega)]; omega
  have h2 : Int.tdiv (a * 16 + b) 16 = a := by rw [Int.tdiv_eq_ediv_of_nonneg (by omega)]; omega
  rw [h1, h2, Int.tmod_eq_emod_of_nonneg (by omega), Int.tmod_eq_emod_of_nonneg (by omega), Int.tmod_eq_emod_of_nonneg (by omega)]
  omega
theorem place_key {A : LL} (hl : A.length ≤ 3) (h : ∀ x, x ∈ A → ∃ a : Int, x = [TC.i a] ∧ 0 ≤ a ∧ a < 16) : coordsV (List.replicate A.length [TC.i (16 : Int)]) (keyL A) = A := by
  match A, hl, h with
  | [], _, _ => rfl
  | [x], _, h =>
    obtain ⟨c, rfl, hc⟩ := h x (by simp)
    have hk : keyL [[TC.i c]] = c := by
      show IntKind.wrap .i64 ((IntKind.wrap .i64 ((0 : Int) * 16)) + c) = c
      rw [wrap64 (i := (0 : Int) * 16) (by omega) (by omega), wrap64 (by omega) (by omega)]; omega
    rw [hk]
    obtain ⟨d1, d2, d3, d4, d5⟩ := dig3 0 0 c c (by omega) (by omega) hc (by omega)
    show [[TC.i (Int.tmod c 16)]] = _
    rw [d1]
  | [x, y], _, h =>
    obtain ⟨b, rfl, hb⟩ := h x (by simp)
    obtain ⟨c, rfl, hc⟩ := h y (by simp)
    have hk : keyL [[TC.i b], [TC.i c]] = b * 16 + c := by
      show IntKind.wrap .i64 ((IntKind.wrap .i64 ((IntKind.wrap .i64 ((IntKind.wrap .i64 ((0 : Int) * 16)) + b)) * 16)) + c) = b * 16 + c
      rw [wrap64 (i := (0 : Int) * 16) (by omega) (by omega), wrap64 (i := (0 : Int) * 16 + b) (by omega) (by omega), wrap64 (i := ((0 : Int) * 16 + b) * 16) (by omega) (by omega), wrap64 (by omega) (by omega)]; omega
    rw [hk]
    obtain ⟨d1, d2, d3, d4, d5⟩ := dig3 0 b c (b * 16 + c) (by omega) hb hc (by omega)
    show [[TC.i (Int.tmod (IntKind.wrap .i64 (Int.tdiv (b * 16 + c) 16)) 16)], [TC.i (Int.tmod (b * 16 + c) 16)]] = _
    rw [d1, d2, wrap64 (by omega) (by omega), d3]
  | [x, y, z], _, h =>
    obtain ⟨a, rfl, ha⟩ := h x (by simp)
    obtain ⟨b, rfl, hb⟩ := h y (by simp)
    obtain ⟨c, rfl, hc⟩ := h z (by simp)
    have hk : keyL [[TC.i a], [TC.i b], [TC.i c]] = (a * 16 + b) * 16 + c := by
      show IntKind.wrap .i64 ((IntKind.wrap .i64 ((IntKind.wrap .i64 ((IntKind.wrap .i64 ((IntKind.wrap .i64 ((IntKind.wrap .i64 ((0 : Int) * 16)) + a)) * 16)) + b)) * 16)) + c) = (a * 16 + b) * 16 + c
      rw [wrap64 (i := (0 : Int) * 16) (by omega) (by omega), wrap64 (i := (0 : Int) * 16 + a) (by omega) (by omega), wrap64 (i := ((0 : Int) * 16 + a) * 16) (by omega) (by omega), wrap64 (i := ((0 : Int) * 16 + a) * 16 + b) (by omega) (by omega), wrap64 (i := (((0 : Int) * 16 + a) * 16 + b) * 16) (by omega) (by omega), wrap64 (by omega) (by omega)]; omega
    rw [hk]
    obtain ⟨d1, d2, d3, d4, d5⟩ := dig3 a b c ((a * 16 + b) * 16 + c) ha hb hc rfl
    show [[TC.i (Int.tmod (IntKind.wrap .i64 (Int.tdiv (IntKind.wrap .i64 (Int.tdiv ((a * 16 + b) * 16 + c) 16)) 16)) 16)], [TC.i (Int.tmod (IntKind.wrap .i64 (Int.tdiv ((a * 16 + b) * 16 + c) 16)) 16)], [TC.i (Int.tmod ((a * 16 + b) * 16 + c) 16)]] = _
    rw [d1, d2, wrap64 (i := a * 16 + b) (by omega) (by omega), d3, d4, wrap64 (by omega) (by omega), d5]
  | x :: y :: z :: t :: A, hl, _ => simp at hl
noncomputable def keysG (D C : LL) : LL := keysL (gridL D C) (prodL (gridL D C)).toNat
def hasK (A : LL) (n : Int) : Bool := !(A.all fun x => !((nth x 0).int == n))
noncomputable def lostV (D F C : LL) : LL := bif chunkOk D C && chunkOk F C then (keysG D C).filter (fun x => !(hasK (keysG F C) (nth x 0).int)) else []
theorem keysG_ty {e : TypeId} {D C : LL} (he : (tab e).cts = [.int .i64]) (h8 : (tab e).bytes = 8) (h : chunkOk D C = true) : Typed tab (.slice e) (.l (keysG D C)) := keysL_ty he h8 (by have := keys_num h; omega)
theorem lostV_ty {e : TypeId} {D F C : LL} (he : (tab e).cts = [.int .i64]) (h8 : (tab e).bytes = 8) : Typed tab (.slice e) (.l (lostV D F C)) := by
  unfold lostV
  cases hk : chunkOk D C && chunkOk F C with
  | true =>
    rw [Bool.and_eq_true] at hk
    exact typed_sub (keysG_ty he h8 hk.1) (fun _ hx => (List.mem_filter.1 hx).1) (List.length_filter_le _ _)
  | false => exact nil_ty
def loC (C P : LL) (j : Nat) : Int := IntKind.wrap .i64 ((nth (row P (j : Int)) 0).int * (nth (row C (j : Int)) 0).int)
def hiC (D C P : LL) (j : Nat) : Int := if (nth (row D (j : Int)) 0).int < IntKind.wrap .i64 (loC C P j + (nth (row C (j : Int)) 0).int) then (nth (row D (j : Int)) 0).int else IntKind.wrap .i64 (loC C P j + (nth (row C (j : Int)) 0).int)
def rowsF (f : Nat → Int) (n : Nat) : LL := (List.range n).map fun j => [TC.i (f j)]
def boxP (D C P : LL) : LL × LL := (rowsF (loC C P) P.length, rowsF (hiC D C P) P.length)
noncomputable def boxV (D C : LL) (q : Int) : LL × LL × Bool := bif chunkOk D C && hasK (keysG D C) q then ((boxP D C (coordsV (List.replicate D.length [TC.i (16 : Int)]) q)).1, (boxP D C (coordsV (List.replicate D.length [TC.i (16 : Int)]) q)).2, true) else ([], [], false)
theorem idxD_nonneg {len : Nat} {d : Nat → Int} {q : Int} (hq : 0 ≤ q) (hq2 : q ≤ 100000) (hd : ∀ j, j < len → 0 < d j) : ∀ k, k ≤ len → 0 ≤ idxD len d q k ∧ idxD len d q k ≤ 100000
  | 0, _ => ⟨hq, hq2⟩
  | k + 1, hk => by
    obtain ⟨h1, h2⟩ := idxD_nonneg hq hq2 hd k (by omega)
    have h3 := hd (len - 1 - k) (by omega)
    show 0 ≤ IntKind.wrap .i64 (Int.tdiv (idxD len d q k) (d (len - 1 - k))) ∧ _
    have h4 : 0 ≤ Int.tdiv (idxD len d q k) (d (len - 1 - k)) := Int.tdiv_nonneg h1 (by omega)
    have h5 : Int.tdiv (idxD len d q k) (d (len - 1 - k)) ≤ idxD len d q k := by
      rw [Int.tdiv_eq_ediv_of_nonneg h1]
      exact Int.ediv_le_self _ h1
    show 0 ≤ IntKind.wrap .i64 (Int.tdiv (idxD len d q k) (d (len - 1 - k))) ∧ IntKind.wrap .i64 (Int.tdiv (idxD len d q k) (d (len - 1 - k))) ≤ 100000
    rw [wrap64 (by omega) (by omega)]
    omega
theorem coords_digits {G : LL} {q : Int} (hq : 0 ≤ q) (hq2 : q ≤ 100000) (hd : ∀ j, j < G.length → 0 < dimD G j ∧ dimD G j ≤ 16) : ∀ x, x ∈ coordsV G q → ∃ a : Int, x = [TC.i a] ∧ 0 ≤ a ∧ a < 16 := by
  intro x hx
  unfold coordsV at hx
  obtain ⟨j, hj, rfl⟩ := List.mem_map.1 hx
  have hj := List.mem_range.1 hj
  refine ⟨_, rfl, ?_⟩
  have h0 := (idxD_nonneg (len := G.length) (d := dimD G) hq hq2 (fun j h => (hd j h).1) (G.length - 1 - j) (by omega)).1
  obtain ⟨h1, h2⟩ := hd j hj
  show 0 ≤ Int.tmod (idxD G.length (dimD G) q (G.length - 1 - j)) (dimD G j) ∧ Int.tmod (idxD G.length (dimD G) q (G.length - 1 - j)) (dimD G j) < 16
  have h3 := Int.tmod_nonneg (dimD G j) h0
  have h4 := Int.tmod_lt_of_pos (idxD G.length (dimD G) q (G.length - 1 - j)) h1
  omega
theorem place_of {G : LL} {i q : Int} (hl : G.length ≤ 3) (h0 : 0 ≤ i) (h2 : i ≤ 100000) (hd : ∀ j, j < G.length → 0 < dimD G j ∧ dimD G j ≤ 16) (hk : keyL (coordsV G i) = q) : coordsV (List.replicate G.length [TC.i (16 : Int)]) q = coordsV G i := by
  have := place_key (A := coordsV G i) (by rw [coordsV_len]; exact hl) (coords_digits h0 h2 hd)
  rw [coordsV_len, hk] at this
  exact this
theorem rowsF_len {f : Nat → Int} {n : Nat} : (rowsF f n).length = n := by simp [rowsF]
theorem rowsF_succ {f : Nat → Int} {n : Nat} : rowsF f n ++ [[TC.i (f n)]] = rowsF f (n + 1) := by simp [rowsF, List.range_succ]
theorem dims_rank {D : LL} (h : dimsOk D = true) : D.length ≤ 3 := by
  unfold dimsOk at h
  simp only [Bool.and_eq_true, decide_eq_true_eq] at h
  omega
theorem keys_all {G : LL} {n : Nat} {q : Int} : allI (fun j : Nat => !(keyL (coordsV G (j : Int)) == q)) n = (keysL G n).all (fun x => !((nth x 0).int == q)) := by
  unfold allI keysL
  rw [List.all_map]
  rfl
theorem keys_idx {G : LL} {n : Nat} {q : Int} (h : allI (fun j : Nat => !(keyL (coordsV G (j : Int)) == q)) n = false) : idxI (fun j : Nat => !(keyL (coordsV G (j : Int)) == q)) n < n ∧ keyL (coordsV G ((idxI (fun j : Nat => !(keyL (coordsV G (j : Int)) == q)) n : Nat) : Int)) = q := by
  unfold allI at h
  have hlt : (List.range n).findIdx (fun j : Nat => !(!(keyL (coordsV G (j : Int)) == q))) < (List.range n).length := by
    rw [List.findIdx_lt_length]
    obtain ⟨x, hx, hp⟩ := List.all_eq_false.1 h
    exact ⟨x, hx, by simpa using hp⟩
  have h2 := List.findIdx_getElem (p := fun j : Nat => !(!(keyL (coordsV G (j : Int)) == q))) (xs := List.range n) (w := hlt)
  unfold idxI
  rw [List.length_range] at hlt
  rw [List.getElem_range] at h2
  exact ⟨hlt, by simpa using h2⟩
theorem grid_dims {D C : LL} (hk : chunkOk D C = true) (hp : 0 < prodL (gridL D C)) : ∀ j, j < (gridL D C).length → 0 < dimD (gridL D C) j ∧ dimD (gridL D C) j ≤ 16 := by
  intro j hj
  have h1 := prod_pos hp j hj
  unfold chunkOk at hk
  simp only [Bool.and_eq_true] at hk
  have h2 := inR_iff.1 (List.all_eq_true.1 hk.1.2 ((gridL D C).getD j []) (mem_getD hj))
  have h3 : dimD (gridL D C) j = (nth ((gridL D C).getD j []) 0).int := rfl
  omega
theorem grid_rank {D C : LL} (hk : chunkOk D C = true) : (gridL D C).length = D.length := by
  have := (chunkOk_parts hk).1
  unfold gridL
  rw [List.length_zipWith]
  omega
theorem place_digits {D C : LL} {q : Int} (hk : chunkOk D C = true) (hh : hasK (keysG D C) q = true) : ∀ x, x ∈ coordsV (List.replicate D.length [TC.i (16 : Int)]) q → ∃ a : Int, x = [TC.i a] ∧ 0 ≤ a ∧ a < 16 := by
  have ha : allI (fun j : Nat => !(keyL (coordsV (gridL D C) (j : Int)) == q)) (prodL (gridL D C)).toNat = false := by
    rw [keys_all]
    unfold hasK keysG at hh
    simpa using hh
  obtain ⟨h1, h2⟩ := keys_idx ha
  have hn := keys_num hk
  have e := place_of (G := gridL D C) (i := ((idxI (fun j : Nat => !(keyL (coordsV (gridL D C) (j : Int)) == q)) (prodL (gridL D C)).toNat : Nat) : Int)) (q := q) (by rw [grid_rank hk]; exact dims_rank (chunkOk_parts hk).2.2) (by omega) (by omega) (grid_dims hk (by omega)) h2
  rw [grid_rank hk] at e
  rw [e]
  exact coords_digits (by omega) (by omega) (grid_dims hk (by omega))
theorem box_bounds {D C : LL} {q : Int} (hk : chunkOk D C = true) (hh : hasK (keysG D C) q = true) : ∀ j : Nat, j < (coordsV (List.replicate D.length [TC.i (16 : Int)]) q).length → 0 ≤ (nth (row (coordsV (List.replicate D.length [TC.i (16 : Int)]) q) (j : Int)) 0).int ∧ (nth (row (coordsV (List.replicate D.length [TC.i (16 : Int)]) q) (j : Int)) 0).int < 16 ∧ 1 ≤ (nth (row C (j : Int)) 0).int ∧ (nth (row C (j : Int)) 0).int ≤ 40 := by
  intro j hj
  obtain ⟨a, ha, h1, h2⟩ := place_digits hk hh (row (coordsV (List.replicate D.length [TC.i (16 : Int)]) q) (j : Int)) (by rw [row_nat]; exact mem_getD hj)
  have hp := chunkOk_parts hk
  rw [coordsV_len, List.length_replicate] at hj
  have h3 := inR_iff.1 (List.all_eq_true.1 hp.2.1 (row C (j : Int)) (by rw [row_nat]; exact mem_getD (by omega)))
  rw [ha]
  exact ⟨h1, h2, h3.1, h3.2⟩
theorem rowsF_ty {e : TypeId} {f : Nat → Int} {n : Nat} (he : (tab e).cts = [.int .i64]) (h8 : (tab e).bytes = 8) (hn : n ≤ 100000) (hf : ∀ j, j < n → (Lit.int .i64 (f j)).wf = true) : Typed tab (.slice e) (.l (rowsF f n)) := by
  refine .slice _ _ (by rw [rowsF_len, h8]; simp only [reachBytes]; omega) (by rw [rowsF_len]; simp only [maxLen]; omega) (fun r hr => ?_) (fun r hr k hk => ?_)
  · obtain ⟨i, _, rfl⟩ := List.mem_map.1 hr
    rw [he]; rfl
  · obtain ⟨i, hi, rfl⟩ := List.mem_map.1 hr
    rw [he] at hk ⊢
    match k, hk with
    | 0, _ => exact .int _ _ (hf i (List.mem_range.1 hi))
theorem boxV_ok {D C : LL} {q : Int} (hD : Typed tab (.slice 2) (.l D)) : Typed tab (.slice 2) (.l (boxV D C q).1) ∧ Typed tab (.slice 2) (.l (boxV D C q).2.1) ∧ (boxV D C q).1.length ≤ 3 ∧ (boxV D C q).2.1.length ≤ 3 := by
  unfold boxV
  cases hk : chunkOk D C && hasK (keysG D C) q with
  | false => exact ⟨nil_ty, nil_ty, by simp, by simp⟩
  | true =>
    rw [Bool.and_eq_true] at hk
    have hr := dims_rank (chunkOk_parts hk.1).2.2
    have hl : (coordsV (List.replicate D.length [TC.i (16 : Int)]) q).length = D.length := by rw [coordsV_len, List.length_replicate]
    generalize coordsV (List.replicate D.length [TC.i (16 : Int)]) q = P at hl
    refine ⟨rowsF_ty rfl rfl (by omega) (fun j hj => wrap_wf _), rowsF_ty rfl rfl (by omega) (fun j hj => ?_), by show (rowsF _ _).length ≤ 3; rw [rowsF_len]; omega, by show (rowsF _ _).length ≤ 3; rw [rowsF_len]; omega⟩
    unfold hiC
    split
    · have h1 : Typed tab (.int .i64) (nth (row D (j : Int)) 0) := (typed_elem hD (x := row D (j : Int)) (by rw [row_nat]; exact mem_getD (by omega))).2 0 (by decide)
      rw [← typed_int_eq h1] at h1
      cases h1 with
      | int _ _ h => exact h
    · exact wrap_wf _
def qa_g (x : List TC) : List TC := [TC.i ((nth x 0).int)]
def qa_z : List TC := [TC.i (0 : Int)]
abbrev qa_3_σ := LL × LL × Int
abbrev qa_3_ω := (LL)
noncomputable def qa_3_step (A X : LL) (i : Int) : Tr (qa_3_σ ⊕ qa_3_ω) := (.ite ((decide (i < (A.length : Int))) = true) (.ite ((0 : Int) ≤ i ∧ i < (A.length : Int)) (.ite ((0 : Int) ≤ i ∧ i < (X.length : Int)) (.ok (.inl (A, (X.set (i).toNat (splice (row X i) 0 [TC.i ((nth (row A i) 0).int)])), (IntKind.wrap .i64 (i + (1 : Int))))))
    .no)
   .no)
  (.ok (.inr X)))
noncomputable def qa_3_st : qa_3_σ → Tr (qa_3_σ ⊕ qa_3_ω) := fun x => (qa_3_step (x.1) (x.2.1) (x.2.2))
noncomputable def qa_o3_1 (A X : LL) (i : Int) : Bool := is (Typed tab (.slice 2) (.l A) ∧ X = List.replicate A.length qa_z ∧ i = 0)
noncomputable def qa_u3_1 (A X : LL) (i : Int) : LL := A.map qa_g
noncomputable def qa_3_fin (A X : LL) (i : Int) : Told qa_3_ω := (.leaf (qa_o3_1 A X i) (qa_u3_1 A X i))
def qa_3_sl (x : qa_3_σ) : List Slot := [⟨.val false [⟨.slice 2, .sh, TC.l (x.1)⟩], ⟨0, 0⟩⟩, ⟨.val false [⟨.slice 2, .own true, TC.l (x.2.1)⟩], ⟨0, 0⟩⟩, ⟨.val false [⟨.int .i64, .sh, TC.i (x.2.2)⟩], ⟨0, 0⟩⟩]
def qa_3_out : qa_3_ω → Ex × List Slot := (fun x => (.exit 0, [Slot.none, ⟨.val false [⟨.slice 2, .own true, TC.l x⟩], ⟨0, 0⟩⟩]))
noncomputable def qa_lo3 : List Slot → Option (Told (Ex × List Slot)) := fun s => match s with
  | [⟨.val false [⟨.slice 2, .sh, TC.l A⟩], ⟨0, 0⟩⟩, ⟨.val false [⟨.slice 2, .own true, TC.l X⟩], ⟨0, 0⟩⟩, ⟨.val false [⟨.int .i64, .sh, TC.i i⟩], ⟨0, 0⟩⟩] => some (((qa_3_fin A X i)).map qa_3_out)
  | _ => .none
noncomputable def qa_lo : LoopTeller := fun r s => bif Nat.beq r 3 then qa_lo3 s else .none
theorem qa_3_r (A X : LL) (i : Int) (fuel : Nat) : rounds (rnd tab FT D0 live 13 qa_lo 0 3) leave (fuel + 1) (qa_3_sl (A, X, i)) = ((qa_3_step A X i)).run (goOn (fun s => rounds (rnd tab FT D0 live 13 qa_lo 0 3) leave fuel (qa_3_sl s)) fun w => some (qa_3_out w)) := by kernel_rfl
theorem qa_3_h (A X : LL) (i : Int) (ow : qa_3_ω) : ((qa_3_fin A X i)).val = some ow → ∃ fuel, loopN qa_3_st fuel (A, X, i) = some ow := by
  intro h
  simp only [qa_3_fin, Told.val] at h
  split at h
  · rename_i ho
    obtain ⟨ht, rfl, rfl⟩ := is_iff.1 ho
    cases h
    have hlen : A.length ≤ 140737488351232 := by have := typed_room ht; simp only [show (tab 2).bytes = 8 from rfl] at this; omega
    have key := loopN_copy (step := qa_3_st) A (List.replicate A.length qa_z) qa_g (fun Y i => (A, Y, (i : Int))) (A.map qa_g) (by simp) (fun x hx i _ => by rw [(List.mem_replicate.1 hx).2]; exact Nat.le_refl 1) (fun Y i hi hl => ?_) ?_ A.length 0 (by omega)
    · rw [copied_zero] at key
      exact ⟨_, key⟩
    · skip
      show (qa_3_step A Y (i : Int)).val = _
      unfold qa_3_step
      refine Tr.t (by simp; omega) ?_
      refine Tr.t (by constructor <;> omega) ?_
      refine Tr.t (by constructor <;> omega) ?_
      repeat (refine Tr.t (by first | (apply is_true; and_intros <;> (first | rfl | assumption | (first | (apply is_true; and_intros <;> (first | rfl | assumption | (first | (apply is_true; and_intros <;> (first | rfl | assumption | (first | (apply is_true; and_intros <;> (first | rfl | assumption)))))))))))) ?_)
      rw [Tr.val_ok, wrap64 (i := (i : Int) + 1) (by omega) (by omega)]; rfl
    · show (qa_3_step A (A.map qa_g) (A.length : Int)).val = _
      refine Tr.n (by simp) ?_
      rfl
  · cases h
theorem qa_is3 : LoopIs tab FT D0 live 13 qa_lo 0 3 := by
  refine loop_told (sl := qa_3_sl) (step := qa_3_st) (out := qa_3_out) (lor := qa_lo3) (fin := fun x => (qa_3_fin (x.1) (x.2.1) (x.2.2))) (fun _ => rfl) ?_ (fun x n => qa_3_r x.1 x.2.1 x.2.2 n) (fun x ow => qa_3_h x.1 x.2.1 x.2.2 ow)
  intro s t h
  unfold qa_lo3 at h
  split at h
  · cases h; exact ⟨(_, _, _), rfl, rfl⟩
  · cases h
noncomputable def qa_t (A : LL) : Tr (LL) := (.ite (0 ≤ (A.length : Int) ∧ (A.length : Int) ≤ (A.length : Int) ∧ (A.length : Int) * 8 ≤ 140737488355328 ∧ (A.length : Int) ≤ 140737488355328) (.ite ((qa_o3_1 A (List.replicate ((A.length : Int)).toNat [TC.i (0 : Int)]) (0 : Int)) = true) (.ok (qa_u3_1 A (List.replicate ((A.length : Int)).toNat [TC.i (0 : Int)]) (0 : Int)))
   .no)
  .no)
def qa_mk (p : LL) : Res := [(false, [⟨.slice 2, .own true, TC.l p⟩])]
noncomputable def qa_c (A : LL) : Bool := is (Typed tab (.slice 2) (.l A))
noncomputable def qa_v (A : LL) : LL := A.map qa_g
theorem qa_l (A : LL) : (qa_c A) = true → (qa_t A).val = some (qa_v A) := by
  intro h
  have ht := is_iff.1 h
  have hb := typed_room ht
  simp only [show (tab 2).bytes = 8 from rfl] at hb
  unfold qa_t
  refine Tr.t (by omega) ?_
  refine Tr.t (is_true ⟨ht, by rfl, rfl⟩) ?_
  rfl
noncomputable def qa_S : List Arg → Option (Bool × Res) := fun xs => match xs with
  | [(false, [(.slice 2, TC.l A)])] => some ((qa_c A), qa_mk (qa_v A))
  | _ => .none
theorem qa_e (A : LL) : runF tab FT D0 live 13 qa_lo [(false, [(.slice 2, TC.l A)])] = (qa_t A).run fun p => some (qa_mk p) := by kernel_rfl
theorem qa_s : ∀ xs r, qa_S xs = some (true, r) → runF tab FT D0 live 13 qa_lo xs = some r := by
  intro xs r h
  unfold qa_S at h
  split at h
  · simp only [Option.some.injEq, Prod.mk.injEq] at h
    obtain ⟨h1, rfl⟩ := h
    exact fun_told (qa_e _) (qa_l _) h1
  · cases h
noncomputable def D1 : Dt := also D0 13 qa_S
theorem d1 : DOk Go.Proofs.Try.prog tab D1 := d0.also mixed_ok tab_ok names_ok (fnLoops_one (by kernel_rfl) qa_is3) qa_s
theorem qa_ty {A : LL} (h : Typed tab (.slice 2) (.l A)) : Typed tab (.slice 2) (.l (A.map qa_g)) := by
  refine typed_map h (by decide) fun x _ _ hx => ⟨rfl, fun k hk => ?_⟩
  match k, hk with
    | 0, _ => exact typed_i (hx 0 (by decide))
noncomputable def qbg_t (a0 a1 a2 : Int) : Tr (Bool) := (.ite ((decide (a0 ≥ a1)) = true) (.ok (decide (a0 ≤ a2)))
  (.ok false))
def qbg_mk (p : Bool) : Res := [(false, [⟨.bool, .sh, TC.b p⟩])]
noncomputable def qbg_c (a0 a1 a2 : Int) : Bool := true
noncomputable def qbg_v (a0 a1 a2 : Int) : Bool := (bif (decide (a0 ≥ a1)) then (decide (a0 ≤ a2)) else false)
theorem qbg_l (a0 a1 a2 : Int) : (qbg_c a0 a1 a2) = true → (qbg_t a0 a1 a2).val = some (qbg_v a0 a1 a2) := by
  intro h
  skip
  unfold qbg_t qbg_v
  exact (Tr.s rfl rfl)
noncomputable def qbg_S : List Arg → Option (Bool × Res) := fun xs => match xs with
  | [(false, [(.int .i64, TC.i a0)]), (false, [(.int .i64, TC.i a1)]), (false, [(.int .i64, TC.i a2)])] => some (true, qbg_mk (qbg_v a0 a1 a2))
  | _ => .none
theorem qbg_e (a0 a1 a2 : Int) : runF tab FT D1 live 87 noLoops [(false, [(.int .i64, TC.i a0)]), (false, [(.int .i64, TC.i a1)]), (false, [(.int .i64, TC.i a2)])] = (qbg_t a0 a1 a2).run fun p => some (qbg_mk p) := by kernel_rfl
theorem qbg_s : ∀ xs r, qbg_S xs = some (true, r) → runF tab FT D1 live 87 noLoops xs = some r := by
  intro xs r h
  unfold qbg_S at h
  split at h
  · simp only [Option.some.injEq, Prod.mk.injEq] at h
    obtain ⟨h1, rfl⟩ := h
    exact fun_told (qbg_e _ _ _) (qbg_l _ _ _) rfl
  · cases h
noncomputable def D2 : Dt := also D1 87 qbg_S
theorem d2 : DOk Go.Proofs.Try.prog tab D2 := d1.also mixed_ok tab_ok names_ok noLoops_ok qbg_s
abbrev qs_5_σ := LL × Int × Int
abbrev qs_5_ω := (Int) ⊕ (Int)
noncomputable def qs_5_step (A : LL) (n i : Int) : Tr (qs_5_σ ⊕ qs_5_ω) := (.ite ((decide (i < (A.length : Int))) = true) (.ite ((0 : Int) ≤ i ∧ i < (A.length : Int)) (.ite ((!(qbg_v ((nth (row A i) 0).int) (0 : Int) (40 : Int))) = true) (.ok (.inr (.inl n)))
    (.ite ((0 : Int) ≤ i ∧ i < (A.length : Int)) (.ok (.inl (A, (IntKind.wrap .i64 (n * (nth (row A i) 0).int)), (IntKind.wrap .i64 (i + (1 : Int))))))
     .no))
   .no)
  (.ok (.inr (.inr n))))
noncomputable def qs_5_st : qs_5_σ → Tr (qs_5_σ ⊕ qs_5_ω) := fun x => (qs_5_step (x.1) (x.2.1) (x.2.2))
noncomputable def qs_k5_1 (A : LL) (n i : Int) : Bool := A.all (inR 0 40)
noncomputable def qs_o5_2 (A : LL) (n i : Int) : Bool := is (i = 0 ∧ n = 1 ∧ Typed tab (.slice 2) (.l A))
noncomputable def qs_u5_2 (A : LL) (n i : Int) : Int := (A.foldl mulR (1 : Int))
noncomputable def qs_o5_3 (A : LL) (n i : Int) : Bool := is (i = 0 ∧ n = 1 ∧ Typed tab (.slice 2) (.l A))
noncomputable def qs_u5_3 (A : LL) (n i : Int) : Int := ((A.take (A.findIdx fun x => !(inR 0 40) x)).foldl mulR (1 : Int))
noncomputable def qs_5_fin (A : LL) (n i : Int) : Told qs_5_ω := (.br (qs_k5_1 A n i) (.leaf (qs_o5_2 A n i) (.inr (qs_u5_2 A n i))) (.leaf (qs_o5_3 A n i) (.inl (qs_u5_3 A n i))))
def qs_5_sl (x : qs_5_σ) : List Slot := [⟨.val false [⟨.slice 2, .sh, TC.l (x.1)⟩], ⟨0, 0⟩⟩, ⟨.val false [⟨.int .i64, .sh, TC.i (x.2.1)⟩], ⟨0, 0⟩⟩, ⟨.val false [⟨.int .i64, .sh, TC.i (x.2.2)⟩], ⟨0, 0⟩⟩]
def qs_5_out : qs_5_ω → Ex × List Slot := (Sum.elim (fun x => (.ret, [⟨.val false [⟨.bool, .sh, TC.b false⟩], ⟨0, 0⟩⟩, ⟨.val false [⟨.int .i64, .sh, TC.i x⟩], ⟨0, 0⟩⟩])) (fun x => (.exit 0, [Slot.none, ⟨.val false [⟨.int .i64, .sh, TC.i x⟩], ⟨0, 0⟩⟩])))
noncomputable def qs_lo5 : List Slot → Option (Told (Ex × List Slot)) := fun s => match s with
  | [⟨.val false [⟨.slice 2, .sh, TC.l A⟩], ⟨0, 0⟩⟩, ⟨.val false [⟨.int .i64, .sh, TC.i n⟩], ⟨0, 0⟩⟩, ⟨.val false [⟨.int .i64, .sh, TC.i i⟩], ⟨0, 0⟩⟩] => some (((qs_5_fin A n i)).map qs_5_out)
  | _ => .none
noncomputable def qs_lo : LoopTeller := fun r s => bif Nat.beq r 5 then qs_lo5 s else .none
theorem qs_5_r (A : LL) (n i : Int) (fuel : Nat) : rounds (rnd tab FT D2 live 86 qs_lo 0 5) leave (fuel + 1) (qs_5_sl (A, n, i)) = ((qs_5_step A n i)).run (goOn (fun s => rounds (rnd tab FT D2 live 86 qs_lo 0 5) leave fuel (qs_5_sl s)) fun w => some (qs_5_out w)) := by kernel_rfl
theorem qs_5_h (A : LL) (n i : Int) (ow : qs_5_ω) : ((qs_5_fin A n i)).val = some ow → ∃ fuel, loopN qs_5_st fuel (A, n, i) = some ow := by
  intro h
  have key : Typed tab (.slice 2) (.l A) → loopN qs_5_st (A.length + 1) (A, (1 : Int), (0 : Int)) = some (if A.all (inR 0 40) = true then (.inr (A.foldl mulR (1 : Int))) else (.inl ((A.take (A.findIdx fun x => !(inR 0 40) x)).foldl mulR (1 : Int)))) := by
    intro ht
    have hlen : A.length ≤ 140737488351232 := by have := typed_room ht; simp only [show (tab 2).bytes = 8 from rfl] at this; omega
    have key := loopN_scan (step := qs_5_st) A [] (inR 0 40) mulR (fun i a => (A, a, (i : Int))) (fun a => (.inr a)) (fun i a => (.inl a)) (fun i a hi => ?_) (fun a => ?_) A.length 0 (1 : Int) (by omega)
    · first | (rw [Nat.zero_add] at key; exact key) | exact key
    · skip
      show (qs_5_step A a (i : Int)).val = _
      unfold qs_5_step
      refine Tr.t (by simp; omega) ?_
      skip
      refine Tr.t (by first | omega | (constructor <;> omega)) ?_
      refine Tr.b (P := (inR 0 40) (A.getD i [])) (fun hP => ?_) (fun _ => rfl)
      refine Tr.t (by first | omega | (constructor <;> omega)) ?_
      rw [Tr.val_ok, wrap64 (i := (i : Int) + 1) (by omega) (by omega)]; rfl
    · show (qs_5_step A a (A.length : Int)).val = _
      refine Tr.n (by simp) ?_
      rfl
  simp only [qs_5_fin, Told.val] at h
  cases hk : A.all (inR 0 40) with
  | true =>
    rw [if_pos (show qs_k5_1 A n i = true from hk)] at h
    split at h
    · rename_i ho
      obtain ⟨rfl, rfl, ht⟩ := is_iff.1 ho
      cases h
      refine ⟨_, (key ht).trans ?_⟩
      rw [hk]; rfl
    · cases h
  | false =>
    rw [if_neg (show ¬qs_k5_1 A n i = true from by rw [show qs_k5_1 A n i = (A.all (inR 0 40)) from rfl, hk]; simp)] at h
    split at h
    · rename_i ho
      obtain ⟨rfl, rfl, ht⟩ := is_iff.1 ho
      cases h
      refine ⟨_, (key ht).trans ?_⟩
      rw [hk]; rfl
    · cases h
theorem qs_is5 : LoopIs tab FT D2 live 86 qs_lo 0 5 := by
  refine loop_told (sl := qs_5_sl) (step := qs_5_st) (out := qs_5_out) (lor := qs_lo5) (fin := fun x => (qs_5_fin (x.1) (x.2.1) (x.2.2))) (fun _ => rfl) ?_ (fun x n => qs_5_r x.1 x.2.1 x.2.2 n) (fun x ow => qs_5_h x.1 x.2.1 x.2.2 ow)
  intro s t h
  unfold qs_lo5 at h
  split at h
  · cases h; exact ⟨(_, _, _), rfl, rfl⟩
  · cases h
noncomputable def qs_t (A : LL) : Tr (Bool) := (.ite ((decide ((A.length : Int) > (3 : Int))) = true) (.ok false)
  (.ite ((qs_k5_1 A (1 : Int) (0 : Int)) = true) (.ite ((qs_o5_2 A (1 : Int) (0 : Int)) = true) (.ok (decide ((qs_u5_2 A (1 : Int) (0 : Int)) ≤ (600 : Int))))
    .no)
   (.ite ((qs_o5_3 A (1 : Int) (0 : Int)) = true) (.ok false)
    .no)))
def qs_mk (p : Bool) : Res := [(false, [⟨.bool, .sh, TC.b p⟩])]
noncomputable def qs_c (A : LL) : Bool := is (((qs_o5_2 A (1 : Int) (0 : Int)) = true) ∧ ((qs_o5_3 A (1 : Int) (0 : Int)) = true))
noncomputable def qs_v (A : LL) : Bool := (bif (decide ((A.length : Int) > (3 : Int))) then false else (bif (qs_k5_1 A (1 : Int) (0 : Int)) then (decide ((qs_u5_2 A (1 : Int) (0 : Int)) ≤ (600 : Int))) else false))
theorem qs_l (A : LL) : (qs_c A) = true → (qs_t A).val = some (qs_v A) := by
  intro h
  obtain ⟨g0, g1⟩ := is_iff.1 h
  unfold qs_t qs_v
  exact (Tr.s rfl (Tr.s (Tr.t g0 rfl) (Tr.t g1 rfl)))
noncomputable def qs_S : List Arg → Option (Bool × Res) := fun xs => match xs with
  | [(false, [(.slice 2, TC.l A)])] => some ((qs_c A), qs_mk (qs_v A))
  | _ => .none
theorem qs_e (A : LL) : runF tab FT D2 live 86 qs_lo [(false, [(.slice 2, TC.l A)])] = (qs_t A).run fun p => some (qs_mk p) := by kernel_rfl
theorem qs_s : ∀ xs r, qs_S xs = some (true, r) → runF tab FT D2 live 86 qs_lo xs = some r := by
  intro xs r h
  unfold qs_S at h
  split at h
  · simp only [Option.some.injEq, Prod.mk.injEq] at h
    obtain ⟨h1, rfl⟩ := h
    exact fun_told (qs_e _) (qs_l _) h1
  · cases h
noncomputable def D3 : Dt := also D2 86 qs_S
theorem d3 : DOk Go.Proofs.Try.prog tab D3 := d2.also mixed_ok tab_ok names_ok (fnLoops_one (by kernel_rfl) qs_is5) qs_s
theorem qs_vv (A : LL) : qs_v A = dimsOk A := by
  show (bif decide ((A.length : Int) > 3) then false else bif A.all (inR 0 40) then decide (prodL A ≤ 600) else false) = _
  unfold dimsOk
  rw [show decide ((A.length : Int) > 3) = !decide ((A.length : Int) ≤ 3) from by rw [← decide_not]; simp]
  cases decide ((A.length : Int) ≤ 3) <;> cases A.all (inR 0 40) <;> rfl
abbrev qw_3_σ := LL × LL × LL × Int
abbrev qw_3_ω := (LL)
noncomputable def qw_3_step (D C X : LL) (i : Int) : Tr (qw_3_σ ⊕ qw_3_ω) := (.ite ((decide (i < (D.length : Int))) = true) (.ite ((0 : Int) ≤ i ∧ i < (D.length : Int)) (.ite ((0 : Int) ≤ i ∧ i < (C.length : Int)) (.ite ((0 : Int) ≤ i ∧ i < (C.length : Int)) (.ite ((nth (row C i) 0).int ≠ 0) (.ite (roomFor (tab 2) (X ++ [[TC.i (IntKind.wrap .i64 (Int.tdiv (IntKind.wrap .i64 ((IntKind.wrap .i64 ((nth (row D i) 0).int + (nth (row C i) 0).int)) - (1 : Int))) ((nth (row C i) 0).int)))]]).length) (.ok (.inl (D, C, (X ++ [[TC.i (IntKind.wrap .i64 (Int.tdiv (IntKind.wrap .i64 ((IntKind.wrap .i64 ((nth (row D i) 0).int + (nth (row C i) 0).int)) - (1 : Int))) ((nth (row C i) 0).int)))]]), (IntKind.wrap .i64 (i + (1 : Int))))))
       .no)
      .no)
     .no)
    .no)
   .no)
  (.ok (.inr X)))
noncomputable def qw_3_st : qw_3_σ → Tr (qw_3_σ ⊕ qw_3_ω) := fun x => (qw_3_step (x.1) (x.2.1) (x.2.2.1) (x.2.2.2))
noncomputable def qw_o3_1 (D C X : LL) (i : Int) : Bool := is (X = [] ∧ i = 0 ∧ Typed tab (.slice 2) (.l D) ∧ D.length = C.length ∧ C.all (inR 1 40) = true)
noncomputable def qw_u3_1 (D C X : LL) (i : Int) : LL := gridL D C
noncomputable def qw_3_fin (D C X : LL) (i : Int) : Told qw_3_ω := (.leaf (qw_o3_1 D C X i) (qw_u3_1 D C X i))
def qw_3_sl (x : qw_3_σ) : List Slot := [⟨.val false [⟨.slice 2, .sh, TC.l (x.1)⟩], ⟨0, 0⟩⟩, ⟨.val false [⟨.slice 2, .sh, TC.l (x.2.1)⟩], ⟨0, 0⟩⟩, ⟨.val false [⟨.slice 2, .own true, TC.l (x.2.2.1)⟩], ⟨0, 0⟩⟩, ⟨.val false [⟨.int .i64, .sh, TC.i (x.2.2.2)⟩], ⟨0, 0⟩⟩]
def qw_3_out : qw_3_ω → Ex × List Slot := (fun x => (.exit 0, [Slot.none, ⟨.val false [⟨.slice 2, .own true, TC.l x⟩], ⟨0, 0⟩⟩]))
noncomputable def qw_lo3 : List Slot → Option (Told (Ex × List Slot)) := fun s => match s with
  | [⟨.val false [⟨.slice 2, .sh, TC.l D⟩], ⟨0, 0⟩⟩, ⟨.val false [⟨.slice 2, .sh, TC.l C⟩], ⟨0, 0⟩⟩, ⟨.val false [⟨.slice 2, .own true, TC.l X⟩], ⟨0, 0⟩⟩, ⟨.val false [⟨.int .i64, .sh, TC.i i⟩], ⟨0, 0⟩⟩] => some (((qw_3_fin D C X i)).map qw_3_out)
  | _ => .none
noncomputable def qw_lo : LoopTeller := fun r s => bif Nat.beq r 3 then qw_lo3 s else .none
theorem qw_3_r (D C X : LL) (i : Int) (fuel : Nat) : rounds (rnd tab FT D3 live 98 qw_lo 0 3) leave (fuel + 1) (qw_3_sl (D, C, X, i)) = ((qw_3_step D C X i)).run (goOn (fun s => rounds (rnd tab FT D3 live 98 qw_lo 0 3) leave fuel (qw_3_sl s)) fun w => some (qw_3_out w)) := by kernel_rfl
theorem qw_3_h (D C X : LL) (i : Int) (ow : qw_3_ω) : ((qw_3_fin D C X i)).val = some ow → ∃ fuel, loopN qw_3_st fuel (D, C, X, i) = some ow := by
  intro h
  simp only [qw_3_fin, Told.val] at h
  split at h
  · rename_i ho
    obtain ⟨rfl, rfl, ht, hl, hc⟩ := is_iff.1 ho
    cases h
    have hlen : D.length ≤ 17592186044404 := by have := typed_room ht; simp only [show (tab 2).bytes = 8 from rfl] at this; omega
    have hg : (gridL D C).length = D.length := by simp [gridL, hl]
    refine ⟨_, loopN_build (step := qw_3_st) (gridL D C) (fun i X => (D, C, X, (i : Int))) _ (fun i hi => ?_) ?_⟩
    · have hi' : i < D.length := by omega
      rw [gridL_at hl hi]
      show (qw_3_step D C ((gridL D C).take i) (i : Int)).val = _
      unfold qw_3_step
      refine Tr.t (by simp; omega) ?_
      refine Tr.t (by constructor <;> omega) ?_
      refine Tr.t (by constructor <;> omega) ?_
      refine Tr.t (by constructor <;> omega) ?_
      refine Tr.t (inR_1 hc (by omega)) ?_
      refine Tr.t (by unfold roomFor; simp only [show (tab 2).bytes = 8 from rfl, List.length_append, List.length_take, List.length_singleton]; omega) ?_
      rw [Tr.val_ok, wrap64 (i := (i : Int) + 1) (by omega) (by omega)]; rfl
    · show (qw_3_step D C (gridL D C) ((gridL D C).length : Int)).val = _
      refine Tr.n (by simp [hg]) ?_
      rfl
  · cases h
theorem qw_is3 : LoopIs tab FT D3 live 98 qw_lo 0 3 := by
  refine loop_told (sl := qw_3_sl) (step := qw_3_st) (out := qw_3_out) (lor := qw_lo3) (fin := fun x => (qw_3_fin (x.1) (x.2.1) (x.2.2.1) (x.2.2.2))) (fun _ => rfl) ?_ (fun x n => qw_3_r x.1 x.2.1 x.2.2.1 x.2.2.2 n) (fun x ow => qw_3_h x.1 x.2.1 x.2.2.1 x.2.2.2 ow)
  intro s t h
  unfold qw_lo3 at h
  split at h
  · cases h; exact ⟨(_, _, _, _), rfl, rfl⟩
  · cases h
noncomputable def qw_t (D C : LL) : Tr (LL) := (.ite ((qw_o3_1 D C [] (0 : Int)) = true) (.ok (qw_u3_1 D C [] (0 : Int)))
  .no)
def qw_mk (p : LL) : Res := [(false, [⟨.slice 2, .own true, TC.l p⟩])]
noncomputable def qw_c (D C : LL) : Bool := is (Typed tab (.slice 2) (.l D) ∧ D.length = C.length ∧ C.all (inR 1 40) = true)
noncomputable def qw_v (D C : LL) : LL := gridL D C
theorem qw_l (D C : LL) : (qw_c D C) = true → (qw_t D C).val = some (qw_v D C) := by
  intro h
  obtain ⟨ht, hl, hc⟩ := is_iff.1 h
  unfold qw_t
  exact Tr.t (is_true ⟨rfl, rfl, ht, hl, hc⟩) rfl
noncomputable def qw_S : List Arg → Option (Bool × Res) := fun xs => match xs with
  | [(false, [(.slice 2, TC.l D)]), (false, [(.slice 2, TC.l C)])] => some ((qw_c D C), qw_mk (qw_v D C))
  | _ => .none
theorem qw_e (D C : LL) : runF tab FT D3 live 98 qw_lo [(false, [(.slice 2, TC.l D)]), (false, [(.slice 2, TC.l C)])] = (qw_t D C).run fun p => some (qw_mk p) := by kernel_rfl
theorem qw_s : ∀ xs r, qw_S xs = some (true, r) → runF tab FT D3 live 98 qw_lo xs = some r := by
  intro xs r h
  unfold qw_S at h
  split at h
  · simp only [Option.some.injEq, Prod.mk.injEq] at h
    obtain ⟨h1, rfl⟩ := h
    exact fun_told (qw_e _ _) (qw_l _ _) h1
  · cases h
noncomputable def D4 : Dt := also D3 98 qw_S
theorem d4 : DOk Go.Proofs.Try.prog tab D4 := d3.also mixed_ok tab_ok names_ok (fnLoops_one (by kernel_rfl) qw_is3) qw_s
abbrev qv_3_σ := LL × Int × Int
abbrev qv_3_ω := (Int)
noncomputable def qv_3_step (A : LL) (n i : Int) : Tr (qv_3_σ ⊕ qv_3_ω) := (.ite ((decide (i < (A.length : Int))) = true) (.ite ((0 : Int) ≤ i ∧ i < (A.length : Int)) (.ok (.inl (A, (IntKind.wrap .i64 (n * (nth (row A i) 0).int)), (IntKind.wrap .i64 (i + (1 : Int))))))
   .no)
  (.ok (.inr n)))
noncomputable def qv_3_st : qv_3_σ → Tr (qv_3_σ ⊕ qv_3_ω) := fun x => (qv_3_step (x.1) (x.2.1) (x.2.2))
noncomputable def qv_o3_1 (A : LL) (n i : Int) : Bool := is (i = 0 ∧ n = 1 ∧ Typed tab (.slice 2) (.l A))
noncomputable def qv_u3_1 (A : LL) (n i : Int) : Int := (A.foldl mulR (1 : Int))
noncomputable def qv_3_fin (A : LL) (n i : Int) : Told qv_3_ω := (.leaf (qv_o3_1 A n i) (qv_u3_1 A n i))
def qv_3_sl (x : qv_3_σ) : List Slot := [⟨.val false [⟨.slice 2, .sh, TC.l (x.1)⟩], ⟨0, 0⟩⟩, ⟨.val false [⟨.int .i64, .sh, TC.i (x.2.1)⟩], ⟨0, 0⟩⟩, ⟨.val false [⟨.int .i64, .sh, TC.i (x.2.2)⟩], ⟨0, 0⟩⟩]
def qv_3_out : qv_3_ω → Ex × List Slot := (fun x => (.exit 0, [Slot.none, ⟨.val false [⟨.int .i64, .sh, TC.i x⟩], ⟨0, 0⟩⟩]))
noncomputable def qv_lo3 : List Slot → Option (Told (Ex × List Slot)) := fun s => match s with
  | [⟨.val false [⟨.slice 2, .sh, TC.l A⟩], ⟨0, 0⟩⟩, ⟨.val false [⟨.int .i64, .sh, TC.i n⟩], ⟨0, 0⟩⟩, ⟨.val false [⟨.int .i64, .sh, TC.i i⟩], ⟨0, 0⟩⟩] => some (((qv_3_fin A n i)).map qv_3_out)
  | _ => .none
noncomputable def qv_lo : LoopTeller := fun r s => bif Nat.beq r 3 then qv_lo3 s else .none
theorem qv_3_r (A : LL) (n i : Int) (fuel : Nat) : rounds (rnd tab FT D4 live 71 qv_lo 0 3) leave (fuel + 1) (qv_3_sl (A, n, i)) = ((qv_3_step A n i)).run (goOn (fun s => rounds (rnd tab FT D4 live 71 qv_lo 0 3) leave fuel (qv_3_sl s)) fun w => some (qv_3_out w)) := by kernel_rfl
theorem qv_3_h (A : LL) (n i : Int) (ow : qv_3_ω) : ((qv_3_fin A n i)).val = some ow → ∃ fuel, loopN qv_3_st fuel (A, n, i) = some ow := by
  intro h
  have key : Typed tab (.slice 2) (.l A) → loopN qv_3_st (A.length + 1) (A, (1 : Int), (0 : Int)) = some ((A.foldl mulR (1 : Int))) := by
    intro ht
    have hlen : A.length ≤ 140737488351232 := by have := typed_room ht; simp only [show (tab 2).bytes = 8 from rfl] at this; omega
    have key := loopN_scan (step := qv_3_st) A [] (fun _ => true) mulR (fun i a => (A, a, (i : Int))) (fun a => a) (fun i a => a) (fun i a hi => ?_) (fun a => ?_) A.length 0 (1 : Int) (by omega)
    · first | (rw [Nat.zero_add] at key; exact key) | exact key | (simpa using key)
    · skip
      show (qv_3_step A a (i : Int)).val = _
      unfold qv_3_step
      refine Tr.t (by simp; omega) ?_
      show _ = some _
      refine Tr.t (by first | omega | (constructor <;> omega)) ?_
      rw [Tr.val_ok, wrap64 (i := (i : Int) + 1) (by omega) (by omega)]; rfl
    · show (qv_3_step A a (A.length : Int)).val = _
      refine Tr.n (by simp) ?_
      rfl
  simp only [qv_3_fin, Told.val] at h
  split at h
  · rename_i ho
    obtain ⟨rfl, rfl, ht⟩ := is_iff.1 ho
    cases h
    exact ⟨_, key ht⟩
  · cases h
theorem qv_is3 : LoopIs tab FT D4 live 71 qv_lo 0 3 := by
  refine loop_told (sl := qv_3_sl) (step := qv_3_st) (out := qv_3_out) (lor := qv_lo3) (fin := fun x => (qv_3_fin (x.1) (x.2.1) (x.2.2))) (fun _ => rfl) ?_ (fun x n => qv_3_r x.1 x.2.1 x.2.2 n) (fun x ow => qv_3_h x.1 x.2.1 x.2.2 ow)
  intro s t h
  unfold qv_lo3 at h
  split at h
  · cases h; exact ⟨(_, _, _), rfl, rfl⟩
  · cases h
noncomputable def qv_t (A : LL) : Tr (Int) := (.ite ((qv_o3_1 A (1 : Int) (0 : Int)) = true) (.ok (qv_u3_1 A (1 : Int) (0 : Int)))
  .no)
def qv_mk (p : Int) : Res := [(false, [⟨.int .i64, .sh, TC.i p⟩])]
noncomputable def qv_c (A : LL) : Bool := (qv_o3_1 A (1 : Int) (0 : Int))
noncomputable def qv_v (A : LL) : Int := (qv_u3_1 A (1 : Int) (0 : Int))
theorem qv_l (A : LL) : (qv_c A) = true → (qv_t A).val = some (qv_v A) := by
  intro h
  have hc0 : (qv_o3_1 A (1 : Int) (0 : Int)) = true := h
  unfold qv_t
  exact (Tr.t hc0 rfl)
noncomputable def qv_S : List Arg → Option (Bool × Res) := fun xs => match xs with
  | [(false, [(.slice 2, TC.l A)])] => some ((qv_c A), qv_mk (qv_v A))
  | _ => .none
theorem qv_e (A : LL) : runF tab FT D4 live 71 qv_lo [(false, [(.slice 2, TC.l A)])] = (qv_t A).run fun p => some (qv_mk p) := by kernel_rfl
theorem qv_s : ∀ xs r, qv_S xs = some (true, r) → runF tab FT D4 live 71 qv_lo xs = some r := by
  intro xs r h
  unfold qv_S at h
  split at h
  · simp only [Option.some.injEq, Prod.mk.injEq] at h
    obtain ⟨h1, rfl⟩ := h
    exact fun_told (qv_e _) (qv_l _) h1
  · cases h
noncomputable def D5 : Dt := also D4 71 qv_S
theorem d5 : DOk Go.Proofs.Try.prog tab D5 := d4.also mixed_ok tab_ok names_ok (fnLoops_one (by kernel_rfl) qv_is3) qv_s
abbrev qe_12_σ := Int × LL × Int
abbrev qe_12_ω := (Int × LL) ⊕ (Int × LL)
noncomputable def qe_12_step (n : Int) (A : LL) (i : Int) : Tr (qe_12_σ ⊕ qe_12_ω) := (.ite ((decide (i < (A.length : Int))) = true) (.ite ((0 : Int) ≤ i ∧ i < (A.length : Int)) (.ite ((decide ((nth (row A i) 0).int > (16 : Int))) = true) (.ok (.inr (.inl (n, A))))
    (.ok (.inl (n, A, (IntKind.wrap .i64 (i + (1 : Int)))))))
   .no)
  (.ok (.inr (.inr (n, A)))))
noncomputable def qe_12_st : qe_12_σ → Tr (qe_12_σ ⊕ qe_12_ω) := fun x => (qe_12_step (x.1) (x.2.1) (x.2.2))
noncomputable def qe_k12_1 (n : Int) (A : LL) (i : Int) : Bool := A.all le16
noncomputable def qe_o12_2 (n : Int) (A : LL) (i : Int) : Bool := is (i = 0 ∧ A.length ≤ 140737488351232)
noncomputable def qe_o12_3 (n : Int) (A : LL) (i : Int) : Bool := is (i = 0 ∧ A.length ≤ 140737488351232)
noncomputable def qe_12_fin (n : Int) (A : LL) (i : Int) : Told qe_12_ω := (.br (qe_k12_1 n A i) (.leaf (qe_o12_2 n A i) (.inr (n, A))) (.leaf (qe_o12_3 n A i) (.inl (n, A))))
def qe_12_sl (x : qe_12_σ) : List Slot := [⟨.val false [⟨.int .i64, .sh, TC.i (x.1)⟩], ⟨0, 0⟩⟩, ⟨.val false [⟨.slice 2, .own true, TC.l (x.2.1)⟩], ⟨0, 0⟩⟩, ⟨.val false [⟨.int .i64, .sh, TC.i (x.2.2)⟩], ⟨0, 0⟩⟩]
def qe_12_out : qe_12_ω → Ex × List Slot := (Sum.elim (fun x => (.ret, [⟨.val false [⟨.bool, .sh, TC.b false⟩], ⟨0, 0⟩⟩, ⟨.val false [⟨.int .i64, .sh, TC.i (x.1)⟩], ⟨0, 0⟩⟩, ⟨.val false [⟨.slice 2, .own true, TC.l (x.2)⟩], ⟨0, 0⟩⟩])) (fun x => (.exit 2, [Slot.none, ⟨.val false [⟨.int .i64, .sh, TC.i (x.1)⟩], ⟨0, 0⟩⟩, ⟨.val false [⟨.slice 2, .own true, TC.l (x.2)⟩], ⟨0, 0⟩⟩])))
noncomputable def qe_lo12 : List Slot → Option (Told (Ex × List Slot)) := fun s => match s with
  | [⟨.val false [⟨.int .i64, .sh, TC.i n⟩], ⟨0, 0⟩⟩, ⟨.val false [⟨.slice 2, .own true, TC.l A⟩], ⟨0, 0⟩⟩, ⟨.val false [⟨.int .i64, .sh, TC.i i⟩], ⟨0, 0⟩⟩] => some (((qe_12_fin n A i)).map qe_12_out)
  | _ => .none
abbrev qe_5_σ := LL × LL × Int × Int
abbrev qe_5_ω := (LL × LL × Int) ⊕ (LL × LL × Int)
noncomputable def qe_5_step (D A : LL) (n i : Int) : Tr (qe_5_σ ⊕ qe_5_ω) := (.ite ((decide (i < (A.length : Int))) = true) (.ite ((0 : Int) ≤ i ∧ i < (A.length : Int)) (.ite ((!(qbg_v ((nth (row A i) 0).int) (1 : Int) (40 : Int))) = true) (.ok (.inr (.inl (D, A, n))))
    (.ite ((0 : Int) ≤ i ∧ i < (A.length : Int)) (.ok (.inl (D, A, (IntKind.wrap .i64 (n * (nth (row A i) 0).int)), (IntKind.wrap .i64 (i + (1 : Int))))))
     .no))
   .no)
  (.ok (.inr (.inr (D, A, n)))))
noncomputable def qe_5_st : qe_5_σ → Tr (qe_5_σ ⊕ qe_5_ω) := fun x => (qe_5_step (x.1) (x.2.1) (x.2.2.1) (x.2.2.2))
noncomputable def qe_k5_1 (D A : LL) (n i : Int) : Bool := A.all (inR 1 40)
noncomputable def qe_o5_2 (D A : LL) (n i : Int) : Bool := is (i = 0 ∧ n = 1 ∧ Typed tab (.slice 2) (.l A))
noncomputable def qe_u5_2_2 (D A : LL) (n i : Int) : Int := (A.foldl mulR (1 : Int))
noncomputable def qe_o5_3 (D A : LL) (n i : Int) : Bool := is (i = 0 ∧ n = 1 ∧ Typed tab (.slice 2) (.l A))
noncomputable def qe_u5_3_2 (D A : LL) (n i : Int) : Int := ((A.take (A.findIdx fun x => !(inR 1 40) x)).foldl mulR (1 : Int))
noncomputable def qe_5_fin (D A : LL) (n i : Int) : Told qe_5_ω := (.br (qe_k5_1 D A n i) (.leaf (qe_o5_2 D A n i) (.inr (D, A, (qe_u5_2_2 D A n i)))) (.leaf (qe_o5_3 D A n i) (.inl (D, A, (qe_u5_3_2 D A n i)))))
def qe_5_sl (x : qe_5_σ) : List Slot := [⟨.val false [⟨.slice 2, .sh, TC.l (x.1)⟩], ⟨0, 0⟩⟩, ⟨.val false [⟨.slice 2, .sh, TC.l (x.2.1)⟩], ⟨0, 0⟩⟩, ⟨.val false [⟨.int .i64, .sh, TC.i (x.2.2.1)⟩], ⟨0, 0⟩⟩, ⟨.val false [⟨.int .i64, .sh, TC.i (x.2.2.2)⟩], ⟨0, 0⟩⟩]
def qe_5_out : qe_5_ω → Ex × List Slot := (Sum.elim (fun x => (.ret, [⟨.val false [⟨.slice 2, .sh, TC.l (x.1)⟩], ⟨0, 0⟩⟩, ⟨.val false [⟨.slice 2, .sh, TC.l (x.2.1)⟩], ⟨0, 0⟩⟩, ⟨.val false [⟨.bool, .sh, TC.b false⟩], ⟨0, 0⟩⟩, ⟨.val false [⟨.int .i64, .sh, TC.i (x.2.2)⟩], ⟨0, 0⟩⟩])) (fun x => (.exit 0, [⟨.val false [⟨.slice 2, .sh, TC.l (x.1)⟩], ⟨0, 0⟩⟩, ⟨.val false [⟨.slice 2, .sh, TC.l (x.2.1)⟩], ⟨0, 0⟩⟩, Slot.none, ⟨.val false [⟨.int .i64, .sh, TC.i (x.2.2)⟩], ⟨0, 0⟩⟩])))
noncomputable def qe_lo5 : List Slot → Option (Told (Ex × List Slot)) := fun s => match s with
  | [⟨.val false [⟨.slice 2, .sh, TC.l D⟩], ⟨0, 0⟩⟩, ⟨.val false [⟨.slice 2, .sh, TC.l A⟩], ⟨0, 0⟩⟩, ⟨.val false [⟨.int .i64, .sh, TC.i n⟩], ⟨0, 0⟩⟩, ⟨.val false [⟨.int .i64, .sh, TC.i i⟩], ⟨0, 0⟩⟩] => some (((qe_5_fin D A n i)).map qe_5_out)
  | _ => .none
noncomputable def qe_lo : LoopTeller := fun r s => bif Nat.beq r 5 then qe_lo5 s else bif Nat.beq r 12 then qe_lo12 s else .none
theorem qe_12_r (n : Int) (A : LL) (i : Int) (fuel : Nat) : rounds (rnd tab FT D5 live 52 qe_lo 1 12) leave (fuel + 1) (qe_12_sl (n, A, i)) = ((qe_12_step n A i)).run (goOn (fun s => rounds (rnd tab FT D5 live 52 qe_lo 1 12) leave fuel (qe_12_sl s)) fun w => some (qe_12_out w)) := by kernel_rfl
theorem qe_12_h (n : Int) (A : LL) (i : Int) (ow : qe_12_ω) : ((qe_12_fin n A i)).val = some ow → ∃ fuel, loopN qe_12_st fuel (n, A, i) = some ow := by
  intro h
  have key : A.length ≤ 140737488351232 → loopN qe_12_st (A.length + 1) (n, A, (0 : Int)) = some (if A.all le16 = true then (.inr (n, A)) else (.inl (n, A))) := by
    intro ht
    have hlen : A.length ≤ 140737488351232 := ht
    have key := loopN_scan (step := qe_12_st) A [] le16 (fun a _ => a) (fun i a => (n, A, (i : Int))) (fun a => (.inr (n, A))) (fun i a => (.inl (n, A))) (fun i a hi => ?_) (fun a => ?_) A.length 0 () (by omega)
    · first | (rw [Nat.zero_add] at key; exact key) | exact key
    · skip
      show (qe_12_step n A (i : Int)).val = _
      unfold qe_12_step
      refine Tr.t (by simp; omega) ?_
      skip
      refine Tr.t (by first | omega | (constructor <;> omega)) ?_
      refine Tr.b2 (fun hP => ?_) (fun _ => rfl)
      rw [Tr.val_ok, wrap64 (i := (i : Int) + 1) (by omega) (by omega)]; rfl
    · show (qe_12_step n A (A.length : Int)).val = _
      refine Tr.n (by simp) ?_
      rfl
  simp only [qe_12_fin, Told.val] at h
  cases hk : A.all le16 with
  | true =>
    rw [if_pos (show qe_k12_1 n A i = true from hk)] at h
    split at h
    · rename_i ho
      obtain ⟨rfl, ht⟩ := is_iff.1 ho
      cases h
      refine ⟨_, (key ht).trans ?_⟩
      rw [hk]; rfl
    · cases h
  | false =>
    rw [if_neg (show ¬qe_k12_1 n A i = true from by rw [show qe_k12_1 n A i = (A.all le16) from rfl, hk]; simp)] at h
    split at h
    · rename_i ho
      obtain ⟨rfl, ht⟩ := is_iff.1 ho
      cases h
      refine ⟨_, (key ht).trans ?_⟩
      rw [hk]; rfl
    · cases h
theorem qe_is12 : LoopIs tab FT D5 live 52 qe_lo 1 12 := by
  refine loop_told (sl := qe_12_sl) (step := qe_12_st) (out := qe_12_out) (lor := qe_lo12) (fin := fun x => (qe_12_fin (x.1) (x.2.1) (x.2.2))) (fun _ => rfl) ?_ (fun x n => qe_12_r x.1 x.2.1 x.2.2 n) (fun x ow => qe_12_h x.1 x.2.1 x.2.2 ow)
  intro s t h
  unfold qe_lo12 at h
  split at h
  · cases h; exact ⟨(_, _, _), rfl, rfl⟩
  · cases h
theorem qe_5_r (D A : LL) (n i : Int) (fuel : Nat) : rounds (rnd tab FT D5 live 52 qe_lo 0 5) leave (fuel + 1) (qe_5_sl (D, A, n, i)) = ((qe_5_step D A n i)).run (goOn (fun s => rounds (rnd tab FT D5 live 52 qe_lo 0 5) leave fuel (qe_5_sl s)) fun w => some (qe_5_out w)) := by kernel_rfl
theorem qe_5_h (D A : LL) (n i : Int) (ow : qe_5_ω) : ((qe_5_fin D A n i)).val = some ow → ∃ fuel, loopN qe_5_st fuel (D, A, n, i) = some ow := by
  intro h
  have key : Typed tab (.slice 2) (.l A) → loopN qe_5_st (A.length + 1) (D, A, (1 : Int), (0 : Int)) = some (if A.all (inR 1 40) = true then (.inr (D, A, (A.foldl mulR (1 : Int)))) else (.inl (D, A, ((A.take (A.findIdx fun x => !(inR 1 40) x)).foldl mulR (1 : Int))))) := by
    intro ht
    have hlen : A.length ≤ 140737488351232 := by have := typed_room ht; simp only [show (tab 2).bytes = 8 from rfl] at this; omega
    have key := loopN_scan (step := qe_5_st) A [] (inR 1 40) mulR (fun i a => (D, A, a, (i : Int))) (fun a => (.inr (D, A, a))) (fun i a => (.inl (D, A, a))) (fun i a hi => ?_) (fun a => ?_) A.length 0 (1 : Int) (by omega)
    · first | (rw [Nat.zero_add] at key; exact key) | exact key
    · skip
      show (qe_5_step D A a (i : Int)).val = _
      unfold qe_5_step
      refine Tr.t (by simp; omega) ?_
      skip
      refine Tr.t (by first | omega | (constructor <;> omega)) ?_
      refine Tr.b (P := (inR 1 40) (A.getD i [])) (fun hP => ?_) (fun _ => rfl)
      refine Tr.t (by first | omega | (constructor <;> omega)) ?_
      rw [Tr.val_ok, wrap64 (i := (i : Int) + 1) (by omega) (by omega)]; rfl
    · show (qe_5_step D A a (A.length : Int)).val = _
      refine Tr.n (by simp) ?_
      rfl
  simp only [qe_5_fin, Told.val] at h
  cases hk : A.all (inR 1 40) with
  | true =>
    rw [if_pos (show qe_k5_1 D A n i = true from hk)] at h
    split at h
    · rename_i ho
      obtain ⟨rfl, rfl, ht⟩ := is_iff.1 ho
      cases h
      refine ⟨_, (key ht).trans ?_⟩
      rw [hk]; rfl
    · cases h
  | false =>
    rw [if_neg (show ¬qe_k5_1 D A n i = true from by rw [show qe_k5_1 D A n i = (A.all (inR 1 40)) from rfl, hk]; simp)] at h
    split at h
    · rename_i ho
      obtain ⟨rfl, rfl, ht⟩ := is_iff.1 ho
      cases h
      refine ⟨_, (key ht).trans ?_⟩
      rw [hk]; rfl
    · cases h
theorem qe_is5 : LoopIs tab FT D5 live 52 qe_lo 0 5 := by
  refine loop_told (sl := qe_5_sl) (step := qe_5_st) (out := qe_5_out) (lor := qe_lo5) (fin := fun x => (qe_5_fin (x.1) (x.2.1) (x.2.2.1) (x.2.2.2))) (fun _ => rfl) ?_ (fun x n => qe_5_r x.1 x.2.1 x.2.2.1 x.2.2.2 n) (fun x ow => qe_5_h x.1 x.2.1 x.2.2.1 x.2.2.2 ow)
  intro s t h
  unfold qe_lo5 at h
  split at h
  · cases h; exact ⟨(_, _, _, _), rfl, rfl⟩
  · cases h
noncomputable def qe_t (D C : LL) : Tr (Bool) := (.ite ((qs_c D) = true) (.ite ((!(qs_v D)) = true) (.ok false)
   (.ite ((!((C.length : Int) == (D.length : Int))) = true) (.ok false)
    (.ite ((qe_k5_1 D C (1 : Int) (0 : Int)) = true) (.ite ((qe_o5_2 D C (1 : Int) (0 : Int)) = true) (.ite ((qw_c D C) = true) (.ite ((qe_k12_1 (qe_u5_2_2 D C (1 : Int) (0 : Int)) (qw_v D C) (0 : Int)) = true) (.ite ((qe_o12_2 (qe_u5_2_2 D C (1 : Int) (0 : Int)) (qw_v D C) (0 : Int)) = true) (.ite ((decide ((qe_u5_2_2 D C (1 : Int) (0 : Int)) ≤ (64 : Int))) = true) (.ite ((qv_c (qw_v D C)) = true) (.ok (decide ((qv_v (qw_v D C)) ≤ (256 : Int))))
           .no)
          (.ok false))
         .no)
        (.ite ((qe_o12_3 (qe_u5_2_2 D C (1 : Int) (0 : Int)) (qw_v D C) (0 : Int)) = true) (.ok false)
         .no))
       .no)
      .no)
     (.ite ((qe_o5_3 D C (1 : Int) (0 : Int)) = true) (.ok false)
      .no))))
  .no)
def qe_mk (p : Bool) : Res := [(false, [⟨.bool, .sh, TC.b p⟩])]
noncomputable def qe_c (D C : LL) : Bool := ((qs_c D) && (bif (!(qs_v D)) then true else (bif (!((C.length : Int) == (D.length : Int))) then true else (bif (qe_k5_1 D C (1 : Int) (0 : Int)) then ((qe_o5_2 D C (1 : Int) (0 : Int)) && ((qw_c D C) && (bif (qe_k12_1 (qe_u5_2_2 D C (1 : Int) (0 : Int)) (qw_v D C) (0 : Int)) then ((qe_o12_2 (qe_u5_2_2 D C (1 : Int) (0 : Int)) (qw_v D C) (0 : Int)) && (bif (decide ((qe_u5_2_2 D C (1 : Int) (0 : Int)) ≤ (64 : Int))) then ((qv_c (qw_v D C)) && true) else true)) else ((qe_o12_3 (qe_u5_2_2 D C (1 : Int) (0 : Int)) (qw_v D C) (0 : Int)) && true)))) else ((qe_o5_3 D C (1 : Int) (0 : Int)) && true)))))
noncomputable def qe_v (D C : LL) : Bool := (bif (!(qs_v D)) then false else (bif (!((C.length : Int) == (D.length : Int))) then false else (bif (qe_k5_1 D C (1 : Int) (0 : Int)) then (bif (qe_k12_1 (qe_u5_2_2 D C (1 : Int) (0 : Int)) (qw_v D C) (0 : Int)) then (bif (decide ((qe_u5_2_2 D C (1 : Int) (0 : Int)) ≤ (64 : Int))) then (decide ((qv_v (qw_v D C)) ≤ (256 : Int))) else false) else false) else false)))
theorem qe_l (D C : LL) : (qe_c D C) = true → (qe_t D C).val = some (qe_v D C) := by
  unfold qe_t qe_v qe_c
  exact fun h => (Tr.gb h fun h => (Tr.ss h (fun h => rfl) (fun h => (Tr.ss h (fun h => rfl) (fun h => (Tr.ss h (fun h => (Tr.gb h fun h => (Tr.gb h fun h => (Tr.ss h (fun h => (Tr.gb h fun h => (Tr.ss h (fun h => (Tr.gb h fun h => rfl)) (fun h => rfl)))) (fun h => (Tr.gb h fun h => rfl)))))) (fun h => (Tr.gb h fun h => rfl))))))))
noncomputable def qe_S : List Arg → Option (Bool × Res) := fun xs => match xs with
  | [(false, [(.slice 2, TC.l D)]), (false, [(.slice 2, TC.l C)])] => some ((qe_c D C), qe_mk (qe_v D C))
  | _ => .none
theorem qe_e (D C : LL) : runF tab FT D5 live 52 qe_lo [(false, [(.slice 2, TC.l D)]), (false, [(.slice 2, TC.l C)])] = (qe_t D C).run fun p => some (qe_mk p) := by kernel_rfl
theorem qe_s : ∀ xs r, qe_S xs = some (true, r) → runF tab FT D5 live 52 qe_lo xs = some r := by
  intro xs r h
  unfold qe_S at h
  split at h
  · simp only [Option.some.injEq, Prod.mk.injEq] at h
    obtain ⟨h1, rfl⟩ := h
    exact fun_told (qe_e _ _) (qe_l _ _) h1
  · cases h
noncomputable def D6 : Dt := also D5 52 qe_S
theorem d6 : DOk Go.Proofs.Try.prog tab D6 := d5.also mixed_ok tab_ok names_ok (fnLoops_two (by kernel_rfl) qe_is5 qe_is12) qe_s
theorem qe_cc {D : LL} {C : LL} (hD : Typed tab (.slice 2) (.l D)) (hC : Typed tab (.slice 2) (.l C)) : (qe_c D C) = true := by
  unfold qe_c
  refine andT (by first | (apply is_true; and_intros <;> (first | rfl | assumption | (first | (apply is_true; and_intros <;> (first | rfl | assumption | (first | (apply is_true; and_intros <;> (first | rfl | assumption | (first | (apply is_true; and_intros <;> (first | rfl | assumption)))))))))))) ?_
  refine bifT (fun b1 => ?_) (fun b1 => ?_)
  · skip
    rfl
  · skip
    refine bifT (fun b2 => ?_) (fun b2 => ?_)
    · skip
      rfl
    · skip
      refine bifT (fun b3 => ?_) (fun b3 => ?_)
      · skip
        refine andT (by first | (apply is_true; and_intros <;> (first | rfl | assumption | (first | (apply is_true; and_intros <;> (first | rfl | assumption | (first | (apply is_true; and_intros <;> (first | rfl | assumption | (first | (apply is_true; and_intros <;> (first | rfl | assumption)))))))))))) ?_
        refine andT (by exact is_true (p := Typed tab (.slice 2) (.l D) ∧ D.length = C.length ∧ C.all (inR 1 40) = true) ⟨hD, lenEq b2, b3⟩) ?_
        refine bifT (fun b4 => ?_) (fun b4 => ?_)
        · skip
          refine andT (by exact is_true (p := (0 : Int) = 0 ∧ (gridL D C).length ≤ 140737488351232) ⟨rfl, gridL_len (by have := typed_room hD; simp only [show (tab 2).bytes = 8 from rfl] at this; omega)⟩) ?_
          refine bifT (fun b5 => ?_) (fun b5 => ?_)
          · skip
            refine andT (by exact is_true ⟨rfl, rfl, gridL_ty rfl hD⟩) ?_
            rfl
          · skip
            rfl
        · skip
          refine andT (by exact is_true (p := (0 : Int) = 0 ∧ (gridL D C).length ≤ 140737488351232) ⟨rfl, gridL_len (by have := typed_room hD; simp only [show (tab 2).bytes = 8 from rfl] at this; omega)⟩) ?_
          rfl
      · skip
        refine andT (by first | (apply is_true; and_intros <;> (first | rfl | assumption | (first | (apply is_true; and_intros <;> (first | rfl | assumption | (first | (apply is_true; and_intros <;> (first | rfl | assumption | (first | (apply is_true; and_intros <;> (first | rfl | assumption)))))))))))) ?_
        rfl
theorem qe_vv (D C : LL) : qe_v D C = chunkOk D C := by
  show (bif (!(qs_v D)) then false else bif (!((C.length : Int) == (D.length : Int))) then false else bif C.all (inR 1 40) then bif (gridL D C).all le16 then bif decide (prodL C ≤ 64) then decide (prodL (gridL D C) ≤ 256) else false else false else false) = _
  rw [qs_vv]
  unfold chunkOk
  cases hd : dimsOk D
  · rfl
  cases ((C.length : Int) == (D.length : Int))
  · rfl
  cases hc : C.all (inR 1 40)
  · rfl
  rw [grid_all (dimsOk_all hd) hc]
  cases (gridL D C).all (inR 0 16) <;> cases decide (prodL C ≤ 64) <;> rfl
abbrev qu_3_σ := LL × Int × LL × Int
abbrev qu_3_ω := (LL)
noncomputable def qu_3_step (A : LL) (q : Int) (X : LL) (i : Int) : Tr (qu_3_σ ⊕ qu_3_ω) := (.ite ((decide (i ≥ (0 : Int))) = true) (.ite ((0 : Int) ≤ i ∧ i < (A.length : Int)) (.ite ((nth (row A i) 0).int ≠ 0) (.ite ((0 : Int) ≤ i ∧ i < (X.length : Int)) (.ite ((0 : Int) ≤ i ∧ i < (A.length : Int)) (.ite ((nth (row A i) 0).int ≠ 0) (.ok (.inl (A, (IntKind.wrap .i64 (Int.tdiv q ((nth (row A i) 0).int))), (X.set (i).toNat (splice (row X i) 0 [TC.i (Int.tmod q ((nth (row A i) 0).int))])), (IntKind.wrap .i64 (i - (1 : Int))))))
       .no)
      .no)
     .no)
    .no)
   .no)
  (.ok (.inr X)))
noncomputable def qu_3_st : qu_3_σ → Tr (qu_3_σ ⊕ qu_3_ω) := fun x => (qu_3_step (x.1) (x.2.1) (x.2.2.1) (x.2.2.2))
noncomputable def qu_o3_1 (A : LL) (q : Int) (X : LL) (i : Int) : Bool := is (i = (A.length : Int) - 1 ∧ X = List.replicate A.length [TC.i (0 : Int)] ∧ Typed tab (.slice 2) (.l A) ∧ (∀ j : Nat, j < A.length → (nth (A.getD j []) 0).int ≠ 0))
noncomputable def qu_u3_1 (A : LL) (q : Int) (X : LL) (i : Int) : LL := coordsV A q
noncomputable def qu_3_fin (A : LL) (q : Int) (X : LL) (i : Int) : Told qu_3_ω := (.leaf (qu_o3_1 A q X i) (qu_u3_1 A q X i))
def qu_3_sl (x : qu_3_σ) : List Slot := [⟨.val false [⟨.slice 2, .sh, TC.l (x.1)⟩], ⟨0, 0⟩⟩, ⟨.val false [⟨.int .i64, .sh, TC.i (x.2.1)⟩], ⟨0, 0⟩⟩, ⟨.val false [⟨.slice 2, .own true, TC.l (x.2.2.1)⟩], ⟨0, 0⟩⟩, ⟨.val false [⟨.int .i64, .sh, TC.i (x.2.2.2)⟩], ⟨0, 0⟩⟩]
def qu_3_out : qu_3_ω → Ex × List Slot := (fun x => (.exit 0, [Slot.none, ⟨.val false [⟨.slice 2, .own true, TC.l x⟩], ⟨0, 0⟩⟩]))
noncomputable def qu_lo3 : List Slot → Option (Told (Ex × List Slot)) := fun s => match s with
  | [⟨.val false [⟨.slice 2, .sh, TC.l A⟩], ⟨0, 0⟩⟩, ⟨.val false [⟨.int .i64, .sh, TC.i q⟩], ⟨0, 0⟩⟩, ⟨.val false [⟨.slice 2, .own true, TC.l X⟩], ⟨0, 0⟩⟩, ⟨.val false [⟨.int .i64, .sh, TC.i i⟩], ⟨0, 0⟩⟩] => some (((qu_3_fin A q X i)).map qu_3_out)
  | _ => .none
noncomputable def qu_lo : LoopTeller := fun r s => bif Nat.beq r 3 then qu_lo3 s else .none
theorem qu_3_r (A : LL) (q : Int) (X : LL) (i : Int) (fuel : Nat) : rounds (rnd tab FT D6 live 72 qu_lo 0 3) leave (fuel + 1) (qu_3_sl (A, q, X, i)) = ((qu_3_step A q X i)).run (goOn (fun s => rounds (rnd tab FT D6 live 72 qu_lo 0 3) leave fuel (qu_3_sl s)) fun w => some (qu_3_out w)) := by kernel_rfl
theorem qu_3_h (A : LL) (q : Int) (X : LL) (i : Int) (ow : qu_3_ω) : ((qu_3_fin A q X i)).val = some ow → ∃ fuel, loopN qu_3_st fuel (A, q, X, i) = some ow := by
  intro h
  refine auto_leaf (R := coordsV A q) (fun ho => ?_) h
  obtain ⟨rfl, rfl, ht, hz⟩ := is_iff.1 ho
  have hlen : A.length ≤ 140737488351232 := by have := typed_room ht; simp only [show (tab 2).bytes = 8 from rfl] at this; omega
  have key := loopN_run (step := qu_3_st) (N := A.length) (fun k => (A, idxD A.length (dimD A) q k, crowR A q k, (A.length : Int) - 1 - (k : Int))) (w := coordsV A q) (fun k hk => ?_) ?_ A.length 0 (by omega)
  · refine ⟨_, Eq.trans (congrArg (loopN qu_3_st _) ?_) key⟩
    show (_, _, _, _) = (_, _, crowR A q 0, _)
    rw [← crowR_zero]
    simp [idxD]
  · have hi : (A.length : Int) - 1 - (k : Int) = ((A.length - 1 - k : Nat) : Int) := by omega
    have hr : (nth (row A ((A.length - 1 - k : Nat) : Int)) 0).int = dimD A (A.length - 1 - k) := rfl
    have hne : dimD A (A.length - 1 - k) ≠ 0 := hz _ (by omega)
    show (qu_3_step A (idxD A.length (dimD A) q k) (crowR A q k) ((A.length : Int) - 1 - (k : Int))).val = _
    rw [hi]
    unfold qu_3_step
    rw [hr]
    refine Tr.t (by simp) (Tr.t (by constructor <;> omega) (Tr.t hne (Tr.t (by rw [crowR_len]; constructor <;> omega) (Tr.t (by constructor <;> omega) (Tr.t hne ?_)))))
    have hsp : splice (row (crowR A q k) ((A.length - 1 - k : Nat) : Int)) 0 [TC.i (Int.tmod (idxD A.length (dimD A) q k) (dimD A (A.length - 1 - k)))] = [TC.i (crdD A.length (dimD A) q (A.length - 1 - k))] := by
      have h1 : row (crowR A q k) ((A.length - 1 - k : Nat) : Int) = [TC.i (if A.length - k ≤ A.length - 1 - k then crdD A.length (dimD A) q (A.length - 1 - k) else 0)] := by
        rw [row_nat, List.getD_eq_getElem?_getD, crowR_at (by omega)]; rfl
      rw [h1]
      unfold crdD
      rw [show A.length - 1 - (A.length - 1 - k) = k from by omega]
      rfl
    rw [Tr.val_ok, hsp, Int.toNat_natCast, crowR_set hk, wrap64 (i := ((A.length - 1 - k : Nat) : Int) - 1) (by omega) (by omega)]
    show some (Sum.inl (_, _, _, _)) = some (Sum.inl (_, _, _, _))
    rw [show ((A.length - 1 - k : Nat) : Int) - 1 = (A.length : Int) - 1 - ((k + 1 : Nat) : Int) from by omega]
    rfl
  · show (qu_3_step A (idxD A.length (dimD A) q A.length) (crowR A q A.length) ((A.length : Int) - 1 - (A.length : Int))).val = _
    unfold qu_3_step
    refine Tr.n (by first | (simp; done) | (simp; omega)) ?_
    rw [Tr.val_ok, crowR_all]
theorem qu_is3 : LoopIs tab FT D6 live 72 qu_lo 0 3 := by
  refine loop_told (sl := qu_3_sl) (step := qu_3_st) (out := qu_3_out) (lor := qu_lo3) (fin := fun x => (qu_3_fin (x.1) (x.2.1) (x.2.2.1) (x.2.2.2))) (fun _ => rfl) ?_ (fun x n => qu_3_r x.1 x.2.1 x.2.2.1 x.2.2.2 n) (fun x ow => qu_3_h x.1 x.2.1 x.2.2.1 x.2.2.2 ow)
  intro s t h
  unfold qu_lo3 at h
  split at h
  · cases h; exact ⟨(_, _, _, _), rfl, rfl⟩
  · cases h
noncomputable def qu_t (A : LL) (x : Int) : Tr (LL) := (.ite (0 ≤ (A.length : Int) ∧ (A.length : Int) ≤ (A.length : Int) ∧ (A.length : Int) * 8 ≤ 140737488355328 ∧ (A.length : Int) ≤ 140737488355328) (.ite ((qu_o3_1 A x (List.replicate ((A.length : Int)).toNat [TC.i (0 : Int)]) (IntKind.wrap .i64 ((A.length : Int) - (1 : Int)))) = true) (.ok (qu_u3_1 A x (List.replicate ((A.length : Int)).toNat [TC.i (0 : Int)]) (IntKind.wrap .i64 ((A.length : Int) - (1 : Int)))))
   .no)
  .no)
def qu_mk (p : LL) : Res := [(false, [⟨.slice 2, .own true, TC.l p⟩])]
noncomputable def qu_c (A : LL) (x : Int) : Bool := is (Typed tab (.slice 2) (.l A) ∧ (∀ j : Nat, j < A.length → (nth (A.getD j []) 0).int ≠ 0))
noncomputable def qu_v (A : LL) (x : Int) : LL := coordsV A x
theorem qu_l (A : LL) (x : Int) : (qu_c A x) = true → (qu_t A x).val = some (qu_v A x) := by
  intro h
  obtain ⟨ht, hz⟩ := is_iff.1 h
  have hlen := typed_room ht
  simp only [show (tab 2).bytes = 8 from rfl] at hlen
  unfold qu_t qu_v
  refine Tr.t (by omega) (Tr.t (is_true ⟨wrap64 (by omega) (by omega), by rw [Int.toNat_natCast], ht, hz⟩) ?_)
  rfl
noncomputable def qu_S : List Arg → Option (Bool × Res) := fun xs => match xs with
  | [(false, [(.slice 2, TC.l A)]), (false, [(.int .i64, TC.i x)])] => some ((qu_c A x), qu_mk (qu_v A x))
  | _ => .none
theorem qu_e (A : LL) (x : Int) : runF tab FT D6 live 72 qu_lo [(false, [(.slice 2, TC.l A)]), (false, [(.int .i64, TC.i x)])] = (qu_t A x).run fun p => some (qu_mk p) := by kernel_rfl
theorem qu_s : ∀ xs r, qu_S xs = some (true, r) → runF tab FT D6 live 72 qu_lo xs = some r := by
  intro xs r h
  unfold qu_S at h
  split at h
  · simp only [Option.some.injEq, Prod.mk.injEq] at h
    obtain ⟨h1, rfl⟩ := h
    exact fun_told (qu_e _ _) (qu_l _ _) h1
  · cases h
noncomputable def D7 : Dt := also D6 72 qu_S
theorem d7 : DOk Go.Proofs.Try.prog tab D7 := d6.also mixed_ok tab_ok names_ok (fnLoops_one (by kernel_rfl) qu_is3) qu_s
noncomputable def qx_f3 (A : LL) (i n : Int) : (Int) ⊕ ((Int)) := (.inl (IntKind.wrap .i64 ((IntKind.wrap .i64 ((16 : Int) * n)) + (nth (row A i) 0).int)))
noncomputable def qx_e3 (A : LL) (n : Int) : (Int) := n
noncomputable def qx_R3 (A : LL) (n i : Int) : (Int) := iter (fun i a => (qx_f3 A (i : Int) a)) (fun a => (qx_e3 A a)) (A.length) 0 n
abbrev qx_3_σ := LL × Int × Int
abbrev qx_3_ω := (Int)
noncomputable def qx_3_step (A : LL) (n i : Int) : Tr (qx_3_σ ⊕ qx_3_ω) := (.ite ((decide (i < (A.length : Int))) = true) (.ite ((0 : Int) ≤ i ∧ i < (A.length : Int)) (.ok (.inl (A, (IntKind.wrap .i64 ((IntKind.wrap .i64 ((16 : Int) * n)) + (nth (row A i) 0).int)), (IntKind.wrap .i64 (i + (1 : Int))))))
   .no)
  (.ok (.inr n)))
noncomputable def qx_3_st : qx_3_σ → Tr (qx_3_σ ⊕ qx_3_ω) := fun x => (qx_3_step (x.1) (x.2.1) (x.2.2))
noncomputable def qx_o3_1 (A : LL) (n i : Int) : Bool := is (i = 0 ∧ n = 0 ∧ A.length ≤ 140737488351232)
noncomputable def qx_u3_1 (A : LL) (n i : Int) : Int := (qx_R3 A n i)
noncomputable def qx_3_fin (A : LL) (n i : Int) : Told qx_3_ω := (.leaf (qx_o3_1 A n i) (qx_u3_1 A n i))
def qx_3_sl (x : qx_3_σ) : List Slot := [⟨.val false [⟨.slice 2, .sh, TC.l (x.1)⟩], ⟨0, 0⟩⟩, ⟨.val false [⟨.int .i64, .sh, TC.i (x.2.1)⟩], ⟨0, 0⟩⟩, ⟨.val false [⟨.int .i64, .sh, TC.i (x.2.2)⟩], ⟨0, 0⟩⟩]
def qx_3_out : qx_3_ω → Ex × List Slot := (fun x => (.exit 0, [Slot.none, ⟨.val false [⟨.int .i64, .sh, TC.i x⟩], ⟨0, 0⟩⟩]))
noncomputable def qx_lo3 : List Slot → Option (Told (Ex × List Slot)) := fun s => match s with
  | [⟨.val false [⟨.slice 2, .sh, TC.l A⟩], ⟨0, 0⟩⟩, ⟨.val false [⟨.int .i64, .sh, TC.i n⟩], ⟨0, 0⟩⟩, ⟨.val false [⟨.int .i64, .sh, TC.i i⟩], ⟨0, 0⟩⟩] => some (((qx_3_fin A n i)).map qx_3_out)
  | _ => .none
noncomputable def qx_lo : LoopTeller := fun r s => bif Nat.beq r 3 then qx_lo3 s else .none
theorem qx_3_r (A : LL) (n i : Int) (fuel : Nat) : rounds (rnd tab FT D7 live 99 qx_lo 0 3) leave (fuel + 1) (qx_3_sl (A, n, i)) = ((qx_3_step A n i)).run (goOn (fun s => rounds (rnd tab FT D7 live 99 qx_lo 0 3) leave fuel (qx_3_sl s)) fun w => some (qx_3_out w)) := by kernel_rfl
theorem qx_R3_eq (A : LL) : qx_R3 A 0 0 = keyL A := by
  unfold qx_R3
  refine (iter_each (g := (fun i n => IntKind.wrap .i64 ((IntKind.wrap .i64 (n * 16)) + (nth (row A (i : Int)) 0).int))) (fin := fun a => qx_e3 A a) fun j a hj => ?_)
  unfold qx_f3
  rw [Int.mul_comm 16 a]
theorem qx_3_h (A : LL) (n i : Int) (ow : qx_3_ω) : ((qx_3_fin A n i)).val = some ow → ∃ fuel, loopN qx_3_st fuel (A, n, i) = some ow := by
  refine auto_leaf (R := (qx_R3 A n i)) ?_
  intro ho
  have ho : is (i = 0 ∧ n = 0 ∧ A.length ≤ 140737488351232) = true := ho
  obtain ⟨rfl, rfl, hlen⟩ := is_iff.1 ho
  skip
  refine ⟨(A.length) + 1, ?_⟩
  refine iter_loop (step := qx_3_st) (A.length) (fun i a => (qx_f3 A (i : Int) a)) (fun a => (qx_e3 A a)) (fun i a => (A, a, (i : Int))) (fun _ _ => True) trivial (fun i a hi hI => ⟨?_, fun _ _ => trivial⟩) (fun a hI => ?_)
  · show (qx_3_step A a (i : Int)).val = _
    unfold qx_3_step qx_f3
    skip
    refine Tr.t (by simp; omega) ?_
    exact (Tr.t (by first | omega | (constructor <;> omega)) (by rw [Tr.val_ok, wrap64 (i := (i : Int) + 1) (by omega) (by omega)]; rfl))
  · show (qx_3_step A a (A.length : Int)).val = _
    refine Tr.n (by first | (simp; done) | (simp; omega) | omega) ?_
    rfl
theorem qx_is3 : LoopIs tab FT D7 live 99 qx_lo 0 3 := by
  refine loop_told (sl := qx_3_sl) (step := qx_3_st) (out := qx_3_out) (lor := qx_lo3) (fin := fun x => (qx_3_fin (x.1) (x.2.1) (x.2.2))) (fun _ => rfl) ?_ (fun x n => qx_3_r x.1 x.2.1 x.2.2 n) (fun x ow => qx_3_h x.1 x.2.1 x.2.2 ow)
  intro s t h
  unfold qx_lo3 at h
  split at h
  · cases h; exact ⟨(_, _, _), rfl, rfl⟩
  · cases h
noncomputable def qx_t (A : LL) : Tr (Int) := (.ite ((qx_o3_1 A (0 : Int) (0 : Int)) = true) (.ok (qx_u3_1 A (0 : Int) (0 : Int)))
  .no)
def qx_mk (p : Int) : Res := [(false, [⟨.int .i64, .sh, TC.i p⟩])]
noncomputable def qx_c (A : LL) : Bool := (qx_o3_1 A (0 : Int) (0 : Int))
noncomputable def qx_v (A : LL) : Int := (qx_u3_1 A (0 : Int) (0 : Int))
theorem qx_l (A : LL) : (qx_c A) = true → (qx_t A).val = some (qx_v A) := by
  intro h
  have hc0 : (qx_o3_1 A (0 : Int) (0 : Int)) = true := h
  unfold qx_t
  exact (Tr.t hc0 rfl)
noncomputable def qx_S : List Arg → Option (Bool × Res) := fun xs => match xs with
  | [(false, [(.slice 2, TC.l A)])] => some ((qx_c A), qx_mk (qx_v A))
  | _ => .none
theorem qx_e (A : LL) : runF tab FT D7 live 99 qx_lo [(false, [(.slice 2, TC.l A)])] = (qx_t A).run fun p => some (qx_mk p) := by kernel_rfl
theorem qx_s : ∀ xs r, qx_S xs = some (true, r) → runF tab FT D7 live 99 qx_lo xs = some r := by
  intro xs r h
  unfold qx_S at h
  split at h
  · simp only [Option.some.injEq, Prod.mk.injEq] at h
    obtain ⟨h1, rfl⟩ := h
    exact fun_told (qx_e _) (qx_l _) h1
  · cases h
noncomputable def D8 : Dt := also D7 99 qx_S
theorem d8 : DOk Go.Proofs.Try.prog tab D8 := d7.also mixed_ok tab_ok names_ok (fnLoops_one (by kernel_rfl) qx_is3) qx_s
theorem qx_vv (A : LL) : qx_v A = keyL A := qx_R3_eq A
abbrev qf_4_σ := LL × LL × Int
abbrev qf_4_ω := (LL)
noncomputable def qf_4_step (g X : LL) (i : Int) : Tr (qf_4_σ ⊕ qf_4_ω) := (.ite ((qv_c g) = true) (.ite ((decide (i < (qv_v g))) = true) (.ite ((qu_c g i) = true) (.ite ((qx_c (qu_v g i)) = true) (.ite (roomFor (tab 2) (X ++ [[TC.i (qx_v (qu_v g i))]]).length) (.ok (.inl (g, (X ++ [[TC.i (qx_v (qu_v g i))]]), (IntKind.wrap .i64 (i + (1 : Int))))))
      .no)
     .no)
    .no)
   (.ok (.inr X)))
  .no)
noncomputable def qf_4_st : qf_4_σ → Tr (qf_4_σ ⊕ qf_4_ω) := fun x => (qf_4_step (x.1) (x.2.1) (x.2.2))
noncomputable def qf_o4_1 (g X : LL) (i : Int) : Bool := is (X = [] ∧ i = 0 ∧ prodL g ≤ 100000 ∧ Typed tab (.slice 2) (.l g) ∧ (0 < prodL g → ∀ j : Nat, j < g.length → (nth (g.getD j []) 0).int ≠ 0))
noncomputable def qf_u4_1 (g X : LL) (i : Int) : LL := keysL g (prodL g).toNat
noncomputable def qf_4_fin (g X : LL) (i : Int) : Told qf_4_ω := (.leaf (qf_o4_1 g X i) (qf_u4_1 g X i))
def qf_4_sl (x : qf_4_σ) : List Slot := [⟨.val false [⟨.slice 2, .own true, TC.l (x.1)⟩], ⟨0, 0⟩⟩, ⟨.val false [⟨.slice 2, .own true, TC.l (x.2.1)⟩], ⟨0, 0⟩⟩, ⟨.val false [⟨.int .i64, .sh, TC.i (x.2.2)⟩], ⟨0, 0⟩⟩]
def qf_4_out : qf_4_ω → Ex × List Slot := (fun x => (.exit 0, [Slot.none, ⟨.val false [⟨.slice 2, .own true, TC.l x⟩], ⟨0, 0⟩⟩]))
noncomputable def qf_lo4 : List Slot → Option (Told (Ex × List Slot)) := fun s => match s with
  | [⟨.val false [⟨.slice 2, .own true, TC.l g⟩], ⟨0, 0⟩⟩, ⟨.val false [⟨.slice 2, .own true, TC.l X⟩], ⟨0, 0⟩⟩, ⟨.val false [⟨.int .i64, .sh, TC.i i⟩], ⟨0, 0⟩⟩] => some (((qf_4_fin g X i)).map qf_4_out)
  | _ => .none
noncomputable def qf_lo : LoopTeller := fun r s => bif Nat.beq r 4 then qf_lo4 s else .none
theorem qf_4_r (g X : LL) (i : Int) (fuel : Nat) : rounds (rnd tab FT D8 live 53 qf_lo 0 4) leave (fuel + 1) (qf_4_sl (g, X, i)) = ((qf_4_step g X i)).run (goOn (fun s => rounds (rnd tab FT D8 live 53 qf_lo 0 4) leave fuel (qf_4_sl s)) fun w => some (qf_4_out w)) := by kernel_rfl
theorem qf_4_h (g X : LL) (i : Int) (ow : qf_4_ω) : ((qf_4_fin g X i)).val = some ow → ∃ fuel, loopN qf_4_st fuel (g, X, i) = some ow := by
  intro h
  refine auto_leaf (R := keysL g (prodL g).toNat) (fun ho => ?_) h
  obtain ⟨rfl, rfl, hM, ht, hz⟩ := is_iff.1 ho
  have hlen := typed_room ht
  simp only [show (tab 2).bytes = 8 from rfl] at hlen
  have key := loopN_run (step := qf_4_st) (N := (prodL g).toNat) (fun k => (g, keysL g k, (k : Int))) (w := keysL g (prodL g).toNat) (fun k hk => ?_) ?_ (prodL g).toNat 0 (by omega)
  · exact ⟨_, Eq.trans (congrArg (loopN qf_4_st _) (by simp [keysL])) key⟩
  · have hz' := hz (by omega)
    show (qf_4_step g (keysL g k) (k : Int)).val = _
    unfold qf_4_step
    refine Tr.t (is_true ⟨rfl, rfl, ht⟩) ?_
    refine Tr.t (by rw [show qv_v g = prodL g from rfl]; simp; omega) (Tr.t (is_true ⟨ht, hz'⟩) ?_)
    rw [show qu_v g (k : Int) = coordsV g (k : Int) from rfl, qx_vv]
    refine Tr.t (is_true (by and_intros <;> first | rfl | (rw [coordsV_len]; omega) | (rw [coordsV_len]))) (Tr.t ?_ ?_)
    · unfold roomFor
      simp only [show (tab 2).bytes = 8 from rfl, List.length_append, List.length_singleton, keysL_len]
      omega
    · rw [Tr.val_ok, keysL_succ, wrap64 (i := (k : Int) + 1) (by omega) (by omega)]; rfl
  · show (qf_4_step g (keysL g (prodL g).toNat) (((prodL g).toNat : Nat) : Int)).val = _
    unfold qf_4_step
    refine Tr.t (is_true ⟨rfl, rfl, ht⟩) ?_
    refine Tr.n (by rw [show qv_v g = prodL g from rfl]; simp; omega) ?_
    rfl
theorem qf_is4 : LoopIs tab FT D8 live 53 qf_lo 0 4 := by
  refine loop_told (sl := qf_4_sl) (step := qf_4_st) (out := qf_4_out) (lor := qf_lo4) (fin := fun x => (qf_4_fin (x.1) (x.2.1) (x.2.2))) (fun _ => rfl) ?_ (fun x n => qf_4_r x.1 x.2.1 x.2.2 n) (fun x ow => qf_4_h x.1 x.2.1 x.2.2 ow)
  intro s t h
  unfold qf_lo4 at h
  split at h
  · cases h; exact ⟨(_, _, _), rfl, rfl⟩
  · cases h
noncomputable def qf_t (D C : LL) : Tr (LL) := (.ite ((qw_c D C) = true) (.ite ((qf_o4_1 (qw_v D C) [] (0 : Int)) = true) (.ok (qf_u4_1 (qw_v D C) [] (0 : Int)))
   .no)
  .no)
def qf_mk (p : LL) : Res := [(false, [⟨.slice 2, .own true, TC.l p⟩])]
noncomputable def qf_c (D C : LL) : Bool := ((qw_c D C) && ((qf_o4_1 (qw_v D C) [] (0 : Int)) && true))
noncomputable def qf_v (D C : LL) : LL := (qf_u4_1 (qw_v D C) [] (0 : Int))
theorem qf_l (D C : LL) : (qf_c D C) = true → (qf_t D C).val = some (qf_v D C) := by
  unfold qf_t qf_v qf_c
  exact fun h => (Tr.gb h fun h => (Tr.gb h fun h => rfl))
noncomputable def qf_S : List Arg → Option (Bool × Res) := fun xs => match xs with
  | [(false, [(.slice 2, TC.l D)]), (false, [(.slice 2, TC.l C)])] => some ((qf_c D C), qf_mk (qf_v D C))
  | _ => .none
theorem qf_e (D C : LL) : runF tab FT D8 live 53 qf_lo [(false, [(.slice 2, TC.l D)]), (false, [(.slice 2, TC.l C)])] = (qf_t D C).run fun p => some (qf_mk p) := by kernel_rfl
theorem qf_s : ∀ xs r, qf_S xs = some (true, r) → runF tab FT D8 live 53 qf_lo xs = some r := by
  intro xs r h
  unfold qf_S at h
  split at h
  · simp only [Option.some.injEq, Prod.mk.injEq] at h
    obtain ⟨h1, rfl⟩ := h
    exact fun_told (qf_e _ _) (qf_l _ _) h1
  · cases h
noncomputable def D9 : Dt := also D8 53 qf_S
theorem d9 : DOk Go.Proofs.Try.prog tab D9 := d8.also mixed_ok tab_ok names_ok (fnLoops_one (by kernel_rfl) qf_is4) qf_s
theorem qf_cc {D : LL} {C : LL} (hD : Typed tab (.slice 2) (.l D)) (hk : chunkOk D C = true) : (qf_c D C) = true := by
  unfold qf_c
  refine andT (by have hp := chunkOk_parts hk; exact is_true (p := Typed tab (.slice 2) (.l D) ∧ D.length = C.length ∧ C.all (inR 1 40) = true) ⟨hD, hp.1, hp.2.1⟩) ?_
  refine andT (by exact is_true ⟨rfl, rfl, keys_num hk, gridL_ty rfl hD, fun h => prod_pos h⟩) ?_
  rfl
theorem qf_vv (D C : LL) : qf_v D C = keysL (gridL D C) (prodL (gridL D C)).toNat := rfl
abbrev qi_2_σ := LL × Int × Int
abbrev qi_2_ω := (Unit) ⊕ (Unit)
noncomputable def qi_2_step (A : LL) (v i : Int) : Tr (qi_2_σ ⊕ qi_2_ω) := (.ite ((decide (i < (A.length : Int))) = true) (.ite ((0 : Int) ≤ i ∧ i < (A.length : Int)) (.ite (((nth (row A i) 0).int == v) = true) (.ok (.inr (.inl ())))
    (.ok (.inl (A, v, (IntKind.wrap .i64 (i + (1 : Int)))))))
   .no)
  (.ok (.inr (.inr ()))))
noncomputable def qi_2_st : qi_2_σ → Tr (qi_2_σ ⊕ qi_2_ω) := fun x => (qi_2_step (x.1) (x.2.1) (x.2.2))
noncomputable def qi_k2_1 (A : LL) (v i : Int) : Bool := A.all (fun x => !((nth x 0).int == v))
noncomputable def qi_o2_2 (A : LL) (v i : Int) : Bool := is (i = 0 ∧ A.length ≤ 140737488351232)
noncomputable def qi_o2_3 (A : LL) (v i : Int) : Bool := is (i = 0 ∧ A.length ≤ 140737488351232)
noncomputable def qi_2_fin (A : LL) (v i : Int) : Told qi_2_ω := (.br (qi_k2_1 A v i) (.leaf (qi_o2_2 A v i) (.inr ())) (.leaf (qi_o2_3 A v i) (.inl ())))
def qi_2_sl (x : qi_2_σ) : List Slot := [⟨.val false [⟨.slice 2, .sh, TC.l (x.1)⟩], ⟨0, 0⟩⟩, ⟨.val false [⟨.int .i64, .sh, TC.i (x.2.1)⟩], ⟨0, 0⟩⟩, ⟨.val false [⟨.int .i64, .sh, TC.i (x.2.2)⟩], ⟨0, 0⟩⟩]
def qi_2_out : qi_2_ω → Ex × List Slot := (Sum.elim (fun x => (.ret, [⟨.val false [⟨.bool, .sh, TC.b true⟩], ⟨0, 0⟩⟩])) (fun x => (.exit 0, [Slot.none])))
noncomputable def qi_lo2 : List Slot → Option (Told (Ex × List Slot)) := fun s => match s with
  | [⟨.val false [⟨.slice 2, .sh, TC.l A⟩], ⟨0, 0⟩⟩, ⟨.val false [⟨.int .i64, .sh, TC.i v⟩], ⟨0, 0⟩⟩, ⟨.val false [⟨.int .i64, .sh, TC.i i⟩], ⟨0, 0⟩⟩] => some (((qi_2_fin A v i)).map qi_2_out)
  | _ => .none
noncomputable def qi_lo : LoopTeller := fun r s => bif Nat.beq r 2 then qi_lo2 s else .none
theorem qi_2_r (A : LL) (v i : Int) (fuel : Nat) : rounds (rnd tab FT D9 live 56 qi_lo 0 2) leave (fuel + 1) (qi_2_sl (A, v, i)) = ((qi_2_step A v i)).run (goOn (fun s => rounds (rnd tab FT D9 live 56 qi_lo 0 2) leave fuel (qi_2_sl s)) fun w => some (qi_2_out w)) := by kernel_rfl
theorem qi_2_h (A : LL) (v i : Int) (ow : qi_2_ω) : ((qi_2_fin A v i)).val = some ow → ∃ fuel, loopN qi_2_st fuel (A, v, i) = some ow := by
  intro h
  have key : A.length ≤ 140737488351232 → loopN qi_2_st (A.length + 1) (A, v, (0 : Int)) = some (if A.all (fun x => !((nth x 0).int == v)) = true then (.inr ()) else (.inl ())) := by
    intro ht
    have hlen : A.length ≤ 140737488351232 := ht
    have key := loopN_scan (step := qi_2_st) A [] (fun x => !((nth x 0).int == v)) (fun a _ => a) (fun i a => (A, v, (i : Int))) (fun a => (.inr ())) (fun i a => (.inl ())) (fun i a hi => ?_) (fun a => ?_) A.length 0 () (by omega)
    · first | (rw [Nat.zero_add] at key; exact key) | exact key
    · skip
      show (qi_2_step A v (i : Int)).val = _
      unfold qi_2_step
      refine Tr.t (by simp; omega) ?_
      skip
      refine Tr.t (by first | omega | (constructor <;> omega)) ?_
      refine Tr.b2 (fun hP => ?_) (fun _ => rfl)
      rw [Tr.val_ok, wrap64 (i := (i : Int) + 1) (by omega) (by omega)]; rfl
    · show (qi_2_step A v (A.length : Int)).val = _
      refine Tr.n (by simp) ?_
      rfl
  simp only [qi_2_fin, Told.val] at h
  cases hk : A.all (fun x => !((nth x 0).int == v)) with
  | true =>
    rw [if_pos (show qi_k2_1 A v i = true from hk)] at h
    split at h
    · rename_i ho
      obtain ⟨rfl, ht⟩ := is_iff.1 ho
      cases h
      refine ⟨_, (key ht).trans ?_⟩
      rw [hk]; rfl
    · cases h
  | false =>
    rw [if_neg (show ¬qi_k2_1 A v i = true from by rw [show qi_k2_1 A v i = (A.all (fun x => !((nth x 0).int == v))) from rfl, hk]; simp)] at h
    split at h
    · rename_i ho
      obtain ⟨rfl, ht⟩ := is_iff.1 ho
      cases h
      refine ⟨_, (key ht).trans ?_⟩
      rw [hk]; rfl
    · cases h
theorem qi_is2 : LoopIs tab FT D9 live 56 qi_lo 0 2 := by
  refine loop_told (sl := qi_2_sl) (step := qi_2_st) (out := qi_2_out) (lor := qi_lo2) (fin := fun x => (qi_2_fin (x.1) (x.2.1) (x.2.2))) (fun _ => rfl) ?_ (fun x n => qi_2_r x.1 x.2.1 x.2.2 n) (fun x ow => qi_2_h x.1 x.2.1 x.2.2 ow)
  intro s t h
  unfold qi_lo2 at h
  split at h
  · cases h; exact ⟨(_, _, _), rfl, rfl⟩
  · cases h
noncomputable def qi_t (A : LL) (v : Int) : Tr (Bool) := (.ite ((qi_k2_1 A v (0 : Int)) = true) (.ite ((qi_o2_2 A v (0 : Int)) = true) (.ok false)
   .no)
  (.ite ((qi_o2_3 A v (0 : Int)) = true) (.ok true)
   .no))
def qi_mk (p : Bool) : Res := [(false, [⟨.bool, .sh, TC.b p⟩])]
noncomputable def qi_c (A : LL) (v : Int) : Bool := (bif (qi_k2_1 A v (0 : Int)) then ((qi_o2_2 A v (0 : Int)) && true) else ((qi_o2_3 A v (0 : Int)) && true))
noncomputable def qi_v (A : LL) (v : Int) : Bool := (bif (qi_k2_1 A v (0 : Int)) then false else true)
theorem qi_l (A : LL) (v : Int) : (qi_c A v) = true → (qi_t A v).val = some (qi_v A v) := by
  unfold qi_t qi_v qi_c
  exact fun h => (Tr.ss h (fun h => (Tr.gb h fun h => rfl)) (fun h => (Tr.gb h fun h => rfl)))
noncomputable def qi_S : List Arg → Option (Bool × Res) := fun xs => match xs with
  | [(false, [(.slice 2, TC.l A)]), (false, [(.int .i64, TC.i v)])] => some ((qi_c A v), qi_mk (qi_v A v))
  | _ => .none
theorem qi_e (A : LL) (v : Int) : runF tab FT D9 live 56 qi_lo [(false, [(.slice 2, TC.l A)]), (false, [(.int .i64, TC.i v)])] = (qi_t A v).run fun p => some (qi_mk p) := by kernel_rfl
theorem qi_s : ∀ xs r, qi_S xs = some (true, r) → runF tab FT D9 live 56 qi_lo xs = some r := by
  intro xs r h
  unfold qi_S at h
  split at h
  · simp only [Option.some.injEq, Prod.mk.injEq] at h
    obtain ⟨h1, rfl⟩ := h
    exact fun_told (qi_e _ _) (qi_l _ _) h1
  · cases h
noncomputable def D10 : Dt := also D9 56 qi_S
theorem d10 : DOk Go.Proofs.Try.prog tab D10 := d9.also mixed_ok tab_ok names_ok (fnLoops_one (by kernel_rfl) qi_is2) qi_s
theorem qi_cc {A : LL} {v : Int} (hl : A.length ≤ 140737488351232) : (qi_c A v) = true := by
  unfold qi_c
  refine bifT (fun b1 => ?_) (fun b1 => ?_)
  · skip
    refine andT (by exact is_true ⟨rfl, hl⟩) ?_
    rfl
  · skip
    refine andT (by exact is_true ⟨rfl, hl⟩) ?_
    rfl
noncomputable def qn_t (D C : LL) (q : Int) : Tr (Bool) := (.ite ((qe_c D C) = true) (.ite ((qe_v D C) = true) (.ite ((qf_c D C) = true) (.ite ((qi_c (qf_v D C) q) = true) (.ok (qi_v (qf_v D C) q))
     .no)
    .no)
   (.ok false))
  .no)
def qn_mk (p : Bool) : Res := [(false, [⟨.bool, .sh, TC.b p⟩])]
noncomputable def qn_c (D C : LL) (q : Int) : Bool := ((qe_c D C) && (bif (qe_v D C) then ((qf_c D C) && ((qi_c (qf_v D C) q) && true)) else true))
noncomputable def qn_v (D C : LL) (q : Int) : Bool := (bif (qe_v D C) then (qi_v (qf_v D C) q) else false)
theorem qn_l (D C : LL) (q : Int) : (qn_c D C q) = true → (qn_t D C q).val = some (qn_v D C q) := by
  unfold qn_t qn_v qn_c
  exact fun h => (Tr.gb h fun h => (Tr.ss h (fun h => (Tr.gb h fun h => (Tr.gb h fun h => rfl))) (fun h => rfl)))
noncomputable def qn_S : List Arg → Option (Bool × Res) := fun xs => match xs with
  | [(false, [(.slice 2, TC.l D)]), (false, [(.slice 2, TC.l C)]), (false, [(.int .i64, TC.i q)])] => some ((qn_c D C q), qn_mk (qn_v D C q))
  | _ => .none
theorem qn_e (D C : LL) (q : Int) : runF tab FT D10 live 58 noLoops [(false, [(.slice 2, TC.l D)]), (false, [(.slice 2, TC.l C)]), (false, [(.int .i64, TC.i q)])] = (qn_t D C q).run fun p => some (qn_mk p) := by kernel_rfl
theorem qn_s : ∀ xs r, qn_S xs = some (true, r) → runF tab FT D10 live 58 noLoops xs = some r := by
  intro xs r h
  unfold qn_S at h
  split at h
  · simp only [Option.some.injEq, Prod.mk.injEq] at h
    obtain ⟨h1, rfl⟩ := h
    exact fun_told (qn_e _ _ _) (qn_l _ _ _) h1
  · cases h
noncomputable def D11 : Dt := also D10 58 qn_S
theorem d11 : DOk Go.Proofs.Try.prog tab D11 := d10.also mixed_ok tab_ok names_ok noLoops_ok qn_s
theorem qn_cc {D : LL} {C : LL} {q : Int} (hD : Typed tab (.slice 2) (.l D)) (hC : Typed tab (.slice 2) (.l C)) : (qn_c D C q) = true := by
  unfold qn_c
  refine andT (by exact qe_cc hD hC) ?_
  refine bifT (fun b1 => ?_) (fun b1 => ?_)
  · skip
    refine andT (by exact qf_cc hD ((qe_vv _ _).symm.trans b1)) ?_
    refine andT (by exact qi_cc (by have := keysG_ty (e := 2) rfl rfl ((qe_vv _ _).symm.trans b1); have := typed_room this; simp only [show (tab 2).bytes = 8 from rfl] at this; show (keysG D C).length ≤ _; omega)) ?_
    rfl
  · skip
    rfl
theorem qn_vv (D C : LL) (q : Int) : qn_v D C q = (chunkOk D C && hasK (keysG D C) q) := by
  unfold qn_v
  rw [qe_vv]
  show (bif chunkOk D C then (bif (keysG D C).all (fun x => !((nth x 0).int == q)) then false else true) else false) = _
  unfold hasK
  cases chunkOk D C <;> cases (keysG D C).all (fun x => !((nth x 0).int == q)) <;> rfl
abbrev qd_3_σ := Int × LL × Int
abbrev qd_3_ω := (LL)
noncomputable def qd_3_step (q : Int) (X : LL) (i : Int) : Tr (qd_3_σ ⊕ qd_3_ω) := (.ite ((decide (i ≥ (0 : Int))) = true) (.ite ((0 : Int) ≤ i ∧ i < (X.length : Int)) (.ok (.inl ((IntKind.wrap .i64 (Int.tdiv q (16 : Int))), (X.set (i).toNat (splice (row X i) 0 [TC.i (Int.tmod q (16 : Int))])), (IntKind.wrap .i64 (i - (1 : Int))))))
   .no)
  (.ok (.inr X)))
noncomputable def qd_3_st : qd_3_σ → Tr (qd_3_σ ⊕ qd_3_ω) := fun x => (qd_3_step (x.1) (x.2.1) (x.2.2))
noncomputable def qd_o3_1 (q : Int) (X : LL) (i : Int) : Bool := is (X = List.replicate X.length [TC.i (0 : Int)] ∧ i = (X.length : Int) - 1 ∧ X.length ≤ 100000)
noncomputable def qd_u3_1 (q : Int) (X : LL) (i : Int) : LL := coordsV (List.replicate X.length [TC.i (16 : Int)]) q
noncomputable def qd_3_fin (q : Int) (X : LL) (i : Int) : Told qd_3_ω := (.leaf (qd_o3_1 q X i) (qd_u3_1 q X i))
def qd_3_sl (x : qd_3_σ) : List Slot := [⟨.val false [⟨.int .i64, .sh, TC.i (x.1)⟩], ⟨0, 0⟩⟩, ⟨.val false [⟨.slice 2, .own true, TC.l (x.2.1)⟩], ⟨0, 0⟩⟩, ⟨.val false [⟨.int .i64, .sh, TC.i (x.2.2)⟩], ⟨0, 0⟩⟩]
def qd_3_out : qd_3_ω → Ex × List Slot := (fun x => (.exit 0, [Slot.none, ⟨.val false [⟨.slice 2, .own true, TC.l x⟩], ⟨0, 0⟩⟩]))
noncomputable def qd_lo3 : List Slot → Option (Told (Ex × List Slot)) := fun s => match s with
  | [⟨.val false [⟨.int .i64, .sh, TC.i q⟩], ⟨0, 0⟩⟩, ⟨.val false [⟨.slice 2, .own true, TC.l X⟩], ⟨0, 0⟩⟩, ⟨.val false [⟨.int .i64, .sh, TC.i i⟩], ⟨0, 0⟩⟩] => some (((qd_3_fin q X i)).map qd_3_out)
  | _ => .none
noncomputable def qd_lo : LoopTeller := fun r s => bif Nat.beq r 3 then qd_lo3 s else .none
theorem qd_3_r (q : Int) (X : LL) (i : Int) (fuel : Nat) : rounds (rnd tab FT D11 live 105 qd_lo 0 3) leave (fuel + 1) (qd_3_sl (q, X, i)) = ((qd_3_step q X i)).run (goOn (fun s => rounds (rnd tab FT D11 live 105 qd_lo 0 3) leave fuel (qd_3_sl s)) fun w => some (qd_3_out w)) := by kernel_rfl
theorem qd_3_h (q : Int) (X : LL) (i : Int) (ow : qd_3_ω) : ((qd_3_fin q X i)).val = some ow → ∃ fuel, loopN qd_3_st fuel (q, X, i) = some ow := by
  intro h
  refine auto_leaf (R := coordsV (List.replicate X.length [TC.i (16 : Int)]) q) (fun ho => ?_) h
  obtain ⟨hX, rfl, hlen⟩ := is_iff.1 ho
  generalize X.length = n at hX hlen ⊢
  obtain ⟨A, hA16, hAl⟩ : ∃ A : LL, A = List.replicate n [TC.i (16 : Int)] ∧ n = A.length := ⟨_, rfl, by simp⟩
  rw [← hA16]
  subst hAl
  subst hX
  have hd : ∀ j, j < A.length → dimD A j = 16 := fun j hj => by
    have e : A.getD j [] = [TC.i (16 : Int)] := by rw [hA16, List.getD_eq_getElem?_getD, List.getElem?_replicate, if_pos hj]; rfl
    show (nth (A.getD j []) 0).int = 16
    rw [e]; rfl
  have key := loopN_run (step := qd_3_st) (N := A.length) (fun k => (idxD A.length (dimD A) q k, crowR A q k, (A.length : Int) - 1 - (k : Int))) (w := coordsV A q) (fun k hk => ?_) ?_ A.length 0 (by omega)
  · refine ⟨_, Eq.trans (congrArg (loopN qd_3_st _) ?_) key⟩
    show (_, _, _) = (_, crowR A q 0, _)
    rw [← crowR_zero]
    simp [idxD]
  · have hi : (A.length : Int) - 1 - (k : Int) = ((A.length - 1 - k : Nat) : Int) := by omega
    have hr := hd (A.length - 1 - k) (by omega)
    show (qd_3_step (idxD A.length (dimD A) q k) (crowR A q k) ((A.length : Int) - 1 - (k : Int))).val = _
    rw [hi]
    unfold qd_3_step
    rw [← hr]
    refine Tr.t (by simp) (Tr.t (by rw [crowR_len]; constructor <;> omega) ?_)
    have hsp : splice (row (crowR A q k) ((A.length - 1 - k : Nat) : Int)) 0 [TC.i (Int.tmod (idxD A.length (dimD A) q k) (dimD A (A.length - 1 - k)))] = [TC.i (crdD A.length (dimD A) q (A.length - 1 - k))] := by
      have h1 : row (crowR A q k) ((A.length - 1 - k : Nat) : Int) = [TC.i (if A.length - k ≤ A.length - 1 - k then crdD A.length (dimD A) q (A.length - 1 - k) else 0)] := by
        rw [row_nat, List.getD_eq_getElem?_getD, crowR_at (by omega)]; rfl
      rw [h1]
      unfold crdD
      rw [show A.length - 1 - (A.length - 1 - k) = k from by omega]
      rfl
    rw [Tr.val_ok, hsp, Int.toNat_natCast, crowR_set hk, wrap64 (i := ((A.length - 1 - k : Nat) : Int) - 1) (by omega) (by omega)]
    show some (Sum.inl (_, _, _)) = some (Sum.inl (_, _, _))
    rw [show ((A.length - 1 - k : Nat) : Int) - 1 = (A.length : Int) - 1 - ((k + 1 : Nat) : Int) from by omega]
    rfl
  · show (qd_3_step (idxD A.length (dimD A) q A.length) (crowR A q A.length) ((A.length : Int) - 1 - (A.length : Int))).val = _
    unfold qd_3_step
    refine Tr.n (by first | (simp; done) | (simp; omega)) ?_
    rw [Tr.val_ok, crowR_all]
theorem qd_is3 : LoopIs tab FT D11 live 105 qd_lo 0 3 := by
  refine loop_told (sl := qd_3_sl) (step := qd_3_st) (out := qd_3_out) (lor := qd_lo3) (fin := fun x => (qd_3_fin (x.1) (x.2.1) (x.2.2))) (fun _ => rfl) ?_ (fun x n => qd_3_r x.1 x.2.1 x.2.2 n) (fun x ow => qd_3_h x.1 x.2.1 x.2.2 ow)
  intro s t h
  unfold qd_lo3 at h
  split at h
  · cases h; exact ⟨(_, _, _), rfl, rfl⟩
  · cases h
noncomputable def qd_t (n q : Int) : Tr (LL) := (.ite (0 ≤ n ∧ n ≤ n ∧ n * 8 ≤ 140737488355328 ∧ n ≤ 140737488355328) (.ite ((qd_o3_1 q (List.replicate (n).toNat [TC.i (0 : Int)]) (IntKind.wrap .i64 (n - (1 : Int)))) = true) (.ok (qd_u3_1 q (List.replicate (n).toNat [TC.i (0 : Int)]) (IntKind.wrap .i64 (n - (1 : Int)))))
   .no)
  .no)
def qd_mk (p : LL) : Res := [(false, [⟨.slice 2, .own true, TC.l p⟩])]
noncomputable def qd_c (n q : Int) : Bool := (is (0 ≤ n ∧ n ≤ n ∧ n * 8 ≤ 140737488355328 ∧ n ≤ 140737488355328) && ((qd_o3_1 q (List.replicate (n).toNat [TC.i (0 : Int)]) (IntKind.wrap .i64 (n - (1 : Int)))) && true))
noncomputable def qd_v (n q : Int) : LL := (qd_u3_1 q (List.replicate (n).toNat [TC.i (0 : Int)]) (IntKind.wrap .i64 (n - (1 : Int))))
theorem qd_l (n q : Int) : (qd_c n q) = true → (qd_t n q).val = some (qd_v n q) := by
  unfold qd_t qd_v qd_c
  exact fun h => (Tr.gs h fun h => (Tr.gb h fun h => rfl))
noncomputable def qd_S : List Arg → Option (Bool × Res) := fun xs => match xs with
  | [(false, [(.int .i64, TC.i n)]), (false, [(.int .i64, TC.i q)])] => some ((qd_c n q), qd_mk (qd_v n q))
  | _ => .none
theorem qd_e (n q : Int) : runF tab FT D11 live 105 qd_lo [(false, [(.int .i64, TC.i n)]), (false, [(.int .i64, TC.i q)])] = (qd_t n q).run fun p => some (qd_mk p) := by kernel_rfl
theorem qd_s : ∀ xs r, qd_S xs = some (true, r) → runF tab FT D11 live 105 qd_lo xs = some r := by
  intro xs r h
  unfold qd_S at h
  split at h
  · simp only [Option.some.injEq, Prod.mk.injEq] at h
    obtain ⟨h1, rfl⟩ := h
    exact fun_told (qd_e _ _) (qd_l _ _) h1
  · cases h
noncomputable def D12 : Dt := also D11 105 qd_S
theorem d12 : DOk Go.Proofs.Try.prog tab D12 := d11.also mixed_ok tab_ok names_ok (fnLoops_one (by kernel_rfl) qd_is3) qd_s
theorem qd_cc {n : Int} {q : Int} (h0 : 0 ≤ n) (hm : n ≤ 1000) : (qd_c n q) = true := by
  unfold qd_c
  refine andT (is_true (by exact ⟨by omega, by omega, by omega, by omega⟩)) ?_
  refine andT (by exact is_true ⟨by simp, by rw [wrap64 (by omega) (by omega), List.length_replicate]; omega, by simp; omega⟩) ?_
  rfl
theorem qd_vv (n q : Int) : qd_v n q = coordsV (List.replicate n.toNat [TC.i (16 : Int)]) q := by
  show coordsV (List.replicate (List.replicate n.toNat [TC.i (0 : Int)]).length [TC.i (16 : Int)]) q = _
  rw [List.length_replicate]
noncomputable def qbe_t (a0 a1 : Int) : Tr (Int) := (.ite ((decide (a0 < a1)) = true) (.ok a0)
  (.ok a1))
def qbe_mk (p : Int) : Res := [(false, [⟨.int .i64, .sh, TC.i p⟩])]
noncomputable def qbe_c (a0 a1 : Int) : Bool := true
noncomputable def qbe_v (a0 a1 : Int) : Int := (bif (decide (a0 < a1)) then a0 else a1)
theorem qbe_l (a0 a1 : Int) : (qbe_c a0 a1) = true → (qbe_t a0 a1).val = some (qbe_v a0 a1) := by
  intro h
  skip
  unfold qbe_t qbe_v
  exact (Tr.s rfl rfl)
noncomputable def qbe_S : List Arg → Option (Bool × Res) := fun xs => match xs with
  | [(false, [(.int .i64, TC.i a0)]), (false, [(.int .i64, TC.i a1)])] => some (true, qbe_mk (qbe_v a0 a1))
  | _ => .none
theorem qbe_e (a0 a1 : Int) : runF tab FT D12 live 106 noLoops [(false, [(.int .i64, TC.i a0)]), (false, [(.int .i64, TC.i a1)])] = (qbe_t a0 a1).run fun p => some (qbe_mk p) := by kernel_rfl
theorem qbe_s : ∀ xs r, qbe_S xs = some (true, r) → runF tab FT D12 live 106 noLoops xs = some r := by
  intro xs r h
  unfold qbe_S at h
  split at h
  · simp only [Option.some.injEq, Prod.mk.injEq] at h
    obtain ⟨h1, rfl⟩ := h
    exact fun_told (qbe_e _ _) (qbe_l _ _) rfl
  · cases h
noncomputable def D13 : Dt := also D12 106 qbe_S
theorem d13 : DOk Go.Proofs.Try.prog tab D13 := d12.also mixed_ok tab_ok names_ok noLoops_ok qbe_s
abbrev qh_4_σ := LL × LL × LL × LL × LL × LL × LL × Int
abbrev qh_4_ω := (LL × LL × LL × LL)
noncomputable def qh_4_step (D C Z0 Z1 P X Y : LL) (i : Int) : Tr (qh_4_σ ⊕ qh_4_ω) := (.ite ((decide (i < (D.length : Int))) = true) (.ite ((0 : Int) ≤ i ∧ i < (P.length : Int)) (.ite ((0 : Int) ≤ i ∧ i < (C.length : Int)) (.ite (roomFor (tab 2) (X ++ [[TC.i (IntKind.wrap .i64 ((nth (row P i) 0).int * (nth (row C i) 0).int))]]).length) (.ite ((0 : Int) ≤ i ∧ i < (D.length : Int)) (.ite ((0 : Int) ≤ i ∧ i < (P.length : Int)) (.ite ((0 : Int) ≤ i ∧ i < (C.length : Int)) (.ite ((0 : Int) ≤ i ∧ i < (C.length : Int)) (.ite (roomFor (tab 2) (Y ++ [[TC.i (qbe_v ((nth (row D i) 0).int) (IntKind.wrap .i64 ((IntKind.wrap .i64 ((nth (row P i) 0).int * (nth (row C i) 0).int)) + (nth (row C i) 0).int)))]]).length) (.ok (.inl (D, C, Z0, Z1, P, (X ++ [[TC.i (IntKind.wrap .i64 ((nth (row P i) 0).int * (nth (row C i) 0).int))]]), (Y ++ [[TC.i (qbe_v ((nth (row D i) 0).int) (IntKind.wrap .i64 ((IntKind.wrap .i64 ((nth (row P i) 0).int * (nth (row C i) 0).int)) + (nth (row C i) 0).int)))]]), (IntKind.wrap .i64 (i + (1 : Int))))))
          .no)
         .no)
        .no)
       .no)
      .no)
     .no)
    .no)
   .no)
  (.ok (.inr (Z0, Z1, X, Y))))
noncomputable def qh_4_st : qh_4_σ → Tr (qh_4_σ ⊕ qh_4_ω) := fun x => (qh_4_step (x.1) (x.2.1) (x.2.2.1) (x.2.2.2.1) (x.2.2.2.2.1) (x.2.2.2.2.2.1) (x.2.2.2.2.2.2.1) (x.2.2.2.2.2.2.2))
noncomputable def qh_o4_1 (D C Z0 Z1 P X Y : LL) (i : Int) : Bool := is (X = [] ∧ Y = [] ∧ i = 0 ∧ P.length = C.length ∧ P.length = D.length ∧ P.length ≤ 100000)
noncomputable def qh_u4_1_2 (D C Z0 Z1 P X Y : LL) (i : Int) : LL := rowsF (loC C P) P.length
noncomputable def qh_u4_1_3 (D C Z0 Z1 P X Y : LL) (i : Int) : LL := rowsF (hiC D C P) P.length
noncomputable def qh_4_fin (D C Z0 Z1 P X Y : LL) (i : Int) : Told qh_4_ω := (.leaf (qh_o4_1 D C Z0 Z1 P X Y i) (Z0, Z1, (qh_u4_1_2 D C Z0 Z1 P X Y i), (qh_u4_1_3 D C Z0 Z1 P X Y i)))
def qh_4_sl (x : qh_4_σ) : List Slot := [⟨.val false [⟨.slice 2, .sh, TC.l (x.1)⟩], ⟨0, 0⟩⟩, ⟨.val false [⟨.slice 2, .sh, TC.l (x.2.1)⟩], ⟨0, 0⟩⟩, ⟨.bx 30 [⟨.slice 2, .own true, TC.l (x.2.2.1)⟩, ⟨.slice 2, .own true, TC.l (x.2.2.2.1)⟩], ⟨0, 0⟩⟩, ⟨.val false [⟨.slice 2, .own true, TC.l (x.2.2.2.2.1)⟩], ⟨0, 0⟩⟩, ⟨.bx 30 [⟨.slice 2, .own true, TC.l (x.2.2.2.2.2.1)⟩, ⟨.slice 2, .own true, TC.l (x.2.2.2.2.2.2.1)⟩], ⟨0, 0⟩⟩, ⟨.val false [⟨.int .i64, .sh, TC.i (x.2.2.2.2.2.2.2)⟩], ⟨0, 0⟩⟩]
def qh_4_out : qh_4_ω → Ex × List Slot := (fun x => (.exit 0, [⟨.bx 30 [⟨.slice 2, .own true, TC.l (x.1)⟩, ⟨.slice 2, .own true, TC.l (x.2.1)⟩], ⟨0, 0⟩⟩, ⟨.bx 30 [⟨.slice 2, .own true, TC.l (x.2.2.1)⟩, ⟨.slice 2, .own true, TC.l (x.2.2.2)⟩], ⟨0, 0⟩⟩]))
noncomputable def qh_lo4 : List Slot → Option (Told (Ex × List Slot)) := fun s => match s with
  | [⟨.val false [⟨.slice 2, .sh, TC.l D⟩], ⟨0, 0⟩⟩, ⟨.val false [⟨.slice 2, .sh, TC.l C⟩], ⟨0, 0⟩⟩, ⟨.bx 30 [⟨.slice 2, .own true, TC.l Z0⟩, ⟨.slice 2, .own true, TC.l Z1⟩], ⟨0, 0⟩⟩, ⟨.val false [⟨.slice 2, .own true, TC.l P⟩], ⟨0, 0⟩⟩, ⟨.bx 30 [⟨.slice 2, .own true, TC.l X⟩, ⟨.slice 2, .own true, TC.l Y⟩], ⟨0, 0⟩⟩, ⟨.val false [⟨.int .i64, .sh, TC.i i⟩], ⟨0, 0⟩⟩] => some (((qh_4_fin D C Z0 Z1 P X Y i)).map qh_4_out)
  | _ => .none
noncomputable def qh_lo : LoopTeller := fun r s => bif Nat.beq r 4 then qh_lo4 s else .none
theorem qh_4_r (D C Z0 Z1 P X Y : LL) (i : Int) (fuel : Nat) : rounds (rnd tab FT D13 live 59 qh_lo 0 4) leave (fuel + 1) (qh_4_sl (D, C, Z0, Z1, P, X, Y, i)) = ((qh_4_step D C Z0 Z1 P X Y i)).run (goOn (fun s => rounds (rnd tab FT D13 live 59 qh_lo 0 4) leave fuel (qh_4_sl s)) fun w => some (qh_4_out w)) := by kernel_rfl
theorem qh_4_h (D C Z0 Z1 P X Y : LL) (i : Int) (ow : qh_4_ω) : ((qh_4_fin D C Z0 Z1 P X Y i)).val = some ow → ∃ fuel, loopN qh_4_st fuel (D, C, Z0, Z1, P, X, Y, i) = some ow := by
  intro h
  refine auto_leaf (R := (Z0, Z1, rowsF (loC C P) P.length, rowsF (hiC D C P) P.length)) (fun ho => ?_) h
  obtain ⟨rfl, rfl, rfl, hPC, hPD, hlen⟩ := is_iff.1 ho
  have key := loopN_run (step := qh_4_st) (N := P.length) (fun k => (D, C, Z0, Z1, P, rowsF (loC C P) k, rowsF (hiC D C P) k, (k : Int))) (w := (Z0, Z1, rowsF (loC C P) P.length, rowsF (hiC D C P) P.length)) (fun k hk => ?_) ?_ P.length 0 (by omega)
  · exact ⟨_, Eq.trans (congrArg (loopN qh_4_st _) (by simp [rowsF])) key⟩
  · show (qh_4_step D C Z0 Z1 P (rowsF (loC C P) k) (rowsF (hiC D C P) k) (k : Int)).val = _
    unfold qh_4_step
    have hmin : ∀ x y : Int, qbe_v x y = if x < y then x else y := fun x y => by
      unfold qbe_v
      by_cases hxy : x < y
      · rw [if_pos hxy, decide_eq_true hxy]; rfl
      · rw [if_neg hxy, decide_eq_false hxy]; rfl
    rw [hmin]
    refine (Tr.t (by simp; omega) (Tr.t (by constructor <;> omega) (Tr.t (by constructor <;> omega) (Tr.t (by unfold roomFor; simp only [show (tab 2).bytes = 8 from rfl, List.length_append, List.length_singleton, rowsF_len]; omega) (Tr.t (by constructor <;> omega) (Tr.t (by constructor <;> omega) (Tr.t (by constructor <;> omega) (Tr.t (by constructor <;> omega) (Tr.t (by unfold roomFor; simp only [show (tab 2).bytes = 8 from rfl, List.length_append, List.length_singleton, rowsF_len]; omega) ?_)))))))))
    rw [Tr.val_ok, wrap64 (i := (k : Int) + 1) (by omega) (by omega)]
    show some (Sum.inl (_, _, _, _, _, rowsF (loC C P) k ++ [[TC.i (loC C P k)]], rowsF (hiC D C P) k ++ [[TC.i (hiC D C P k)]], _)) = _
    rw [rowsF_succ, rowsF_succ]
    rfl
  · show (qh_4_step D C Z0 Z1 P (rowsF (loC C P) P.length) (rowsF (hiC D C P) P.length) (P.length : Int)).val = _
    unfold qh_4_step
    refine Tr.n (by first | (simp; done) | (simp; omega)) ?_
    rfl
theorem qh_is4 : LoopIs tab FT D13 live 59 qh_lo 0 4 := by
  refine loop_told (sl := qh_4_sl) (step := qh_4_st) (out := qh_4_out) (lor := qh_lo4) (fin := fun x => (qh_4_fin (x.1) (x.2.1) (x.2.2.1) (x.2.2.2.1) (x.2.2.2.2.1) (x.2.2.2.2.2.1) (x.2.2.2.2.2.2.1) (x.2.2.2.2.2.2.2))) (fun _ => rfl) ?_ (fun x n => qh_4_r x.1 x.2.1 x.2.2.1 x.2.2.2.1 x.2.2.2.2.1 x.2.2.2.2.2.1 x.2.2.2.2.2.2.1 x.2.2.2.2.2.2.2 n) (fun x ow => qh_4_h x.1 x.2.1 x.2.2.1 x.2.2.2.1 x.2.2.2.2.1 x.2.2.2.2.2.1 x.2.2.2.2.2.2.1 x.2.2.2.2.2.2.2 ow)
  intro s t h
  unfold qh_lo4 at h
  split at h
  · cases h; exact ⟨(_, _, _, _, _, _, _, _), rfl, rfl⟩
  · cases h
noncomputable def qh_t (D C : LL) (q : Int) : Tr (LL × LL) := (.ite ((qd_c (D.length : Int) q) = true) (.ite ((qh_o4_1 D C [] [] (qd_v (D.length : Int) q) [] [] (0 : Int)) = true) (.ok ((qh_u4_1_2 D C [] [] (qd_v (D.length : Int) q) [] [] (0 : Int)), (qh_u4_1_3 D C [] [] (qd_v (D.length : Int) q) [] [] (0 : Int))))
   .no)
  .no)
def qh_mk (p : LL × LL) : Res := [(true, [⟨.slice 2, .own true, TC.l (p.1)⟩, ⟨.slice 2, .own true, TC.l (p.2)⟩])]
noncomputable def qh_c (D C : LL) (q : Int) : Bool := ((qd_c (D.length : Int) q) && ((qh_o4_1 D C [] [] (qd_v (D.length : Int) q) [] [] (0 : Int)) && true))
noncomputable def qh_v (D C : LL) (q : Int) : LL × LL := ((qh_u4_1_2 D C [] [] (qd_v (D.length : Int) q) [] [] (0 : Int)), (qh_u4_1_3 D C [] [] (qd_v (D.length : Int) q) [] [] (0 : Int)))
theorem qh_l (D C : LL) (q : Int) : (qh_c D C q) = true → (qh_t D C q).val = some (qh_v D C q) := by
  unfold qh_t qh_v qh_c
  exact fun h => (Tr.gb h fun h => (Tr.gb h fun h => rfl))
noncomputable def qh_S : List Arg → Option (Bool × Res) := fun xs => match xs with
  | [(false, [(.slice 2, TC.l D)]), (false, [(.slice 2, TC.l C)]), (false, [(.int .i64, TC.i q)])] => some ((qh_c D C q), qh_mk (qh_v D C q))
  | _ => .none
theorem qh_e (D C : LL) (q : Int) : runF tab FT D13 live 59 qh_lo [(false, [(.slice 2, TC.l D)]), (false, [(.slice 2, TC.l C)]), (false, [(.int .i64, TC.i q)])] = (qh_t D C q).run fun p => some (qh_mk p) := by kernel_rfl
theorem qh_s : ∀ xs r, qh_S xs = some (true, r) → runF tab FT D13 live 59 qh_lo xs = some r := by
  intro xs r h
  unfold qh_S at h
  split at h
  · simp only [Option.some.injEq, Prod.mk.injEq] at h
    obtain ⟨h1, rfl⟩ := h
    exact fun_told (qh_e _ _ _) (qh_l _ _ _) h1
  · cases h
noncomputable def D14 : Dt := also D13 59 qh_S
theorem d14 : DOk Go.Proofs.Try.prog tab D14 := d13.also mixed_ok tab_ok names_ok (fnLoops_one (by kernel_rfl) qh_is4) qh_s
theorem qh_cc {D : LL} {C : LL} {q : Int} (hl : D.length ≤ 3) (hc : D.length = C.length) : (qh_c D C q) = true := by
  unfold qh_c
  refine andT (by exact qd_cc (by omega) (by omega)) ?_
  refine andT (by rw [qd_vv]; exact is_true ⟨rfl, rfl, rfl, by rw [coordsV_len, List.length_replicate]; omega, by rw [coordsV_len, List.length_replicate]; omega, by rw [coordsV_len, List.length_replicate]; omega⟩) ?_
  rfl
theorem qh_vv (D C : LL) (q : Int) : qh_v D C q = boxP D C (coordsV (List.replicate D.length [TC.i (16 : Int)]) q) := by
  show boxP D C (qd_v (D.length : Int) q) = _
  rw [qd_vv]
  rfl
noncomputable def qg_t (D C : LL) (q : Int) : Tr (LL × LL × Bool) := (.ite ((qn_c D C q) = true) (.ite ((!(qn_v D C q)) = true) (.ok ([], [], false))
   (.ite ((qh_c D C q) = true) (.ok ((qh_v D C q).1, (qh_v D C q).2, true))
    .no))
  .no)
def qg_mk (p : LL × LL × Bool) : Res := [(true, [⟨.slice 2, .own true, TC.l (p.1)⟩, ⟨.slice 2, .own true, TC.l (p.2.1)⟩]), (false, [⟨.bool, .sh, TC.b (p.2.2)⟩])]
noncomputable def qg_c (D C : LL) (q : Int) : Bool := ((qn_c D C q) && (bif (!(qn_v D C q)) then true else ((qh_c D C q) && true)))
noncomputable def qg_v (D C : LL) (q : Int) : LL × LL × Bool := (bif (!(qn_v D C q)) then ([], [], false) else ((qh_v D C q).1, (qh_v D C q).2, true))
theorem qg_l (D C : LL) (q : Int) : (qg_c D C q) = true → (qg_t D C q).val = some (qg_v D C q) := by
  unfold qg_t qg_v qg_c
  exact fun h => (Tr.gb h fun h => (Tr.ss h (fun h => rfl) (fun h => (Tr.gb h fun h => rfl))))
noncomputable def qg_S : List Arg → Option (Bool × Res) := fun xs => match xs with
  | [(false, [(.slice 2, TC.l D)]), (false, [(.slice 2, TC.l C)]), (false, [(.int .i64, TC.i q)])] => some ((qg_c D C q), qg_mk (qg_v D C q))
  | _ => .none
theorem qg_e (D C : LL) (q : Int) : runF tab FT D14 live 20 noLoops [(false, [(.slice 2, TC.l D)]), (false, [(.slice 2, TC.l C)]), (false, [(.int .i64, TC.i q)])] = (qg_t D C q).run fun p => some (qg_mk p) := by kernel_rfl
theorem qg_s : ∀ xs r, qg_S xs = some (true, r) → runF tab FT D14 live 20 noLoops xs = some r := by
  intro xs r h
  unfold qg_S at h
  split at h
  · simp only [Option.some.injEq, Prod.mk.injEq] at h
    obtain ⟨h1, rfl⟩ := h
    exact fun_told (qg_e _ _ _) (qg_l _ _ _) h1
  · cases h
noncomputable def D15 : Dt := also D14 20 qg_S
theorem d15 : DOk Go.Proofs.Try.prog tab D15 := d14.also mixed_ok tab_ok names_ok noLoops_ok qg_s
theorem qg_cc {D : LL} {C : LL} {q : Int} (hD : Typed tab (.slice 2) (.l D)) (hC : Typed tab (.slice 2) (.l C)) : (qg_c D C q) = true := by
  unfold qg_c
  refine andT (by exact qn_cc hD hC) ?_
  refine bifT (fun b1 => ?_) (fun b1 => ?_)
  · skip
    rfl
  · skip
    refine andT (by have hk := (qn_vv _ _ _).symm.trans (notF b1); rw [Bool.and_eq_true] at hk; have hp := chunkOk_parts hk.1; exact qh_cc (dims_rank hp.2.2) hp.1) ?_
    rfl
theorem qg_vv (D C : LL) (q : Int) : qg_v D C q = boxV D C q := by
  unfold qg_v boxV
  rw [qn_vv, qh_vv]
  cases (chunkOk D C && hasK (keysG D C) q) <;> rfl
noncomputable def qbf_t (a0 a1 a2 : Int) : Tr (Bool) := (.ite ((decide (a0 ≥ a1)) = true) (.ok (decide (a0 ≤ a2)))
  (.ok false))
def qbf_mk (p : Bool) : Res := [(false, [⟨.bool, .sh, TC.b p⟩])]
noncomputable def qbf_c (a0 a1 a2 : Int) : Bool := true
noncomputable def qbf_v (a0 a1 a2 : Int) : Bool := (bif (decide (a0 ≥ a1)) then (decide (a0 ≤ a2)) else false)
theorem qbf_l (a0 a1 a2 : Int) : (qbf_c a0 a1 a2) = true → (qbf_t a0 a1 a2).val = some (qbf_v a0 a1 a2) := by
  intro h
  skip
  unfold qbf_t qbf_v
  exact (Tr.s rfl rfl)
noncomputable def qbf_S : List Arg → Option (Bool × Res) := fun xs => match xs with
  | [(false, [(.int .i64, TC.i a0)]), (false, [(.int .i64, TC.i a1)]), (false, [(.int .i64, TC.i a2)])] => some (true, qbf_mk (qbf_v a0 a1 a2))
  | _ => .none
theorem qbf_e (a0 a1 a2 : Int) : runF tab FT D15 live 128 noLoops [(false, [(.int .i64, TC.i a0)]), (false, [(.int .i64, TC.i a1)]), (false, [(.int .i64, TC.i a2)])] = (qbf_t a0 a1 a2).run fun p => some (qbf_mk p) := by kernel_rfl
theorem qbf_s : ∀ xs r, qbf_S xs = some (true, r) → runF tab FT D15 live 128 noLoops xs = some r := by
  intro xs r h
  unfold qbf_S at h
  split at h
  · simp only [Option.some.injEq, Prod.mk.injEq] at h
    obtain ⟨h1, rfl⟩ := h
    exact fun_told (qbf_e _ _ _) (qbf_l _ _ _) rfl
  · cases h
noncomputable def D16 : Dt := also D15 128 qbf_S
theorem d16 : DOk Go.Proofs.Try.prog tab D16 := d15.also mixed_ok tab_ok names_ok noLoops_ok qbf_s
noncomputable def qbd_t (a0 : Int) (a1 a2 : List TC) : Tr (Bool) := .ok (!(qbf_v a0 ((nth a1 0).int) ((nth a2 0).int)))
def qbd_mk (p : Bool) : Res := [(false, [⟨.bool, .sh, TC.b p⟩])]
noncomputable def qbd_c (a0 : Int) (a1 a2 : List TC) : Bool := true
noncomputable def qbd_v (a0 : Int) (a1 a2 : List TC) : Bool := (!(qbf_v a0 ((nth a1 0).int) ((nth a2 0).int)))
theorem qbd_l (a0 : Int) (a1 a2 : List TC) : (qbd_c a0 a1 a2) = true → (qbd_t a0 a1 a2).val = some (qbd_v a0 a1 a2) := by
  intro h
  skip
  unfold qbd_t qbd_v
  exact rfl
noncomputable def qbd_S : List Arg → Option (Bool × Res) := fun xs => match xs with
  | [(false, [(.int .i64, TC.i a0)]), (false, [(.ptr 2, TC.p a1)]), (false, [(.ptr 2, TC.p a2)])] => some (true, qbd_mk (qbd_v a0 a1 a2))
  | _ => .none
theorem qbd_e (a0 : Int) (a1 a2 : List TC) : runF tab FT D16 live 127 noLoops [(false, [(.int .i64, TC.i a0)]), (false, [(.ptr 2, TC.p a1)]), (false, [(.ptr 2, TC.p a2)])] = (qbd_t a0 a1 a2).run fun p => some (qbd_mk p) := by kernel_rfl
theorem qbd_s : ∀ xs r, qbd_S xs = some (true, r) → runF tab FT D16 live 127 noLoops xs = some r := by
  intro xs r h
  unfold qbd_S at h
  split at h
  · simp only [Option.some.injEq, Prod.mk.injEq] at h
    obtain ⟨h1, rfl⟩ := h
    exact fun_told (qbd_e _ _ _) (qbd_l _ _ _) rfl
  · cases h
noncomputable def D17 : Dt := also D16 127 qbd_S
theorem d17 : DOk Go.Proofs.Try.prog tab D17 := d16.also mixed_ok tab_ok names_ok noLoops_ok qbd_s
abbrev qk_2_σ := LL × List TC × List TC × Int × Int
abbrev qk_2_ω := (Int) ⊕ (Unit)
noncomputable def qk_2_step (A : LL) (lw hg : List TC) (m i : Int) : Tr (qk_2_σ ⊕ qk_2_ω) := (.ite ((decide (i < m)) = true) (.ite ((0 : Int) ≤ i ∧ i < (A.length : Int)) (.ite ((!(qbf_v ((nth (row A i) 0).int) ((nth lw 0).int) ((nth hg 0).int))) = true) (.ok (.inr (.inl i)))
    (.ok (.inl (A, lw, hg, m, (IntKind.wrap .i64 (i + (1 : Int)))))))
   .no)
  (.ok (.inr (.inr ()))))
noncomputable def qk_2_st : qk_2_σ → Tr (qk_2_σ ⊕ qk_2_ω) := fun x => (qk_2_step (x.1) (x.2.1) (x.2.2.1) (x.2.2.2.1) (x.2.2.2.2))
noncomputable def qk_k2_1 (A : LL) (lw hg : List TC) (m i : Int) : Bool := A.all (inR (nth lw 0).int (nth hg 0).int)
noncomputable def qk_o2_2 (A : LL) (lw hg : List TC) (m i : Int) : Bool := is (i = 0 ∧ Typed tab (.slice 2) (.l A) ∧ m = (A.length : Int))
noncomputable def qk_o2_3 (A : LL) (lw hg : List TC) (m i : Int) : Bool := is (i = 0 ∧ Typed tab (.slice 2) (.l A) ∧ m = (A.length : Int))
noncomputable def qk_u2_3 (A : LL) (lw hg : List TC) (m i : Int) : Int := (Int.ofNat (A.findIdx fun x => !(inR (nth lw 0).int (nth hg 0).int) x))
noncomputable def qk_2_fin (A : LL) (lw hg : List TC) (m i : Int) : Told qk_2_ω := (.br (qk_k2_1 A lw hg m i) (.leaf (qk_o2_2 A lw hg m i) (.inr ())) (.leaf (qk_o2_3 A lw hg m i) (.inl (qk_u2_3 A lw hg m i))))
def qk_2_sl (x : qk_2_σ) : List Slot := [⟨.val false [⟨.slice 2, .sh, TC.l (x.1)⟩], ⟨0, 0⟩⟩, ⟨.val false [⟨.func, .sh, TC.f 127 [(2, x.2.1), (2, x.2.2.1)]⟩], ⟨0, 0⟩⟩, ⟨.val false [⟨.int .i64, .sh, TC.i (x.2.2.2.1)⟩], ⟨0, 0⟩⟩, ⟨.val false [⟨.int .i64, .sh, TC.i (x.2.2.2.2)⟩], ⟨0, 0⟩⟩]
def qk_2_out : qk_2_ω → Ex × List Slot := (Sum.elim (fun x => (.ret, [⟨.val false [⟨.int .i64, .sh, TC.i x⟩], ⟨0, 0⟩⟩])) (fun x => (.exit 0, [Slot.none])))
noncomputable def qk_lo2 : List Slot → Option (Told (Ex × List Slot)) := fun s => match s with
  | [⟨.val false [⟨.slice 2, .sh, TC.l A⟩], ⟨0, 0⟩⟩, ⟨.val false [⟨.func, .sh, TC.f 127 [(2, lw), (2, hg)]⟩], ⟨0, 0⟩⟩, ⟨.val false [⟨.int .i64, .sh, TC.i m⟩], ⟨0, 0⟩⟩, ⟨.val false [⟨.int .i64, .sh, TC.i i⟩], ⟨0, 0⟩⟩] => some (((qk_2_fin A lw hg m i)).map qk_2_out)
  | _ => .none
noncomputable def qk_lo : LoopTeller := fun r s => bif Nat.beq r 2 then qk_lo2 s else .none
theorem qk_2_r (A : LL) (lw hg : List TC) (m i : Int) (fuel : Nat) : rounds (rnd tab FT D17 live 138 qk_lo 0 2) leave (fuel + 1) (qk_2_sl (A, lw, hg, m, i)) = ((qk_2_step A lw hg m i)).run (goOn (fun s => rounds (rnd tab FT D17 live 138 qk_lo 0 2) leave fuel (qk_2_sl s)) fun w => some (qk_2_out w)) := by kernel_rfl
theorem qk_2_h (A : LL) (lw hg : List TC) (m i : Int) (ow : qk_2_ω) : ((qk_2_fin A lw hg m i)).val = some ow → ∃ fuel, loopN qk_2_st fuel (A, lw, hg, m, i) = some ow := by
  intro h
  have key : Typed tab (.slice 2) (.l A) → loopN qk_2_st (A.length + 1) (A, lw, hg, (A.length : Int), (0 : Int)) = some (if A.all (inR (nth lw 0).int (nth hg 0).int) = true then (.inr ()) else (.inl (Int.ofNat (A.findIdx fun x => !(inR (nth lw 0).int (nth hg 0).int) x)))) := by
    intro ht
    have hlen : A.length ≤ 140737488351232 := by have := typed_room ht; simp only [show (tab 2).bytes = 8 from rfl] at this; omega
    have key := loopN_scan (step := qk_2_st) A [] (inR (nth lw 0).int (nth hg 0).int) (fun a _ => a) (fun i a => (A, lw, hg, (A.length : Int), (i : Int))) (fun a => (.inr ())) (fun i a => (.inl (i : Int))) (fun i a hi => ?_) (fun a => ?_) A.length 0 () (by omega)
    · first | (rw [Nat.zero_add] at key; exact key) | exact key
    · skip
      show (qk_2_step A lw hg (A.length : Int) (i : Int)).val = _
      unfold qk_2_step
      refine Tr.t (by simp; omega) ?_
      skip
      refine Tr.t (by first | omega | (constructor <;> omega)) ?_
      refine Tr.b (P := (inR (nth lw 0).int (nth hg 0).int) (A.getD i [])) (fun hP => ?_) (fun _ => rfl)
      rw [Tr.val_ok, wrap64 (i := (i : Int) + 1) (by omega) (by omega)]; rfl
    · show (qk_2_step A lw hg (A.length : Int) (A.length : Int)).val = _
      refine Tr.n (by simp) ?_
      rfl
  simp only [qk_2_fin, Told.val] at h
  cases hk : A.all (inR (nth lw 0).int (nth hg 0).int) with
  | true =>
    rw [if_pos (show qk_k2_1 A lw hg m i = true from hk)] at h
    split at h
    · rename_i ho
      obtain ⟨rfl, ht, rfl⟩ := is_iff.1 ho
      cases h
      refine ⟨_, (key ht).trans ?_⟩
      rw [hk]; rfl
    · cases h
  | false =>
    rw [if_neg (show ¬qk_k2_1 A lw hg m i = true from by rw [show qk_k2_1 A lw hg m i = (A.all (inR (nth lw 0).int (nth hg 0).int)) from rfl, hk]; simp)] at h
    split at h
    · rename_i ho
      obtain ⟨rfl, ht, rfl⟩ := is_iff.1 ho
      cases h
      refine ⟨_, (key ht).trans ?_⟩
      rw [hk]; rfl
    · cases h
theorem qk_is2 : LoopIs tab FT D17 live 138 qk_lo 0 2 := by
  refine loop_told (sl := qk_2_sl) (step := qk_2_st) (out := qk_2_out) (lor := qk_lo2) (fin := fun x => (qk_2_fin (x.1) (x.2.1) (x.2.2.1) (x.2.2.2.1) (x.2.2.2.2))) (fun _ => rfl) ?_ (fun x n => qk_2_r x.1 x.2.1 x.2.2.1 x.2.2.2.1 x.2.2.2.2 n) (fun x ow => qk_2_h x.1 x.2.1 x.2.2.1 x.2.2.2.1 x.2.2.2.2 ow)
  intro s t h
  unfold qk_lo2 at h
  split at h
  · cases h; exact ⟨(_, _, _, _, _), rfl, rfl⟩
  · cases h
noncomputable def qk_t (A : LL) (lw hg : List TC) : Tr (Int) := (.ite ((qk_k2_1 A lw hg (A.length : Int) (0 : Int)) = true) (.ite ((qk_o2_2 A lw hg (A.length : Int) (0 : Int)) = true) (.ok (-1 : Int))
   .no)
  (.ite ((qk_o2_3 A lw hg (A.length : Int) (0 : Int)) = true) (.ok (qk_u2_3 A lw hg (A.length : Int) (0 : Int)))
   .no))
def qk_mk (p : Int) : Res := [(false, [⟨.int .i64, .sh, TC.i p⟩])]
noncomputable def qk_c (A : LL) (lw hg : List TC) : Bool := is (Typed tab (.slice 2) (.l A))
noncomputable def qk_v (A : LL) (lw hg : List TC) : Int := if (A.all (inR (nth lw 0).int (nth hg 0).int)) = true then -1 else (Int.ofNat (A.findIdx fun x => !(inR (nth lw 0).int (nth hg 0).int) x))
theorem qk_l (A : LL) (lw hg : List TC) : (qk_c A lw hg) = true → (qk_t A lw hg).val = some (qk_v A lw hg) := by
  intro h
  have ht := is_iff.1 h
  unfold qk_t
  cases hk : A.all (inR (nth lw 0).int (nth hg 0).int) with
  | true =>
    refine Tr.t (show A.all (inR (nth lw 0).int (nth hg 0).int) = true from hk) ?_
    refine Tr.t (by first | (apply is_true; and_intros <;> (first | rfl | assumption | (apply qe_cc <;> assumption) | (apply qf_cc <;> assumption) | (apply qi_cc <;> assumption) | (apply qn_cc <;> assumption) | (apply qd_cc <;> assumption) | (apply qh_cc <;> assumption) | (apply qg_cc <;> assumption) | (first | (apply is_true; and_intros <;> (first | rfl | assumption | (apply qe_cc <;> assumption) | (apply qf_cc <;> assumption) | (apply qi_cc <;> assumption) | (apply qn_cc <;> assumption) | (apply qd_cc <;> assumption) | (apply qh_cc <;> assumption) | (apply qg_cc <;> assumption) | (first | (apply is_true; and_intros <;> (first | rfl | assumption | (apply qe_cc <;> assumption) | (apply qf_cc <;> assumption) | (apply qi_cc <;> assumption) | (apply qn_cc <;> assumption) | (apply qd_cc <;> assumption) | (apply qh_cc <;> assumption) | (apply qg_cc <;> assumption) | (first | (apply is_true; and_intros <;> (first | rfl | assumption | (apply qe_cc <;> assumption) | (apply qf_cc <;> assumption) | (apply qi_cc <;> assumption) | (apply qn_cc <;> assumption) | (apply qd_cc <;> assumption) | (apply qh_cc <;> assumption) | (apply qg_cc <;> assumption))) | (apply qe_cc <;> assumption) | (apply qf_cc <;> assumption) | (apply qi_cc <;> assumption) | (apply qn_cc <;> assumption) | (apply qd_cc <;> assumption) | (apply qh_cc <;> assumption) | (apply qg_cc <;> assumption)))) | (apply qe_cc <;> assumption) | (apply qf_cc <;> assumption) | (apply qi_cc <;> assumption) | (apply qn_cc <;> assumption) | (apply qd_cc <;> assumption) | (apply qh_cc <;> assumption) | (apply qg_cc <;> assumption)))) | (apply qe_cc <;> assumption) | (apply qf_cc <;> assumption) | (apply qi_cc <;> assumption) | (apply qn_cc <;> assumption) | (apply qd_cc <;> assumption) | (apply qh_cc <;> assumption) | (apply qg_cc <;> assumption)))) | (apply qe_cc <;> assumption) | (apply qf_cc <;> assumption) | (apply qi_cc <;> assumption) | (apply qn_cc <;> assumption) | (apply qd_cc <;> assumption) | (apply qh_cc <;> assumption) | (apply qg_cc <;> assumption)) ?_
    show _ = some (qk_v A lw hg); unfold qk_v; rw [if_pos hk]; rfl
  | false =>
    refine Tr.n (show ¬A.all (inR (nth lw 0).int (nth hg 0).int) = true from by rw [hk]; simp) ?_
    refine Tr.t (by first | (apply is_true; and_intros <;> (first | rfl | assumption | (apply qe_cc <;> assumption) | (apply qf_cc <;> assumption) | (apply qi_cc <;> assumption) | (apply qn_cc <;> assumption) | (apply qd_cc <;> assumption) | (apply qh_cc <;> assumption) | (apply qg_cc <;> assumption) | (first | (apply is_true; and_intros <;> (first | rfl | assumption | (apply qe_cc <;> assumption) | (apply qf_cc <;> assumption) | (apply qi_cc <;> assumption) | (apply qn_cc <;> assumption) | (apply qd_cc <;> assumption) | (apply qh_cc <;> assumption) | (apply qg_cc <;> assumption) | (first | (apply is_true; and_intros <;> (first | rfl | assumption | (apply qe_cc <;> assumption) | (apply qf_cc <;> assumption) | (apply qi_cc <;> assumption) | (apply qn_cc <;> assumption) | (apply qd_cc <;> assumption) | (apply qh_cc <;> assumption) | (apply qg_cc <;> assumption) | (first | (apply is_true; and_intros <;> (first | rfl | assumption | (apply qe_cc <;> assumption) | (apply qf_cc <;> assumption) | (apply qi_cc <;> assumption) | (apply qn_cc <;> assumption) | (apply qd_cc <;> assumption) | (apply qh_cc <;> assumption) | (apply qg_cc <;> assumption))) | (apply qe_cc <;> assumption) | (apply qf_cc <;> assumption) | (apply qi_cc <;> assumption) | (apply qn_cc <;> assumption) | (apply qd_cc <;> assumption) | (apply qh_cc <;> assumption) | (apply qg_cc <;> assumption)))) | (apply qe_cc <;> assumption) | (apply qf_cc <;> assumption) | (apply qi_cc <;> assumption) | (apply qn_cc <;> assumption) | (apply qd_cc <;> assumption) | (apply qh_cc <;> assumption) | (apply qg_cc <;> assumption)))) | (apply qe_cc <;> assumption) | (apply qf_cc <;> assumption) | (apply qi_cc <;> assumption) | (apply qn_cc <;> assumption) | (apply qd_cc <;> assumption) | (apply qh_cc <;> assumption) | (apply qg_cc <;> assumption)))) | (apply qe_cc <;> assumption) | (apply qf_cc <;> assumption) | (apply qi_cc <;> assumption) | (apply qn_cc <;> assumption) | (apply qd_cc <;> assumption) | (apply qh_cc <;> assumption) | (apply qg_cc <;> assumption)) ?_
    show _ = some (qk_v A lw hg); unfold qk_v; rw [if_neg (by rw [hk]; simp)]; rfl
noncomputable def qk_S : List Arg → Option (Bool × Res) := fun xs => match xs with
  | [(false, [(.slice 2, TC.l A)]), (false, [(.func, TC.f 127 [(2, lw), (2, hg)])])] => some ((qk_c A lw hg), qk_mk (qk_v A lw hg))
  | _ => .none
theorem qk_e (A : LL) (lw hg : List TC) : runF tab FT D17 live 138 qk_lo [(false, [(.slice 2, TC.l A)]), (false, [(.func, TC.f 127 [(2, lw), (2, hg)])])] = (qk_t A lw hg).run fun p => some (qk_mk p) := by kernel_rfl
theorem qk_s : ∀ xs r, qk_S xs = some (true, r) → runF tab FT D17 live 138 qk_lo xs = some r := by
  intro xs r h
  unfold qk_S at h
  split at h
  · simp only [Option.some.injEq, Prod.mk.injEq] at h
    obtain ⟨h1, rfl⟩ := h
    exact fun_told (qk_e _ _ _) (qk_l _ _ _) h1
  · cases h
noncomputable def D18 : Dt := also D17 138 qk_S
theorem d18 : DOk Go.Proofs.Try.prog tab D18 := d17.also mixed_ok tab_ok names_ok (fnLoops_one (by kernel_rfl) qk_is2) qk_s
noncomputable def qba_t (A : LL) (lw hg : List TC) : Tr (Bool) := (.ite ((qk_c A lw hg) = true) (.ok (decide ((qk_v A lw hg) ≥ (0 : Int))))
  .no)
def qba_mk (p : Bool) : Res := [(false, [⟨.bool, .sh, TC.b p⟩])]
noncomputable def qba_c (A : LL) (lw hg : List TC) : Bool := is (Typed tab (.slice 2) (.l A))
noncomputable def qba_v (A : LL) (lw hg : List TC) : Bool := !(A.all (inR (nth lw 0).int (nth hg 0).int))
theorem qba_l (A : LL) (lw hg : List TC) : (qba_c A lw hg) = true → (qba_t A lw hg).val = some (qba_v A lw hg) := by
  intro h
  have ht := is_iff.1 h
  unfold qba_t
  refine Tr.t (by first | (apply is_true; and_intros <;> (first | rfl | assumption | (apply qe_cc <;> assumption) | (apply qf_cc <;> assumption) | (apply qi_cc <;> assumption) | (apply qn_cc <;> assumption) | (apply qd_cc <;> assumption) | (apply qh_cc <;> assumption) | (apply qg_cc <;> assumption) | (first | (apply is_true; and_intros <;> (first | rfl | assumption | (apply qe_cc <;> assumption) | (apply qf_cc <;> assumption) | (apply qi_cc <;> assumption) | (apply qn_cc <;> assumption) | (apply qd_cc <;> assumption) | (apply qh_cc <;> assumption) | (apply qg_cc <;> assumption) | (first | (apply is_true; and_intros <;> (first | rfl | assumption | (apply qe_cc <;> assumption) | (apply qf_cc <;> assumption) | (apply qi_cc <;> assumption) | (apply qn_cc <;> assumption) | (apply qd_cc <;> assumption) | (apply qh_cc <;> assumption) | (apply qg_cc <;> assumption) | (first | (apply is_true; and_intros <;> (first | rfl | assumption | (apply qe_cc <;> assumption) | (apply qf_cc <;> assumption) | (apply qi_cc <;> assumption) | (apply qn_cc <;> assumption) | (apply qd_cc <;> assumption) | (apply qh_cc <;> assumption) | (apply qg_cc <;> assumption))) | (apply qe_cc <;> assumption) | (apply qf_cc <;> assumption) | (apply qi_cc <;> assumption) | (apply qn_cc <;> assumption) | (apply qd_cc <;> assumption) | (apply qh_cc <;> assumption) | (apply qg_cc <;> assumption)))) | (apply qe_cc <;> assumption) | (apply qf_cc <;> assumption) | (apply qi_cc <;> assumption) | (apply qn_cc <;> assumption) | (apply qd_cc <;> assumption) | (apply qh_cc <;> assumption) | (apply qg_cc <;> assumption)))) | (apply qe_cc <;> assumption) | (apply qf_cc <;> assumption) | (apply qi_cc <;> assumption) | (apply qn_cc <;> assumption) | (apply qd_cc <;> assumption) | (apply qh_cc <;> assumption) | (apply qg_cc <;> assumption)))) | (apply qe_cc <;> assumption) | (apply qf_cc <;> assumption) | (apply qi_cc <;> assumption) | (apply qn_cc <;> assumption) | (apply qd_cc <;> assumption) | (apply qh_cc <;> assumption) | (apply qg_cc <;> assumption)) ?_
  show some (decide (qk_v A lw hg ≥ 0)) = some (!(A.all (inR (nth lw 0).int (nth hg 0).int)))
  unfold qk_v
  cases hk : A.all (inR (nth lw 0).int (nth hg 0).int) <;> simp
noncomputable def qba_S : List Arg → Option (Bool × Res) := fun xs => match xs with
  | [(false, [(.slice 2, TC.l A)]), (false, [(.func, TC.f 127 [(2, lw), (2, hg)])])] => some ((qba_c A lw hg), qba_mk (qba_v A lw hg))
  | _ => .none
theorem qba_e (A : LL) (lw hg : List TC) : runF tab FT D18 live 126 noLoops [(false, [(.slice 2, TC.l A)]), (false, [(.func, TC.f 127 [(2, lw), (2, hg)])])] = (qba_t A lw hg).run fun p => some (qba_mk p) := by kernel_rfl
theorem qba_s : ∀ xs r, qba_S xs = some (true, r) → runF tab FT D18 live 126 noLoops xs = some r := by
  intro xs r h
  unfold qba_S at h
  split at h
  · simp only [Option.some.injEq, Prod.mk.injEq] at h
    obtain ⟨h1, rfl⟩ := h
    exact fun_told (qba_e _ _ _) (qba_l _ _ _) h1
  · cases h
noncomputable def D19 : Dt := also D18 126 qba_S
theorem d19 : DOk Go.Proofs.Try.prog tab D19 := d18.also mixed_ok tab_ok names_ok noLoops_ok qba_s
noncomputable def qbb_t (a0 : LL) (a1 a2 : Int) : Tr (Bool) := (.ite ((qba_c a0 [TC.i a1] [TC.i a2]) = true) (.ok (!(qba_v a0 [TC.i a1] [TC.i a2])))
  .no)
def qbb_mk (p : Bool) : Res := [(false, [⟨.bool, .sh, TC.b p⟩])]
noncomputable def qbb_c (a0 : LL) (a1 a2 : Int) : Bool := (qba_c a0 [TC.i a1] [TC.i a2])
noncomputable def qbb_v (a0 : LL) (a1 a2 : Int) : Bool := (!(qba_v a0 [TC.i a1] [TC.i a2]))
theorem qbb_l (a0 : LL) (a1 a2 : Int) : (qbb_c a0 a1 a2) = true → (qbb_t a0 a1 a2).val = some (qbb_v a0 a1 a2) := by
  intro h
  have hc0 : (qba_c a0 [TC.i a1] [TC.i a2]) = true := h
  unfold qbb_t
  exact (Tr.t hc0 rfl)
noncomputable def qbb_S : List Arg → Option (Bool × Res) := fun xs => match xs with
  | [(false, [(.slice 2, TC.l a0)]), (false, [(.int .i64, TC.i a1)]), (false, [(.int .i64, TC.i a2)])] => some ((qbb_c a0 a1 a2), qbb_mk (qbb_v a0 a1 a2))
  | _ => .none
theorem qbb_e (a0 : LL) (a1 a2 : Int) : runF tab FT D19 live 81 noLoops [(false, [(.slice 2, TC.l a0)]), (false, [(.int .i64, TC.i a1)]), (false, [(.int .i64, TC.i a2)])] = (qbb_t a0 a1 a2).run fun p => some (qbb_mk p) := by kernel_rfl
theorem qbb_s : ∀ xs r, qbb_S xs = some (true, r) → runF tab FT D19 live 81 noLoops xs = some r := by
  intro xs r h
  unfold qbb_S at h
  split at h
  · simp only [Option.some.injEq, Prod.mk.injEq] at h
    obtain ⟨h1, rfl⟩ := h
    exact fun_told (qbb_e _ _ _) (qbb_l _ _ _) h1
  · cases h
noncomputable def D20 : Dt := also D19 81 qbb_S
theorem d20 : DOk Go.Proofs.Try.prog tab D20 := d19.also mixed_ok tab_ok names_ok noLoops_ok qbb_s
abbrev qr_3_σ := Int × LL × Int × Int
abbrev qr_3_ω := (Int)
noncomputable def qr_3_step (n : Int) (A : LL) (m i : Int) : Tr (qr_3_σ ⊕ qr_3_ω) := (.ite ((decide (i < m)) = true) (.ite ((0 : Int) ≤ i ∧ i < (A.length : Int)) (.ok (.inl ((IntKind.wrap .i64 (n * (nth (row A i) 0).int)), A, m, (IntKind.wrap .i64 (i + (1 : Int))))))
   .no)
  (.ok (.inr n)))
noncomputable def qr_3_st : qr_3_σ → Tr (qr_3_σ ⊕ qr_3_ω) := fun x => (qr_3_step (x.1) (x.2.1) (x.2.2.1) (x.2.2.2))
noncomputable def qr_o3_1 (n : Int) (A : LL) (m i : Int) : Bool := is (i = 0 ∧ n = 1 ∧ Typed tab (.slice 2) (.l A) ∧ m = (A.length : Int))
noncomputable def qr_u3_1 (n : Int) (A : LL) (m i : Int) : Int := (A.foldl mulR (1 : Int))
noncomputable def qr_3_fin (n : Int) (A : LL) (m i : Int) : Told qr_3_ω := (.leaf (qr_o3_1 n A m i) (qr_u3_1 n A m i))
def qr_3_sl (x : qr_3_σ) : List Slot := [⟨.val false [⟨.int .i64, .sh, TC.i (x.1)⟩], ⟨0, 0⟩⟩, ⟨.val false [⟨.slice 2, .sh, TC.l (x.2.1)⟩], ⟨0, 0⟩⟩, ⟨.val false [⟨.int .i64, .sh, TC.i (x.2.2.1)⟩], ⟨0, 0⟩⟩, ⟨.val false [⟨.int .i64, .sh, TC.i (x.2.2.2)⟩], ⟨0, 0⟩⟩]
def qr_3_out : qr_3_ω → Ex × List Slot := (fun x => (.exit 0, [Slot.none, ⟨.val false [⟨.int .i64, .sh, TC.i x⟩], ⟨0, 0⟩⟩]))
noncomputable def qr_lo3 : List Slot → Option (Told (Ex × List Slot)) := fun s => match s with
  | [⟨.val false [⟨.int .i64, .sh, TC.i n⟩], ⟨0, 0⟩⟩, ⟨.val false [⟨.slice 2, .sh, TC.l A⟩], ⟨0, 0⟩⟩, ⟨.val false [⟨.int .i64, .sh, TC.i m⟩], ⟨0, 0⟩⟩, ⟨.val false [⟨.int .i64, .sh, TC.i i⟩], ⟨0, 0⟩⟩] => some (((qr_3_fin n A m i)).map qr_3_out)
  | _ => .none
noncomputable def qr_lo : LoopTeller := fun r s => bif Nat.beq r 3 then qr_lo3 s else .none
theorem qr_3_r (n : Int) (A : LL) (m i : Int) (fuel : Nat) : rounds (rnd tab FT D20 live 82 qr_lo 0 3) leave (fuel + 1) (qr_3_sl (n, A, m, i)) = ((qr_3_step n A m i)).run (goOn (fun s => rounds (rnd tab FT D20 live 82 qr_lo 0 3) leave fuel (qr_3_sl s)) fun w => some (qr_3_out w)) := by kernel_rfl
theorem qr_3_h (n : Int) (A : LL) (m i : Int) (ow : qr_3_ω) : ((qr_3_fin n A m i)).val = some ow → ∃ fuel, loopN qr_3_st fuel (n, A, m, i) = some ow := by
  intro h
  have key : Typed tab (.slice 2) (.l A) → loopN qr_3_st (A.length + 1) ((1 : Int), A, (A.length : Int), (0 : Int)) = some ((A.foldl mulR (1 : Int))) := by
    intro ht
    have hlen : A.length ≤ 140737488351232 := by have := typed_room ht; simp only [show (tab 2).bytes = 8 from rfl] at this; omega
    have key := loopN_scan (step := qr_3_st) A [] (fun _ => true) mulR (fun i a => (a, A, (A.length : Int), (i : Int))) (fun a => a) (fun i a => a) (fun i a hi => ?_) (fun a => ?_) A.length 0 (1 : Int) (by omega)
    · first | (rw [Nat.zero_add] at key; exact key) | exact key | (simpa using key)
    · skip
      show (qr_3_step a A (A.length : Int) (i : Int)).val = _
      unfold qr_3_step
      refine Tr.t (by simp; omega) ?_
      show _ = some _
      refine Tr.t (by first | omega | (constructor <;> omega)) ?_
      rw [Tr.val_ok, wrap64 (i := (i : Int) + 1) (by omega) (by omega)]; rfl
    · show (qr_3_step a A (A.length : Int) (A.length : Int)).val = _
      refine Tr.n (by simp) ?_
      rfl
  simp only [qr_3_fin, Told.val] at h
  split at h
  · rename_i ho
    obtain ⟨rfl, rfl, ht, rfl⟩ := is_iff.1 ho
    cases h
    exact ⟨_, key ht⟩
  · cases h
theorem qr_is3 : LoopIs tab FT D20 live 82 qr_lo 0 3 := by
  refine loop_told (sl := qr_3_sl) (step := qr_3_st) (out := qr_3_out) (lor := qr_lo3) (fin := fun x => (qr_3_fin (x.1) (x.2.1) (x.2.2.1) (x.2.2.2))) (fun _ => rfl) ?_ (fun x n => qr_3_r x.1 x.2.1 x.2.2.1 x.2.2.2 n) (fun x ow => qr_3_h x.1 x.2.1 x.2.2.1 x.2.2.2 ow)
  intro s t h
  unfold qr_lo3 at h
  split at h
  · cases h; exact ⟨(_, _, _, _), rfl, rfl⟩
  · cases h
noncomputable def qr_t (A : LL) : Tr (Int) := (.ite ((qr_o3_1 (1 : Int) A (A.length : Int) (0 : Int)) = true) (.ok (qr_u3_1 (1 : Int) A (A.length : Int) (0 : Int)))
  .no)
def qr_mk (p : Int) : Res := [(false, [⟨.int .i64, .sh, TC.i p⟩])]
noncomputable def qr_c (A : LL) : Bool := (qr_o3_1 (1 : Int) A (A.length : Int) (0 : Int))
noncomputable def qr_v (A : LL) : Int := (qr_u3_1 (1 : Int) A (A.length : Int) (0 : Int))
theorem qr_l (A : LL) : (qr_c A) = true → (qr_t A).val = some (qr_v A) := by
  intro h
  have hc0 : (qr_o3_1 (1 : Int) A (A.length : Int) (0 : Int)) = true := h
  unfold qr_t
  exact (Tr.t hc0 rfl)
noncomputable def qr_S : List Arg → Option (Bool × Res) := fun xs => match xs with
  | [(false, [(.slice 2, TC.l A)])] => some ((qr_c A), qr_mk (qr_v A))
  | _ => .none
theorem qr_e (A : LL) : runF tab FT D20 live 82 qr_lo [(false, [(.slice 2, TC.l A)])] = (qr_t A).run fun p => some (qr_mk p) := by kernel_rfl
theorem qr_s : ∀ xs r, qr_S xs = some (true, r) → runF tab FT D20 live 82 qr_lo xs = some r := by
  intro xs r h
  unfold qr_S at h
  split at h
  · simp only [Option.some.injEq, Prod.mk.injEq] at h
    obtain ⟨h1, rfl⟩ := h
    exact fun_told (qr_e _) (qr_l _) h1
  · cases h
noncomputable def D21 : Dt := also D20 82 qr_S
theorem d21 : DOk Go.Proofs.Try.prog tab D21 := d20.also mixed_ok tab_ok names_ok (fnLoops_one (by kernel_rfl) qr_is3) qr_s
noncomputable def qbc_t (A : LL) : Tr (Bool) := (.ite ((decide ((A.length : Int) ≤ (3 : Int))) = true) (.ite ((qbb_c A (0 : Int) (40 : Int)) = true) (.ite ((qbb_v A (0 : Int) (40 : Int)) = true) (.ite ((qr_c A) = true) (.ok (decide ((qr_v A) ≤ (600 : Int))))
     .no)
    (.ok false))
   .no)
  (.ok false))
def qbc_mk (p : Bool) : Res := [(false, [⟨.bool, .sh, TC.b p⟩])]
noncomputable def qbc_c (A : LL) : Bool := is (((qbb_c A (0 : Int) (40 : Int)) = true) ∧ ((qr_c A) = true))
noncomputable def qbc_v (A : LL) : Bool := (bif (decide ((A.length : Int) ≤ (3 : Int))) then (bif (qbb_v A (0 : Int) (40 : Int)) then (decide ((qr_v A) ≤ (600 : Int))) else false) else false)
theorem qbc_l (A : LL) : (qbc_c A) = true → (qbc_t A).val = some (qbc_v A) := by
  intro h
  obtain ⟨g0, g1⟩ := is_iff.1 h
  unfold qbc_t qbc_v
  exact (Tr.s (Tr.t g0 (Tr.s (Tr.t g1 rfl) rfl)) rfl)
noncomputable def qbc_S : List Arg → Option (Bool × Res) := fun xs => match xs with
  | [(false, [(.slice 2, TC.l A)])] => some ((qbc_c A), qbc_mk (qbc_v A))
  | _ => .none
theorem qbc_e (A : LL) : runF tab FT D21 live 80 noLoops [(false, [(.slice 2, TC.l A)])] = (qbc_t A).run fun p => some (qbc_mk p) := by kernel_rfl
theorem qbc_s : ∀ xs r, qbc_S xs = some (true, r) → runF tab FT D21 live 80 noLoops xs = some r := by
  intro xs r h
  unfold qbc_S at h
  split at h
  · simp only [Option.some.injEq, Prod.mk.injEq] at h
    obtain ⟨h1, rfl⟩ := h
    exact fun_told (qbc_e _) (qbc_l _) h1
  · cases h
noncomputable def D22 : Dt := also D21 80 qbc_S
theorem d22 : DOk Go.Proofs.Try.prog tab D22 := d21.also mixed_ok tab_ok names_ok noLoops_ok qbc_s
theorem qbc_vv (A : LL) : qbc_v A = dimsOk A := by
  show (bif decide ((A.length : Int) ≤ 3) then bif (!(!(A.all (inR 0 40)))) then decide (prodL A ≤ 600) else false else false) = _
  unfold dimsOk
  cases decide ((A.length : Int) ≤ 3) <;> cases A.all (inR 0 40) <;> rfl
abbrev qt_3_σ := LL × LL × LL × Int × Int
abbrev qt_3_ω := (LL)
noncomputable def qt_3_step (C X D : LL) (m i : Int) : Tr (qt_3_σ ⊕ qt_3_ω) := (.ite ((decide (i < m)) = true) (.ite ((0 : Int) ≤ i ∧ i < (D.length : Int)) (.ite ((0 : Int) ≤ i ∧ i < (C.length : Int)) (.ite ((0 : Int) ≤ i ∧ i < (C.length : Int)) (.ite ((nth (row C i) 0).int ≠ 0) (.ite (roomFor (tab 2) (X ++ [[TC.i (IntKind.wrap .i64 (Int.tdiv (IntKind.wrap .i64 ((IntKind.wrap .i64 ((nth (row D i) 0).int + (nth (row C i) 0).int)) - (1 : Int))) ((nth (row C i) 0).int)))]]).length) (.ok (.inl (C, (X ++ [[TC.i (IntKind.wrap .i64 (Int.tdiv (IntKind.wrap .i64 ((IntKind.wrap .i64 ((nth (row D i) 0).int + (nth (row C i) 0).int)) - (1 : Int))) ((nth (row C i) 0).int)))]]), D, m, (IntKind.wrap .i64 (i + (1 : Int))))))
       .no)
      .no)
     .no)
    .no)
   .no)
  (.ok (.inr X)))
noncomputable def qt_3_st : qt_3_σ → Tr (qt_3_σ ⊕ qt_3_ω) := fun x => (qt_3_step (x.1) (x.2.1) (x.2.2.1) (x.2.2.2.1) (x.2.2.2.2))
noncomputable def qt_o3_1 (C X D : LL) (m i : Int) : Bool := is (X = [] ∧ i = 0 ∧ Typed tab (.slice 2) (.l D) ∧ D.length = C.length ∧ C.all (inR 1 40) = true ∧ m = (D.length : Int))
noncomputable def qt_u3_1 (C X D : LL) (m i : Int) : LL := gridL D C
noncomputable def qt_3_fin (C X D : LL) (m i : Int) : Told qt_3_ω := (.leaf (qt_o3_1 C X D m i) (qt_u3_1 C X D m i))
def qt_3_sl (x : qt_3_σ) : List Slot := [⟨.val false [⟨.slice 2, .sh, TC.l (x.1)⟩], ⟨0, 0⟩⟩, ⟨.val false [⟨.slice 2, .own true, TC.l (x.2.1)⟩], ⟨0, 0⟩⟩, ⟨.val false [⟨.slice 2, .sh, TC.l (x.2.2.1)⟩], ⟨0, 0⟩⟩, ⟨.val false [⟨.int .i64, .sh, TC.i (x.2.2.2.1)⟩], ⟨0, 0⟩⟩, ⟨.val false [⟨.int .i64, .sh, TC.i (x.2.2.2.2)⟩], ⟨0, 0⟩⟩]
def qt_3_out : qt_3_ω → Ex × List Slot := (fun x => (.exit 0, [Slot.none, ⟨.val false [⟨.slice 2, .own true, TC.l x⟩], ⟨0, 0⟩⟩]))
noncomputable def qt_lo3 : List Slot → Option (Told (Ex × List Slot)) := fun s => match s with
  | [⟨.val false [⟨.slice 2, .sh, TC.l C⟩], ⟨0, 0⟩⟩, ⟨.val false [⟨.slice 2, .own true, TC.l X⟩], ⟨0, 0⟩⟩, ⟨.val false [⟨.slice 2, .sh, TC.l D⟩], ⟨0, 0⟩⟩, ⟨.val false [⟨.int .i64, .sh, TC.i m⟩], ⟨0, 0⟩⟩, ⟨.val false [⟨.int .i64, .sh, TC.i i⟩], ⟨0, 0⟩⟩] => some (((qt_3_fin C X D m i)).map qt_3_out)
  | _ => .none
noncomputable def qt_lo : LoopTeller := fun r s => bif Nat.beq r 3 then qt_lo3 s else .none
theorem qt_3_r (C X D : LL) (m i : Int) (fuel : Nat) : rounds (rnd tab FT D22 live 83 qt_lo 0 3) leave (fuel + 1) (qt_3_sl (C, X, D, m, i)) = ((qt_3_step C X D m i)).run (goOn (fun s => rounds (rnd tab FT D22 live 83 qt_lo 0 3) leave fuel (qt_3_sl s)) fun w => some (qt_3_out w)) := by kernel_rfl
theorem qt_3_h (C X D : LL) (m i : Int) (ow : qt_3_ω) : ((qt_3_fin C X D m i)).val = some ow → ∃ fuel, loopN qt_3_st fuel (C, X, D, m, i) = some ow := by
  intro h
  simp only [qt_3_fin, Told.val] at h
  split at h
  · rename_i ho
    obtain ⟨rfl, rfl, ht, hl, hc, rfl⟩ := is_iff.1 ho
    cases h
    have hlen : D.length ≤ 17592186044404 := by have := typed_room ht; simp only [show (tab 2).bytes = 8 from rfl] at this; omega
    have hg : (gridL D C).length = D.length := by simp [gridL, hl]
    refine ⟨_, loopN_build (step := qt_3_st) (gridL D C) (fun i X => (C, X, D, (D.length : Int), (i : Int))) _ (fun i hi => ?_) ?_⟩
    · have hi' : i < D.length := by omega
      rw [gridL_at hl hi]
      show (qt_3_step C ((gridL D C).take i) D (D.length : Int) (i : Int)).val = _
      unfold qt_3_step
      refine Tr.t (by simp; omega) ?_
      refine Tr.t (by constructor <;> omega) ?_
      refine Tr.t (by constructor <;> omega) ?_
      refine Tr.t (by constructor <;> omega) ?_
      refine Tr.t (inR_1 hc (by omega)) ?_
      refine Tr.t (by unfold roomFor; simp only [show (tab 2).bytes = 8 from rfl, List.length_append, List.length_take, List.length_singleton]; omega) ?_
      rw [Tr.val_ok, wrap64 (i := (i : Int) + 1) (by omega) (by omega)]; rfl
    · show (qt_3_step C (gridL D C) D (D.length : Int) ((gridL D C).length : Int)).val = _
      refine Tr.n (by simp [hg]) ?_
      rfl
  · cases h
theorem qt_is3 : LoopIs tab FT D22 live 83 qt_lo 0 3 := by
  refine loop_told (sl := qt_3_sl) (step := qt_3_st) (out := qt_3_out) (lor := qt_lo3) (fin := fun x => (qt_3_fin (x.1) (x.2.1) (x.2.2.1) (x.2.2.2.1) (x.2.2.2.2))) (fun _ => rfl) ?_ (fun x n => qt_3_r x.1 x.2.1 x.2.2.1 x.2.2.2.1 x.2.2.2.2 n) (fun x ow => qt_3_h x.1 x.2.1 x.2.2.1 x.2.2.2.1 x.2.2.2.2 ow)
  intro s t h
  unfold qt_lo3 at h
  split at h
  · cases h; exact ⟨(_, _, _, _, _), rfl, rfl⟩
  · cases h
noncomputable def qt_t (D C : LL) : Tr (LL) := (.ite ((qt_o3_1 C [] D (D.length : Int) (0 : Int)) = true) (.ok (qt_u3_1 C [] D (D.length : Int) (0 : Int)))
  .no)
def qt_mk (p : LL) : Res := [(false, [⟨.slice 2, .own true, TC.l p⟩])]
noncomputable def qt_c (D C : LL) : Bool := is (Typed tab (.slice 2) (.l D) ∧ D.length = C.length ∧ C.all (inR 1 40) = true)
noncomputable def qt_v (D C : LL) : LL := gridL D C
theorem qt_l (D C : LL) : (qt_c D C) = true → (qt_t D C).val = some (qt_v D C) := by
  intro h
  obtain ⟨ht, hl, hc⟩ := is_iff.1 h
  unfold qt_t
  exact Tr.t (is_true ⟨rfl, rfl, ht, hl, hc, rfl⟩) rfl
noncomputable def qt_S : List Arg → Option (Bool × Res) := fun xs => match xs with
  | [(false, [(.slice 2, TC.l D)]), (false, [(.slice 2, TC.l C)])] => some ((qt_c D C), qt_mk (qt_v D C))
  | _ => .none
theorem qt_e (D C : LL) : runF tab FT D22 live 83 qt_lo [(false, [(.slice 2, TC.l D)]), (false, [(.slice 2, TC.l C)])] = (qt_t D C).run fun p => some (qt_mk p) := by kernel_rfl
theorem qt_s : ∀ xs r, qt_S xs = some (true, r) → runF tab FT D22 live 83 qt_lo xs = some r := by
  intro xs r h
  unfold qt_S at h
  split at h
  · simp only [Option.some.injEq, Prod.mk.injEq] at h
    obtain ⟨h1, rfl⟩ := h
    exact fun_told (qt_e _ _) (qt_l _ _) h1
  · cases h
noncomputable def D23 : Dt := also D22 83 qt_S
theorem d23 : DOk Go.Proofs.Try.prog tab D23 := d22.also mixed_ok tab_ok names_ok (fnLoops_one (by kernel_rfl) qt_is3) qt_s
noncomputable def ql_t (D C : LL) : Tr (Bool) := (.ite ((qbc_c D) = true) (.ite ((!(qbc_v D)) = true) (.ok false)
   (.ite ((!((C.length : Int) == (D.length : Int))) = true) (.ok false)
    (.ite ((qbb_c C (1 : Int) (40 : Int)) = true) (.ite ((!(qbb_v C (1 : Int) (40 : Int))) = true) (.ok false)
      (.ite ((qr_c C) = true) (.ite ((decide ((qr_v C) > (64 : Int))) = true) (.ok false)
        (.ite ((qt_c D C) = true) (.ite ((qbb_c (qt_v D C) (0 : Int) (16 : Int)) = true) (.ite ((qbb_v (qt_v D C) (0 : Int) (16 : Int)) = true) (.ite ((qr_c (qt_v D C)) = true) (.ok (decide ((qr_v (qt_v D C)) ≤ (256 : Int))))
            .no)
           (.ok false))
          .no)
         .no))
       .no))
     .no)))
  .no)
def ql_mk (p : Bool) : Res := [(false, [⟨.bool, .sh, TC.b p⟩])]
noncomputable def ql_c (D C : LL) : Bool := ((qbc_c D) && (bif (!(qbc_v D)) then true else (bif (!((C.length : Int) == (D.length : Int))) then true else ((qbb_c C (1 : Int) (40 : Int)) && (bif (!(qbb_v C (1 : Int) (40 : Int))) then true else ((qr_c C) && (bif (decide ((qr_v C) > (64 : Int))) then true else ((qt_c D C) && ((qbb_c (qt_v D C) (0 : Int) (16 : Int)) && (bif (qbb_v (qt_v D C) (0 : Int) (16 : Int)) then ((qr_c (qt_v D C)) && true) else true))))))))))
noncomputable def ql_v (D C : LL) : Bool := (bif (!(qbc_v D)) then false else (bif (!((C.length : Int) == (D.length : Int))) then false else (bif (!(qbb_v C (1 : Int) (40 : Int))) then false else (bif (decide ((qr_v C) > (64 : Int))) then false else (bif (qbb_v (qt_v D C) (0 : Int) (16 : Int)) then (decide ((qr_v (qt_v D C)) ≤ (256 : Int))) else false)))))
theorem ql_l (D C : LL) : (ql_c D C) = true → (ql_t D C).val = some (ql_v D C) := by
  unfold ql_t ql_v ql_c
  exact fun h => (Tr.gb h fun h => (Tr.ss h (fun h => rfl) (fun h => (Tr.ss h (fun h => rfl) (fun h => (Tr.gb h fun h => (Tr.ss h (fun h => rfl) (fun h => (Tr.gb h fun h => (Tr.ss h (fun h => rfl) (fun h => (Tr.gb h fun h => (Tr.gb h fun h => (Tr.ss h (fun h => (Tr.gb h fun h => rfl)) (fun h => rfl)))))))))))))))
noncomputable def ql_S : List Arg → Option (Bool × Res) := fun xs => match xs with
  | [(false, [(.slice 2, TC.l D)]), (false, [(.slice 2, TC.l C)])] => some ((ql_c D C), ql_mk (ql_v D C))
  | _ => .none
theorem ql_e (D C : LL) : runF tab FT D23 live 37 noLoops [(false, [(.slice 2, TC.l D)]), (false, [(.slice 2, TC.l C)])] = (ql_t D C).run fun p => some (ql_mk p) := by kernel_rfl
theorem ql_s : ∀ xs r, ql_S xs = some (true, r) → runF tab FT D23 live 37 noLoops xs = some r := by
  intro xs r h
  unfold ql_S at h
  split at h
  · simp only [Option.some.injEq, Prod.mk.injEq] at h
    obtain ⟨h1, rfl⟩ := h
    exact fun_told (ql_e _ _) (ql_l _ _) h1
  · cases h
noncomputable def D24 : Dt := also D23 37 ql_S
theorem d24 : DOk Go.Proofs.Try.prog tab D24 := d23.also mixed_ok tab_ok names_ok noLoops_ok ql_s
theorem ql_cc {D : LL} {C : LL} (hD : Typed tab (.slice 2) (.l D)) (hC : Typed tab (.slice 2) (.l C)) : (ql_c D C) = true := by
  unfold ql_c
  refine andT (by first | (apply is_true; and_intros <;> (first | rfl | assumption | (apply qe_cc <;> assumption) | (apply qf_cc <;> assumption) | (apply qi_cc <;> assumption) | (apply qn_cc <;> assumption) | (apply qd_cc <;> assumption) | (apply qh_cc <;> assumption) | (apply qg_cc <;> assumption) | (first | (apply is_true; and_intros <;> (first | rfl | assumption | (apply qe_cc <;> assumption) | (apply qf_cc <;> assumption) | (apply qi_cc <;> assumption) | (apply qn_cc <;> assumption) | (apply qd_cc <;> assumption) | (apply qh_cc <;> assumption) | (apply qg_cc <;> assumption) | (first | (apply is_true; and_intros <;> (first | rfl | assumption | (apply qe_cc <;> assumption) | (apply qf_cc <;> assumption) | (apply qi_cc <;> assumption) | (apply qn_cc <;> assumption) | (apply qd_cc <;> assumption) | (apply qh_cc <;> assumption) | (apply qg_cc <;> assumption) | (first | (apply is_true; and_intros <;> (first | rfl | assumption | (apply qe_cc <;> assumption) | (apply qf_cc <;> assumption) | (apply qi_cc <;> assumption) | (apply qn_cc <;> assumption) | (apply qd_cc <;> assumption) | (apply qh_cc <;> assumption) | (apply qg_cc <;> assumption))) | (apply qe_cc <;> assumption) | (apply qf_cc <;> assumption) | (apply qi_cc <;> assumption) | (apply qn_cc <;> assumption) | (apply qd_cc <;> assumption) | (apply qh_cc <;> assumption) | (apply qg_cc <;> assumption)))) | (apply qe_cc <;> assumption) | (apply qf_cc <;> assumption) | (apply qi_cc <;> assumption) | (apply qn_cc <;> assumption) | (apply qd_cc <;> assumption) | (apply qh_cc <;> assumption) | (apply qg_cc <;> assumption)))) | (apply qe_cc <;> assumption) | (apply qf_cc <;> assumption) | (apply qi_cc <;> assumption) | (apply qn_cc <;> assumption) | (apply qd_cc <;> assumption) | (apply qh_cc <;> assumption) | (apply qg_cc <;> assumption)))) | (apply qe_cc <;> assumption) | (apply qf_cc <;> assumption) | (apply qi_cc <;> assumption) | (apply qn_cc <;> assumption) | (apply qd_cc <;> assumption) | (apply qh_cc <;> assumption) | (apply qg_cc <;> assumption)) ?_
  refine bifT (fun b1 => ?_) (fun b1 => ?_)
  · skip
    rfl
  · skip
    refine bifT (fun b2 => ?_) (fun b2 => ?_)
    · skip
      rfl
    · skip
      refine andT (by first | (apply is_true; and_intros <;> (first | rfl | assumption | (apply qe_cc <;> assumption) | (apply qf_cc <;> assumption) | (apply qi_cc <;> assumption) | (apply qn_cc <;> assumption) | (apply qd_cc <;> assumption) | (apply qh_cc <;> assumption) | (apply qg_cc <;> assumption) | (first | (apply is_true; and_intros <;> (first | rfl | assumption | (apply qe_cc <;> assumption) | (apply qf_cc <;> assumption) | (apply qi_cc <;> assumption) | (apply qn_cc <;> assumption) | (apply qd_cc <;> assumption) | (apply qh_cc <;> assumption) | (apply qg_cc <;> assumption) | (first | (apply is_true; and_intros <;> (first | rfl | assumption | (apply qe_cc <;> assumption) | (apply qf_cc <;> assumption) | (apply qi_cc <;> assumption) | (apply qn_cc <;> assumption) | (apply qd_cc <;> assumption) | (apply qh_cc <;> assumption) | (apply qg_cc <;> assumption) | (first | (apply is_true; and_intros <;> (first | rfl | assumption | (apply qe_cc <;> assumption) | (apply qf_cc <;> assumption) | (apply qi_cc <;> assumption) | (apply qn_cc <;> assumption) | (apply qd_cc <;> assumption) | (apply qh_cc <;> assumption) | (apply qg_cc <;> assumption))) | (apply qe_cc <;> assumption) | (apply qf_cc <;> assumption) | (apply qi_cc <;> assumption) | (apply qn_cc <;> assumption) | (apply qd_cc <;> assumption) | (apply qh_cc <;> assumption) | (apply qg_cc <;> assumption)))) | (apply qe_cc <;> assumption) | (apply qf_cc <;> assumption) | (apply qi_cc <;> assumption) | (apply qn_cc <;> assumption) | (apply qd_cc <;> assumption) | (apply qh_cc <;> assumption) | (apply qg_cc <;> assumption)))) | (apply qe_cc <;> assumption) | (apply qf_cc <;> assumption) | (apply qi_cc <;> assumption) | (apply qn_cc <;> assumption) | (apply qd_cc <;> assumption) | (apply qh_cc <;> assumption) | (apply qg_cc <;> assumption)))) | (apply qe_cc <;> assumption) | (apply qf_cc <;> assumption) | (apply qi_cc <;> assumption) | (apply qn_cc <;> assumption) | (apply qd_cc <;> assumption) | (apply qh_cc <;> assumption) | (apply qg_cc <;> assumption)) ?_
      refine bifT (fun b3 => ?_) (fun b3 => ?_)
      · skip
        rfl
      · skip
        refine andT (by first | (apply is_true; and_intros <;> (first | rfl | assumption | (apply qe_cc <;> assumption) | (apply qf_cc <;> assumption) | (apply qi_cc <;> assumption) | (apply qn_cc <;> assumption) | (apply qd_cc <;> assumption) | (apply qh_cc <;> assumption) | (apply qg_cc <;> assumption) | (first | (apply is_true; and_intros <;> (first | rfl | assumption | (apply qe_cc <;> assumption) | (apply qf_cc <;> assumption) | (apply qi_cc <;> assumption) | (apply qn_cc <;> assumption) | (apply qd_cc <;> assumption) | (apply qh_cc <;> assumption) | (apply qg_cc <;> assumption) | (first | (apply is_true; and_intros <;> (first | rfl | assumption | (apply qe_cc <;> assumption) | (apply qf_cc <;> assumption) | (apply qi_cc <;> assumption) | (apply qn_cc <;> assumption) | (apply qd_cc <;> assumption) | (apply qh_cc <;> assumption) | (apply qg_cc <;> assumption) | (first | (apply is_true; and_intros <;> (first | rfl | assumption | (apply qe_cc <;> assumption) | (apply qf_cc <;> assumption) | (apply qi_cc <;> assumption) | (apply qn_cc <;> assumption) | (apply qd_cc <;> assumption) | (apply qh_cc <;> assumption) | (apply qg_cc <;> assumption))) | (apply qe_cc <;> assumption) | (apply qf_cc <;> assumption) | (apply qi_cc <;> assumption) | (apply qn_cc <;> assumption) | (apply qd_cc <;> assumption) | (apply qh_cc <;> assumption) | (apply qg_cc <;> assumption)))) | (apply qe_cc <;> assumption) | (apply qf_cc <;> assumption) | (apply qi_cc <;> assumption) | (apply qn_cc <;> assumption) | (apply qd_cc <;> assumption) | (apply qh_cc <;> assumption) | (apply qg_cc <;> assumption)))) | (apply qe_cc <;> assumption) | (apply qf_cc <;> assumption) | (apply qi_cc <;> assumption) | (apply qn_cc <;> assumption) | (apply qd_cc <;> assumption) | (apply qh_cc <;> assumption) | (apply qg_cc <;> assumption)))) | (apply qe_cc <;> assumption) | (apply qf_cc <;> assumption) | (apply qi_cc <;> assumption) | (apply qn_cc <;> assumption) | (apply qd_cc <;> assumption) | (apply qh_cc <;> assumption) | (apply qg_cc <;> assumption)) ?_
        refine bifT (fun b4 => ?_) (fun b4 => ?_)
        · skip
          rfl
        · skip
          refine andT (by exact is_true (p := Typed tab (.slice 2) (.l D) ∧ D.length = C.length ∧ C.all (inR 1 40) = true) ⟨hD, lenEq b2, nnF b3⟩) ?_
          refine andT (by exact is_true (gridL_ty rfl hD)) ?_
          refine bifT (fun b5 => ?_) (fun b5 => ?_)
          · skip
            refine andT (by exact is_true ⟨rfl, rfl, gridL_ty rfl hD, rfl⟩) ?_
            rfl
          · skip
            rfl
theorem ql_vv (D C : LL) : ql_v D C = chunkOk D C := by
  show (bif (!(qbc_v D)) then false else bif (!((C.length : Int) == (D.length : Int))) then false else bif (!(!(!(C.all (inR 1 40))))) then false else bif decide (prodL C > 64) then false else bif (!(!((gridL D C).all (inR 0 16)))) then decide (prodL (gridL D C) ≤ 256) else false) = _
  rw [qbc_vv]
  unfold chunkOk
  rw [show decide (prodL C > 64) = !decide (prodL C ≤ 64) from by rw [← decide_not]; simp]
  cases dimsOk D <;> cases ((C.length : Int) == (D.length : Int)) <;> cases C.all (inR 1 40) <;> cases (gridL D C).all (inR 0 16) <;> cases decide (prodL C ≤ 64) <;> rfl
noncomputable def qbh_c (A : LL) (x : Int) : Bool := is (Typed tab (.slice 2) (.l A) ∧ ∀ j : Nat, j < A.length → (nth (A.getD j []) 0).int ≠ 0)
noncomputable def qbh_v (A : LL) (x : Int) : LL := coordsV A x
def qbh_mk (p : LL) : Res := [(false, [⟨.slice 2, .own true, TC.l p⟩])]
noncomputable def qbh_S : List Arg → Option (Bool × Res) := fun xs => match xs with
  | [(false, [(.slice 2, TC.l A)]), (false, [(.int .i64, TC.i x)])] => some ((qbh_c A x), qbh_mk (qbh_v A x))
  | _ => .none
noncomputable def D25 : Dt := also D24 101 qbh_S
theorem d25 : DOk Go.Proofs.Try.prog tab D25 := d24.alsoC names_ok (c := _) Go.Proofs.Try.func101 rfl (by
  intro xs r h w S hargs0 hS hargs
  unfold qbh_S at h
  split at h
  · rename_i A x
    simp only [Option.some.injEq, Prod.mk.injEq] at h
    obtain ⟨h1, rfl⟩ := h
    obtain ⟨u, us, rfl, ha, hr⟩ := args_cons hargs
    obtain ⟨u2, us2, rfl, hb, hr2⟩ := args_cons hr
    have := args_nil hr2
    subst this
    obtain ⟨ht, hz⟩ := is_iff.1 h1
    have hlen := typed_room ht
    simp only [show (tab 2).bytes = 8 from rfl] at hlen
    rw [rep_int' (arg_rep hb)]
    exact coords_told hS (arg_rep ha) hz hlen
  · cases h)
noncomputable def qy_f3 (A : LL) (m i n : Int) : (Int) ⊕ ((Int)) := (.inl (IntKind.wrap .i64 ((IntKind.wrap .i64 (n * (16 : Int))) + (nth (row A i) 0).int)))
noncomputable def qy_e3 (A : LL) (m n : Int) : (Int) := n
noncomputable def qy_R3 (n : Int) (A : LL) (m i : Int) : (Int) := iter (fun i a => (qy_f3 A m (i : Int) a)) (fun a => (qy_e3 A m a)) (A.length) 0 n
abbrev qy_3_σ := Int × LL × Int × Int
abbrev qy_3_ω := (Int)
noncomputable def qy_3_step (n : Int) (A : LL) (m i : Int) : Tr (qy_3_σ ⊕ qy_3_ω) := (.ite ((decide (i < m)) = true) (.ite ((0 : Int) ≤ i ∧ i < (A.length : Int)) (.ok (.inl ((IntKind.wrap .i64 ((IntKind.wrap .i64 (n * (16 : Int))) + (nth (row A i) 0).int)), A, m, (IntKind.wrap .i64 (i + (1 : Int))))))
   .no)
  (.ok (.inr n)))
noncomputable def qy_3_st : qy_3_σ → Tr (qy_3_σ ⊕ qy_3_ω) := fun x => (qy_3_step (x.1) (x.2.1) (x.2.2.1) (x.2.2.2))
noncomputable def qy_o3_1 (n : Int) (A : LL) (m i : Int) : Bool := is (i = 0 ∧ n = 0 ∧ A.length ≤ 140737488351232 ∧ m = (A.length : Int))
noncomputable def qy_u3_1 (n : Int) (A : LL) (m i : Int) : Int := (qy_R3 n A m i)
noncomputable def qy_3_fin (n : Int) (A : LL) (m i : Int) : Told qy_3_ω := (.leaf (qy_o3_1 n A m i) (qy_u3_1 n A m i))
def qy_3_sl (x : qy_3_σ) : List Slot := [⟨.val false [⟨.int .i64, .sh, TC.i (x.1)⟩], ⟨0, 0⟩⟩, ⟨.val false [⟨.slice 2, .sh, TC.l (x.2.1)⟩], ⟨0, 0⟩⟩, ⟨.val false [⟨.int .i64, .sh, TC.i (x.2.2.1)⟩], ⟨0, 0⟩⟩, ⟨.val false [⟨.int .i64, .sh, TC.i (x.2.2.2)⟩], ⟨0, 0⟩⟩]
def qy_3_out : qy_3_ω → Ex × List Slot := (fun x => (.exit 0, [Slot.none, ⟨.val false [⟨.int .i64, .sh, TC.i x⟩], ⟨0, 0⟩⟩]))
noncomputable def qy_lo3 : List Slot → Option (Told (Ex × List Slot)) := fun s => match s with
  | [⟨.val false [⟨.int .i64, .sh, TC.i n⟩], ⟨0, 0⟩⟩, ⟨.val false [⟨.slice 2, .sh, TC.l A⟩], ⟨0, 0⟩⟩, ⟨.val false [⟨.int .i64, .sh, TC.i m⟩], ⟨0, 0⟩⟩, ⟨.val false [⟨.int .i64, .sh, TC.i i⟩], ⟨0, 0⟩⟩] => some (((qy_3_fin n A m i)).map qy_3_out)
  | _ => .none
noncomputable def qy_lo : LoopTeller := fun r s => bif Nat.beq r 3 then qy_lo3 s else .none
theorem qy_3_r (n : Int) (A : LL) (m i : Int) (fuel : Nat) : rounds (rnd tab FT D25 live 100 qy_lo 0 3) leave (fuel + 1) (qy_3_sl (n, A, m, i)) = ((qy_3_step n A m i)).run (goOn (fun s => rounds (rnd tab FT D25 live 100 qy_lo 0 3) leave fuel (qy_3_sl s)) fun w => some (qy_3_out w)) := by kernel_rfl
theorem qy_R3_eq (A : LL) : qy_R3 0 A (A.length : Int) 0 = keyL A := by
  unfold qy_R3
  refine (iter_each (g := (fun i n => IntKind.wrap .i64 ((IntKind.wrap .i64 (n * 16)) + (nth (row A (i : Int)) 0).int))) (fin := fun a => qy_e3 A (A.length : Int) a) fun j a hj => ?_)
  unfold qy_f3
  rfl
theorem qy_3_h (n : Int) (A : LL) (m i : Int) (ow : qy_3_ω) : ((qy_3_fin n A m i)).val = some ow → ∃ fuel, loopN qy_3_st fuel (n, A, m, i) = some ow := by
  refine auto_leaf (R := (qy_R3 n A m i)) ?_
  intro ho
  have ho : is (i = 0 ∧ n = 0 ∧ A.length ≤ 140737488351232 ∧ m = (A.length : Int)) = true := ho
  obtain ⟨rfl, rfl, hlen, rfl⟩ := is_iff.1 ho
  skip
  refine ⟨(A.length) + 1, ?_⟩
  refine iter_loop (step := qy_3_st) (A.length) (fun i a => (qy_f3 A (A.length : Int) (i : Int) a)) (fun a => (qy_e3 A (A.length : Int) a)) (fun i a => (a, A, (A.length : Int), (i : Int))) (fun _ _ => True) trivial (fun i a hi hI => ⟨?_, fun _ _ => trivial⟩) (fun a hI => ?_)
  · show (qy_3_step a A (A.length : Int) (i : Int)).val = _
    unfold qy_3_step qy_f3
    skip
    refine Tr.t (by simp; omega) ?_
    exact (Tr.t (by first | omega | (constructor <;> omega)) (by rw [Tr.val_ok, wrap64 (i := (i : Int) + 1) (by omega) (by omega)]; rfl))
  · show (qy_3_step a A (A.length : Int) (A.length : Int)).val = _
    refine Tr.n (by first | (simp; done) | (simp; omega) | omega) ?_
    rfl
theorem qy_is3 : LoopIs tab FT D25 live 100 qy_lo 0 3 := by
  refine loop_told (sl := qy_3_sl) (step := qy_3_st) (out := qy_3_out) (lor := qy_lo3) (fin := fun x => (qy_3_fin (x.1) (x.2.1) (x.2.2.1) (x.2.2.2))) (fun _ => rfl) ?_ (fun x n => qy_3_r x.1 x.2.1 x.2.2.1 x.2.2.2 n) (fun x ow => qy_3_h x.1 x.2.1 x.2.2.1 x.2.2.2 ow)
  intro s t h
  unfold qy_lo3 at h
  split at h
  · cases h; exact ⟨(_, _, _, _), rfl, rfl⟩
  · cases h
noncomputable def qy_t (A : LL) : Tr (Int) := (.ite ((qy_o3_1 (0 : Int) A (A.length : Int) (0 : Int)) = true) (.ok (qy_u3_1 (0 : Int) A (A.length : Int) (0 : Int)))
  .no)
def qy_mk (p : Int) : Res := [(false, [⟨.int .i64, .sh, TC.i p⟩])]
noncomputable def qy_c (A : LL) : Bool := (qy_o3_1 (0 : Int) A (A.length : Int) (0 : Int))
noncomputable def qy_v (A : LL) : Int := (qy_u3_1 (0 : Int) A (A.length : Int) (0 : Int))
theorem qy_l (A : LL) : (qy_c A) = true → (qy_t A).val = some (qy_v A) := by
  intro h
  have hc0 : (qy_o3_1 (0 : Int) A (A.length : Int) (0 : Int)) = true := h
  unfold qy_t
  exact (Tr.t hc0 rfl)
noncomputable def qy_S : List Arg → Option (Bool × Res) := fun xs => match xs with
  | [(false, [(.slice 2, TC.l A)])] => some ((qy_c A), qy_mk (qy_v A))
  | _ => .none
theorem qy_e (A : LL) : runF tab FT D25 live 100 qy_lo [(false, [(.slice 2, TC.l A)])] = (qy_t A).run fun p => some (qy_mk p) := by kernel_rfl
theorem qy_s : ∀ xs r, qy_S xs = some (true, r) → runF tab FT D25 live 100 qy_lo xs = some r := by
  intro xs r h
  unfold qy_S at h
  split at h
  · simp only [Option.some.injEq, Prod.mk.injEq] at h
    obtain ⟨h1, rfl⟩ := h
    exact fun_told (qy_e _) (qy_l _) h1
  · cases h
noncomputable def D26 : Dt := also D25 100 qy_S
theorem d26 : DOk Go.Proofs.Try.prog tab D26 := d25.also mixed_ok tab_ok names_ok (fnLoops_one (by kernel_rfl) qy_is3) qy_s
theorem qy_vv (A : LL) : qy_v A = keyL A := qy_R3_eq A
abbrev qc_3_σ := Int × LL × Int × Int
abbrev qc_3_ω := (LL) ⊕ (Unit)
noncomputable def qc_3_step (q : Int) (g : LL) (m i : Int) : Tr (qc_3_σ ⊕ qc_3_ω) := (.ite ((decide (i < m)) = true) (.ite ((qbh_c g i) = true) (.ite ((qy_c (qbh_v g i)) = true) (.ite (((qy_v (qbh_v g i)) == q) = true) (.ok (.inr (.inl (qbh_v g i))))
     (.ok (.inl (q, g, m, (IntKind.wrap .i64 (i + (1 : Int)))))))
    .no)
   .no)
  (.ok (.inr (.inr ()))))
noncomputable def qc_3_st : qc_3_σ → Tr (qc_3_σ ⊕ qc_3_ω) := fun x => (qc_3_step (x.1) (x.2.1) (x.2.2.1) (x.2.2.2))
noncomputable def qc_k3_1 (q : Int) (g : LL) (m i : Int) : Bool := allI (fun j : Nat => !(keyL (coordsV g (j : Int)) == q)) (m.toNat)
noncomputable def qc_o3_2 (q : Int) (g : LL) (m i : Int) : Bool := is (i = 0 ∧ (Typed tab (.slice 2) (.l g) ∧ m ≤ 100000 ∧ (0 < m → ∀ j : Nat, j < g.length → (nth (g.getD j []) 0).int ≠ 0)))
noncomputable def qc_o3_3 (q : Int) (g : LL) (m i : Int) : Bool := is (i = 0 ∧ (Typed tab (.slice 2) (.l g) ∧ m ≤ 100000 ∧ (0 < m → ∀ j : Nat, j < g.length → (nth (g.getD j []) 0).int ≠ 0)))
noncomputable def qc_u3_3 (q : Int) (g : LL) (m i : Int) : LL := coordsV g (Int.ofNat (idxI (fun j : Nat => !(keyL (coordsV g (j : Int)) == q)) (m.toNat)))
noncomputable def qc_3_fin (q : Int) (g : LL) (m i : Int) : Told qc_3_ω := (.br (qc_k3_1 q g m i) (.leaf (qc_o3_2 q g m i) (.inr ())) (.leaf (qc_o3_3 q g m i) (.inl (qc_u3_3 q g m i))))
def qc_3_sl (x : qc_3_σ) : List Slot := [⟨.val false [⟨.int .i64, .sh, TC.i (x.1)⟩], ⟨0, 0⟩⟩, ⟨.val false [⟨.slice 2, .own true, TC.l (x.2.1)⟩], ⟨0, 0⟩⟩, ⟨.val false [⟨.int .i64, .sh, TC.i (x.2.2.1)⟩], ⟨0, 0⟩⟩, ⟨.val false [⟨.int .i64, .sh, TC.i (x.2.2.2)⟩], ⟨0, 0⟩⟩]
def qc_3_out : qc_3_ω → Ex × List Slot := (Sum.elim (fun x => (.ret, [⟨.val false [⟨.slice 2, .own true, TC.l x⟩], ⟨0, 0⟩⟩, ⟨.val false [⟨.bool, .sh, TC.b true⟩], ⟨0, 0⟩⟩])) (fun x => (.exit 0, [Slot.none, Slot.none])))
noncomputable def qc_lo3 : List Slot → Option (Told (Ex × List Slot)) := fun s => match s with
  | [⟨.val false [⟨.int .i64, .sh, TC.i q⟩], ⟨0, 0⟩⟩, ⟨.val false [⟨.slice 2, .own true, TC.l g⟩], ⟨0, 0⟩⟩, ⟨.val false [⟨.int .i64, .sh, TC.i m⟩], ⟨0, 0⟩⟩, ⟨.val false [⟨.int .i64, .sh, TC.i i⟩], ⟨0, 0⟩⟩] => some (((qc_3_fin q g m i)).map qc_3_out)
  | _ => .none
noncomputable def qc_lo : LoopTeller := fun r s => bif Nat.beq r 3 then qc_lo3 s else .none
theorem qc_3_r (q : Int) (g : LL) (m i : Int) (fuel : Nat) : rounds (rnd tab FT D26 live 60 qc_lo 0 3) leave (fuel + 1) (qc_3_sl (q, g, m, i)) = ((qc_3_step q g m i)).run (goOn (fun s => rounds (rnd tab FT D26 live 60 qc_lo 0 3) leave fuel (qc_3_sl s)) fun w => some (qc_3_out w)) := by kernel_rfl
theorem qc_3_h (q : Int) (g : LL) (m i : Int) (ow : qc_3_ω) : ((qc_3_fin q g m i)).val = some ow → ∃ fuel, loopN qc_3_st fuel (q, g, m, i) = some ow := by
  intro h
  have key : (Typed tab (.slice 2) (.l g) ∧ m ≤ 100000 ∧ (0 < m → ∀ j : Nat, j < g.length → (nth (g.getD j []) 0).int ≠ 0)) → loopN qc_3_st ((m.toNat) + 1) (q, g, m, (0 : Int)) = some (if allI (fun j : Nat => !(keyL (coordsV g (j : Int)) == q)) (m.toNat) = true then (.inr ()) else (.inl (coordsV g (Int.ofNat (idxI (fun j : Nat => !(keyL (coordsV g (j : Int)) == q)) (m.toNat)))))) := by
    intro ht
    obtain ⟨ht, hm, hz⟩ := ht
    have hlen := typed_room ht
    simp only [show (tab 2).bytes = 8 from rfl] at hlen
    have key := loopN_scanI (step := qc_3_st) (m.toNat) (fun j : Nat => !(keyL (coordsV g (j : Int)) == q)) (fun _ a => a) (fun i a => (q, g, m, (i : Int))) (fun a => (.inr ())) (fun i a => (.inl (coordsV g (i : Int)))) (fun i a hi => ?_) (fun a => ?_) ()
    · first | exact key
    · skip
      show (qc_3_step q g m (i : Int)).val = _
      unfold qc_3_step
      refine Tr.t (by simp; omega) ?_
      skip
      have hz' := hz (by omega)
      refine Tr.t (is_true ⟨ht, hz'⟩) ?_
      rw [show qbh_v g (i : Int) = coordsV g (i : Int) from rfl, qy_vv]
      cases hP : (keyL (coordsV g (i : Int)) == q) with
      | true =>
        refine Tr.t (is_true (by and_intros <;> first | rfl | (rw [coordsV_len]; omega) | (rw [coordsV_len]))) (Tr.t rfl ?_)
        rfl
      | false =>
        refine Tr.t (is_true (by and_intros <;> first | rfl | (rw [coordsV_len]; omega) | (rw [coordsV_len]))) (Tr.n Bool.false_ne_true ?_)
        rw [Tr.val_ok, wrap64 (by omega) (by omega)]
        rfl
    · show (qc_3_step q g m (m.toNat : Int)).val = _
      refine Tr.n (by first | (simp; done) | (simp; omega)) ?_
      rfl
  simp only [qc_3_fin, Told.val] at h
  cases hk : allI (fun j : Nat => !(keyL (coordsV g (j : Int)) == q)) (m.toNat) with
  | true =>
    rw [if_pos (show qc_k3_1 q g m i = true from hk)] at h
    split at h
    · rename_i ho
      obtain ⟨rfl, ht⟩ := is_iff.1 ho
      cases h
      refine ⟨_, (key ht).trans ?_⟩
      rw [hk]; rfl
    · cases h
  | false =>
    rw [if_neg (show ¬qc_k3_1 q g m i = true from by rw [show qc_k3_1 q g m i = (allI (fun j : Nat => !(keyL (coordsV g (j : Int)) == q)) (m.toNat)) from rfl, hk]; simp)] at h
    split at h
    · rename_i ho
      obtain ⟨rfl, ht⟩ := is_iff.1 ho
      cases h
      refine ⟨_, (key ht).trans ?_⟩
      rw [hk]; rfl
    · cases h
end Go.Proofs.Ytmdbccmbmcgclaa.V
