/- What the functions of FnExactChunkKeys answer. No condition. -/
import Derived.Test.YtmdbccmbmcgclaaVFacts
namespace Go.Proofs.Ytmdbccmbmcgclaa.V
open Go
set_option maxRecDepth 100000
set_option linter.unusedVariables false
set_option linter.unusedSectionVars false
set_option linter.unusedSimpArgs false
set_option maxHeartbeats 2000000
abbrev LL := List (List TC)
abbrev BS := List UInt8
def inR (lo hi : Int) (x : List TC) : Bool := bif decide ((nth x 0).int ≥ lo) then decide ((nth x 0).int ≤ hi) else false
def mulR (n : Int) (x : List TC) : Int := IntKind.wrap .i64 (n * (nth x 0).int)
def prodL (A : LL) : Int := A.foldl mulR 1
def gridC (d c : List TC) : List TC := [.i (IntKind.wrap .i64 (Int.tdiv (IntKind.wrap .i64 ((IntKind.wrap .i64 ((nth d 0).int + (nth c 0).int)) - (1 : Int))) ((nth c 0).int)))]
def gridL (D C : LL) : LL := List.zipWith gridC D C
theorem lenEq {D C : LL} (h : (!((C.length : Int) == (D.length : Int))) = false) : D.length = C.length := by
  have h2 : ((C.length : Int) == (D.length : Int)) = true := by simpa using h
  have h3 := eq_of_beq h2
  omega
theorem nnF {b : Bool} (h : (!(!(!b))) = false) : b = true := by simpa using h
theorem gridL_at {D C : LL} {i : Nat} (hl : D.length = C.length) (hi : i < (gridL D C).length) : (gridL D C)[i] = gridC (D.getD i []) (C.getD i []) := by
  have h1 : i < D.length := by simp [gridL] at hi; omega
  have h2 : i < C.length := by omega
  rw [getD_at h1, getD_at h2]
  exact List.getElem_zipWith
theorem inR_1 {C : LL} (h : C.all (inR 1 40) = true) {i : Nat} (hi : i < C.length) : (nth (C.getD i []) 0).int ≠ 0 := by
  have h1 := (List.all_eq_true.1 h) (C.getD i []) (mem_getD hi)
  unfold inR at h1
  intro h0
  rw [h0] at h1
  cases h1
theorem gridL_len {D C : LL} (h : D.length ≤ 140737488351232) : (gridL D C).length ≤ 140737488351232 := by simp only [gridL, List.length_zipWith]; omega
theorem gridL_ty {e : TypeId} {D C : LL} (he : (tab e).cts = [.int .i64]) (h : Typed tab (.slice e) (.l D)) : Typed tab (.slice e) (.l (gridL D C)) := by
  have hm : ∀ x, x ∈ gridL D C → ∃ d c, x = gridC d c := by
    intro x hx
    obtain ⟨i, hi, rfl⟩ := List.getElem_of_mem hx
    exact ⟨_, _, List.getElem_zipWith⟩
  cases h with
  | slice _ _ h1 h2 h3 h4 =>
    have hl : (gridL D C).length ≤ D.length := by simp only [gridL, List.length_zipWith]; omega
    refine .slice _ _ (Nat.le_trans (Nat.mul_le_mul_right _ hl) h1) (Nat.le_trans hl h2) (fun x hx => ?_) (fun x hx k hk => ?_)
    · obtain ⟨d, c, rfl⟩ := hm x hx
      rw [he]; rfl
    · obtain ⟨d, c, rfl⟩ := hm x hx
      rw [he] at hk ⊢
      match k, hk with
      | 0, _ => exact .int _ _ (wrap_wf _)
def dimsOk (D : LL) : Bool := decide ((D.length : Int) ≤ 3) && D.all (inR 0 40) && decide (prodL D ≤ 600)
def chunkOk (D C : LL) : Bool := dimsOk D && ((C.length : Int) == (D.length : Int)) && C.all (inR 1 40) && decide (prodL C ≤ 64) && (gridL D C).all (inR 0 16) && decide (prodL (gridL D C) ≤ 256)
theorem dimsOk_all {D : LL} (h : dimsOk D = true) : D.all (inR 0 40) = true := by
  unfold dimsOk at h
  simp only [Bool.and_eq_true] at h
  exact h.1.2
def le16 (x : List TC) : Bool := !(decide ((nth x 0).int > 16))
theorem inR_iff {lo hi : Int} {x : List TC} : inR lo hi x = true ↔ lo ≤ (nth x 0).int ∧ (nth x 0).int ≤ hi := by
  unfold inR
  by_cases h : lo ≤ (nth x 0).int <;> simp [h]
theorem gridC_val {d c : List TC} (hd : inR 0 40 d = true) (hc : inR 1 40 c = true) : (nth (gridC d c) 0).int = Int.tdiv ((nth d 0).int + (nth c 0).int - 1) ((nth c 0).int) ∧ 0 ≤ (nth (gridC d c) 0).int := by
  rw [inR_iff] at hd hc
  have h0 : 0 ≤ Int.tdiv ((nth d 0).int + (nth c 0).int - 1) ((nth c 0).int) := Int.tdiv_nonneg (by omega) (by omega)
  have h1 : Int.tdiv ((nth d 0).int + (nth c 0).int - 1) ((nth c 0).int) ≤ (nth d 0).int + (nth c 0).int - 1 := Int.tdiv_le_self _ (by omega)
  have e : (nth (gridC d c) 0).int = Int.tdiv ((nth d 0).int + (nth c 0).int - 1) ((nth c 0).int) := by
    show IntKind.wrap .i64 (Int.tdiv (IntKind.wrap .i64 ((IntKind.wrap .i64 ((nth d 0).int + (nth c 0).int)) - (1 : Int))) ((nth c 0).int)) = _
    rw [wrap64 (i := (nth d 0).int + (nth c 0).int) (by omega) (by omega), wrap64 (i := (nth d 0).int + (nth c 0).int - 1) (by omega) (by omega), wrap64 (by omega) (by omega)]
  rw [e]
  exact ⟨rfl, h0⟩
theorem grid_all {D C : LL} (hd : D.all (inR 0 40) = true) (hc : C.all (inR 1 40) = true) : (gridL D C).all le16 = (gridL D C).all (inR 0 16) := by
  rw [Bool.eq_iff_iff, List.all_eq_true, List.all_eq_true]
  refine forall_congr' fun x => forall_congr' fun hx => ?_
  obtain ⟨i, hi, rfl⟩ := List.getElem_of_mem hx
  have h1 : i < D.length := by simp [gridL] at hi; omega
  have h2 : i < C.length := by simp [gridL] at hi; omega
  have hg : (gridL D C)[i] = gridC D[i] C[i] := List.getElem_zipWith
  rw [hg]
  have h0 := (gridC_val (List.all_eq_true.1 hd _ (List.getElem_mem h1)) (List.all_eq_true.1 hc _ (List.getElem_mem h2))).2
  rw [inR_iff]
  unfold le16
  simp
  omega
abbrev dimD (A : LL) : Nat → Int := fun j => (nth (A.getD j []) 0).int
noncomputable def crowR (A : LL) (x : Int) (k : Nat) : LL := (List.range A.length).map fun j => [TC.i (if A.length - k ≤ j then crdD A.length (dimD A) x j else 0)]
theorem crowR_len {A : LL} {x : Int} {k : Nat} : (crowR A x k).length = A.length := by simp [crowR]
theorem crowR_at {A : LL} {x : Int} {k j : Nat} (h : j < A.length) : (crowR A x k)[j]? = some [TC.i (if A.length - k ≤ j then crdD A.length (dimD A) x j else 0)] := by
  unfold crowR
  rw [List.getElem?_map, List.getElem?_range h]; rfl
theorem crowR_set {A : LL} {x : Int} {k : Nat} (h : k < A.length) : (crowR A x k).set (A.length - 1 - k) [TC.i (crdD A.length (dimD A) x (A.length - 1 - k))] = crowR A x (k + 1) := by
  refine List.ext_getElem (by simp [crowR_len]) fun j h1 h2 => ?_
  have hj : j < A.length := by rw [crowR_len] at h2; exact h2
  have a1 := crowR_at (x := x) (k := k) hj
  have a2 := crowR_at (x := x) (k := k + 1) hj
  rw [List.getElem?_eq_getElem (by rw [crowR_len]; exact hj)] at a1 a2
  rw [Option.some.inj a2, List.getElem_set]
  by_cases hc : A.length - 1 - k = j
  · rw [if_pos hc, if_pos (by omega), hc]
  · rw [if_neg hc, Option.some.inj a1]
    by_cases h3 : A.length - k ≤ j
    · rw [if_pos h3, if_pos (by omega)]
    · rw [if_neg h3, if_neg (by omega)]
theorem crowR_zero {A : LL} {x : Int} : List.replicate A.length [TC.i (0 : Int)] = crowR A x 0 := by
  refine List.ext_getElem (by simp [crowR_len]) fun j h1 h2 => ?_
  have hj : j < A.length := by rw [crowR_len] at h2; exact h2
  have a1 := crowR_at (x := x) (k := 0) hj
  rw [List.getElem?_eq_getElem (by rw [crowR_len]; exact hj)] at a1
  rw [Option.some.inj a1, List.getElem_replicate, if_neg (by omega)]
theorem crowR_all {A : LL} {x : Int} : crowR A x A.length = coordsV A x := by
  unfold crowR coordsV
  refine List.map_congr_left fun j hj => ?_
  rw [if_pos (by omega)]
theorem chunkOk_parts {D C : LL} (h : chunkOk D C = true) : D.length = C.length ∧ C.all (inR 1 40) = true ∧ dimsOk D = true := by
  unfold chunkOk at h
  simp only [Bool.and_eq_true, beq_iff_eq] at h
  obtain ⟨⟨⟨⟨⟨h1, h2⟩, h3⟩, _⟩, _⟩, _⟩ := h
  exact ⟨by omega, h3, h1⟩
def chunkCount (D C : LL) : Int := bif chunkOk D C then prodL (gridL D C) else -1
def insB (D T : LL) (i : Int) : Bool := bif decide ((nth (row T i) 0).int ≥ 0) then decide ((nth (row T i) 0).int ≤ IntKind.wrap .i64 ((nth (row D i) 0).int - (1 : Int))) else false
def insideOk (D T : LL) : Bool := ((T.length : Int) == (D.length : Int)) && allI (fun i : Nat => insB D T (i : Int)) T.length
def keyL (A : LL) : Int := foldI (fun i n => IntKind.wrap .i64 ((IntKind.wrap .i64 (n * 16)) + (nth (row A (i : Int)) 0).int)) A.length 0
def indexN (D T : LL) (k : Nat) : Int := foldI (fun i n => IntKind.wrap .i64 ((IntKind.wrap .i64 (n * (nth (row D (i : Int)) 0).int)) + (nth (row T (i : Int)) 0).int)) k 0
def divStep (C T : LL) (i : Nat) (a : LL × LL) : LL × LL := (a.1 ++ [[TC.i (IntKind.wrap .i64 (Int.tdiv ((nth (row T (i : Int)) 0).int) ((nth (row C (i : Int)) 0).int)))]], a.2 ++ [[TC.i (Int.tmod ((nth (row T (i : Int)) 0).int) ((nth (row C (i : Int)) 0).int))]])
def divs (C T : LL) (n : Nat) : LL × LL := foldI (divStep C T) n ([], [])
theorem divs_len {C T : LL} : ∀ {n : Nat}, (divs C T n).1.length = n ∧ (divs C T n).2.length = n
  | 0 => ⟨rfl, rfl⟩
  | n + 1 => by
    obtain ⟨h1, h2⟩ := divs_len (C := C) (T := T) (n := n)
    unfold divs at h1 h2 ⊢
    rw [foldI_succ]
    unfold divStep at h1 h2 ⊢
    simp only [List.length_append, List.length_singleton]
    omega
def gridV (D C : LL) : LL := bif chunkOk D C then gridL D C else []
theorem nil_ty {e : TypeId} : Typed tab (.slice e) (.l []) := .slice _ _ (by simp) (by simp) (fun _ h => by cases h) (fun _ h => by cases h)
theorem gridV_ty {e : TypeId} {D C : LL} (he : (tab e).cts = [.int .i64]) (h : Typed tab (.slice e) (.l D)) : Typed tab (.slice e) (.l (gridV D C)) := by
  unfold gridV
  cases chunkOk D C with
  | true => exact gridL_ty he h
  | false => exact nil_ty
noncomputable def keysL (G : LL) (n : Nat) : LL := (List.range n).map fun i : Nat => [TC.i (keyL (coordsV G (i : Int)))]
theorem keysL_len {G : LL} {n : Nat} : (keysL G n).length = n := by simp [keysL]
theorem keysL_succ {G : LL} {n : Nat} : keysL G n ++ [[TC.i (keyL (coordsV G (n : Int)))]] = keysL G (n + 1) := by simp [keysL, List.range_succ]
theorem mul_zero_fold : ∀ (A : LL), A.foldl mulR 0 = 0
  | [] => rfl
  | x :: A => by
    show A.foldl mulR (mulR 0 x) = 0
    have : mulR 0 x = 0 := by unfold mulR; rw [Int.zero_mul]; rfl
    rw [this]; exact mul_zero_fold A
theorem prod_pos {A : LL} (h : 0 < prodL A) : ∀ j : Nat, j < A.length → (nth (A.getD j []) 0).int ≠ 0 := by
  have key : ∀ (A : LL) (a : Int), A.foldl mulR a ≠ 0 → ∀ j : Nat, j < A.length → (nth (A.getD j []) 0).int ≠ 0 := by
    intro A
    induction A with
    | nil => intro a _ j hj; simp at hj
    | cons x A ih =>
      intro a ha j hj
      have ha : A.foldl mulR (mulR a x) ≠ 0 := ha
      cases j with
      | zero =>
        intro h0
        have h0 : (nth x 0).int = 0 := h0
        apply ha
        have : mulR a x = 0 := by unfold mulR; rw [h0, Int.mul_zero]; rfl
        rw [this]; exact mul_zero_fold A
      | succ j => exact ih _ ha j (by simpa using hj)
  exact key A 1 (by unfold prodL at h; omega)
theorem keys_num {D C : LL} (h : chunkOk D C = true) : prodL (gridL D C) ≤ 100000 := by
  unfold chunkOk at h
  simp only [Bool.and_eq_true, decide_eq_true_eq] at h
  omega
theorem keyL_wf (A : LL) : (Lit.int .i64 (keyL A)).wf = true := by
  unfold keyL
  cases A.length with
  | zero => rfl
  | succ n => rw [foldI_succ]; exact wrap_wf _
theorem keysL_ty {e : TypeId} {G : LL} {n : Nat} (he : (tab e).cts = [.int .i64]) (h8 : (tab e).bytes = 8) (hn : n ≤ 100000) : Typed tab (.slice e) (.l (keysL G n)) := by
  refine .slice _ _ (by rw [keysL_len, h8]; simp only [reachBytes]; omega) (by rw [keysL_len]; simp only [maxLen]; omega) (fun r hr => ?_) (fun r hr k hk => ?_)
  · obtain ⟨i, _, rfl⟩ := List.mem_map.1 hr
    rw [he]; rfl
  · obtain ⟨i, _, rfl⟩ := List.mem_map.1 hr
    rw [he] at hk ⊢
    match k, hk with
    | 0, _ => exact .int _ _ (keyL_wf _)
noncomputable def keysV (D C : LL) : LL := bif chunkOk D C then keysL (gridL D C) (prodL (gridL D C)).toNat else []
theorem keysV_ty {e : TypeId} {D C : LL} (he : (tab e).cts = [.int .i64]) (h8 : (tab e).bytes = 8) : Typed tab (.slice e) (.l (keysV D C)) := by
  unfold keysV
  cases hk : chunkOk D C with
  | true => exact keysL_ty he h8 (by have := keys_num hk; omega)
  | false => exact nil_ty
def qj_g (x : List TC) : List TC := [TC.i ((nth x 0).int)]
def qj_z : List TC := [TC.i (0 : Int)]
abbrev qj_3_σ := LL × LL × Int
abbrev qj_3_ω := (LL)
noncomputable def qj_3_step (A X : LL) (i : Int) : Tr (qj_3_σ ⊕ qj_3_ω) := (.ite ((decide (i < (A.length : Int))) = true) (.ite ((0 : Int) ≤ i ∧ i < (A.length : Int)) (.ite ((0 : Int) ≤ i ∧ i < (X.length : Int)) (.ok (.inl (A, (X.set (i).toNat (splice (row X i) 0 [TC.i ((nth (row A i) 0).int)])), (IntKind.wrap .i64 (i + (1 : Int))))))
    .no)
   .no)
  (.ok (.inr X)))
noncomputable def qj_3_st : qj_3_σ → Tr (qj_3_σ ⊕ qj_3_ω) := fun x => (qj_3_step (x.1) (x.2.1) (x.2.2))
noncomputable def qj_o3_1 (A X : LL) (i : Int) : Bool := is (Typed tab (.slice 2) (.l A) ∧ X = List.replicate A.length qj_z ∧ i = 0)
noncomputable def qj_u3_1 (A X : LL) (i : Int) : LL := A.map qj_g
noncomputable def qj_3_fin (A X : LL) (i : Int) : Told qj_3_ω := (.leaf (qj_o3_1 A X i) (qj_u3_1 A X i))
def qj_3_sl (x : qj_3_σ) : List Slot := [⟨.val false [⟨.slice 2, .sh, TC.l (x.1)⟩], ⟨0, 0⟩⟩, ⟨.val false [⟨.slice 2, .own true, TC.l (x.2.1)⟩], ⟨0, 0⟩⟩, ⟨.val false [⟨.int .i64, .sh, TC.i (x.2.2)⟩], ⟨0, 0⟩⟩]
def qj_3_out : qj_3_ω → Ex × List Slot := (fun x => (.exit 0, [Slot.none, ⟨.val false [⟨.slice 2, .own true, TC.l x⟩], ⟨0, 0⟩⟩]))
noncomputable def qj_lo3 : List Slot → Option (Told (Ex × List Slot)) := fun s => match s with
  | [⟨.val false [⟨.slice 2, .sh, TC.l A⟩], ⟨0, 0⟩⟩, ⟨.val false [⟨.slice 2, .own true, TC.l X⟩], ⟨0, 0⟩⟩, ⟨.val false [⟨.int .i64, .sh, TC.i i⟩], ⟨0, 0⟩⟩] => some (((qj_3_fin A X i)).map qj_3_out)
  | _ => .none
noncomputable def qj_lo : LoopTeller := fun r s => bif Nat.beq r 3 then qj_lo3 s else .none
theorem qj_3_r (A X : LL) (i : Int) (fuel : Nat) : rounds (rnd tab FT D0 live 13 qj_lo 0 3) leave (fuel + 1) (qj_3_sl (A, X, i)) = ((qj_3_step A X i)).run (goOn (fun s => rounds (rnd tab FT D0 live 13 qj_lo 0 3) leave fuel (qj_3_sl s)) fun w => some (qj_3_out w)) := by kernel_rfl
theorem qj_3_h (A X : LL) (i : Int) (ow : qj_3_ω) : ((qj_3_fin A X i)).val = some ow → ∃ fuel, loopN qj_3_st fuel (A, X, i) = some ow := by
  intro h
  simp only [qj_3_fin, Told.val] at h
  split at h
  · rename_i ho
    obtain ⟨ht, rfl, rfl⟩ := is_iff.1 ho
    cases h
    have hlen : A.length ≤ 140737488351232 := by have := typed_room ht; simp only [show (tab 2).bytes = 8 from rfl] at this; omega
    have key := loopN_copy (step := qj_3_st) A (List.replicate A.length qj_z) qj_g (fun Y i => (A, Y, (i : Int))) (A.map qj_g) (by simp) (fun x hx i _ => by rw [(List.mem_replicate.1 hx).2]; exact Nat.le_refl 1) (fun Y i hi hl => ?_) ?_ A.length 0 (by omega)
    · rw [copied_zero] at key
      exact ⟨_, key⟩
    · skip
      show (qj_3_step A Y (i : Int)).val = _
      unfold qj_3_step
      refine Tr.t (by simp; omega) ?_
      refine Tr.t (by constructor <;> omega) ?_
      refine Tr.t (by constructor <;> omega) ?_
      repeat (refine Tr.t (by first | (apply is_true; and_intros <;> (first | rfl | assumption | (first | (apply is_true; and_intros <;> (first | rfl | assumption | (first | (apply is_true; and_intros <;> (first | rfl | assumption | (first | (apply is_true; and_intros <;> (first | rfl | assumption)))))))))))) ?_)
      rw [Tr.val_ok, wrap64 (i := (i : Int) + 1) (by omega) (by omega)]; rfl
    · show (qj_3_step A (A.map qj_g) (A.length : Int)).val = _
      refine Tr.n (by simp) ?_
      rfl
  · cases h
theorem qj_is3 : LoopIs tab FT D0 live 13 qj_lo 0 3 := by
  refine loop_told (sl := qj_3_sl) (step := qj_3_st) (out := qj_3_out) (lor := qj_lo3) (fin := fun x => (qj_3_fin (x.1) (x.2.1) (x.2.2))) (fun _ => rfl) ?_ (fun x n => qj_3_r x.1 x.2.1 x.2.2 n) (fun x ow => qj_3_h x.1 x.2.1 x.2.2 ow)
  intro s t h
  unfold qj_lo3 at h
  split at h
  · cases h; exact ⟨(_, _, _), rfl, rfl⟩
  · cases h
noncomputable def qj_t (A : LL) : Tr (LL) := (.ite (0 ≤ (A.length : Int) ∧ (A.length : Int) ≤ (A.length : Int) ∧ (A.length : Int) * 8 ≤ 140737488355328 ∧ (A.length : Int) ≤ 140737488355328) (.ite ((qj_o3_1 A (List.replicate ((A.length : Int)).toNat [TC.i (0 : Int)]) (0 : Int)) = true) (.ok (qj_u3_1 A (List.replicate ((A.length : Int)).toNat [TC.i (0 : Int)]) (0 : Int)))
   .no)
  .no)
def qj_mk (p : LL) : Res := [(false, [⟨.slice 2, .own true, TC.l p⟩])]
noncomputable def qj_c (A : LL) : Bool := is (Typed tab (.slice 2) (.l A))
noncomputable def qj_v (A : LL) : LL := A.map qj_g
theorem qj_l (A : LL) : (qj_c A) = true → (qj_t A).val = some (qj_v A) := by
  intro h
  have ht := is_iff.1 h
  have hb := typed_room ht
  simp only [show (tab 2).bytes = 8 from rfl] at hb
  unfold qj_t
  refine Tr.t (by omega) ?_
  refine Tr.t (is_true ⟨ht, by rfl, rfl⟩) ?_
  rfl
noncomputable def qj_S : List Arg → Option (Bool × Res) := fun xs => match xs with
  | [(false, [(.slice 2, TC.l A)])] => some ((qj_c A), qj_mk (qj_v A))
  | _ => .none
theorem qj_e (A : LL) : runF tab FT D0 live 13 qj_lo [(false, [(.slice 2, TC.l A)])] = (qj_t A).run fun p => some (qj_mk p) := by kernel_rfl
theorem qj_s : ∀ xs r, qj_S xs = some (true, r) → runF tab FT D0 live 13 qj_lo xs = some r := by
  intro xs r h
  unfold qj_S at h
  split at h
  · simp only [Option.some.injEq, Prod.mk.injEq] at h
    obtain ⟨h1, rfl⟩ := h
    exact fun_told (qj_e _) (qj_l _) h1
  · cases h
noncomputable def D1 : Dt := also D0 13 qj_S
theorem d1 : DOk Go.Proofs.Try.prog tab D1 := d0.also mixed_ok tab_ok names_ok (fnLoops_one (by kernel_rfl) qj_is3) qj_s
theorem qj_ty {A : LL} (h : Typed tab (.slice 2) (.l A)) : Typed tab (.slice 2) (.l (A.map qj_g)) := by
  refine typed_map h (by decide) fun x _ _ hx => ⟨rfl, fun k hk => ?_⟩
  match k, hk with
    | 0, _ => exact typed_i (hx 0 (by decide))
noncomputable def qy_t (a0 a1 a2 : Int) : Tr (Bool) := (.ite ((decide (a0 ≥ a1)) = true) (.ok (decide (a0 ≤ a2)))
  (.ok false))
def qy_mk (p : Bool) : Res := [(false, [⟨.bool, .sh, TC.b p⟩])]
noncomputable def qy_c (a0 a1 a2 : Int) : Bool := true
noncomputable def qy_v (a0 a1 a2 : Int) : Bool := (bif (decide (a0 ≥ a1)) then (decide (a0 ≤ a2)) else false)
theorem qy_l (a0 a1 a2 : Int) : (qy_c a0 a1 a2) = true → (qy_t a0 a1 a2).val = some (qy_v a0 a1 a2) := by
  intro h
  skip
  unfold qy_t qy_v
  exact (Tr.s rfl rfl)
noncomputable def qy_S : List Arg → Option (Bool × Res) := fun xs => match xs with
  | [(false, [(.int .i64, TC.i a0)]), (false, [(.int .i64, TC.i a1)]), (false, [(.int .i64, TC.i a2)])] => some (true, qy_mk (qy_v a0 a1 a2))
  | _ => .none
theorem qy_e (a0 a1 a2 : Int) : runF tab FT D1 live 87 noLoops [(false, [(.int .i64, TC.i a0)]), (false, [(.int .i64, TC.i a1)]), (false, [(.int .i64, TC.i a2)])] = (qy_t a0 a1 a2).run fun p => some (qy_mk p) := by kernel_rfl
theorem qy_s : ∀ xs r, qy_S xs = some (true, r) → runF tab FT D1 live 87 noLoops xs = some r := by
  intro xs r h
  unfold qy_S at h
  split at h
  · simp only [Option.some.injEq, Prod.mk.injEq] at h
    obtain ⟨h1, rfl⟩ := h
    exact fun_told (qy_e _ _ _) (qy_l _ _ _) rfl
  · cases h
noncomputable def D2 : Dt := also D1 87 qy_S
theorem d2 : DOk Go.Proofs.Try.prog tab D2 := d1.also mixed_ok tab_ok names_ok noLoops_ok qy_s
abbrev ql_5_σ := LL × Int × Int
abbrev ql_5_ω := (Int) ⊕ (Int)
noncomputable def ql_5_step (A : LL) (n i : Int) : Tr (ql_5_σ ⊕ ql_5_ω) := (.ite ((decide (i < (A.length : Int))) = true) (.ite ((0 : Int) ≤ i ∧ i < (A.length : Int)) (.ite ((!(qy_v ((nth (row A i) 0).int) (0 : Int) (40 : Int))) = true) (.ok (.inr (.inl n)))
    (.ite ((0 : Int) ≤ i ∧ i < (A.length : Int)) (.ok (.inl (A, (IntKind.wrap .i64 (n * (nth (row A i) 0).int)), (IntKind.wrap .i64 (i + (1 : Int))))))
     .no))
   .no)
  (.ok (.inr (.inr n))))
noncomputable def ql_5_st : ql_5_σ → Tr (ql_5_σ ⊕ ql_5_ω) := fun x => (ql_5_step (x.1) (x.2.1) (x.2.2))
noncomputable def ql_k5_1 (A : LL) (n i : Int) : Bool := A.all (inR 0 40)
noncomputable def ql_o5_2 (A : LL) (n i : Int) : Bool := is (i = 0 ∧ n = 1 ∧ Typed tab (.slice 2) (.l A))
noncomputable def ql_u5_2 (A : LL) (n i : Int) : Int := (A.foldl mulR (1 : Int))
noncomputable def ql_o5_3 (A : LL) (n i : Int) : Bool := is (i = 0 ∧ n = 1 ∧ Typed tab (.slice 2) (.l A))
noncomputable def ql_u5_3 (A : LL) (n i : Int) : Int := ((A.take (A.findIdx fun x => !(inR 0 40) x)).foldl mulR (1 : Int))
noncomputable def ql_5_fin (A : LL) (n i : Int) : Told ql_5_ω := (.br (ql_k5_1 A n i) (.leaf (ql_o5_2 A n i) (.inr (ql_u5_2 A n i))) (.leaf (ql_o5_3 A n i) (.inl (ql_u5_3 A n i))))
def ql_5_sl (x : ql_5_σ) : List Slot := [⟨.val false [⟨.slice 2, .sh, TC.l (x.1)⟩], ⟨0, 0⟩⟩, ⟨.val false [⟨.int .i64, .sh, TC.i (x.2.1)⟩], ⟨0, 0⟩⟩, ⟨.val false [⟨.int .i64, .sh, TC.i (x.2.2)⟩], ⟨0, 0⟩⟩]
def ql_5_out : ql_5_ω → Ex × List Slot := (Sum.elim (fun x => (.ret, [⟨.val false [⟨.bool, .sh, TC.b false⟩], ⟨0, 0⟩⟩, ⟨.val false [⟨.int .i64, .sh, TC.i x⟩], ⟨0, 0⟩⟩])) (fun x => (.exit 0, [Slot.none, ⟨.val false [⟨.int .i64, .sh, TC.i x⟩], ⟨0, 0⟩⟩])))
noncomputable def ql_lo5 : List Slot → Option (Told (Ex × List Slot)) := fun s => match s with
  | [⟨.val false [⟨.slice 2, .sh, TC.l A⟩], ⟨0, 0⟩⟩, ⟨.val false [⟨.int .i64, .sh, TC.i n⟩], ⟨0, 0⟩⟩, ⟨.val false [⟨.int .i64, .sh, TC.i i⟩], ⟨0, 0⟩⟩] => some (((ql_5_fin A n i)).map ql_5_out)
  | _ => .none
noncomputable def ql_lo : LoopTeller := fun r s => bif Nat.beq r 5 then ql_lo5 s else .none
theorem ql_5_r (A : LL) (n i : Int) (fuel : Nat) : rounds (rnd tab FT D2 live 86 ql_lo 0 5) leave (fuel + 1) (ql_5_sl (A, n, i)) = ((ql_5_step A n i)).run (goOn (fun s => rounds (rnd tab FT D2 live 86 ql_lo 0 5) leave fuel (ql_5_sl s)) fun w => some (ql_5_out w)) := by kernel_rfl
theorem ql_5_h (A : LL) (n i : Int) (ow : ql_5_ω) : ((ql_5_fin A n i)).val = some ow → ∃ fuel, loopN ql_5_st fuel (A, n, i) = some ow := by
  intro h
  have key : Typed tab (.slice 2) (.l A) → loopN ql_5_st (A.length + 1) (A, (1 : Int), (0 : Int)) = some (if A.all (inR 0 40) = true then (.inr (A.foldl mulR (1 : Int))) else (.inl ((A.take (A.findIdx fun x => !(inR 0 40) x)).foldl mulR (1 : Int)))) := by
    intro ht
    have hlen : A.length ≤ 140737488351232 := by have := typed_room ht; simp only [show (tab 2).bytes = 8 from rfl] at this; omega
    have key := loopN_scan (step := ql_5_st) A [] (inR 0 40) mulR (fun i a => (A, a, (i : Int))) (fun a => (.inr a)) (fun i a => (.inl a)) (fun i a hi => ?_) (fun a => ?_) A.length 0 (1 : Int) (by omega)
    · first | (rw [Nat.zero_add] at key; exact key) | exact key
    · skip
      show (ql_5_step A a (i : Int)).val = _
      unfold ql_5_step
      refine Tr.t (by simp; omega) ?_
      skip
      refine Tr.t (by first | omega | (constructor <;> omega)) ?_
      refine Tr.b (P := (inR 0 40) (A.getD i [])) (fun hP => ?_) (fun _ => rfl)
      refine Tr.t (by first | omega | (constructor <;> omega)) ?_
      rw [Tr.val_ok, wrap64 (i := (i : Int) + 1) (by omega) (by omega)]; rfl
    · show (ql_5_step A a (A.length : Int)).val = _
      refine Tr.n (by simp) ?_
      rfl
  simp only [ql_5_fin, Told.val] at h
  cases hk : A.all (inR 0 40) with
  | true =>
    rw [if_pos (show ql_k5_1 A n i = true from hk)] at h
    split at h
    · rename_i ho
      obtain ⟨rfl, rfl, ht⟩ := is_iff.1 ho
      cases h
      refine ⟨_, (key ht).trans ?_⟩
      rw [hk]; rfl
    · cases h
  | false =>
    rw [if_neg (show ¬ql_k5_1 A n i = true from by rw [show ql_k5_1 A n i = (A.all (inR 0 40)) from rfl, hk]; simp)] at h
    split at h
    · rename_i ho
      obtain ⟨rfl, rfl, ht⟩ := is_iff.1 ho
      cases h
      refine ⟨_, (key ht).trans ?_⟩
      rw [hk]; rfl
    · cases h
theorem ql_is5 : LoopIs tab FT D2 live 86 ql_lo 0 5 := by
  refine loop_told (sl := ql_5_sl) (step := ql_5_st) (out := ql_5_out) (lor := ql_lo5) (fin := fun x => (ql_5_fin (x.1) (x.2.1) (x.2.2))) (fun _ => rfl) ?_ (fun x n => ql_5_r x.1 x.2.1 x.2.2 n) (fun x ow => ql_5_h x.1 x.2.1 x.2.2 ow)
  intro s t h
  unfold ql_lo5 at h
  split at h
  · cases h; exact ⟨(_, _, _), rfl, rfl⟩
  · cases h
noncomputable def ql_t (A : LL) : Tr (Bool) := (.ite ((decide ((A.length : Int) > (3 : Int))) = true) (.ok false)
  (.ite ((ql_k5_1 A (1 : Int) (0 : Int)) = true) (.ite ((ql_o5_2 A (1 : Int) (0 : Int)) = true) (.ok (decide ((ql_u5_2 A (1 : Int) (0 : Int)) ≤ (600 : Int))))
    .no)
   (.ite ((ql_o5_3 A (1 : Int) (0 : Int)) = true) (.ok false)
    .no)))
def ql_mk (p : Bool) : Res := [(false, [⟨.bool, .sh, TC.b p⟩])]
noncomputable def ql_c (A : LL) : Bool := is (((ql_o5_2 A (1 : Int) (0 : Int)) = true) ∧ ((ql_o5_3 A (1 : Int) (0 : Int)) = true))
noncomputable def ql_v (A : LL) : Bool := (bif (decide ((A.length : Int) > (3 : Int))) then false else (bif (ql_k5_1 A (1 : Int) (0 : Int)) then (decide ((ql_u5_2 A (1 : Int) (0 : Int)) ≤ (600 : Int))) else false))
theorem ql_l (A : LL) : (ql_c A) = true → (ql_t A).val = some (ql_v A) := by
  intro h
  obtain ⟨g0, g1⟩ := is_iff.1 h
  unfold ql_t ql_v
  exact (Tr.s rfl (Tr.s (Tr.t g0 rfl) (Tr.t g1 rfl)))
noncomputable def ql_S : List Arg → Option (Bool × Res) := fun xs => match xs with
  | [(false, [(.slice 2, TC.l A)])] => some ((ql_c A), ql_mk (ql_v A))
  | _ => .none
theorem ql_e (A : LL) : runF tab FT D2 live 86 ql_lo [(false, [(.slice 2, TC.l A)])] = (ql_t A).run fun p => some (ql_mk p) := by kernel_rfl
theorem ql_s : ∀ xs r, ql_S xs = some (true, r) → runF tab FT D2 live 86 ql_lo xs = some r := by
  intro xs r h
  unfold ql_S at h
  split at h
  · simp only [Option.some.injEq, Prod.mk.injEq] at h
    obtain ⟨h1, rfl⟩ := h
    exact fun_told (ql_e _) (ql_l _) h1
  · cases h
noncomputable def D3 : Dt := also D2 86 ql_S
theorem d3 : DOk Go.Proofs.Try.prog tab D3 := d2.also mixed_ok tab_ok names_ok (fnLoops_one (by kernel_rfl) ql_is5) ql_s
theorem ql_vv (A : LL) : ql_v A = dimsOk A := by
  show (bif decide ((A.length : Int) > 3) then false else bif A.all (inR 0 40) then decide (prodL A ≤ 600) else false) = _
  unfold dimsOk
  rw [show decide ((A.length : Int) > 3) = !decide ((A.length : Int) ≤ 3) from by rw [← decide_not]; simp]
  cases decide ((A.length : Int) ≤ 3) <;> cases A.all (inR 0 40) <;> rfl
abbrev qp_3_σ := LL × LL × LL × Int
abbrev qp_3_ω := (LL)
noncomputable def qp_3_step (D C X : LL) (i : Int) : Tr (qp_3_σ ⊕ qp_3_ω) := (.ite ((decide (i < (D.length : Int))) = true) (.ite ((0 : Int) ≤ i ∧ i < (D.length : Int)) (.ite ((0 : Int) ≤ i ∧ i < (C.length : Int)) (.ite ((0 : Int) ≤ i ∧ i < (C.length : Int)) (.ite ((nth (row C i) 0).int ≠ 0) (.ite (roomFor (tab 2) (X ++ [[TC.i (IntKind.wrap .i64 (Int.tdiv (IntKind.wrap .i64 ((IntKind.wrap .i64 ((nth (row D i) 0).int + (nth (row C i) 0).int)) - (1 : Int))) ((nth (row C i) 0).int)))]]).length) (.ok (.inl (D, C, (X ++ [[TC.i (IntKind.wrap .i64 (Int.tdiv (IntKind.wrap .i64 ((IntKind.wrap .i64 ((nth (row D i) 0).int + (nth (row C i) 0).int)) - (1 : Int))) ((nth (row C i) 0).int)))]]), (IntKind.wrap .i64 (i + (1 : Int))))))
       .no)
      .no)
     .no)
    .no)
   .no)
  (.ok (.inr X)))
noncomputable def qp_3_st : qp_3_σ → Tr (qp_3_σ ⊕ qp_3_ω) := fun x => (qp_3_step (x.1) (x.2.1) (x.2.2.1) (x.2.2.2))
noncomputable def qp_o3_1 (D C X : LL) (i : Int) : Bool := is (X = [] ∧ i = 0 ∧ Typed tab (.slice 2) (.l D) ∧ D.length = C.length ∧ C.all (inR 1 40) = true)
noncomputable def qp_u3_1 (D C X : LL) (i : Int) : LL := gridL D C
noncomputable def qp_3_fin (D C X : LL) (i : Int) : Told qp_3_ω := (.leaf (qp_o3_1 D C X i) (qp_u3_1 D C X i))
def qp_3_sl (x : qp_3_σ) : List Slot := [⟨.val false [⟨.slice 2, .sh, TC.l (x.1)⟩], ⟨0, 0⟩⟩, ⟨.val false [⟨.slice 2, .sh, TC.l (x.2.1)⟩], ⟨0, 0⟩⟩, ⟨.val false [⟨.slice 2, .own true, TC.l (x.2.2.1)⟩], ⟨0, 0⟩⟩, ⟨.val false [⟨.int .i64, .sh, TC.i (x.2.2.2)⟩], ⟨0, 0⟩⟩]
def qp_3_out : qp_3_ω → Ex × List Slot := (fun x => (.exit 0, [Slot.none, ⟨.val false [⟨.slice 2, .own true, TC.l x⟩], ⟨0, 0⟩⟩]))
noncomputable def qp_lo3 : List Slot → Option (Told (Ex × List Slot)) := fun s => match s with
  | [⟨.val false [⟨.slice 2, .sh, TC.l D⟩], ⟨0, 0⟩⟩, ⟨.val false [⟨.slice 2, .sh, TC.l C⟩], ⟨0, 0⟩⟩, ⟨.val false [⟨.slice 2, .own true, TC.l X⟩], ⟨0, 0⟩⟩, ⟨.val false [⟨.int .i64, .sh, TC.i i⟩], ⟨0, 0⟩⟩] => some (((qp_3_fin D C X i)).map qp_3_out)
  | _ => .none
noncomputable def qp_lo : LoopTeller := fun r s => bif Nat.beq r 3 then qp_lo3 s else .none
theorem qp_3_r (D C X : LL) (i : Int) (fuel : Nat) : rounds (rnd tab FT D3 live 98 qp_lo 0 3) leave (fuel + 1) (qp_3_sl (D, C, X, i)) = ((qp_3_step D C X i)).run (goOn (fun s => rounds (rnd tab FT D3 live 98 qp_lo 0 3) leave fuel (qp_3_sl s)) fun w => some (qp_3_out w)) := by kernel_rfl
theorem qp_3_h (D C X : LL) (i : Int) (ow : qp_3_ω) : ((qp_3_fin D C X i)).val = some ow → ∃ fuel, loopN qp_3_st fuel (D, C, X, i) = some ow := by
  intro h
  simp only [qp_3_fin, Told.val] at h
  split at h
  · rename_i ho
    obtain ⟨rfl, rfl, ht, hl, hc⟩ := is_iff.1 ho
    cases h
    have hlen : D.length ≤ 17592186044404 := by have := typed_room ht; simp only [show (tab 2).bytes = 8 from rfl] at this; omega
    have hg : (gridL D C).length = D.length := by simp [gridL, hl]
    refine ⟨_, loopN_build (step := qp_3_st) (gridL D C) (fun i X => (D, C, X, (i : Int))) _ (fun i hi => ?_) ?_⟩
    · have hi' : i < D.length := by omega
      rw [gridL_at hl hi]
      show (qp_3_step D C ((gridL D C).take i) (i : Int)).val = _
      unfold qp_3_step
      refine Tr.t (by simp; omega) ?_
      refine Tr.t (by constructor <;> omega) ?_
      refine Tr.t (by constructor <;> omega) ?_
      refine Tr.t (by constructor <;> omega) ?_
      refine Tr.t (inR_1 hc (by omega)) ?_
      refine Tr.t (by unfold roomFor; simp only [show (tab 2).bytes = 8 from rfl, List.length_append, List.length_take, List.length_singleton]; omega) ?_
      rw [Tr.val_ok, wrap64 (i := (i : Int) + 1) (by omega) (by omega)]; rfl
    · show (qp_3_step D C (gridL D C) ((gridL D C).length : Int)).val = _
      refine Tr.n (by simp [hg]) ?_
      rfl
  · cases h
theorem qp_is3 : LoopIs tab FT D3 live 98 qp_lo 0 3 := by
  refine loop_told (sl := qp_3_sl) (step := qp_3_st) (out := qp_3_out) (lor := qp_lo3) (fin := fun x => (qp_3_fin (x.1) (x.2.1) (x.2.2.1) (x.2.2.2))) (fun _ => rfl) ?_ (fun x n => qp_3_r x.1 x.2.1 x.2.2.1 x.2.2.2 n) (fun x ow => qp_3_h x.1 x.2.1 x.2.2.1 x.2.2.2 ow)
  intro s t h
  unfold qp_lo3 at h
  split at h
  · cases h; exact ⟨(_, _, _, _), rfl, rfl⟩
  · cases h
noncomputable def qp_t (D C : LL) : Tr (LL) := (.ite ((qp_o3_1 D C [] (0 : Int)) = true) (.ok (qp_u3_1 D C [] (0 : Int)))
  .no)
def qp_mk (p : LL) : Res := [(false, [⟨.slice 2, .own true, TC.l p⟩])]
noncomputable def qp_c (D C : LL) : Bool := is (Typed tab (.slice 2) (.l D) ∧ D.length = C.length ∧ C.all (inR 1 40) = true)
noncomputable def qp_v (D C : LL) : LL := gridL D C
theorem qp_l (D C : LL) : (qp_c D C) = true → (qp_t D C).val = some (qp_v D C) := by
  intro h
  obtain ⟨ht, hl, hc⟩ := is_iff.1 h
  unfold qp_t
  exact Tr.t (is_true ⟨rfl, rfl, ht, hl, hc⟩) rfl
noncomputable def qp_S : List Arg → Option (Bool × Res) := fun xs => match xs with
  | [(false, [(.slice 2, TC.l D)]), (false, [(.slice 2, TC.l C)])] => some ((qp_c D C), qp_mk (qp_v D C))
  | _ => .none
theorem qp_e (D C : LL) : runF tab FT D3 live 98 qp_lo [(false, [(.slice 2, TC.l D)]), (false, [(.slice 2, TC.l C)])] = (qp_t D C).run fun p => some (qp_mk p) := by kernel_rfl
theorem qp_s : ∀ xs r, qp_S xs = some (true, r) → runF tab FT D3 live 98 qp_lo xs = some r := by
  intro xs r h
  unfold qp_S at h
  split at h
  · simp only [Option.some.injEq, Prod.mk.injEq] at h
    obtain ⟨h1, rfl⟩ := h
    exact fun_told (qp_e _ _) (qp_l _ _) h1
  · cases h
noncomputable def D4 : Dt := also D3 98 qp_S
theorem d4 : DOk Go.Proofs.Try.prog tab D4 := d3.also mixed_ok tab_ok names_ok (fnLoops_one (by kernel_rfl) qp_is3) qp_s
abbrev qo_3_σ := LL × Int × Int
abbrev qo_3_ω := (Int)
noncomputable def qo_3_step (A : LL) (n i : Int) : Tr (qo_3_σ ⊕ qo_3_ω) := (.ite ((decide (i < (A.length : Int))) = true) (.ite ((0 : Int) ≤ i ∧ i < (A.length : Int)) (.ok (.inl (A, (IntKind.wrap .i64 (n * (nth (row A i) 0).int)), (IntKind.wrap .i64 (i + (1 : Int))))))
   .no)
  (.ok (.inr n)))
noncomputable def qo_3_st : qo_3_σ → Tr (qo_3_σ ⊕ qo_3_ω) := fun x => (qo_3_step (x.1) (x.2.1) (x.2.2))
noncomputable def qo_o3_1 (A : LL) (n i : Int) : Bool := is (i = 0 ∧ n = 1 ∧ Typed tab (.slice 2) (.l A))
noncomputable def qo_u3_1 (A : LL) (n i : Int) : Int := (A.foldl mulR (1 : Int))
noncomputable def qo_3_fin (A : LL) (n i : Int) : Told qo_3_ω := (.leaf (qo_o3_1 A n i) (qo_u3_1 A n i))
def qo_3_sl (x : qo_3_σ) : List Slot := [⟨.val false [⟨.slice 2, .sh, TC.l (x.1)⟩], ⟨0, 0⟩⟩, ⟨.val false [⟨.int .i64, .sh, TC.i (x.2.1)⟩], ⟨0, 0⟩⟩, ⟨.val false [⟨.int .i64, .sh, TC.i (x.2.2)⟩], ⟨0, 0⟩⟩]
def qo_3_out : qo_3_ω → Ex × List Slot := (fun x => (.exit 0, [Slot.none, ⟨.val false [⟨.int .i64, .sh, TC.i x⟩], ⟨0, 0⟩⟩]))
noncomputable def qo_lo3 : List Slot → Option (Told (Ex × List Slot)) := fun s => match s with
  | [⟨.val false [⟨.slice 2, .sh, TC.l A⟩], ⟨0, 0⟩⟩, ⟨.val false [⟨.int .i64, .sh, TC.i n⟩], ⟨0, 0⟩⟩, ⟨.val false [⟨.int .i64, .sh, TC.i i⟩], ⟨0, 0⟩⟩] => some (((qo_3_fin A n i)).map qo_3_out)
  | _ => .none
noncomputable def qo_lo : LoopTeller := fun r s => bif Nat.beq r 3 then qo_lo3 s else .none
theorem qo_3_r (A : LL) (n i : Int) (fuel : Nat) : rounds (rnd tab FT D4 live 71 qo_lo 0 3) leave (fuel + 1) (qo_3_sl (A, n, i)) = ((qo_3_step A n i)).run (goOn (fun s => rounds (rnd tab FT D4 live 71 qo_lo 0 3) leave fuel (qo_3_sl s)) fun w => some (qo_3_out w)) := by kernel_rfl
theorem qo_3_h (A : LL) (n i : Int) (ow : qo_3_ω) : ((qo_3_fin A n i)).val = some ow → ∃ fuel, loopN qo_3_st fuel (A, n, i) = some ow := by
  intro h
  have key : Typed tab (.slice 2) (.l A) → loopN qo_3_st (A.length + 1) (A, (1 : Int), (0 : Int)) = some ((A.foldl mulR (1 : Int))) := by
    intro ht
    have hlen : A.length ≤ 140737488351232 := by have := typed_room ht; simp only [show (tab 2).bytes = 8 from rfl] at this; omega
    have key := loopN_scan (step := qo_3_st) A [] (fun _ => true) mulR (fun i a => (A, a, (i : Int))) (fun a => a) (fun i a => a) (fun i a hi => ?_) (fun a => ?_) A.length 0 (1 : Int) (by omega)
    · first | (rw [Nat.zero_add] at key; exact key) | exact key | (simpa using key)
    · skip
      show (qo_3_step A a (i : Int)).val = _
      unfold qo_3_step
      refine Tr.t (by simp; omega) ?_
      show _ = some _
      refine Tr.t (by first | omega | (constructor <;> omega)) ?_
      rw [Tr.val_ok, wrap64 (i := (i : Int) + 1) (by omega) (by omega)]; rfl
    · show (qo_3_step A a (A.length : Int)).val = _
      refine Tr.n (by simp) ?_
      rfl
  simp only [qo_3_fin, Told.val] at h
  split at h
  · rename_i ho
    obtain ⟨rfl, rfl, ht⟩ := is_iff.1 ho
    cases h
    exact ⟨_, key ht⟩
  · cases h
theorem qo_is3 : LoopIs tab FT D4 live 71 qo_lo 0 3 := by
  refine loop_told (sl := qo_3_sl) (step := qo_3_st) (out := qo_3_out) (lor := qo_lo3) (fin := fun x => (qo_3_fin (x.1) (x.2.1) (x.2.2))) (fun _ => rfl) ?_ (fun x n => qo_3_r x.1 x.2.1 x.2.2 n) (fun x ow => qo_3_h x.1 x.2.1 x.2.2 ow)
  intro s t h
  unfold qo_lo3 at h
  split at h
  · cases h; exact ⟨(_, _, _), rfl, rfl⟩
  · cases h
noncomputable def qo_t (A : LL) : Tr (Int) := (.ite ((qo_o3_1 A (1 : Int) (0 : Int)) = true) (.ok (qo_u3_1 A (1 : Int) (0 : Int)))
  .no)
def qo_mk (p : Int) : Res := [(false, [⟨.int .i64, .sh, TC.i p⟩])]
noncomputable def qo_c (A : LL) : Bool := (qo_o3_1 A (1 : Int) (0 : Int))
noncomputable def qo_v (A : LL) : Int := (qo_u3_1 A (1 : Int) (0 : Int))
theorem qo_l (A : LL) : (qo_c A) = true → (qo_t A).val = some (qo_v A) := by
  intro h
  have hc0 : (qo_o3_1 A (1 : Int) (0 : Int)) = true := h
  unfold qo_t
  exact (Tr.t hc0 rfl)
noncomputable def qo_S : List Arg → Option (Bool × Res) := fun xs => match xs with
  | [(false, [(.slice 2, TC.l A)])] => some ((qo_c A), qo_mk (qo_v A))
  | _ => .none
theorem qo_e (A : LL) : runF tab FT D4 live 71 qo_lo [(false, [(.slice 2, TC.l A)])] = (qo_t A).run fun p => some (qo_mk p) := by kernel_rfl
theorem qo_s : ∀ xs r, qo_S xs = some (true, r) → runF tab FT D4 live 71 qo_lo xs = some r := by
  intro xs r h
  unfold qo_S at h
  split at h
  · simp only [Option.some.injEq, Prod.mk.injEq] at h
    obtain ⟨h1, rfl⟩ := h
    exact fun_told (qo_e _) (qo_l _) h1
  · cases h
noncomputable def D5 : Dt := also D4 71 qo_S
theorem d5 : DOk Go.Proofs.Try.prog tab D5 := d4.also mixed_ok tab_ok names_ok (fnLoops_one (by kernel_rfl) qo_is3) qo_s
abbrev qa_12_σ := Int × LL × Int
abbrev qa_12_ω := (Int × LL) ⊕ (Int × LL)
noncomputable def qa_12_step (n : Int) (A : LL) (i : Int) : Tr (qa_12_σ ⊕ qa_12_ω) := (.ite ((decide (i < (A.length : Int))) = true) (.ite ((0 : Int) ≤ i ∧ i < (A.length : Int)) (.ite ((decide ((nth (row A i) 0).int > (16 : Int))) = true) (.ok (.inr (.inl (n, A))))
    (.ok (.inl (n, A, (IntKind.wrap .i64 (i + (1 : Int)))))))
   .no)
  (.ok (.inr (.inr (n, A)))))
noncomputable def qa_12_st : qa_12_σ → Tr (qa_12_σ ⊕ qa_12_ω) := fun x => (qa_12_step (x.1) (x.2.1) (x.2.2))
noncomputable def qa_k12_1 (n : Int) (A : LL) (i : Int) : Bool := A.all le16
noncomputable def qa_o12_2 (n : Int) (A : LL) (i : Int) : Bool := is (i = 0 ∧ A.length ≤ 140737488351232)
noncomputable def qa_o12_3 (n : Int) (A : LL) (i : Int) : Bool := is (i = 0 ∧ A.length ≤ 140737488351232)
noncomputable def qa_12_fin (n : Int) (A : LL) (i : Int) : Told qa_12_ω := (.br (qa_k12_1 n A i) (.leaf (qa_o12_2 n A i) (.inr (n, A))) (.leaf (qa_o12_3 n A i) (.inl (n, A))))
def qa_12_sl (x : qa_12_σ) : List Slot := [⟨.val false [⟨.int .i64, .sh, TC.i (x.1)⟩], ⟨0, 0⟩⟩, ⟨.val false [⟨.slice 2, .own true, TC.l (x.2.1)⟩], ⟨0, 0⟩⟩, ⟨.val false [⟨.int .i64, .sh, TC.i (x.2.2)⟩], ⟨0, 0⟩⟩]
def qa_12_out : qa_12_ω → Ex × List Slot := (Sum.elim (fun x => (.ret, [⟨.val false [⟨.bool, .sh, TC.b false⟩], ⟨0, 0⟩⟩, ⟨.val false [⟨.int .i64, .sh, TC.i (x.1)⟩], ⟨0, 0⟩⟩, ⟨.val false [⟨.slice 2, .own true, TC.l (x.2)⟩], ⟨0, 0⟩⟩])) (fun x => (.exit 2, [Slot.none, ⟨.val false [⟨.int .i64, .sh, TC.i (x.1)⟩], ⟨0, 0⟩⟩, ⟨.val false [⟨.slice 2, .own true, TC.l (x.2)⟩], ⟨0, 0⟩⟩])))
noncomputable def qa_lo12 : List Slot → Option (Told (Ex × List Slot)) := fun s => match s with
  | [⟨.val false [⟨.int .i64, .sh, TC.i n⟩], ⟨0, 0⟩⟩, ⟨.val false [⟨.slice 2, .own true, TC.l A⟩], ⟨0, 0⟩⟩, ⟨.val false [⟨.int .i64, .sh, TC.i i⟩], ⟨0, 0⟩⟩] => some (((qa_12_fin n A i)).map qa_12_out)
  | _ => .none
abbrev qa_5_σ := LL × LL × Int × Int
abbrev qa_5_ω := (LL × LL × Int) ⊕ (LL × LL × Int)
noncomputable def qa_5_step (D A : LL) (n i : Int) : Tr (qa_5_σ ⊕ qa_5_ω) := (.ite ((decide (i < (A.length : Int))) = true) (.ite ((0 : Int) ≤ i ∧ i < (A.length : Int)) (.ite ((!(qy_v ((nth (row A i) 0).int) (1 : Int) (40 : Int))) = true) (.ok (.inr (.inl (D, A, n))))
    (.ite ((0 : Int) ≤ i ∧ i < (A.length : Int)) (.ok (.inl (D, A, (IntKind.wrap .i64 (n * (nth (row A i) 0).int)), (IntKind.wrap .i64 (i + (1 : Int))))))
     .no))
   .no)
  (.ok (.inr (.inr (D, A, n)))))
noncomputable def qa_5_st : qa_5_σ → Tr (qa_5_σ ⊕ qa_5_ω) := fun x => (qa_5_step (x.1) (x.2.1) (x.2.2.1) (x.2.2.2))
noncomputable def qa_k5_1 (D A : LL) (n i : Int) : Bool := A.all (inR 1 40)
noncomputable def qa_o5_2 (D A : LL) (n i : Int) : Bool := is (i = 0 ∧ n = 1 ∧ Typed tab (.slice 2) (.l A))
noncomputable def qa_u5_2_2 (D A : LL) (n i : Int) : Int := (A.foldl mulR (1 : Int))
noncomputable def qa_o5_3 (D A : LL) (n i : Int) : Bool := is (i = 0 ∧ n = 1 ∧ Typed tab (.slice 2) (.l A))
noncomputable def qa_u5_3_2 (D A : LL) (n i : Int) : Int := ((A.take (A.findIdx fun x => !(inR 1 40) x)).foldl mulR (1 : Int))
noncomputable def qa_5_fin (D A : LL) (n i : Int) : Told qa_5_ω := (.br (qa_k5_1 D A n i) (.leaf (qa_o5_2 D A n i) (.inr (D, A, (qa_u5_2_2 D A n i)))) (.leaf (qa_o5_3 D A n i) (.inl (D, A, (qa_u5_3_2 D A n i)))))
def qa_5_sl (x : qa_5_σ) : List Slot := [⟨.val false [⟨.slice 2, .sh, TC.l (x.1)⟩], ⟨0, 0⟩⟩, ⟨.val false [⟨.slice 2, .sh, TC.l (x.2.1)⟩], ⟨0, 0⟩⟩, ⟨.val false [⟨.int .i64, .sh, TC.i (x.2.2.1)⟩], ⟨0, 0⟩⟩, ⟨.val false [⟨.int .i64, .sh, TC.i (x.2.2.2)⟩], ⟨0, 0⟩⟩]
def qa_5_out : qa_5_ω → Ex × List Slot := (Sum.elim (fun x => (.ret, [⟨.val false [⟨.slice 2, .sh, TC.l (x.1)⟩], ⟨0, 0⟩⟩, ⟨.val false [⟨.slice 2, .sh, TC.l (x.2.1)⟩], ⟨0, 0⟩⟩, ⟨.val false [⟨.bool, .sh, TC.b false⟩], ⟨0, 0⟩⟩, ⟨.val false [⟨.int .i64, .sh, TC.i (x.2.2)⟩], ⟨0, 0⟩⟩])) (fun x => (.exit 0, [⟨.val false [⟨.slice 2, .sh, TC.l (x.1)⟩], ⟨0, 0⟩⟩, ⟨.val false [⟨.slice 2, .sh, TC.l (x.2.1)⟩], ⟨0, 0⟩⟩, Slot.none, ⟨.val false [⟨.int .i64, .sh, TC.i (x.2.2)⟩], ⟨0, 0⟩⟩])))
noncomputable def qa_lo5 : List Slot → Option (Told (Ex × List Slot)) := fun s => match s with
  | [⟨.val false [⟨.slice 2, .sh, TC.l D⟩], ⟨0, 0⟩⟩, ⟨.val false [⟨.slice 2, .sh, TC.l A⟩], ⟨0, 0⟩⟩, ⟨.val false [⟨.int .i64, .sh, TC.i n⟩], ⟨0, 0⟩⟩, ⟨.val false [⟨.int .i64, .sh, TC.i i⟩], ⟨0, 0⟩⟩] => some (((qa_5_fin D A n i)).map qa_5_out)
  | _ => .none
noncomputable def qa_lo : LoopTeller := fun r s => bif Nat.beq r 5 then qa_lo5 s else bif Nat.beq r 12 then qa_lo12 s else .none
theorem qa_12_r (n : Int) (A : LL) (i : Int) (fuel : Nat) : rounds (rnd tab FT D5 live 52 qa_lo 1 12) leave (fuel + 1) (qa_12_sl (n, A, i)) = ((qa_12_step n A i)).run (goOn (fun s => rounds (rnd tab FT D5 live 52 qa_lo 1 12) leave fuel (qa_12_sl s)) fun w => some (qa_12_out w)) := by kernel_rfl
theorem qa_12_h (n : Int) (A : LL) (i : Int) (ow : qa_12_ω) : ((qa_12_fin n A i)).val = some ow → ∃ fuel, loopN qa_12_st fuel (n, A, i) = some ow := by
  intro h
  have key : A.length ≤ 140737488351232 → loopN qa_12_st (A.length + 1) (n, A, (0 : Int)) = some (if A.all le16 = true then (.inr (n, A)) else (.inl (n, A))) := by
    intro ht
    have hlen : A.length ≤ 140737488351232 := ht
    have key := loopN_scan (step := qa_12_st) A [] le16 (fun a _ => a) (fun i a => (n, A, (i : Int))) (fun a => (.inr (n, A))) (fun i a => (.inl (n, A))) (fun i a hi => ?_) (fun a => ?_) A.length 0 () (by omega)
    · first | (rw [Nat.zero_add] at key; exact key) | exact key
    · skip
      show (qa_12_step n A (i : Int)).val = _
      unfold qa_12_step
      refine Tr.t (by simp; omega) ?_
      skip
      refine Tr.t (by first | omega | (constructor <;> omega)) ?_
      refine Tr.b2 (fun hP => ?_) (fun _ => rfl)
      rw [Tr.val_ok, wrap64 (i := (i : Int) + 1) (by omega) (by omega)]; rfl
    · show (qa_12_step n A (A.length : Int)).val = _
      refine Tr.n (by simp) ?_
      rfl
  simp only [qa_12_fin, Told.val] at h
  cases hk : A.all le16 with
  | true =>
    rw [if_pos (show qa_k12_1 n A i = true from hk)] at h
    split at h
    · rename_i ho
      obtain ⟨rfl, ht⟩ := is_iff.1 ho
      cases h
      refine ⟨_, (key ht).trans ?_⟩
      rw [hk]; rfl
    · cases h
  | false =>
    rw [if_neg (show ¬qa_k12_1 n A i = true from by rw [show qa_k12_1 n A i = (A.all le16) from rfl, hk]; simp)] at h
    split at h
    · rename_i ho
      obtain ⟨rfl, ht⟩ := is_iff.1 ho
      cases h
      refine ⟨_, (key ht).trans ?_⟩
      rw [hk]; rfl
    · cases h
theorem qa_is12 : LoopIs tab FT D5 live 52 qa_lo 1 12 := by
  refine loop_told (sl := qa_12_sl) (step := qa_12_st) (out := qa_12_out) (lor := qa_lo12) (fin := fun x => (qa_12_fin (x.1) (x.2.1) (x.2.2))) (fun _ => rfl) ?_ (fun x n => qa_12_r x.1 x.2.1 x.2.2 n) (fun x ow => qa_12_h x.1 x.2.1 x.2.2 ow)
  intro s t h
  unfold qa_lo12 at h
  split at h
  · cases h; exact ⟨(_, _, _), rfl, rfl⟩
  · cases h
theorem qa_5_r (D A : LL) (n i : Int) (fuel : Nat) : rounds (rnd tab FT D5 live 52 qa_lo 0 5) leave (fuel + 1) (qa_5_sl (D, A, n, i)) = ((qa_5_step D A n i)).run (goOn (fun s => rounds (rnd tab FT D5 live 52 qa_lo 0 5) leave fuel (qa_5_sl s)) fun w => some (qa_5_out w)) := by kernel_rfl
theorem qa_5_h (D A : LL) (n i : Int) (ow : qa_5_ω) : ((qa_5_fin D A n i)).val = some ow → ∃ fuel, loopN qa_5_st fuel (D, A, n, i) = some ow := by
  intro h
  have key : Typed tab (.slice 2) (.l A) → loopN qa_5_st (A.length + 1) (D, A, (1 : Int), (0 : Int)) = some (if A.all (inR 1 40) = true then (.inr (D, A, (A.foldl mulR (1 : Int)))) else (.inl (D, A, ((A.take (A.findIdx fun x => !(inR 1 40) x)).foldl mulR (1 : Int))))) := by
    intro ht
    have hlen : A.length ≤ 140737488351232 := by have := typed_room ht; simp only [show (tab 2).bytes = 8 from rfl] at this; omega
    have key := loopN_scan (step := qa_5_st) A [] (inR 1 40) mulR (fun i a => (D, A, a, (i : Int))) (fun a => (.inr (D, A, a))) (fun i a => (.inl (D, A, a))) (fun i a hi => ?_) (fun a => ?_) A.length 0 (1 : Int) (by omega)
    · first | (rw [Nat.zero_add] at key; exact key) | exact key
    · skip
      show (qa_5_step D A a (i : Int)).val = _
      unfold qa_5_step
      refine Tr.t (by simp; omega) ?_
      skip
      refine Tr.t (by first | omega | (constructor <;> omega)) ?_
      refine Tr.b (P := (inR 1 40) (A.getD i [])) (fun hP => ?_) (fun _ => rfl)
      refine Tr.t (by first | omega | (constructor <;> omega)) ?_
      rw [Tr.val_ok, wrap64 (i := (i : Int) + 1) (by omega) (by omega)]; rfl
    · show (qa_5_step D A a (A.length : Int)).val = _
      refine Tr.n (by simp) ?_
      rfl
  simp only [qa_5_fin, Told.val] at h
  cases hk : A.all (inR 1 40) with
  | true =>
    rw [if_pos (show qa_k5_1 D A n i = true from hk)] at h
    split at h
    · rename_i ho
      obtain ⟨rfl, rfl, ht⟩ := is_iff.1 ho
      cases h
      refine ⟨_, (key ht).trans ?_⟩
      rw [hk]; rfl
    · cases h
  | false =>
    rw [if_neg (show ¬qa_k5_1 D A n i = true from by rw [show qa_k5_1 D A n i = (A.all (inR 1 40)) from rfl, hk]; simp)] at h
    split at h
    · rename_i ho
      obtain ⟨rfl, rfl, ht⟩ := is_iff.1 ho
      cases h
      refine ⟨_, (key ht).trans ?_⟩
      rw [hk]; rfl
    · cases h
theorem qa_is5 : LoopIs tab FT D5 live 52 qa_lo 0 5 := by
  refine loop_told (sl := qa_5_sl) (step := qa_5_st) (out := qa_5_out) (lor := qa_lo5) (fin := fun x => (qa_5_fin (x.1) (x.2.1) (x.2.2.1) (x.2.2.2))) (fun _ => rfl) ?_ (fun x n => qa_5_r x.1 x.2.1 x.2.2.1 x.2.2.2 n) (fun x ow => qa_5_h x.1 x.2.1 x.2.2.1 x.2.2.2 ow)
  intro s t h
  unfold qa_lo5 at h
  split at h
  · cases h; exact ⟨(_, _, _, _), rfl, rfl⟩
  · cases h
noncomputable def qa_t (D C : LL) : Tr (Bool) := (.ite ((ql_c D) = true) (.ite ((!(ql_v D)) = true) (.ok false)
   (.ite ((!((C.length : Int) == (D.length : Int))) = true) (.ok false)
    (.ite ((qa_k5_1 D C (1 : Int) (0 : Int)) = true) (.ite ((qa_o5_2 D C (1 : Int) (0 : Int)) = true) (.ite ((qp_c D C) = true) (.ite ((qa_k12_1 (qa_u5_2_2 D C (1 : Int) (0 : Int)) (qp_v D C) (0 : Int)) = true) (.ite ((qa_o12_2 (qa_u5_2_2 D C (1 : Int) (0 : Int)) (qp_v D C) (0 : Int)) = true) (.ite ((decide ((qa_u5_2_2 D C (1 : Int) (0 : Int)) ≤ (64 : Int))) = true) (.ite ((qo_c (qp_v D C)) = true) (.ok (decide ((qo_v (qp_v D C)) ≤ (256 : Int))))
           .no)
          (.ok false))
         .no)
        (.ite ((qa_o12_3 (qa_u5_2_2 D C (1 : Int) (0 : Int)) (qp_v D C) (0 : Int)) = true) (.ok false)
         .no))
       .no)
      .no)
     (.ite ((qa_o5_3 D C (1 : Int) (0 : Int)) = true) (.ok false)
      .no))))
  .no)
def qa_mk (p : Bool) : Res := [(false, [⟨.bool, .sh, TC.b p⟩])]
noncomputable def qa_c (D C : LL) : Bool := ((ql_c D) && (bif (!(ql_v D)) then true else (bif (!((C.length : Int) == (D.length : Int))) then true else (bif (qa_k5_1 D C (1 : Int) (0 : Int)) then ((qa_o5_2 D C (1 : Int) (0 : Int)) && ((qp_c D C) && (bif (qa_k12_1 (qa_u5_2_2 D C (1 : Int) (0 : Int)) (qp_v D C) (0 : Int)) then ((qa_o12_2 (qa_u5_2_2 D C (1 : Int) (0 : Int)) (qp_v D C) (0 : Int)) && (bif (decide ((qa_u5_2_2 D C (1 : Int) (0 : Int)) ≤ (64 : Int))) then ((qo_c (qp_v D C)) && true) else true)) else ((qa_o12_3 (qa_u5_2_2 D C (1 : Int) (0 : Int)) (qp_v D C) (0 : Int)) && true)))) else ((qa_o5_3 D C (1 : Int) (0 : Int)) && true)))))
noncomputable def qa_v (D C : LL) : Bool := (bif (!(ql_v D)) then false else (bif (!((C.length : Int) == (D.length : Int))) then false else (bif (qa_k5_1 D C (1 : Int) (0 : Int)) then (bif (qa_k12_1 (qa_u5_2_2 D C (1 : Int) (0 : Int)) (qp_v D C) (0 : Int)) then (bif (decide ((qa_u5_2_2 D C (1 : Int) (0 : Int)) ≤ (64 : Int))) then (decide ((qo_v (qp_v D C)) ≤ (256 : Int))) else false) else false) else false)))
theorem qa_l (D C : LL) : (qa_c D C) = true → (qa_t D C).val = some (qa_v D C) := by
  unfold qa_t qa_v qa_c
  exact fun h => (Tr.gb h fun h => (Tr.ss h (fun h => rfl) (fun h => (Tr.ss h (fun h => rfl) (fun h => (Tr.ss h (fun h => (Tr.gb h fun h => (Tr.gb h fun h => (Tr.ss h (fun h => (Tr.gb h fun h => (Tr.ss h (fun h => (Tr.gb h fun h => rfl)) (fun h => rfl)))) (fun h => (Tr.gb h fun h => rfl)))))) (fun h => (Tr.gb h fun h => rfl))))))))
noncomputable def qa_S : List Arg → Option (Bool × Res) := fun xs => match xs with
  | [(false, [(.slice 2, TC.l D)]), (false, [(.slice 2, TC.l C)])] => some ((qa_c D C), qa_mk (qa_v D C))
  | _ => .none
theorem qa_e (D C : LL) : runF tab FT D5 live 52 qa_lo [(false, [(.slice 2, TC.l D)]), (false, [(.slice 2, TC.l C)])] = (qa_t D C).run fun p => some (qa_mk p) := by kernel_rfl
theorem qa_s : ∀ xs r, qa_S xs = some (true, r) → runF tab FT D5 live 52 qa_lo xs = some r := by
  intro xs r h
  unfold qa_S at h
  split at h
  · simp only [Option.some.injEq, Prod.mk.injEq] at h
    obtain ⟨h1, rfl⟩ := h
    exact fun_told (qa_e _ _) (qa_l _ _) h1
  · cases h
noncomputable def D6 : Dt := also D5 52 qa_S
theorem d6 : DOk Go.Proofs.Try.prog tab D6 := d5.also mixed_ok tab_ok names_ok (fnLoops_two (by kernel_rfl) qa_is5 qa_is12) qa_s
theorem qa_cc {D : LL} {C : LL} (hD : Typed tab (.slice 2) (.l D)) (hC : Typed tab (.slice 2) (.l C)) : (qa_c D C) = true := by
  unfold qa_c
  refine andT (by first | (apply is_true; and_intros <;> (first | rfl | assumption | (first | (apply is_true; and_intros <;> (first | rfl | assumption | (first | (apply is_true; and_intros <;> (first | rfl | assumption | (first | (apply is_true; and_intros <;> (first | rfl | assumption)))))))))))) ?_
  refine bifT (fun b1 => ?_) (fun b1 => ?_)
  · skip
    rfl
  · skip
    refine bifT (fun b2 => ?_) (fun b2 => ?_)
    · skip
      rfl
    · skip
      refine bifT (fun b3 => ?_) (fun b3 => ?_)
      · skip
        refine andT (by first | (apply is_true; and_intros <;> (first | rfl | assumption | (first | (apply is_true; and_intros <;> (first | rfl | assumption | (first | (apply is_true; and_intros <;> (first | rfl | assumption | (first | (apply is_true; and_intros <;> (first | rfl | assumption)))))))))))) ?_
        refine andT (by exact is_true (p := Typed tab (.slice 2) (.l D) ∧ D.length = C.length ∧ C.all (inR 1 40) = true) ⟨hD, lenEq b2, b3⟩) ?_
        refine bifT (fun b4 => ?_) (fun b4 => ?_)
        · skip
          refine andT (by exact is_true (p := (0 : Int) = 0 ∧ (gridL D C).length ≤ 140737488351232) ⟨rfl, gridL_len (by have := typed_room hD; simp only [show (tab 2).bytes = 8 from rfl] at this; omega)⟩) ?_
          refine bifT (fun b5 => ?_) (fun b5 => ?_)
          · skip
            refine andT (by exact is_true ⟨rfl, rfl, gridL_ty rfl hD⟩) ?_
            rfl
          · skip
            rfl
        · skip
          refine andT (by exact is_true (p := (0 : Int) = 0 ∧ (gridL D C).length ≤ 140737488351232) ⟨rfl, gridL_len (by have := typed_room hD; simp only [show (tab 2).bytes = 8 from rfl] at this; omega)⟩) ?_
          rfl
      · skip
        refine andT (by first | (apply is_true; and_intros <;> (first | rfl | assumption | (first | (apply is_true; and_intros <;> (first | rfl | assumption | (first | (apply is_true; and_intros <;> (first | rfl | assumption | (first | (apply is_true; and_intros <;> (first | rfl | assumption)))))))))))) ?_
        rfl
theorem qa_vv (D C : LL) : qa_v D C = chunkOk D C := by
  show (bif (!(ql_v D)) then false else bif (!((C.length : Int) == (D.length : Int))) then false else bif C.all (inR 1 40) then bif (gridL D C).all le16 then bif decide (prodL C ≤ 64) then decide (prodL (gridL D C) ≤ 256) else false else false else false) = _
  rw [ql_vv]
  unfold chunkOk
  cases hd : dimsOk D
  · rfl
  cases ((C.length : Int) == (D.length : Int))
  · rfl
  cases hc : C.all (inR 1 40)
  · rfl
  rw [grid_all (dimsOk_all hd) hc]
  cases (gridL D C).all (inR 0 16) <;> cases decide (prodL C ≤ 64) <;> rfl
abbrev qn_3_σ := LL × Int × LL × Int
abbrev qn_3_ω := (LL)
noncomputable def qn_3_step (A : LL) (q : Int) (X : LL) (i : Int) : Tr (qn_3_σ ⊕ qn_3_ω) := (.ite ((decide (i ≥ (0 : Int))) = true) (.ite ((0 : Int) ≤ i ∧ i < (A.length : Int)) (.ite ((nth (row A i) 0).int ≠ 0) (.ite ((0 : Int) ≤ i ∧ i < (X.length : Int)) (.ite ((0 : Int) ≤ i ∧ i < (A.length : Int)) (.ite ((nth (row A i) 0).int ≠ 0) (.ok (.inl (A, (IntKind.wrap .i64 (Int.tdiv q ((nth (row A i) 0).int))), (X.set (i).toNat (splice (row X i) 0 [TC.i (Int.tmod q ((nth (row A i) 0).int))])), (IntKind.wrap .i64 (i - (1 : Int))))))
       .no)
      .no)
     .no)
    .no)
   .no)
  (.ok (.inr X)))
noncomputable def qn_3_st : qn_3_σ → Tr (qn_3_σ ⊕ qn_3_ω) := fun x => (qn_3_step (x.1) (x.2.1) (x.2.2.1) (x.2.2.2))
noncomputable def qn_o3_1 (A : LL) (q : Int) (X : LL) (i : Int) : Bool := is (i = (A.length : Int) - 1 ∧ X = List.replicate A.length [TC.i (0 : Int)] ∧ Typed tab (.slice 2) (.l A) ∧ (∀ j : Nat, j < A.length → (nth (A.getD j []) 0).int ≠ 0))
noncomputable def qn_u3_1 (A : LL) (q : Int) (X : LL) (i : Int) : LL := coordsV A q
noncomputable def qn_3_fin (A : LL) (q : Int) (X : LL) (i : Int) : Told qn_3_ω := (.leaf (qn_o3_1 A q X i) (qn_u3_1 A q X i))
def qn_3_sl (x : qn_3_σ) : List Slot := [⟨.val false [⟨.slice 2, .sh, TC.l (x.1)⟩], ⟨0, 0⟩⟩, ⟨.val false [⟨.int .i64, .sh, TC.i (x.2.1)⟩], ⟨0, 0⟩⟩, ⟨.val false [⟨.slice 2, .own true, TC.l (x.2.2.1)⟩], ⟨0, 0⟩⟩, ⟨.val false [⟨.int .i64, .sh, TC.i (x.2.2.2)⟩], ⟨0, 0⟩⟩]
def qn_3_out : qn_3_ω → Ex × List Slot := (fun x => (.exit 0, [Slot.none, ⟨.val false [⟨.slice 2, .own true, TC.l x⟩], ⟨0, 0⟩⟩]))
noncomputable def qn_lo3 : List Slot → Option (Told (Ex × List Slot)) := fun s => match s with
  | [⟨.val false [⟨.slice 2, .sh, TC.l A⟩], ⟨0, 0⟩⟩, ⟨.val false [⟨.int .i64, .sh, TC.i q⟩], ⟨0, 0⟩⟩, ⟨.val false [⟨.slice 2, .own true, TC.l X⟩], ⟨0, 0⟩⟩, ⟨.val false [⟨.int .i64, .sh, TC.i i⟩], ⟨0, 0⟩⟩] => some (((qn_3_fin A q X i)).map qn_3_out)
  | _ => .none
noncomputable def qn_lo : LoopTeller := fun r s => bif Nat.beq r 3 then qn_lo3 s else .none
theorem qn_3_r (A : LL) (q : Int) (X : LL) (i : Int) (fuel : Nat) : rounds (rnd tab FT D6 live 72 qn_lo 0 3) leave (fuel + 1) (qn_3_sl (A, q, X, i)) = ((qn_3_step A q X i)).run (goOn (fun s => rounds (rnd tab FT D6 live 72 qn_lo 0 3) leave fuel (qn_3_sl s)) fun w => some (qn_3_out w)) := by kernel_rfl
theorem qn_3_h (A : LL) (q : Int) (X : LL) (i : Int) (ow : qn_3_ω) : ((qn_3_fin A q X i)).val = some ow → ∃ fuel, loopN qn_3_st fuel (A, q, X, i) = some ow := by
  intro h
  refine auto_leaf (R := coordsV A q) (fun ho => ?_) h
  obtain ⟨rfl, rfl, ht, hz⟩ := is_iff.1 ho
  have hlen : A.length ≤ 140737488351232 := by have := typed_room ht; simp only [show (tab 2).bytes = 8 from rfl] at this; omega
  have key := loopN_run (step := qn_3_st) (N := A.length) (fun k => (A, idxD A.length (dimD A) q k, crowR A q k, (A.length : Int) - 1 - (k : Int))) (w := coordsV A q) (fun k hk => ?_) ?_ A.length 0 (by omega)
  · refine ⟨_, Eq.trans (congrArg (loopN qn_3_st _) ?_) key⟩
    show (_, _, _, _) = (_, _, crowR A q 0, _)
    rw [← crowR_zero]
    simp [idxD]
  · have hi : (A.length : Int) - 1 - (k : Int) = ((A.length - 1 - k : Nat) : Int) := by omega
    have hr : (nth (row A ((A.length - 1 - k : Nat) : Int)) 0).int = dimD A (A.length - 1 - k) := rfl
    have hne : dimD A (A.length - 1 - k) ≠ 0 := hz _ (by omega)
    show (qn_3_step A (idxD A.length (dimD A) q k) (crowR A q k) ((A.length : Int) - 1 - (k : Int))).val = _
    rw [hi]
    unfold qn_3_step
    rw [hr]
    refine Tr.t (by simp) (Tr.t (by constructor <;> omega) (Tr.t hne (Tr.t (by rw [crowR_len]; constructor <;> omega) (Tr.t (by constructor <;> omega) (Tr.t hne ?_)))))
    have hsp : splice (row (crowR A q k) ((A.length - 1 - k : Nat) : Int)) 0 [TC.i (Int.tmod (idxD A.length (dimD A) q k) (dimD A (A.length - 1 - k)))] = [TC.i (crdD A.length (dimD A) q (A.length - 1 - k))] := by
      have h1 : row (crowR A q k) ((A.length - 1 - k : Nat) : Int) = [TC.i (if A.length - k ≤ A.length - 1 - k then crdD A.length (dimD A) q (A.length - 1 - k) else 0)] := by
        rw [row_nat, List.getD_eq_getElem?_getD, crowR_at (by omega)]; rfl
      rw [h1]
      unfold crdD
      rw [show A.length - 1 - (A.length - 1 - k) = k from by omega]
      rfl
    rw [Tr.val_ok, hsp, Int.toNat_natCast, crowR_set hk, wrap64 (i := ((A.length - 1 - k : Nat) : Int) - 1) (by omega) (by omega)]
    show some (Sum.inl (_, _, _, _)) = some (Sum.inl (_, _, _, _))
    rw [show ((A.length - 1 - k : Nat) : Int) - 1 = (A.length : Int) - 1 - ((k + 1 : Nat) : Int) from by omega]
    rfl
  · show (qn_3_step A (idxD A.length (dimD A) q A.length) (crowR A q A.length) ((A.length : Int) - 1 - (A.length : Int))).val = _
    unfold qn_3_step
    refine Tr.n (by first | (simp; done) | (simp; omega)) ?_
    rw [Tr.val_ok, crowR_all]
theorem qn_is3 : LoopIs tab FT D6 live 72 qn_lo 0 3 := by
  refine loop_told (sl := qn_3_sl) (step := qn_3_st) (out := qn_3_out) (lor := qn_lo3) (fin := fun x => (qn_3_fin (x.1) (x.2.1) (x.2.2.1) (x.2.2.2))) (fun _ => rfl) ?_ (fun x n => qn_3_r x.1 x.2.1 x.2.2.1 x.2.2.2 n) (fun x ow => qn_3_h x.1 x.2.1 x.2.2.1 x.2.2.2 ow)
  intro s t h
  unfold qn_lo3 at h
  split at h
  · cases h; exact ⟨(_, _, _, _), rfl, rfl⟩
  · cases h
noncomputable def qn_t (A : LL) (x : Int) : Tr (LL) := (.ite (0 ≤ (A.length : Int) ∧ (A.length : Int) ≤ (A.length : Int) ∧ (A.length : Int) * 8 ≤ 140737488355328 ∧ (A.length : Int) ≤ 140737488355328) (.ite ((qn_o3_1 A x (List.replicate ((A.length : Int)).toNat [TC.i (0 : Int)]) (IntKind.wrap .i64 ((A.length : Int) - (1 : Int)))) = true) (.ok (qn_u3_1 A x (List.replicate ((A.length : Int)).toNat [TC.i (0 : Int)]) (IntKind.wrap .i64 ((A.length : Int) - (1 : Int)))))
   .no)
  .no)
def qn_mk (p : LL) : Res := [(false, [⟨.slice 2, .own true, TC.l p⟩])]
noncomputable def qn_c (A : LL) (x : Int) : Bool := is (Typed tab (.slice 2) (.l A) ∧ (∀ j : Nat, j < A.length → (nth (A.getD j []) 0).int ≠ 0))
noncomputable def qn_v (A : LL) (x : Int) : LL := coordsV A x
theorem qn_l (A : LL) (x : Int) : (qn_c A x) = true → (qn_t A x).val = some (qn_v A x) := by
  intro h
  obtain ⟨ht, hz⟩ := is_iff.1 h
  have hlen := typed_room ht
  simp only [show (tab 2).bytes = 8 from rfl] at hlen
  unfold qn_t qn_v
  refine Tr.t (by omega) (Tr.t (is_true ⟨wrap64 (by omega) (by omega), by rw [Int.toNat_natCast], ht, hz⟩) ?_)
  rfl
noncomputable def qn_S : List Arg → Option (Bool × Res) := fun xs => match xs with
  | [(false, [(.slice 2, TC.l A)]), (false, [(.int .i64, TC.i x)])] => some ((qn_c A x), qn_mk (qn_v A x))
  | _ => .none
theorem qn_e (A : LL) (x : Int) : runF tab FT D6 live 72 qn_lo [(false, [(.slice 2, TC.l A)]), (false, [(.int .i64, TC.i x)])] = (qn_t A x).run fun p => some (qn_mk p) := by kernel_rfl
theorem qn_s : ∀ xs r, qn_S xs = some (true, r) → runF tab FT D6 live 72 qn_lo xs = some r := by
  intro xs r h
  unfold qn_S at h
  split at h
  · simp only [Option.some.injEq, Prod.mk.injEq] at h
    obtain ⟨h1, rfl⟩ := h
    exact fun_told (qn_e _ _) (qn_l _ _) h1
  · cases h
noncomputable def D7 : Dt := also D6 72 qn_S
theorem d7 : DOk Go.Proofs.Try.prog tab D7 := d6.also mixed_ok tab_ok names_ok (fnLoops_one (by kernel_rfl) qn_is3) qn_s
noncomputable def qq_f3 (A : LL) (i n : Int) : (Int) ⊕ ((Int)) := (.inl (IntKind.wrap .i64 ((IntKind.wrap .i64 ((16 : Int) * n)) + (nth (row A i) 0).int)))
noncomputable def qq_e3 (A : LL) (n : Int) : (Int) := n
noncomputable def qq_R3 (A : LL) (n i : Int) : (Int) := iter (fun i a => (qq_f3 A (i : Int) a)) (fun a => (qq_e3 A a)) (A.length) 0 n
abbrev qq_3_σ := LL × Int × Int
abbrev qq_3_ω := (Int)
noncomputable def qq_3_step (A : LL) (n i : Int) : Tr (qq_3_σ ⊕ qq_3_ω) := (.ite ((decide (i < (A.length : Int))) = true) (.ite ((0 : Int) ≤ i ∧ i < (A.length : Int)) (.ok (.inl (A, (IntKind.wrap .i64 ((IntKind.wrap .i64 ((16 : Int) * n)) + (nth (row A i) 0).int)), (IntKind.wrap .i64 (i + (1 : Int))))))
   .no)
  (.ok (.inr n)))
noncomputable def qq_3_st : qq_3_σ → Tr (qq_3_σ ⊕ qq_3_ω) := fun x => (qq_3_step (x.1) (x.2.1) (x.2.2))
noncomputable def qq_o3_1 (A : LL) (n i : Int) : Bool := is (i = 0 ∧ n = 0 ∧ A.length ≤ 140737488351232)
noncomputable def qq_u3_1 (A : LL) (n i : Int) : Int := (qq_R3 A n i)
noncomputable def qq_3_fin (A : LL) (n i : Int) : Told qq_3_ω := (.leaf (qq_o3_1 A n i) (qq_u3_1 A n i))
def qq_3_sl (x : qq_3_σ) : List Slot := [⟨.val false [⟨.slice 2, .sh, TC.l (x.1)⟩], ⟨0, 0⟩⟩, ⟨.val false [⟨.int .i64, .sh, TC.i (x.2.1)⟩], ⟨0, 0⟩⟩, ⟨.val false [⟨.int .i64, .sh, TC.i (x.2.2)⟩], ⟨0, 0⟩⟩]
def qq_3_out : qq_3_ω → Ex × List Slot := (fun x => (.exit 0, [Slot.none, ⟨.val false [⟨.int .i64, .sh, TC.i x⟩], ⟨0, 0⟩⟩]))
noncomputable def qq_lo3 : List Slot → Option (Told (Ex × List Slot)) := fun s => match s with
  | [⟨.val false [⟨.slice 2, .sh, TC.l A⟩], ⟨0, 0⟩⟩, ⟨.val false [⟨.int .i64, .sh, TC.i n⟩], ⟨0, 0⟩⟩, ⟨.val false [⟨.int .i64, .sh, TC.i i⟩], ⟨0, 0⟩⟩] => some (((qq_3_fin A n i)).map qq_3_out)
  | _ => .none
noncomputable def qq_lo : LoopTeller := fun r s => bif Nat.beq r 3 then qq_lo3 s else .none
theorem qq_3_r (A : LL) (n i : Int) (fuel : Nat) : rounds (rnd tab FT D7 live 99 qq_lo 0 3) leave (fuel + 1) (qq_3_sl (A, n, i)) = ((qq_3_step A n i)).run (goOn (fun s => rounds (rnd tab FT D7 live 99 qq_lo 0 3) leave fuel (qq_3_sl s)) fun w => some (qq_3_out w)) := by kernel_rfl
theorem qq_R3_eq (A : LL) : qq_R3 A 0 0 = keyL A := by
  unfold qq_R3
  refine (iter_each (g := (fun i n => IntKind.wrap .i64 ((IntKind.wrap .i64 (n * 16)) + (nth (row A (i : Int)) 0).int))) (fin := fun a => qq_e3 A a) fun j a hj => ?_)
  unfold qq_f3
  rw [Int.mul_comm 16 a]
theorem qq_3_h (A : LL) (n i : Int) (ow : qq_3_ω) : ((qq_3_fin A n i)).val = some ow → ∃ fuel, loopN qq_3_st fuel (A, n, i) = some ow := by
  refine auto_leaf (R := (qq_R3 A n i)) ?_
  intro ho
  have ho : is (i = 0 ∧ n = 0 ∧ A.length ≤ 140737488351232) = true := ho
  obtain ⟨rfl, rfl, hlen⟩ := is_iff.1 ho
  skip
  refine ⟨(A.length) + 1, ?_⟩
  refine iter_loop (step := qq_3_st) (A.length) (fun i a => (qq_f3 A (i : Int) a)) (fun a => (qq_e3 A a)) (fun i a => (A, a, (i : Int))) (fun _ _ => True) trivial (fun i a hi hI => ⟨?_, fun _ _ => trivial⟩) (fun a hI => ?_)
  · show (qq_3_step A a (i : Int)).val = _
    unfold qq_3_step qq_f3
    skip
    refine Tr.t (by simp; omega) ?_
    exact (Tr.t (by first | omega | (constructor <;> omega)) (by rw [Tr.val_ok, wrap64 (i := (i : Int) + 1) (by omega) (by omega)]; rfl))
  · show (qq_3_step A a (A.length : Int)).val = _
    refine Tr.n (by first | (simp; done) | (simp; omega) | omega) ?_
    rfl
theorem qq_is3 : LoopIs tab FT D7 live 99 qq_lo 0 3 := by
  refine loop_told (sl := qq_3_sl) (step := qq_3_st) (out := qq_3_out) (lor := qq_lo3) (fin := fun x => (qq_3_fin (x.1) (x.2.1) (x.2.2))) (fun _ => rfl) ?_ (fun x n => qq_3_r x.1 x.2.1 x.2.2 n) (fun x ow => qq_3_h x.1 x.2.1 x.2.2 ow)
  intro s t h
  unfold qq_lo3 at h
  split at h
  · cases h; exact ⟨(_, _, _), rfl, rfl⟩
  · cases h
noncomputable def qq_t (A : LL) : Tr (Int) := (.ite ((qq_o3_1 A (0 : Int) (0 : Int)) = true) (.ok (qq_u3_1 A (0 : Int) (0 : Int)))
  .no)
def qq_mk (p : Int) : Res := [(false, [⟨.int .i64, .sh, TC.i p⟩])]
noncomputable def qq_c (A : LL) : Bool := (qq_o3_1 A (0 : Int) (0 : Int))
noncomputable def qq_v (A : LL) : Int := (qq_u3_1 A (0 : Int) (0 : Int))
theorem qq_l (A : LL) : (qq_c A) = true → (qq_t A).val = some (qq_v A) := by
  intro h
  have hc0 : (qq_o3_1 A (0 : Int) (0 : Int)) = true := h
  unfold qq_t
  exact (Tr.t hc0 rfl)
noncomputable def qq_S : List Arg → Option (Bool × Res) := fun xs => match xs with
  | [(false, [(.slice 2, TC.l A)])] => some ((qq_c A), qq_mk (qq_v A))
  | _ => .none
theorem qq_e (A : LL) : runF tab FT D7 live 99 qq_lo [(false, [(.slice 2, TC.l A)])] = (qq_t A).run fun p => some (qq_mk p) := by kernel_rfl
theorem qq_s : ∀ xs r, qq_S xs = some (true, r) → runF tab FT D7 live 99 qq_lo xs = some r := by
  intro xs r h
  unfold qq_S at h
  split at h
  · simp only [Option.some.injEq, Prod.mk.injEq] at h
    obtain ⟨h1, rfl⟩ := h
    exact fun_told (qq_e _) (qq_l _) h1
  · cases h
noncomputable def D8 : Dt := also D7 99 qq_S
theorem d8 : DOk Go.Proofs.Try.prog tab D8 := d7.also mixed_ok tab_ok names_ok (fnLoops_one (by kernel_rfl) qq_is3) qq_s
theorem qq_vv (A : LL) : qq_v A = keyL A := qq_R3_eq A
abbrev qb_4_σ := LL × LL × Int
abbrev qb_4_ω := (LL)
noncomputable def qb_4_step (g X : LL) (i : Int) : Tr (qb_4_σ ⊕ qb_4_ω) := (.ite ((qo_c g) = true) (.ite ((decide (i < (qo_v g))) = true) (.ite ((qn_c g i) = true) (.ite ((qq_c (qn_v g i)) = true) (.ite (roomFor (tab 2) (X ++ [[TC.i (qq_v (qn_v g i))]]).length) (.ok (.inl (g, (X ++ [[TC.i (qq_v (qn_v g i))]]), (IntKind.wrap .i64 (i + (1 : Int))))))
      .no)
     .no)
    .no)
   (.ok (.inr X)))
  .no)
noncomputable def qb_4_st : qb_4_σ → Tr (qb_4_σ ⊕ qb_4_ω) := fun x => (qb_4_step (x.1) (x.2.1) (x.2.2))
noncomputable def qb_o4_1 (g X : LL) (i : Int) : Bool := is (X = [] ∧ i = 0 ∧ prodL g ≤ 100000 ∧ Typed tab (.slice 2) (.l g) ∧ (0 < prodL g → ∀ j : Nat, j < g.length → (nth (g.getD j []) 0).int ≠ 0))
noncomputable def qb_u4_1 (g X : LL) (i : Int) : LL := keysL g (prodL g).toNat
noncomputable def qb_4_fin (g X : LL) (i : Int) : Told qb_4_ω := (.leaf (qb_o4_1 g X i) (qb_u4_1 g X i))
def qb_4_sl (x : qb_4_σ) : List Slot := [⟨.val false [⟨.slice 2, .own true, TC.l (x.1)⟩], ⟨0, 0⟩⟩, ⟨.val false [⟨.slice 2, .own true, TC.l (x.2.1)⟩], ⟨0, 0⟩⟩, ⟨.val false [⟨.int .i64, .sh, TC.i (x.2.2)⟩], ⟨0, 0⟩⟩]
def qb_4_out : qb_4_ω → Ex × List Slot := (fun x => (.exit 0, [Slot.none, ⟨.val false [⟨.slice 2, .own true, TC.l x⟩], ⟨0, 0⟩⟩]))
noncomputable def qb_lo4 : List Slot → Option (Told (Ex × List Slot)) := fun s => match s with
  | [⟨.val false [⟨.slice 2, .own true, TC.l g⟩], ⟨0, 0⟩⟩, ⟨.val false [⟨.slice 2, .own true, TC.l X⟩], ⟨0, 0⟩⟩, ⟨.val false [⟨.int .i64, .sh, TC.i i⟩], ⟨0, 0⟩⟩] => some (((qb_4_fin g X i)).map qb_4_out)
  | _ => .none
noncomputable def qb_lo : LoopTeller := fun r s => bif Nat.beq r 4 then qb_lo4 s else .none
theorem qb_4_r (g X : LL) (i : Int) (fuel : Nat) : rounds (rnd tab FT D8 live 53 qb_lo 0 4) leave (fuel + 1) (qb_4_sl (g, X, i)) = ((qb_4_step g X i)).run (goOn (fun s => rounds (rnd tab FT D8 live 53 qb_lo 0 4) leave fuel (qb_4_sl s)) fun w => some (qb_4_out w)) := by kernel_rfl
theorem qb_4_h (g X : LL) (i : Int) (ow : qb_4_ω) : ((qb_4_fin g X i)).val = some ow → ∃ fuel, loopN qb_4_st fuel (g, X, i) = some ow := by
  intro h
  refine auto_leaf (R := keysL g (prodL g).toNat) (fun ho => ?_) h
  obtain ⟨rfl, rfl, hM, ht, hz⟩ := is_iff.1 ho
  have hlen := typed_room ht
  simp only [show (tab 2).bytes = 8 from rfl] at hlen
  have key := loopN_run (step := qb_4_st) (N := (prodL g).toNat) (fun k => (g, keysL g k, (k : Int))) (w := keysL g (prodL g).toNat) (fun k hk => ?_) ?_ (prodL g).toNat 0 (by omega)
  · exact ⟨_, Eq.trans (congrArg (loopN qb_4_st _) (by simp [keysL])) key⟩
  · have hz' := hz (by omega)
    show (qb_4_step g (keysL g k) (k : Int)).val = _
    unfold qb_4_step
    refine Tr.t (is_true ⟨rfl, rfl, ht⟩) ?_
    refine Tr.t (by rw [show qo_v g = prodL g from rfl]; simp; omega) (Tr.t (is_true ⟨ht, hz'⟩) ?_)
    rw [show qn_v g (k : Int) = coordsV g (k : Int) from rfl, qq_vv]
    refine Tr.t (is_true (by and_intros <;> first | rfl | (rw [coordsV_len]; omega) | (rw [coordsV_len]))) (Tr.t ?_ ?_)
    · unfold roomFor
      simp only [show (tab 2).bytes = 8 from rfl, List.length_append, List.length_singleton, keysL_len]
      omega
    · rw [Tr.val_ok, keysL_succ, wrap64 (i := (k : Int) + 1) (by omega) (by omega)]; rfl
  · show (qb_4_step g (keysL g (prodL g).toNat) (((prodL g).toNat : Nat) : Int)).val = _
    unfold qb_4_step
    refine Tr.t (is_true ⟨rfl, rfl, ht⟩) ?_
    refine Tr.n (by rw [show qo_v g = prodL g from rfl]; simp; omega) ?_
    rfl
theorem qb_is4 : LoopIs tab FT D8 live 53 qb_lo 0 4 := by
  refine loop_told (sl := qb_4_sl) (step := qb_4_st) (out := qb_4_out) (lor := qb_lo4) (fin := fun x => (qb_4_fin (x.1) (x.2.1) (x.2.2))) (fun _ => rfl) ?_ (fun x n => qb_4_r x.1 x.2.1 x.2.2 n) (fun x ow => qb_4_h x.1 x.2.1 x.2.2 ow)
  intro s t h
  unfold qb_lo4 at h
  split at h
  · cases h; exact ⟨(_, _, _), rfl, rfl⟩
  · cases h
noncomputable def qb_t (D C : LL) : Tr (LL) := (.ite ((qp_c D C) = true) (.ite ((qb_o4_1 (qp_v D C) [] (0 : Int)) = true) (.ok (qb_u4_1 (qp_v D C) [] (0 : Int)))
   .no)
  .no)
def qb_mk (p : LL) : Res := [(false, [⟨.slice 2, .own true, TC.l p⟩])]
noncomputable def qb_c (D C : LL) : Bool := ((qp_c D C) && ((qb_o4_1 (qp_v D C) [] (0 : Int)) && true))
noncomputable def qb_v (D C : LL) : LL := (qb_u4_1 (qp_v D C) [] (0 : Int))
theorem qb_l (D C : LL) : (qb_c D C) = true → (qb_t D C).val = some (qb_v D C) := by
  unfold qb_t qb_v qb_c
  exact fun h => (Tr.gb h fun h => (Tr.gb h fun h => rfl))
noncomputable def qb_S : List Arg → Option (Bool × Res) := fun xs => match xs with
  | [(false, [(.slice 2, TC.l D)]), (false, [(.slice 2, TC.l C)])] => some ((qb_c D C), qb_mk (qb_v D C))
  | _ => .none
theorem qb_e (D C : LL) : runF tab FT D8 live 53 qb_lo [(false, [(.slice 2, TC.l D)]), (false, [(.slice 2, TC.l C)])] = (qb_t D C).run fun p => some (qb_mk p) := by kernel_rfl
theorem qb_s : ∀ xs r, qb_S xs = some (true, r) → runF tab FT D8 live 53 qb_lo xs = some r := by
  intro xs r h
  unfold qb_S at h
  split at h
  · simp only [Option.some.injEq, Prod.mk.injEq] at h
    obtain ⟨h1, rfl⟩ := h
    exact fun_told (qb_e _ _) (qb_l _ _) h1
  · cases h
noncomputable def D9 : Dt := also D8 53 qb_S
theorem d9 : DOk Go.Proofs.Try.prog tab D9 := d8.also mixed_ok tab_ok names_ok (fnLoops_one (by kernel_rfl) qb_is4) qb_s
theorem qb_cc {D : LL} {C : LL} (hD : Typed tab (.slice 2) (.l D)) (hk : chunkOk D C = true) : (qb_c D C) = true := by
  unfold qb_c
  refine andT (by have hp := chunkOk_parts hk; exact is_true (p := Typed tab (.slice 2) (.l D) ∧ D.length = C.length ∧ C.all (inR 1 40) = true) ⟨hD, hp.1, hp.2.1⟩) ?_
  refine andT (by exact is_true ⟨rfl, rfl, keys_num hk, gridL_ty rfl hD, fun h => prod_pos h⟩) ?_
  rfl
theorem qb_vv (D C : LL) : qb_v D C = keysL (gridL D C) (prodL (gridL D C)).toNat := rfl
noncomputable def qd_t (D C : LL) : Tr (LL) := (.ite ((qa_c D C) = true) (.ite ((!(qa_v D C)) = true) (.ok ([]))
   (.ite ((qb_c D C) = true) (.ok (qb_v D C))
    .no))
  .no)
def qd_mk (p : LL) : Res := [(false, [⟨.slice 2, .own true, TC.l p⟩])]
noncomputable def qd_c (D C : LL) : Bool := ((qa_c D C) && (bif (!(qa_v D C)) then true else ((qb_c D C) && true)))
noncomputable def qd_v (D C : LL) : LL := (bif (!(qa_v D C)) then [] else (qb_v D C))
theorem qd_l (D C : LL) : (qd_c D C) = true → (qd_t D C).val = some (qd_v D C) := by
  unfold qd_t qd_v qd_c
  exact fun h => (Tr.gb h fun h => (Tr.ss h (fun h => rfl) (fun h => (Tr.gb h fun h => rfl))))
noncomputable def qd_S : List Arg → Option (Bool × Res) := fun xs => match xs with
  | [(false, [(.slice 2, TC.l D)]), (false, [(.slice 2, TC.l C)])] => some ((qd_c D C), qd_mk (qd_v D C))
  | _ => .none
theorem qd_e (D C : LL) : runF tab FT D9 live 12 noLoops [(false, [(.slice 2, TC.l D)]), (false, [(.slice 2, TC.l C)])] = (qd_t D C).run fun p => some (qd_mk p) := by kernel_rfl
theorem qd_s : ∀ xs r, qd_S xs = some (true, r) → runF tab FT D9 live 12 noLoops xs = some r := by
  intro xs r h
  unfold qd_S at h
  split at h
  · simp only [Option.some.injEq, Prod.mk.injEq] at h
    obtain ⟨h1, rfl⟩ := h
    exact fun_told (qd_e _ _) (qd_l _ _) h1
  · cases h
noncomputable def D10 : Dt := also D9 12 qd_S
theorem d10 : DOk Go.Proofs.Try.prog tab D10 := d9.also mixed_ok tab_ok names_ok noLoops_ok qd_s
theorem qd_cc {D : LL} {C : LL} (hD : Typed tab (.slice 2) (.l D)) (hC : Typed tab (.slice 2) (.l C)) : (qd_c D C) = true := by
  unfold qd_c
  refine andT (by first | (apply qa_cc <;> assumption) | (first | (apply is_true; and_intros <;> (first | rfl | assumption | (apply qa_cc <;> assumption) | (apply qb_cc <;> assumption) | (first | (apply is_true; and_intros <;> (first | rfl | assumption | (apply qa_cc <;> assumption) | (apply qb_cc <;> assumption))) | (apply qa_cc <;> assumption) | (apply qb_cc <;> assumption)))) | (apply qa_cc <;> assumption) | (apply qb_cc <;> assumption))) ?_
  refine bifT (fun b1 => ?_) (fun b1 => ?_)
  · skip
    rfl
  · skip
    refine andT (by exact qb_cc hD ((qa_vv _ _).symm.trans (notF b1))) ?_
    rfl
theorem qd_vv (D C : LL) : qd_v D C = keysV D C := by
  unfold qd_v keysV
  rw [qa_vv]
  cases chunkOk D C <;> rfl
noncomputable def qx_t (a0 a1 a2 : Int) : Tr (Bool) := (.ite ((decide (a0 ≥ a1)) = true) (.ok (decide (a0 ≤ a2)))
  (.ok false))
def qx_mk (p : Bool) : Res := [(false, [⟨.bool, .sh, TC.b p⟩])]
noncomputable def qx_c (a0 a1 a2 : Int) : Bool := true
noncomputable def qx_v (a0 a1 a2 : Int) : Bool := (bif (decide (a0 ≥ a1)) then (decide (a0 ≤ a2)) else false)
theorem qx_l (a0 a1 a2 : Int) : (qx_c a0 a1 a2) = true → (qx_t a0 a1 a2).val = some (qx_v a0 a1 a2) := by
  intro h
  skip
  unfold qx_t qx_v
  exact (Tr.s rfl rfl)
noncomputable def qx_S : List Arg → Option (Bool × Res) := fun xs => match xs with
  | [(false, [(.int .i64, TC.i a0)]), (false, [(.int .i64, TC.i a1)]), (false, [(.int .i64, TC.i a2)])] => some (true, qx_mk (qx_v a0 a1 a2))
  | _ => .none
theorem qx_e (a0 a1 a2 : Int) : runF tab FT D10 live 128 noLoops [(false, [(.int .i64, TC.i a0)]), (false, [(.int .i64, TC.i a1)]), (false, [(.int .i64, TC.i a2)])] = (qx_t a0 a1 a2).run fun p => some (qx_mk p) := by kernel_rfl
theorem qx_s : ∀ xs r, qx_S xs = some (true, r) → runF tab FT D10 live 128 noLoops xs = some r := by
  intro xs r h
  unfold qx_S at h
  split at h
  · simp only [Option.some.injEq, Prod.mk.injEq] at h
    obtain ⟨h1, rfl⟩ := h
    exact fun_told (qx_e _ _ _) (qx_l _ _ _) rfl
  · cases h
noncomputable def D11 : Dt := also D10 128 qx_S
theorem d11 : DOk Go.Proofs.Try.prog tab D11 := d10.also mixed_ok tab_ok names_ok noLoops_ok qx_s
noncomputable def qw_t (a0 : Int) (a1 a2 : List TC) : Tr (Bool) := .ok (!(qx_v a0 ((nth a1 0).int) ((nth a2 0).int)))
def qw_mk (p : Bool) : Res := [(false, [⟨.bool, .sh, TC.b p⟩])]
noncomputable def qw_c (a0 : Int) (a1 a2 : List TC) : Bool := true
noncomputable def qw_v (a0 : Int) (a1 a2 : List TC) : Bool := (!(qx_v a0 ((nth a1 0).int) ((nth a2 0).int)))
theorem qw_l (a0 : Int) (a1 a2 : List TC) : (qw_c a0 a1 a2) = true → (qw_t a0 a1 a2).val = some (qw_v a0 a1 a2) := by
  intro h
  skip
  unfold qw_t qw_v
  exact rfl
noncomputable def qw_S : List Arg → Option (Bool × Res) := fun xs => match xs with
  | [(false, [(.int .i64, TC.i a0)]), (false, [(.ptr 2, TC.p a1)]), (false, [(.ptr 2, TC.p a2)])] => some (true, qw_mk (qw_v a0 a1 a2))
  | _ => .none
theorem qw_e (a0 : Int) (a1 a2 : List TC) : runF tab FT D11 live 127 noLoops [(false, [(.int .i64, TC.i a0)]), (false, [(.ptr 2, TC.p a1)]), (false, [(.ptr 2, TC.p a2)])] = (qw_t a0 a1 a2).run fun p => some (qw_mk p) := by kernel_rfl
theorem qw_s : ∀ xs r, qw_S xs = some (true, r) → runF tab FT D11 live 127 noLoops xs = some r := by
  intro xs r h
  unfold qw_S at h
  split at h
  · simp only [Option.some.injEq, Prod.mk.injEq] at h
    obtain ⟨h1, rfl⟩ := h
    exact fun_told (qw_e _ _ _) (qw_l _ _ _) rfl
  · cases h
noncomputable def D12 : Dt := also D11 127 qw_S
theorem d12 : DOk Go.Proofs.Try.prog tab D12 := d11.also mixed_ok tab_ok names_ok noLoops_ok qw_s
abbrev qe_2_σ := LL × List TC × List TC × Int × Int
abbrev qe_2_ω := (Int) ⊕ (Unit)
noncomputable def qe_2_step (A : LL) (lw hg : List TC) (m i : Int) : Tr (qe_2_σ ⊕ qe_2_ω) := (.ite ((decide (i < m)) = true) (.ite ((0 : Int) ≤ i ∧ i < (A.length : Int)) (.ite ((!(qx_v ((nth (row A i) 0).int) ((nth lw 0).int) ((nth hg 0).int))) = true) (.ok (.inr (.inl i)))
    (.ok (.inl (A, lw, hg, m, (IntKind.wrap .i64 (i + (1 : Int)))))))
   .no)
  (.ok (.inr (.inr ()))))
noncomputable def qe_2_st : qe_2_σ → Tr (qe_2_σ ⊕ qe_2_ω) := fun x => (qe_2_step (x.1) (x.2.1) (x.2.2.1) (x.2.2.2.1) (x.2.2.2.2))
noncomputable def qe_k2_1 (A : LL) (lw hg : List TC) (m i : Int) : Bool := A.all (inR (nth lw 0).int (nth hg 0).int)
noncomputable def qe_o2_2 (A : LL) (lw hg : List TC) (m i : Int) : Bool := is (i = 0 ∧ Typed tab (.slice 2) (.l A) ∧ m = (A.length : Int))
noncomputable def qe_o2_3 (A : LL) (lw hg : List TC) (m i : Int) : Bool := is (i = 0 ∧ Typed tab (.slice 2) (.l A) ∧ m = (A.length : Int))
noncomputable def qe_u2_3 (A : LL) (lw hg : List TC) (m i : Int) : Int := (Int.ofNat (A.findIdx fun x => !(inR (nth lw 0).int (nth hg 0).int) x))
noncomputable def qe_2_fin (A : LL) (lw hg : List TC) (m i : Int) : Told qe_2_ω := (.br (qe_k2_1 A lw hg m i) (.leaf (qe_o2_2 A lw hg m i) (.inr ())) (.leaf (qe_o2_3 A lw hg m i) (.inl (qe_u2_3 A lw hg m i))))
def qe_2_sl (x : qe_2_σ) : List Slot := [⟨.val false [⟨.slice 2, .sh, TC.l (x.1)⟩], ⟨0, 0⟩⟩, ⟨.val false [⟨.func, .sh, TC.f 127 [(2, x.2.1), (2, x.2.2.1)]⟩], ⟨0, 0⟩⟩, ⟨.val false [⟨.int .i64, .sh, TC.i (x.2.2.2.1)⟩], ⟨0, 0⟩⟩, ⟨.val false [⟨.int .i64, .sh, TC.i (x.2.2.2.2)⟩], ⟨0, 0⟩⟩]
def qe_2_out : qe_2_ω → Ex × List Slot := (Sum.elim (fun x => (.ret, [⟨.val false [⟨.int .i64, .sh, TC.i x⟩], ⟨0, 0⟩⟩])) (fun x => (.exit 0, [Slot.none])))
noncomputable def qe_lo2 : List Slot → Option (Told (Ex × List Slot)) := fun s => match s with
  | [⟨.val false [⟨.slice 2, .sh, TC.l A⟩], ⟨0, 0⟩⟩, ⟨.val false [⟨.func, .sh, TC.f 127 [(2, lw), (2, hg)]⟩], ⟨0, 0⟩⟩, ⟨.val false [⟨.int .i64, .sh, TC.i m⟩], ⟨0, 0⟩⟩, ⟨.val false [⟨.int .i64, .sh, TC.i i⟩], ⟨0, 0⟩⟩] => some (((qe_2_fin A lw hg m i)).map qe_2_out)
  | _ => .none
noncomputable def qe_lo : LoopTeller := fun r s => bif Nat.beq r 2 then qe_lo2 s else .none
theorem qe_2_r (A : LL) (lw hg : List TC) (m i : Int) (fuel : Nat) : rounds (rnd tab FT D12 live 138 qe_lo 0 2) leave (fuel + 1) (qe_2_sl (A, lw, hg, m, i)) = ((qe_2_step A lw hg m i)).run (goOn (fun s => rounds (rnd tab FT D12 live 138 qe_lo 0 2) leave fuel (qe_2_sl s)) fun w => some (qe_2_out w)) := by kernel_rfl
theorem qe_2_h (A : LL) (lw hg : List TC) (m i : Int) (ow : qe_2_ω) : ((qe_2_fin A lw hg m i)).val = some ow → ∃ fuel, loopN qe_2_st fuel (A, lw, hg, m, i) = some ow := by
  intro h
  have key : Typed tab (.slice 2) (.l A) → loopN qe_2_st (A.length + 1) (A, lw, hg, (A.length : Int), (0 : Int)) = some (if A.all (inR (nth lw 0).int (nth hg 0).int) = true then (.inr ()) else (.inl (Int.ofNat (A.findIdx fun x => !(inR (nth lw 0).int (nth hg 0).int) x)))) := by
    intro ht
    have hlen : A.length ≤ 140737488351232 := by have := typed_room ht; simp only [show (tab 2).bytes = 8 from rfl] at this; omega
    have key := loopN_scan (step := qe_2_st) A [] (inR (nth lw 0).int (nth hg 0).int) (fun a _ => a) (fun i a => (A, lw, hg, (A.length : Int), (i : Int))) (fun a => (.inr ())) (fun i a => (.inl (i : Int))) (fun i a hi => ?_) (fun a => ?_) A.length 0 () (by omega)
    · first | (rw [Nat.zero_add] at key; exact key) | exact key
    · skip
      show (qe_2_step A lw hg (A.length : Int) (i : Int)).val = _
      unfold qe_2_step
      refine Tr.t (by simp; omega) ?_
      skip
      refine Tr.t (by first | omega | (constructor <;> omega)) ?_
      refine Tr.b (P := (inR (nth lw 0).int (nth hg 0).int) (A.getD i [])) (fun hP => ?_) (fun _ => rfl)
      rw [Tr.val_ok, wrap64 (i := (i : Int) + 1) (by omega) (by omega)]; rfl
    · show (qe_2_step A lw hg (A.length : Int) (A.length : Int)).val = _
      refine Tr.n (by simp) ?_
      rfl
  simp only [qe_2_fin, Told.val] at h
  cases hk : A.all (inR (nth lw 0).int (nth hg 0).int) with
  | true =>
    rw [if_pos (show qe_k2_1 A lw hg m i = true from hk)] at h
    split at h
    · rename_i ho
      obtain ⟨rfl, ht, rfl⟩ := is_iff.1 ho
      cases h
      refine ⟨_, (key ht).trans ?_⟩
      rw [hk]; rfl
    · cases h
  | false =>
    rw [if_neg (show ¬qe_k2_1 A lw hg m i = true from by rw [show qe_k2_1 A lw hg m i = (A.all (inR (nth lw 0).int (nth hg 0).int)) from rfl, hk]; simp)] at h
    split at h
    · rename_i ho
      obtain ⟨rfl, ht, rfl⟩ := is_iff.1 ho
      cases h
      refine ⟨_, (key ht).trans ?_⟩
      rw [hk]; rfl
    · cases h
theorem qe_is2 : LoopIs tab FT D12 live 138 qe_lo 0 2 := by
  refine loop_told (sl := qe_2_sl) (step := qe_2_st) (out := qe_2_out) (lor := qe_lo2) (fin := fun x => (qe_2_fin (x.1) (x.2.1) (x.2.2.1) (x.2.2.2.1) (x.2.2.2.2))) (fun _ => rfl) ?_ (fun x n => qe_2_r x.1 x.2.1 x.2.2.1 x.2.2.2.1 x.2.2.2.2 n) (fun x ow => qe_2_h x.1 x.2.1 x.2.2.1 x.2.2.2.1 x.2.2.2.2 ow)
  intro s t h
  unfold qe_lo2 at h
  split at h
  · cases h; exact ⟨(_, _, _, _, _), rfl, rfl⟩
  · cases h
noncomputable def qe_t (A : LL) (lw hg : List TC) : Tr (Int) := (.ite ((qe_k2_1 A lw hg (A.length : Int) (0 : Int)) = true) (.ite ((qe_o2_2 A lw hg (A.length : Int) (0 : Int)) = true) (.ok (-1 : Int))
   .no)
  (.ite ((qe_o2_3 A lw hg (A.length : Int) (0 : Int)) = true) (.ok (qe_u2_3 A lw hg (A.length : Int) (0 : Int)))
   .no))
def qe_mk (p : Int) : Res := [(false, [⟨.int .i64, .sh, TC.i p⟩])]
noncomputable def qe_c (A : LL) (lw hg : List TC) : Bool := is (Typed tab (.slice 2) (.l A))
noncomputable def qe_v (A : LL) (lw hg : List TC) : Int := if (A.all (inR (nth lw 0).int (nth hg 0).int)) = true then -1 else (Int.ofNat (A.findIdx fun x => !(inR (nth lw 0).int (nth hg 0).int) x))
theorem qe_l (A : LL) (lw hg : List TC) : (qe_c A lw hg) = true → (qe_t A lw hg).val = some (qe_v A lw hg) := by
  intro h
  have ht := is_iff.1 h
  unfold qe_t
  cases hk : A.all (inR (nth lw 0).int (nth hg 0).int) with
  | true =>
    refine Tr.t (show A.all (inR (nth lw 0).int (nth hg 0).int) = true from hk) ?_
    refine Tr.t (by first | (apply is_true; and_intros <;> (first | rfl | assumption | (apply qa_cc <;> assumption) | (apply qb_cc <;> assumption) | (apply qd_cc <;> assumption) | (first | (apply is_true; and_intros <;> (first | rfl | assumption | (apply qa_cc <;> assumption) | (apply qb_cc <;> assumption) | (apply qd_cc <;> assumption) | (first | (apply is_true; and_intros <;> (first | rfl | assumption | (apply qa_cc <;> assumption) | (apply qb_cc <;> assumption) | (apply qd_cc <;> assumption) | (first | (apply is_true; and_intros <;> (first | rfl | assumption | (apply qa_cc <;> assumption) | (apply qb_cc <;> assumption) | (apply qd_cc <;> assumption))) | (apply qa_cc <;> assumption) | (apply qb_cc <;> assumption) | (apply qd_cc <;> assumption)))) | (apply qa_cc <;> assumption) | (apply qb_cc <;> assumption) | (apply qd_cc <;> assumption)))) | (apply qa_cc <;> assumption) | (apply qb_cc <;> assumption) | (apply qd_cc <;> assumption)))) | (apply qa_cc <;> assumption) | (apply qb_cc <;> assumption) | (apply qd_cc <;> assumption)) ?_
    show _ = some (qe_v A lw hg); unfold qe_v; rw [if_pos hk]; rfl
  | false =>
    refine Tr.n (show ¬A.all (inR (nth lw 0).int (nth hg 0).int) = true from by rw [hk]; simp) ?_
    refine Tr.t (by first | (apply is_true; and_intros <;> (first | rfl | assumption | (apply qa_cc <;> assumption) | (apply qb_cc <;> assumption) | (apply qd_cc <;> assumption) | (first | (apply is_true; and_intros <;> (first | rfl | assumption | (apply qa_cc <;> assumption) | (apply qb_cc <;> assumption) | (apply qd_cc <;> assumption) | (first | (apply is_true; and_intros <;> (first | rfl | assumption | (apply qa_cc <;> assumption) | (apply qb_cc <;> assumption) | (apply qd_cc <;> assumption) | (first | (apply is_true; and_intros <;> (first | rfl | assumption | (apply qa_cc <;> assumption) | (apply qb_cc <;> assumption) | (apply qd_cc <;> assumption))) | (apply qa_cc <;> assumption) | (apply qb_cc <;> assumption) | (apply qd_cc <;> assumption)))) | (apply qa_cc <;> assumption) | (apply qb_cc <;> assumption) | (apply qd_cc <;> assumption)))) | (apply qa_cc <;> assumption) | (apply qb_cc <;> assumption) | (apply qd_cc <;> assumption)))) | (apply qa_cc <;> assumption) | (apply qb_cc <;> assumption) | (apply qd_cc <;> assumption)) ?_
    show _ = some (qe_v A lw hg); unfold qe_v; rw [if_neg (by rw [hk]; simp)]; rfl
noncomputable def qe_S : List Arg → Option (Bool × Res) := fun xs => match xs with
  | [(false, [(.slice 2, TC.l A)]), (false, [(.func, TC.f 127 [(2, lw), (2, hg)])])] => some ((qe_c A lw hg), qe_mk (qe_v A lw hg))
  | _ => .none
theorem qe_e (A : LL) (lw hg : List TC) : runF tab FT D12 live 138 qe_lo [(false, [(.slice 2, TC.l A)]), (false, [(.func, TC.f 127 [(2, lw), (2, hg)])])] = (qe_t A lw hg).run fun p => some (qe_mk p) := by kernel_rfl
theorem qe_s : ∀ xs r, qe_S xs = some (true, r) → runF tab FT D12 live 138 qe_lo xs = some r := by
  intro xs r h
  unfold qe_S at h
  split at h
  · simp only [Option.some.injEq, Prod.mk.injEq] at h
    obtain ⟨h1, rfl⟩ := h
    exact fun_told (qe_e _ _ _) (qe_l _ _ _) h1
  · cases h
noncomputable def D13 : Dt := also D12 138 qe_S
theorem d13 : DOk Go.Proofs.Try.prog tab D13 := d12.also mixed_ok tab_ok names_ok (fnLoops_one (by kernel_rfl) qe_is2) qe_s
noncomputable def qt_t (A : LL) (lw hg : List TC) : Tr (Bool) := (.ite ((qe_c A lw hg) = true) (.ok (decide ((qe_v A lw hg) ≥ (0 : Int))))
  .no)
def qt_mk (p : Bool) : Res := [(false, [⟨.bool, .sh, TC.b p⟩])]
noncomputable def qt_c (A : LL) (lw hg : List TC) : Bool := is (Typed tab (.slice 2) (.l A))
noncomputable def qt_v (A : LL) (lw hg : List TC) : Bool := !(A.all (inR (nth lw 0).int (nth hg 0).int))
theorem qt_l (A : LL) (lw hg : List TC) : (qt_c A lw hg) = true → (qt_t A lw hg).val = some (qt_v A lw hg) := by
  intro h
  have ht := is_iff.1 h
  unfold qt_t
  refine Tr.t (by first | (apply is_true; and_intros <;> (first | rfl | assumption | (apply qa_cc <;> assumption) | (apply qb_cc <;> assumption) | (apply qd_cc <;> assumption) | (first | (apply is_true; and_intros <;> (first | rfl | assumption | (apply qa_cc <;> assumption) | (apply qb_cc <;> assumption) | (apply qd_cc <;> assumption) | (first | (apply is_true; and_intros <;> (first | rfl | assumption | (apply qa_cc <;> assumption) | (apply qb_cc <;> assumption) | (apply qd_cc <;> assumption) | (first | (apply is_true; and_intros <;> (first | rfl | assumption | (apply qa_cc <;> assumption) | (apply qb_cc <;> assumption) | (apply qd_cc <;> assumption))) | (apply qa_cc <;> assumption) | (apply qb_cc <;> assumption) | (apply qd_cc <;> assumption)))) | (apply qa_cc <;> assumption) | (apply qb_cc <;> assumption) | (apply qd_cc <;> assumption)))) | (apply qa_cc <;> assumption) | (apply qb_cc <;> assumption) | (apply qd_cc <;> assumption)))) | (apply qa_cc <;> assumption) | (apply qb_cc <;> assumption) | (apply qd_cc <;> assumption)) ?_
  show some (decide (qe_v A lw hg ≥ 0)) = some (!(A.all (inR (nth lw 0).int (nth hg 0).int)))
  unfold qe_v
  cases hk : A.all (inR (nth lw 0).int (nth hg 0).int) <;> simp
noncomputable def qt_S : List Arg → Option (Bool × Res) := fun xs => match xs with
  | [(false, [(.slice 2, TC.l A)]), (false, [(.func, TC.f 127 [(2, lw), (2, hg)])])] => some ((qt_c A lw hg), qt_mk (qt_v A lw hg))
  | _ => .none
theorem qt_e (A : LL) (lw hg : List TC) : runF tab FT D13 live 126 noLoops [(false, [(.slice 2, TC.l A)]), (false, [(.func, TC.f 127 [(2, lw), (2, hg)])])] = (qt_t A lw hg).run fun p => some (qt_mk p) := by kernel_rfl
theorem qt_s : ∀ xs r, qt_S xs = some (true, r) → runF tab FT D13 live 126 noLoops xs = some r := by
  intro xs r h
  unfold qt_S at h
  split at h
  · simp only [Option.some.injEq, Prod.mk.injEq] at h
    obtain ⟨h1, rfl⟩ := h
    exact fun_told (qt_e _ _ _) (qt_l _ _ _) h1
  · cases h
noncomputable def D14 : Dt := also D13 126 qt_S
theorem d14 : DOk Go.Proofs.Try.prog tab D14 := d13.also mixed_ok tab_ok names_ok noLoops_ok qt_s
noncomputable def qu_t (a0 : LL) (a1 a2 : Int) : Tr (Bool) := (.ite ((qt_c a0 [TC.i a1] [TC.i a2]) = true) (.ok (!(qt_v a0 [TC.i a1] [TC.i a2])))
  .no)
def qu_mk (p : Bool) : Res := [(false, [⟨.bool, .sh, TC.b p⟩])]
noncomputable def qu_c (a0 : LL) (a1 a2 : Int) : Bool := (qt_c a0 [TC.i a1] [TC.i a2])
noncomputable def qu_v (a0 : LL) (a1 a2 : Int) : Bool := (!(qt_v a0 [TC.i a1] [TC.i a2]))
theorem qu_l (a0 : LL) (a1 a2 : Int) : (qu_c a0 a1 a2) = true → (qu_t a0 a1 a2).val = some (qu_v a0 a1 a2) := by
  intro h
  have hc0 : (qt_c a0 [TC.i a1] [TC.i a2]) = true := h
  unfold qu_t
  exact (Tr.t hc0 rfl)
noncomputable def qu_S : List Arg → Option (Bool × Res) := fun xs => match xs with
  | [(false, [(.slice 2, TC.l a0)]), (false, [(.int .i64, TC.i a1)]), (false, [(.int .i64, TC.i a2)])] => some ((qu_c a0 a1 a2), qu_mk (qu_v a0 a1 a2))
  | _ => .none
theorem qu_e (a0 : LL) (a1 a2 : Int) : runF tab FT D14 live 81 noLoops [(false, [(.slice 2, TC.l a0)]), (false, [(.int .i64, TC.i a1)]), (false, [(.int .i64, TC.i a2)])] = (qu_t a0 a1 a2).run fun p => some (qu_mk p) := by kernel_rfl
theorem qu_s : ∀ xs r, qu_S xs = some (true, r) → runF tab FT D14 live 81 noLoops xs = some r := by
  intro xs r h
  unfold qu_S at h
  split at h
  · simp only [Option.some.injEq, Prod.mk.injEq] at h
    obtain ⟨h1, rfl⟩ := h
    exact fun_told (qu_e _ _ _) (qu_l _ _ _) h1
  · cases h
noncomputable def D15 : Dt := also D14 81 qu_S
theorem d15 : DOk Go.Proofs.Try.prog tab D15 := d14.also mixed_ok tab_ok names_ok noLoops_ok qu_s
abbrev qm_3_σ := Int × LL × Int × Int
abbrev qm_3_ω := (Int)
noncomputable def qm_3_step (n : Int) (A : LL) (m i : Int) : Tr (qm_3_σ ⊕ qm_3_ω) := (.ite ((decide (i < m)) = true) (.ite ((0 : Int) ≤ i ∧ i < (A.length : Int)) (.ok (.inl ((IntKind.wrap .i64 (n * (nth (row A i) 0).int)), A, m, (IntKind.wrap .i64 (i + (1 : Int))))))
   .no)
  (.ok (.inr n)))
noncomputable def qm_3_st : qm_3_σ → Tr (qm_3_σ ⊕ qm_3_ω) := fun x => (qm_3_step (x.1) (x.2.1) (x.2.2.1) (x.2.2.2))
noncomputable def qm_o3_1 (n : Int) (A : LL) (m i : Int) : Bool := is (i = 0 ∧ n = 1 ∧ Typed tab (.slice 2) (.l A) ∧ m = (A.length : Int))
noncomputable def qm_u3_1 (n : Int) (A : LL) (m i : Int) : Int := (A.foldl mulR (1 : Int))
noncomputable def qm_3_fin (n : Int) (A : LL) (m i : Int) : Told qm_3_ω := (.leaf (qm_o3_1 n A m i) (qm_u3_1 n A m i))
def qm_3_sl (x : qm_3_σ) : List Slot := [⟨.val false [⟨.int .i64, .sh, TC.i (x.1)⟩], ⟨0, 0⟩⟩, ⟨.val false [⟨.slice 2, .sh, TC.l (x.2.1)⟩], ⟨0, 0⟩⟩, ⟨.val false [⟨.int .i64, .sh, TC.i (x.2.2.1)⟩], ⟨0, 0⟩⟩, ⟨.val false [⟨.int .i64, .sh, TC.i (x.2.2.2)⟩], ⟨0, 0⟩⟩]
def qm_3_out : qm_3_ω → Ex × List Slot := (fun x => (.exit 0, [Slot.none, ⟨.val false [⟨.int .i64, .sh, TC.i x⟩], ⟨0, 0⟩⟩]))
noncomputable def qm_lo3 : List Slot → Option (Told (Ex × List Slot)) := fun s => match s with
  | [⟨.val false [⟨.int .i64, .sh, TC.i n⟩], ⟨0, 0⟩⟩, ⟨.val false [⟨.slice 2, .sh, TC.l A⟩], ⟨0, 0⟩⟩, ⟨.val false [⟨.int .i64, .sh, TC.i m⟩], ⟨0, 0⟩⟩, ⟨.val false [⟨.int .i64, .sh, TC.i i⟩], ⟨0, 0⟩⟩] => some (((qm_3_fin n A m i)).map qm_3_out)
  | _ => .none
noncomputable def qm_lo : LoopTeller := fun r s => bif Nat.beq r 3 then qm_lo3 s else .none
theorem qm_3_r (n : Int) (A : LL) (m i : Int) (fuel : Nat) : rounds (rnd tab FT D15 live 82 qm_lo 0 3) leave (fuel + 1) (qm_3_sl (n, A, m, i)) = ((qm_3_step n A m i)).run (goOn (fun s => rounds (rnd tab FT D15 live 82 qm_lo 0 3) leave fuel (qm_3_sl s)) fun w => some (qm_3_out w)) := by kernel_rfl
theorem qm_3_h (n : Int) (A : LL) (m i : Int) (ow : qm_3_ω) : ((qm_3_fin n A m i)).val = some ow → ∃ fuel, loopN qm_3_st fuel (n, A, m, i) = some ow := by
  intro h
  have key : Typed tab (.slice 2) (.l A) → loopN qm_3_st (A.length + 1) ((1 : Int), A, (A.length : Int), (0 : Int)) = some ((A.foldl mulR (1 : Int))) := by
    intro ht
    have hlen : A.length ≤ 140737488351232 := by have := typed_room ht; simp only [show (tab 2).bytes = 8 from rfl] at this; omega
    have key := loopN_scan (step := qm_3_st) A [] (fun _ => true) mulR (fun i a => (a, A, (A.length : Int), (i : Int))) (fun a => a) (fun i a => a) (fun i a hi => ?_) (fun a => ?_) A.length 0 (1 : Int) (by omega)
    · first | (rw [Nat.zero_add] at key; exact key) | exact key | (simpa using key)
    · skip
      show (qm_3_step a A (A.length : Int) (i : Int)).val = _
      unfold qm_3_step
      refine Tr.t (by simp; omega) ?_
      show _ = some _
      refine Tr.t (by first | omega | (constructor <;> omega)) ?_
      rw [Tr.val_ok, wrap64 (i := (i : Int) + 1) (by omega) (by omega)]; rfl
    · show (qm_3_step a A (A.length : Int) (A.length : Int)).val = _
      refine Tr.n (by simp) ?_
      rfl
  simp only [qm_3_fin, Told.val] at h
  split at h
  · rename_i ho
    obtain ⟨rfl, rfl, ht, rfl⟩ := is_iff.1 ho
    cases h
    exact ⟨_, key ht⟩
  · cases h
theorem qm_is3 : LoopIs tab FT D15 live 82 qm_lo 0 3 := by
  refine loop_told (sl := qm_3_sl) (step := qm_3_st) (out := qm_3_out) (lor := qm_lo3) (fin := fun x => (qm_3_fin (x.1) (x.2.1) (x.2.2.1) (x.2.2.2))) (fun _ => rfl) ?_ (fun x n => qm_3_r x.1 x.2.1 x.2.2.1 x.2.2.2 n) (fun x ow => qm_3_h x.1 x.2.1 x.2.2.1 x.2.2.2 ow)
  intro s t h
  unfold qm_lo3 at h
  split at h
  · cases h; exact ⟨(_, _, _, _), rfl, rfl⟩
  · cases h
noncomputable def qm_t (A : LL) : Tr (Int) := (.ite ((qm_o3_1 (1 : Int) A (A.length : Int) (0 : Int)) = true) (.ok (qm_u3_1 (1 : Int) A (A.length : Int) (0 : Int)))
  .no)
def qm_mk (p : Int) : Res := [(false, [⟨.int .i64, .sh, TC.i p⟩])]
noncomputable def qm_c (A : LL) : Bool := (qm_o3_1 (1 : Int) A (A.length : Int) (0 : Int))
noncomputable def qm_v (A : LL) : Int := (qm_u3_1 (1 : Int) A (A.length : Int) (0 : Int))
theorem qm_l (A : LL) : (qm_c A) = true → (qm_t A).val = some (qm_v A) := by
  intro h
  have hc0 : (qm_o3_1 (1 : Int) A (A.length : Int) (0 : Int)) = true := h
  unfold qm_t
  exact (Tr.t hc0 rfl)
noncomputable def qm_S : List Arg → Option (Bool × Res) := fun xs => match xs with
  | [(false, [(.slice 2, TC.l A)])] => some ((qm_c A), qm_mk (qm_v A))
  | _ => .none
theorem qm_e (A : LL) : runF tab FT D15 live 82 qm_lo [(false, [(.slice 2, TC.l A)])] = (qm_t A).run fun p => some (qm_mk p) := by kernel_rfl
theorem qm_s : ∀ xs r, qm_S xs = some (true, r) → runF tab FT D15 live 82 qm_lo xs = some r := by
  intro xs r h
  unfold qm_S at h
  split at h
  · simp only [Option.some.injEq, Prod.mk.injEq] at h
    obtain ⟨h1, rfl⟩ := h
    exact fun_told (qm_e _) (qm_l _) h1
  · cases h
noncomputable def D16 : Dt := also D15 82 qm_S
theorem d16 : DOk Go.Proofs.Try.prog tab D16 := d15.also mixed_ok tab_ok names_ok (fnLoops_one (by kernel_rfl) qm_is3) qm_s
noncomputable def qv_t (A : LL) : Tr (Bool) := (.ite ((decide ((A.length : Int) ≤ (3 : Int))) = true) (.ite ((qu_c A (0 : Int) (40 : Int)) = true) (.ite ((qu_v A (0 : Int) (40 : Int)) = true) (.ite ((qm_c A) = true) (.ok (decide ((qm_v A) ≤ (600 : Int))))
     .no)
    (.ok false))
   .no)
  (.ok false))
def qv_mk (p : Bool) : Res := [(false, [⟨.bool, .sh, TC.b p⟩])]
noncomputable def qv_c (A : LL) : Bool := is (((qu_c A (0 : Int) (40 : Int)) = true) ∧ ((qm_c A) = true))
noncomputable def qv_v (A : LL) : Bool := (bif (decide ((A.length : Int) ≤ (3 : Int))) then (bif (qu_v A (0 : Int) (40 : Int)) then (decide ((qm_v A) ≤ (600 : Int))) else false) else false)
theorem qv_l (A : LL) : (qv_c A) = true → (qv_t A).val = some (qv_v A) := by
  intro h
  obtain ⟨g0, g1⟩ := is_iff.1 h
  unfold qv_t qv_v
  exact (Tr.s (Tr.t g0 (Tr.s (Tr.t g1 rfl) rfl)) rfl)
noncomputable def qv_S : List Arg → Option (Bool × Res) := fun xs => match xs with
  | [(false, [(.slice 2, TC.l A)])] => some ((qv_c A), qv_mk (qv_v A))
  | _ => .none
theorem qv_e (A : LL) : runF tab FT D16 live 80 noLoops [(false, [(.slice 2, TC.l A)])] = (qv_t A).run fun p => some (qv_mk p) := by kernel_rfl
theorem qv_s : ∀ xs r, qv_S xs = some (true, r) → runF tab FT D16 live 80 noLoops xs = some r := by
  intro xs r h
  unfold qv_S at h
  split at h
  · simp only [Option.some.injEq, Prod.mk.injEq] at h
    obtain ⟨h1, rfl⟩ := h
    exact fun_told (qv_e _) (qv_l _) h1
  · cases h
noncomputable def D17 : Dt := also D16 80 qv_S
theorem d17 : DOk Go.Proofs.Try.prog tab D17 := d16.also mixed_ok tab_ok names_ok noLoops_ok qv_s
theorem qv_vv (A : LL) : qv_v A = dimsOk A := by
  show (bif decide ((A.length : Int) ≤ 3) then bif (!(!(A.all (inR 0 40)))) then decide (prodL A ≤ 600) else false else false) = _
  unfold dimsOk
  cases decide ((A.length : Int) ≤ 3) <;> cases A.all (inR 0 40) <;> rfl
abbrev qr_3_σ := LL × LL × LL × Int × Int
abbrev qr_3_ω := (LL)
noncomputable def qr_3_step (C X D : LL) (m i : Int) : Tr (qr_3_σ ⊕ qr_3_ω) := (.ite ((decide (i < m)) = true) (.ite ((0 : Int) ≤ i ∧ i < (D.length : Int)) (.ite ((0 : Int) ≤ i ∧ i < (C.length : Int)) (.ite ((0 : Int) ≤ i ∧ i < (C.length : Int)) (.ite ((nth (row C i) 0).int ≠ 0) (.ite (roomFor (tab 2) (X ++ [[TC.i (IntKind.wrap .i64 (Int.tdiv (IntKind.wrap .i64 ((IntKind.wrap .i64 ((nth (row D i) 0).int + (nth (row C i) 0).int)) - (1 : Int))) ((nth (row C i) 0).int)))]]).length) (.ok (.inl (C, (X ++ [[TC.i (IntKind.wrap .i64 (Int.tdiv (IntKind.wrap .i64 ((IntKind.wrap .i64 ((nth (row D i) 0).int + (nth (row C i) 0).int)) - (1 : Int))) ((nth (row C i) 0).int)))]]), D, m, (IntKind.wrap .i64 (i + (1 : Int))))))
       .no)
      .no)
     .no)
    .no)
   .no)
  (.ok (.inr X)))
noncomputable def qr_3_st : qr_3_σ → Tr (qr_3_σ ⊕ qr_3_ω) := fun x => (qr_3_step (x.1) (x.2.1) (x.2.2.1) (x.2.2.2.1) (x.2.2.2.2))
noncomputable def qr_o3_1 (C X D : LL) (m i : Int) : Bool := is (X = [] ∧ i = 0 ∧ Typed tab (.slice 2) (.l D) ∧ D.length = C.length ∧ C.all (inR 1 40) = true ∧ m = (D.length : Int))
noncomputable def qr_u3_1 (C X D : LL) (m i : Int) : LL := gridL D C
noncomputable def qr_3_fin (C X D : LL) (m i : Int) : Told qr_3_ω := (.leaf (qr_o3_1 C X D m i) (qr_u3_1 C X D m i))
def qr_3_sl (x : qr_3_σ) : List Slot := [⟨.val false [⟨.slice 2, .sh, TC.l (x.1)⟩], ⟨0, 0⟩⟩, ⟨.val false [⟨.slice 2, .own true, TC.l (x.2.1)⟩], ⟨0, 0⟩⟩, ⟨.val false [⟨.slice 2, .sh, TC.l (x.2.2.1)⟩], ⟨0, 0⟩⟩, ⟨.val false [⟨.int .i64, .sh, TC.i (x.2.2.2.1)⟩], ⟨0, 0⟩⟩, ⟨.val false [⟨.int .i64, .sh, TC.i (x.2.2.2.2)⟩], ⟨0, 0⟩⟩]
def qr_3_out : qr_3_ω → Ex × List Slot := (fun x => (.exit 0, [Slot.none, ⟨.val false [⟨.slice 2, .own true, TC.l x⟩], ⟨0, 0⟩⟩]))
noncomputable def qr_lo3 : List Slot → Option (Told (Ex × List Slot)) := fun s => match s with
  | [⟨.val false [⟨.slice 2, .sh, TC.l C⟩], ⟨0, 0⟩⟩, ⟨.val false [⟨.slice 2, .own true, TC.l X⟩], ⟨0, 0⟩⟩, ⟨.val false [⟨.slice 2, .sh, TC.l D⟩], ⟨0, 0⟩⟩, ⟨.val false [⟨.int .i64, .sh, TC.i m⟩], ⟨0, 0⟩⟩, ⟨.val false [⟨.int .i64, .sh, TC.i i⟩], ⟨0, 0⟩⟩] => some (((qr_3_fin C X D m i)).map qr_3_out)
  | _ => .none
noncomputable def qr_lo : LoopTeller := fun r s => bif Nat.beq r 3 then qr_lo3 s else .none
theorem qr_3_r (C X D : LL) (m i : Int) (fuel : Nat) : rounds (rnd tab FT D17 live 83 qr_lo 0 3) leave (fuel + 1) (qr_3_sl (C, X, D, m, i)) = ((qr_3_step C X D m i)).run (goOn (fun s => rounds (rnd tab FT D17 live 83 qr_lo 0 3) leave fuel (qr_3_sl s)) fun w => some (qr_3_out w)) := by kernel_rfl
theorem qr_3_h (C X D : LL) (m i : Int) (ow : qr_3_ω) : ((qr_3_fin C X D m i)).val = some ow → ∃ fuel, loopN qr_3_st fuel (C, X, D, m, i) = some ow := by
  intro h
  simp only [qr_3_fin, Told.val] at h
  split at h
  · rename_i ho
    obtain ⟨rfl, rfl, ht, hl, hc, rfl⟩ := is_iff.1 ho
    cases h
    have hlen : D.length ≤ 17592186044404 := by have := typed_room ht; simp only [show (tab 2).bytes = 8 from rfl] at this; omega
    have hg : (gridL D C).length = D.length := by simp [gridL, hl]
    refine ⟨_, loopN_build (step := qr_3_st) (gridL D C) (fun i X => (C, X, D, (D.length : Int), (i : Int))) _ (fun i hi => ?_) ?_⟩
    · have hi' : i < D.length := by omega
      rw [gridL_at hl hi]
      show (qr_3_step C ((gridL D C).take i) D (D.length : Int) (i : Int)).val = _
      unfold qr_3_step
      refine Tr.t (by simp; omega) ?_
      refine Tr.t (by constructor <;> omega) ?_
      refine Tr.t (by constructor <;> omega) ?_
      refine Tr.t (by constructor <;> omega) ?_
      refine Tr.t (inR_1 hc (by omega)) ?_
      refine Tr.t (by unfold roomFor; simp only [show (tab 2).bytes = 8 from rfl, List.length_append, List.length_take, List.length_singleton]; omega) ?_
      rw [Tr.val_ok, wrap64 (i := (i : Int) + 1) (by omega) (by omega)]; rfl
    · show (qr_3_step C (gridL D C) D (D.length : Int) ((gridL D C).length : Int)).val = _
      refine Tr.n (by simp [hg]) ?_
      rfl
  · cases h
theorem qr_is3 : LoopIs tab FT D17 live 83 qr_lo 0 3 := by
  refine loop_told (sl := qr_3_sl) (step := qr_3_st) (out := qr_3_out) (lor := qr_lo3) (fin := fun x => (qr_3_fin (x.1) (x.2.1) (x.2.2.1) (x.2.2.2.1) (x.2.2.2.2))) (fun _ => rfl) ?_ (fun x n => qr_3_r x.1 x.2.1 x.2.2.1 x.2.2.2.1 x.2.2.2.2 n) (fun x ow => qr_3_h x.1 x.2.1 x.2.2.1 x.2.2.2.1 x.2.2.2.2 ow)
  intro s t h
  unfold qr_lo3 at h
  split at h
  · cases h; exact ⟨(_, _, _, _, _), rfl, rfl⟩
  · cases h
noncomputable def qr_t (D C : LL) : Tr (LL) := (.ite ((qr_o3_1 C [] D (D.length : Int) (0 : Int)) = true) (.ok (qr_u3_1 C [] D (D.length : Int) (0 : Int)))
  .no)
def qr_mk (p : LL) : Res := [(false, [⟨.slice 2, .own true, TC.l p⟩])]
noncomputable def qr_c (D C : LL) : Bool := is (Typed tab (.slice 2) (.l D) ∧ D.length = C.length ∧ C.all (inR 1 40) = true)
noncomputable def qr_v (D C : LL) : LL := gridL D C
theorem qr_l (D C : LL) : (qr_c D C) = true → (qr_t D C).val = some (qr_v D C) := by
  intro h
  obtain ⟨ht, hl, hc⟩ := is_iff.1 h
  unfold qr_t
  exact Tr.t (is_true ⟨rfl, rfl, ht, hl, hc, rfl⟩) rfl
noncomputable def qr_S : List Arg → Option (Bool × Res) := fun xs => match xs with
  | [(false, [(.slice 2, TC.l D)]), (false, [(.slice 2, TC.l C)])] => some ((qr_c D C), qr_mk (qr_v D C))
  | _ => .none
theorem qr_e (D C : LL) : runF tab FT D17 live 83 qr_lo [(false, [(.slice 2, TC.l D)]), (false, [(.slice 2, TC.l C)])] = (qr_t D C).run fun p => some (qr_mk p) := by kernel_rfl
theorem qr_s : ∀ xs r, qr_S xs = some (true, r) → runF tab FT D17 live 83 qr_lo xs = some r := by
  intro xs r h
  unfold qr_S at h
  split at h
  · simp only [Option.some.injEq, Prod.mk.injEq] at h
    obtain ⟨h1, rfl⟩ := h
    exact fun_told (qr_e _ _) (qr_l _ _) h1
  · cases h
noncomputable def D18 : Dt := also D17 83 qr_S
theorem d18 : DOk Go.Proofs.Try.prog tab D18 := d17.also mixed_ok tab_ok names_ok (fnLoops_one (by kernel_rfl) qr_is3) qr_s
noncomputable def qg_t (D C : LL) : Tr (Bool) := (.ite ((qv_c D) = true) (.ite ((!(qv_v D)) = true) (.ok false)
   (.ite ((!((C.length : Int) == (D.length : Int))) = true) (.ok false)
    (.ite ((qu_c C (1 : Int) (40 : Int)) = true) (.ite ((!(qu_v C (1 : Int) (40 : Int))) = true) (.ok false)
      (.ite ((qm_c C) = true) (.ite ((decide ((qm_v C) > (64 : Int))) = true) (.ok false)
        (.ite ((qr_c D C) = true) (.ite ((qu_c (qr_v D C) (0 : Int) (16 : Int)) = true) (.ite ((qu_v (qr_v D C) (0 : Int) (16 : Int)) = true) (.ite ((qm_c (qr_v D C)) = true) (.ok (decide ((qm_v (qr_v D C)) ≤ (256 : Int))))
            .no)
           (.ok false))
          .no)
         .no))
       .no))
     .no)))
  .no)
def qg_mk (p : Bool) : Res := [(false, [⟨.bool, .sh, TC.b p⟩])]
noncomputable def qg_c (D C : LL) : Bool := ((qv_c D) && (bif (!(qv_v D)) then true else (bif (!((C.length : Int) == (D.length : Int))) then true else ((qu_c C (1 : Int) (40 : Int)) && (bif (!(qu_v C (1 : Int) (40 : Int))) then true else ((qm_c C) && (bif (decide ((qm_v C) > (64 : Int))) then true else ((qr_c D C) && ((qu_c (qr_v D C) (0 : Int) (16 : Int)) && (bif (qu_v (qr_v D C) (0 : Int) (16 : Int)) then ((qm_c (qr_v D C)) && true) else true))))))))))
noncomputable def qg_v (D C : LL) : Bool := (bif (!(qv_v D)) then false else (bif (!((C.length : Int) == (D.length : Int))) then false else (bif (!(qu_v C (1 : Int) (40 : Int))) then false else (bif (decide ((qm_v C) > (64 : Int))) then false else (bif (qu_v (qr_v D C) (0 : Int) (16 : Int)) then (decide ((qm_v (qr_v D C)) ≤ (256 : Int))) else false)))))
theorem qg_l (D C : LL) : (qg_c D C) = true → (qg_t D C).val = some (qg_v D C) := by
  unfold qg_t qg_v qg_c
  exact fun h => (Tr.gb h fun h => (Tr.ss h (fun h => rfl) (fun h => (Tr.ss h (fun h => rfl) (fun h => (Tr.gb h fun h => (Tr.ss h (fun h => rfl) (fun h => (Tr.gb h fun h => (Tr.ss h (fun h => rfl) (fun h => (Tr.gb h fun h => (Tr.gb h fun h => (Tr.ss h (fun h => (Tr.gb h fun h => rfl)) (fun h => rfl)))))))))))))))
noncomputable def qg_S : List Arg → Option (Bool × Res) := fun xs => match xs with
  | [(false, [(.slice 2, TC.l D)]), (false, [(.slice 2, TC.l C)])] => some ((qg_c D C), qg_mk (qg_v D C))
  | _ => .none
theorem qg_e (D C : LL) : runF tab FT D18 live 37 noLoops [(false, [(.slice 2, TC.l D)]), (false, [(.slice 2, TC.l C)])] = (qg_t D C).run fun p => some (qg_mk p) := by kernel_rfl
theorem qg_s : ∀ xs r, qg_S xs = some (true, r) → runF tab FT D18 live 37 noLoops xs = some r := by
  intro xs r h
  unfold qg_S at h
  split at h
  · simp only [Option.some.injEq, Prod.mk.injEq] at h
    obtain ⟨h1, rfl⟩ := h
    exact fun_told (qg_e _ _) (qg_l _ _) h1
  · cases h
noncomputable def D19 : Dt := also D18 37 qg_S
theorem d19 : DOk Go.Proofs.Try.prog tab D19 := d18.also mixed_ok tab_ok names_ok noLoops_ok qg_s
theorem qg_cc {D : LL} {C : LL} (hD : Typed tab (.slice 2) (.l D)) (hC : Typed tab (.slice 2) (.l C)) : (qg_c D C) = true := by
  unfold qg_c
  refine andT (by first | (apply is_true; and_intros <;> (first | rfl | assumption | (apply qa_cc <;> assumption) | (apply qb_cc <;> assumption) | (apply qd_cc <;> assumption) | (first | (apply is_true; and_intros <;> (first | rfl | assumption | (apply qa_cc <;> assumption) | (apply qb_cc <;> assumption) | (apply qd_cc <;> assumption) | (first | (apply is_true; and_intros <;> (first | rfl | assumption | (apply qa_cc <;> assumption) | (apply qb_cc <;> assumption) | (apply qd_cc <;> assumption) | (first | (apply is_true; and_intros <;> (first | rfl | assumption | (apply qa_cc <;> assumption) | (apply qb_cc <;> assumption) | (apply qd_cc <;> assumption))) | (apply qa_cc <;> assumption) | (apply qb_cc <;> assumption) | (apply qd_cc <;> assumption)))) | (apply qa_cc <;> assumption) | (apply qb_cc <;> assumption) | (apply qd_cc <;> assumption)))) | (apply qa_cc <;> assumption) | (apply qb_cc <;> assumption) | (apply qd_cc <;> assumption)))) | (apply qa_cc <;> assumption) | (apply qb_cc <;> assumption) | (apply qd_cc <;> assumption)) ?_
  refine bifT (fun b1 => ?_) (fun b1 => ?_)
  · skip
    rfl
  · skip
    refine bifT (fun b2 => ?_) (fun b2 => ?_)
    · skip
      rfl
    · skip
      refine andT (by first | (apply is_true; and_intros <;> (first | rfl | assumption | (apply qa_cc <;> assumption) | (apply qb_cc <;> assumption) | (apply qd_cc <;> assumption) | (first | (apply is_true; and_intros <;> (first | rfl | assumption | (apply qa_cc <;> assumption) | (apply qb_cc <;> assumption) | (apply qd_cc <;> assumption) | (first | (apply is_true; and_intros <;> (first | rfl | assumption | (apply qa_cc <;> assumption) | (apply qb_cc <;> assumption) | (apply qd_cc <;> assumption) | (first | (apply is_true; and_intros <;> (first | rfl | assumption | (apply qa_cc <;> assumption) | (apply qb_cc <;> assumption) | (apply qd_cc <;> assumption))) | (apply qa_cc <;> assumption) | (apply qb_cc <;> assumption) | (apply qd_cc <;> assumption)))) | (apply qa_cc <;> assumption) | (apply qb_cc <;> assumption) | (apply qd_cc <;> assumption)))) | (apply qa_cc <;> assumption) | (apply qb_cc <;> assumption) | (apply qd_cc <;> assumption)))) | (apply qa_cc <;> assumption) | (apply qb_cc <;> assumption) | (apply qd_cc <;> assumption)) ?_
      refine bifT (fun b3 => ?_) (fun b3 => ?_)
      · skip
        rfl
      · skip
        refine andT (by first | (apply is_true; and_intros <;> (first | rfl | assumption | (apply qa_cc <;> assumption) | (apply qb_cc <;> assumption) | (apply qd_cc <;> assumption) | (first | (apply is_true; and_intros <;> (first | rfl | assumption | (apply qa_cc <;> assumption) | (apply qb_cc <;> assumption) | (apply qd_cc <;> assumption) | (first | (apply is_true; and_intros <;> (first | rfl | assumption | (apply qa_cc <;> assumption) | (apply qb_cc <;> assumption) | (apply qd_cc <;> assumption) | (first | (apply is_true; and_intros <;> (first | rfl | assumption | (apply qa_cc <;> assumption) | (apply qb_cc <;> assumption) | (apply qd_cc <;> assumption))) | (apply qa_cc <;> assumption) | (apply qb_cc <;> assumption) | (apply qd_cc <;> assumption)))) | (apply qa_cc <;> assumption) | (apply qb_cc <;> assumption) | (apply qd_cc <;> assumption)))) | (apply qa_cc <;> assumption) | (apply qb_cc <;> assumption) | (apply qd_cc <;> assumption)))) | (apply qa_cc <;> assumption) | (apply qb_cc <;> assumption) | (apply qd_cc <;> assumption)) ?_
        refine bifT (fun b4 => ?_) (fun b4 => ?_)
        · skip
          rfl
        · skip
          refine andT (by exact is_true (p := Typed tab (.slice 2) (.l D) ∧ D.length = C.length ∧ C.all (inR 1 40) = true) ⟨hD, lenEq b2, nnF b3⟩) ?_
          refine andT (by exact is_true (gridL_ty rfl hD)) ?_
          refine bifT (fun b5 => ?_) (fun b5 => ?_)
          · skip
            refine andT (by exact is_true ⟨rfl, rfl, gridL_ty rfl hD, rfl⟩) ?_
            rfl
          · skip
            rfl
theorem qg_vv (D C : LL) : qg_v D C = chunkOk D C := by
  show (bif (!(qv_v D)) then false else bif (!((C.length : Int) == (D.length : Int))) then false else bif (!(!(!(C.all (inR 1 40))))) then false else bif decide (prodL C > 64) then false else bif (!(!((gridL D C).all (inR 0 16)))) then decide (prodL (gridL D C) ≤ 256) else false) = _
  rw [qv_vv]
  unfold chunkOk
  rw [show decide (prodL C > 64) = !decide (prodL C ≤ 64) from by rw [← decide_not]; simp]
  cases dimsOk D <;> cases ((C.length : Int) == (D.length : Int)) <;> cases C.all (inR 1 40) <;> cases (gridL D C).all (inR 0 16) <;> cases decide (prodL C ≤ 64) <;> rfl
noncomputable def qz_c (A : LL) (x : Int) : Bool := is (Typed tab (.slice 2) (.l A) ∧ ∀ j : Nat, j < A.length → (nth (A.getD j []) 0).int ≠ 0)
noncomputable def qz_v (A : LL) (x : Int) : LL := coordsV A x
def qz_mk (p : LL) : Res := [(false, [⟨.slice 2, .own true, TC.l p⟩])]
noncomputable def qz_S : List Arg → Option (Bool × Res) := fun xs => match xs with
  | [(false, [(.slice 2, TC.l A)]), (false, [(.int .i64, TC.i x)])] => some ((qz_c A x), qz_mk (qz_v A x))
  | _ => .none
noncomputable def D20 : Dt := also D19 101 qz_S
theorem d20 : DOk Go.Proofs.Try.prog tab D20 := d19.alsoC names_ok (c := _) Go.Proofs.Try.func101 rfl (by
  intro xs r h w S hargs0 hS hargs
  unfold qz_S at h
  split at h
  · rename_i A x
    simp only [Option.some.injEq, Prod.mk.injEq] at h
    obtain ⟨h1, rfl⟩ := h
    obtain ⟨u, us, rfl, ha, hr⟩ := args_cons hargs
    obtain ⟨u2, us2, rfl, hb, hr2⟩ := args_cons hr
    have := args_nil hr2
    subst this
    obtain ⟨ht, hz⟩ := is_iff.1 h1
    have hlen := typed_room ht
    simp only [show (tab 2).bytes = 8 from rfl] at hlen
    rw [rep_int' (arg_rep hb)]
    exact coords_told hS (arg_rep ha) hz hlen
  · cases h)
noncomputable def qs_f3 (A : LL) (m i n : Int) : (Int) ⊕ ((Int)) := (.inl (IntKind.wrap .i64 ((IntKind.wrap .i64 (n * (16 : Int))) + (nth (row A i) 0).int)))
noncomputable def qs_e3 (A : LL) (m n : Int) : (Int) := n
noncomputable def qs_R3 (n : Int) (A : LL) (m i : Int) : (Int) := iter (fun i a => (qs_f3 A m (i : Int) a)) (fun a => (qs_e3 A m a)) (A.length) 0 n
abbrev qs_3_σ := Int × LL × Int × Int
abbrev qs_3_ω := (Int)
noncomputable def qs_3_step (n : Int) (A : LL) (m i : Int) : Tr (qs_3_σ ⊕ qs_3_ω) := (.ite ((decide (i < m)) = true) (.ite ((0 : Int) ≤ i ∧ i < (A.length : Int)) (.ok (.inl ((IntKind.wrap .i64 ((IntKind.wrap .i64 (n * (16 : Int))) + (nth (row A i) 0).int)), A, m, (IntKind.wrap .i64 (i + (1 : Int))))))
   .no)
  (.ok (.inr n)))
noncomputable def qs_3_st : qs_3_σ → Tr (qs_3_σ ⊕ qs_3_ω) := fun x => (qs_3_step (x.1) (x.2.1) (x.2.2.1) (x.2.2.2))
noncomputable def qs_o3_1 (n : Int) (A : LL) (m i : Int) : Bool := is (i = 0 ∧ n = 0 ∧ A.length ≤ 140737488351232 ∧ m = (A.length : Int))
noncomputable def qs_u3_1 (n : Int) (A : LL) (m i : Int) : Int := (qs_R3 n A m i)
noncomputable def qs_3_fin (n : Int) (A : LL) (m i : Int) : Told qs_3_ω := (.leaf (qs_o3_1 n A m i) (qs_u3_1 n A m i))
def qs_3_sl (x : qs_3_σ) : List Slot := [⟨.val false [⟨.int .i64, .sh, TC.i (x.1)⟩], ⟨0, 0⟩⟩, ⟨.val false [⟨.slice 2, .sh, TC.l (x.2.1)⟩], ⟨0, 0⟩⟩, ⟨.val false [⟨.int .i64, .sh, TC.i (x.2.2.1)⟩], ⟨0, 0⟩⟩, ⟨.val false [⟨.int .i64, .sh, TC.i (x.2.2.2)⟩], ⟨0, 0⟩⟩]
def qs_3_out : qs_3_ω → Ex × List Slot := (fun x => (.exit 0, [Slot.none, ⟨.val false [⟨.int .i64, .sh, TC.i x⟩], ⟨0, 0⟩⟩]))
noncomputable def qs_lo3 : List Slot → Option (Told (Ex × List Slot)) := fun s => match s with
  | [⟨.val false [⟨.int .i64, .sh, TC.i n⟩], ⟨0, 0⟩⟩, ⟨.val false [⟨.slice 2, .sh, TC.l A⟩], ⟨0, 0⟩⟩, ⟨.val false [⟨.int .i64, .sh, TC.i m⟩], ⟨0, 0⟩⟩, ⟨.val false [⟨.int .i64, .sh, TC.i i⟩], ⟨0, 0⟩⟩] => some (((qs_3_fin n A m i)).map qs_3_out)
  | _ => .none
noncomputable def qs_lo : LoopTeller := fun r s => bif Nat.beq r 3 then qs_lo3 s else .none
theorem qs_3_r (n : Int) (A : LL) (m i : Int) (fuel : Nat) : rounds (rnd tab FT D20 live 100 qs_lo 0 3) leave (fuel + 1) (qs_3_sl (n, A, m, i)) = ((qs_3_step n A m i)).run (goOn (fun s => rounds (rnd tab FT D20 live 100 qs_lo 0 3) leave fuel (qs_3_sl s)) fun w => some (qs_3_out w)) := by kernel_rfl
theorem qs_R3_eq (A : LL) : qs_R3 0 A (A.length : Int) 0 = keyL A := by
  unfold qs_R3
  refine (iter_each (g := (fun i n => IntKind.wrap .i64 ((IntKind.wrap .i64 (n * 16)) + (nth (row A (i : Int)) 0).int))) (fin := fun a => qs_e3 A (A.length : Int) a) fun j a hj => ?_)
  unfold qs_f3
  rfl
theorem qs_3_h (n : Int) (A : LL) (m i : Int) (ow : qs_3_ω) : ((qs_3_fin n A m i)).val = some ow → ∃ fuel, loopN qs_3_st fuel (n, A, m, i) = some ow := by
  refine auto_leaf (R := (qs_R3 n A m i)) ?_
  intro ho
  have ho : is (i = 0 ∧ n = 0 ∧ A.length ≤ 140737488351232 ∧ m = (A.length : Int)) = true := ho
  obtain ⟨rfl, rfl, hlen, rfl⟩ := is_iff.1 ho
  skip
  refine ⟨(A.length) + 1, ?_⟩
  refine iter_loop (step := qs_3_st) (A.length) (fun i a => (qs_f3 A (A.length : Int) (i : Int) a)) (fun a => (qs_e3 A (A.length : Int) a)) (fun i a => (a, A, (A.length : Int), (i : Int))) (fun _ _ => True) trivial (fun i a hi hI => ⟨?_, fun _ _ => trivial⟩) (fun a hI => ?_)
  · show (qs_3_step a A (A.length : Int) (i : Int)).val = _
    unfold qs_3_step qs_f3
    skip
    refine Tr.t (by simp; omega) ?_
    exact (Tr.t (by first | omega | (constructor <;> omega)) (by rw [Tr.val_ok, wrap64 (i := (i : Int) + 1) (by omega) (by omega)]; rfl))
  · show (qs_3_step a A (A.length : Int) (A.length : Int)).val = _
    refine Tr.n (by first | (simp; done) | (simp; omega) | omega) ?_
    rfl
theorem qs_is3 : LoopIs tab FT D20 live 100 qs_lo 0 3 := by
  refine loop_told (sl := qs_3_sl) (step := qs_3_st) (out := qs_3_out) (lor := qs_lo3) (fin := fun x => (qs_3_fin (x.1) (x.2.1) (x.2.2.1) (x.2.2.2))) (fun _ => rfl) ?_ (fun x n => qs_3_r x.1 x.2.1 x.2.2.1 x.2.2.2 n) (fun x ow => qs_3_h x.1 x.2.1 x.2.2.1 x.2.2.2 ow)
  intro s t h
  unfold qs_lo3 at h
  split at h
  · cases h; exact ⟨(_, _, _, _), rfl, rfl⟩
  · cases h
noncomputable def qs_t (A : LL) : Tr (Int) := (.ite ((qs_o3_1 (0 : Int) A (A.length : Int) (0 : Int)) = true) (.ok (qs_u3_1 (0 : Int) A (A.length : Int) (0 : Int)))
  .no)
def qs_mk (p : Int) : Res := [(false, [⟨.int .i64, .sh, TC.i p⟩])]
noncomputable def qs_c (A : LL) : Bool := (qs_o3_1 (0 : Int) A (A.length : Int) (0 : Int))
noncomputable def qs_v (A : LL) : Int := (qs_u3_1 (0 : Int) A (A.length : Int) (0 : Int))
theorem qs_l (A : LL) : (qs_c A) = true → (qs_t A).val = some (qs_v A) := by
  intro h
  have hc0 : (qs_o3_1 (0 : Int) A (A.length : Int) (0 : Int)) = true := h
  unfold qs_t
  exact (Tr.t hc0 rfl)
noncomputable def qs_S : List Arg → Option (Bool × Res) := fun xs => match xs with
  | [(false, [(.slice 2, TC.l A)])] => some ((qs_c A), qs_mk (qs_v A))
  | _ => .none
theorem qs_e (A : LL) : runF tab FT D20 live 100 qs_lo [(false, [(.slice 2, TC.l A)])] = (qs_t A).run fun p => some (qs_mk p) := by kernel_rfl
theorem qs_s : ∀ xs r, qs_S xs = some (true, r) → runF tab FT D20 live 100 qs_lo xs = some r := by
  intro xs r h
  unfold qs_S at h
  split at h
  · simp only [Option.some.injEq, Prod.mk.injEq] at h
    obtain ⟨h1, rfl⟩ := h
    exact fun_told (qs_e _) (qs_l _) h1
  · cases h
noncomputable def D21 : Dt := also D20 100 qs_S
theorem d21 : DOk Go.Proofs.Try.prog tab D21 := d20.also mixed_ok tab_ok names_ok (fnLoops_one (by kernel_rfl) qs_is3) qs_s
theorem qs_vv (A : LL) : qs_v A = keyL A := qs_R3_eq A
abbrev qc_4_σ := LL × LL × Int × Int
abbrev qc_4_ω := (LL)
noncomputable def qc_4_step (g X : LL) (m i : Int) : Tr (qc_4_σ ⊕ qc_4_ω) := (.ite ((decide (i < m)) = true) (.ite ((qz_c g i) = true) (.ite ((qs_c (qz_v g i)) = true) (.ite (roomFor (tab 2) (X ++ [[TC.i (qs_v (qz_v g i))]]).length) (.ok (.inl (g, (X ++ [[TC.i (qs_v (qz_v g i))]]), m, (IntKind.wrap .i64 (i + (1 : Int))))))
     .no)
    .no)
   .no)
  (.ok (.inr X)))
noncomputable def qc_4_st : qc_4_σ → Tr (qc_4_σ ⊕ qc_4_ω) := fun x => (qc_4_step (x.1) (x.2.1) (x.2.2.1) (x.2.2.2))
noncomputable def qc_o4_1 (g X : LL) (m i : Int) : Bool := is (X = [] ∧ i = 0 ∧ m ≤ 100000 ∧ Typed tab (.slice 2) (.l g) ∧ (0 < m → ∀ j : Nat, j < g.length → (nth (g.getD j []) 0).int ≠ 0))
noncomputable def qc_u4_1 (g X : LL) (m i : Int) : LL := keysL g (m).toNat
noncomputable def qc_4_fin (g X : LL) (m i : Int) : Told qc_4_ω := (.leaf (qc_o4_1 g X m i) (qc_u4_1 g X m i))
def qc_4_sl (x : qc_4_σ) : List Slot := [⟨.val false [⟨.slice 2, .own true, TC.l (x.1)⟩], ⟨0, 0⟩⟩, ⟨.val false [⟨.slice 2, .own true, TC.l (x.2.1)⟩], ⟨0, 0⟩⟩, ⟨.val false [⟨.int .i64, .sh, TC.i (x.2.2.1)⟩], ⟨0, 0⟩⟩, ⟨.val false [⟨.int .i64, .sh, TC.i (x.2.2.2)⟩], ⟨0, 0⟩⟩]
def qc_4_out : qc_4_ω → Ex × List Slot := (fun x => (.exit 0, [Slot.none, ⟨.val false [⟨.slice 2, .own true, TC.l x⟩], ⟨0, 0⟩⟩]))
noncomputable def qc_lo4 : List Slot → Option (Told (Ex × List Slot)) := fun s => match s with
  | [⟨.val false [⟨.slice 2, .own true, TC.l g⟩], ⟨0, 0⟩⟩, ⟨.val false [⟨.slice 2, .own true, TC.l X⟩], ⟨0, 0⟩⟩, ⟨.val false [⟨.int .i64, .sh, TC.i m⟩], ⟨0, 0⟩⟩, ⟨.val false [⟨.int .i64, .sh, TC.i i⟩], ⟨0, 0⟩⟩] => some (((qc_4_fin g X m i)).map qc_4_out)
  | _ => .none
noncomputable def qc_lo : LoopTeller := fun r s => bif Nat.beq r 4 then qc_lo4 s else .none
theorem qc_4_r (g X : LL) (m i : Int) (fuel : Nat) : rounds (rnd tab FT D21 live 54 qc_lo 0 4) leave (fuel + 1) (qc_4_sl (g, X, m, i)) = ((qc_4_step g X m i)).run (goOn (fun s => rounds (rnd tab FT D21 live 54 qc_lo 0 4) leave fuel (qc_4_sl s)) fun w => some (qc_4_out w)) := by kernel_rfl
theorem qc_4_h (g X : LL) (m i : Int) (ow : qc_4_ω) : ((qc_4_fin g X m i)).val = some ow → ∃ fuel, loopN qc_4_st fuel (g, X, m, i) = some ow := by
  intro h
  refine auto_leaf (R := keysL g (m).toNat) (fun ho => ?_) h
  obtain ⟨rfl, rfl, hM, ht, hz⟩ := is_iff.1 ho
  have hlen := typed_room ht
  simp only [show (tab 2).bytes = 8 from rfl] at hlen
  have key := loopN_run (step := qc_4_st) (N := (m).toNat) (fun k => (g, keysL g k, m, (k : Int))) (w := keysL g (m).toNat) (fun k hk => ?_) ?_ (m).toNat 0 (by omega)
  · exact ⟨_, Eq.trans (congrArg (loopN qc_4_st _) (by simp [keysL])) key⟩
  · have hz' := hz (by omega)
    show (qc_4_step g (keysL g k) m (k : Int)).val = _
    unfold qc_4_step
    refine Tr.t (by simp; omega) (Tr.t (is_true ⟨ht, hz'⟩) ?_)
    rw [show qz_v g (k : Int) = coordsV g (k : Int) from rfl, qs_vv]
    refine Tr.t (is_true (by and_intros <;> first | rfl | (rw [coordsV_len]; omega) | (rw [coordsV_len]))) (Tr.t ?_ ?_)
    · unfold roomFor
      simp only [show (tab 2).bytes = 8 from rfl, List.length_append, List.length_singleton, keysL_len]
      omega
    · rw [Tr.val_ok, keysL_succ, wrap64 (i := (k : Int) + 1) (by omega) (by omega)]; rfl
  · show (qc_4_step g (keysL g (m).toNat) m (((m).toNat : Nat) : Int)).val = _
    unfold qc_4_step
    refine Tr.n (by simp; omega) ?_
    rfl
theorem qc_is4 : LoopIs tab FT D21 live 54 qc_lo 0 4 := by
  refine loop_told (sl := qc_4_sl) (step := qc_4_st) (out := qc_4_out) (lor := qc_lo4) (fin := fun x => (qc_4_fin (x.1) (x.2.1) (x.2.2.1) (x.2.2.2))) (fun _ => rfl) ?_ (fun x n => qc_4_r x.1 x.2.1 x.2.2.1 x.2.2.2 n) (fun x ow => qc_4_h x.1 x.2.1 x.2.2.1 x.2.2.2 ow)
  intro s t h
  unfold qc_lo4 at h
  split at h
  · cases h; exact ⟨(_, _, _, _), rfl, rfl⟩
  · cases h
noncomputable def qc_t (D C : LL) : Tr (LL) := (.ite ((qr_c D C) = true) (.ite ((qm_c (qr_v D C)) = true) (.ite ((qc_o4_1 (qr_v D C) [] (qm_v (qr_v D C)) (0 : Int)) = true) (.ok (qc_u4_1 (qr_v D C) [] (qm_v (qr_v D C)) (0 : Int)))
    .no)
   .no)
  .no)
def qc_mk (p : LL) : Res := [(false, [⟨.slice 2, .own true, TC.l p⟩])]
noncomputable def qc_c (D C : LL) : Bool := ((qr_c D C) && ((qm_c (qr_v D C)) && ((qc_o4_1 (qr_v D C) [] (qm_v (qr_v D C)) (0 : Int)) && true)))
noncomputable def qc_v (D C : LL) : LL := (qc_u4_1 (qr_v D C) [] (qm_v (qr_v D C)) (0 : Int))
theorem qc_l (D C : LL) : (qc_c D C) = true → (qc_t D C).val = some (qc_v D C) := by
  unfold qc_t qc_v qc_c
  exact fun h => (Tr.gb h fun h => (Tr.gb h fun h => (Tr.gb h fun h => rfl)))
noncomputable def qc_S : List Arg → Option (Bool × Res) := fun xs => match xs with
  | [(false, [(.slice 2, TC.l D)]), (false, [(.slice 2, TC.l C)])] => some ((qc_c D C), qc_mk (qc_v D C))
  | _ => .none
theorem qc_e (D C : LL) : runF tab FT D21 live 54 qc_lo [(false, [(.slice 2, TC.l D)]), (false, [(.slice 2, TC.l C)])] = (qc_t D C).run fun p => some (qc_mk p) := by kernel_rfl
theorem qc_s : ∀ xs r, qc_S xs = some (true, r) → runF tab FT D21 live 54 qc_lo xs = some r := by
  intro xs r h
  unfold qc_S at h
  split at h
  · simp only [Option.some.injEq, Prod.mk.injEq] at h
    obtain ⟨h1, rfl⟩ := h
    exact fun_told (qc_e _ _) (qc_l _ _) h1
  · cases h
noncomputable def D22 : Dt := also D21 54 qc_S
theorem d22 : DOk Go.Proofs.Try.prog tab D22 := d21.also mixed_ok tab_ok names_ok (fnLoops_one (by kernel_rfl) qc_is4) qc_s
theorem qc_cc {D : LL} {C : LL} (hD : Typed tab (.slice 2) (.l D)) (hk : chunkOk D C = true) : (qc_c D C) = true := by
  unfold qc_c
  refine andT (by have hp := chunkOk_parts hk; exact is_true (p := Typed tab (.slice 2) (.l D) ∧ D.length = C.length ∧ C.all (inR 1 40) = true) ⟨hD, hp.1, hp.2.1⟩) ?_
  refine andT (by exact is_true ⟨rfl, rfl, gridL_ty rfl hD, rfl⟩) ?_
  refine andT (by exact is_true ⟨rfl, rfl, keys_num hk, gridL_ty rfl hD, fun h => prod_pos h⟩) ?_
  rfl
theorem qc_vv (D C : LL) : qc_v D C = keysL (gridL D C) (prodL (gridL D C)).toNat := rfl
noncomputable def qh_t (D C : LL) : Tr (LL) := (.ite ((qg_c D C) = true) (.ite ((!(qg_v D C)) = true) (.ok ([]))
   (.ite ((qc_c D C) = true) (.ok (qc_v D C))
    .no))
  .no)
def qh_mk (p : LL) : Res := [(false, [⟨.slice 2, .own true, TC.l p⟩])]
noncomputable def qh_c (D C : LL) : Bool := ((qg_c D C) && (bif (!(qg_v D C)) then true else ((qc_c D C) && true)))
noncomputable def qh_v (D C : LL) : LL := (bif (!(qg_v D C)) then [] else (qc_v D C))
theorem qh_l (D C : LL) : (qh_c D C) = true → (qh_t D C).val = some (qh_v D C) := by
  unfold qh_t qh_v qh_c
  exact fun h => (Tr.gb h fun h => (Tr.ss h (fun h => rfl) (fun h => (Tr.gb h fun h => rfl))))
noncomputable def qh_S : List Arg → Option (Bool × Res) := fun xs => match xs with
  | [(false, [(.slice 2, TC.l D)]), (false, [(.slice 2, TC.l C)])] => some ((qh_c D C), qh_mk (qh_v D C))
  | _ => .none
theorem qh_e (D C : LL) : runF tab FT D22 live 14 noLoops [(false, [(.slice 2, TC.l D)]), (false, [(.slice 2, TC.l C)])] = (qh_t D C).run fun p => some (qh_mk p) := by kernel_rfl
theorem qh_s : ∀ xs r, qh_S xs = some (true, r) → runF tab FT D22 live 14 noLoops xs = some r := by
  intro xs r h
  unfold qh_S at h
  split at h
  · simp only [Option.some.injEq, Prod.mk.injEq] at h
    obtain ⟨h1, rfl⟩ := h
    exact fun_told (qh_e _ _) (qh_l _ _) h1
  · cases h
noncomputable def D23 : Dt := also D22 14 qh_S
theorem d23 : DOk Go.Proofs.Try.prog tab D23 := d22.also mixed_ok tab_ok names_ok noLoops_ok qh_s
theorem qh_cc {D : LL} {C : LL} (hD : Typed tab (.slice 2) (.l D)) (hC : Typed tab (.slice 2) (.l C)) : (qh_c D C) = true := by
  unfold qh_c
  refine andT (by first | (apply qg_cc <;> assumption) | (first | (apply is_true; and_intros <;> (first | rfl | assumption | (apply qa_cc <;> assumption) | (apply qb_cc <;> assumption) | (apply qd_cc <;> assumption) | (apply qg_cc <;> assumption) | (apply qc_cc <;> assumption) | (first | (apply is_true; and_intros <;> (first | rfl | assumption | (apply qa_cc <;> assumption) | (apply qb_cc <;> assumption) | (apply qd_cc <;> assumption) | (apply qg_cc <;> assumption) | (apply qc_cc <;> assumption))) | (apply qa_cc <;> assumption) | (apply qb_cc <;> assumption) | (apply qd_cc <;> assumption) | (apply qg_cc <;> assumption) | (apply qc_cc <;> assumption)))) | (apply qa_cc <;> assumption) | (apply qb_cc <;> assumption) | (apply qd_cc <;> assumption) | (apply qg_cc <;> assumption) | (apply qc_cc <;> assumption))) ?_
  refine bifT (fun b1 => ?_) (fun b1 => ?_)
  · skip
    rfl
  · skip
    refine andT (by exact qc_cc hD ((qg_vv _ _).symm.trans (notF b1))) ?_
    rfl
theorem qh_vv (D C : LL) : qh_v D C = keysV D C := by
  unfold qh_v keysV
  rw [qg_vv]
  cases chunkOk D C <;> rfl
abbrev qk_4_σ := LL × LL × Int
abbrev qk_4_ω := (Unit) ⊕ (Unit)
noncomputable def qk_4_step (A C : LL) (i : Int) : Tr (qk_4_σ ⊕ qk_4_ω) := (.ite ((decide (i < (A.length : Int))) = true) (.ite ((0 : Int) ≤ i ∧ i < (A.length : Int)) (.ite ((0 : Int) ≤ i ∧ i < (C.length : Int)) (.ite ((!((nth (row A i) 0).int == (nth (row C i) 0).int)) = true) (.ok (.inr (.inl ())))
     (.ok (.inl (A, C, (IntKind.wrap .i64 (i + (1 : Int)))))))
    .no)
   .no)
  (.ok (.inr (.inr ()))))
noncomputable def qk_4_st : qk_4_σ → Tr (qk_4_σ ⊕ qk_4_ω) := fun x => (qk_4_step (x.1) (x.2.1) (x.2.2))
noncomputable def qk_o4_1 (A C : LL) (i : Int) : Bool := is (A = C ∧ i = 0 ∧ Typed tab (.slice 2) (.l A))
noncomputable def qk_4_fin (A C : LL) (i : Int) : Told qk_4_ω := (.leaf (qk_o4_1 A C i) (.inr ()))
def qk_4_sl (x : qk_4_σ) : List Slot := [⟨.val false [⟨.slice 2, .sh, TC.l (x.1)⟩], ⟨0, 0⟩⟩, ⟨.val false [⟨.slice 2, .sh, TC.l (x.2.1)⟩], ⟨0, 0⟩⟩, ⟨.val false [⟨.int .i64, .sh, TC.i (x.2.2)⟩], ⟨0, 0⟩⟩]
def qk_4_out : qk_4_ω → Ex × List Slot := (Sum.elim (fun x => (.ret, [⟨.val false [⟨.bool, .sh, TC.b false⟩], ⟨0, 0⟩⟩])) (fun x => (.exit 0, [Slot.none])))
noncomputable def qk_lo4 : List Slot → Option (Told (Ex × List Slot)) := fun s => match s with
  | [⟨.val false [⟨.slice 2, .sh, TC.l A⟩], ⟨0, 0⟩⟩, ⟨.val false [⟨.slice 2, .sh, TC.l C⟩], ⟨0, 0⟩⟩, ⟨.val false [⟨.int .i64, .sh, TC.i i⟩], ⟨0, 0⟩⟩] => some (((qk_4_fin A C i)).map qk_4_out)
  | _ => .none
noncomputable def qk_lo : LoopTeller := fun r s => bif Nat.beq r 4 then qk_lo4 s else .none
theorem qk_4_r (A C : LL) (i : Int) (fuel : Nat) : rounds (rnd tab FT D23 live 15 qk_lo 0 4) leave (fuel + 1) (qk_4_sl (A, C, i)) = ((qk_4_step A C i)).run (goOn (fun s => rounds (rnd tab FT D23 live 15 qk_lo 0 4) leave fuel (qk_4_sl s)) fun w => some (qk_4_out w)) := by kernel_rfl
theorem qk_4_h (A C : LL) (i : Int) (ow : qk_4_ω) : ((qk_4_fin A C i)).val = some ow → ∃ fuel, loopN qk_4_st fuel (A, C, i) = some ow := by
  intro h
  simp only [qk_4_fin, Told.val] at h
  split at h
  · rename_i ho
    obtain ⟨rfl, rfl, ht⟩ := is_iff.1 ho
    cases h
    have hlen : A.length ≤ 140737488351232 := by have := typed_room ht; simp only [show (tab 2).bytes = 8 from rfl] at this; omega
    refine ⟨_, loopN_run (N := A.length) (fun i => (A, A, (i : Int))) (fun i hi => ?_) ?_ A.length 0 (by omega)⟩
    · skip
      show (qk_4_step A A (i : Int)).val = _
      unfold qk_4_step
      refine Tr.t (by simp; omega) ?_
      refine Tr.t (by constructor <;> omega) ?_
      refine Tr.t (by constructor <;> omega) ?_
      refine Tr.n (by simp) ?_
      rw [Tr.val_ok, wrap64 (i := (i : Int) + 1) (by omega) (by omega)]; rfl
    · show (qk_4_step A A (A.length : Int)).val = _
      refine Tr.n (by simp) ?_
      rfl
  · cases h
theorem qk_is4 : LoopIs tab FT D23 live 15 qk_lo 0 4 := by
  refine loop_told (sl := qk_4_sl) (step := qk_4_st) (out := qk_4_out) (lor := qk_lo4) (fin := fun x => (qk_4_fin (x.1) (x.2.1) (x.2.2))) (fun _ => rfl) ?_ (fun x n => qk_4_r x.1 x.2.1 x.2.2 n) (fun x ow => qk_4_h x.1 x.2.1 x.2.2 ow)
  intro s t h
  unfold qk_lo4 at h
  split at h
  · cases h; exact ⟨(_, _, _), rfl, rfl⟩
  · cases h
noncomputable def qk_t (A C : LL) : Tr (Bool) := (.ite ((!((A.length : Int) == (C.length : Int))) = true) (.ok false)
  (.ite ((qk_o4_1 A C (0 : Int)) = true) (.ok true)
   .no))
def qk_mk (p : Bool) : Res := [(false, [⟨.bool, .sh, TC.b p⟩])]
noncomputable def qk_c (A C : LL) : Bool := is (A = C ∧ Typed tab (.slice 2) (.l A))
noncomputable def qk_v (A C : LL) : Bool := true
theorem qk_l (A C : LL) : (qk_c A C) = true → (qk_t A C).val = some (qk_v A C) := by
  intro h
  obtain ⟨rfl, ht⟩ := is_iff.1 h
  unfold qk_t
  refine Tr.n (by simp) ?_
  refine Tr.t (by first | (apply is_true; and_intros <;> (first | rfl | assumption | (apply qa_cc <;> assumption) | (apply qb_cc <;> assumption) | (apply qd_cc <;> assumption) | (apply qg_cc <;> assumption) | (apply qc_cc <;> assumption) | (apply qh_cc <;> assumption) | (first | (apply is_true; and_intros <;> (first | rfl | assumption | (apply qa_cc <;> assumption) | (apply qb_cc <;> assumption) | (apply qd_cc <;> assumption) | (apply qg_cc <;> assumption) | (apply qc_cc <;> assumption) | (apply qh_cc <;> assumption) | (first | (apply is_true; and_intros <;> (first | rfl | assumption | (apply qa_cc <;> assumption) | (apply qb_cc <;> assumption) | (apply qd_cc <;> assumption) | (apply qg_cc <;> assumption) | (apply qc_cc <;> assumption) | (apply qh_cc <;> assumption) | (first | (apply is_true; and_intros <;> (first | rfl | assumption | (apply qa_cc <;> assumption) | (apply qb_cc <;> assumption) | (apply qd_cc <;> assumption) | (apply qg_cc <;> assumption) | (apply qc_cc <;> assumption) | (apply qh_cc <;> assumption))) | (apply qa_cc <;> assumption) | (apply qb_cc <;> assumption) | (apply qd_cc <;> assumption) | (apply qg_cc <;> assumption) | (apply qc_cc <;> assumption) | (apply qh_cc <;> assumption)))) | (apply qa_cc <;> assumption) | (apply qb_cc <;> assumption) | (apply qd_cc <;> assumption) | (apply qg_cc <;> assumption) | (apply qc_cc <;> assumption) | (apply qh_cc <;> assumption)))) | (apply qa_cc <;> assumption) | (apply qb_cc <;> assumption) | (apply qd_cc <;> assumption) | (apply qg_cc <;> assumption) | (apply qc_cc <;> assumption) | (apply qh_cc <;> assumption)))) | (apply qa_cc <;> assumption) | (apply qb_cc <;> assumption) | (apply qd_cc <;> assumption) | (apply qg_cc <;> assumption) | (apply qc_cc <;> assumption) | (apply qh_cc <;> assumption)) ?_
  rfl
noncomputable def qk_S : List Arg → Option (Bool × Res) := fun xs => match xs with
  | [(false, [(.slice 2, TC.l A)]), (false, [(.slice 2, TC.l C)])] => some ((qk_c A C), qk_mk (qk_v A C))
  | _ => .none
theorem qk_e (A C : LL) : runF tab FT D23 live 15 qk_lo [(false, [(.slice 2, TC.l A)]), (false, [(.slice 2, TC.l C)])] = (qk_t A C).run fun p => some (qk_mk p) := by kernel_rfl
theorem qk_s : ∀ xs r, qk_S xs = some (true, r) → runF tab FT D23 live 15 qk_lo xs = some r := by
  intro xs r h
  unfold qk_S at h
  split at h
  · simp only [Option.some.injEq, Prod.mk.injEq] at h
    obtain ⟨h1, rfl⟩ := h
    exact fun_told (qk_e _ _) (qk_l _ _) h1
  · cases h
noncomputable def D24 : Dt := also D23 15 qk_S
theorem d24 : DOk Go.Proofs.Try.prog tab D24 := d23.also mixed_ok tab_ok names_ok (fnLoops_one (by kernel_rfl) qk_is4) qk_s
noncomputable def mkR_2 (k : Int) : List TC := [TC.i k]
theorem mkR_2_len (k : Int) : (mkR_2 k).length = 1 := rfl
noncomputable def mkL_2 (k : Int) (n : Nat) : LL := madeL (fun i => mkR_2 (k + 1 * (i : Int))) n
theorem mkL_2_length {k : Int} {n : Nat} : (mkL_2 k n).length = n := madeL_length
abbrev qf_2_σ := Int × Int × LL
abbrev qf_2_ω := (Int × LL)
noncomputable def qf_2_step (k i : Int) (A : LL) : Tr (qf_2_σ ⊕ qf_2_ω) := (.ite ((decide (i < (A.length : Int))) = true) (.ite ((0 : Int) ≤ i ∧ i < (A.length : Int)) (.ok (.inl ((IntKind.wrap .i64 (k + (1 : Int))), (IntKind.wrap .i64 (i + (1 : Int))), (A.set (i).toNat (splice (row A i) 0 [TC.i k])))))
   .no)
  (.ok (.inr (k, A))))
noncomputable def qf_2_st : qf_2_σ → Tr (qf_2_σ ⊕ qf_2_ω) := fun x => (qf_2_step (x.1) (x.2.1) (x.2.2))
noncomputable def qf_o2_1 (k i : Int) (A : LL) : Bool := is ((∀ x, x ∈ A → x.length = 1) ∧ A.length ≤ 140737488351232 ∧ 0 ≤ k ∧ k ≤ 2305843009213693952 ∧ i = 0)
noncomputable def qf_u2_1_0 (k i : Int) (A : LL) : Int := k + 1 * (A.length : Int)
noncomputable def qf_u2_1_1 (k i : Int) (A : LL) : LL := mkL_2 k A.length
noncomputable def qf_2_fin (k i : Int) (A : LL) : Told qf_2_ω := (.leaf (qf_o2_1 k i A) ((qf_u2_1_0 k i A), (qf_u2_1_1 k i A)))
def qf_2_sl (x : qf_2_σ) : List Slot := [⟨.gal false 0 1, ⟨0, 0⟩⟩, ⟨.val false [⟨.int .i64, .sh, TC.i (x.1)⟩], ⟨0, 0⟩⟩, ⟨.val false [⟨.int .i64, .sh, TC.i (x.2.1)⟩], ⟨0, 0⟩⟩, ⟨.gv [⟨.slice 2, .own true, TC.l (x.2.2)⟩], ⟨0, 0⟩⟩]
def qf_2_out : qf_2_ω → Ex × List Slot := (fun x => (.exit 0, [⟨.val false [⟨.int .i64, .sh, TC.i (x.1)⟩], ⟨0, 0⟩⟩, Slot.none, ⟨.gv [⟨.slice 2, .own true, TC.l (x.2)⟩], ⟨0, 0⟩⟩]))
noncomputable def qf_lo2 : List Slot → Option (Told (Ex × List Slot)) := fun s => match s with
  | [⟨.gal false 0 1, ⟨0, 0⟩⟩, ⟨.val false [⟨.int .i64, .sh, TC.i k⟩], ⟨0, 0⟩⟩, ⟨.val false [⟨.int .i64, .sh, TC.i i⟩], ⟨0, 0⟩⟩, ⟨.gv [⟨.slice 2, .own true, TC.l A⟩], ⟨0, 0⟩⟩] => some (((qf_2_fin k i A)).map qf_2_out)
  | _ => .none
noncomputable def qf_lo : LoopTeller := fun r s => bif Nat.beq r 2 then qf_lo2 s else .none
theorem qf_2_r (k i : Int) (A : LL) (fuel : Nat) : rounds (rnd tab FT D24 live 16 qf_lo 0 2) leave (fuel + 1) (qf_2_sl (k, i, A)) = ((qf_2_step k i A)).run (goOn (fun s => rounds (rnd tab FT D24 live 16 qf_lo 0 2) leave fuel (qf_2_sl s)) fun w => some (qf_2_out w)) := by kernel_rfl
theorem qf_2_h (k i : Int) (A : LL) (ow : qf_2_ω) : ((qf_2_fin k i A)).val = some ow → ∃ fuel, loopN qf_2_st fuel (k, i, A) = some ow := by
  intro h
  refine auto_leaf (R := (k + 1 * (A.length : Int), mkL_2 k A.length)) (fun ho => ?_) h
  obtain ⟨hr, hl, h0, h1, rfl⟩ := is_iff.1 ho
  have key := loopN_over (step := qf_2_st) A 1 (fun i => mkR_2 (k + 1 * (i : Int))) (fun Y i => (k + 1 * (i : Int), (i : Int), Y)) (k + 1 * (A.length : Int), mkL_2 k A.length) hr (fun _ => rfl) (fun Y i hi hY hy => ?_) ?_ A.length 0 (by omega)
  · exact ⟨A.length + 1, Eq.trans (congrArg (loopN qf_2_st (A.length + 1)) (by simp [madeL])) key⟩
  · obtain ⟨kk, hkk⟩ : ∃ kk : Int, kk = k + 1 * (i : Int) := ⟨_, rfl⟩
    have hk0 : 0 ≤ kk := by omega
    have hk1 : kk + 1 ≤ 4611686018427387904 := by omega
    have hy : ∃ y0, row Y (i : Int) = [y0] := len_1 hy
    obtain ⟨y0, hy⟩ := hy
    have hiY : i < Y.length := by omega
    show (qf_2_step (k + 1 * (i : Int)) (i : Int) Y).val = _
    rw [← hkk]
    unfold qf_2_step
    rw [wrap64 (i := kk + 1) (by omega) (by omega)]
    try rw [wrap64 (i := kk) (by omega) (by omega)]
    refine Tr.t (by simp; omega) ?_
    refine Tr.t (by constructor <;> (try simp only [List.length_set]) <;> omega) ?_
    rw [Tr.val_ok, wrap64 (i := (i : Int) + 1) (by omega) (by omega)]
    simp only [Int.toNat_natCast, hy, row_set, List.length_set, hiY, List.set_set]
    show some (Sum.inl (_, _, _)) = some (Sum.inl (_, _, _))
    rw [show k + 1 * ((i + 1 : Nat) : Int) = kk + 1 from by omega]
    rfl
  · show (qf_2_step (k + 1 * (A.length : Int)) (A.length : Int) (mkL_2 k A.length)).val = _
    unfold qf_2_step
    refine Tr.n (by simp [mkL_2_length]) ?_
    rfl
theorem qf_is2 : LoopIs tab FT D24 live 16 qf_lo 0 2 := by
  refine loop_told (sl := qf_2_sl) (step := qf_2_st) (out := qf_2_out) (lor := qf_lo2) (fin := fun x => (qf_2_fin (x.1) (x.2.1) (x.2.2))) (fun _ => rfl) ?_ (fun x n => qf_2_r x.1 x.2.1 x.2.2 n) (fun x ow => qf_2_h x.1 x.2.1 x.2.2 ow)
  intro s t h
  unfold qf_lo2 at h
  split at h
  · cases h; exact ⟨(_, _, _), rfl, rfl⟩
  · cases h
noncomputable def qf_t (A : LL) (k : Int) : Tr (LL × Int) := (.ite ((qf_o2_1 k (0 : Int) A) = true) (.ok ((qf_u2_1_1 k (0 : Int) A), (qf_u2_1_0 k (0 : Int) A)))
  .no)
def qf_mk (p : LL × Int) : Res := [(true, [⟨.slice 2, .own true, TC.l (p.1)⟩]), (false, [⟨.int .i64, .sh, TC.i (p.2)⟩])]
noncomputable def qf_c (A : LL) (k : Int) : Bool := is ((∀ x, x ∈ A → x.length = 1) ∧ A.length ≤ 140737488351232 ∧ 0 ≤ k ∧ k ≤ 2305843009213693952)
noncomputable def qf_v (A : LL) (k : Int) : LL × Int := (mkL_2 k A.length, k + 1 * (A.length : Int))
theorem qf_l (A : LL) (k : Int) : (qf_c A k) = true → (qf_t A k).val = some (qf_v A k) := by
  intro h
  obtain ⟨hr, hl, h0, h1⟩ := is_iff.1 h
  unfold qf_t
  exact Tr.t (is_true ⟨hr, hl, h0, h1, rfl⟩) rfl
noncomputable def qf_S : List Arg → Option (Bool × Res) := fun xs => match xs with
  | [(false, [(.slice 2, TC.l A)]), (false, [(.int .i64, TC.i k)])] => some ((qf_c A k), qf_mk (qf_v A k))
  | _ => .none
theorem qf_e (A : LL) (k : Int) : runFW false tab FT D24 live 16 qf_lo (false, [(.slice 2, TC.l A)]) [(false, [(.int .i64, TC.i k)])] = (qf_t A k).run fun p => some (qf_mk p) := by kernel_rfl
theorem qf_s0 : ∀ ys r, qf_S ys = some (true, r) → ∀ a0 xs, ys = a0 :: xs → runFW false tab FT D24 live 16 qf_lo a0 xs = some r := by
  intro ys r h
  unfold qf_S at h
  split at h
  · simp only [Option.some.injEq, Prod.mk.injEq] at h
    obtain ⟨h1, rfl⟩ := h
    intro a0 xs e
    cases e
    exact fun_toldW (qf_e _ _) (qf_l _ _) h1
  · cases h
theorem qf_s : ∀ a0 xs r, qf_S (a0 :: xs) = some (true, r) → runFW false tab FT D24 live 16 qf_lo a0 xs = some r := fun a0 xs r h => qf_s0 _ r h a0 xs rfl
noncomputable def D25 : Dt := alsoW D24 16 qf_S
theorem d25 : DOk Go.Proofs.Try.prog tab D25 := d24.alsoW mixed_ok tab_ok names_ok (fnLoops_one (by kernel_rfl) qf_is2) qf_s
theorem qf_cc {A : LL} {k : Int} (ht : Typed tab (.slice 2) (.l A)) (hl : A.length ≤ 140737488351232) (h0 : 0 ≤ k) (h1 : k ≤ 2305843009213693952) : qf_c A k = true := is_true ⟨typed_rows ht rfl, hl, h0, h1⟩
theorem qf_v2 {A : LL} {k : Int} : (qf_v A k).2 = k + 1 * (A.length : Int) := rfl
abbrev qi_2_σ := LL × Int × Int
abbrev qi_2_ω := (Int) ⊕ (Int)
noncomputable def qi_2_step (A : LL) (k i : Int) : Tr (qi_2_σ ⊕ qi_2_ω) := (.ite ((decide (i < (A.length : Int))) = true) (.ite ((0 : Int) ≤ i ∧ i < (A.length : Int)) (.ite ((!((nth (row A i) 0).int == k)) = true) (.ok (.inr (.inl k)))
    (.ok (.inl (A, (IntKind.wrap .i64 (k + (1 : Int))), (IntKind.wrap .i64 (i + (1 : Int)))))))
   .no)
  (.ok (.inr (.inr k))))
noncomputable def qi_2_st : qi_2_σ → Tr (qi_2_σ ⊕ qi_2_ω) := fun x => (qi_2_step (x.1) (x.2.1) (x.2.2))
noncomputable def qi_o2_1 (A : LL) (k i : Int) : Bool := is (A = mkL_2 k A.length ∧ A.length ≤ 140737488351232 ∧ 0 ≤ k ∧ k ≤ 2305843009213693952 ∧ i = 0)
noncomputable def qi_u2_1 (A : LL) (k i : Int) : Int := k + 1 * (A.length : Int)
noncomputable def qi_2_fin (A : LL) (k i : Int) : Told qi_2_ω := (.leaf (qi_o2_1 A k i) (.inr (qi_u2_1 A k i)))
def qi_2_sl (x : qi_2_σ) : List Slot := [⟨.val false [⟨.slice 2, .sh, TC.l (x.1)⟩], ⟨0, 0⟩⟩, ⟨.val false [⟨.int .i64, .sh, TC.i (x.2.1)⟩], ⟨0, 0⟩⟩, ⟨.val false [⟨.int .i64, .sh, TC.i (x.2.2)⟩], ⟨0, 0⟩⟩]
def qi_2_out : qi_2_ω → Ex × List Slot := (Sum.elim (fun x => (.ret, [⟨.val false [⟨.int .i64, .sh, TC.i x⟩], ⟨0, 0⟩⟩, ⟨.val false [⟨.int .i64, .sh, TC.i (-1 : Int)⟩], ⟨0, 0⟩⟩])) (fun x => (.exit 0, [⟨.val false [⟨.int .i64, .sh, TC.i x⟩], ⟨0, 0⟩⟩, Slot.none])))
noncomputable def qi_lo2 : List Slot → Option (Told (Ex × List Slot)) := fun s => match s with
  | [⟨.val false [⟨.slice 2, .sh, TC.l A⟩], ⟨0, 0⟩⟩, ⟨.val false [⟨.int .i64, .sh, TC.i k⟩], ⟨0, 0⟩⟩, ⟨.val false [⟨.int .i64, .sh, TC.i i⟩], ⟨0, 0⟩⟩] => some (((qi_2_fin A k i)).map qi_2_out)
  | _ => .none
noncomputable def qi_lo : LoopTeller := fun r s => bif Nat.beq r 2 then qi_lo2 s else .none
theorem qi_2_r (A : LL) (k i : Int) (fuel : Nat) : rounds (rnd tab FT D25 live 17 qi_lo 0 2) leave (fuel + 1) (qi_2_sl (A, k, i)) = ((qi_2_step A k i)).run (goOn (fun s => rounds (rnd tab FT D25 live 17 qi_lo 0 2) leave fuel (qi_2_sl s)) fun w => some (qi_2_out w)) := by kernel_rfl
theorem qi_2_h (A : LL) (k i : Int) (ow : qi_2_ω) : ((qi_2_fin A k i)).val = some ow → ∃ fuel, loopN qi_2_st fuel (A, k, i) = some ow := by
  intro h
  refine auto_leaf (R := Sum.inr (k + 1 * (A.length : Int))) (fun ho => ?_) h
  obtain ⟨hA, hl, h0, h1, rfl⟩ := is_iff.1 ho
  have key := loopN_run (step := qi_2_st) (N := A.length) (w := Sum.inr (k + 1 * (A.length : Int))) (fun i => (A, k + 1 * (i : Int), (i : Int))) (fun i hi => ?_) ?_ A.length 0 (by omega)
  · exact ⟨A.length + 1, Eq.trans (congrArg (loopN qi_2_st (A.length + 1)) (by simp)) key⟩
  · obtain ⟨kk, hkk⟩ : ∃ kk : Int, kk = k + 1 * (i : Int) := ⟨_, rfl⟩
    have hk0 : 0 ≤ kk := by omega
    have hk1 : kk + 1 ≤ 4611686018427387904 := by omega
    have hrow : row A (i : Int) = mkR_2 kk := by
      rw [hA]
      unfold mkL_2
      rw [row_madeL hi, hkk]
    show (qi_2_step A (k + 1 * (i : Int)) (i : Int)).val = _
    rw [← hkk]
    unfold qi_2_step
    rw [hrow]
    rw [wrap64 (i := kk + 1) (by omega) (by omega)]
    try rw [wrap64 (i := kk) (by omega) (by omega)]
    refine Tr.t (by simp; omega) ?_
    refine Tr.t (by constructor <;> omega) ?_
    refine Tr.n (by simp [nth, mkR_2, TC.str, TC.int, TC.bool]) ?_
    rw [Tr.val_ok, wrap64 (i := (i : Int) + 1) (by omega) (by omega)]
    show some (Sum.inl (_, _, _)) = some (Sum.inl (_, _, _))
    rw [show k + 1 * ((i + 1 : Nat) : Int) = kk + 1 from by omega]
    rfl
  · show (qi_2_step A (k + 1 * (A.length : Int)) (A.length : Int)).val = _
    unfold qi_2_step
    refine Tr.n (by simp) ?_
    rfl
theorem qi_is2 : LoopIs tab FT D25 live 17 qi_lo 0 2 := by
  refine loop_told (sl := qi_2_sl) (step := qi_2_st) (out := qi_2_out) (lor := qi_lo2) (fin := fun x => (qi_2_fin (x.1) (x.2.1) (x.2.2))) (fun _ => rfl) ?_ (fun x n => qi_2_r x.1 x.2.1 x.2.2 n) (fun x ow => qi_2_h x.1 x.2.1 x.2.2 ow)
  intro s t h
  unfold qi_lo2 at h
  split at h
  · cases h; exact ⟨(_, _, _), rfl, rfl⟩
  · cases h
noncomputable def qi_t (A : LL) (k : Int) : Tr (Int) := (.ite ((qi_o2_1 A k (0 : Int)) = true) (.ok (qi_u2_1 A k (0 : Int)))
  .no)
def qi_mk (p : Int) : Res := [(false, [⟨.int .i64, .sh, TC.i p⟩])]
noncomputable def qi_c (A : LL) (k : Int) : Bool := is (A = mkL_2 k A.length ∧ A.length ≤ 140737488351232 ∧ 0 ≤ k ∧ k ≤ 2305843009213693952)
noncomputable def qi_v (A : LL) (k : Int) : Int := k + 1 * (A.length : Int)
theorem qi_l (A : LL) (k : Int) : (qi_c A k) = true → (qi_t A k).val = some (qi_v A k) := by
  intro h
  obtain ⟨hr, hl, h0, h1⟩ := is_iff.1 h
  unfold qi_t
  exact Tr.t (is_true ⟨hr, hl, h0, h1, rfl⟩) rfl
noncomputable def qi_S : List Arg → Option (Bool × Res) := fun xs => match xs with
  | [(false, [(.slice 2, TC.l A)]), (false, [(.int .i64, TC.i k)])] => some ((qi_c A k), qi_mk (qi_v A k))
  | _ => .none
theorem qi_e (A : LL) (k : Int) : runF tab FT D25 live 17 qi_lo [(false, [(.slice 2, TC.l A)]), (false, [(.int .i64, TC.i k)])] = (qi_t A k).run fun p => some (qi_mk p) := by kernel_rfl
theorem qi_s : ∀ xs r, qi_S xs = some (true, r) → runF tab FT D25 live 17 qi_lo xs = some r := by
  intro xs r h
  unfold qi_S at h
  split at h
  · simp only [Option.some.injEq, Prod.mk.injEq] at h
    obtain ⟨h1, rfl⟩ := h
    exact fun_told (qi_e _ _) (qi_l _ _) h1
  · cases h
noncomputable def D26 : Dt := also D25 17 qi_S
theorem d26 : DOk Go.Proofs.Try.prog tab D26 := d25.also mixed_ok tab_ok names_ok (fnLoops_one (by kernel_rfl) qi_is2) qi_s
theorem qi_cc {A : LL} {k : Int} (hl : A.length ≤ 140737488351232) (h0 : 0 ≤ k) (h1 : k ≤ 2305843009213693952) : qi_c (qf_v A k).1 k = true := is_true ⟨by show mkL_2 k A.length = mkL_2 k (mkL_2 k A.length).length; rw [mkL_2_length], by show (mkL_2 k A.length).length ≤ _; rw [mkL_2_length]; exact hl, h0, h1⟩
theorem qi_vm {A : LL} {k : Int} : qi_v (qf_v A k).1 k = (qf_v A k).2 := by
  show k + 1 * ((mkL_2 k A.length).length : Int) = k + 1 * (A.length : Int)
  rw [mkL_2_length]
noncomputable def laws_FnExactChunkKeys_t (x0 x1 : LL) : Tr Bool := (.ite ((decide ((x0.length : Int) > (1048576 : Int))) = true) (.ok true)
  (.ite ((decide ((x1.length : Int) > (1048576 : Int))) = true) (.ok true)
   (.ite ((qj_c x0) = true) (.ite ((qj_c x1) = true) (.ite ((qd_c (qj_v x0) (qj_v x1)) = true) (.ite ((qj_c x0) = true) (.ite ((qj_c x1) = true) (.ite ((qh_c (qj_v x0) (qj_v x1)) = true) (.ite ((qk_c (qh_v (qj_v x0) (qj_v x1)) (qd_v (qj_v x0) (qj_v x1))) = true) (.ite ((!(qk_v (qh_v (qj_v x0) (qj_v x1)) (qd_v (qj_v x0) (qj_v x1)))) = true) (.ok false)
           (.ite ((qj_c x0) = true) (.ite ((qk_c (qj_v x0) (qj_v x0)) = true) (.ite ((!(qk_v (qj_v x0) (qj_v x0))) = true) (.ok false)
              (.ite ((qj_c x1) = true) (.ite ((qk_c (qj_v x1) (qj_v x1)) = true) (.ite ((!(qk_v (qj_v x1) (qj_v x1))) = true) (.ok false)
                 (.ite ((qf_c (qj_v x0) (1 : Int)) = true) (.ite ((qf_c (qj_v x1) ((qf_v (qj_v x0) (1 : Int)).2)) = true) (.ite ((decide ((qf_v (qj_v x1) ((qf_v (qj_v x0) (1 : Int)).2)).2 < (0 : Int))) = true) (.ok false)
                    (.ite ((qk_c (qh_v (qj_v x0) (qj_v x1)) (qd_v (qj_v x0) (qj_v x1))) = true) (.ite ((!(qk_v (qh_v (qj_v x0) (qj_v x1)) (qd_v (qj_v x0) (qj_v x1)))) = true) (.ok false)
                      (.ite ((qf_c (qh_v (qj_v x0) (qj_v x1)) (1 : Int)) = true) (.ite ((qi_c ((qf_v (qh_v (qj_v x0) (qj_v x1)) (1 : Int)).1) (1 : Int)) = true) (.ite ((decide ((qi_v ((qf_v (qh_v (qj_v x0) (qj_v x1)) (1 : Int)).1) (1 : Int)) < (0 : Int))) = true) (.ok false)
                         (.ite ((!((qi_v ((qf_v (qh_v (qj_v x0) (qj_v x1)) (1 : Int)).1) (1 : Int)) == (qf_v (qh_v (qj_v x0) (qj_v x1)) (1 : Int)).2)) = true) (.ok false)
                          (.ite ((qj_c x0) = true) (.ite ((qj_c x1) = true) (.ite ((qh_c (qj_v x0) (qj_v x1)) = true) (.ite ((qk_c (qh_v (qj_v x0) (qj_v x1)) (qd_v (qj_v x0) (qj_v x1))) = true) (.ite ((!(qk_v (qh_v (qj_v x0) (qj_v x1)) (qd_v (qj_v x0) (qj_v x1)))) = true) (.ok false)
                               (.ite ((qi_c ((qf_v (qh_v (qj_v x0) (qj_v x1)) (1 : Int)).1) (1 : Int)) = true) (.ite ((decide ((qi_v ((qf_v (qh_v (qj_v x0) (qj_v x1)) (1 : Int)).1) (1 : Int)) < (0 : Int))) = true) (.ok false)
                                 (.ite ((!((qi_v ((qf_v (qh_v (qj_v x0) (qj_v x1)) (1 : Int)).1) (1 : Int)) == (qf_v (qh_v (qj_v x0) (qj_v x1)) (1 : Int)).2)) = true) (.ok false)
                                  (.ok true)))
                                .no))
                              .no)
                             .no)
                            .no)
                           .no)))
                        .no)
                       .no))
                     .no))
                   .no)
                  .no))
                .no)
               .no))
             .no)
            .no))
          .no)
         .no)
        .no)
       .no)
      .no)
     .no)
    .no)))
theorem laws_FnExactChunkKeys_e (x0 x1 : LL) : runF tab FT D26 live 3 noLoops [(false, [(.slice 2, TC.l x0)]), (false, [(.slice 2, TC.l x1)])] = (laws_FnExactChunkKeys_t x0 x1).run fun p => some [(false, [⟨.bool, .sh, .b p⟩])] := by kernel_rfl
theorem laws_FnExactChunkKeys_p (x0 x1 : LL) (h0 : Typed tab (.slice 2) (.l x0)) (h1 : Typed tab (.slice 2) (.l x1)) : (laws_FnExactChunkKeys_t x0 x1).val = some true := by
  have t0_2 := qj_ty h0
  have t1_2 := qj_ty h1
  have hr0 := typed_room t0_2
  have hr1 := typed_room t1_2
  have ht := keysV_ty (e := 2) (C := List.map qj_g x1) (D := List.map qj_g x0) rfl rfl
  have hr2 := typed_room ht
  simp only [show (tab 2).bytes = 8 from rfl] at hr0 hr1 hr2
  unfold laws_FnExactChunkKeys_t
  simp only [qd_vv, qh_vv, qj_v]
  refine Tr.y ?_
  refine Tr.y ?_
  refine Tr.t (by first | exact (by first | (apply is_true; and_intros <;> (first | rfl | assumption | (apply qa_cc <;> assumption) | (apply qb_cc <;> assumption) | (apply qd_cc <;> assumption) | (apply qg_cc <;> assumption) | (apply qc_cc <;> assumption) | (apply qh_cc <;> assumption) | (first | (apply is_true; and_intros <;> (first | rfl | assumption | (apply qa_cc <;> assumption) | (apply qb_cc <;> assumption) | (apply qd_cc <;> assumption) | (apply qg_cc <;> assumption) | (apply qc_cc <;> assumption) | (apply qh_cc <;> assumption) | (first | (apply is_true; and_intros <;> (first | rfl | assumption | (apply qa_cc <;> assumption) | (apply qb_cc <;> assumption) | (apply qd_cc <;> assumption) | (apply qg_cc <;> assumption) | (apply qc_cc <;> assumption) | (apply qh_cc <;> assumption) | (first | (apply is_true; and_intros <;> (first | rfl | assumption | (apply qa_cc <;> assumption) | (apply qb_cc <;> assumption) | (apply qd_cc <;> assumption) | (apply qg_cc <;> assumption) | (apply qc_cc <;> assumption) | (apply qh_cc <;> assumption))) | (apply qa_cc <;> assumption) | (apply qb_cc <;> assumption) | (apply qd_cc <;> assumption) | (apply qg_cc <;> assumption) | (apply qc_cc <;> assumption) | (apply qh_cc <;> assumption)))) | (apply qa_cc <;> assumption) | (apply qb_cc <;> assumption) | (apply qd_cc <;> assumption) | (apply qg_cc <;> assumption) | (apply qc_cc <;> assumption) | (apply qh_cc <;> assumption)))) | (apply qa_cc <;> assumption) | (apply qb_cc <;> assumption) | (apply qd_cc <;> assumption) | (apply qg_cc <;> assumption) | (apply qc_cc <;> assumption) | (apply qh_cc <;> assumption)))) | (apply qa_cc <;> assumption) | (apply qb_cc <;> assumption) | (apply qd_cc <;> assumption) | (apply qg_cc <;> assumption) | (apply qc_cc <;> assumption) | (apply qh_cc <;> assumption)) | simp [*]) ?_
  refine Tr.t (by first | exact (by first | (apply is_true; and_intros <;> (first | rfl | assumption | (apply qa_cc <;> assumption) | (apply qb_cc <;> assumption) | (apply qd_cc <;> assumption) | (apply qg_cc <;> assumption) | (apply qc_cc <;> assumption) | (apply qh_cc <;> assumption) | (first | (apply is_true; and_intros <;> (first | rfl | assumption | (apply qa_cc <;> assumption) | (apply qb_cc <;> assumption) | (apply qd_cc <;> assumption) | (apply qg_cc <;> assumption) | (apply qc_cc <;> assumption) | (apply qh_cc <;> assumption) | (first | (apply is_true; and_intros <;> (first | rfl | assumption | (apply qa_cc <;> assumption) | (apply qb_cc <;> assumption) | (apply qd_cc <;> assumption) | (apply qg_cc <;> assumption) | (apply qc_cc <;> assumption) | (apply qh_cc <;> assumption) | (first | (apply is_true; and_intros <;> (first | rfl | assumption | (apply qa_cc <;> assumption) | (apply qb_cc <;> assumption) | (apply qd_cc <;> assumption) | (apply qg_cc <;> assumption) | (apply qc_cc <;> assumption) | (apply qh_cc <;> assumption))) | (apply qa_cc <;> assumption) | (apply qb_cc <;> assumption) | (apply qd_cc <;> assumption) | (apply qg_cc <;> assumption) | (apply qc_cc <;> assumption) | (apply qh_cc <;> assumption)))) | (apply qa_cc <;> assumption) | (apply qb_cc <;> assumption) | (apply qd_cc <;> assumption) | (apply qg_cc <;> assumption) | (apply qc_cc <;> assumption) | (apply qh_cc <;> assumption)))) | (apply qa_cc <;> assumption) | (apply qb_cc <;> assumption) | (apply qd_cc <;> assumption) | (apply qg_cc <;> assumption) | (apply qc_cc <;> assumption) | (apply qh_cc <;> assumption)))) | (apply qa_cc <;> assumption) | (apply qb_cc <;> assumption) | (apply qd_cc <;> assumption) | (apply qg_cc <;> assumption) | (apply qc_cc <;> assumption) | (apply qh_cc <;> assumption)) | simp [*]) ?_
  refine Tr.t (by first | exact (by first | (apply qd_cc <;> assumption) | (first | (apply is_true; and_intros <;> (first | rfl | assumption | (apply qa_cc <;> assumption) | (apply qb_cc <;> assumption) | (apply qd_cc <;> assumption) | (apply qg_cc <;> assumption) | (apply qc_cc <;> assumption) | (apply qh_cc <;> assumption) | (first | (apply is_true; and_intros <;> (first | rfl | assumption | (apply qa_cc <;> assumption) | (apply qb_cc <;> assumption) | (apply qd_cc <;> assumption) | (apply qg_cc <;> assumption) | (apply qc_cc <;> assumption) | (apply qh_cc <;> assumption))) | (apply qa_cc <;> assumption) | (apply qb_cc <;> assumption) | (apply qd_cc <;> assumption) | (apply qg_cc <;> assumption) | (apply qc_cc <;> assumption) | (apply qh_cc <;> assumption)))) | (apply qa_cc <;> assumption) | (apply qb_cc <;> assumption) | (apply qd_cc <;> assumption) | (apply qg_cc <;> assumption) | (apply qc_cc <;> assumption) | (apply qh_cc <;> assumption))) | simp [*]) ?_
  refine Tr.t (by first | exact (by first | (apply is_true; and_intros <;> (first | rfl | assumption | (apply qa_cc <;> assumption) | (apply qb_cc <;> assumption) | (apply qd_cc <;> assumption) | (apply qg_cc <;> assumption) | (apply qc_cc <;> assumption) | (apply qh_cc <;> assumption) | (first | (apply is_true; and_intros <;> (first | rfl | assumption | (apply qa_cc <;> assumption) | (apply qb_cc <;> assumption) | (apply qd_cc <;> assumption) | (apply qg_cc <;> assumption) | (apply qc_cc <;> assumption) | (apply qh_cc <;> assumption) | (first | (apply is_true; and_intros <;> (first | rfl | assumption | (apply qa_cc <;> assumption) | (apply qb_cc <;> assumption) | (apply qd_cc <;> assumption) | (apply qg_cc <;> assumption) | (apply qc_cc <;> assumption) | (apply qh_cc <;> assumption) | (first | (apply is_true; and_intros <;> (first | rfl | assumption | (apply qa_cc <;> assumption) | (apply qb_cc <;> assumption) | (apply qd_cc <;> assumption) | (apply qg_cc <;> assumption) | (apply qc_cc <;> assumption) | (apply qh_cc <;> assumption))) | (apply qa_cc <;> assumption) | (apply qb_cc <;> assumption) | (apply qd_cc <;> assumption) | (apply qg_cc <;> assumption) | (apply qc_cc <;> assumption) | (apply qh_cc <;> assumption)))) | (apply qa_cc <;> assumption) | (apply qb_cc <;> assumption) | (apply qd_cc <;> assumption) | (apply qg_cc <;> assumption) | (apply qc_cc <;> assumption) | (apply qh_cc <;> assumption)))) | (apply qa_cc <;> assumption) | (apply qb_cc <;> assumption) | (apply qd_cc <;> assumption) | (apply qg_cc <;> assumption) | (apply qc_cc <;> assumption) | (apply qh_cc <;> assumption)))) | (apply qa_cc <;> assumption) | (apply qb_cc <;> assumption) | (apply qd_cc <;> assumption) | (apply qg_cc <;> assumption) | (apply qc_cc <;> assumption) | (apply qh_cc <;> assumption)) | simp [*]) ?_
  refine Tr.t (by first | exact (by first | (apply is_true; and_intros <;> (first | rfl | assumption | (apply qa_cc <;> assumption) | (apply qb_cc <;> assumption) | (apply qd_cc <;> assumption) | (apply qg_cc <;> assumption) | (apply qc_cc <;> assumption) | (apply qh_cc <;> assumption) | (first | (apply is_true; and_intros <;> (first | rfl | assumption | (apply qa_cc <;> assumption) | (apply qb_cc <;> assumption) | (apply qd_cc <;> assumption) | (apply qg_cc <;> assumption) | (apply qc_cc <;> assumption) | (apply qh_cc <;> assumption) | (first | (apply is_true; and_intros <;> (first | rfl | assumption | (apply qa_cc <;> assumption) | (apply qb_cc <;> assumption) | (apply qd_cc <;> assumption) | (apply qg_cc <;> assumption) | (apply qc_cc <;> assumption) | (apply qh_cc <;> assumption) | (first | (apply is_true; and_intros <;> (first | rfl | assumption | (apply qa_cc <;> assumption) | (apply qb_cc <;> assumption) | (apply qd_cc <;> assumption) | (apply qg_cc <;> assumption) | (apply qc_cc <;> assumption) | (apply qh_cc <;> assumption))) | (apply qa_cc <;> assumption) | (apply qb_cc <;> assumption) | (apply qd_cc <;> assumption) | (apply qg_cc <;> assumption) | (apply qc_cc <;> assumption) | (apply qh_cc <;> assumption)))) | (apply qa_cc <;> assumption) | (apply qb_cc <;> assumption) | (apply qd_cc <;> assumption) | (apply qg_cc <;> assumption) | (apply qc_cc <;> assumption) | (apply qh_cc <;> assumption)))) | (apply qa_cc <;> assumption) | (apply qb_cc <;> assumption) | (apply qd_cc <;> assumption) | (apply qg_cc <;> assumption) | (apply qc_cc <;> assumption) | (apply qh_cc <;> assumption)))) | (apply qa_cc <;> assumption) | (apply qb_cc <;> assumption) | (apply qd_cc <;> assumption) | (apply qg_cc <;> assumption) | (apply qc_cc <;> assumption) | (apply qh_cc <;> assumption)) | simp [*]) ?_
  refine Tr.t (by first | exact (by first | (apply qh_cc <;> assumption) | (first | (apply is_true; and_intros <;> (first | rfl | assumption | (apply qa_cc <;> assumption) | (apply qb_cc <;> assumption) | (apply qd_cc <;> assumption) | (apply qg_cc <;> assumption) | (apply qc_cc <;> assumption) | (apply qh_cc <;> assumption) | (first | (apply is_true; and_intros <;> (first | rfl | assumption | (apply qa_cc <;> assumption) | (apply qb_cc <;> assumption) | (apply qd_cc <;> assumption) | (apply qg_cc <;> assumption) | (apply qc_cc <;> assumption) | (apply qh_cc <;> assumption))) | (apply qa_cc <;> assumption) | (apply qb_cc <;> assumption) | (apply qd_cc <;> assumption) | (apply qg_cc <;> assumption) | (apply qc_cc <;> assumption) | (apply qh_cc <;> assumption)))) | (apply qa_cc <;> assumption) | (apply qb_cc <;> assumption) | (apply qd_cc <;> assumption) | (apply qg_cc <;> assumption) | (apply qc_cc <;> assumption) | (apply qh_cc <;> assumption))) | simp [*]) ?_
  refine Tr.t (by first | exact (by first | (apply is_true; and_intros <;> (first | rfl | assumption | (apply qa_cc <;> assumption) | (apply qb_cc <;> assumption) | (apply qd_cc <;> assumption) | (apply qg_cc <;> assumption) | (apply qc_cc <;> assumption) | (apply qh_cc <;> assumption) | (first | (apply is_true; and_intros <;> (first | rfl | assumption | (apply qa_cc <;> assumption) | (apply qb_cc <;> assumption) | (apply qd_cc <;> assumption) | (apply qg_cc <;> assumption) | (apply qc_cc <;> assumption) | (apply qh_cc <;> assumption) | (first | (apply is_true; and_intros <;> (first | rfl | assumption | (apply qa_cc <;> assumption) | (apply qb_cc <;> assumption) | (apply qd_cc <;> assumption) | (apply qg_cc <;> assumption) | (apply qc_cc <;> assumption) | (apply qh_cc <;> assumption) | (first | (apply is_true; and_intros <;> (first | rfl | assumption | (apply qa_cc <;> assumption) | (apply qb_cc <;> assumption) | (apply qd_cc <;> assumption) | (apply qg_cc <;> assumption) | (apply qc_cc <;> assumption) | (apply qh_cc <;> assumption))) | (apply qa_cc <;> assumption) | (apply qb_cc <;> assumption) | (apply qd_cc <;> assumption) | (apply qg_cc <;> assumption) | (apply qc_cc <;> assumption) | (apply qh_cc <;> assumption)))) | (apply qa_cc <;> assumption) | (apply qb_cc <;> assumption) | (apply qd_cc <;> assumption) | (apply qg_cc <;> assumption) | (apply qc_cc <;> assumption) | (apply qh_cc <;> assumption)))) | (apply qa_cc <;> assumption) | (apply qb_cc <;> assumption) | (apply qd_cc <;> assumption) | (apply qg_cc <;> assumption) | (apply qc_cc <;> assumption) | (apply qh_cc <;> assumption)))) | (apply qa_cc <;> assumption) | (apply qb_cc <;> assumption) | (apply qd_cc <;> assumption) | (apply qg_cc <;> assumption) | (apply qc_cc <;> assumption) | (apply qh_cc <;> assumption)) | simp [*]) ?_
  refine Tr.n (by first | (simp [qi_vm, qf_v2, qk_v]; done) | (simp only [qi_vm, qf_v2, qk_v, decide_eq_true_eq]; omega) | (simp [qi_vm, qf_v2, qk_v]; omega) | (simp (disch := omega) only [qi_vm, qf_v2, qk_v, neg_bif, decide_eq_true_eq]; omega) | (simp (disch := omega) [qi_vm, qf_v2, qk_v, neg_bif]; done)) ?_
  refine Tr.t (by first | exact (by first | (apply is_true; and_intros <;> (first | rfl | assumption | (apply qa_cc <;> assumption) | (apply qb_cc <;> assumption) | (apply qd_cc <;> assumption) | (apply qg_cc <;> assumption) | (apply qc_cc <;> assumption) | (apply qh_cc <;> assumption) | (first | (apply is_true; and_intros <;> (first | rfl | assumption | (apply qa_cc <;> assumption) | (apply qb_cc <;> assumption) | (apply qd_cc <;> assumption) | (apply qg_cc <;> assumption) | (apply qc_cc <;> assumption) | (apply qh_cc <;> assumption) | (first | (apply is_true; and_intros <;> (first | rfl | assumption | (apply qa_cc <;> assumption) | (apply qb_cc <;> assumption) | (apply qd_cc <;> assumption) | (apply qg_cc <;> assumption) | (apply qc_cc <;> assumption) | (apply qh_cc <;> assumption) | (first | (apply is_true; and_intros <;> (first | rfl | assumption | (apply qa_cc <;> assumption) | (apply qb_cc <;> assumption) | (apply qd_cc <;> assumption) | (apply qg_cc <;> assumption) | (apply qc_cc <;> assumption) | (apply qh_cc <;> assumption))) | (apply qa_cc <;> assumption) | (apply qb_cc <;> assumption) | (apply qd_cc <;> assumption) | (apply qg_cc <;> assumption) | (apply qc_cc <;> assumption) | (apply qh_cc <;> assumption)))) | (apply qa_cc <;> assumption) | (apply qb_cc <;> assumption) | (apply qd_cc <;> assumption) | (apply qg_cc <;> assumption) | (apply qc_cc <;> assumption) | (apply qh_cc <;> assumption)))) | (apply qa_cc <;> assumption) | (apply qb_cc <;> assumption) | (apply qd_cc <;> assumption) | (apply qg_cc <;> assumption) | (apply qc_cc <;> assumption) | (apply qh_cc <;> assumption)))) | (apply qa_cc <;> assumption) | (apply qb_cc <;> assumption) | (apply qd_cc <;> assumption) | (apply qg_cc <;> assumption) | (apply qc_cc <;> assumption) | (apply qh_cc <;> assumption)) | simp [*]) ?_
  refine Tr.t (by first | exact (by first | (apply is_true; and_intros <;> (first | rfl | assumption | (apply qa_cc <;> assumption) | (apply qb_cc <;> assumption) | (apply qd_cc <;> assumption) | (apply qg_cc <;> assumption) | (apply qc_cc <;> assumption) | (apply qh_cc <;> assumption) | (first | (apply is_true; and_intros <;> (first | rfl | assumption | (apply qa_cc <;> assumption) | (apply qb_cc <;> assumption) | (apply qd_cc <;> assumption) | (apply qg_cc <;> assumption) | (apply qc_cc <;> assumption) | (apply qh_cc <;> assumption) | (first | (apply is_true; and_intros <;> (first | rfl | assumption | (apply qa_cc <;> assumption) | (apply qb_cc <;> assumption) | (apply qd_cc <;> assumption) | (apply qg_cc <;> assumption) | (apply qc_cc <;> assumption) | (apply qh_cc <;> assumption) | (first | (apply is_true; and_intros <;> (first | rfl | assumption | (apply qa_cc <;> assumption) | (apply qb_cc <;> assumption) | (apply qd_cc <;> assumption) | (apply qg_cc <;> assumption) | (apply qc_cc <;> assumption) | (apply qh_cc <;> assumption))) | (apply qa_cc <;> assumption) | (apply qb_cc <;> assumption) | (apply qd_cc <;> assumption) | (apply qg_cc <;> assumption) | (apply qc_cc <;> assumption) | (apply qh_cc <;> assumption)))) | (apply qa_cc <;> assumption) | (apply qb_cc <;> assumption) | (apply qd_cc <;> assumption) | (apply qg_cc <;> assumption) | (apply qc_cc <;> assumption) | (apply qh_cc <;> assumption)))) | (apply qa_cc <;> assumption) | (apply qb_cc <;> assumption) | (apply qd_cc <;> assumption) | (apply qg_cc <;> assumption) | (apply qc_cc <;> assumption) | (apply qh_cc <;> assumption)))) | (apply qa_cc <;> assumption) | (apply qb_cc <;> assumption) | (apply qd_cc <;> assumption) | (apply qg_cc <;> assumption) | (apply qc_cc <;> assumption) | (apply qh_cc <;> assumption)) | simp [*]) ?_
  refine Tr.n (by first | (simp [qi_vm, qf_v2, qk_v]; done) | (simp only [qi_vm, qf_v2, qk_v, decide_eq_true_eq]; omega) | (simp [qi_vm, qf_v2, qk_v]; omega) | (simp (disch := omega) only [qi_vm, qf_v2, qk_v, neg_bif, decide_eq_true_eq]; omega) | (simp (disch := omega) [qi_vm, qf_v2, qk_v, neg_bif]; done)) ?_
  refine Tr.t (by first | exact (by first | (apply is_true; and_intros <;> (first | rfl | assumption | (apply qa_cc <;> assumption) | (apply qb_cc <;> assumption) | (apply qd_cc <;> assumption) | (apply qg_cc <;> assumption) | (apply qc_cc <;> assumption) | (apply qh_cc <;> assumption) | (first | (apply is_true; and_intros <;> (first | rfl | assumption | (apply qa_cc <;> assumption) | (apply qb_cc <;> assumption) | (apply qd_cc <;> assumption) | (apply qg_cc <;> assumption) | (apply qc_cc <;> assumption) | (apply qh_cc <;> assumption) | (first | (apply is_true; and_intros <;> (first | rfl | assumption | (apply qa_cc <;> assumption) | (apply qb_cc <;> assumption) | (apply qd_cc <;> assumption) | (apply qg_cc <;> assumption) | (apply qc_cc <;> assumption) | (apply qh_cc <;> assumption) | (first | (apply is_true; and_intros <;> (first | rfl | assumption | (apply qa_cc <;> assumption) | (apply qb_cc <;> assumption) | (apply qd_cc <;> assumption) | (apply qg_cc <;> assumption) | (apply qc_cc <;> assumption) | (apply qh_cc <;> assumption))) | (apply qa_cc <;> assumption) | (apply qb_cc <;> assumption) | (apply qd_cc <;> assumption) | (apply qg_cc <;> assumption) | (apply qc_cc <;> assumption) | (apply qh_cc <;> assumption)))) | (apply qa_cc <;> assumption) | (apply qb_cc <;> assumption) | (apply qd_cc <;> assumption) | (apply qg_cc <;> assumption) | (apply qc_cc <;> assumption) | (apply qh_cc <;> assumption)))) | (apply qa_cc <;> assumption) | (apply qb_cc <;> assumption) | (apply qd_cc <;> assumption) | (apply qg_cc <;> assumption) | (apply qc_cc <;> assumption) | (apply qh_cc <;> assumption)))) | (apply qa_cc <;> assumption) | (apply qb_cc <;> assumption) | (apply qd_cc <;> assumption) | (apply qg_cc <;> assumption) | (apply qc_cc <;> assumption) | (apply qh_cc <;> assumption)) | simp [*]) ?_
  refine Tr.t (by first | exact (by first | (apply is_true; and_intros <;> (first | rfl | assumption | (apply qa_cc <;> assumption) | (apply qb_cc <;> assumption) | (apply qd_cc <;> assumption) | (apply qg_cc <;> assumption) | (apply qc_cc <;> assumption) | (apply qh_cc <;> assumption) | (first | (apply is_true; and_intros <;> (first | rfl | assumption | (apply qa_cc <;> assumption) | (apply qb_cc <;> assumption) | (apply qd_cc <;> assumption) | (apply qg_cc <;> assumption) | (apply qc_cc <;> assumption) | (apply qh_cc <;> assumption) | (first | (apply is_true; and_intros <;> (first | rfl | assumption | (apply qa_cc <;> assumption) | (apply qb_cc <;> assumption) | (apply qd_cc <;> assumption) | (apply qg_cc <;> assumption) | (apply qc_cc <;> assumption) | (apply qh_cc <;> assumption) | (first | (apply is_true; and_intros <;> (first | rfl | assumption | (apply qa_cc <;> assumption) | (apply qb_cc <;> assumption) | (apply qd_cc <;> assumption) | (apply qg_cc <;> assumption) | (apply qc_cc <;> assumption) | (apply qh_cc <;> assumption))) | (apply qa_cc <;> assumption) | (apply qb_cc <;> assumption) | (apply qd_cc <;> assumption) | (apply qg_cc <;> assumption) | (apply qc_cc <;> assumption) | (apply qh_cc <;> assumption)))) | (apply qa_cc <;> assumption) | (apply qb_cc <;> assumption) | (apply qd_cc <;> assumption) | (apply qg_cc <;> assumption) | (apply qc_cc <;> assumption) | (apply qh_cc <;> assumption)))) | (apply qa_cc <;> assumption) | (apply qb_cc <;> assumption) | (apply qd_cc <;> assumption) | (apply qg_cc <;> assumption) | (apply qc_cc <;> assumption) | (apply qh_cc <;> assumption)))) | (apply qa_cc <;> assumption) | (apply qb_cc <;> assumption) | (apply qd_cc <;> assumption) | (apply qg_cc <;> assumption) | (apply qc_cc <;> assumption) | (apply qh_cc <;> assumption)) | simp [*]) ?_
  refine Tr.n (by first | (simp [qi_vm, qf_v2, qk_v]; done) | (simp only [qi_vm, qf_v2, qk_v, decide_eq_true_eq]; omega) | (simp [qi_vm, qf_v2, qk_v]; omega) | (simp (disch := omega) only [qi_vm, qf_v2, qk_v, neg_bif, decide_eq_true_eq]; omega) | (simp (disch := omega) [qi_vm, qf_v2, qk_v, neg_bif]; done)) ?_
  refine Tr.t (by apply qf_cc <;> (first | assumption | omega | (simp only [qi_vm, qf_v2]; omega) | (simp (disch := omega) only [qi_vm, qf_v2, neg_bif]; omega))) ?_
  refine Tr.t (by apply qf_cc <;> (first | assumption | omega | (simp only [qi_vm, qf_v2]; omega) | (simp (disch := omega) only [qi_vm, qf_v2, neg_bif]; omega))) ?_
  refine Tr.n (by first | (simp [qi_vm, qf_v2, qk_v]; done) | (simp only [qi_vm, qf_v2, qk_v, decide_eq_true_eq]; omega) | (simp [qi_vm, qf_v2, qk_v]; omega) | (simp (disch := omega) only [qi_vm, qf_v2, qk_v, neg_bif, decide_eq_true_eq]; omega) | (simp (disch := omega) [qi_vm, qf_v2, qk_v, neg_bif]; done)) ?_
  refine Tr.t (by first | exact (by first | (apply is_true; and_intros <;> (first | rfl | assumption | (apply qa_cc <;> assumption) | (apply qb_cc <;> assumption) | (apply qd_cc <;> assumption) | (apply qg_cc <;> assumption) | (apply qc_cc <;> assumption) | (apply qh_cc <;> assumption) | (first | (apply is_true; and_intros <;> (first | rfl | assumption | (apply qa_cc <;> assumption) | (apply qb_cc <;> assumption) | (apply qd_cc <;> assumption) | (apply qg_cc <;> assumption) | (apply qc_cc <;> assumption) | (apply qh_cc <;> assumption) | (first | (apply is_true; and_intros <;> (first | rfl | assumption | (apply qa_cc <;> assumption) | (apply qb_cc <;> assumption) | (apply qd_cc <;> assumption) | (apply qg_cc <;> assumption) | (apply qc_cc <;> assumption) | (apply qh_cc <;> assumption) | (first | (apply is_true; and_intros <;> (first | rfl | assumption | (apply qa_cc <;> assumption) | (apply qb_cc <;> assumption) | (apply qd_cc <;> assumption) | (apply qg_cc <;> assumption) | (apply qc_cc <;> assumption) | (apply qh_cc <;> assumption))) | (apply qa_cc <;> assumption) | (apply qb_cc <;> assumption) | (apply qd_cc <;> assumption) | (apply qg_cc <;> assumption) | (apply qc_cc <;> assumption) | (apply qh_cc <;> assumption)))) | (apply qa_cc <;> assumption) | (apply qb_cc <;> assumption) | (apply qd_cc <;> assumption) | (apply qg_cc <;> assumption) | (apply qc_cc <;> assumption) | (apply qh_cc <;> assumption)))) | (apply qa_cc <;> assumption) | (apply qb_cc <;> assumption) | (apply qd_cc <;> assumption) | (apply qg_cc <;> assumption) | (apply qc_cc <;> assumption) | (apply qh_cc <;> assumption)))) | (apply qa_cc <;> assumption) | (apply qb_cc <;> assumption) | (apply qd_cc <;> assumption) | (apply qg_cc <;> assumption) | (apply qc_cc <;> assumption) | (apply qh_cc <;> assumption)) | simp [*]) ?_
  refine Tr.n (by first | (simp [qi_vm, qf_v2, qk_v]; done) | (simp only [qi_vm, qf_v2, qk_v, decide_eq_true_eq]; omega) | (simp [qi_vm, qf_v2, qk_v]; omega) | (simp (disch := omega) only [qi_vm, qf_v2, qk_v, neg_bif, decide_eq_true_eq]; omega) | (simp (disch := omega) [qi_vm, qf_v2, qk_v, neg_bif]; done)) ?_
  refine Tr.t (by apply qf_cc <;> (first | assumption | omega | (simp only [qi_vm, qf_v2]; omega) | (simp (disch := omega) only [qi_vm, qf_v2, neg_bif]; omega))) ?_
  refine Tr.t (by apply qi_cc <;> (first | assumption | omega | (simp only [qi_vm, qf_v2]; omega) | (simp (disch := omega) only [qi_vm, qf_v2, neg_bif]; omega))) ?_
  refine Tr.n (by first | (simp [qi_vm, qf_v2, qk_v]; done) | (simp only [qi_vm, qf_v2, qk_v, decide_eq_true_eq]; omega) | (simp [qi_vm, qf_v2, qk_v]; omega) | (simp (disch := omega) only [qi_vm, qf_v2, qk_v, neg_bif, decide_eq_true_eq]; omega) | (simp (disch := omega) [qi_vm, qf_v2, qk_v, neg_bif]; done)) ?_
  refine Tr.n (by first | (simp [qi_vm, qf_v2, qk_v]; done) | (simp only [qi_vm, qf_v2, qk_v, decide_eq_true_eq]; omega) | (simp [qi_vm, qf_v2, qk_v]; omega) | (simp (disch := omega) only [qi_vm, qf_v2, qk_v, neg_bif, decide_eq_true_eq]; omega) | (simp (disch := omega) [qi_vm, qf_v2, qk_v, neg_bif]; done)) ?_
  refine Tr.t (by first | exact (by first | (apply is_true; and_intros <;> (first | rfl | assumption | (apply qa_cc <;> assumption) | (apply qb_cc <;> assumption) | (apply qd_cc <;> assumption) | (apply qg_cc <;> assumption) | (apply qc_cc <;> assumption) | (apply qh_cc <;> assumption) | (first | (apply is_true; and_intros <;> (first | rfl | assumption | (apply qa_cc <;> assumption) | (apply qb_cc <;> assumption) | (apply qd_cc <;> assumption) | (apply qg_cc <;> assumption) | (apply qc_cc <;> assumption) | (apply qh_cc <;> assumption) | (first | (apply is_true; and_intros <;> (first | rfl | assumption | (apply qa_cc <;> assumption) | (apply qb_cc <;> assumption) | (apply qd_cc <;> assumption) | (apply qg_cc <;> assumption) | (apply qc_cc <;> assumption) | (apply qh_cc <;> assumption) | (first | (apply is_true; and_intros <;> (first | rfl | assumption | (apply qa_cc <;> assumption) | (apply qb_cc <;> assumption) | (apply qd_cc <;> assumption) | (apply qg_cc <;> assumption) | (apply qc_cc <;> assumption) | (apply qh_cc <;> assumption))) | (apply qa_cc <;> assumption) | (apply qb_cc <;> assumption) | (apply qd_cc <;> assumption) | (apply qg_cc <;> assumption) | (apply qc_cc <;> assumption) | (apply qh_cc <;> assumption)))) | (apply qa_cc <;> assumption) | (apply qb_cc <;> assumption) | (apply qd_cc <;> assumption) | (apply qg_cc <;> assumption) | (apply qc_cc <;> assumption) | (apply qh_cc <;> assumption)))) | (apply qa_cc <;> assumption) | (apply qb_cc <;> assumption) | (apply qd_cc <;> assumption) | (apply qg_cc <;> assumption) | (apply qc_cc <;> assumption) | (apply qh_cc <;> assumption)))) | (apply qa_cc <;> assumption) | (apply qb_cc <;> assumption) | (apply qd_cc <;> assumption) | (apply qg_cc <;> assumption) | (apply qc_cc <;> assumption) | (apply qh_cc <;> assumption)) | simp [*]) ?_
  refine Tr.t (by first | exact (by first | (apply is_true; and_intros <;> (first | rfl | assumption | (apply qa_cc <;> assumption) | (apply qb_cc <;> assumption) | (apply qd_cc <;> assumption) | (apply qg_cc <;> assumption) | (apply qc_cc <;> assumption) | (apply qh_cc <;> assumption) | (first | (apply is_true; and_intros <;> (first | rfl | assumption | (apply qa_cc <;> assumption) | (apply qb_cc <;> assumption) | (apply qd_cc <;> assumption) | (apply qg_cc <;> assumption) | (apply qc_cc <;> assumption) | (apply qh_cc <;> assumption) | (first | (apply is_true; and_intros <;> (first | rfl | assumption | (apply qa_cc <;> assumption) | (apply qb_cc <;> assumption) | (apply qd_cc <;> assumption) | (apply qg_cc <;> assumption) | (apply qc_cc <;> assumption) | (apply qh_cc <;> assumption) | (first | (apply is_true; and_intros <;> (first | rfl | assumption | (apply qa_cc <;> assumption) | (apply qb_cc <;> assumption) | (apply qd_cc <;> assumption) | (apply qg_cc <;> assumption) | (apply qc_cc <;> assumption) | (apply qh_cc <;> assumption))) | (apply qa_cc <;> assumption) | (apply qb_cc <;> assumption) | (apply qd_cc <;> assumption) | (apply qg_cc <;> assumption) | (apply qc_cc <;> assumption) | (apply qh_cc <;> assumption)))) | (apply qa_cc <;> assumption) | (apply qb_cc <;> assumption) | (apply qd_cc <;> assumption) | (apply qg_cc <;> assumption) | (apply qc_cc <;> assumption) | (apply qh_cc <;> assumption)))) | (apply qa_cc <;> assumption) | (apply qb_cc <;> assumption) | (apply qd_cc <;> assumption) | (apply qg_cc <;> assumption) | (apply qc_cc <;> assumption) | (apply qh_cc <;> assumption)))) | (apply qa_cc <;> assumption) | (apply qb_cc <;> assumption) | (apply qd_cc <;> assumption) | (apply qg_cc <;> assumption) | (apply qc_cc <;> assumption) | (apply qh_cc <;> assumption)) | simp [*]) ?_
  refine Tr.t (by first | exact (by first | (apply qh_cc <;> assumption) | (first | (apply is_true; and_intros <;> (first | rfl | assumption | (apply qa_cc <;> assumption) | (apply qb_cc <;> assumption) | (apply qd_cc <;> assumption) | (apply qg_cc <;> assumption) | (apply qc_cc <;> assumption) | (apply qh_cc <;> assumption) | (first | (apply is_true; and_intros <;> (first | rfl | assumption | (apply qa_cc <;> assumption) | (apply qb_cc <;> assumption) | (apply qd_cc <;> assumption) | (apply qg_cc <;> assumption) | (apply qc_cc <;> assumption) | (apply qh_cc <;> assumption))) | (apply qa_cc <;> assumption) | (apply qb_cc <;> assumption) | (apply qd_cc <;> assumption) | (apply qg_cc <;> assumption) | (apply qc_cc <;> assumption) | (apply qh_cc <;> assumption)))) | (apply qa_cc <;> assumption) | (apply qb_cc <;> assumption) | (apply qd_cc <;> assumption) | (apply qg_cc <;> assumption) | (apply qc_cc <;> assumption) | (apply qh_cc <;> assumption))) | simp [*]) ?_
  refine Tr.t (by first | exact (by first | (apply is_true; and_intros <;> (first | rfl | assumption | (apply qa_cc <;> assumption) | (apply qb_cc <;> assumption) | (apply qd_cc <;> assumption) | (apply qg_cc <;> assumption) | (apply qc_cc <;> assumption) | (apply qh_cc <;> assumption) | (first | (apply is_true; and_intros <;> (first | rfl | assumption | (apply qa_cc <;> assumption) | (apply qb_cc <;> assumption) | (apply qd_cc <;> assumption) | (apply qg_cc <;> assumption) | (apply qc_cc <;> assumption) | (apply qh_cc <;> assumption) | (first | (apply is_true; and_intros <;> (first | rfl | assumption | (apply qa_cc <;> assumption) | (apply qb_cc <;> assumption) | (apply qd_cc <;> assumption) | (apply qg_cc <;> assumption) | (apply qc_cc <;> assumption) | (apply qh_cc <;> assumption) | (first | (apply is_true; and_intros <;> (first | rfl | assumption | (apply qa_cc <;> assumption) | (apply qb_cc <;> assumption) | (apply qd_cc <;> assumption) | (apply qg_cc <;> assumption) | (apply qc_cc <;> assumption) | (apply qh_cc <;> assumption))) | (apply qa_cc <;> assumption) | (apply qb_cc <;> assumption) | (apply qd_cc <;> assumption) | (apply qg_cc <;> assumption) | (apply qc_cc <;> assumption) | (apply qh_cc <;> assumption)))) | (apply qa_cc <;> assumption) | (apply qb_cc <;> assumption) | (apply qd_cc <;> assumption) | (apply qg_cc <;> assumption) | (apply qc_cc <;> assumption) | (apply qh_cc <;> assumption)))) | (apply qa_cc <;> assumption) | (apply qb_cc <;> assumption) | (apply qd_cc <;> assumption) | (apply qg_cc <;> assumption) | (apply qc_cc <;> assumption) | (apply qh_cc <;> assumption)))) | (apply qa_cc <;> assumption) | (apply qb_cc <;> assumption) | (apply qd_cc <;> assumption) | (apply qg_cc <;> assumption) | (apply qc_cc <;> assumption) | (apply qh_cc <;> assumption)) | simp [*]) ?_
  refine Tr.n (by first | (simp [qi_vm, qf_v2, qk_v]; done) | (simp only [qi_vm, qf_v2, qk_v, decide_eq_true_eq]; omega) | (simp [qi_vm, qf_v2, qk_v]; omega) | (simp (disch := omega) only [qi_vm, qf_v2, qk_v, neg_bif, decide_eq_true_eq]; omega) | (simp (disch := omega) [qi_vm, qf_v2, qk_v, neg_bif]; done)) ?_
  refine Tr.t (by apply qi_cc <;> (first | assumption | omega | (simp only [qi_vm, qf_v2]; omega) | (simp (disch := omega) only [qi_vm, qf_v2, neg_bif]; omega))) ?_
  refine Tr.n (by first | (simp [qi_vm, qf_v2, qk_v]; done) | (simp only [qi_vm, qf_v2, qk_v, decide_eq_true_eq]; omega) | (simp [qi_vm, qf_v2, qk_v]; omega) | (simp (disch := omega) only [qi_vm, qf_v2, qk_v, neg_bif, decide_eq_true_eq]; omega) | (simp (disch := omega) [qi_vm, qf_v2, qk_v, neg_bif]; done)) ?_
  refine Tr.n (by first | (simp [qi_vm, qf_v2, qk_v]; done) | (simp only [qi_vm, qf_v2, qk_v, decide_eq_true_eq]; omega) | (simp [qi_vm, qf_v2, qk_v]; omega) | (simp (disch := omega) only [qi_vm, qf_v2, qk_v, neg_bif, decide_eq_true_eq]; omega) | (simp (disch := omega) [qi_vm, qf_v2, qk_v, neg_bif]; done)) ?_
  rfl
end Go.Proofs.Ytmdbccmbmcgclaa.V
