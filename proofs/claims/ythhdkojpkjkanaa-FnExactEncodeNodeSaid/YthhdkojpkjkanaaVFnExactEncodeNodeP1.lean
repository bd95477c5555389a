/- What the functions of FnExactEncodeNode answer. No condition. -/
import Derived.Test.YthhdkojpkjkanaaVFacts
namespace Go.Proofs.Ythhdkojpkjkanaa.V
open Go
set_option maxRecDepth 100000
set_option linter.unusedVariables false
set_option linter.unusedSectionVars false
set_option linter.unusedSimpArgs false
set_option maxHeartbeats 2000000
theorem byteOf_byte (b : UInt8) : byteOf [TC.i b.toNat] = b := by
  unfold byteOf
  simp [nth, TC.int]
theorem bytesRow_of (l : List UInt8) : (bytesRow l).map byteOf = l := by
  unfold bytesRow
  rw [List.map_map]
  exact (List.map_congr_left fun b _ => byteOf_byte b).trans (List.map_id l)
theorem repL_one (b : UInt8) : ∀ n, Lib.repeatL [b] n = List.replicate n b
  | 0 => rfl
  | n + 1 => by rw [Lib.repeatL, repL_one b n]; rfl
def padL (s : List UInt8) (n : Nat) : List UInt8 := s ++ List.replicate (n - s.length) 0
theorem padL_len {s : List UInt8} {n : Nat} (h : s.length ≤ n) : (padL s n).length = n := by
  unfold padL
  rw [List.length_append, List.length_replicate]
  omega
theorem zeros_of {k : Nat} : (List.replicate k [TC.i (0 : Int)]).map byteOf = List.replicate k 0 := by
  rw [List.map_replicate]
  rfl
def inI (a b c : Int) : Bool := bif decide (a ≥ b) then decide (a ≤ c) else false
def msgOk (x : List TC) : Bool := inI (nth x 0).int 1 9 && inI (nth x 1).int 0 255 && !decide (((nth x 2).str.length : Int) > 200)
def hdrOk (k r : Int) (A : List (List TC)) : Bool := inI k 1 3 && inI r 0 1000 && !decide ((A.length : Int) > 24) && A.all msgOk
def msgB (x : List TC) : List UInt8 := bytesL (nth x 0).int 1 ++ bytesL (nth x 1).int 1 ++ bytesL ((nth x 2).str.length : Int) 1 ++ (nth x 2).str
def hdrL (A : List (List TC)) : Nat → List UInt8
  | 0 => []
  | j + 1 => hdrL A j ++ msgB (row A (j : Int))
theorem msgB_len {x : List TC} (h : msgOk x = true) : (msgB x).length ≤ 203 := by
  unfold msgOk at h
  rw [Bool.and_eq_true] at h
  have h2 : ¬ ((nth x 2).str.length : Int) > 200 := by simpa using h.2
  unfold msgB
  simp only [List.length_append, bytesL_len]
  omega
theorem hdrL_len {A : List (List TC)} (h : A.all msgOk = true) : ∀ j, j ≤ A.length → (hdrL A j).length ≤ 203 * j
  | 0, _ => by simp [hdrL]
  | j + 1, hj => by
    have ih := hdrL_len h j (by omega)
    have := msgB_len (x := row A (j : Int)) (List.all_eq_true.1 h _ (mem_getD (by omega)))
    unfold hdrL
    rw [List.length_append]
    omega
noncomputable def hdrV (k r : Int) (A : List (List TC)) : List UInt8 := (bytesL k 1 ++ bytesL r 2 ++ bytesL (A.length : Int) 1) ++ hdrL A A.length
theorem hdrOk_i {k r : Int} {A : List (List TC)} (h : hdrOk k r A = true) : A.length ≤ 24 ∧ A.all msgOk = true := by
  unfold hdrOk at h
  rw [Bool.and_eq_true, Bool.and_eq_true] at h
  have : ¬ (A.length : Int) > 24 := by simpa using h.1.2
  exact ⟨by omega, h.2⟩
def keyAt (A : List (List TC)) (i : Nat) : Int := (nth (row A (i : Int)) 0).int
def upB (A : List (List TC)) (i : Nat) : Bool := bif decide (i = 0) then true else !decide (keyAt A (i - 1) ≥ keyAt A i)
def upsB (A : List (List TC)) : Bool := allI (upB A) A.length
def chB (x : List TC) : Bool := inI (nth x 0).int 0 65535 && inI (nth x 1).int 1 255 && inI (nth x 2).int 0 65535 && inI (nth x 3).int 0 255
theorem upB_succ {A : List (List TC)} {j : Nat} : upB A (j + 1) = !decide (keyAt A (j + 1) ≤ keyAt A j) := by
  unfold upB
  rw [decide_eq_false (by omega)]; rfl
theorem upsB_shift {A : List (List TC)} : allI (fun j => upB A (j + 1)) (A.length - 1) = upsB A := by
  unfold upsB
  rw [Bool.eq_iff_iff, allI_iff, allI_iff]
  constructor
  · intro h i hi
    cases i with
    | zero => rfl
    | succ j => exact h j (by omega)
  · intro h j hj
    exact h (j + 1) (by omega)
theorem allI_and2 {P Q : Nat → Bool} {N : Nat} : allI (fun i => P i && Q i) N = (allI P N && allI Q N) := by
  rw [Bool.eq_iff_iff, Bool.and_eq_true, allI_iff, allI_iff, allI_iff]
  constructor
  · exact fun h => ⟨fun i hi => ((Bool.and_eq_true ..).mp (h i hi)).1, fun i hi => ((Bool.and_eq_true ..).mp (h i hi)).2⟩
  · exact fun h i hi => (Bool.and_eq_true ..).mpr ⟨h.1 i hi, h.2 i hi⟩
def nodeOk (L : Bool) (C K D : List (List TC)) : Bool :=
  bif L then decide ((C.length : Int) ≤ 8) && (C.all chB && upsB C) && ((K.length : Int) == 0) && ((D.length : Int) == 0)
  else inI (K.length : Int) 1 7 && ((D.length : Int) == IntKind.wrap .i64 ((K.length : Int) + 1)) && ((C.length : Int) == 0) && (allI (fun i => inI (keyAt K i) 0 65535) K.length && upsB K) && allI (fun i => inI (keyAt D i) 1 255) D.length
def pairsL (A : List (List TC)) : Nat → List UInt8
  | 0 => []
  | j + 1 => pairsL A j ++ bytesL (keyAt A j) 2
def chunkB (x : List TC) : List UInt8 := ((bytesL (nth x 0).int 2 ++ bytesL (nth x 1).int 2) ++ bytesL (nth x 2).int 2) ++ bytesL (nth x 3).int 1
def chunksL (A : List (List TC)) : Nat → List UInt8
  | 0 => []
  | j + 1 => chunksL A j ++ chunkB (row A (j : Int))
theorem pairsL_len {A : List (List TC)} : ∀ j, (pairsL A j).length = 2 * j
  | 0 => rfl
  | j + 1 => by
    unfold pairsL
    rw [List.length_append, pairsL_len j, bytesL_len]; omega
theorem chunksL_len {A : List (List TC)} : ∀ j, (chunksL A j).length = 7 * j
  | 0 => rfl
  | j + 1 => by
    unfold chunksL chunkB
    simp only [List.length_append, chunksL_len j, bytesL_len]; omega
theorem inI_le {a b c : Int} (h : inI a b c = true) : b ≤ a ∧ a ≤ c := by
  unfold inI at h
  cases h1 : decide (a ≥ b) with
  | false => rw [h1] at h; cases h
  | true => rw [h1] at h; exact ⟨of_decide_eq_true h1, of_decide_eq_true h⟩
theorem node_leaf {C K D : List (List TC)} (h : nodeOk true C K D = true) : C.length ≤ 8 := by
  have h : (decide ((C.length : Int) ≤ 8) && (C.all chB && upsB C) && ((K.length : Int) == 0) && ((D.length : Int) == 0)) = true := h
  rw [Bool.and_eq_true, Bool.and_eq_true, Bool.and_eq_true] at h
  have := of_decide_eq_true h.1.1.1
  omega
theorem node_inner {C K D : List (List TC)} (h : nodeOk false C K D = true) : K.length ≤ 7 ∧ D.length ≤ 8 := by
  have h : (inI (K.length : Int) 1 7 && ((D.length : Int) == IntKind.wrap .i64 ((K.length : Int) + 1)) && ((C.length : Int) == 0) && (allI (fun i => inI (keyAt K i) 0 65535) K.length && upsB K) && allI (fun i => inI (keyAt D i) 1 255) D.length) = true := h
  rw [Bool.and_eq_true, Bool.and_eq_true, Bool.and_eq_true, Bool.and_eq_true] at h
  have h1 := inI_le h.1.1.1.1
  have h2 := eq_of_beq h.1.1.1.2
  rw [wrap64 (by omega) (by omega)] at h2
  omega
noncomputable def nodeV (L : Bool) (C K D : List (List TC)) : List UInt8 :=
  bif L then padL ((bytesL 1 1 ++ bytesL (C.length : Int) 1) ++ chunksL C C.length) 64
  else padL (((bytesL 2 1 ++ bytesL (K.length : Int) 1) ++ pairsL D D.length) ++ pairsL K K.length) 64
def keysL (A : List (List TC)) : Nat → List (List TC)
  | 0 => []
  | j + 1 => keysL A j ++ [[TC.i (keyAt A j)]]
theorem keysL_len {A : List (List TC)} : ∀ j, (keysL A j).length = j
  | 0 => rfl
  | j + 1 => by
    unfold keysL
    rw [List.length_append, keysL_len j]; rfl
theorem keysL_at {A : List (List TC)} : ∀ N i, i < N → keyAt (keysL A N) i = keyAt A i
  | 0, i, h => by omega
  | N + 1, i, h => by
    have hl := keysL_len (A := A) N
    show (nth (row (keysL A N ++ [[TC.i (keyAt A N)]]) (i : Int)) 0).int = _
    unfold row
    rw [Int.toNat_natCast, getD_at (by rw [List.length_append, hl]; exact h)]
    by_cases hi : i < N
    · rw [List.getElem_append_left (by omega)]
      have := keysL_at (A := A) N i hi
      unfold keyAt row at this
      rw [Int.toNat_natCast, getD_at (by omega)] at this
      rw [this]
      rfl
    · have : i = N := by omega
      subst this
      rw [List.getElem_append_right (by omega)]
      simp only [hl, Nat.sub_self]
      rfl
theorem keysL_up {A : List (List TC)} : upsB (keysL A A.length) = upsB A := by
  unfold upsB
  rw [keysL_len]
  refine allI_congr fun i hi => ?_
  cases i with
  | zero => rfl
  | succ j => rw [upB_succ, upB_succ, keysL_at _ _ hi, keysL_at _ _ (by omega)]
def inR (lo hi : Int) (x : List TC) : Bool := bif decide ((nth x 0).int ≥ lo) then decide ((nth x 0).int ≤ hi) else false
def mulR (n : Int) (x : List TC) : Int := IntKind.wrap .i64 (n * (nth x 0).int)
def prodL (A : List (List TC)) : Int := A.foldl mulR 1
/-! laws_szChunkS -/
noncomputable def laws_szChunkS_t (a0 : List (List TC)) (a1 : Int) : Tr (Int) := (.ite ((decide ((IntKind.wrap .i64 (a1 - (a0.length : Int))) < (0 : Int))) = true) (.ok (-1 : Int))
  (.ok (IntKind.wrap .i64 (a1 - (a0.length : Int)))))
def laws_szChunkS_mk (p : Int) : Res := [(false, [⟨.int .i64, .sh, TC.i p⟩])]
noncomputable def laws_szChunkS_c (a0 : List (List TC)) (a1 : Int) : Bool := true
noncomputable def laws_szChunkS_v (a0 : List (List TC)) (a1 : Int) : Int := (bif (decide ((IntKind.wrap .i64 (a1 - (a0.length : Int))) < (0 : Int))) then (-1 : Int) else (IntKind.wrap .i64 (a1 - (a0.length : Int))))
theorem laws_szChunkS_l (a0 : List (List TC)) (a1 : Int) : (laws_szChunkS_c a0 a1) = true → (laws_szChunkS_t a0 a1).val = some (laws_szChunkS_v a0 a1) := by
  intro h
  skip
  unfold laws_szChunkS_t laws_szChunkS_v
  exact (Tr.s rfl rfl)
noncomputable def laws_szChunkS_S : List Arg → Option (Bool × Res) := fun xs => match xs with
  | [(false, [(.slice 161, TC.l a0)]), (false, [(.int .i64, TC.i a1)])] => some (true, laws_szChunkS_mk (laws_szChunkS_v a0 a1))
  | _ => .none
theorem laws_szChunkS_e (a0 : List (List TC)) (a1 : Int) : runF tab FT D0 live 79 noLoops [(false, [(.slice 161, TC.l a0)]), (false, [(.int .i64, TC.i a1)])] = (laws_szChunkS_t a0 a1).run fun p => some (laws_szChunkS_mk p) := by kernel_rfl
theorem laws_szChunkS_s : ∀ xs r, laws_szChunkS_S xs = some (true, r) → runF tab FT D0 live 79 noLoops xs = some r := by
  intro xs r h
  unfold laws_szChunkS_S at h
  split at h
  · simp only [Option.some.injEq, Prod.mk.injEq] at h
    obtain ⟨h1, rfl⟩ := h
    exact fun_told (laws_szChunkS_e _ _) (laws_szChunkS_l _ _) rfl
  · cases h
noncomputable def D1 : Dt := also D0 79 laws_szChunkS_S
theorem d1 : DOk Go.Proofs.Try.prog tab D1 := d0.also mixed_ok tab_ok names_ok noLoops_ok laws_szChunkS_s
/-! laws_szInt64S -/
noncomputable def laws_szInt64S_t (a0 : List (List TC)) (a1 : Int) : Tr (Int) := (.ite ((decide ((IntKind.wrap .i64 (a1 - (a0.length : Int))) < (0 : Int))) = true) (.ok (-1 : Int))
  (.ok (IntKind.wrap .i64 (a1 - (a0.length : Int)))))
def laws_szInt64S_mk (p : Int) : Res := [(false, [⟨.int .i64, .sh, TC.i p⟩])]
noncomputable def laws_szInt64S_c (a0 : List (List TC)) (a1 : Int) : Bool := true
noncomputable def laws_szInt64S_v (a0 : List (List TC)) (a1 : Int) : Int := (bif (decide ((IntKind.wrap .i64 (a1 - (a0.length : Int))) < (0 : Int))) then (-1 : Int) else (IntKind.wrap .i64 (a1 - (a0.length : Int))))
theorem laws_szInt64S_l (a0 : List (List TC)) (a1 : Int) : (laws_szInt64S_c a0 a1) = true → (laws_szInt64S_t a0 a1).val = some (laws_szInt64S_v a0 a1) := by
  intro h
  skip
  unfold laws_szInt64S_t laws_szInt64S_v
  exact (Tr.s rfl rfl)
noncomputable def laws_szInt64S_S : List Arg → Option (Bool × Res) := fun xs => match xs with
  | [(false, [(.slice 2, TC.l a0)]), (false, [(.int .i64, TC.i a1)])] => some (true, laws_szInt64S_mk (laws_szInt64S_v a0 a1))
  | _ => .none
theorem laws_szInt64S_e (a0 : List (List TC)) (a1 : Int) : runF tab FT D1 live 80 noLoops [(false, [(.slice 2, TC.l a0)]), (false, [(.int .i64, TC.i a1)])] = (laws_szInt64S_t a0 a1).run fun p => some (laws_szInt64S_mk p) := by kernel_rfl
theorem laws_szInt64S_s : ∀ xs r, laws_szInt64S_S xs = some (true, r) → runF tab FT D1 live 80 noLoops xs = some r := by
  intro xs r h
  unfold laws_szInt64S_S at h
  split at h
  · simp only [Option.some.injEq, Prod.mk.injEq] at h
    obtain ⟨h1, rfl⟩ := h
    exact fun_told (laws_szInt64S_e _ _) (laws_szInt64S_l _ _) rfl
  · cases h
noncomputable def D2 : Dt := also D1 80 laws_szInt64S_S
theorem d2 : DOk Go.Proofs.Try.prog tab D2 := d1.also mixed_ok tab_ok names_ok noLoops_ok laws_szInt64S_s
/-! laws_szNode -/
noncomputable def laws_szNode_t (a0 : Bool) (a1 : List (List TC)) (a2 : List (List TC)) (a3 : List (List TC)) (a4 : Int) : Tr (Int) := (.ite ((decide ((laws_szChunkS_v a1 a4) < (0 : Int))) = true) (.ok (-1 : Int))
  (.ite ((decide ((laws_szInt64S_v a2 (laws_szChunkS_v a1 a4)) < (0 : Int))) = true) (.ok (-1 : Int))
   (.ite ((decide ((laws_szInt64S_v a3 (laws_szInt64S_v a2 (laws_szChunkS_v a1 a4))) < (0 : Int))) = true) (.ok (-1 : Int))
    (.ok (laws_szInt64S_v a3 (laws_szInt64S_v a2 (laws_szChunkS_v a1 a4)))))))
def laws_szNode_mk (p : Int) : Res := [(false, [⟨.int .i64, .sh, TC.i p⟩])]
noncomputable def laws_szNode_c (a0 : Bool) (a1 : List (List TC)) (a2 : List (List TC)) (a3 : List (List TC)) (a4 : Int) : Bool := true
noncomputable def laws_szNode_v (a0 : Bool) (a1 : List (List TC)) (a2 : List (List TC)) (a3 : List (List TC)) (a4 : Int) : Int := (bif (decide ((laws_szChunkS_v a1 a4) < (0 : Int))) then (-1 : Int) else (bif (decide ((laws_szInt64S_v a2 (laws_szChunkS_v a1 a4)) < (0 : Int))) then (-1 : Int) else (bif (decide ((laws_szInt64S_v a3 (laws_szInt64S_v a2 (laws_szChunkS_v a1 a4))) < (0 : Int))) then (-1 : Int) else (laws_szInt64S_v a3 (laws_szInt64S_v a2 (laws_szChunkS_v a1 a4))))))
theorem laws_szNode_l (a0 : Bool) (a1 : List (List TC)) (a2 : List (List TC)) (a3 : List (List TC)) (a4 : Int) : (laws_szNode_c a0 a1 a2 a3 a4) = true → (laws_szNode_t a0 a1 a2 a3 a4).val = some (laws_szNode_v a0 a1 a2 a3 a4) := by
  intro h
  skip
  unfold laws_szNode_t laws_szNode_v
  exact (Tr.s rfl (Tr.s rfl (Tr.s rfl rfl)))
noncomputable def laws_szNode_S : List Arg → Option (Bool × Res) := fun xs => match xs with
  | [(true, [(.bool, TC.b a0), (.slice 161, TC.l a1), (.slice 2, TC.l a2), (.slice 2, TC.l a3)]), (false, [(.int .i64, TC.i a4)])] => some (true, laws_szNode_mk (laws_szNode_v a0 a1 a2 a3 a4))
  | _ => .none
theorem laws_szNode_e (a0 : Bool) (a1 : List (List TC)) (a2 : List (List TC)) (a3 : List (List TC)) (a4 : Int) : runF tab FT D2 live 36 noLoops [(true, [(.bool, TC.b a0), (.slice 161, TC.l a1), (.slice 2, TC.l a2), (.slice 2, TC.l a3)]), (false, [(.int .i64, TC.i a4)])] = (laws_szNode_t a0 a1 a2 a3 a4).run fun p => some (laws_szNode_mk p) := by kernel_rfl
theorem laws_szNode_s : ∀ xs r, laws_szNode_S xs = some (true, r) → runF tab FT D2 live 36 noLoops xs = some r := by
  intro xs r h
  unfold laws_szNode_S at h
  split at h
  · simp only [Option.some.injEq, Prod.mk.injEq] at h
    obtain ⟨h1, rfl⟩ := h
    exact fun_told (laws_szNode_e _ _ _ _ _) (laws_szNode_l _ _ _ _ _) rfl
  · cases h
noncomputable def D3 : Dt := also D2 36 laws_szNode_S
theorem d3 : DOk Go.Proofs.Try.prog tab D3 := d2.also mixed_ok tab_ok names_ok noLoops_ok laws_szNode_s
/-! laws_toChunk -/
noncomputable def laws_toChunk_t (a0 : Int) (a1 : Int) (a2 : Int) (a3 : Int) : Tr (Int × Int × Int × Int) := .ok (a0, a1, a2, a3)
def laws_toChunk_mk (p : Int × Int × Int × Int) : Res := [(true, [⟨.int .i64, .sh, TC.i (p.1)⟩, ⟨.int .i64, .sh, TC.i (p.2.1)⟩, ⟨.int .i64, .sh, TC.i (p.2.2.1)⟩, ⟨.int .i64, .sh, TC.i (p.2.2.2)⟩])]
noncomputable def laws_toChunk_c (a0 : Int) (a1 : Int) (a2 : Int) (a3 : Int) : Bool := true
noncomputable def laws_toChunk_v (a0 : Int) (a1 : Int) (a2 : Int) (a3 : Int) : Int × Int × Int × Int := (a0, a1, a2, a3)
theorem laws_toChunk_l (a0 : Int) (a1 : Int) (a2 : Int) (a3 : Int) : (laws_toChunk_c a0 a1 a2 a3) = true → (laws_toChunk_t a0 a1 a2 a3).val = some (laws_toChunk_v a0 a1 a2 a3) := by
  intro h
  skip
  unfold laws_toChunk_t laws_toChunk_v
  exact rfl
noncomputable def laws_toChunk_S : List Arg → Option (Bool × Res) := fun xs => match xs with
  | [(true, [(.int .i64, TC.i a0), (.int .i64, TC.i a1), (.int .i64, TC.i a2), (.int .i64, TC.i a3)])] => some (true, laws_toChunk_mk (laws_toChunk_v a0 a1 a2 a3))
  | _ => .none
theorem laws_toChunk_e (a0 : Int) (a1 : Int) (a2 : Int) (a3 : Int) : runF tab FT D3 live 126 noLoops [(true, [(.int .i64, TC.i a0), (.int .i64, TC.i a1), (.int .i64, TC.i a2), (.int .i64, TC.i a3)])] = (laws_toChunk_t a0 a1 a2 a3).run fun p => some (laws_toChunk_mk p) := by kernel_rfl
theorem laws_toChunk_s : ∀ xs r, laws_toChunk_S xs = some (true, r) → runF tab FT D3 live 126 noLoops xs = some r := by
  intro xs r h
  unfold laws_toChunk_S at h
  split at h
  · simp only [Option.some.injEq, Prod.mk.injEq] at h
    obtain ⟨h1, rfl⟩ := h
    exact fun_told (laws_toChunk_e _ _ _ _) (laws_toChunk_l _ _ _ _) rfl
  · cases h
noncomputable def D4 : Dt := also D3 126 laws_toChunk_S
theorem d4 : DOk Go.Proofs.Try.prog tab D4 := d3.also mixed_ok tab_ok names_ok noLoops_ok laws_toChunk_s
/-! laws_toChunkS -/
def laws_toChunkS_g (x : List TC) : List TC := [TC.i ((nth x 0).int), TC.i ((nth x 1).int), TC.i ((nth x 2).int), TC.i ((nth x 3).int)]
def laws_toChunkS_z : List TC := [TC.i (0 : Int), TC.i (0 : Int), TC.i (0 : Int), TC.i (0 : Int)]
abbrev laws_toChunkS_3_σ := List (List TC) × List (List TC) × Int
abbrev laws_toChunkS_3_ω := (List (List TC))
noncomputable def laws_toChunkS_3_step (A : List (List TC)) (X : List (List TC)) (i : Int) : Tr (laws_toChunkS_3_σ ⊕ laws_toChunkS_3_ω) := (.ite ((decide (i < (A.length : Int))) = true) (.ite ((0 : Int) ≤ i ∧ i < (A.length : Int)) (.ite ((0 : Int) ≤ i ∧ i < (X.length : Int)) (.ok (.inl (A, (X.set (i).toNat (splice (row X i) 0 [TC.i ((nth (row A i) 0).int), TC.i ((nth (row A i) 1).int), TC.i ((nth (row A i) 2).int), TC.i ((nth (row A i) 3).int)])), (IntKind.wrap .i64 (i + (1 : Int))))))
    .no)
   .no)
  (.ok (.inr X)))
noncomputable def laws_toChunkS_3_st : laws_toChunkS_3_σ → Tr (laws_toChunkS_3_σ ⊕ laws_toChunkS_3_ω) := fun x => (laws_toChunkS_3_step (x.1) (x.2.1) (x.2.2))
noncomputable def laws_toChunkS_o3_1 (A : List (List TC)) (X : List (List TC)) (i : Int) : Bool := is (Typed tab (.slice 161) (.l A) ∧ X = List.replicate A.length laws_toChunkS_z ∧ i = 0)
noncomputable def laws_toChunkS_u3_1 (A : List (List TC)) (X : List (List TC)) (i : Int) : List (List TC) := A.map laws_toChunkS_g
noncomputable def laws_toChunkS_3_fin (A : List (List TC)) (X : List (List TC)) (i : Int) : Told laws_toChunkS_3_ω := (.leaf (laws_toChunkS_o3_1 A X i) (laws_toChunkS_u3_1 A X i))
def laws_toChunkS_3_sl (x : laws_toChunkS_3_σ) : List Slot := [⟨.val false [⟨.slice 161, .sh, TC.l (x.1)⟩], ⟨0, 0⟩⟩, ⟨.val false [⟨.slice 159, .own true, TC.l (x.2.1)⟩], ⟨0, 0⟩⟩, ⟨.val false [⟨.int .i64, .sh, TC.i (x.2.2)⟩], ⟨0, 0⟩⟩]
def laws_toChunkS_3_out : laws_toChunkS_3_ω → Ex × List Slot := (fun x => (.exit 0, [Slot.none, ⟨.val false [⟨.slice 159, .own true, TC.l x⟩], ⟨0, 0⟩⟩]))
noncomputable def laws_toChunkS_lo3 : List Slot → Option (Told (Ex × List Slot)) := fun s => match s with
  | [⟨.val false [⟨.slice 161, .sh, TC.l A⟩], ⟨0, 0⟩⟩, ⟨.val false [⟨.slice 159, .own true, TC.l X⟩], ⟨0, 0⟩⟩, ⟨.val false [⟨.int .i64, .sh, TC.i i⟩], ⟨0, 0⟩⟩] => some (((laws_toChunkS_3_fin A X i)).map laws_toChunkS_3_out)
  | _ => .none
noncomputable def laws_toChunkS_lo : LoopTeller := fun r s => bif Nat.beq r 3 then laws_toChunkS_lo3 s else .none
theorem laws_toChunkS_3_r (A : List (List TC)) (X : List (List TC)) (i : Int) (fuel : Nat) : rounds (rnd tab FT D4 live 83 laws_toChunkS_lo 0 3) leave (fuel + 1) (laws_toChunkS_3_sl (A, X, i)) = ((laws_toChunkS_3_step A X i)).run (goOn (fun s => rounds (rnd tab FT D4 live 83 laws_toChunkS_lo 0 3) leave fuel (laws_toChunkS_3_sl s)) fun w => some (laws_toChunkS_3_out w)) := by kernel_rfl
theorem laws_toChunkS_3_h (A : List (List TC)) (X : List (List TC)) (i : Int) (ow : laws_toChunkS_3_ω) : ((laws_toChunkS_3_fin A X i)).val = some ow → ∃ fuel, loopN laws_toChunkS_3_st fuel (A, X, i) = some ow := by
  intro h
  simp only [laws_toChunkS_3_fin, Told.val] at h
  split at h
  · rename_i ho
    obtain ⟨ht, rfl, rfl⟩ := is_iff.1 ho
    cases h
    have hlen : A.length ≤ 140737488351232 := by have := typed_room ht; simp only [show (tab 161).bytes = 32 from rfl] at this; omega
    have key := loopN_copy (step := laws_toChunkS_3_st) A (List.replicate A.length laws_toChunkS_z) laws_toChunkS_g (fun Y i => (A, Y, (i : Int))) (A.map laws_toChunkS_g) (by simp) (fun x hx i _ => by rw [(List.mem_replicate.1 hx).2]; exact Nat.le_refl 4) (fun Y i hi hl => ?_) ?_ A.length 0 (by omega)
    · rw [copied_zero] at key
      exact ⟨_, key⟩
    · skip
      show (laws_toChunkS_3_step A Y (i : Int)).val = _
      unfold laws_toChunkS_3_step
      refine Tr.t (by simp; omega) ?_
      refine Tr.t (by constructor <;> omega) ?_
      refine Tr.t (by constructor <;> omega) ?_
      repeat (refine Tr.t (by first | (apply is_true; and_intros <;> (first | rfl | assumption | (first | (apply is_true; and_intros <;> (first | rfl | assumption | (first | (apply is_true; and_intros <;> (first | rfl | assumption | (first | (apply is_true; and_intros <;> (first | rfl | assumption)))))))))))) ?_)
      rw [Tr.val_ok, wrap64 (i := (i : Int) + 1) (by omega) (by omega)]; rfl
    · show (laws_toChunkS_3_step A (A.map laws_toChunkS_g) (A.length : Int)).val = _
      refine Tr.n (by simp) ?_
      rfl
  · cases h
theorem laws_toChunkS_is3 : LoopIs tab FT D4 live 83 laws_toChunkS_lo 0 3 := by
  refine loop_told (sl := laws_toChunkS_3_sl) (step := laws_toChunkS_3_st) (out := laws_toChunkS_3_out) (lor := laws_toChunkS_lo3) (fin := fun x => (laws_toChunkS_3_fin (x.1) (x.2.1) (x.2.2))) (fun _ => rfl) ?_ (fun x n => laws_toChunkS_3_r x.1 x.2.1 x.2.2 n) (fun x ow => laws_toChunkS_3_h x.1 x.2.1 x.2.2 ow)
  intro s t h
  unfold laws_toChunkS_lo3 at h
  split at h
  · cases h; exact ⟨(_, _, _), rfl, rfl⟩
  · cases h
noncomputable def laws_toChunkS_t (A : List (List TC)) : Tr (List (List TC)) := (.ite (0 ≤ (A.length : Int) ∧ (A.length : Int) ≤ (A.length : Int) ∧ (A.length : Int) * 32 ≤ 140737488355328 ∧ (A.length : Int) ≤ 140737488355328) (.ite ((laws_toChunkS_o3_1 A (List.replicate ((A.length : Int)).toNat [TC.i (0 : Int), TC.i (0 : Int), TC.i (0 : Int), TC.i (0 : Int)]) (0 : Int)) = true) (.ok (laws_toChunkS_u3_1 A (List.replicate ((A.length : Int)).toNat [TC.i (0 : Int), TC.i (0 : Int), TC.i (0 : Int), TC.i (0 : Int)]) (0 : Int)))
   .no)
  .no)
def laws_toChunkS_mk (p : List (List TC)) : Res := [(false, [⟨.slice 159, .own true, TC.l p⟩])]
noncomputable def laws_toChunkS_c (A : List (List TC)) : Bool := is (Typed tab (.slice 161) (.l A))
noncomputable def laws_toChunkS_v (A : List (List TC)) : List (List TC) := A.map laws_toChunkS_g
theorem laws_toChunkS_l (A : List (List TC)) : (laws_toChunkS_c A) = true → (laws_toChunkS_t A).val = some (laws_toChunkS_v A) := by
  intro h
  have ht := is_iff.1 h
  have hb := typed_room ht
  simp only [show (tab 161).bytes = 32 from rfl] at hb
  unfold laws_toChunkS_t
  refine Tr.t (by omega) ?_
  refine Tr.t (is_true ⟨ht, by rfl, rfl⟩) ?_
  rfl
noncomputable def laws_toChunkS_S : List Arg → Option (Bool × Res) := fun xs => match xs with
  | [(false, [(.slice 161, TC.l A)])] => some ((laws_toChunkS_c A), laws_toChunkS_mk (laws_toChunkS_v A))
  | _ => .none
theorem laws_toChunkS_e (A : List (List TC)) : runF tab FT D4 live 83 laws_toChunkS_lo [(false, [(.slice 161, TC.l A)])] = (laws_toChunkS_t A).run fun p => some (laws_toChunkS_mk p) := by kernel_rfl
theorem laws_toChunkS_s : ∀ xs r, laws_toChunkS_S xs = some (true, r) → runF tab FT D4 live 83 laws_toChunkS_lo xs = some r := by
  intro xs r h
  unfold laws_toChunkS_S at h
  split at h
  · simp only [Option.some.injEq, Prod.mk.injEq] at h
    obtain ⟨h1, rfl⟩ := h
    exact fun_told (laws_toChunkS_e _) (laws_toChunkS_l _) h1
  · cases h
noncomputable def D5 : Dt := also D4 83 laws_toChunkS_S
theorem d5 : DOk Go.Proofs.Try.prog tab D5 := d4.also mixed_ok tab_ok names_ok (fnLoops_one (by kernel_rfl) laws_toChunkS_is3) laws_toChunkS_s
theorem laws_toChunkS_ty {A : List (List TC)} (h : Typed tab (.slice 161) (.l A)) : Typed tab (.slice 159) (.l (A.map laws_toChunkS_g)) := by
  refine typed_map h (by decide) fun x _ _ hx => ⟨rfl, fun k hk => ?_⟩
  match k, hk with
    | 0, _ => exact typed_i (hx 0 (by decide))
    | 1, _ => exact typed_i (hx 1 (by decide))
    | 2, _ => exact typed_i (hx 2 (by decide))
    | 3, _ => exact typed_i (hx 3 (by decide))
/-! laws_toInt64S -/
def laws_toInt64S_g (x : List TC) : List TC := [TC.i ((nth x 0).int)]
def laws_toInt64S_z : List TC := [TC.i (0 : Int)]
abbrev laws_toInt64S_3_σ := List (List TC) × List (List TC) × Int
abbrev laws_toInt64S_3_ω := (List (List TC))
noncomputable def laws_toInt64S_3_step (A : List (List TC)) (X : List (List TC)) (i : Int) : Tr (laws_toInt64S_3_σ ⊕ laws_toInt64S_3_ω) := (.ite ((decide (i < (A.length : Int))) = true) (.ite ((0 : Int) ≤ i ∧ i < (A.length : Int)) (.ite ((0 : Int) ≤ i ∧ i < (X.length : Int)) (.ok (.inl (A, (X.set (i).toNat (splice (row X i) 0 [TC.i ((nth (row A i) 0).int)])), (IntKind.wrap .i64 (i + (1 : Int))))))
    .no)
   .no)
  (.ok (.inr X)))
noncomputable def laws_toInt64S_3_st : laws_toInt64S_3_σ → Tr (laws_toInt64S_3_σ ⊕ laws_toInt64S_3_ω) := fun x => (laws_toInt64S_3_step (x.1) (x.2.1) (x.2.2))
noncomputable def laws_toInt64S_o3_1 (A : List (List TC)) (X : List (List TC)) (i : Int) : Bool := is (Typed tab (.slice 2) (.l A) ∧ X = List.replicate A.length laws_toInt64S_z ∧ i = 0)
noncomputable def laws_toInt64S_u3_1 (A : List (List TC)) (X : List (List TC)) (i : Int) : List (List TC) := A.map laws_toInt64S_g
noncomputable def laws_toInt64S_3_fin (A : List (List TC)) (X : List (List TC)) (i : Int) : Told laws_toInt64S_3_ω := (.leaf (laws_toInt64S_o3_1 A X i) (laws_toInt64S_u3_1 A X i))
def laws_toInt64S_3_sl (x : laws_toInt64S_3_σ) : List Slot := [⟨.val false [⟨.slice 2, .sh, TC.l (x.1)⟩], ⟨0, 0⟩⟩, ⟨.val false [⟨.slice 2, .own true, TC.l (x.2.1)⟩], ⟨0, 0⟩⟩, ⟨.val false [⟨.int .i64, .sh, TC.i (x.2.2)⟩], ⟨0, 0⟩⟩]
def laws_toInt64S_3_out : laws_toInt64S_3_ω → Ex × List Slot := (fun x => (.exit 0, [Slot.none, ⟨.val false [⟨.slice 2, .own true, TC.l x⟩], ⟨0, 0⟩⟩]))
noncomputable def laws_toInt64S_lo3 : List Slot → Option (Told (Ex × List Slot)) := fun s => match s with
  | [⟨.val false [⟨.slice 2, .sh, TC.l A⟩], ⟨0, 0⟩⟩, ⟨.val false [⟨.slice 2, .own true, TC.l X⟩], ⟨0, 0⟩⟩, ⟨.val false [⟨.int .i64, .sh, TC.i i⟩], ⟨0, 0⟩⟩] => some (((laws_toInt64S_3_fin A X i)).map laws_toInt64S_3_out)
  | _ => .none
noncomputable def laws_toInt64S_lo : LoopTeller := fun r s => bif Nat.beq r 3 then laws_toInt64S_lo3 s else .none
theorem laws_toInt64S_3_r (A : List (List TC)) (X : List (List TC)) (i : Int) (fuel : Nat) : rounds (rnd tab FT D5 live 84 laws_toInt64S_lo 0 3) leave (fuel + 1) (laws_toInt64S_3_sl (A, X, i)) = ((laws_toInt64S_3_step A X i)).run (goOn (fun s => rounds (rnd tab FT D5 live 84 laws_toInt64S_lo 0 3) leave fuel (laws_toInt64S_3_sl s)) fun w => some (laws_toInt64S_3_out w)) := by kernel_rfl
theorem laws_toInt64S_3_h (A : List (List TC)) (X : List (List TC)) (i : Int) (ow : laws_toInt64S_3_ω) : ((laws_toInt64S_3_fin A X i)).val = some ow → ∃ fuel, loopN laws_toInt64S_3_st fuel (A, X, i) = some ow := by
  intro h
  simp only [laws_toInt64S_3_fin, Told.val] at h
  split at h
  · rename_i ho
    obtain ⟨ht, rfl, rfl⟩ := is_iff.1 ho
    cases h
    have hlen : A.length ≤ 140737488351232 := by have := typed_room ht; simp only [show (tab 2).bytes = 8 from rfl] at this; omega
    have key := loopN_copy (step := laws_toInt64S_3_st) A (List.replicate A.length laws_toInt64S_z) laws_toInt64S_g (fun Y i => (A, Y, (i : Int))) (A.map laws_toInt64S_g) (by simp) (fun x hx i _ => by rw [(List.mem_replicate.1 hx).2]; exact Nat.le_refl 1) (fun Y i hi hl => ?_) ?_ A.length 0 (by omega)
    · rw [copied_zero] at key
      exact ⟨_, key⟩
    · skip
      show (laws_toInt64S_3_step A Y (i : Int)).val = _
      unfold laws_toInt64S_3_step
      refine Tr.t (by simp; omega) ?_
      refine Tr.t (by constructor <;> omega) ?_
      refine Tr.t (by constructor <;> omega) ?_
      repeat (refine Tr.t (by first | (apply is_true; and_intros <;> (first | rfl | assumption | (first | (apply is_true; and_intros <;> (first | rfl | assumption | (first | (apply is_true; and_intros <;> (first | rfl | assumption | (first | (apply is_true; and_intros <;> (first | rfl | assumption)))))))))))) ?_)
      rw [Tr.val_ok, wrap64 (i := (i : Int) + 1) (by omega) (by omega)]; rfl
    · show (laws_toInt64S_3_step A (A.map laws_toInt64S_g) (A.length : Int)).val = _
      refine Tr.n (by simp) ?_
      rfl
  · cases h
theorem laws_toInt64S_is3 : LoopIs tab FT D5 live 84 laws_toInt64S_lo 0 3 := by
  refine loop_told (sl := laws_toInt64S_3_sl) (step := laws_toInt64S_3_st) (out := laws_toInt64S_3_out) (lor := laws_toInt64S_lo3) (fin := fun x => (laws_toInt64S_3_fin (x.1) (x.2.1) (x.2.2))) (fun _ => rfl) ?_ (fun x n => laws_toInt64S_3_r x.1 x.2.1 x.2.2 n) (fun x ow => laws_toInt64S_3_h x.1 x.2.1 x.2.2 ow)
  intro s t h
  unfold laws_toInt64S_lo3 at h
  split at h
  · cases h; exact ⟨(_, _, _), rfl, rfl⟩
  · cases h
noncomputable def laws_toInt64S_t (A : List (List TC)) : Tr (List (List TC)) := (.ite (0 ≤ (A.length : Int) ∧ (A.length : Int) ≤ (A.length : Int) ∧ (A.length : Int) * 8 ≤ 140737488355328 ∧ (A.length : Int) ≤ 140737488355328) (.ite ((laws_toInt64S_o3_1 A (List.replicate ((A.length : Int)).toNat [TC.i (0 : Int)]) (0 : Int)) = true) (.ok (laws_toInt64S_u3_1 A (List.replicate ((A.length : Int)).toNat [TC.i (0 : Int)]) (0 : Int)))
   .no)
  .no)
def laws_toInt64S_mk (p : List (List TC)) : Res := [(false, [⟨.slice 2, .own true, TC.l p⟩])]
noncomputable def laws_toInt64S_c (A : List (List TC)) : Bool := is (Typed tab (.slice 2) (.l A))
noncomputable def laws_toInt64S_v (A : List (List TC)) : List (List TC) := A.map laws_toInt64S_g
theorem laws_toInt64S_l (A : List (List TC)) : (laws_toInt64S_c A) = true → (laws_toInt64S_t A).val = some (laws_toInt64S_v A) := by
  intro h
  have ht := is_iff.1 h
  have hb := typed_room ht
  simp only [show (tab 2).bytes = 8 from rfl] at hb
  unfold laws_toInt64S_t
  refine Tr.t (by omega) ?_
  refine Tr.t (is_true ⟨ht, by rfl, rfl⟩) ?_
  rfl
noncomputable def laws_toInt64S_S : List Arg → Option (Bool × Res) := fun xs => match xs with
  | [(false, [(.slice 2, TC.l A)])] => some ((laws_toInt64S_c A), laws_toInt64S_mk (laws_toInt64S_v A))
  | _ => .none
theorem laws_toInt64S_e (A : List (List TC)) : runF tab FT D5 live 84 laws_toInt64S_lo [(false, [(.slice 2, TC.l A)])] = (laws_toInt64S_t A).run fun p => some (laws_toInt64S_mk p) := by kernel_rfl
theorem laws_toInt64S_s : ∀ xs r, laws_toInt64S_S xs = some (true, r) → runF tab FT D5 live 84 laws_toInt64S_lo xs = some r := by
  intro xs r h
  unfold laws_toInt64S_S at h
  split at h
  · simp only [Option.some.injEq, Prod.mk.injEq] at h
    obtain ⟨h1, rfl⟩ := h
    exact fun_told (laws_toInt64S_e _) (laws_toInt64S_l _) h1
  · cases h
noncomputable def D6 : Dt := also D5 84 laws_toInt64S_S
theorem d6 : DOk Go.Proofs.Try.prog tab D6 := d5.also mixed_ok tab_ok names_ok (fnLoops_one (by kernel_rfl) laws_toInt64S_is3) laws_toInt64S_s
theorem laws_toInt64S_ty {A : List (List TC)} (h : Typed tab (.slice 2) (.l A)) : Typed tab (.slice 2) (.l (A.map laws_toInt64S_g)) := by
  refine typed_map h (by decide) fun x _ _ hx => ⟨rfl, fun k hk => ?_⟩
  match k, hk with
    | 0, _ => exact typed_i (hx 0 (by decide))
/-! laws_toNode -/
noncomputable def laws_toNode_t (x0 : Bool) (x1 : List (List TC)) (x2 : List (List TC)) (x3 : List (List TC)) : Tr (Bool × List (List TC) × List (List TC) × List (List TC)) := (.ite ((laws_toChunkS_c x1) = true) (.ite ((laws_toInt64S_c x2) = true) (.ite ((laws_toInt64S_c x3) = true) (.ok (x0, (laws_toChunkS_v x1), (laws_toInt64S_v x2), (laws_toInt64S_v x3)))
    .no)
   .no)
  .no)
def laws_toNode_mk (p : Bool × List (List TC) × List (List TC) × List (List TC)) : Res := [(true, [⟨.bool, .sh, TC.b (p.1)⟩, ⟨.slice 159, .own true, TC.l (p.2.1)⟩, ⟨.slice 2, .own true, TC.l (p.2.2.1)⟩, ⟨.slice 2, .own true, TC.l (p.2.2.2)⟩])]
noncomputable def laws_toNode_c (x0 : Bool) (x1 : List (List TC)) (x2 : List (List TC)) (x3 : List (List TC)) : Bool := is (Typed tab (.slice 161) (.l x1) ∧ Typed tab (.slice 2) (.l x2) ∧ Typed tab (.slice 2) (.l x3))
noncomputable def laws_toNode_v (x0 : Bool) (x1 : List (List TC)) (x2 : List (List TC)) (x3 : List (List TC)) : Bool × List (List TC) × List (List TC) × List (List TC) := (x0, (laws_toChunkS_v x1), (laws_toInt64S_v x2), (laws_toInt64S_v x3))
theorem laws_toNode_l (x0 : Bool) (x1 : List (List TC)) (x2 : List (List TC)) (x3 : List (List TC)) : (laws_toNode_c x0 x1 x2 x3) = true → (laws_toNode_t x0 x1 x2 x3).val = some (laws_toNode_v x0 x1 x2 x3) := by
  intro h
  obtain ⟨t0, t1, t2⟩ := is_iff.1 h
  unfold laws_toNode_t
  repeat (refine Tr.t (by first | (apply is_true; and_intros <;> (first | rfl | assumption | (first | (apply is_true; and_intros <;> (first | rfl | assumption | (first | (apply is_true; and_intros <;> (first | rfl | assumption | (first | (apply is_true; and_intros <;> (first | rfl | assumption)))))))))))) ?_)
  rfl
noncomputable def laws_toNode_S : List Arg → Option (Bool × Res) := fun xs => match xs with
  | [(true, [(.bool, TC.b x0), (.slice 161, TC.l x1), (.slice 2, TC.l x2), (.slice 2, TC.l x3)])] => some ((laws_toNode_c x0 x1 x2 x3), laws_toNode_mk (laws_toNode_v x0 x1 x2 x3))
  | _ => .none
theorem laws_toNode_e (x0 : Bool) (x1 : List (List TC)) (x2 : List (List TC)) (x3 : List (List TC)) : runF tab FT D6 live 38 noLoops [(true, [(.bool, TC.b x0), (.slice 161, TC.l x1), (.slice 2, TC.l x2), (.slice 2, TC.l x3)])] = (laws_toNode_t x0 x1 x2 x3).run fun p => some (laws_toNode_mk p) := by kernel_rfl
theorem laws_toNode_s : ∀ xs r, laws_toNode_S xs = some (true, r) → runF tab FT D6 live 38 noLoops xs = some r := by
  intro xs r h
  unfold laws_toNode_S at h
  split at h
  · simp only [Option.some.injEq, Prod.mk.injEq] at h
    obtain ⟨h1, rfl⟩ := h
    exact fun_told (laws_toNode_e _ _ _ _) (laws_toNode_l _ _ _ _) h1
  · cases h
noncomputable def D7 : Dt := also D6 38 laws_toNode_S
theorem d7 : DOk Go.Proofs.Try.prog tab D7 := d6.also mixed_ok tab_ok names_ok noLoops_ok laws_toNode_s
/-! spec_l00In -/
noncomputable def spec_l00In_t (a0 : Int) (a1 : Int) (a2 : Int) : Tr (Bool) := (.ite ((decide (a0 ≥ a1)) = true) (.ok (decide (a0 ≤ a2)))
  (.ok false))
def spec_l00In_mk (p : Bool) : Res := [(false, [⟨.bool, .sh, TC.b p⟩])]
noncomputable def spec_l00In_c (a0 : Int) (a1 : Int) (a2 : Int) : Bool := true
noncomputable def spec_l00In_v (a0 : Int) (a1 : Int) (a2 : Int) : Bool := (bif (decide (a0 ≥ a1)) then (decide (a0 ≤ a2)) else false)
theorem spec_l00In_l (a0 : Int) (a1 : Int) (a2 : Int) : (spec_l00In_c a0 a1 a2) = true → (spec_l00In_t a0 a1 a2).val = some (spec_l00In_v a0 a1 a2) := by
  intro h
  skip
  unfold spec_l00In_t spec_l00In_v
  exact (Tr.s rfl rfl)
noncomputable def spec_l00In_S : List Arg → Option (Bool × Res) := fun xs => match xs with
  | [(false, [(.int .i64, TC.i a0)]), (false, [(.int .i64, TC.i a1)]), (false, [(.int .i64, TC.i a2)])] => some (true, spec_l00In_mk (spec_l00In_v a0 a1 a2))
  | _ => .none
theorem spec_l00In_e (a0 : Int) (a1 : Int) (a2 : Int) : runF tab FT D7 live 90 noLoops [(false, [(.int .i64, TC.i a0)]), (false, [(.int .i64, TC.i a1)]), (false, [(.int .i64, TC.i a2)])] = (spec_l00In_t a0 a1 a2).run fun p => some (spec_l00In_mk p) := by kernel_rfl
theorem spec_l00In_s : ∀ xs r, spec_l00In_S xs = some (true, r) → runF tab FT D7 live 90 noLoops xs = some r := by
  intro xs r h
  unfold spec_l00In_S at h
  split at h
  · simp only [Option.some.injEq, Prod.mk.injEq] at h
    obtain ⟨h1, rfl⟩ := h
    exact fun_told (spec_l00In_e _ _ _) (spec_l00In_l _ _ _) rfl
  · cases h
noncomputable def D8 : Dt := also D7 90 spec_l00In_S
theorem d8 : DOk Go.Proofs.Try.prog tab D8 := d7.also mixed_ok tab_ok names_ok noLoops_ok spec_l00In_s
/-! spec_l15Chunk -/
noncomputable def spec_l15Chunk_t (a0 : Int) (a1 : Int) (a2 : Int) (a3 : Int) : Tr (Bool) := (.ite ((spec_l00In_v a0 (0 : Int) (65535 : Int)) = true) (.ite ((spec_l00In_v a1 (1 : Int) (255 : Int)) = true) (.ite ((spec_l00In_v a2 (0 : Int) (65535 : Int)) = true) (.ok (spec_l00In_v a3 (0 : Int) (255 : Int)))
    (.ok false))
   (.ok false))
  (.ok false))
def spec_l15Chunk_mk (p : Bool) : Res := [(false, [⟨.bool, .sh, TC.b p⟩])]
noncomputable def spec_l15Chunk_c (a0 : Int) (a1 : Int) (a2 : Int) (a3 : Int) : Bool := true
noncomputable def spec_l15Chunk_v (a0 : Int) (a1 : Int) (a2 : Int) (a3 : Int) : Bool := (bif (spec_l00In_v a0 (0 : Int) (65535 : Int)) then (bif (spec_l00In_v a1 (1 : Int) (255 : Int)) then (bif (spec_l00In_v a2 (0 : Int) (65535 : Int)) then (spec_l00In_v a3 (0 : Int) (255 : Int)) else false) else false) else false)
theorem spec_l15Chunk_l (a0 : Int) (a1 : Int) (a2 : Int) (a3 : Int) : (spec_l15Chunk_c a0 a1 a2 a3) = true → (spec_l15Chunk_t a0 a1 a2 a3).val = some (spec_l15Chunk_v a0 a1 a2 a3) := by
  intro h
  skip
  unfold spec_l15Chunk_t spec_l15Chunk_v
  exact (Tr.s (Tr.s (Tr.s rfl rfl) rfl) rfl)
noncomputable def spec_l15Chunk_S : List Arg → Option (Bool × Res) := fun xs => match xs with
  | [(true, [(.int .i64, TC.i a0), (.int .i64, TC.i a1), (.int .i64, TC.i a2), (.int .i64, TC.i a3)])] => some (true, spec_l15Chunk_mk (spec_l15Chunk_v a0 a1 a2 a3))
  | _ => .none
theorem spec_l15Chunk_e (a0 : Int) (a1 : Int) (a2 : Int) (a3 : Int) : runF tab FT D8 live 124 noLoops [(true, [(.int .i64, TC.i a0), (.int .i64, TC.i a1), (.int .i64, TC.i a2), (.int .i64, TC.i a3)])] = (spec_l15Chunk_t a0 a1 a2 a3).run fun p => some (spec_l15Chunk_mk p) := by kernel_rfl
theorem spec_l15Chunk_s : ∀ xs r, spec_l15Chunk_S xs = some (true, r) → runF tab FT D8 live 124 noLoops xs = some r := by
  intro xs r h
  unfold spec_l15Chunk_S at h
  split at h
  · simp only [Option.some.injEq, Prod.mk.injEq] at h
    obtain ⟨h1, rfl⟩ := h
    exact fun_told (spec_l15Chunk_e _ _ _ _) (spec_l15Chunk_l _ _ _ _) rfl
  · cases h
noncomputable def D9 : Dt := also D8 124 spec_l15Chunk_S
theorem d9 : DOk Go.Proofs.Try.prog tab D9 := d8.also mixed_ok tab_ok names_ok noLoops_ok spec_l15Chunk_s
/-! spec_l00Rises -/
theorem inI_s {a b c : Int} : spec_l00In_v a b c = inI a b c := rfl
abbrev spec_l00Rises_2_σ := List (List TC) × Int × Int × Int
abbrev spec_l00Rises_2_ω := (Unit) ⊕ (Unit)
noncomputable def spec_l00Rises_2_step (A : List (List TC)) (lo : Int) (hi : Int) (i : Int) : Tr (spec_l00Rises_2_σ ⊕ spec_l00Rises_2_ω) := (.ite ((decide (i < (A.length : Int))) = true) (.ite ((0 : Int) ≤ i ∧ i < (A.length : Int)) (.ite ((!(spec_l00In_v ((nth (row A i) 0).int) lo hi)) = true) (.ok (.inr (.inl ())))
    (.ite ((decide (i > (0 : Int))) = true) (.ite ((0 : Int) ≤ (IntKind.wrap .i64 (i - (1 : Int))) ∧ (IntKind.wrap .i64 (i - (1 : Int))) < (A.length : Int)) (.ite ((0 : Int) ≤ i ∧ i < (A.length : Int)) (.ite ((decide ((nth (row A (IntKind.wrap .i64 (i - (1 : Int)))) 0).int ≥ (nth (row A i) 0).int)) = true) (.ok (.inr (.inl ())))
        (.ok (.inl (A, lo, hi, (IntKind.wrap .i64 (i + (1 : Int)))))))
       .no)
      .no)
     (.ok (.inl (A, lo, hi, (IntKind.wrap .i64 (i + (1 : Int))))))))
   .no)
  (.ok (.inr (.inr ()))))
noncomputable def spec_l00Rises_2_st : spec_l00Rises_2_σ → Tr (spec_l00Rises_2_σ ⊕ spec_l00Rises_2_ω) := fun x => (spec_l00Rises_2_step (x.1) (x.2.1) (x.2.2.1) (x.2.2.2))
noncomputable def spec_l00Rises_k2_1 (A : List (List TC)) (lo : Int) (hi : Int) (i : Int) : Bool := allI (fun i => inI (keyAt A i) lo hi && upB A i) A.length
noncomputable def spec_l00Rises_o2_2 (A : List (List TC)) (lo : Int) (hi : Int) (i : Int) : Bool := is (Typed tab (.slice 2) (.l A) ∧ i = 0)
noncomputable def spec_l00Rises_o2_3 (A : List (List TC)) (lo : Int) (hi : Int) (i : Int) : Bool := is (Typed tab (.slice 2) (.l A) ∧ i = 0)
noncomputable def spec_l00Rises_2_fin (A : List (List TC)) (lo : Int) (hi : Int) (i : Int) : Told spec_l00Rises_2_ω := (.br (spec_l00Rises_k2_1 A lo hi i) (.leaf (spec_l00Rises_o2_2 A lo hi i) (.inr ())) (.leaf (spec_l00Rises_o2_3 A lo hi i) (.inl ())))
def spec_l00Rises_2_sl (x : spec_l00Rises_2_σ) : List Slot := [⟨.val false [⟨.slice 2, .sh, TC.l (x.1)⟩], ⟨0, 0⟩⟩, ⟨.val false [⟨.int .i64, .sh, TC.i (x.2.1)⟩], ⟨0, 0⟩⟩, ⟨.val false [⟨.int .i64, .sh, TC.i (x.2.2.1)⟩], ⟨0, 0⟩⟩, ⟨.val false [⟨.int .i64, .sh, TC.i (x.2.2.2)⟩], ⟨0, 0⟩⟩]
def spec_l00Rises_2_out : spec_l00Rises_2_ω → Ex × List Slot := (Sum.elim (fun x => (.ret, [⟨.val false [⟨.bool, .sh, TC.b false⟩], ⟨0, 0⟩⟩])) (fun x => (.exit 0, [Slot.none])))
noncomputable def spec_l00Rises_lo2 : List Slot → Option (Told (Ex × List Slot)) := fun s => match s with
  | [⟨.val false [⟨.slice 2, .sh, TC.l A⟩], ⟨0, 0⟩⟩, ⟨.val false [⟨.int .i64, .sh, TC.i lo⟩], ⟨0, 0⟩⟩, ⟨.val false [⟨.int .i64, .sh, TC.i hi⟩], ⟨0, 0⟩⟩, ⟨.val false [⟨.int .i64, .sh, TC.i i⟩], ⟨0, 0⟩⟩] => some (((spec_l00Rises_2_fin A lo hi i)).map spec_l00Rises_2_out)
  | _ => .none
noncomputable def spec_l00Rises_lo : LoopTeller := fun r s => bif Nat.beq r 2 then spec_l00Rises_lo2 s else .none
theorem spec_l00Rises_2_r (A : List (List TC)) (lo : Int) (hi : Int) (i : Int) (fuel : Nat) : rounds (rnd tab FT D9 live 125 spec_l00Rises_lo 0 2) leave (fuel + 1) (spec_l00Rises_2_sl (A, lo, hi, i)) = ((spec_l00Rises_2_step A lo hi i)).run (goOn (fun s => rounds (rnd tab FT D9 live 125 spec_l00Rises_lo 0 2) leave fuel (spec_l00Rises_2_sl s)) fun w => some (spec_l00Rises_2_out w)) := by kernel_rfl
theorem spec_l00Rises_2_h (A : List (List TC)) (lo : Int) (hi : Int) (i : Int) (ow : spec_l00Rises_2_ω) : ((spec_l00Rises_2_fin A lo hi i)).val = some ow → ∃ fuel, loopN spec_l00Rises_2_st fuel (A, lo, hi, i) = some ow := by
  intro h
  refine auto_br (K := allI (fun i => inI (keyAt A i) lo hi && upB A i) A.length) rfl (fun ho => ?_) h
  have ho := ho.elim id id
  obtain ⟨ht, rfl⟩ := is_iff.1 ho
  have hlen : A.length ≤ 140737488351232 := by have := typed_room ht; simp only [show (tab 2).bytes = 8 from rfl] at this; omega
  show ∃ M, loopN spec_l00Rises_2_st M (A, lo, hi, 0) = some (bif allI (fun i => inI (keyAt A i) lo hi && upB A i) A.length then .inr () else .inl ())
  refine loopN_along (step := spec_l00Rises_2_st) A.length (fun i => inI (keyAt A i) lo hi && upB A i) (fun j => (A, lo, hi, (j : Int))) (.inr ()) (fun _ => .inl ()) (fun j hj hb => ?_) (fun _ => ?_)
  · refine ⟨fun hP => ?_, fun hP => ?_⟩
    · have hP : (inI (keyAt A j) lo hi && upB A j) = true := hP
      rw [Bool.and_eq_true] at hP
      obtain ⟨ha, hu⟩ := hP
      show (spec_l00Rises_2_step A lo hi (j : Int)).val = _
      unfold spec_l00Rises_2_step
      refine Tr.t (by simp; omega) ?_
      refine Tr.t ⟨by omega, by omega⟩ ?_
      refine Tr.n (fun hh => by have h2 : (!inI (keyAt A j) lo hi) = true := hh; rw [ha] at h2; cases h2) ?_
      cases j with
      | zero =>
        refine Tr.n (by simp) ?_
        rfl
      | succ j =>
        have ei : IntKind.wrap .i64 (((j + 1 : Nat) : Int) - (1 : Int)) = (j : Int) := by rw [wrap64 (by omega) (by omega)]; omega
        have hd : decide (keyAt A j ≥ keyAt A (j + 1)) = false := by
          rw [upB_succ] at hu
          cases hd : decide (keyAt A (j + 1) ≤ keyAt A j) with
          | false => rfl
          | true => rw [hd] at hu; cases hu
        rw [ei]
        refine Tr.t (by simp) (Tr.t ⟨by omega, by omega⟩ (Tr.t ⟨by omega, by omega⟩ (Tr.n (fun hh => nomatch hd.symm.trans hh) ?_)))
        rw [Tr.val_ok, wrap64 (i := ((j + 1 : Nat) : Int) + 1) (by omega) (by omega)]
        try rfl
    · have hP : (inI (keyAt A j) lo hi && upB A j) = false := hP
      show (spec_l00Rises_2_step A lo hi (j : Int)).val = _
      unfold spec_l00Rises_2_step
      refine Tr.t (by simp; omega) ?_
      refine Tr.t ⟨by omega, by omega⟩ ?_
      cases ha : inI (keyAt A j) lo hi with
      | false => first | exact Tr.t rfl rfl | exact Tr.t (by have h2 : (!inI (keyAt A j) lo hi) = true := (by rw [ha]; rfl); exact h2) rfl
      | true =>
        refine Tr.n (fun hh => by first | (cases hh; done) | (have h2 : (!inI (keyAt A j) lo hi) = true := hh; rw [ha] at h2; cases h2)) ?_
        rw [ha, Bool.true_and] at hP
        cases j with
        | zero => cases hP
        | succ j =>
          have ei : IntKind.wrap .i64 (((j + 1 : Nat) : Int) - (1 : Int)) = (j : Int) := by rw [wrap64 (by omega) (by omega)]; omega
          have hd : decide (keyAt A j ≥ keyAt A (j + 1)) = true := by
            rw [upB_succ] at hP
            cases hd : decide (keyAt A (j + 1) ≤ keyAt A j) with
            | true => rfl
            | false => rw [hd] at hP; cases hP
          rw [ei]
          exact Tr.t (by simp) (Tr.t ⟨by omega, by omega⟩ (Tr.t ⟨by omega, by omega⟩ (Tr.t hd rfl)))
  · show (spec_l00Rises_2_step A lo hi (A.length : Int)).val = _
    unfold spec_l00Rises_2_step
    refine Tr.n (by simp) ?_
    rfl
theorem spec_l00Rises_is2 : LoopIs tab FT D9 live 125 spec_l00Rises_lo 0 2 := by
  refine loop_told (sl := spec_l00Rises_2_sl) (step := spec_l00Rises_2_st) (out := spec_l00Rises_2_out) (lor := spec_l00Rises_lo2) (fin := fun x => (spec_l00Rises_2_fin (x.1) (x.2.1) (x.2.2.1) (x.2.2.2))) (fun _ => rfl) ?_ (fun x n => spec_l00Rises_2_r x.1 x.2.1 x.2.2.1 x.2.2.2 n) (fun x ow => spec_l00Rises_2_h x.1 x.2.1 x.2.2.1 x.2.2.2 ow)
  intro s t h
  unfold spec_l00Rises_lo2 at h
  split at h
  · cases h; exact ⟨(_, _, _, _), rfl, rfl⟩
  · cases h
noncomputable def spec_l00Rises_t (A : List (List TC)) (lo : Int) (hi : Int) : Tr (Bool) := (.ite ((spec_l00Rises_k2_1 A lo hi (0 : Int)) = true) (.ite ((spec_l00Rises_o2_2 A lo hi (0 : Int)) = true) (.ok true)
   .no)
  (.ite ((spec_l00Rises_o2_3 A lo hi (0 : Int)) = true) (.ok false)
   .no))
def spec_l00Rises_mk (p : Bool) : Res := [(false, [⟨.bool, .sh, TC.b p⟩])]
noncomputable def spec_l00Rises_c (A : List (List TC)) (lo : Int) (hi : Int) : Bool := (bif (spec_l00Rises_k2_1 A lo hi (0 : Int)) then ((spec_l00Rises_o2_2 A lo hi (0 : Int)) && true) else ((spec_l00Rises_o2_3 A lo hi (0 : Int)) && true))
noncomputable def spec_l00Rises_v (A : List (List TC)) (lo : Int) (hi : Int) : Bool := (bif (spec_l00Rises_k2_1 A lo hi (0 : Int)) then true else false)
theorem spec_l00Rises_l (A : List (List TC)) (lo : Int) (hi : Int) : (spec_l00Rises_c A lo hi) = true → (spec_l00Rises_t A lo hi).val = some (spec_l00Rises_v A lo hi) := by
  unfold spec_l00Rises_t spec_l00Rises_v spec_l00Rises_c
  exact fun h => (Tr.ss h (fun h => (Tr.gb h fun h => rfl)) (fun h => (Tr.gb h fun h => rfl)))
noncomputable def spec_l00Rises_S : List Arg → Option (Bool × Res) := fun xs => match xs with
  | [(false, [(.slice 2, TC.l A)]), (false, [(.int .i64, TC.i lo)]), (false, [(.int .i64, TC.i hi)])] => some ((spec_l00Rises_c A lo hi), spec_l00Rises_mk (spec_l00Rises_v A lo hi))
  | _ => .none
theorem spec_l00Rises_e (A : List (List TC)) (lo : Int) (hi : Int) : runF tab FT D9 live 125 spec_l00Rises_lo [(false, [(.slice 2, TC.l A)]), (false, [(.int .i64, TC.i lo)]), (false, [(.int .i64, TC.i hi)])] = (spec_l00Rises_t A lo hi).run fun p => some (spec_l00Rises_mk p) := by kernel_rfl
theorem spec_l00Rises_s : ∀ xs r, spec_l00Rises_S xs = some (true, r) → runF tab FT D9 live 125 spec_l00Rises_lo xs = some r := by
  intro xs r h
  unfold spec_l00Rises_S at h
  split at h
  · simp only [Option.some.injEq, Prod.mk.injEq] at h
    obtain ⟨h1, rfl⟩ := h
    exact fun_told (spec_l00Rises_e _ _ _) (spec_l00Rises_l _ _ _) h1
  · cases h
noncomputable def D10 : Dt := also D9 125 spec_l00Rises_S
theorem d10 : DOk Go.Proofs.Try.prog tab D10 := d9.also mixed_ok tab_ok names_ok (fnLoops_one (by kernel_rfl) spec_l00Rises_is2) spec_l00Rises_s
theorem spec_l00Rises_cc {A : List (List TC)} {lo : Int} {hi : Int} (hA : Typed tab (.slice 2) (.l A)) : (spec_l00Rises_c A lo hi) = true := by
  unfold spec_l00Rises_c
  refine bifT (fun b1 => ?_) (fun b1 => ?_)
  · skip
    refine andT (by exact is_true ⟨hA, rfl⟩) ?_
    rfl
  · skip
    refine andT (by exact is_true ⟨hA, rfl⟩) ?_
    rfl
theorem spec_l00Rises_vv (A : List (List TC)) (lo hi : Int) : spec_l00Rises_v A lo hi = (allI (fun i => inI (keyAt A i) lo hi) A.length && upsB A) := by
  unfold spec_l00Rises_v
  rw [show spec_l00Rises_k2_1 A lo hi 0 = (allI (fun i => inI (keyAt A i) lo hi) A.length && upsB A) from allI_and2]
  cases (allI (fun i => inI (keyAt A i) lo hi) A.length && upsB A) <;> rfl
/-! spec_l15Node -/
theorem ch_s {x : List TC} : spec_l15Chunk_v ((nth x 0).int) ((nth x 1).int) ((nth x 2).int) ((nth x 3).int) = chB x := by
  unfold spec_l15Chunk_v chB
  rw [inI_s, inI_s, inI_s, inI_s]
  cases inI (nth x 0).int 0 65535 <;> cases inI (nth x 1).int 1 255 <;> cases inI (nth x 2).int 0 65535 <;> rfl
abbrev spec_l15Node_11_σ := Bool × List (List TC) × List (List TC) × List (List TC) × Int
abbrev spec_l15Node_11_ω := (Unit) ⊕ (Unit)
noncomputable def spec_l15Node_11_step (L : Bool) (C : List (List TC)) (K : List (List TC)) (D : List (List TC)) (i : Int) : Tr (spec_l15Node_11_σ ⊕ spec_l15Node_11_ω) := (.ite ((decide (i < (D.length : Int))) = true) (.ite ((0 : Int) ≤ i ∧ i < (D.length : Int)) (.ite ((!(spec_l00In_v ((nth (row D i) 0).int) (1 : Int) (255 : Int))) = true) (.ok (.inr (.inl ())))
    (.ok (.inl (L, C, K, D, (IntKind.wrap .i64 (i + (1 : Int)))))))
   .no)
  (.ok (.inr (.inr ()))))
noncomputable def spec_l15Node_11_st : spec_l15Node_11_σ → Tr (spec_l15Node_11_σ ⊕ spec_l15Node_11_ω) := fun x => (spec_l15Node_11_step (x.1) (x.2.1) (x.2.2.1) (x.2.2.2.1) (x.2.2.2.2))
noncomputable def spec_l15Node_k11_1 (L : Bool) (C : List (List TC)) (K : List (List TC)) (D : List (List TC)) (i : Int) : Bool := allI (fun i => inI (keyAt D i) 1 255) D.length
noncomputable def spec_l15Node_o11_2 (L : Bool) (C : List (List TC)) (K : List (List TC)) (D : List (List TC)) (i : Int) : Bool := is (Typed tab (.slice 2) (.l D) ∧ i = 0)
noncomputable def spec_l15Node_o11_3 (L : Bool) (C : List (List TC)) (K : List (List TC)) (D : List (List TC)) (i : Int) : Bool := is (Typed tab (.slice 2) (.l D) ∧ i = 0)
noncomputable def spec_l15Node_11_fin (L : Bool) (C : List (List TC)) (K : List (List TC)) (D : List (List TC)) (i : Int) : Told spec_l15Node_11_ω := (.br (spec_l15Node_k11_1 L C K D i) (.leaf (spec_l15Node_o11_2 L C K D i) (.inr ())) (.leaf (spec_l15Node_o11_3 L C K D i) (.inl ())))
def spec_l15Node_11_sl (x : spec_l15Node_11_σ) : List Slot := [⟨.bx 79 [⟨.bool, .sh, TC.b (x.1)⟩, ⟨.slice 159, .sh, TC.l (x.2.1)⟩, ⟨.slice 2, .sh, TC.l (x.2.2.1)⟩, ⟨.slice 2, .sh, TC.l (x.2.2.2.1)⟩], ⟨0, 0⟩⟩, ⟨.val false [⟨.int .i64, .sh, TC.i (x.2.2.2.2)⟩], ⟨0, 0⟩⟩]
def spec_l15Node_11_out : spec_l15Node_11_ω → Ex × List Slot := (Sum.elim (fun x => (.ret, [⟨.val false [⟨.bool, .sh, TC.b false⟩], ⟨0, 0⟩⟩])) (fun x => (.exit 2, [Slot.none])))
noncomputable def spec_l15Node_lo11 : List Slot → Option (Told (Ex × List Slot)) := fun s => match s with
  | [⟨.bx 79 [⟨.bool, .sh, TC.b L⟩, ⟨.slice 159, .sh, TC.l C⟩, ⟨.slice 2, .sh, TC.l K⟩, ⟨.slice 2, .sh, TC.l D⟩], ⟨0, 0⟩⟩, ⟨.val false [⟨.int .i64, .sh, TC.i i⟩], ⟨0, 0⟩⟩] => some (((spec_l15Node_11_fin L C K D i)).map spec_l15Node_11_out)
  | _ => .none
abbrev spec_l15Node_3_σ := Bool × List (List TC) × List (List TC) × List (List TC) × Int
abbrev spec_l15Node_3_ω := (Bool × List (List TC) × List (List TC) × List (List TC)) ⊕ (Bool × List (List TC) × List (List TC) × List (List TC))
noncomputable def spec_l15Node_3_step (L : Bool) (C : List (List TC)) (K : List (List TC)) (D : List (List TC)) (i : Int) : Tr (spec_l15Node_3_σ ⊕ spec_l15Node_3_ω) := (.ite ((decide (i < (C.length : Int))) = true) (.ite ((decide (i ≤ (8 : Int))) = true) (.ite ((0 : Int) ≤ i ∧ i < (C.length : Int)) (.ite ((!(spec_l15Chunk_v ((nth (row C i) 0).int) ((nth (row C i) 1).int) ((nth (row C i) 2).int) ((nth (row C i) 3).int))) = true) (.ok (.inr (.inl (L, C, K, D))))
     (.ite ((decide (i > (0 : Int))) = true) (.ite ((0 : Int) ≤ (IntKind.wrap .i64 (i - (1 : Int))) ∧ (IntKind.wrap .i64 (i - (1 : Int))) < (C.length : Int)) (.ite ((0 : Int) ≤ i ∧ i < (C.length : Int)) (.ite ((decide ((nth (row C (IntKind.wrap .i64 (i - (1 : Int)))) 0).int ≥ (nth (row C i) 0).int)) = true) (.ok (.inr (.inl (L, C, K, D))))
         (.ok (.inl (L, C, K, D, (IntKind.wrap .i64 (i + (1 : Int)))))))
        .no)
       .no)
      (.ok (.inl (L, C, K, D, (IntKind.wrap .i64 (i + (1 : Int))))))))
    .no)
   (.ok (.inr (.inr (L, C, K, D)))))
  (.ok (.inr (.inr (L, C, K, D)))))
noncomputable def spec_l15Node_3_st : spec_l15Node_3_σ → Tr (spec_l15Node_3_σ ⊕ spec_l15Node_3_ω) := fun x => (spec_l15Node_3_step (x.1) (x.2.1) (x.2.2.1) (x.2.2.2.1) (x.2.2.2.2))
noncomputable def spec_l15Node_k3_1 (L : Bool) (C : List (List TC)) (K : List (List TC)) (D : List (List TC)) (i : Int) : Bool := allI (fun i => chB (row C (i : Int)) && upB C i) (min C.length 9)
noncomputable def spec_l15Node_o3_2 (L : Bool) (C : List (List TC)) (K : List (List TC)) (D : List (List TC)) (i : Int) : Bool := is (Typed tab (.slice 159) (.l C) ∧ i = 0)
noncomputable def spec_l15Node_o3_3 (L : Bool) (C : List (List TC)) (K : List (List TC)) (D : List (List TC)) (i : Int) : Bool := is (Typed tab (.slice 159) (.l C) ∧ i = 0)
noncomputable def spec_l15Node_3_fin (L : Bool) (C : List (List TC)) (K : List (List TC)) (D : List (List TC)) (i : Int) : Told spec_l15Node_3_ω := (.br (spec_l15Node_k3_1 L C K D i) (.leaf (spec_l15Node_o3_2 L C K D i) (.inr (L, C, K, D))) (.leaf (spec_l15Node_o3_3 L C K D i) (.inl (L, C, K, D))))
def spec_l15Node_3_sl (x : spec_l15Node_3_σ) : List Slot := [⟨.bx 79 [⟨.bool, .sh, TC.b (x.1)⟩, ⟨.slice 159, .sh, TC.l (x.2.1)⟩, ⟨.slice 2, .sh, TC.l (x.2.2.1)⟩, ⟨.slice 2, .sh, TC.l (x.2.2.2.1)⟩], ⟨0, 0⟩⟩, ⟨.val false [⟨.int .i64, .sh, TC.i (x.2.2.2.2)⟩], ⟨0, 0⟩⟩]
def spec_l15Node_3_out : spec_l15Node_3_ω → Ex × List Slot := (Sum.elim (fun x => (.ret, [⟨.bx 79 [⟨.bool, .sh, TC.b (x.1)⟩, ⟨.slice 159, .sh, TC.l (x.2.1)⟩, ⟨.slice 2, .sh, TC.l (x.2.2.1)⟩, ⟨.slice 2, .sh, TC.l (x.2.2.2)⟩], ⟨0, 0⟩⟩, ⟨.val false [⟨.bool, .sh, TC.b false⟩], ⟨0, 0⟩⟩])) (fun x => (.exit 0, [⟨.bx 79 [⟨.bool, .sh, TC.b (x.1)⟩, ⟨.slice 159, .sh, TC.l (x.2.1)⟩, ⟨.slice 2, .sh, TC.l (x.2.2.1)⟩, ⟨.slice 2, .sh, TC.l (x.2.2.2)⟩], ⟨0, 0⟩⟩, Slot.none])))
noncomputable def spec_l15Node_lo3 : List Slot → Option (Told (Ex × List Slot)) := fun s => match s with
  | [⟨.bx 79 [⟨.bool, .sh, TC.b L⟩, ⟨.slice 159, .sh, TC.l C⟩, ⟨.slice 2, .sh, TC.l K⟩, ⟨.slice 2, .sh, TC.l D⟩], ⟨0, 0⟩⟩, ⟨.val false [⟨.int .i64, .sh, TC.i i⟩], ⟨0, 0⟩⟩] => some (((spec_l15Node_3_fin L C K D i)).map spec_l15Node_3_out)
  | _ => .none
noncomputable def spec_l15Node_lo : LoopTeller := fun r s => bif Nat.beq r 3 then spec_l15Node_lo3 s else bif Nat.beq r 11 then spec_l15Node_lo11 s else .none
theorem spec_l15Node_11_r (L : Bool) (C : List (List TC)) (K : List (List TC)) (D : List (List TC)) (i : Int) (fuel : Nat) : rounds (rnd tab FT D10 live 81 spec_l15Node_lo 1 11) leave (fuel + 1) (spec_l15Node_11_sl (L, C, K, D, i)) = ((spec_l15Node_11_step L C K D i)).run (goOn (fun s => rounds (rnd tab FT D10 live 81 spec_l15Node_lo 1 11) leave fuel (spec_l15Node_11_sl s)) fun w => some (spec_l15Node_11_out w)) := by kernel_rfl
theorem spec_l15Node_11_h (L : Bool) (C : List (List TC)) (K : List (List TC)) (D : List (List TC)) (i : Int) (ow : spec_l15Node_11_ω) : ((spec_l15Node_11_fin L C K D i)).val = some ow → ∃ fuel, loopN spec_l15Node_11_st fuel (L, C, K, D, i) = some ow := by
  intro h
  refine auto_br (K := allI (fun i => inI (keyAt D i) 1 255) D.length) rfl (fun ho => ?_) h
  have ho := ho.elim id id
  obtain ⟨ht, rfl⟩ := is_iff.1 ho
  have hlen : D.length ≤ 140737488351232 := by have := typed_room ht; simp only [show (tab 2).bytes = 8 from rfl] at this; omega
  show ∃ M, loopN spec_l15Node_11_st M (L, C, K, D, 0) = some (bif allI (fun i => inI (keyAt D i) 1 255) D.length then .inr () else .inl ())
  refine loopN_along (step := spec_l15Node_11_st) D.length (fun i => inI (keyAt D i) 1 255) (fun j => (L, C, K, D, (j : Int))) (.inr ()) (fun _ => .inl ()) (fun j hj hb => ⟨fun hP => ?_, fun hP => ?_⟩) (fun _ => ?_)
  · have hP : inI (keyAt D j) 1 255 = true := hP
    show (spec_l15Node_11_step L C K D (j : Int)).val = _
    unfold spec_l15Node_11_step
    refine Tr.t (by simp; omega) (Tr.t ⟨by omega, by omega⟩ (Tr.n (fun hh => by have h2 : (!inI (keyAt D j) 1 255) = true := hh; rw [hP] at h2; cases h2) ?_))
    rw [Tr.val_ok, wrap64 (i := (j : Int) + 1) (by omega) (by omega)]; rfl
  · have hP : inI (keyAt D j) 1 255 = false := hP
    show (spec_l15Node_11_step L C K D (j : Int)).val = _
    unfold spec_l15Node_11_step
    exact Tr.t (by simp; omega) (Tr.t ⟨by omega, by omega⟩ (Tr.t (by have h2 : (!inI (keyAt D j) 1 255) = true := (by rw [hP]; rfl); exact h2) rfl))
  · show (spec_l15Node_11_step L C K D (D.length : Int)).val = _
    unfold spec_l15Node_11_step
    exact Tr.n (by simp) rfl
theorem spec_l15Node_is11 : LoopIs tab FT D10 live 81 spec_l15Node_lo 1 11 := by
  refine loop_told (sl := spec_l15Node_11_sl) (step := spec_l15Node_11_st) (out := spec_l15Node_11_out) (lor := spec_l15Node_lo11) (fin := fun x => (spec_l15Node_11_fin (x.1) (x.2.1) (x.2.2.1) (x.2.2.2.1) (x.2.2.2.2))) (fun _ => rfl) ?_ (fun x n => spec_l15Node_11_r x.1 x.2.1 x.2.2.1 x.2.2.2.1 x.2.2.2.2 n) (fun x ow => spec_l15Node_11_h x.1 x.2.1 x.2.2.1 x.2.2.2.1 x.2.2.2.2 ow)
  intro s t h
  unfold spec_l15Node_lo11 at h
  split at h
  · cases h; exact ⟨(_, _, _, _, _), rfl, rfl⟩
  · cases h
theorem spec_l15Node_3_r (L : Bool) (C : List (List TC)) (K : List (List TC)) (D : List (List TC)) (i : Int) (fuel : Nat) : rounds (rnd tab FT D10 live 81 spec_l15Node_lo 0 3) leave (fuel + 1) (spec_l15Node_3_sl (L, C, K, D, i)) = ((spec_l15Node_3_step L C K D i)).run (goOn (fun s => rounds (rnd tab FT D10 live 81 spec_l15Node_lo 0 3) leave fuel (spec_l15Node_3_sl s)) fun w => some (spec_l15Node_3_out w)) := by kernel_rfl
theorem spec_l15Node_3_h (L : Bool) (C : List (List TC)) (K : List (List TC)) (D : List (List TC)) (i : Int) (ow : spec_l15Node_3_ω) : ((spec_l15Node_3_fin L C K D i)).val = some ow → ∃ fuel, loopN spec_l15Node_3_st fuel (L, C, K, D, i) = some ow := by
  intro h
  refine auto_br (K := allI (fun i => chB (row C (i : Int)) && upB C i) (min C.length 9)) rfl (fun ho => ?_) h
  have ho := ho.elim id id
  obtain ⟨ht, rfl⟩ := is_iff.1 ho
  have hlen : C.length ≤ 140737488351232 := by have := typed_room ht; simp only [show (tab 159).bytes = 32 from rfl] at this; omega
  show ∃ M, loopN spec_l15Node_3_st M (L, C, K, D, 0) = some (bif allI (fun i => chB (row C (i : Int)) && upB C i) (min C.length 9) then .inr (L, C, K, D) else .inl (L, C, K, D))
  refine loopN_along (step := spec_l15Node_3_st) (min C.length 9) (fun i => chB (row C (i : Int)) && upB C i) (fun j => (L, C, K, D, (j : Int))) (.inr (L, C, K, D)) (fun _ => .inl (L, C, K, D)) (fun j hj hb => ?_) (fun _ => ?_)
  · obtain ⟨hj1, hj2⟩ := Nat.lt_min.1 hj
    refine ⟨fun hP => ?_, fun hP => ?_⟩
    · have hP : (chB (row C (j : Int)) && upB C j) = true := hP
      rw [Bool.and_eq_true] at hP
      obtain ⟨ha, hu⟩ := hP
      show (spec_l15Node_3_step L C K D (j : Int)).val = _
      unfold spec_l15Node_3_step
      rw [ch_s]
      refine Tr.t (by simp; omega) ?_
      refine Tr.t (by simp; omega) ?_
      refine Tr.t ⟨by omega, by omega⟩ ?_
      refine Tr.n (fun hh => by have h2 : (!chB (row C (j : Int))) = true := hh; rw [ha] at h2; cases h2) ?_
      cases j with
      | zero =>
        refine Tr.n (by simp) ?_
        rfl
      | succ j =>
        have ei : IntKind.wrap .i64 (((j + 1 : Nat) : Int) - (1 : Int)) = (j : Int) := by rw [wrap64 (by omega) (by omega)]; omega
        have hd : decide (keyAt C j ≥ keyAt C (j + 1)) = false := by
          rw [upB_succ] at hu
          cases hd : decide (keyAt C (j + 1) ≤ keyAt C j) with
          | false => rfl
          | true => rw [hd] at hu; cases hu
        rw [ei]
        refine Tr.t (by simp) (Tr.t ⟨by omega, by omega⟩ (Tr.t ⟨by omega, by omega⟩ (Tr.n (fun hh => nomatch hd.symm.trans hh) ?_)))
        rw [Tr.val_ok, wrap64 (i := ((j + 1 : Nat) : Int) + 1) (by omega) (by omega)]
        try rfl
    · have hP : (chB (row C (j : Int)) && upB C j) = false := hP
      show (spec_l15Node_3_step L C K D (j : Int)).val = _
      unfold spec_l15Node_3_step
      rw [ch_s]
      refine Tr.t (by simp; omega) ?_
      refine Tr.t (by simp; omega) ?_
      refine Tr.t ⟨by omega, by omega⟩ ?_
      cases ha : chB (row C (j : Int)) with
      | false => first | exact Tr.t rfl rfl | exact Tr.t (by have h2 : (!chB (row C (j : Int))) = true := (by rw [ha]; rfl); exact h2) rfl
      | true =>
        refine Tr.n (fun hh => by first | (cases hh; done) | (have h2 : (!chB (row C (j : Int))) = true := hh; rw [ha] at h2; cases h2)) ?_
        rw [ha, Bool.true_and] at hP
        cases j with
        | zero => cases hP
        | succ j =>
          have ei : IntKind.wrap .i64 (((j + 1 : Nat) : Int) - (1 : Int)) = (j : Int) := by rw [wrap64 (by omega) (by omega)]; omega
          have hd : decide (keyAt C j ≥ keyAt C (j + 1)) = true := by
            rw [upB_succ] at hP
            cases hd : decide (keyAt C (j + 1) ≤ keyAt C j) with
            | true => rfl
            | false => rw [hd] at hP; cases hP
          rw [ei]
          exact Tr.t (by simp) (Tr.t ⟨by omega, by omega⟩ (Tr.t ⟨by omega, by omega⟩ (Tr.t hd rfl)))
  · show (spec_l15Node_3_step L C K D ((min C.length 9 : Nat) : Int)).val = _
    unfold spec_l15Node_3_step
    by_cases h8 : C.length ≤ 8
    · rw [Nat.min_eq_left (show C.length ≤ 9 by omega)]
      exact Tr.n (by simp) rfl
    · have h9 : 9 ≤ C.length := by omega
      rw [Nat.min_eq_right h9]
      by_cases h10 : C.length = 9
      · rw [h10]
        exact Tr.n (by decide) rfl
      · have h11 : 9 < C.length := by omega
        have hd : decide (((9 : Nat) : Int) < (C.length : Int)) = true := decide_eq_true (by omega)
        exact Tr.t hd (Tr.n (by simp) rfl)
theorem spec_l15Node_is3 : LoopIs tab FT D10 live 81 spec_l15Node_lo 0 3 := by
  refine loop_told (sl := spec_l15Node_3_sl) (step := spec_l15Node_3_st) (out := spec_l15Node_3_out) (lor := spec_l15Node_lo3) (fin := fun x => (spec_l15Node_3_fin (x.1) (x.2.1) (x.2.2.1) (x.2.2.2.1) (x.2.2.2.2))) (fun _ => rfl) ?_ (fun x n => spec_l15Node_3_r x.1 x.2.1 x.2.2.1 x.2.2.2.1 x.2.2.2.2 n) (fun x ow => spec_l15Node_3_h x.1 x.2.1 x.2.2.1 x.2.2.2.1 x.2.2.2.2 ow)
  intro s t h
  unfold spec_l15Node_lo3 at h
  split at h
  · cases h; exact ⟨(_, _, _, _, _), rfl, rfl⟩
  · cases h
noncomputable def spec_l15Node_t (L : Bool) (C : List (List TC)) (K : List (List TC)) (D : List (List TC)) : Tr (Bool) := (.ite (L = true) (.ite ((spec_l15Node_k3_1 L C K D (0 : Int)) = true) (.ite ((spec_l15Node_o3_2 L C K D (0 : Int)) = true) (.ite ((decide ((C.length : Int) ≤ (8 : Int))) = true) (.ite (((K.length : Int) == (0 : Int)) = true) (.ok ((D.length : Int) == (0 : Int)))
      (.ok false))
     (.ok false))
    .no)
   (.ite ((spec_l15Node_o3_3 L C K D (0 : Int)) = true) (.ok false)
    .no))
  (.ite ((!(spec_l00In_v (K.length : Int) (1 : Int) (7 : Int))) = true) (.ok false)
   (.ite ((!((D.length : Int) == (IntKind.wrap .i64 ((K.length : Int) + (1 : Int))))) = true) (.ok false)
    (.ite ((!((C.length : Int) == (0 : Int))) = true) (.ok false)
     (.ite ((spec_l00Rises_c K (0 : Int) (65535 : Int)) = true) (.ite ((!(spec_l00Rises_v K (0 : Int) (65535 : Int))) = true) (.ok false)
       (.ite ((spec_l15Node_k11_1 L C K D (0 : Int)) = true) (.ite ((spec_l15Node_o11_2 L C K D (0 : Int)) = true) (.ok true)
         .no)
        (.ite ((spec_l15Node_o11_3 L C K D (0 : Int)) = true) (.ok false)
         .no)))
      .no)))))
def spec_l15Node_mk (p : Bool) : Res := [(false, [⟨.bool, .sh, TC.b p⟩])]
noncomputable def spec_l15Node_c (L : Bool) (C : List (List TC)) (K : List (List TC)) (D : List (List TC)) : Bool := (bif L then (bif (spec_l15Node_k3_1 L C K D (0 : Int)) then ((spec_l15Node_o3_2 L C K D (0 : Int)) && (bif (decide ((C.length : Int) ≤ (8 : Int))) then (bif ((K.length : Int) == (0 : Int)) then true else true) else true)) else ((spec_l15Node_o3_3 L C K D (0 : Int)) && true)) else (bif (!(spec_l00In_v (K.length : Int) (1 : Int) (7 : Int))) then true else (bif (!((D.length : Int) == (IntKind.wrap .i64 ((K.length : Int) + (1 : Int))))) then true else (bif (!((C.length : Int) == (0 : Int))) then true else ((spec_l00Rises_c K (0 : Int) (65535 : Int)) && (bif (!(spec_l00Rises_v K (0 : Int) (65535 : Int))) then true else (bif (spec_l15Node_k11_1 L C K D (0 : Int)) then ((spec_l15Node_o11_2 L C K D (0 : Int)) && true) else ((spec_l15Node_o11_3 L C K D (0 : Int)) && true))))))))
noncomputable def spec_l15Node_v (L : Bool) (C : List (List TC)) (K : List (List TC)) (D : List (List TC)) : Bool := (bif L then (bif (spec_l15Node_k3_1 L C K D (0 : Int)) then (bif (decide ((C.length : Int) ≤ (8 : Int))) then (bif ((K.length : Int) == (0 : Int)) then ((D.length : Int) == (0 : Int)) else false) else false) else false) else (bif (!(spec_l00In_v (K.length : Int) (1 : Int) (7 : Int))) then false else (bif (!((D.length : Int) == (IntKind.wrap .i64 ((K.length : Int) + (1 : Int))))) then false else (bif (!((C.length : Int) == (0 : Int))) then false else (bif (!(spec_l00Rises_v K (0 : Int) (65535 : Int))) then false else (bif (spec_l15Node_k11_1 L C K D (0 : Int)) then true else false))))))
theorem spec_l15Node_l (L : Bool) (C : List (List TC)) (K : List (List TC)) (D : List (List TC)) : (spec_l15Node_c L C K D) = true → (spec_l15Node_t L C K D).val = some (spec_l15Node_v L C K D) := by
  unfold spec_l15Node_t spec_l15Node_v spec_l15Node_c
  exact fun h => (Tr.ss h (fun h => (Tr.ss h (fun h => (Tr.gb h fun h => (Tr.ss h (fun h => (Tr.ss h (fun h => rfl) (fun h => rfl))) (fun h => rfl)))) (fun h => (Tr.gb h fun h => rfl)))) (fun h => (Tr.ss h (fun h => rfl) (fun h => (Tr.ss h (fun h => rfl) (fun h => (Tr.ss h (fun h => rfl) (fun h => (Tr.gb h fun h => (Tr.ss h (fun h => rfl) (fun h => (Tr.ss h (fun h => (Tr.gb h fun h => rfl)) (fun h => (Tr.gb h fun h => rfl))))))))))))))
noncomputable def spec_l15Node_S : List Arg → Option (Bool × Res) := fun xs => match xs with
  | [(true, [(.bool, TC.b L), (.slice 159, TC.l C), (.slice 2, TC.l K), (.slice 2, TC.l D)])] => some ((spec_l15Node_c L C K D), spec_l15Node_mk (spec_l15Node_v L C K D))
  | _ => .none
theorem spec_l15Node_e (L : Bool) (C : List (List TC)) (K : List (List TC)) (D : List (List TC)) : runF tab FT D10 live 81 spec_l15Node_lo [(true, [(.bool, TC.b L), (.slice 159, TC.l C), (.slice 2, TC.l K), (.slice 2, TC.l D)])] = (spec_l15Node_t L C K D).run fun p => some (spec_l15Node_mk p) := by kernel_rfl
theorem spec_l15Node_s : ∀ xs r, spec_l15Node_S xs = some (true, r) → runF tab FT D10 live 81 spec_l15Node_lo xs = some r := by
  intro xs r h
  unfold spec_l15Node_S at h
  split at h
  · simp only [Option.some.injEq, Prod.mk.injEq] at h
    obtain ⟨h1, rfl⟩ := h
    exact fun_told (spec_l15Node_e _ _ _ _) (spec_l15Node_l _ _ _ _) h1
  · cases h
noncomputable def D11 : Dt := also D10 81 spec_l15Node_S
theorem d11 : DOk Go.Proofs.Try.prog tab D11 := d10.also mixed_ok tab_ok names_ok (fnLoops_two (by kernel_rfl) spec_l15Node_is3 spec_l15Node_is11) spec_l15Node_s
theorem spec_l15Node_cc {L : Bool} {C : List (List TC)} {K : List (List TC)} {D : List (List TC)} (hC : Typed tab (.slice 159) (.l C)) (hK : Typed tab (.slice 2) (.l K)) (hD : Typed tab (.slice 2) (.l D)) : (spec_l15Node_c L C K D) = true := by
  unfold spec_l15Node_c
  refine bifT (fun b1 => ?_) (fun b1 => ?_)
  · skip
    refine bifT (fun b2 => ?_) (fun b2 => ?_)
    · skip
      refine andT (by exact is_true ⟨hC, rfl⟩) ?_
      refine bifT (fun b3 => ?_) (fun b3 => ?_)
      · skip
        refine bifT (fun b4 => ?_) (fun b4 => ?_)
        · skip
          rfl
        · skip
          rfl
      · skip
        rfl
    · skip
      refine andT (by exact is_true ⟨hC, rfl⟩) ?_
      rfl
  · skip
    refine bifT (fun b5 => ?_) (fun b5 => ?_)
    · skip
      rfl
    · skip
      refine bifT (fun b6 => ?_) (fun b6 => ?_)
      · skip
        rfl
      · skip
        refine bifT (fun b7 => ?_) (fun b7 => ?_)
        · skip
          rfl
        · skip
          refine andT (by exact spec_l00Rises_cc hK) ?_
          refine bifT (fun b8 => ?_) (fun b8 => ?_)
          · skip
            rfl
          · skip
            refine bifT (fun b9 => ?_) (fun b9 => ?_)
            · skip
              refine andT (by exact is_true ⟨hD, rfl⟩) ?_
              rfl
            · skip
              refine andT (by exact is_true ⟨hD, rfl⟩) ?_
              rfl
theorem spec_l15Node_vv (L : Bool) (C K D : List (List TC)) : spec_l15Node_v L C K D = nodeOk L C K D := by
  unfold spec_l15Node_v nodeOk
  rw [inI_s, spec_l00Rises_vv]
  cases L with
  | false =>
    rw [show spec_l15Node_k11_1 false C K D 0 = allI (fun i => inI (keyAt D i) 1 255) D.length from rfl]
    show (bif !(inI (K.length : Int) 1 7) then false else _) = (inI (K.length : Int) 1 7 && _ && _ && _ && _)
    generalize inI (K.length : Int) 1 7 = p1, ((D.length : Int) == (IntKind.wrap .i64 ((K.length : Int) + (1 : Int)))) = p2, ((C.length : Int) == (0 : Int)) = p3, (allI (fun i => inI (keyAt K i) 0 65535) K.length && upsB K) = p4, allI (fun i => inI (keyAt D i) 1 255) D.length = p5
    cases p1 <;> cases p2 <;> cases p3 <;> cases p4 <;> cases p5 <;> rfl
  | true =>
    show (bif spec_l15Node_k3_1 true C K D 0 then _ else false) = (decide ((C.length : Int) ≤ 8) && (C.all chB && upsB C) && _ && _)
    by_cases h8 : (C.length : Int) ≤ 8
    · rw [decide_eq_true h8, show spec_l15Node_k3_1 true C K D 0 = (C.all chB && upsB C) from (by
        show allI (fun i => chB (row C (i : Int)) && upB C i) (min C.length 9) = _
        rw [Nat.min_eq_left (by omega), allI_and2, allI_rows]; rfl)]
      generalize (C.all chB && upsB C) = p1, ((K.length : Int) == (0 : Int)) = p2, ((D.length : Int) == (0 : Int)) = p3
      cases p1 <;> cases p2 <;> cases p3 <;> rfl
    · rw [decide_eq_false h8]
      cases spec_l15Node_k3_1 true C K D 0 <;> rfl
/-! spec_l01Bytes -/
abbrev spec_l01Bytes_3_σ := Int × Int × List (List TC) × Int
abbrev spec_l01Bytes_3_ω := (List (List TC))
noncomputable def spec_l01Bytes_3_step (n : Int) (size : Int) (X : List (List TC)) (k : Int) : Tr (spec_l01Bytes_3_σ ⊕ spec_l01Bytes_3_ω) := (.ite ((decide (k < size)) = true) (.ite (0 ≤ (IntKind.wrap .u64 ((8 : Int) * (IntKind.wrap .u64 k)))) (.ite (roomFor (tab 5) (X ++ [[TC.i (IntKind.wrap .u8 (bits .i64 (fun a b => a &&& b) (Int.fdiv n (2 ^ (min ((IntKind.wrap .u64 ((8 : Int) * (IntKind.wrap .u64 k)))).toNat 64))) (255 : Int)))]]).length) (.ok (.inl (n, size, (X ++ [[TC.i (IntKind.wrap .u8 (bits .i64 (fun a b => a &&& b) (Int.fdiv n (2 ^ (min ((IntKind.wrap .u64 ((8 : Int) * (IntKind.wrap .u64 k)))).toNat 64))) (255 : Int)))]]), (IntKind.wrap .i64 (k + (1 : Int))))))
    .no)
   .no)
  (.ok (.inr X)))
noncomputable def spec_l01Bytes_3_st : spec_l01Bytes_3_σ → Tr (spec_l01Bytes_3_σ ⊕ spec_l01Bytes_3_ω) := fun x => (spec_l01Bytes_3_step (x.1) (x.2.1) (x.2.2.1) (x.2.2.2))
noncomputable def spec_l01Bytes_o3_1 (n : Int) (size : Int) (X : List (List TC)) (k : Int) : Bool := is (∃ sz : Nat, size = (sz : Int) ∧ sz ≤ 8 ∧ X = [] ∧ k = 0)
noncomputable def spec_l01Bytes_u3_1 (n : Int) (size : Int) (X : List (List TC)) (k : Int) : List (List TC) := bRows n size.toNat
noncomputable def spec_l01Bytes_3_fin (n : Int) (size : Int) (X : List (List TC)) (k : Int) : Told spec_l01Bytes_3_ω := (.leaf (spec_l01Bytes_o3_1 n size X k) (spec_l01Bytes_u3_1 n size X k))
def spec_l01Bytes_3_sl (x : spec_l01Bytes_3_σ) : List Slot := [⟨.val false [⟨.int .i64, .sh, TC.i (x.1)⟩], ⟨0, 0⟩⟩, ⟨.val false [⟨.int .i64, .sh, TC.i (x.2.1)⟩], ⟨0, 0⟩⟩, ⟨.val false [⟨.slice 5, .own true, TC.l (x.2.2.1)⟩], ⟨0, 0⟩⟩, ⟨.val false [⟨.int .i64, .sh, TC.i (x.2.2.2)⟩], ⟨0, 0⟩⟩]
def spec_l01Bytes_3_out : spec_l01Bytes_3_ω → Ex × List Slot := (fun x => (.exit 0, [Slot.none, ⟨.val false [⟨.slice 5, .own true, TC.l x⟩], ⟨0, 0⟩⟩]))
noncomputable def spec_l01Bytes_lo3 : List Slot → Option (Told (Ex × List Slot)) := fun s => match s with
  | [⟨.val false [⟨.int .i64, .sh, TC.i n⟩], ⟨0, 0⟩⟩, ⟨.val false [⟨.int .i64, .sh, TC.i size⟩], ⟨0, 0⟩⟩, ⟨.val false [⟨.slice 5, .own true, TC.l X⟩], ⟨0, 0⟩⟩, ⟨.val false [⟨.int .i64, .sh, TC.i k⟩], ⟨0, 0⟩⟩] => some (((spec_l01Bytes_3_fin n size X k)).map spec_l01Bytes_3_out)
  | _ => .none
noncomputable def spec_l01Bytes_lo : LoopTeller := fun r s => bif Nat.beq r 3 then spec_l01Bytes_lo3 s else .none
theorem spec_l01Bytes_3_r (n : Int) (size : Int) (X : List (List TC)) (k : Int) (fuel : Nat) : rounds (rnd tab FT D11 live 108 spec_l01Bytes_lo 0 3) leave (fuel + 1) (spec_l01Bytes_3_sl (n, size, X, k)) = ((spec_l01Bytes_3_step n size X k)).run (goOn (fun s => rounds (rnd tab FT D11 live 108 spec_l01Bytes_lo 0 3) leave fuel (spec_l01Bytes_3_sl s)) fun w => some (spec_l01Bytes_3_out w)) := by kernel_rfl
theorem spec_l01Bytes_3_h (n : Int) (size : Int) (X : List (List TC)) (k : Int) (ow : spec_l01Bytes_3_ω) : ((spec_l01Bytes_3_fin n size X k)).val = some ow → ∃ fuel, loopN spec_l01Bytes_3_st fuel (n, size, X, k) = some ow := by
  intro h
  refine auto_leaf (R := bRows n size.toNat) (fun ho => ?_) h
  obtain ⟨sz, rfl, h8, rfl, rfl⟩ := is_iff.1 ho
  refine ⟨sz + 1, loopN_run (step := spec_l01Bytes_3_st) (N := sz) (fun j => (n, (sz : Int), bRows n j, (j : Int))) (fun j hj => ?_) ?_ sz 0 (by omega)⟩
  · show (spec_l01Bytes_3_step n (sz : Int) (bRows n j) (j : Int)).val = _
    unfold spec_l01Bytes_3_step
    rw [bAt_u64 (by omega), bRows_succ]
    refine Tr.t (by simp; omega) ?_
    refine Tr.t (by rw [IntKind.wrap_u64]; omega) ?_
    refine Tr.t (by unfold roomFor; simp only [show (tab 5).bytes = 1 from rfl, bRows_len]; omega) ?_
    rw [Tr.val_ok, wrap64 (i := (j : Int) + 1) (by omega) (by omega)]; rfl
  · show (spec_l01Bytes_3_step n (sz : Int) (bRows n sz) (sz : Int)).val = _
    refine Tr.n (by simp) ?_
    rfl
theorem spec_l01Bytes_is3 : LoopIs tab FT D11 live 108 spec_l01Bytes_lo 0 3 := by
  refine loop_told (sl := spec_l01Bytes_3_sl) (step := spec_l01Bytes_3_st) (out := spec_l01Bytes_3_out) (lor := spec_l01Bytes_lo3) (fin := fun x => (spec_l01Bytes_3_fin (x.1) (x.2.1) (x.2.2.1) (x.2.2.2))) (fun _ => rfl) ?_ (fun x n => spec_l01Bytes_3_r x.1 x.2.1 x.2.2.1 x.2.2.2 n) (fun x ow => spec_l01Bytes_3_h x.1 x.2.1 x.2.2.1 x.2.2.2 ow)
  intro s t h
  unfold spec_l01Bytes_lo3 at h
  split at h
  · cases h; exact ⟨(_, _, _, _), rfl, rfl⟩
  · cases h
noncomputable def spec_l01Bytes_t (n : Int) (size : Int) : Tr (List UInt8) := (.ite ((spec_l01Bytes_o3_1 n size [] (0 : Int)) = true) (.ok ((spec_l01Bytes_u3_1 n size [] (0 : Int)).map byteOf))
  .no)
def spec_l01Bytes_mk (p : List UInt8) : Res := [(false, [⟨.str, .sh, TC.s p⟩])]
noncomputable def spec_l01Bytes_c (n : Int) (size : Int) : Bool := is (∃ sz : Nat, size = (sz : Int) ∧ sz ≤ 8)
noncomputable def spec_l01Bytes_v (n : Int) (size : Int) : List UInt8 := hid (bytesL n size.toNat)
theorem spec_l01Bytes_l (n : Int) (size : Int) : (spec_l01Bytes_c n size) = true → (spec_l01Bytes_t n size).val = some (spec_l01Bytes_v n size) := by
  intro h
  obtain ⟨sz, rfl, h8⟩ := is_iff.1 h
  unfold spec_l01Bytes_t
  refine Tr.t (is_true ⟨sz, rfl, h8, rfl, rfl⟩) ?_
  unfold spec_l01Bytes_v
  rw [hid_eq]; rfl
noncomputable def spec_l01Bytes_S : List Arg → Option (Bool × Res) := fun xs => match xs with
  | [(false, [(.int .i64, TC.i n)]), (false, [(.int .i64, TC.i size)])] => some ((spec_l01Bytes_c n size), spec_l01Bytes_mk (spec_l01Bytes_v n size))
  | _ => .none
theorem spec_l01Bytes_e (n : Int) (size : Int) : runF tab FT D11 live 108 spec_l01Bytes_lo [(false, [(.int .i64, TC.i n)]), (false, [(.int .i64, TC.i size)])] = (spec_l01Bytes_t n size).run fun p => some (spec_l01Bytes_mk p) := by kernel_rfl
theorem spec_l01Bytes_s : ∀ xs r, spec_l01Bytes_S xs = some (true, r) → runF tab FT D11 live 108 spec_l01Bytes_lo xs = some r := by
  intro xs r h
  unfold spec_l01Bytes_S at h
  split at h
  · simp only [Option.some.injEq, Prod.mk.injEq] at h
    obtain ⟨h1, rfl⟩ := h
    exact fun_told (spec_l01Bytes_e _ _) (spec_l01Bytes_l _ _) h1
  · cases h
noncomputable def D12 : Dt := also D11 108 spec_l01Bytes_S
theorem d12 : DOk Go.Proofs.Try.prog tab D12 := d11.also mixed_ok tab_ok names_ok (fnLoops_one (by kernel_rfl) spec_l01Bytes_is3) spec_l01Bytes_s
theorem spec_l01Bytes_h {n size : Int} : spec_l01Bytes_v n size = bytesL n size.toNat := hid_eq _
/-! spec_l01Pad -/
noncomputable def spec_l01Pad_t (s : List UInt8) (n : Int) : Tr (List UInt8) := (.ite ((decide ((s.length : Int) ≥ n)) = true) (.ok s)
  (.ite (0 ≤ (IntKind.wrap .i64 (n - (s.length : Int))) ∧ (IntKind.wrap .i64 (n - (s.length : Int))) ≤ (IntKind.wrap .i64 (n - (s.length : Int))) ∧ (IntKind.wrap .i64 (n - (s.length : Int))) * 1 ≤ 140737488355328 ∧ (IntKind.wrap .i64 (n - (s.length : Int))) ≤ 140737488355328) (.ite (((s.length + ((List.replicate ((IntKind.wrap .i64 (n - (s.length : Int)))).toNat [TC.i (0 : Int)]).map byteOf).length : Nat) : Int) ≤ 9223372036854775807) (.ok (s ++ ((List.replicate ((IntKind.wrap .i64 (n - (s.length : Int)))).toNat [TC.i (0 : Int)]).map byteOf)))
    .no)
   .no))
def spec_l01Pad_mk (p : List UInt8) : Res := [(false, [⟨.str, .sh, TC.s p⟩])]
noncomputable def spec_l01Pad_c (s : List UInt8) (n : Int) : Bool := is (∃ m : Nat, n = (m : Int) ∧ s.length ≤ m ∧ m ≤ 65536)
noncomputable def spec_l01Pad_v (s : List UInt8) (n : Int) : List UInt8 := hid (padL s n.toNat)
theorem spec_l01Pad_l (s : List UInt8) (n : Int) : (spec_l01Pad_c s n) = true → (spec_l01Pad_t s n).val = some (spec_l01Pad_v s n) := by
  intro h
  obtain ⟨m, rfl, h0, h1⟩ := is_iff.1 h
  unfold spec_l01Pad_t spec_l01Pad_v
  have e : IntKind.wrap .i64 ((m : Int) - (s.length : Int)) = ((m - s.length : Nat) : Int) := by rw [wrap64 (by omega) (by omega)]; omega
  rw [hid_eq, e, zeros_of, Int.toNat_natCast, Int.toNat_natCast]
  by_cases hm : s.length = m
  · refine Tr.t (by simp; omega) ?_
    rw [Tr.val_ok]
    unfold padL
    rw [show m - s.length = 0 by omega, List.replicate_zero, List.append_nil]
  · refine Tr.n (by simp; omega) ?_
    refine Tr.t (by omega) ?_
    refine Tr.t (by rw [List.length_replicate]; omega) ?_
    rfl
noncomputable def spec_l01Pad_S : List Arg → Option (Bool × Res) := fun xs => match xs with
  | [(false, [(.str, TC.s s)]), (false, [(.int .i64, TC.i n)])] => some ((spec_l01Pad_c s n), spec_l01Pad_mk (spec_l01Pad_v s n))
  | _ => .none
theorem spec_l01Pad_e (s : List UInt8) (n : Int) : runF tab FT D12 live 109 noLoops [(false, [(.str, TC.s s)]), (false, [(.int .i64, TC.i n)])] = (spec_l01Pad_t s n).run fun p => some (spec_l01Pad_mk p) := by kernel_rfl
theorem spec_l01Pad_s : ∀ xs r, spec_l01Pad_S xs = some (true, r) → runF tab FT D12 live 109 noLoops xs = some r := by
  intro xs r h
  unfold spec_l01Pad_S at h
  split at h
  · simp only [Option.some.injEq, Prod.mk.injEq] at h
    obtain ⟨h1, rfl⟩ := h
    exact fun_told (spec_l01Pad_e _ _) (spec_l01Pad_l _ _) h1
  · cases h
noncomputable def D13 : Dt := also D12 109 spec_l01Pad_S
theorem d13 : DOk Go.Proofs.Try.prog tab D13 := d12.also mixed_ok tab_ok names_ok noLoops_ok spec_l01Pad_s
theorem spec_l01Pad_h {s : List UInt8} {n : Int} : spec_l01Pad_v s n = padL s n.toNat := hid_eq _
/-! spec_l15Encode -/
abbrev spec_l15Encode_16_σ := Bool × List (List TC) × List (List TC) × List (List TC) × List UInt8 × Int
abbrev spec_l15Encode_16_ω := (List UInt8)
noncomputable def spec_l15Encode_16_step (L : Bool) (C : List (List TC)) (K : List (List TC)) (D : List (List TC)) (t : List UInt8) (i : Int) : Tr (spec_l15Encode_16_σ ⊕ spec_l15Encode_16_ω) := (.ite ((decide (i < (K.length : Int))) = true) (.ite ((0 : Int) ≤ i ∧ i < (K.length : Int)) (.ite ((spec_l01Bytes_c ((nth (row K i) 0).int) (2 : Int)) = true) (.ite (((t.length + (spec_l01Bytes_v ((nth (row K i) 0).int) (2 : Int)).length : Nat) : Int) ≤ 9223372036854775807) (.ok (.inl (L, C, K, D, (t ++ (spec_l01Bytes_v ((nth (row K i) 0).int) (2 : Int))), (IntKind.wrap .i64 (i + (1 : Int))))))
     .no)
    .no)
   .no)
  (.ok (.inr t)))
noncomputable def spec_l15Encode_16_st : spec_l15Encode_16_σ → Tr (spec_l15Encode_16_σ ⊕ spec_l15Encode_16_ω) := fun x => (spec_l15Encode_16_step (x.1) (x.2.1) (x.2.2.1) (x.2.2.2.1) (x.2.2.2.2.1) (x.2.2.2.2.2))
noncomputable def spec_l15Encode_o16_1 (L : Bool) (C : List (List TC)) (K : List (List TC)) (D : List (List TC)) (t : List UInt8) (i : Int) : Bool := is (Typed tab (.slice 2) (.l K) ∧ K.length ≤ 8 ∧ t.length ≤ 100 ∧ i = 0)
noncomputable def spec_l15Encode_u16_1 (L : Bool) (C : List (List TC)) (K : List (List TC)) (D : List (List TC)) (t : List UInt8) (i : Int) : List UInt8 := t ++ pairsL K K.length
noncomputable def spec_l15Encode_16_fin (L : Bool) (C : List (List TC)) (K : List (List TC)) (D : List (List TC)) (t : List UInt8) (i : Int) : Told spec_l15Encode_16_ω := (.leaf (spec_l15Encode_o16_1 L C K D t i) (spec_l15Encode_u16_1 L C K D t i))
def spec_l15Encode_16_sl (x : spec_l15Encode_16_σ) : List Slot := [⟨.bx 79 [⟨.bool, .sh, TC.b (x.1)⟩, ⟨.slice 159, .sh, TC.l (x.2.1)⟩, ⟨.slice 2, .sh, TC.l (x.2.2.1)⟩, ⟨.slice 2, .sh, TC.l (x.2.2.2.1)⟩], ⟨0, 0⟩⟩, ⟨.val false [⟨.str, .sh, TC.s (x.2.2.2.2.1)⟩], ⟨0, 0⟩⟩, ⟨.val false [⟨.int .i64, .sh, TC.i (x.2.2.2.2.2)⟩], ⟨0, 0⟩⟩]
def spec_l15Encode_16_out : spec_l15Encode_16_ω → Ex × List Slot := (fun x => (.exit 4, [Slot.none, ⟨.val false [⟨.str, .sh, TC.s x⟩], ⟨0, 0⟩⟩]))
noncomputable def spec_l15Encode_lo16 : List Slot → Option (Told (Ex × List Slot)) := fun s => match s with
  | [⟨.bx 79 [⟨.bool, .sh, TC.b L⟩, ⟨.slice 159, .sh, TC.l C⟩, ⟨.slice 2, .sh, TC.l K⟩, ⟨.slice 2, .sh, TC.l D⟩], ⟨0, 0⟩⟩, ⟨.val false [⟨.str, .sh, TC.s t⟩], ⟨0, 0⟩⟩, ⟨.val false [⟨.int .i64, .sh, TC.i i⟩], ⟨0, 0⟩⟩] => some (((spec_l15Encode_16_fin L C K D t i)).map spec_l15Encode_16_out)
  | _ => .none
abbrev spec_l15Encode_12_σ := Bool × List (List TC) × List (List TC) × List (List TC) × List UInt8 × Int
abbrev spec_l15Encode_12_ω := (Bool × List (List TC) × List (List TC) × List (List TC) × List UInt8)
noncomputable def spec_l15Encode_12_step (L : Bool) (C : List (List TC)) (K : List (List TC)) (D : List (List TC)) (t : List UInt8) (i : Int) : Tr (spec_l15Encode_12_σ ⊕ spec_l15Encode_12_ω) := (.ite ((decide (i < (D.length : Int))) = true) (.ite ((0 : Int) ≤ i ∧ i < (D.length : Int)) (.ite ((spec_l01Bytes_c ((nth (row D i) 0).int) (2 : Int)) = true) (.ite (((t.length + (spec_l01Bytes_v ((nth (row D i) 0).int) (2 : Int)).length : Nat) : Int) ≤ 9223372036854775807) (.ok (.inl (L, C, K, D, (t ++ (spec_l01Bytes_v ((nth (row D i) 0).int) (2 : Int))), (IntKind.wrap .i64 (i + (1 : Int))))))
     .no)
    .no)
   .no)
  (.ok (.inr (L, C, K, D, t))))
noncomputable def spec_l15Encode_12_st : spec_l15Encode_12_σ → Tr (spec_l15Encode_12_σ ⊕ spec_l15Encode_12_ω) := fun x => (spec_l15Encode_12_step (x.1) (x.2.1) (x.2.2.1) (x.2.2.2.1) (x.2.2.2.2.1) (x.2.2.2.2.2))
noncomputable def spec_l15Encode_o12_1 (L : Bool) (C : List (List TC)) (K : List (List TC)) (D : List (List TC)) (t : List UInt8) (i : Int) : Bool := is (Typed tab (.slice 2) (.l D) ∧ D.length ≤ 8 ∧ t.length ≤ 100 ∧ i = 0)
noncomputable def spec_l15Encode_u12_1_4 (L : Bool) (C : List (List TC)) (K : List (List TC)) (D : List (List TC)) (t : List UInt8) (i : Int) : List UInt8 := t ++ pairsL D D.length
noncomputable def spec_l15Encode_12_fin (L : Bool) (C : List (List TC)) (K : List (List TC)) (D : List (List TC)) (t : List UInt8) (i : Int) : Told spec_l15Encode_12_ω := (.leaf (spec_l15Encode_o12_1 L C K D t i) (L, C, K, D, (spec_l15Encode_u12_1_4 L C K D t i)))
def spec_l15Encode_12_sl (x : spec_l15Encode_12_σ) : List Slot := [⟨.bx 79 [⟨.bool, .sh, TC.b (x.1)⟩, ⟨.slice 159, .sh, TC.l (x.2.1)⟩, ⟨.slice 2, .sh, TC.l (x.2.2.1)⟩, ⟨.slice 2, .sh, TC.l (x.2.2.2.1)⟩], ⟨0, 0⟩⟩, ⟨.val false [⟨.str, .sh, TC.s (x.2.2.2.2.1)⟩], ⟨0, 0⟩⟩, ⟨.val false [⟨.int .i64, .sh, TC.i (x.2.2.2.2.2)⟩], ⟨0, 0⟩⟩]
def spec_l15Encode_12_out : spec_l15Encode_12_ω → Ex × List Slot := (fun x => (.exit 2, [⟨.bx 79 [⟨.bool, .sh, TC.b (x.1)⟩, ⟨.slice 159, .sh, TC.l (x.2.1)⟩, ⟨.slice 2, .sh, TC.l (x.2.2.1)⟩, ⟨.slice 2, .sh, TC.l (x.2.2.2.1)⟩], ⟨0, 0⟩⟩, Slot.none, ⟨.val false [⟨.str, .sh, TC.s (x.2.2.2.2)⟩], ⟨0, 0⟩⟩]))
noncomputable def spec_l15Encode_lo12 : List Slot → Option (Told (Ex × List Slot)) := fun s => match s with
  | [⟨.bx 79 [⟨.bool, .sh, TC.b L⟩, ⟨.slice 159, .sh, TC.l C⟩, ⟨.slice 2, .sh, TC.l K⟩, ⟨.slice 2, .sh, TC.l D⟩], ⟨0, 0⟩⟩, ⟨.val false [⟨.str, .sh, TC.s t⟩], ⟨0, 0⟩⟩, ⟨.val false [⟨.int .i64, .sh, TC.i i⟩], ⟨0, 0⟩⟩] => some (((spec_l15Encode_12_fin L C K D t i)).map spec_l15Encode_12_out)
  | _ => .none
abbrev spec_l15Encode_5_σ := Bool × List (List TC) × List (List TC) × List (List TC) × List UInt8 × Int
abbrev spec_l15Encode_5_ω := (List UInt8)
noncomputable def spec_l15Encode_5_step (L : Bool) (C : List (List TC)) (K : List (List TC)) (D : List (List TC)) (t : List UInt8) (i : Int) : Tr (spec_l15Encode_5_σ ⊕ spec_l15Encode_5_ω) := (.ite ((decide (i < (C.length : Int))) = true) (.ite ((0 : Int) ≤ i ∧ i < (C.length : Int)) (.ite ((spec_l01Bytes_c ((nth (row C i) 0).int) (2 : Int)) = true) (.ite ((spec_l01Bytes_c ((nth (row C i) 1).int) (2 : Int)) = true) (.ite ((((spec_l01Bytes_v ((nth (row C i) 0).int) (2 : Int)).length + (spec_l01Bytes_v ((nth (row C i) 1).int) (2 : Int)).length : Nat) : Int) ≤ 9223372036854775807) (.ite ((spec_l01Bytes_c ((nth (row C i) 2).int) (2 : Int)) = true) (.ite (((((spec_l01Bytes_v ((nth (row C i) 0).int) (2 : Int)) ++ (spec_l01Bytes_v ((nth (row C i) 1).int) (2 : Int))).length + (spec_l01Bytes_v ((nth (row C i) 2).int) (2 : Int)).length : Nat) : Int) ≤ 9223372036854775807) (.ite ((spec_l01Bytes_c ((nth (row C i) 3).int) (1 : Int)) = true) (.ite ((((((spec_l01Bytes_v ((nth (row C i) 0).int) (2 : Int)) ++ (spec_l01Bytes_v ((nth (row C i) 1).int) (2 : Int))) ++ (spec_l01Bytes_v ((nth (row C i) 2).int) (2 : Int))).length + (spec_l01Bytes_v ((nth (row C i) 3).int) (1 : Int)).length : Nat) : Int) ≤ 9223372036854775807) (.ite (((t.length + ((((spec_l01Bytes_v ((nth (row C i) 0).int) (2 : Int)) ++ (spec_l01Bytes_v ((nth (row C i) 1).int) (2 : Int))) ++ (spec_l01Bytes_v ((nth (row C i) 2).int) (2 : Int))) ++ (spec_l01Bytes_v ((nth (row C i) 3).int) (1 : Int))).length : Nat) : Int) ≤ 9223372036854775807) (.ok (.inl (L, C, K, D, (t ++ ((((spec_l01Bytes_v ((nth (row C i) 0).int) (2 : Int)) ++ (spec_l01Bytes_v ((nth (row C i) 1).int) (2 : Int))) ++ (spec_l01Bytes_v ((nth (row C i) 2).int) (2 : Int))) ++ (spec_l01Bytes_v ((nth (row C i) 3).int) (1 : Int)))), (IntKind.wrap .i64 (i + (1 : Int))))))
           .no)
          .no)
         .no)
        .no)
       .no)
      .no)
     .no)
    .no)
   .no)
  (.ok (.inr t)))
noncomputable def spec_l15Encode_5_st : spec_l15Encode_5_σ → Tr (spec_l15Encode_5_σ ⊕ spec_l15Encode_5_ω) := fun x => (spec_l15Encode_5_step (x.1) (x.2.1) (x.2.2.1) (x.2.2.2.1) (x.2.2.2.2.1) (x.2.2.2.2.2))
noncomputable def spec_l15Encode_o5_1 (L : Bool) (C : List (List TC)) (K : List (List TC)) (D : List (List TC)) (t : List UInt8) (i : Int) : Bool := is (Typed tab (.slice 159) (.l C) ∧ C.length ≤ 8 ∧ t.length ≤ 100 ∧ i = 0)
noncomputable def spec_l15Encode_u5_1 (L : Bool) (C : List (List TC)) (K : List (List TC)) (D : List (List TC)) (t : List UInt8) (i : Int) : List UInt8 := t ++ chunksL C C.length
noncomputable def spec_l15Encode_5_fin (L : Bool) (C : List (List TC)) (K : List (List TC)) (D : List (List TC)) (t : List UInt8) (i : Int) : Told spec_l15Encode_5_ω := (.leaf (spec_l15Encode_o5_1 L C K D t i) (spec_l15Encode_u5_1 L C K D t i))
def spec_l15Encode_5_sl (x : spec_l15Encode_5_σ) : List Slot := [⟨.bx 79 [⟨.bool, .sh, TC.b (x.1)⟩, ⟨.slice 159, .sh, TC.l (x.2.1)⟩, ⟨.slice 2, .sh, TC.l (x.2.2.1)⟩, ⟨.slice 2, .sh, TC.l (x.2.2.2.1)⟩], ⟨0, 0⟩⟩, ⟨.val false [⟨.str, .sh, TC.s (x.2.2.2.2.1)⟩], ⟨0, 0⟩⟩, ⟨.val false [⟨.int .i64, .sh, TC.i (x.2.2.2.2.2)⟩], ⟨0, 0⟩⟩]
def spec_l15Encode_5_out : spec_l15Encode_5_ω → Ex × List Slot := (fun x => (.exit 0, [Slot.none, ⟨.val false [⟨.str, .sh, TC.s x⟩], ⟨0, 0⟩⟩]))
noncomputable def spec_l15Encode_lo5 : List Slot → Option (Told (Ex × List Slot)) := fun s => match s with
  | [⟨.bx 79 [⟨.bool, .sh, TC.b L⟩, ⟨.slice 159, .sh, TC.l C⟩, ⟨.slice 2, .sh, TC.l K⟩, ⟨.slice 2, .sh, TC.l D⟩], ⟨0, 0⟩⟩, ⟨.val false [⟨.str, .sh, TC.s t⟩], ⟨0, 0⟩⟩, ⟨.val false [⟨.int .i64, .sh, TC.i i⟩], ⟨0, 0⟩⟩] => some (((spec_l15Encode_5_fin L C K D t i)).map spec_l15Encode_5_out)
  | _ => .none
noncomputable def spec_l15Encode_lo : LoopTeller := fun r s => bif Nat.beq r 5 then spec_l15Encode_lo5 s else bif Nat.beq r 12 then spec_l15Encode_lo12 s else bif Nat.beq r 16 then spec_l15Encode_lo16 s else .none
theorem spec_l15Encode_16_r (L : Bool) (C : List (List TC)) (K : List (List TC)) (D : List (List TC)) (t : List UInt8) (i : Int) (fuel : Nat) : rounds (rnd tab FT D13 live 82 spec_l15Encode_lo 2 16) leave (fuel + 1) (spec_l15Encode_16_sl (L, C, K, D, t, i)) = ((spec_l15Encode_16_step L C K D t i)).run (goOn (fun s => rounds (rnd tab FT D13 live 82 spec_l15Encode_lo 2 16) leave fuel (spec_l15Encode_16_sl s)) fun w => some (spec_l15Encode_16_out w)) := by kernel_rfl
theorem spec_l15Encode_16_h (L : Bool) (C : List (List TC)) (K : List (List TC)) (D : List (List TC)) (t : List UInt8) (i : Int) (ow : spec_l15Encode_16_ω) : ((spec_l15Encode_16_fin L C K D t i)).val = some ow → ∃ fuel, loopN spec_l15Encode_16_st fuel (L, C, K, D, t, i) = some ow := by
  intro h
  refine auto_leaf (R := t ++ pairsL K K.length) (fun ho => ?_) h
  obtain ⟨ht, h8, h100, rfl⟩ := is_iff.1 ho
  refine ⟨K.length + 1, Eq.trans (congrArg (loopN spec_l15Encode_16_st (K.length + 1)) (by simp [pairsL])) (loopN_run (step := spec_l15Encode_16_st) (N := K.length) (fun j => (L, C, K, D, t ++ pairsL K j, (j : Int))) (fun j hj => ?_) ?_ K.length 0 (by omega))⟩
  · have hq := pairsL_len (A := K) j
    show (spec_l15Encode_16_step L C K D (t ++ pairsL K j) (j : Int)).val = _
    unfold spec_l15Encode_16_step
    rw [spec_l01Bytes_h]
    refine Tr.t (by simp; omega) (Tr.t ⟨by omega, by omega⟩ (Tr.t (is_true ⟨2, rfl, by omega⟩) (Tr.t (by simp only [List.length_append, bytesL_len]; omega) (?_))))
    rw [Tr.val_ok, wrap64 (i := (j : Int) + 1) (by omega) (by omega), List.append_assoc]; rfl
  · show (spec_l15Encode_16_step L C K D (t ++ pairsL K K.length) (K.length : Int)).val = _
    unfold spec_l15Encode_16_step
    exact Tr.n (by simp) rfl
theorem spec_l15Encode_is16 : LoopIs tab FT D13 live 82 spec_l15Encode_lo 2 16 := by
  refine loop_told (sl := spec_l15Encode_16_sl) (step := spec_l15Encode_16_st) (out := spec_l15Encode_16_out) (lor := spec_l15Encode_lo16) (fin := fun x => (spec_l15Encode_16_fin (x.1) (x.2.1) (x.2.2.1) (x.2.2.2.1) (x.2.2.2.2.1) (x.2.2.2.2.2))) (fun _ => rfl) ?_ (fun x n => spec_l15Encode_16_r x.1 x.2.1 x.2.2.1 x.2.2.2.1 x.2.2.2.2.1 x.2.2.2.2.2 n) (fun x ow => spec_l15Encode_16_h x.1 x.2.1 x.2.2.1 x.2.2.2.1 x.2.2.2.2.1 x.2.2.2.2.2 ow)
  intro s t h
  unfold spec_l15Encode_lo16 at h
  split at h
  · cases h; exact ⟨(_, _, _, _, _, _), rfl, rfl⟩
  · cases h
theorem spec_l15Encode_12_r (L : Bool) (C : List (List TC)) (K : List (List TC)) (D : List (List TC)) (t : List UInt8) (i : Int) (fuel : Nat) : rounds (rnd tab FT D13 live 82 spec_l15Encode_lo 1 12) leave (fuel + 1) (spec_l15Encode_12_sl (L, C, K, D, t, i)) = ((spec_l15Encode_12_step L C K D t i)).run (goOn (fun s => rounds (rnd tab FT D13 live 82 spec_l15Encode_lo 1 12) leave fuel (spec_l15Encode_12_sl s)) fun w => some (spec_l15Encode_12_out w)) := by kernel_rfl
theorem spec_l15Encode_12_h (L : Bool) (C : List (List TC)) (K : List (List TC)) (D : List (List TC)) (t : List UInt8) (i : Int) (ow : spec_l15Encode_12_ω) : ((spec_l15Encode_12_fin L C K D t i)).val = some ow → ∃ fuel, loopN spec_l15Encode_12_st fuel (L, C, K, D, t, i) = some ow := by
  intro h
  refine auto_leaf (R := (L, C, K, D, t ++ pairsL D D.length)) (fun ho => ?_) h
  obtain ⟨ht, h8, h100, rfl⟩ := is_iff.1 ho
  refine ⟨D.length + 1, Eq.trans (congrArg (loopN spec_l15Encode_12_st (D.length + 1)) (by simp [pairsL])) (loopN_run (step := spec_l15Encode_12_st) (N := D.length) (fun j => (L, C, K, D, t ++ pairsL D j, (j : Int))) (fun j hj => ?_) ?_ D.length 0 (by omega))⟩
  · have hq := pairsL_len (A := D) j
    show (spec_l15Encode_12_step L C K D (t ++ pairsL D j) (j : Int)).val = _
    unfold spec_l15Encode_12_step
    rw [spec_l01Bytes_h]
    refine Tr.t (by simp; omega) (Tr.t ⟨by omega, by omega⟩ (Tr.t (is_true ⟨2, rfl, by omega⟩) (Tr.t (by simp only [List.length_append, bytesL_len]; omega) (?_))))
    rw [Tr.val_ok, wrap64 (i := (j : Int) + 1) (by omega) (by omega), List.append_assoc]; rfl
  · show (spec_l15Encode_12_step L C K D (t ++ pairsL D D.length) (D.length : Int)).val = _
    unfold spec_l15Encode_12_step
    exact Tr.n (by simp) rfl
theorem spec_l15Encode_is12 : LoopIs tab FT D13 live 82 spec_l15Encode_lo 1 12 := by
  refine loop_told (sl := spec_l15Encode_12_sl) (step := spec_l15Encode_12_st) (out := spec_l15Encode_12_out) (lor := spec_l15Encode_lo12) (fin := fun x => (spec_l15Encode_12_fin (x.1) (x.2.1) (x.2.2.1) (x.2.2.2.1) (x.2.2.2.2.1) (x.2.2.2.2.2))) (fun _ => rfl) ?_ (fun x n => spec_l15Encode_12_r x.1 x.2.1 x.2.2.1 x.2.2.2.1 x.2.2.2.2.1 x.2.2.2.2.2 n) (fun x ow => spec_l15Encode_12_h x.1 x.2.1 x.2.2.1 x.2.2.2.1 x.2.2.2.2.1 x.2.2.2.2.2 ow)
  intro s t h
  unfold spec_l15Encode_lo12 at h
  split at h
  · cases h; exact ⟨(_, _, _, _, _, _), rfl, rfl⟩
  · cases h
theorem spec_l15Encode_5_r (L : Bool) (C : List (List TC)) (K : List (List TC)) (D : List (List TC)) (t : List UInt8) (i : Int) (fuel : Nat) : rounds (rnd tab FT D13 live 82 spec_l15Encode_lo 0 5) leave (fuel + 1) (spec_l15Encode_5_sl (L, C, K, D, t, i)) = ((spec_l15Encode_5_step L C K D t i)).run (goOn (fun s => rounds (rnd tab FT D13 live 82 spec_l15Encode_lo 0 5) leave fuel (spec_l15Encode_5_sl s)) fun w => some (spec_l15Encode_5_out w)) := by kernel_rfl
theorem spec_l15Encode_5_h (L : Bool) (C : List (List TC)) (K : List (List TC)) (D : List (List TC)) (t : List UInt8) (i : Int) (ow : spec_l15Encode_5_ω) : ((spec_l15Encode_5_fin L C K D t i)).val = some ow → ∃ fuel, loopN spec_l15Encode_5_st fuel (L, C, K, D, t, i) = some ow := by
  intro h
  refine auto_leaf (R := t ++ chunksL C C.length) (fun ho => ?_) h
  obtain ⟨ht, h8, h100, rfl⟩ := is_iff.1 ho
  refine ⟨C.length + 1, Eq.trans (congrArg (loopN spec_l15Encode_5_st (C.length + 1)) (by simp [chunksL])) (loopN_run (step := spec_l15Encode_5_st) (N := C.length) (fun j => (L, C, K, D, t ++ chunksL C j, (j : Int))) (fun j hj => ?_) ?_ C.length 0 (by omega))⟩
  · have hq := chunksL_len (A := C) j
    show (spec_l15Encode_5_step L C K D (t ++ chunksL C j) (j : Int)).val = _
    unfold spec_l15Encode_5_step
    rw [spec_l01Bytes_h, spec_l01Bytes_h, spec_l01Bytes_h, spec_l01Bytes_h]
    refine Tr.t (by simp; omega) (Tr.t ⟨by omega, by omega⟩ (Tr.t (is_true ⟨2, rfl, by omega⟩) (Tr.t (is_true ⟨2, rfl, by omega⟩) (Tr.t (by simp only [List.length_append, bytesL_len]; omega) (Tr.t (is_true ⟨2, rfl, by omega⟩) (Tr.t (by simp only [List.length_append, bytesL_len]; omega) (Tr.t (is_true ⟨1, rfl, by omega⟩) (Tr.t (by simp only [List.length_append, bytesL_len]; omega) (Tr.t (by simp only [List.length_append, bytesL_len]; omega) (?_))))))))))
    rw [Tr.val_ok, wrap64 (i := (j : Int) + 1) (by omega) (by omega), List.append_assoc]; rfl
  · show (spec_l15Encode_5_step L C K D (t ++ chunksL C C.length) (C.length : Int)).val = _
    unfold spec_l15Encode_5_step
    exact Tr.n (by simp) rfl
theorem spec_l15Encode_is5 : LoopIs tab FT D13 live 82 spec_l15Encode_lo 0 5 := by
  refine loop_told (sl := spec_l15Encode_5_sl) (step := spec_l15Encode_5_st) (out := spec_l15Encode_5_out) (lor := spec_l15Encode_lo5) (fin := fun x => (spec_l15Encode_5_fin (x.1) (x.2.1) (x.2.2.1) (x.2.2.2.1) (x.2.2.2.2.1) (x.2.2.2.2.2))) (fun _ => rfl) ?_ (fun x n => spec_l15Encode_5_r x.1 x.2.1 x.2.2.1 x.2.2.2.1 x.2.2.2.2.1 x.2.2.2.2.2 n) (fun x ow => spec_l15Encode_5_h x.1 x.2.1 x.2.2.1 x.2.2.2.1 x.2.2.2.2.1 x.2.2.2.2.2 ow)
  intro s t h
  unfold spec_l15Encode_lo5 at h
  split at h
  · cases h; exact ⟨(_, _, _, _, _, _), rfl, rfl⟩
  · cases h
noncomputable def spec_l15Encode_t (L : Bool) (C : List (List TC)) (K : List (List TC)) (D : List (List TC)) : Tr (List UInt8) := (.ite (L = true) (.ite ((spec_l01Bytes_c (1 : Int) (1 : Int)) = true) (.ite ((spec_l01Bytes_c (C.length : Int) (1 : Int)) = true) (.ite ((((spec_l01Bytes_v (1 : Int) (1 : Int)).length + (spec_l01Bytes_v (C.length : Int) (1 : Int)).length : Nat) : Int) ≤ 9223372036854775807) (.ite ((spec_l15Encode_o5_1 L C K D ((spec_l01Bytes_v (1 : Int) (1 : Int)) ++ (spec_l01Bytes_v (C.length : Int) (1 : Int))) (0 : Int)) = true) (.ite ((spec_l01Pad_c (spec_l15Encode_u5_1 L C K D ((spec_l01Bytes_v (1 : Int) (1 : Int)) ++ (spec_l01Bytes_v (C.length : Int) (1 : Int))) (0 : Int)) (64 : Int)) = true) (.ok (spec_l01Pad_v (spec_l15Encode_u5_1 L C K D ((spec_l01Bytes_v (1 : Int) (1 : Int)) ++ (spec_l01Bytes_v (C.length : Int) (1 : Int))) (0 : Int)) (64 : Int)))
       .no)
      .no)
     .no)
    .no)
   .no)
  (.ite ((spec_l01Bytes_c (2 : Int) (1 : Int)) = true) (.ite ((spec_l01Bytes_c (K.length : Int) (1 : Int)) = true) (.ite ((((spec_l01Bytes_v (2 : Int) (1 : Int)).length + (spec_l01Bytes_v (K.length : Int) (1 : Int)).length : Nat) : Int) ≤ 9223372036854775807) (.ite ((spec_l15Encode_o12_1 L C K D ((spec_l01Bytes_v (2 : Int) (1 : Int)) ++ (spec_l01Bytes_v (K.length : Int) (1 : Int))) (0 : Int)) = true) (.ite ((spec_l15Encode_o16_1 L C K D (spec_l15Encode_u12_1_4 L C K D ((spec_l01Bytes_v (2 : Int) (1 : Int)) ++ (spec_l01Bytes_v (K.length : Int) (1 : Int))) (0 : Int)) (0 : Int)) = true) (.ite ((spec_l01Pad_c (spec_l15Encode_u16_1 L C K D (spec_l15Encode_u12_1_4 L C K D ((spec_l01Bytes_v (2 : Int) (1 : Int)) ++ (spec_l01Bytes_v (K.length : Int) (1 : Int))) (0 : Int)) (0 : Int)) (64 : Int)) = true) (.ok (spec_l01Pad_v (spec_l15Encode_u16_1 L C K D (spec_l15Encode_u12_1_4 L C K D ((spec_l01Bytes_v (2 : Int) (1 : Int)) ++ (spec_l01Bytes_v (K.length : Int) (1 : Int))) (0 : Int)) (0 : Int)) (64 : Int)))
        .no)
       .no)
      .no)
     .no)
    .no)
   .no))
def spec_l15Encode_mk (p : List UInt8) : Res := [(false, [⟨.str, .sh, TC.s p⟩])]
noncomputable def spec_l15Encode_c (L : Bool) (C : List (List TC)) (K : List (List TC)) (D : List (List TC)) : Bool := is (Typed tab (.slice 159) (.l C) ∧ Typed tab (.slice 2) (.l K) ∧ Typed tab (.slice 2) (.l D) ∧ nodeOk L C K D = true)
noncomputable def spec_l15Encode_v (L : Bool) (C : List (List TC)) (K : List (List TC)) (D : List (List TC)) : List UInt8 := hid (nodeV L C K D)
theorem spec_l15Encode_l (L : Bool) (C : List (List TC)) (K : List (List TC)) (D : List (List TC)) : (spec_l15Encode_c L C K D) = true → (spec_l15Encode_t L C K D).val = some (spec_l15Encode_v L C K D) := by
  intro h
  obtain ⟨hC, hK, hD, hok⟩ := is_iff.1 h
  unfold spec_l15Encode_t spec_l15Encode_v
  rw [hid_eq]
  rw [spec_l01Bytes_h (n := 1), spec_l01Bytes_h (n := (C.length : Int)), spec_l01Bytes_h (n := 2), spec_l01Bytes_h (n := (K.length : Int))]
  cases L with
  | true =>
    have h8 := node_leaf hok
    refine Tr.t rfl (Tr.t (is_true ⟨1, rfl, by omega⟩) (Tr.t (is_true ⟨1, rfl, by omega⟩) (Tr.t (by simp only [bytesL_len]; decide) (Tr.t (is_true ⟨hC, h8, by simp only [List.length_append, bytesL_len]; decide, rfl⟩) (Tr.t (is_true ⟨64, rfl, ?_, by omega⟩) ?_)))))
    · show ((_ ++ _) ++ chunksL C C.length).length ≤ 64
      simp only [List.length_append, bytesL_len, chunksL_len]
      omega
    · rw [Tr.val_ok, spec_l01Pad_h]; rfl
  | false =>
    obtain ⟨h7, h8⟩ := node_inner hok
    refine Tr.n (by simp) (Tr.t (is_true ⟨1, rfl, by omega⟩) (Tr.t (is_true ⟨1, rfl, by omega⟩) (Tr.t (by simp only [bytesL_len]; decide) (Tr.t (is_true ⟨hD, h8, by simp only [List.length_append, bytesL_len]; decide, rfl⟩) (Tr.t (is_true ⟨hK, by omega, ?_, rfl⟩) (Tr.t (is_true ⟨64, rfl, ?_, by omega⟩) ?_))))))
    · show ((_ ++ _) ++ pairsL D D.length).length ≤ 100
      simp only [List.length_append, bytesL_len, pairsL_len]
      omega
    · show (((_ ++ _) ++ pairsL D D.length) ++ pairsL K K.length).length ≤ 64
      simp only [List.length_append, bytesL_len, pairsL_len]
      omega
    · rw [Tr.val_ok, spec_l01Pad_h]; rfl
noncomputable def spec_l15Encode_S : List Arg → Option (Bool × Res) := fun xs => match xs with
  | [(true, [(.bool, TC.b L), (.slice 159, TC.l C), (.slice 2, TC.l K), (.slice 2, TC.l D)])] => some ((spec_l15Encode_c L C K D), spec_l15Encode_mk (spec_l15Encode_v L C K D))
  | _ => .none
theorem spec_l15Encode_e (L : Bool) (C : List (List TC)) (K : List (List TC)) (D : List (List TC)) : runF tab FT D13 live 82 spec_l15Encode_lo [(true, [(.bool, TC.b L), (.slice 159, TC.l C), (.slice 2, TC.l K), (.slice 2, TC.l D)])] = (spec_l15Encode_t L C K D).run fun p => some (spec_l15Encode_mk p) := by kernel_rfl
theorem spec_l15Encode_s : ∀ xs r, spec_l15Encode_S xs = some (true, r) → runF tab FT D13 live 82 spec_l15Encode_lo xs = some r := by
  intro xs r h
  unfold spec_l15Encode_S at h
  split at h
  · simp only [Option.some.injEq, Prod.mk.injEq] at h
    obtain ⟨h1, rfl⟩ := h
    exact fun_told (spec_l15Encode_e _ _ _ _) (spec_l15Encode_l _ _ _ _) h1
  · cases h
noncomputable def D14 : Dt := also D13 82 spec_l15Encode_S
theorem d14 : DOk Go.Proofs.Try.prog tab D14 := d13.also mixed_ok tab_ok names_ok (fnLoops_three (by kernel_rfl) spec_l15Encode_is5 spec_l15Encode_is12 spec_l15Encode_is16) spec_l15Encode_s
theorem spec_l15Encode_h {L : Bool} {C K D : List (List TC)} : spec_l15Encode_v L C K D = nodeV L C K D := hid_eq _
/-! spec_EncodeNode -/
noncomputable def spec_EncodeNode_t (L : Bool) (C : List (List TC)) (K : List (List TC)) (D : List (List TC)) : Tr (List UInt8) := (.ite ((spec_l15Node_c L C K D) = true) (.ite ((!(spec_l15Node_v L C K D)) = true) (.ok ([]))
   (.ite ((spec_l15Encode_c L C K D) = true) (.ok (spec_l15Encode_v L C K D))
    .no))
  .no)
def spec_EncodeNode_mk (p : List UInt8) : Res := [(false, [⟨.str, .sh, TC.s p⟩])]
noncomputable def spec_EncodeNode_c (L : Bool) (C : List (List TC)) (K : List (List TC)) (D : List (List TC)) : Bool := is (Typed tab (.slice 159) (.l C) ∧ Typed tab (.slice 2) (.l K) ∧ Typed tab (.slice 2) (.l D))
noncomputable def spec_EncodeNode_v (L : Bool) (C : List (List TC)) (K : List (List TC)) (D : List (List TC)) : List UInt8 := bif nodeOk L C K D then hid (nodeV L C K D) else []
theorem spec_EncodeNode_l (L : Bool) (C : List (List TC)) (K : List (List TC)) (D : List (List TC)) : (spec_EncodeNode_c L C K D) = true → (spec_EncodeNode_t L C K D).val = some (spec_EncodeNode_v L C K D) := by
  intro h
  obtain ⟨hC, hK, hD⟩ := is_iff.1 h
  unfold spec_EncodeNode_t spec_EncodeNode_v
  refine Tr.t (spec_l15Node_cc hC hK hD) ?_
  rw [spec_l15Node_vv]
  cases hk : nodeOk L C K D with
  | false => exact Tr.t rfl rfl
  | true =>
    refine Tr.n (by simp) (Tr.t (is_true ⟨hC, hK, hD, hk⟩) ?_)
    rfl
noncomputable def spec_EncodeNode_S : List Arg → Option (Bool × Res) := fun xs => match xs with
  | [(true, [(.bool, TC.b L), (.slice 159, TC.l C), (.slice 2, TC.l K), (.slice 2, TC.l D)])] => some ((spec_EncodeNode_c L C K D), spec_EncodeNode_mk (spec_EncodeNode_v L C K D))
  | _ => .none
theorem spec_EncodeNode_e (L : Bool) (C : List (List TC)) (K : List (List TC)) (D : List (List TC)) : runF tab FT D14 live 37 noLoops [(true, [(.bool, TC.b L), (.slice 159, TC.l C), (.slice 2, TC.l K), (.slice 2, TC.l D)])] = (spec_EncodeNode_t L C K D).run fun p => some (spec_EncodeNode_mk p) := by kernel_rfl
theorem spec_EncodeNode_s : ∀ xs r, spec_EncodeNode_S xs = some (true, r) → runF tab FT D14 live 37 noLoops xs = some r := by
  intro xs r h
  unfold spec_EncodeNode_S at h
  split at h
  · simp only [Option.some.injEq, Prod.mk.injEq] at h
    obtain ⟨h1, rfl⟩ := h
    exact fun_told (spec_EncodeNode_e _ _ _ _) (spec_EncodeNode_l _ _ _ _) h1
  · cases h
noncomputable def D15 : Dt := also D14 37 spec_EncodeNode_S
theorem d15 : DOk Go.Proofs.Try.prog tab D15 := d14.also mixed_ok tab_ok names_ok noLoops_ok spec_EncodeNode_s
theorem spec_EncodeNode_h {L : Bool} {C K D : List (List TC)} : spec_EncodeNode_v L C K D = bif nodeOk L C K D then hid (nodeV L C K D) else [] := rfl
/-! impl_keysOf -/
abbrev impl_keysOf_3_σ := List (List TC) × List (List TC) × Int × Int
abbrev impl_keysOf_3_ω := (List (List TC))
noncomputable def impl_keysOf_3_step (out : List (List TC)) (A : List (List TC)) (m : Int) (i : Int) : Tr (impl_keysOf_3_σ ⊕ impl_keysOf_3_ω) := (.ite ((decide (i < m)) = true) (.ite ((0 : Int) ≤ i ∧ i < (A.length : Int)) (.ite (roomFor (tab 2) (out ++ [[TC.i ((nth (row A i) 0).int)]]).length) (.ok (.inl ((out ++ [[TC.i ((nth (row A i) 0).int)]]), A, m, (IntKind.wrap .i64 (i + (1 : Int))))))
    .no)
   .no)
  (.ok (.inr out)))
noncomputable def impl_keysOf_3_st : impl_keysOf_3_σ → Tr (impl_keysOf_3_σ ⊕ impl_keysOf_3_ω) := fun x => (impl_keysOf_3_step (x.1) (x.2.1) (x.2.2.1) (x.2.2.2))
noncomputable def impl_keysOf_o3_1 (out : List (List TC)) (A : List (List TC)) (m : Int) (i : Int) : Bool := is (A.length ≤ 1000 ∧ out = [] ∧ m = (A.length : Int) ∧ i = 0)
noncomputable def impl_keysOf_u3_1 (out : List (List TC)) (A : List (List TC)) (m : Int) (i : Int) : List (List TC) := keysL A A.length
noncomputable def impl_keysOf_3_fin (out : List (List TC)) (A : List (List TC)) (m : Int) (i : Int) : Told impl_keysOf_3_ω := (.leaf (impl_keysOf_o3_1 out A m i) (impl_keysOf_u3_1 out A m i))
def impl_keysOf_3_sl (x : impl_keysOf_3_σ) : List Slot := [⟨.val false [⟨.slice 2, .own true, TC.l (x.1)⟩], ⟨0, 0⟩⟩, ⟨.val false [⟨.slice 159, .sh, TC.l (x.2.1)⟩], ⟨0, 0⟩⟩, ⟨.val false [⟨.int .i64, .sh, TC.i (x.2.2.1)⟩], ⟨0, 0⟩⟩, ⟨.val false [⟨.int .i64, .sh, TC.i (x.2.2.2)⟩], ⟨0, 0⟩⟩]
def impl_keysOf_3_out : impl_keysOf_3_ω → Ex × List Slot := (fun x => (.exit 0, [Slot.none, ⟨.val false [⟨.slice 2, .own true, TC.l x⟩], ⟨0, 0⟩⟩]))
noncomputable def impl_keysOf_lo3 : List Slot → Option (Told (Ex × List Slot)) := fun s => match s with
  | [⟨.val false [⟨.slice 2, .own true, TC.l out⟩], ⟨0, 0⟩⟩, ⟨.val false [⟨.slice 159, .sh, TC.l A⟩], ⟨0, 0⟩⟩, ⟨.val false [⟨.int .i64, .sh, TC.i m⟩], ⟨0, 0⟩⟩, ⟨.val false [⟨.int .i64, .sh, TC.i i⟩], ⟨0, 0⟩⟩] => some (((impl_keysOf_3_fin out A m i)).map impl_keysOf_3_out)
  | _ => .none
noncomputable def impl_keysOf_lo : LoopTeller := fun r s => bif Nat.beq r 3 then impl_keysOf_lo3 s else .none
theorem impl_keysOf_3_r (out : List (List TC)) (A : List (List TC)) (m : Int) (i : Int) (fuel : Nat) : rounds (rnd tab FT D15 live 128 impl_keysOf_lo 0 3) leave (fuel + 1) (impl_keysOf_3_sl (out, A, m, i)) = ((impl_keysOf_3_step out A m i)).run (goOn (fun s => rounds (rnd tab FT D15 live 128 impl_keysOf_lo 0 3) leave fuel (impl_keysOf_3_sl s)) fun w => some (impl_keysOf_3_out w)) := by kernel_rfl
theorem impl_keysOf_3_h (out : List (List TC)) (A : List (List TC)) (m : Int) (i : Int) (ow : impl_keysOf_3_ω) : ((impl_keysOf_3_fin out A m i)).val = some ow → ∃ fuel, loopN impl_keysOf_3_st fuel (out, A, m, i) = some ow := by
  intro h
  refine auto_leaf (R := keysL A A.length) (fun ho => ?_) h
  obtain ⟨hl, rfl, rfl, rfl⟩ := is_iff.1 ho
  refine ⟨A.length + 1, loopN_run (step := impl_keysOf_3_st) (N := A.length) (fun j => (keysL A j, A, (A.length : Int), (j : Int))) (fun j hj => ?_) ?_ A.length 0 (by omega)⟩
  · have hq := keysL_len (A := A) j
    show (impl_keysOf_3_step (keysL A j) A (A.length : Int) (j : Int)).val = _
    unfold impl_keysOf_3_step
    refine Tr.t (by simp; omega) (Tr.t ⟨by omega, by omega⟩ (Tr.t (by unfold roomFor; rw [List.length_append, hq]; simp only [List.length_cons, List.length_nil, show (tab 2).bytes = 8 from rfl]; omega) ?_))
    rw [Tr.val_ok, wrap64 (i := (j : Int) + 1) (by omega) (by omega)]; rfl
  · show (impl_keysOf_3_step (keysL A A.length) A (A.length : Int) (A.length : Int)).val = _
    unfold impl_keysOf_3_step
    exact Tr.n (by simp) rfl
theorem impl_keysOf_is3 : LoopIs tab FT D15 live 128 impl_keysOf_lo 0 3 := by
  refine loop_told (sl := impl_keysOf_3_sl) (step := impl_keysOf_3_st) (out := impl_keysOf_3_out) (lor := impl_keysOf_lo3) (fin := fun x => (impl_keysOf_3_fin (x.1) (x.2.1) (x.2.2.1) (x.2.2.2))) (fun _ => rfl) ?_ (fun x n => impl_keysOf_3_r x.1 x.2.1 x.2.2.1 x.2.2.2 n) (fun x ow => impl_keysOf_3_h x.1 x.2.1 x.2.2.1 x.2.2.2 ow)
  intro s t h
  unfold impl_keysOf_lo3 at h
  split at h
  · cases h; exact ⟨(_, _, _, _), rfl, rfl⟩
  · cases h
noncomputable def impl_keysOf_t (A : List (List TC)) : Tr (List (List TC)) := (.ite ((impl_keysOf_o3_1 [] A (A.length : Int) (0 : Int)) = true) (.ok (impl_keysOf_u3_1 [] A (A.length : Int) (0 : Int)))
  .no)
def impl_keysOf_mk (p : List (List TC)) : Res := [(false, [⟨.slice 2, .own true, TC.l p⟩])]
noncomputable def impl_keysOf_c (A : List (List TC)) : Bool := is (A.length ≤ 1000)
noncomputable def impl_keysOf_v (A : List (List TC)) : List (List TC) := keysL A A.length
theorem impl_keysOf_l (A : List (List TC)) : (impl_keysOf_c A) = true → (impl_keysOf_t A).val = some (impl_keysOf_v A) := by
  intro h
  have hl := is_iff.1 h
  unfold impl_keysOf_t impl_keysOf_v
  refine Tr.t (is_true ⟨hl, rfl, rfl, rfl⟩) ?_
  rfl
noncomputable def impl_keysOf_S : List Arg → Option (Bool × Res) := fun xs => match xs with
  | [(false, [(.slice 159, TC.l A)])] => some ((impl_keysOf_c A), impl_keysOf_mk (impl_keysOf_v A))
  | _ => .none
theorem impl_keysOf_e (A : List (List TC)) : runF tab FT D15 live 128 impl_keysOf_lo [(false, [(.slice 159, TC.l A)])] = (impl_keysOf_t A).run fun p => some (impl_keysOf_mk p) := by kernel_rfl
theorem impl_keysOf_s : ∀ xs r, impl_keysOf_S xs = some (true, r) → runF tab FT D15 live 128 impl_keysOf_lo xs = some r := by
  intro xs r h
  unfold impl_keysOf_S at h
  split at h
  · simp only [Option.some.injEq, Prod.mk.injEq] at h
    obtain ⟨h1, rfl⟩ := h
    exact fun_told (impl_keysOf_e _) (impl_keysOf_l _) h1
  · cases h
noncomputable def D16 : Dt := also D15 128 impl_keysOf_S
theorem d16 : DOk Go.Proofs.Try.prog tab D16 := d15.also mixed_ok tab_ok names_ok (fnLoops_one (by kernel_rfl) impl_keysOf_is3) impl_keysOf_s
/-! impl_increasing -/
abbrev impl_increasing_2_σ := List (List TC) × Int
abbrev impl_increasing_2_ω := (Unit) ⊕ (Unit)
noncomputable def impl_increasing_2_step (A : List (List TC)) (i : Int) : Tr (impl_increasing_2_σ ⊕ impl_increasing_2_ω) := (.ite ((decide (i < (A.length : Int))) = true) (.ite ((0 : Int) ≤ i ∧ i < (A.length : Int)) (.ite ((0 : Int) ≤ (IntKind.wrap .i64 (i - (1 : Int))) ∧ (IntKind.wrap .i64 (i - (1 : Int))) < (A.length : Int)) (.ite ((decide ((nth (row A i) 0).int ≤ (nth (row A (IntKind.wrap .i64 (i - (1 : Int)))) 0).int)) = true) (.ok (.inr (.inl ())))
     (.ok (.inl (A, (IntKind.wrap .i64 (i + (1 : Int)))))))
    .no)
   .no)
  (.ok (.inr (.inr ()))))
noncomputable def impl_increasing_2_st : impl_increasing_2_σ → Tr (impl_increasing_2_σ ⊕ impl_increasing_2_ω) := fun x => (impl_increasing_2_step (x.1) (x.2))
noncomputable def impl_increasing_k2_1 (A : List (List TC)) (i : Int) : Bool := allI (fun j => upB A (j + 1)) (A.length - 1)
noncomputable def impl_increasing_o2_2 (A : List (List TC)) (i : Int) : Bool := is (A.length ≤ 1000 ∧ i = 1)
noncomputable def impl_increasing_o2_3 (A : List (List TC)) (i : Int) : Bool := is (A.length ≤ 1000 ∧ i = 1)
noncomputable def impl_increasing_2_fin (A : List (List TC)) (i : Int) : Told impl_increasing_2_ω := (.br (impl_increasing_k2_1 A i) (.leaf (impl_increasing_o2_2 A i) (.inr ())) (.leaf (impl_increasing_o2_3 A i) (.inl ())))
def impl_increasing_2_sl (x : impl_increasing_2_σ) : List Slot := [⟨.val false [⟨.slice 2, .sh, TC.l (x.1)⟩], ⟨0, 0⟩⟩, ⟨.val false [⟨.int .i64, .sh, TC.i (x.2)⟩], ⟨0, 0⟩⟩]
def impl_increasing_2_out : impl_increasing_2_ω → Ex × List Slot := (Sum.elim (fun x => (.ret, [⟨.val false [⟨.bool, .sh, TC.b false⟩], ⟨0, 0⟩⟩])) (fun x => (.exit 0, [Slot.none])))
noncomputable def impl_increasing_lo2 : List Slot → Option (Told (Ex × List Slot)) := fun s => match s with
  | [⟨.val false [⟨.slice 2, .sh, TC.l A⟩], ⟨0, 0⟩⟩, ⟨.val false [⟨.int .i64, .sh, TC.i i⟩], ⟨0, 0⟩⟩] => some (((impl_increasing_2_fin A i)).map impl_increasing_2_out)
  | _ => .none
noncomputable def impl_increasing_lo : LoopTeller := fun r s => bif Nat.beq r 2 then impl_increasing_lo2 s else .none
theorem impl_increasing_2_r (A : List (List TC)) (i : Int) (fuel : Nat) : rounds (rnd tab FT D16 live 127 impl_increasing_lo 0 2) leave (fuel + 1) (impl_increasing_2_sl (A, i)) = ((impl_increasing_2_step A i)).run (goOn (fun s => rounds (rnd tab FT D16 live 127 impl_increasing_lo 0 2) leave fuel (impl_increasing_2_sl s)) fun w => some (impl_increasing_2_out w)) := by kernel_rfl
theorem impl_increasing_2_h (A : List (List TC)) (i : Int) (ow : impl_increasing_2_ω) : ((impl_increasing_2_fin A i)).val = some ow → ∃ fuel, loopN impl_increasing_2_st fuel (A, i) = some ow := by
  intro h
  refine auto_br (K := allI (fun j => upB A (j + 1)) (A.length - 1)) rfl (fun ho => ?_) h
  have ho := ho.elim id id
  obtain ⟨ht, rfl⟩ := is_iff.1 ho
  show ∃ M, loopN impl_increasing_2_st M (A, 1) = some (bif allI (fun j => upB A (j + 1)) (A.length - 1) then .inr () else .inl ())
  refine loopN_along (step := impl_increasing_2_st) (A.length - 1) (fun j => upB A (j + 1)) (fun j => (A, ((j + 1 : Nat) : Int))) (.inr ()) (fun _ => .inl ()) (fun j hj hb => ?_) (fun _ => ?_)
  · rw [upB_succ]
    have ei : IntKind.wrap .i64 (((j + 1 : Nat) : Int) - (1 : Int)) = (j : Int) := by rw [wrap64 (by omega) (by omega)]; omega
    refine ⟨fun hP => ?_, fun hP => ?_⟩
    · have hd : decide (keyAt A (j + 1) ≤ keyAt A j) = false := by
        cases hd : decide (keyAt A (j + 1) ≤ keyAt A j) with
        | false => rfl
        | true => rw [hd] at hP; cases hP
      show (impl_increasing_2_step A ((j + 1 : Nat) : Int)).val = _
      unfold impl_increasing_2_step
      rw [ei]
      refine Tr.t (by simp; omega) (Tr.t ⟨by omega, by omega⟩ (Tr.t ⟨by omega, by omega⟩ (Tr.n (fun hh => nomatch hd.symm.trans hh) ?_)))
      rw [Tr.val_ok, wrap64 (i := ((j + 1 : Nat) : Int) + 1) (by omega) (by omega)]; rfl
    · have hd : decide (keyAt A (j + 1) ≤ keyAt A j) = true := by
        cases hd : decide (keyAt A (j + 1) ≤ keyAt A j) with
        | true => rfl
        | false => rw [hd] at hP; cases hP
      show (impl_increasing_2_step A ((j + 1 : Nat) : Int)).val = _
      unfold impl_increasing_2_step
      rw [ei]
      exact Tr.t (by simp; omega) (Tr.t ⟨by omega, by omega⟩ (Tr.t ⟨by omega, by omega⟩ (Tr.t hd rfl)))
  · show (impl_increasing_2_step A ((A.length - 1 + 1 : Nat) : Int)).val = _
    unfold impl_increasing_2_step
    refine Tr.n (by simp; omega) ?_
    rfl
theorem impl_increasing_is2 : LoopIs tab FT D16 live 127 impl_increasing_lo 0 2 := by
  refine loop_told (sl := impl_increasing_2_sl) (step := impl_increasing_2_st) (out := impl_increasing_2_out) (lor := impl_increasing_lo2) (fin := fun x => (impl_increasing_2_fin (x.1) (x.2))) (fun _ => rfl) ?_ (fun x n => impl_increasing_2_r x.1 x.2 n) (fun x ow => impl_increasing_2_h x.1 x.2 ow)
  intro s t h
  unfold impl_increasing_lo2 at h
  split at h
  · cases h; exact ⟨(_, _), rfl, rfl⟩
  · cases h
noncomputable def impl_increasing_t (A : List (List TC)) : Tr (Bool) := (.ite ((impl_increasing_k2_1 A (1 : Int)) = true) (.ite ((impl_increasing_o2_2 A (1 : Int)) = true) (.ok true)
   .no)
  (.ite ((impl_increasing_o2_3 A (1 : Int)) = true) (.ok false)
   .no))
def impl_increasing_mk (p : Bool) : Res := [(false, [⟨.bool, .sh, TC.b p⟩])]
noncomputable def impl_increasing_c (A : List (List TC)) : Bool := (bif (impl_increasing_k2_1 A (1 : Int)) then ((impl_increasing_o2_2 A (1 : Int)) && true) else ((impl_increasing_o2_3 A (1 : Int)) && true))
noncomputable def impl_increasing_v (A : List (List TC)) : Bool := (bif (impl_increasing_k2_1 A (1 : Int)) then true else false)
theorem impl_increasing_l (A : List (List TC)) : (impl_increasing_c A) = true → (impl_increasing_t A).val = some (impl_increasing_v A) := by
  unfold impl_increasing_t impl_increasing_v impl_increasing_c
  exact fun h => (Tr.ss h (fun h => (Tr.gb h fun h => rfl)) (fun h => (Tr.gb h fun h => rfl)))
noncomputable def impl_increasing_S : List Arg → Option (Bool × Res) := fun xs => match xs with
  | [(false, [(.slice 2, TC.l A)])] => some ((impl_increasing_c A), impl_increasing_mk (impl_increasing_v A))
  | _ => .none
theorem impl_increasing_e (A : List (List TC)) : runF tab FT D16 live 127 impl_increasing_lo [(false, [(.slice 2, TC.l A)])] = (impl_increasing_t A).run fun p => some (impl_increasing_mk p) := by kernel_rfl
theorem impl_increasing_s : ∀ xs r, impl_increasing_S xs = some (true, r) → runF tab FT D16 live 127 impl_increasing_lo xs = some r := by
  intro xs r h
  unfold impl_increasing_S at h
  split at h
  · simp only [Option.some.injEq, Prod.mk.injEq] at h
    obtain ⟨h1, rfl⟩ := h
    exact fun_told (impl_increasing_e _) (impl_increasing_l _) h1
  · cases h
noncomputable def D17 : Dt := also D16 127 impl_increasing_S
theorem d17 : DOk Go.Proofs.Try.prog tab D17 := d16.also mixed_ok tab_ok names_ok (fnLoops_one (by kernel_rfl) impl_increasing_is2) impl_increasing_s
theorem impl_increasing_cc {A : List (List TC)} (hA : A.length ≤ 1000) : (impl_increasing_c A) = true := by
  unfold impl_increasing_c
  refine bifT (fun b1 => ?_) (fun b1 => ?_)
  · skip
    refine andT (by exact is_true ⟨hA, rfl⟩) ?_
    rfl
  · skip
    refine andT (by exact is_true ⟨hA, rfl⟩) ?_
    rfl
theorem impl_increasing_vv (A : List (List TC)) : impl_increasing_v A = upsB A := by
  unfold impl_increasing_v
  rw [show impl_increasing_k2_1 A 1 = upsB A from upsB_shift]
  cases upsB A <;> rfl
/-! impl_within -/
noncomputable def impl_within_t (a0 : Int) (a1 : Int) (a2 : Int) : Tr (Bool) := (.ite ((decide (a0 ≥ a1)) = true) (.ok (decide (a0 ≤ a2)))
  (.ok false))
def impl_within_mk (p : Bool) : Res := [(false, [⟨.bool, .sh, TC.b p⟩])]
noncomputable def impl_within_c (a0 : Int) (a1 : Int) (a2 : Int) : Bool := true
noncomputable def impl_within_v (a0 : Int) (a1 : Int) (a2 : Int) : Bool := (bif (decide (a0 ≥ a1)) then (decide (a0 ≤ a2)) else false)
theorem impl_within_l (a0 : Int) (a1 : Int) (a2 : Int) : (impl_within_c a0 a1 a2) = true → (impl_within_t a0 a1 a2).val = some (impl_within_v a0 a1 a2) := by
  intro h
  skip
  unfold impl_within_t impl_within_v
  exact (Tr.s rfl rfl)
noncomputable def impl_within_S : List Arg → Option (Bool × Res) := fun xs => match xs with
  | [(false, [(.int .i64, TC.i a0)]), (false, [(.int .i64, TC.i a1)]), (false, [(.int .i64, TC.i a2)])] => some (true, impl_within_mk (impl_within_v a0 a1 a2))
  | _ => .none
theorem impl_within_e (a0 : Int) (a1 : Int) (a2 : Int) : runF tab FT D17 live 94 noLoops [(false, [(.int .i64, TC.i a0)]), (false, [(.int .i64, TC.i a1)]), (false, [(.int .i64, TC.i a2)])] = (impl_within_t a0 a1 a2).run fun p => some (impl_within_mk p) := by kernel_rfl
theorem impl_within_s : ∀ xs r, impl_within_S xs = some (true, r) → runF tab FT D17 live 94 noLoops xs = some r := by
  intro xs r h
  unfold impl_within_S at h
  split at h
  · simp only [Option.some.injEq, Prod.mk.injEq] at h
    obtain ⟨h1, rfl⟩ := h
    exact fun_told (impl_within_e _ _ _) (impl_within_l _ _ _) rfl
  · cases h
noncomputable def D18 : Dt := also D17 94 impl_within_S
theorem d18 : DOk Go.Proofs.Try.prog tab D18 := d17.also mixed_ok tab_ok names_ok noLoops_ok impl_within_s
/-! impl_chunkOk -/
noncomputable def impl_chunkOk_t (a0 : Int) (a1 : Int) (a2 : Int) (a3 : Int) : Tr (Bool) := (.ite ((impl_within_v a0 (0 : Int) (65535 : Int)) = true) (.ite ((impl_within_v a1 (1 : Int) (255 : Int)) = true) (.ite ((impl_within_v a2 (0 : Int) (65535 : Int)) = true) (.ok (impl_within_v a3 (0 : Int) (255 : Int)))
    (.ok false))
   (.ok false))
  (.ok false))
def impl_chunkOk_mk (p : Bool) : Res := [(false, [⟨.bool, .sh, TC.b p⟩])]
noncomputable def impl_chunkOk_c (a0 : Int) (a1 : Int) (a2 : Int) (a3 : Int) : Bool := true
noncomputable def impl_chunkOk_v (a0 : Int) (a1 : Int) (a2 : Int) (a3 : Int) : Bool := (bif (impl_within_v a0 (0 : Int) (65535 : Int)) then (bif (impl_within_v a1 (1 : Int) (255 : Int)) then (bif (impl_within_v a2 (0 : Int) (65535 : Int)) then (impl_within_v a3 (0 : Int) (255 : Int)) else false) else false) else false)
theorem impl_chunkOk_l (a0 : Int) (a1 : Int) (a2 : Int) (a3 : Int) : (impl_chunkOk_c a0 a1 a2 a3) = true → (impl_chunkOk_t a0 a1 a2 a3).val = some (impl_chunkOk_v a0 a1 a2 a3) := by
  intro h
  skip
  unfold impl_chunkOk_t impl_chunkOk_v
  exact (Tr.s (Tr.s (Tr.s rfl rfl) rfl) rfl)
noncomputable def impl_chunkOk_S : List Arg → Option (Bool × Res) := fun xs => match xs with
  | [(true, [(.int .i64, TC.i a0), (.int .i64, TC.i a1), (.int .i64, TC.i a2), (.int .i64, TC.i a3)])] => some (true, impl_chunkOk_mk (impl_chunkOk_v a0 a1 a2 a3))
  | _ => .none
theorem impl_chunkOk_e (a0 : Int) (a1 : Int) (a2 : Int) (a3 : Int) : runF tab FT D18 live 131 noLoops [(true, [(.int .i64, TC.i a0), (.int .i64, TC.i a1), (.int .i64, TC.i a2), (.int .i64, TC.i a3)])] = (impl_chunkOk_t a0 a1 a2 a3).run fun p => some (impl_chunkOk_mk p) := by kernel_rfl
theorem impl_chunkOk_s : ∀ xs r, impl_chunkOk_S xs = some (true, r) → runF tab FT D18 live 131 noLoops xs = some r := by
  intro xs r h
  unfold impl_chunkOk_S at h
  split at h
  · simp only [Option.some.injEq, Prod.mk.injEq] at h
    obtain ⟨h1, rfl⟩ := h
    exact fun_told (impl_chunkOk_e _ _ _ _) (impl_chunkOk_l _ _ _ _) rfl
  · cases h
noncomputable def D19 : Dt := also D18 131 impl_chunkOk_S
theorem d19 : DOk Go.Proofs.Try.prog tab D19 := d18.also mixed_ok tab_ok names_ok noLoops_ok impl_chunkOk_s
/-! impl_ValidNode_1 -/
noncomputable def impl_ValidNode_1_t (a0 : Int) (a1 : Int) (a2 : Int) (a3 : Int) : Tr (Bool) := .ok (!(impl_chunkOk_v a0 a1 a2 a3))
def impl_ValidNode_1_mk (p : Bool) : Res := [(false, [⟨.bool, .sh, TC.b p⟩])]
noncomputable def impl_ValidNode_1_c (a0 : Int) (a1 : Int) (a2 : Int) (a3 : Int) : Bool := true
noncomputable def impl_ValidNode_1_v (a0 : Int) (a1 : Int) (a2 : Int) (a3 : Int) : Bool := (!(impl_chunkOk_v a0 a1 a2 a3))
theorem impl_ValidNode_1_l (a0 : Int) (a1 : Int) (a2 : Int) (a3 : Int) : (impl_ValidNode_1_c a0 a1 a2 a3) = true → (impl_ValidNode_1_t a0 a1 a2 a3).val = some (impl_ValidNode_1_v a0 a1 a2 a3) := by
  intro h
  skip
  unfold impl_ValidNode_1_t impl_ValidNode_1_v
  exact rfl
noncomputable def impl_ValidNode_1_S : List Arg → Option (Bool × Res) := fun xs => match xs with
  | [(true, [(.int .i64, TC.i a0), (.int .i64, TC.i a1), (.int .i64, TC.i a2), (.int .i64, TC.i a3)])] => some (true, impl_ValidNode_1_mk (impl_ValidNode_1_v a0 a1 a2 a3))
  | _ => .none
theorem impl_ValidNode_1_e (a0 : Int) (a1 : Int) (a2 : Int) (a3 : Int) : runF tab FT D19 live 130 noLoops [(true, [(.int .i64, TC.i a0), (.int .i64, TC.i a1), (.int .i64, TC.i a2), (.int .i64, TC.i a3)])] = (impl_ValidNode_1_t a0 a1 a2 a3).run fun p => some (impl_ValidNode_1_mk p) := by kernel_rfl
theorem impl_ValidNode_1_s : ∀ xs r, impl_ValidNode_1_S xs = some (true, r) → runF tab FT D19 live 130 noLoops xs = some r := by
  intro xs r h
  unfold impl_ValidNode_1_S at h
  split at h
  · simp only [Option.some.injEq, Prod.mk.injEq] at h
    obtain ⟨h1, rfl⟩ := h
    exact fun_told (impl_ValidNode_1_e _ _ _ _) (impl_ValidNode_1_l _ _ _ _) rfl
  · cases h
noncomputable def D20 : Dt := also D19 130 impl_ValidNode_1_S
theorem d20 : DOk Go.Proofs.Try.prog tab D20 := d19.also mixed_ok tab_ok names_ok noLoops_ok impl_ValidNode_1_s
/-! slices_IndexFunc_impl_Chunk_impl_Chunk -/
abbrev slices_IndexFunc_impl_Chunk_impl_Chunk_2_σ := List (List TC) × Int × Int
abbrev slices_IndexFunc_impl_Chunk_impl_Chunk_2_ω := (Int) ⊕ (Unit)
noncomputable def slices_IndexFunc_impl_Chunk_impl_Chunk_2_step (A : List (List TC)) (m : Int) (i : Int) : Tr (slices_IndexFunc_impl_Chunk_impl_Chunk_2_σ ⊕ slices_IndexFunc_impl_Chunk_impl_Chunk_2_ω) := (.ite ((decide (i < m)) = true) (.ite ((0 : Int) ≤ i ∧ i < (A.length : Int)) (.ite ((impl_ValidNode_1_v ((nth (row A i) 0).int) ((nth (row A i) 1).int) ((nth (row A i) 2).int) ((nth (row A i) 3).int)) = true) (.ok (.inr (.inl i)))
    (.ok (.inl (A, m, (IntKind.wrap .i64 (i + (1 : Int)))))))
   .no)
  (.ok (.inr (.inr ()))))
noncomputable def slices_IndexFunc_impl_Chunk_impl_Chunk_2_st : slices_IndexFunc_impl_Chunk_impl_Chunk_2_σ → Tr (slices_IndexFunc_impl_Chunk_impl_Chunk_2_σ ⊕ slices_IndexFunc_impl_Chunk_impl_Chunk_2_ω) := fun x => (slices_IndexFunc_impl_Chunk_impl_Chunk_2_step (x.1) (x.2.1) (x.2.2))
noncomputable def slices_IndexFunc_impl_Chunk_impl_Chunk_k2_1 (A : List (List TC)) (m : Int) (i : Int) : Bool := A.all (fun x => !(impl_ValidNode_1_v ((nth x 0).int) ((nth x 1).int) ((nth x 2).int) ((nth x 3).int)))
noncomputable def slices_IndexFunc_impl_Chunk_impl_Chunk_o2_2 (A : List (List TC)) (m : Int) (i : Int) : Bool := is (i = 0 ∧ Typed tab (.slice 159) (.l A) ∧ m = (A.length : Int))
noncomputable def slices_IndexFunc_impl_Chunk_impl_Chunk_o2_3 (A : List (List TC)) (m : Int) (i : Int) : Bool := is (i = 0 ∧ Typed tab (.slice 159) (.l A) ∧ m = (A.length : Int))
noncomputable def slices_IndexFunc_impl_Chunk_impl_Chunk_u2_3 (A : List (List TC)) (m : Int) (i : Int) : Int := (Int.ofNat (A.findIdx fun x => !(fun x => !(impl_ValidNode_1_v ((nth x 0).int) ((nth x 1).int) ((nth x 2).int) ((nth x 3).int))) x))
noncomputable def slices_IndexFunc_impl_Chunk_impl_Chunk_2_fin (A : List (List TC)) (m : Int) (i : Int) : Told slices_IndexFunc_impl_Chunk_impl_Chunk_2_ω := (.br (slices_IndexFunc_impl_Chunk_impl_Chunk_k2_1 A m i) (.leaf (slices_IndexFunc_impl_Chunk_impl_Chunk_o2_2 A m i) (.inr ())) (.leaf (slices_IndexFunc_impl_Chunk_impl_Chunk_o2_3 A m i) (.inl (slices_IndexFunc_impl_Chunk_impl_Chunk_u2_3 A m i))))
def slices_IndexFunc_impl_Chunk_impl_Chunk_2_sl (x : slices_IndexFunc_impl_Chunk_impl_Chunk_2_σ) : List Slot := [⟨.val false [⟨.slice 159, .sh, TC.l (x.1)⟩], ⟨0, 0⟩⟩, ⟨.val false [⟨.func, .sh, TC.f 130 []⟩], ⟨0, 0⟩⟩, ⟨.val false [⟨.int .i64, .sh, TC.i (x.2.1)⟩], ⟨0, 0⟩⟩, ⟨.val false [⟨.int .i64, .sh, TC.i (x.2.2)⟩], ⟨0, 0⟩⟩]
def slices_IndexFunc_impl_Chunk_impl_Chunk_2_out : slices_IndexFunc_impl_Chunk_impl_Chunk_2_ω → Ex × List Slot := (Sum.elim (fun x => (.ret, [⟨.val false [⟨.int .i64, .sh, TC.i x⟩], ⟨0, 0⟩⟩])) (fun x => (.exit 0, [Slot.none])))
noncomputable def slices_IndexFunc_impl_Chunk_impl_Chunk_lo2 : List Slot → Option (Told (Ex × List Slot)) := fun s => match s with
  | [⟨.val false [⟨.slice 159, .sh, TC.l A⟩], ⟨0, 0⟩⟩, ⟨.val false [⟨.func, .sh, TC.f 130 []⟩], ⟨0, 0⟩⟩, ⟨.val false [⟨.int .i64, .sh, TC.i m⟩], ⟨0, 0⟩⟩, ⟨.val false [⟨.int .i64, .sh, TC.i i⟩], ⟨0, 0⟩⟩] => some (((slices_IndexFunc_impl_Chunk_impl_Chunk_2_fin A m i)).map slices_IndexFunc_impl_Chunk_impl_Chunk_2_out)
  | _ => .none
noncomputable def slices_IndexFunc_impl_Chunk_impl_Chunk_lo : LoopTeller := fun r s => bif Nat.beq r 2 then slices_IndexFunc_impl_Chunk_impl_Chunk_lo2 s else .none
theorem slices_IndexFunc_impl_Chunk_impl_Chunk_2_r (A : List (List TC)) (m : Int) (i : Int) (fuel : Nat) : rounds (rnd tab FT D20 live 142 slices_IndexFunc_impl_Chunk_impl_Chunk_lo 0 2) leave (fuel + 1) (slices_IndexFunc_impl_Chunk_impl_Chunk_2_sl (A, m, i)) = ((slices_IndexFunc_impl_Chunk_impl_Chunk_2_step A m i)).run (goOn (fun s => rounds (rnd tab FT D20 live 142 slices_IndexFunc_impl_Chunk_impl_Chunk_lo 0 2) leave fuel (slices_IndexFunc_impl_Chunk_impl_Chunk_2_sl s)) fun w => some (slices_IndexFunc_impl_Chunk_impl_Chunk_2_out w)) := by kernel_rfl
theorem slices_IndexFunc_impl_Chunk_impl_Chunk_2_h (A : List (List TC)) (m : Int) (i : Int) (ow : slices_IndexFunc_impl_Chunk_impl_Chunk_2_ω) : ((slices_IndexFunc_impl_Chunk_impl_Chunk_2_fin A m i)).val = some ow → ∃ fuel, loopN slices_IndexFunc_impl_Chunk_impl_Chunk_2_st fuel (A, m, i) = some ow := by
  intro h
  have key : Typed tab (.slice 159) (.l A) → loopN slices_IndexFunc_impl_Chunk_impl_Chunk_2_st (A.length + 1) (A, (A.length : Int), (0 : Int)) = some (if A.all (fun x => !(impl_ValidNode_1_v ((nth x 0).int) ((nth x 1).int) ((nth x 2).int) ((nth x 3).int))) = true then (.inr ()) else (.inl (Int.ofNat (A.findIdx fun x => !(fun x => !(impl_ValidNode_1_v ((nth x 0).int) ((nth x 1).int) ((nth x 2).int) ((nth x 3).int))) x)))) := by
    intro ht
    have hlen : A.length ≤ 140737488351232 := by have := typed_room ht; simp only [show (tab 159).bytes = 32 from rfl] at this; omega
    have key := loopN_scan (step := slices_IndexFunc_impl_Chunk_impl_Chunk_2_st) A [] (fun x => !(impl_ValidNode_1_v ((nth x 0).int) ((nth x 1).int) ((nth x 2).int) ((nth x 3).int))) (fun a _ => a) (fun i a => (A, (A.length : Int), (i : Int))) (fun a => (.inr ())) (fun i a => (.inl (i : Int))) (fun i a hi => ?_) (fun a => ?_) A.length 0 () (by omega)
    · first | (rw [Nat.zero_add] at key; exact key) | exact key
    · skip
      show (slices_IndexFunc_impl_Chunk_impl_Chunk_2_step A (A.length : Int) (i : Int)).val = _
      unfold slices_IndexFunc_impl_Chunk_impl_Chunk_2_step
      refine Tr.t (by simp; omega) ?_
      skip
      refine Tr.t (by first | omega | (constructor <;> omega)) ?_
      refine Tr.b2 (fun hP => ?_) (fun _ => rfl)
      rw [Tr.val_ok, wrap64 (i := (i : Int) + 1) (by omega) (by omega)]; rfl
    · show (slices_IndexFunc_impl_Chunk_impl_Chunk_2_step A (A.length : Int) (A.length : Int)).val = _
      refine Tr.n (by simp) ?_
      rfl
  simp only [slices_IndexFunc_impl_Chunk_impl_Chunk_2_fin, Told.val] at h
  cases hk : A.all (fun x => !(impl_ValidNode_1_v ((nth x 0).int) ((nth x 1).int) ((nth x 2).int) ((nth x 3).int))) with
  | true =>
    rw [if_pos (show slices_IndexFunc_impl_Chunk_impl_Chunk_k2_1 A m i = true from hk)] at h
    split at h
    · rename_i ho
      obtain ⟨rfl, ht, rfl⟩ := is_iff.1 ho
      cases h
      refine ⟨_, (key ht).trans ?_⟩
      rw [hk]; rfl
    · cases h
  | false =>
    rw [if_neg (show ¬slices_IndexFunc_impl_Chunk_impl_Chunk_k2_1 A m i = true from by rw [show slices_IndexFunc_impl_Chunk_impl_Chunk_k2_1 A m i = (A.all (fun x => !(impl_ValidNode_1_v ((nth x 0).int) ((nth x 1).int) ((nth x 2).int) ((nth x 3).int)))) from rfl, hk]; simp)] at h
    split at h
    · rename_i ho
      obtain ⟨rfl, ht, rfl⟩ := is_iff.1 ho
      cases h
      refine ⟨_, (key ht).trans ?_⟩
      rw [hk]; rfl
    · cases h
theorem slices_IndexFunc_impl_Chunk_impl_Chunk_is2 : LoopIs tab FT D20 live 142 slices_IndexFunc_impl_Chunk_impl_Chunk_lo 0 2 := by
  refine loop_told (sl := slices_IndexFunc_impl_Chunk_impl_Chunk_2_sl) (step := slices_IndexFunc_impl_Chunk_impl_Chunk_2_st) (out := slices_IndexFunc_impl_Chunk_impl_Chunk_2_out) (lor := slices_IndexFunc_impl_Chunk_impl_Chunk_lo2) (fin := fun x => (slices_IndexFunc_impl_Chunk_impl_Chunk_2_fin (x.1) (x.2.1) (x.2.2))) (fun _ => rfl) ?_ (fun x n => slices_IndexFunc_impl_Chunk_impl_Chunk_2_r x.1 x.2.1 x.2.2 n) (fun x ow => slices_IndexFunc_impl_Chunk_impl_Chunk_2_h x.1 x.2.1 x.2.2 ow)
  intro s t h
  unfold slices_IndexFunc_impl_Chunk_impl_Chunk_lo2 at h
  split at h
  · cases h; exact ⟨(_, _, _), rfl, rfl⟩
  · cases h
noncomputable def slices_IndexFunc_impl_Chunk_impl_Chunk_t (A : List (List TC)) : Tr (Int) := (.ite ((slices_IndexFunc_impl_Chunk_impl_Chunk_k2_1 A (A.length : Int) (0 : Int)) = true) (.ite ((slices_IndexFunc_impl_Chunk_impl_Chunk_o2_2 A (A.length : Int) (0 : Int)) = true) (.ok (-1 : Int))
   .no)
  (.ite ((slices_IndexFunc_impl_Chunk_impl_Chunk_o2_3 A (A.length : Int) (0 : Int)) = true) (.ok (slices_IndexFunc_impl_Chunk_impl_Chunk_u2_3 A (A.length : Int) (0 : Int)))
   .no))
def slices_IndexFunc_impl_Chunk_impl_Chunk_mk (p : Int) : Res := [(false, [⟨.int .i64, .sh, TC.i p⟩])]
noncomputable def slices_IndexFunc_impl_Chunk_impl_Chunk_c (A : List (List TC)) : Bool := is (Typed tab (.slice 159) (.l A))
noncomputable def slices_IndexFunc_impl_Chunk_impl_Chunk_v (A : List (List TC)) : Int := if (A.all (fun x => !(impl_ValidNode_1_v ((nth x 0).int) ((nth x 1).int) ((nth x 2).int) ((nth x 3).int)))) = true then -1 else (Int.ofNat (A.findIdx fun x => !(fun x => !(impl_ValidNode_1_v ((nth x 0).int) ((nth x 1).int) ((nth x 2).int) ((nth x 3).int))) x))
theorem slices_IndexFunc_impl_Chunk_impl_Chunk_l (A : List (List TC)) : (slices_IndexFunc_impl_Chunk_impl_Chunk_c A) = true → (slices_IndexFunc_impl_Chunk_impl_Chunk_t A).val = some (slices_IndexFunc_impl_Chunk_impl_Chunk_v A) := by
  intro h
  have ht := is_iff.1 h
  unfold slices_IndexFunc_impl_Chunk_impl_Chunk_t
  cases hk : A.all (fun x => !(impl_ValidNode_1_v ((nth x 0).int) ((nth x 1).int) ((nth x 2).int) ((nth x 3).int))) with
  | true =>
    refine Tr.t (show A.all (fun x => !(impl_ValidNode_1_v ((nth x 0).int) ((nth x 1).int) ((nth x 2).int) ((nth x 3).int))) = true from hk) ?_
    refine Tr.t (by first | (apply is_true; and_intros <;> (first | rfl | assumption | (apply spec_l00Rises_cc <;> assumption) | (apply spec_l15Node_cc <;> assumption) | (apply impl_increasing_cc <;> assumption) | (first | (apply is_true; and_intros <;> (first | rfl | assumption | (apply spec_l00Rises_cc <;> assumption) | (apply spec_l15Node_cc <;> assumption) | (apply impl_increasing_cc <;> assumption) | (first | (apply is_true; and_intros <;> (first | rfl | assumption | (apply spec_l00Rises_cc <;> assumption) | (apply spec_l15Node_cc <;> assumption) | (apply impl_increasing_cc <;> assumption) | (first | (apply is_true; and_intros <;> (first | rfl | assumption | (apply spec_l00Rises_cc <;> assumption) | (apply spec_l15Node_cc <;> assumption) | (apply impl_increasing_cc <;> assumption))) | (apply spec_l00Rises_cc <;> assumption) | (apply spec_l15Node_cc <;> assumption) | (apply impl_increasing_cc <;> assumption)))) | (apply spec_l00Rises_cc <;> assumption) | (apply spec_l15Node_cc <;> assumption) | (apply impl_increasing_cc <;> assumption)))) | (apply spec_l00Rises_cc <;> assumption) | (apply spec_l15Node_cc <;> assumption) | (apply impl_increasing_cc <;> assumption)))) | (apply spec_l00Rises_cc <;> assumption) | (apply spec_l15Node_cc <;> assumption) | (apply impl_increasing_cc <;> assumption)) ?_
    show _ = some (slices_IndexFunc_impl_Chunk_impl_Chunk_v A ); unfold slices_IndexFunc_impl_Chunk_impl_Chunk_v; rw [if_pos hk]; rfl
  | false =>
    refine Tr.n (show ¬A.all (fun x => !(impl_ValidNode_1_v ((nth x 0).int) ((nth x 1).int) ((nth x 2).int) ((nth x 3).int))) = true from by rw [hk]; simp) ?_
    refine Tr.t (by first | (apply is_true; and_intros <;> (first | rfl | assumption | (apply spec_l00Rises_cc <;> assumption) | (apply spec_l15Node_cc <;> assumption) | (apply impl_increasing_cc <;> assumption) | (first | (apply is_true; and_intros <;> (first | rfl | assumption | (apply spec_l00Rises_cc <;> assumption) | (apply spec_l15Node_cc <;> assumption) | (apply impl_increasing_cc <;> assumption) | (first | (apply is_true; and_intros <;> (first | rfl | assumption | (apply spec_l00Rises_cc <;> assumption) | (apply spec_l15Node_cc <;> assumption) | (apply impl_increasing_cc <;> assumption) | (first | (apply is_true; and_intros <;> (first | rfl | assumption | (apply spec_l00Rises_cc <;> assumption) | (apply spec_l15Node_cc <;> assumption) | (apply impl_increasing_cc <;> assumption))) | (apply spec_l00Rises_cc <;> assumption) | (apply spec_l15Node_cc <;> assumption) | (apply impl_increasing_cc <;> assumption)))) | (apply spec_l00Rises_cc <;> assumption) | (apply spec_l15Node_cc <;> assumption) | (apply impl_increasing_cc <;> assumption)))) | (apply spec_l00Rises_cc <;> assumption) | (apply spec_l15Node_cc <;> assumption) | (apply impl_increasing_cc <;> assumption)))) | (apply spec_l00Rises_cc <;> assumption) | (apply spec_l15Node_cc <;> assumption) | (apply impl_increasing_cc <;> assumption)) ?_
    show _ = some (slices_IndexFunc_impl_Chunk_impl_Chunk_v A ); unfold slices_IndexFunc_impl_Chunk_impl_Chunk_v; rw [if_neg (by rw [hk]; simp)]; rfl
noncomputable def slices_IndexFunc_impl_Chunk_impl_Chunk_S : List Arg → Option (Bool × Res) := fun xs => match xs with
  | [(false, [(.slice 159, TC.l A)]), (false, [(.func, TC.f 130 [])])] => some ((slices_IndexFunc_impl_Chunk_impl_Chunk_c A), slices_IndexFunc_impl_Chunk_impl_Chunk_mk (slices_IndexFunc_impl_Chunk_impl_Chunk_v A))
  | _ => .none
theorem slices_IndexFunc_impl_Chunk_impl_Chunk_e (A : List (List TC)) : runF tab FT D20 live 142 slices_IndexFunc_impl_Chunk_impl_Chunk_lo [(false, [(.slice 159, TC.l A)]), (false, [(.func, TC.f 130 [])])] = (slices_IndexFunc_impl_Chunk_impl_Chunk_t A).run fun p => some (slices_IndexFunc_impl_Chunk_impl_Chunk_mk p) := by kernel_rfl
theorem slices_IndexFunc_impl_Chunk_impl_Chunk_s : ∀ xs r, slices_IndexFunc_impl_Chunk_impl_Chunk_S xs = some (true, r) → runF tab FT D20 live 142 slices_IndexFunc_impl_Chunk_impl_Chunk_lo xs = some r := by
  intro xs r h
  unfold slices_IndexFunc_impl_Chunk_impl_Chunk_S at h
  split at h
  · simp only [Option.some.injEq, Prod.mk.injEq] at h
    obtain ⟨h1, rfl⟩ := h
    exact fun_told (slices_IndexFunc_impl_Chunk_impl_Chunk_e _) (slices_IndexFunc_impl_Chunk_impl_Chunk_l _) h1
  · cases h
noncomputable def D21 : Dt := also D20 142 slices_IndexFunc_impl_Chunk_impl_Chunk_S
theorem d21 : DOk Go.Proofs.Try.prog tab D21 := d20.also mixed_ok tab_ok names_ok (fnLoops_one (by kernel_rfl) slices_IndexFunc_impl_Chunk_impl_Chunk_is2) slices_IndexFunc_impl_Chunk_impl_Chunk_s
/-! slices_ContainsFunc_impl_Chunk_impl_Chunk -/
noncomputable def slices_ContainsFunc_impl_Chunk_impl_Chunk_t (A : List (List TC)) : Tr (Bool) := (.ite ((slices_IndexFunc_impl_Chunk_impl_Chunk_c A) = true) (.ok (decide ((slices_IndexFunc_impl_Chunk_impl_Chunk_v A) ≥ (0 : Int))))
  .no)
def slices_ContainsFunc_impl_Chunk_impl_Chunk_mk (p : Bool) : Res := [(false, [⟨.bool, .sh, TC.b p⟩])]
noncomputable def slices_ContainsFunc_impl_Chunk_impl_Chunk_c (A : List (List TC)) : Bool := is (Typed tab (.slice 159) (.l A))
noncomputable def slices_ContainsFunc_impl_Chunk_impl_Chunk_v (A : List (List TC)) : Bool := !(A.all (fun x => !(impl_ValidNode_1_v ((nth x 0).int) ((nth x 1).int) ((nth x 2).int) ((nth x 3).int))))
theorem slices_ContainsFunc_impl_Chunk_impl_Chunk_l (A : List (List TC)) : (slices_ContainsFunc_impl_Chunk_impl_Chunk_c A) = true → (slices_ContainsFunc_impl_Chunk_impl_Chunk_t A).val = some (slices_ContainsFunc_impl_Chunk_impl_Chunk_v A) := by
  intro h
  have ht := is_iff.1 h
  unfold slices_ContainsFunc_impl_Chunk_impl_Chunk_t
  refine Tr.t (by first | (apply is_true; and_intros <;> (first | rfl | assumption | (apply spec_l00Rises_cc <;> assumption) | (apply spec_l15Node_cc <;> assumption) | (apply impl_increasing_cc <;> assumption) | (first | (apply is_true; and_intros <;> (first | rfl | assumption | (apply spec_l00Rises_cc <;> assumption) | (apply spec_l15Node_cc <;> assumption) | (apply impl_increasing_cc <;> assumption) | (first | (apply is_true; and_intros <;> (first | rfl | assumption | (apply spec_l00Rises_cc <;> assumption) | (apply spec_l15Node_cc <;> assumption) | (apply impl_increasing_cc <;> assumption) | (first | (apply is_true; and_intros <;> (first | rfl | assumption | (apply spec_l00Rises_cc <;> assumption) | (apply spec_l15Node_cc <;> assumption) | (apply impl_increasing_cc <;> assumption))) | (apply spec_l00Rises_cc <;> assumption) | (apply spec_l15Node_cc <;> assumption) | (apply impl_increasing_cc <;> assumption)))) | (apply spec_l00Rises_cc <;> assumption) | (apply spec_l15Node_cc <;> assumption) | (apply impl_increasing_cc <;> assumption)))) | (apply spec_l00Rises_cc <;> assumption) | (apply spec_l15Node_cc <;> assumption) | (apply impl_increasing_cc <;> assumption)))) | (apply spec_l00Rises_cc <;> assumption) | (apply spec_l15Node_cc <;> assumption) | (apply impl_increasing_cc <;> assumption)) ?_
  show some (decide (slices_IndexFunc_impl_Chunk_impl_Chunk_v A  ≥ 0)) = some (!(A.all (fun x => !(impl_ValidNode_1_v ((nth x 0).int) ((nth x 1).int) ((nth x 2).int) ((nth x 3).int)))))
  unfold slices_IndexFunc_impl_Chunk_impl_Chunk_v
  cases hk : A.all (fun x => !(impl_ValidNode_1_v ((nth x 0).int) ((nth x 1).int) ((nth x 2).int) ((nth x 3).int))) <;> simp
noncomputable def slices_ContainsFunc_impl_Chunk_impl_Chunk_S : List Arg → Option (Bool × Res) := fun xs => match xs with
  | [(false, [(.slice 159, TC.l A)]), (false, [(.func, TC.f 130 [])])] => some ((slices_ContainsFunc_impl_Chunk_impl_Chunk_c A), slices_ContainsFunc_impl_Chunk_impl_Chunk_mk (slices_ContainsFunc_impl_Chunk_impl_Chunk_v A))
  | _ => .none
theorem slices_ContainsFunc_impl_Chunk_impl_Chunk_e (A : List (List TC)) : runF tab FT D21 live 129 noLoops [(false, [(.slice 159, TC.l A)]), (false, [(.func, TC.f 130 [])])] = (slices_ContainsFunc_impl_Chunk_impl_Chunk_t A).run fun p => some (slices_ContainsFunc_impl_Chunk_impl_Chunk_mk p) := by kernel_rfl
theorem slices_ContainsFunc_impl_Chunk_impl_Chunk_s : ∀ xs r, slices_ContainsFunc_impl_Chunk_impl_Chunk_S xs = some (true, r) → runF tab FT D21 live 129 noLoops xs = some r := by
  intro xs r h
  unfold slices_ContainsFunc_impl_Chunk_impl_Chunk_S at h
  split at h
  · simp only [Option.some.injEq, Prod.mk.injEq] at h
    obtain ⟨h1, rfl⟩ := h
    exact fun_told (slices_ContainsFunc_impl_Chunk_impl_Chunk_e _) (slices_ContainsFunc_impl_Chunk_impl_Chunk_l _) h1
  · cases h
noncomputable def D22 : Dt := also D21 129 slices_ContainsFunc_impl_Chunk_impl_Chunk_S
theorem d22 : DOk Go.Proofs.Try.prog tab D22 := d21.also mixed_ok tab_ok names_ok noLoops_ok slices_ContainsFunc_impl_Chunk_impl_Chunk_s
/-! impl_allWithin_1 -/
noncomputable def impl_allWithin_1_t (a0 : Int) (a1 : List TC) (a2 : List TC) : Tr (Bool) := .ok (!(impl_within_v a0 ((nth a1 0).int) ((nth a2 0).int)))
def impl_allWithin_1_mk (p : Bool) : Res := [(false, [⟨.bool, .sh, TC.b p⟩])]
noncomputable def impl_allWithin_1_c (a0 : Int) (a1 : List TC) (a2 : List TC) : Bool := true
noncomputable def impl_allWithin_1_v (a0 : Int) (a1 : List TC) (a2 : List TC) : Bool := (!(impl_within_v a0 ((nth a1 0).int) ((nth a2 0).int)))
theorem impl_allWithin_1_l (a0 : Int) (a1 : List TC) (a2 : List TC) : (impl_allWithin_1_c a0 a1 a2) = true → (impl_allWithin_1_t a0 a1 a2).val = some (impl_allWithin_1_v a0 a1 a2) := by
  intro h
  skip
  unfold impl_allWithin_1_t impl_allWithin_1_v
  exact rfl
noncomputable def impl_allWithin_1_S : List Arg → Option (Bool × Res) := fun xs => match xs with
  | [(false, [(.int .i64, TC.i a0)]), (false, [(.ptr 2, TC.p a1)]), (false, [(.ptr 2, TC.p a2)])] => some (true, impl_allWithin_1_mk (impl_allWithin_1_v a0 a1 a2))
  | _ => .none
theorem impl_allWithin_1_e (a0 : Int) (a1 : List TC) (a2 : List TC) : runF tab FT D22 live 138 noLoops [(false, [(.int .i64, TC.i a0)]), (false, [(.ptr 2, TC.p a1)]), (false, [(.ptr 2, TC.p a2)])] = (impl_allWithin_1_t a0 a1 a2).run fun p => some (impl_allWithin_1_mk p) := by kernel_rfl
theorem impl_allWithin_1_s : ∀ xs r, impl_allWithin_1_S xs = some (true, r) → runF tab FT D22 live 138 noLoops xs = some r := by
  intro xs r h
  unfold impl_allWithin_1_S at h
  split at h
  · simp only [Option.some.injEq, Prod.mk.injEq] at h
    obtain ⟨h1, rfl⟩ := h
    exact fun_told (impl_allWithin_1_e _ _ _) (impl_allWithin_1_l _ _ _) rfl
  · cases h
noncomputable def D23 : Dt := also D22 138 impl_allWithin_1_S
theorem d23 : DOk Go.Proofs.Try.prog tab D23 := d22.also mixed_ok tab_ok names_ok noLoops_ok impl_allWithin_1_s
/-! slices_IndexFunc_int64_int64 -/
abbrev slices_IndexFunc_int64_int64_2_σ := List (List TC) × List TC × List TC × Int × Int
abbrev slices_IndexFunc_int64_int64_2_ω := (Int) ⊕ (Unit)
noncomputable def slices_IndexFunc_int64_int64_2_step (A : List (List TC)) (lw : List TC) (hg : List TC) (m : Int) (i : Int) : Tr (slices_IndexFunc_int64_int64_2_σ ⊕ slices_IndexFunc_int64_int64_2_ω) := (.ite ((decide (i < m)) = true) (.ite ((0 : Int) ≤ i ∧ i < (A.length : Int)) (.ite ((!(impl_within_v ((nth (row A i) 0).int) ((nth lw 0).int) ((nth hg 0).int))) = true) (.ok (.inr (.inl i)))
    (.ok (.inl (A, lw, hg, m, (IntKind.wrap .i64 (i + (1 : Int)))))))
   .no)
  (.ok (.inr (.inr ()))))
noncomputable def slices_IndexFunc_int64_int64_2_st : slices_IndexFunc_int64_int64_2_σ → Tr (slices_IndexFunc_int64_int64_2_σ ⊕ slices_IndexFunc_int64_int64_2_ω) := fun x => (slices_IndexFunc_int64_int64_2_step (x.1) (x.2.1) (x.2.2.1) (x.2.2.2.1) (x.2.2.2.2))
noncomputable def slices_IndexFunc_int64_int64_k2_1 (A : List (List TC)) (lw : List TC) (hg : List TC) (m : Int) (i : Int) : Bool := A.all (inR (nth lw 0).int (nth hg 0).int)
noncomputable def slices_IndexFunc_int64_int64_o2_2 (A : List (List TC)) (lw : List TC) (hg : List TC) (m : Int) (i : Int) : Bool := is (i = 0 ∧ Typed tab (.slice 2) (.l A) ∧ m = (A.length : Int))
noncomputable def slices_IndexFunc_int64_int64_o2_3 (A : List (List TC)) (lw : List TC) (hg : List TC) (m : Int) (i : Int) : Bool := is (i = 0 ∧ Typed tab (.slice 2) (.l A) ∧ m = (A.length : Int))
noncomputable def slices_IndexFunc_int64_int64_u2_3 (A : List (List TC)) (lw : List TC) (hg : List TC) (m : Int) (i : Int) : Int := (Int.ofNat (A.findIdx fun x => !(inR (nth lw 0).int (nth hg 0).int) x))
noncomputable def slices_IndexFunc_int64_int64_2_fin (A : List (List TC)) (lw : List TC) (hg : List TC) (m : Int) (i : Int) : Told slices_IndexFunc_int64_int64_2_ω := (.br (slices_IndexFunc_int64_int64_k2_1 A lw hg m i) (.leaf (slices_IndexFunc_int64_int64_o2_2 A lw hg m i) (.inr ())) (.leaf (slices_IndexFunc_int64_int64_o2_3 A lw hg m i) (.inl (slices_IndexFunc_int64_int64_u2_3 A lw hg m i))))
def slices_IndexFunc_int64_int64_2_sl (x : slices_IndexFunc_int64_int64_2_σ) : List Slot := [⟨.val false [⟨.slice 2, .sh, TC.l (x.1)⟩], ⟨0, 0⟩⟩, ⟨.val false [⟨.func, .sh, TC.f 138 [(2, x.2.1), (2, x.2.2.1)]⟩], ⟨0, 0⟩⟩, ⟨.val false [⟨.int .i64, .sh, TC.i (x.2.2.2.1)⟩], ⟨0, 0⟩⟩, ⟨.val false [⟨.int .i64, .sh, TC.i (x.2.2.2.2)⟩], ⟨0, 0⟩⟩]
def slices_IndexFunc_int64_int64_2_out : slices_IndexFunc_int64_int64_2_ω → Ex × List Slot := (Sum.elim (fun x => (.ret, [⟨.val false [⟨.int .i64, .sh, TC.i x⟩], ⟨0, 0⟩⟩])) (fun x => (.exit 0, [Slot.none])))
noncomputable def slices_IndexFunc_int64_int64_lo2 : List Slot → Option (Told (Ex × List Slot)) := fun s => match s with
  | [⟨.val false [⟨.slice 2, .sh, TC.l A⟩], ⟨0, 0⟩⟩, ⟨.val false [⟨.func, .sh, TC.f 138 [(2, lw), (2, hg)]⟩], ⟨0, 0⟩⟩, ⟨.val false [⟨.int .i64, .sh, TC.i m⟩], ⟨0, 0⟩⟩, ⟨.val false [⟨.int .i64, .sh, TC.i i⟩], ⟨0, 0⟩⟩] => some (((slices_IndexFunc_int64_int64_2_fin A lw hg m i)).map slices_IndexFunc_int64_int64_2_out)
  | _ => .none
noncomputable def slices_IndexFunc_int64_int64_lo : LoopTeller := fun r s => bif Nat.beq r 2 then slices_IndexFunc_int64_int64_lo2 s else .none
theorem slices_IndexFunc_int64_int64_2_r (A : List (List TC)) (lw : List TC) (hg : List TC) (m : Int) (i : Int) (fuel : Nat) : rounds (rnd tab FT D23 live 144 slices_IndexFunc_int64_int64_lo 0 2) leave (fuel + 1) (slices_IndexFunc_int64_int64_2_sl (A, lw, hg, m, i)) = ((slices_IndexFunc_int64_int64_2_step A lw hg m i)).run (goOn (fun s => rounds (rnd tab FT D23 live 144 slices_IndexFunc_int64_int64_lo 0 2) leave fuel (slices_IndexFunc_int64_int64_2_sl s)) fun w => some (slices_IndexFunc_int64_int64_2_out w)) := by kernel_rfl
theorem slices_IndexFunc_int64_int64_2_h (A : List (List TC)) (lw : List TC) (hg : List TC) (m : Int) (i : Int) (ow : slices_IndexFunc_int64_int64_2_ω) : ((slices_IndexFunc_int64_int64_2_fin A lw hg m i)).val = some ow → ∃ fuel, loopN slices_IndexFunc_int64_int64_2_st fuel (A, lw, hg, m, i) = some ow := by
  intro h
  have key : Typed tab (.slice 2) (.l A) → loopN slices_IndexFunc_int64_int64_2_st (A.length + 1) (A, lw, hg, (A.length : Int), (0 : Int)) = some (if A.all (inR (nth lw 0).int (nth hg 0).int) = true then (.inr ()) else (.inl (Int.ofNat (A.findIdx fun x => !(inR (nth lw 0).int (nth hg 0).int) x)))) := by
    intro ht
    have hlen : A.length ≤ 140737488351232 := by have := typed_room ht; simp only [show (tab 2).bytes = 8 from rfl] at this; omega
    have key := loopN_scan (step := slices_IndexFunc_int64_int64_2_st) A [] (inR (nth lw 0).int (nth hg 0).int) (fun a _ => a) (fun i a => (A, lw, hg, (A.length : Int), (i : Int))) (fun a => (.inr ())) (fun i a => (.inl (i : Int))) (fun i a hi => ?_) (fun a => ?_) A.length 0 () (by omega)
    · first | (rw [Nat.zero_add] at key; exact key) | exact key
    · skip
      show (slices_IndexFunc_int64_int64_2_step A lw hg (A.length : Int) (i : Int)).val = _
      unfold slices_IndexFunc_int64_int64_2_step
      refine Tr.t (by simp; omega) ?_
      skip
      refine Tr.t (by first | omega | (constructor <;> omega)) ?_
      refine Tr.b (P := (inR (nth lw 0).int (nth hg 0).int) (A.getD i [])) (fun hP => ?_) (fun _ => rfl)
      rw [Tr.val_ok, wrap64 (i := (i : Int) + 1) (by omega) (by omega)]; rfl
    · show (slices_IndexFunc_int64_int64_2_step A lw hg (A.length : Int) (A.length : Int)).val = _
      refine Tr.n (by simp) ?_
      rfl
  simp only [slices_IndexFunc_int64_int64_2_fin, Told.val] at h
  cases hk : A.all (inR (nth lw 0).int (nth hg 0).int) with
  | true =>
    rw [if_pos (show slices_IndexFunc_int64_int64_k2_1 A lw hg m i = true from hk)] at h
    split at h
    · rename_i ho
      obtain ⟨rfl, ht, rfl⟩ := is_iff.1 ho
      cases h
      refine ⟨_, (key ht).trans ?_⟩
      rw [hk]; rfl
    · cases h
  | false =>
    rw [if_neg (show ¬slices_IndexFunc_int64_int64_k2_1 A lw hg m i = true from by rw [show slices_IndexFunc_int64_int64_k2_1 A lw hg m i = (A.all (inR (nth lw 0).int (nth hg 0).int)) from rfl, hk]; simp)] at h
    split at h
    · rename_i ho
      obtain ⟨rfl, ht, rfl⟩ := is_iff.1 ho
      cases h
      refine ⟨_, (key ht).trans ?_⟩
      rw [hk]; rfl
    · cases h
theorem slices_IndexFunc_int64_int64_is2 : LoopIs tab FT D23 live 144 slices_IndexFunc_int64_int64_lo 0 2 := by
  refine loop_told (sl := slices_IndexFunc_int64_int64_2_sl) (step := slices_IndexFunc_int64_int64_2_st) (out := slices_IndexFunc_int64_int64_2_out) (lor := slices_IndexFunc_int64_int64_lo2) (fin := fun x => (slices_IndexFunc_int64_int64_2_fin (x.1) (x.2.1) (x.2.2.1) (x.2.2.2.1) (x.2.2.2.2))) (fun _ => rfl) ?_ (fun x n => slices_IndexFunc_int64_int64_2_r x.1 x.2.1 x.2.2.1 x.2.2.2.1 x.2.2.2.2 n) (fun x ow => slices_IndexFunc_int64_int64_2_h x.1 x.2.1 x.2.2.1 x.2.2.2.1 x.2.2.2.2 ow)
  intro s t h
  unfold slices_IndexFunc_int64_int64_lo2 at h
  split at h
  · cases h; exact ⟨(_, _, _, _, _), rfl, rfl⟩
  · cases h
noncomputable def slices_IndexFunc_int64_int64_t (A : List (List TC)) (lw : List TC) (hg : List TC) : Tr (Int) := (.ite ((slices_IndexFunc_int64_int64_k2_1 A lw hg (A.length : Int) (0 : Int)) = true) (.ite ((slices_IndexFunc_int64_int64_o2_2 A lw hg (A.length : Int) (0 : Int)) = true) (.ok (-1 : Int))
   .no)
  (.ite ((slices_IndexFunc_int64_int64_o2_3 A lw hg (A.length : Int) (0 : Int)) = true) (.ok (slices_IndexFunc_int64_int64_u2_3 A lw hg (A.length : Int) (0 : Int)))
   .no))
def slices_IndexFunc_int64_int64_mk (p : Int) : Res := [(false, [⟨.int .i64, .sh, TC.i p⟩])]
noncomputable def slices_IndexFunc_int64_int64_c (A : List (List TC)) (lw : List TC) (hg : List TC) : Bool := is (Typed tab (.slice 2) (.l A))
noncomputable def slices_IndexFunc_int64_int64_v (A : List (List TC)) (lw : List TC) (hg : List TC) : Int := if (A.all (inR (nth lw 0).int (nth hg 0).int)) = true then -1 else (Int.ofNat (A.findIdx fun x => !(inR (nth lw 0).int (nth hg 0).int) x))
theorem slices_IndexFunc_int64_int64_l (A : List (List TC)) (lw : List TC) (hg : List TC) : (slices_IndexFunc_int64_int64_c A lw hg) = true → (slices_IndexFunc_int64_int64_t A lw hg).val = some (slices_IndexFunc_int64_int64_v A lw hg) := by
  intro h
  have ht := is_iff.1 h
  unfold slices_IndexFunc_int64_int64_t
  cases hk : A.all (inR (nth lw 0).int (nth hg 0).int) with
  | true =>
    refine Tr.t (show A.all (inR (nth lw 0).int (nth hg 0).int) = true from hk) ?_
    refine Tr.t (by first | (apply is_true; and_intros <;> (first | rfl | assumption | (apply spec_l00Rises_cc <;> assumption) | (apply spec_l15Node_cc <;> assumption) | (apply impl_increasing_cc <;> assumption) | (first | (apply is_true; and_intros <;> (first | rfl | assumption | (apply spec_l00Rises_cc <;> assumption) | (apply spec_l15Node_cc <;> assumption) | (apply impl_increasing_cc <;> assumption) | (first | (apply is_true; and_intros <;> (first | rfl | assumption | (apply spec_l00Rises_cc <;> assumption) | (apply spec_l15Node_cc <;> assumption) | (apply impl_increasing_cc <;> assumption) | (first | (apply is_true; and_intros <;> (first | rfl | assumption | (apply spec_l00Rises_cc <;> assumption) | (apply spec_l15Node_cc <;> assumption) | (apply impl_increasing_cc <;> assumption))) | (apply spec_l00Rises_cc <;> assumption) | (apply spec_l15Node_cc <;> assumption) | (apply impl_increasing_cc <;> assumption)))) | (apply spec_l00Rises_cc <;> assumption) | (apply spec_l15Node_cc <;> assumption) | (apply impl_increasing_cc <;> assumption)))) | (apply spec_l00Rises_cc <;> assumption) | (apply spec_l15Node_cc <;> assumption) | (apply impl_increasing_cc <;> assumption)))) | (apply spec_l00Rises_cc <;> assumption) | (apply spec_l15Node_cc <;> assumption) | (apply impl_increasing_cc <;> assumption)) ?_
    show _ = some (slices_IndexFunc_int64_int64_v A lw hg); unfold slices_IndexFunc_int64_int64_v; rw [if_pos hk]; rfl
  | false =>
    refine Tr.n (show ¬A.all (inR (nth lw 0).int (nth hg 0).int) = true from by rw [hk]; simp) ?_
    refine Tr.t (by first | (apply is_true; and_intros <;> (first | rfl | assumption | (apply spec_l00Rises_cc <;> assumption) | (apply spec_l15Node_cc <;> assumption) | (apply impl_increasing_cc <;> assumption) | (first | (apply is_true; and_intros <;> (first | rfl | assumption | (apply spec_l00Rises_cc <;> assumption) | (apply spec_l15Node_cc <;> assumption) | (apply impl_increasing_cc <;> assumption) | (first | (apply is_true; and_intros <;> (first | rfl | assumption | (apply spec_l00Rises_cc <;> assumption) | (apply spec_l15Node_cc <;> assumption) | (apply impl_increasing_cc <;> assumption) | (first | (apply is_true; and_intros <;> (first | rfl | assumption | (apply spec_l00Rises_cc <;> assumption) | (apply spec_l15Node_cc <;> assumption) | (apply impl_increasing_cc <;> assumption))) | (apply spec_l00Rises_cc <;> assumption) | (apply spec_l15Node_cc <;> assumption) | (apply impl_increasing_cc <;> assumption)))) | (apply spec_l00Rises_cc <;> assumption) | (apply spec_l15Node_cc <;> assumption) | (apply impl_increasing_cc <;> assumption)))) | (apply spec_l00Rises_cc <;> assumption) | (apply spec_l15Node_cc <;> assumption) | (apply impl_increasing_cc <;> assumption)))) | (apply spec_l00Rises_cc <;> assumption) | (apply spec_l15Node_cc <;> assumption) | (apply impl_increasing_cc <;> assumption)) ?_
    show _ = some (slices_IndexFunc_int64_int64_v A lw hg); unfold slices_IndexFunc_int64_int64_v; rw [if_neg (by rw [hk]; simp)]; rfl
noncomputable def slices_IndexFunc_int64_int64_S : List Arg → Option (Bool × Res) := fun xs => match xs with
  | [(false, [(.slice 2, TC.l A)]), (false, [(.func, TC.f 138 [(2, lw), (2, hg)])])] => some ((slices_IndexFunc_int64_int64_c A lw hg), slices_IndexFunc_int64_int64_mk (slices_IndexFunc_int64_int64_v A lw hg))
  | _ => .none
theorem slices_IndexFunc_int64_int64_e (A : List (List TC)) (lw : List TC) (hg : List TC) : runF tab FT D23 live 144 slices_IndexFunc_int64_int64_lo [(false, [(.slice 2, TC.l A)]), (false, [(.func, TC.f 138 [(2, lw), (2, hg)])])] = (slices_IndexFunc_int64_int64_t A lw hg).run fun p => some (slices_IndexFunc_int64_int64_mk p) := by kernel_rfl
theorem slices_IndexFunc_int64_int64_s : ∀ xs r, slices_IndexFunc_int64_int64_S xs = some (true, r) → runF tab FT D23 live 144 slices_IndexFunc_int64_int64_lo xs = some r := by
  intro xs r h
  unfold slices_IndexFunc_int64_int64_S at h
  split at h
  · simp only [Option.some.injEq, Prod.mk.injEq] at h
    obtain ⟨h1, rfl⟩ := h
    exact fun_told (slices_IndexFunc_int64_int64_e _ _ _) (slices_IndexFunc_int64_int64_l _ _ _) h1
  · cases h
noncomputable def D24 : Dt := also D23 144 slices_IndexFunc_int64_int64_S
theorem d24 : DOk Go.Proofs.Try.prog tab D24 := d23.also mixed_ok tab_ok names_ok (fnLoops_one (by kernel_rfl) slices_IndexFunc_int64_int64_is2) slices_IndexFunc_int64_int64_s
/-! slices_ContainsFunc_int64_int64 -/
noncomputable def slices_ContainsFunc_int64_int64_t (A : List (List TC)) (lw : List TC) (hg : List TC) : Tr (Bool) := (.ite ((slices_IndexFunc_int64_int64_c A lw hg) = true) (.ok (decide ((slices_IndexFunc_int64_int64_v A lw hg) ≥ (0 : Int))))
  .no)
def slices_ContainsFunc_int64_int64_mk (p : Bool) : Res := [(false, [⟨.bool, .sh, TC.b p⟩])]
noncomputable def slices_ContainsFunc_int64_int64_c (A : List (List TC)) (lw : List TC) (hg : List TC) : Bool := is (Typed tab (.slice 2) (.l A))
noncomputable def slices_ContainsFunc_int64_int64_v (A : List (List TC)) (lw : List TC) (hg : List TC) : Bool := !(A.all (inR (nth lw 0).int (nth hg 0).int))
theorem slices_ContainsFunc_int64_int64_l (A : List (List TC)) (lw : List TC) (hg : List TC) : (slices_ContainsFunc_int64_int64_c A lw hg) = true → (slices_ContainsFunc_int64_int64_t A lw hg).val = some (slices_ContainsFunc_int64_int64_v A lw hg) := by
  intro h
  have ht := is_iff.1 h
  unfold slices_ContainsFunc_int64_int64_t
  refine Tr.t (by first | (apply is_true; and_intros <;> (first | rfl | assumption | (apply spec_l00Rises_cc <;> assumption) | (apply spec_l15Node_cc <;> assumption) | (apply impl_increasing_cc <;> assumption) | (first | (apply is_true; and_intros <;> (first | rfl | assumption | (apply spec_l00Rises_cc <;> assumption) | (apply spec_l15Node_cc <;> assumption) | (apply impl_increasing_cc <;> assumption) | (first | (apply is_true; and_intros <;> (first | rfl | assumption | (apply spec_l00Rises_cc <;> assumption) | (apply spec_l15Node_cc <;> assumption) | (apply impl_increasing_cc <;> assumption) | (first | (apply is_true; and_intros <;> (first | rfl | assumption | (apply spec_l00Rises_cc <;> assumption) | (apply spec_l15Node_cc <;> assumption) | (apply impl_increasing_cc <;> assumption))) | (apply spec_l00Rises_cc <;> assumption) | (apply spec_l15Node_cc <;> assumption) | (apply impl_increasing_cc <;> assumption)))) | (apply spec_l00Rises_cc <;> assumption) | (apply spec_l15Node_cc <;> assumption) | (apply impl_increasing_cc <;> assumption)))) | (apply spec_l00Rises_cc <;> assumption) | (apply spec_l15Node_cc <;> assumption) | (apply impl_increasing_cc <;> assumption)))) | (apply spec_l00Rises_cc <;> assumption) | (apply spec_l15Node_cc <;> assumption) | (apply impl_increasing_cc <;> assumption)) ?_
  show some (decide (slices_IndexFunc_int64_int64_v A lw hg ≥ 0)) = some (!(A.all (inR (nth lw 0).int (nth hg 0).int)))
  unfold slices_IndexFunc_int64_int64_v
  cases hk : A.all (inR (nth lw 0).int (nth hg 0).int) <;> simp
noncomputable def slices_ContainsFunc_int64_int64_S : List Arg → Option (Bool × Res) := fun xs => match xs with
  | [(false, [(.slice 2, TC.l A)]), (false, [(.func, TC.f 138 [(2, lw), (2, hg)])])] => some ((slices_ContainsFunc_int64_int64_c A lw hg), slices_ContainsFunc_int64_int64_mk (slices_ContainsFunc_int64_int64_v A lw hg))
  | _ => .none
theorem slices_ContainsFunc_int64_int64_e (A : List (List TC)) (lw : List TC) (hg : List TC) : runF tab FT D24 live 137 noLoops [(false, [(.slice 2, TC.l A)]), (false, [(.func, TC.f 138 [(2, lw), (2, hg)])])] = (slices_ContainsFunc_int64_int64_t A lw hg).run fun p => some (slices_ContainsFunc_int64_int64_mk p) := by kernel_rfl
theorem slices_ContainsFunc_int64_int64_s : ∀ xs r, slices_ContainsFunc_int64_int64_S xs = some (true, r) → runF tab FT D24 live 137 noLoops xs = some r := by
  intro xs r h
  unfold slices_ContainsFunc_int64_int64_S at h
  split at h
  · simp only [Option.some.injEq, Prod.mk.injEq] at h
    obtain ⟨h1, rfl⟩ := h
    exact fun_told (slices_ContainsFunc_int64_int64_e _ _ _) (slices_ContainsFunc_int64_int64_l _ _ _) h1
  · cases h
noncomputable def D25 : Dt := also D24 137 slices_ContainsFunc_int64_int64_S
theorem d25 : DOk Go.Proofs.Try.prog tab D25 := d24.also mixed_ok tab_ok names_ok noLoops_ok slices_ContainsFunc_int64_int64_s
/-! impl_allWithin -/
noncomputable def impl_allWithin_t (a0 : List (List TC)) (a1 : Int) (a2 : Int) : Tr (Bool) := (.ite ((slices_ContainsFunc_int64_int64_c a0 [TC.i a1] [TC.i a2]) = true) (.ok (!(slices_ContainsFunc_int64_int64_v a0 [TC.i a1] [TC.i a2])))
  .no)
def impl_allWithin_mk (p : Bool) : Res := [(false, [⟨.bool, .sh, TC.b p⟩])]
noncomputable def impl_allWithin_c (a0 : List (List TC)) (a1 : Int) (a2 : Int) : Bool := (slices_ContainsFunc_int64_int64_c a0 [TC.i a1] [TC.i a2])
noncomputable def impl_allWithin_v (a0 : List (List TC)) (a1 : Int) (a2 : Int) : Bool := (!(slices_ContainsFunc_int64_int64_v a0 [TC.i a1] [TC.i a2]))
theorem impl_allWithin_l (a0 : List (List TC)) (a1 : Int) (a2 : Int) : (impl_allWithin_c a0 a1 a2) = true → (impl_allWithin_t a0 a1 a2).val = some (impl_allWithin_v a0 a1 a2) := by
  intro h
  have hc0 : (slices_ContainsFunc_int64_int64_c a0 [TC.i a1] [TC.i a2]) = true := h
  unfold impl_allWithin_t
  exact (Tr.t hc0 rfl)
noncomputable def impl_allWithin_S : List Arg → Option (Bool × Res) := fun xs => match xs with
  | [(false, [(.slice 2, TC.l a0)]), (false, [(.int .i64, TC.i a1)]), (false, [(.int .i64, TC.i a2)])] => some ((impl_allWithin_c a0 a1 a2), impl_allWithin_mk (impl_allWithin_v a0 a1 a2))
  | _ => .none
theorem impl_allWithin_e (a0 : List (List TC)) (a1 : Int) (a2 : Int) : runF tab FT D25 live 113 noLoops [(false, [(.slice 2, TC.l a0)]), (false, [(.int .i64, TC.i a1)]), (false, [(.int .i64, TC.i a2)])] = (impl_allWithin_t a0 a1 a2).run fun p => some (impl_allWithin_mk p) := by kernel_rfl
theorem impl_allWithin_s : ∀ xs r, impl_allWithin_S xs = some (true, r) → runF tab FT D25 live 113 noLoops xs = some r := by
  intro xs r h
  unfold impl_allWithin_S at h
  split at h
  · simp only [Option.some.injEq, Prod.mk.injEq] at h
    obtain ⟨h1, rfl⟩ := h
    exact fun_told (impl_allWithin_e _ _ _) (impl_allWithin_l _ _ _) h1
  · cases h
noncomputable def D26 : Dt := also D25 113 impl_allWithin_S
theorem d26 : DOk Go.Proofs.Try.prog tab D26 := d25.also mixed_ok tab_ok names_ok noLoops_ok impl_allWithin_s
/-! impl_ValidNode -/
theorem inI_w {a b c : Int} : impl_within_v a b c = inI a b c := rfl
theorem aw_v {A : List (List TC)} {lo hi : Int} : impl_allWithin_v A lo hi = allI (fun i => inI (keyAt A i) lo hi) A.length := by
  show (!(!(A.all (inR lo hi)))) = _
  rw [Bool.not_not, ← allI_rows]
  exact allI_congr fun i _ => rfl
theorem cf_v {A : List (List TC)} : slices_ContainsFunc_impl_Chunk_impl_Chunk_v A = !(A.all chB) := by
  unfold slices_ContainsFunc_impl_Chunk_impl_Chunk_v
  refine congrArg (fun b => !b) (congrArg (fun p => A.all p) (funext fun x => ?_))
  unfold impl_ValidNode_1_v impl_chunkOk_v chB
  rw [inI_w, inI_w, inI_w, inI_w, Bool.not_not]
  cases inI (nth x 0).int 0 65535 <;> cases inI (nth x 1).int 1 255 <;> cases inI (nth x 2).int 0 65535 <;> rfl
noncomputable def impl_ValidNode_t (L : Bool) (C : List (List TC)) (K : List (List TC)) (D : List (List TC)) : Tr (Bool) := (.ite (L = true) (.ite (((K.length : Int) == (0 : Int)) = true) (.ite (((D.length : Int) == (0 : Int)) = true) (.ite ((decide ((C.length : Int) ≤ (8 : Int))) = true) (.ite ((impl_keysOf_c C) = true) (.ite ((impl_increasing_c (impl_keysOf_v C)) = true) (.ite ((impl_increasing_v (impl_keysOf_v C)) = true) (.ite ((slices_ContainsFunc_impl_Chunk_impl_Chunk_c C) = true) (.ok (!(slices_ContainsFunc_impl_Chunk_impl_Chunk_v C)))
         .no)
        (.ok false))
       .no)
      .no)
     (.ok false))
    (.ok false))
   (.ok false))
  (.ite (((C.length : Int) == (0 : Int)) = true) (.ite ((impl_within_v (K.length : Int) (1 : Int) (7 : Int)) = true) (.ite ((impl_increasing_c K) = true) (.ite ((impl_increasing_v K) = true) (.ite ((impl_allWithin_c K (0 : Int) (65535 : Int)) = true) (.ite ((impl_allWithin_v K (0 : Int) (65535 : Int)) = true) (.ite (((D.length : Int) == (IntKind.wrap .i64 ((K.length : Int) + (1 : Int)))) = true) (.ite ((impl_allWithin_c D (1 : Int) (255 : Int)) = true) (.ok (impl_allWithin_v D (1 : Int) (255 : Int)))
          .no)
         (.ok false))
        (.ok false))
       .no)
      (.ok false))
     .no)
    (.ok false))
   (.ok false)))
def impl_ValidNode_mk (p : Bool) : Res := [(false, [⟨.bool, .sh, TC.b p⟩])]
noncomputable def impl_ValidNode_c (L : Bool) (C : List (List TC)) (K : List (List TC)) (D : List (List TC)) : Bool := (bif L then (bif ((K.length : Int) == (0 : Int)) then (bif ((D.length : Int) == (0 : Int)) then (bif (decide ((C.length : Int) ≤ (8 : Int))) then ((impl_keysOf_c C) && ((impl_increasing_c (impl_keysOf_v C)) && (bif (impl_increasing_v (impl_keysOf_v C)) then ((slices_ContainsFunc_impl_Chunk_impl_Chunk_c C) && true) else true))) else true) else true) else true) else (bif ((C.length : Int) == (0 : Int)) then (bif (impl_within_v (K.length : Int) (1 : Int) (7 : Int)) then ((impl_increasing_c K) && (bif (impl_increasing_v K) then ((impl_allWithin_c K (0 : Int) (65535 : Int)) && (bif (impl_allWithin_v K (0 : Int) (65535 : Int)) then (bif ((D.length : Int) == (IntKind.wrap .i64 ((K.length : Int) + (1 : Int)))) then ((impl_allWithin_c D (1 : Int) (255 : Int)) && true) else true) else true)) else true)) else true) else true))
noncomputable def impl_ValidNode_v (L : Bool) (C : List (List TC)) (K : List (List TC)) (D : List (List TC)) : Bool := (bif L then (bif ((K.length : Int) == (0 : Int)) then (bif ((D.length : Int) == (0 : Int)) then (bif (decide ((C.length : Int) ≤ (8 : Int))) then (bif (impl_increasing_v (impl_keysOf_v C)) then (!(slices_ContainsFunc_impl_Chunk_impl_Chunk_v C)) else false) else false) else false) else false) else (bif ((C.length : Int) == (0 : Int)) then (bif (impl_within_v (K.length : Int) (1 : Int) (7 : Int)) then (bif (impl_increasing_v K) then (bif (impl_allWithin_v K (0 : Int) (65535 : Int)) then (bif ((D.length : Int) == (IntKind.wrap .i64 ((K.length : Int) + (1 : Int)))) then (impl_allWithin_v D (1 : Int) (255 : Int)) else false) else false) else false) else false) else false))
theorem impl_ValidNode_l (L : Bool) (C : List (List TC)) (K : List (List TC)) (D : List (List TC)) : (impl_ValidNode_c L C K D) = true → (impl_ValidNode_t L C K D).val = some (impl_ValidNode_v L C K D) := by
  unfold impl_ValidNode_t impl_ValidNode_v impl_ValidNode_c
  exact fun h => (Tr.ss h (fun h => (Tr.ss h (fun h => (Tr.ss h (fun h => (Tr.ss h (fun h => (Tr.gb h fun h => (Tr.gb h fun h => (Tr.ss h (fun h => (Tr.gb h fun h => rfl)) (fun h => rfl))))) (fun h => rfl))) (fun h => rfl))) (fun h => rfl))) (fun h => (Tr.ss h (fun h => (Tr.ss h (fun h => (Tr.gb h fun h => (Tr.ss h (fun h => (Tr.gb h fun h => (Tr.ss h (fun h => (Tr.ss h (fun h => (Tr.gb h fun h => rfl)) (fun h => rfl))) (fun h => rfl)))) (fun h => rfl)))) (fun h => rfl))) (fun h => rfl))))
noncomputable def impl_ValidNode_S : List Arg → Option (Bool × Res) := fun xs => match xs with
  | [(true, [(.bool, TC.b L), (.slice 159, TC.l C), (.slice 2, TC.l K), (.slice 2, TC.l D)])] => some ((impl_ValidNode_c L C K D), impl_ValidNode_mk (impl_ValidNode_v L C K D))
  | _ => .none
theorem impl_ValidNode_e (L : Bool) (C : List (List TC)) (K : List (List TC)) (D : List (List TC)) : runF tab FT D26 live 85 noLoops [(true, [(.bool, TC.b L), (.slice 159, TC.l C), (.slice 2, TC.l K), (.slice 2, TC.l D)])] = (impl_ValidNode_t L C K D).run fun p => some (impl_ValidNode_mk p) := by kernel_rfl
theorem impl_ValidNode_s : ∀ xs r, impl_ValidNode_S xs = some (true, r) → runF tab FT D26 live 85 noLoops xs = some r := by
  intro xs r h
  unfold impl_ValidNode_S at h
  split at h
  · simp only [Option.some.injEq, Prod.mk.injEq] at h
    obtain ⟨h1, rfl⟩ := h
    exact fun_told (impl_ValidNode_e _ _ _ _) (impl_ValidNode_l _ _ _ _) h1
  · cases h
noncomputable def D27 : Dt := also D26 85 impl_ValidNode_S
theorem d27 : DOk Go.Proofs.Try.prog tab D27 := d26.also mixed_ok tab_ok names_ok noLoops_ok impl_ValidNode_s
theorem impl_ValidNode_cc {L : Bool} {C : List (List TC)} {K : List (List TC)} {D : List (List TC)} (hC : Typed tab (.slice 159) (.l C)) (hK : Typed tab (.slice 2) (.l K)) (hD : Typed tab (.slice 2) (.l D)) : (impl_ValidNode_c L C K D) = true := by
  unfold impl_ValidNode_c
  refine bifT (fun b1 => ?_) (fun b1 => ?_)
  · skip
    refine bifT (fun b2 => ?_) (fun b2 => ?_)
    · skip
      refine bifT (fun b3 => ?_) (fun b3 => ?_)
      · skip
        refine bifT (fun b4 => ?_) (fun b4 => ?_)
        · skip
          refine andT (by exact is_true (by have := of_decide_eq_true b4; omega)) ?_
          refine andT (by exact impl_increasing_cc (by show (keysL C C.length).length ≤ 1000; rw [keysL_len]; have := of_decide_eq_true b4; omega)) ?_
          refine bifT (fun b5 => ?_) (fun b5 => ?_)
          · skip
            refine andT (by exact is_true hC) ?_
            rfl
          · skip
            rfl
        · skip
          rfl
      · skip
        rfl
    · skip
      rfl
  · skip
    refine bifT (fun b6 => ?_) (fun b6 => ?_)
    · skip
      refine bifT (fun b7 => ?_) (fun b7 => ?_)
      · skip
        refine andT (by exact impl_increasing_cc (by have := inI_le (show inI (K.length : Int) 1 7 = true from b7); omega)) ?_
        refine bifT (fun b8 => ?_) (fun b8 => ?_)
        · skip
          refine andT (by exact is_true hK) ?_
          refine bifT (fun b9 => ?_) (fun b9 => ?_)
          · skip
            refine bifT (fun b10 => ?_) (fun b10 => ?_)
            · skip
              refine andT (by exact is_true hD) ?_
              rfl
            · skip
              rfl
          · skip
            rfl
        · skip
          rfl
      · skip
        rfl
    · skip
      rfl
theorem impl_ValidNode_vv (L : Bool) (C K D : List (List TC)) : impl_ValidNode_v L C K D = nodeOk L C K D := by
  unfold impl_ValidNode_v nodeOk
  rw [impl_increasing_vv, impl_increasing_vv, aw_v, aw_v, cf_v, show upsB (impl_keysOf_v C) = upsB C from keysL_up, inI_w]
  generalize C.all chB = p1, upsB C = p2, upsB K = p3, allI (fun i => inI (keyAt K i) 0 65535) K.length = p4, allI (fun i => inI (keyAt D i) 1 255) D.length = p5, inI (K.length : Int) 1 7 = p6, ((C.length : Int) == (0 : Int)) = p7, ((K.length : Int) == (0 : Int)) = p8, ((D.length : Int) == (0 : Int)) = p9, decide ((C.length : Int) ≤ 8) = q1, ((D.length : Int) == (IntKind.wrap .i64 ((K.length : Int) + (1 : Int)))) = q2
  cases L with
  | true => cases p8 <;> cases p9 <;> cases q1 <;> cases p1 <;> cases p2 <;> rfl
  | false => cases p7 <;> cases p6 <;> cases p3 <;> cases p4 <;> cases q2 <;> cases p5 <;> rfl
/-! impl_putBytes -/
abbrev impl_putBytes_3_σ := Int × List (List TC) × Int × Int
abbrev impl_putBytes_3_ω := (List (List TC))
noncomputable def impl_putBytes_3_step (n : Int) (X : List (List TC)) (m : Int) (k : Int) : Tr (impl_putBytes_3_σ ⊕ impl_putBytes_3_ω) := (.ite ((decide (k < m)) = true) (.ite (0 ≤ (IntKind.wrap .i64 ((8 : Int) * k))) (.ite ((0 : Int) ≤ k ∧ k < (X.length : Int)) (.ok (.inl (n, (X.set (k).toNat (splice (row X k) 0 [TC.i (IntKind.wrap .u8 (Int.fdiv n (2 ^ (min ((IntKind.wrap .i64 ((8 : Int) * k))).toNat 64))))])), m, (IntKind.wrap .i64 (k + (1 : Int))))))
    .no)
   .no)
  (.ok (.inr X)))
noncomputable def impl_putBytes_3_st : impl_putBytes_3_σ → Tr (impl_putBytes_3_σ ⊕ impl_putBytes_3_ω) := fun x => (impl_putBytes_3_step (x.1) (x.2.1) (x.2.2.1) (x.2.2.2))
noncomputable def impl_putBytes_o3_1 (n : Int) (X : List (List TC)) (m : Int) (k : Int) : Bool := is (∃ sz : Nat, m = (sz : Int) ∧ sz ≤ 8 ∧ X = List.replicate sz [TC.i 0] ∧ k = 0)
noncomputable def impl_putBytes_u3_1 (n : Int) (X : List (List TC)) (m : Int) (k : Int) : List (List TC) := bRows n m.toNat
noncomputable def impl_putBytes_3_fin (n : Int) (X : List (List TC)) (m : Int) (k : Int) : Told impl_putBytes_3_ω := (.leaf (impl_putBytes_o3_1 n X m k) (impl_putBytes_u3_1 n X m k))
def impl_putBytes_3_sl (x : impl_putBytes_3_σ) : List Slot := [⟨.val false [⟨.int .i64, .sh, TC.i (x.1)⟩], ⟨0, 0⟩⟩, ⟨.val false [⟨.slice 5, .own true, TC.l (x.2.1)⟩], ⟨0, 0⟩⟩, ⟨.val false [⟨.int .i64, .sh, TC.i (x.2.2.1)⟩], ⟨0, 0⟩⟩, ⟨.val false [⟨.int .i64, .sh, TC.i (x.2.2.2)⟩], ⟨0, 0⟩⟩]
def impl_putBytes_3_out : impl_putBytes_3_ω → Ex × List Slot := (fun x => (.exit 0, [Slot.none, ⟨.val false [⟨.slice 5, .own true, TC.l x⟩], ⟨0, 0⟩⟩]))
noncomputable def impl_putBytes_lo3 : List Slot → Option (Told (Ex × List Slot)) := fun s => match s with
  | [⟨.val false [⟨.int .i64, .sh, TC.i n⟩], ⟨0, 0⟩⟩, ⟨.val false [⟨.slice 5, .own true, TC.l X⟩], ⟨0, 0⟩⟩, ⟨.val false [⟨.int .i64, .sh, TC.i m⟩], ⟨0, 0⟩⟩, ⟨.val false [⟨.int .i64, .sh, TC.i k⟩], ⟨0, 0⟩⟩] => some (((impl_putBytes_3_fin n X m k)).map impl_putBytes_3_out)
  | _ => .none
noncomputable def impl_putBytes_lo : LoopTeller := fun r s => bif Nat.beq r 3 then impl_putBytes_lo3 s else .none
theorem impl_putBytes_3_r (n : Int) (X : List (List TC)) (m : Int) (k : Int) (fuel : Nat) : rounds (rnd tab FT D27 live 99 impl_putBytes_lo 0 3) leave (fuel + 1) (impl_putBytes_3_sl (n, X, m, k)) = ((impl_putBytes_3_step n X m k)).run (goOn (fun s => rounds (rnd tab FT D27 live 99 impl_putBytes_lo 0 3) leave fuel (impl_putBytes_3_sl s)) fun w => some (impl_putBytes_3_out w)) := by kernel_rfl
theorem impl_putBytes_3_h (n : Int) (X : List (List TC)) (m : Int) (k : Int) (ow : impl_putBytes_3_ω) : ((impl_putBytes_3_fin n X m k)).val = some ow → ∃ fuel, loopN impl_putBytes_3_st fuel (n, X, m, k) = some ow := by
  intro h
  refine auto_leaf (R := bRows n m.toNat) (fun ho => ?_) h
  obtain ⟨sz, rfl, h8, rfl, rfl⟩ := is_iff.1 ho
  rw [wr_zero (n := n)]
  refine ⟨sz + 1, loopN_run (step := impl_putBytes_3_st) (N := sz) (fun j => (n, (wr sz (bAt n) (fun _ => [TC.i 0]) (fun p => decide (p < j))), (sz : Int), (j : Int))) (fun j hj => ?_) ?_ sz 0 (by omega)⟩
  · have e := wr_step (L := sz) (p0 := j) (F := bAt n) (O := fun _ => [TC.i 0]) (vis := fun p => decide (p < j)) (vis' := fun p => decide (p < j + 1)) hj (fun _ => rfl) (fun _ => rfl) (fun p _ => by
      rw [Bool.eq_iff_iff]; simp only [Bool.or_eq_true, decide_eq_true_eq, beq_iff_eq]; omega)
    show (impl_putBytes_3_step n (wr sz (bAt n) (fun _ => [TC.i 0]) (fun p => decide (p < j))) (sz : Int) (j : Int)).val = _
    unfold impl_putBytes_3_step
    rw [bAt_i64 (by omega)]
    refine Tr.t (by simp; omega) ?_
    refine Tr.t (by rw [wrap64 (by omega) (by omega)]; omega) ?_
    refine Tr.t ⟨by omega, by rw [wr_len]; omega⟩ ?_
    rw [Tr.val_ok, wrap64 (i := (j : Int) + 1) (by omega) (by omega)]
    show some (Sum.inl (n, (wr sz (bAt n) (fun _ => [TC.i 0]) (fun p => decide (p < j))).set j (splice ((wr sz (bAt n) (fun _ => [TC.i 0]) (fun p => decide (p < j))).getD j []) 0 (bAt n j)), (sz : Int), ((j + 1 : Nat) : Int))) = _
    rw [e]
  · show (impl_putBytes_3_step n (wr sz (bAt n) (fun _ => [TC.i 0]) (fun p => decide (p < sz))) (sz : Int) (sz : Int)).val = _
    refine Tr.n (by simp) ?_
    rw [wr_bRows]
    rfl
theorem impl_putBytes_is3 : LoopIs tab FT D27 live 99 impl_putBytes_lo 0 3 := by
  refine loop_told (sl := impl_putBytes_3_sl) (step := impl_putBytes_3_st) (out := impl_putBytes_3_out) (lor := impl_putBytes_lo3) (fin := fun x => (impl_putBytes_3_fin (x.1) (x.2.1) (x.2.2.1) (x.2.2.2))) (fun _ => rfl) ?_ (fun x n => impl_putBytes_3_r x.1 x.2.1 x.2.2.1 x.2.2.2 n) (fun x ow => impl_putBytes_3_h x.1 x.2.1 x.2.2.1 x.2.2.2 ow)
  intro s t h
  unfold impl_putBytes_lo3 at h
  split at h
  · cases h; exact ⟨(_, _, _, _), rfl, rfl⟩
  · cases h
noncomputable def impl_putBytes_t (n : Int) (size : Int) : Tr (List UInt8) := (.ite (0 ≤ size ∧ size ≤ size ∧ size * 1 ≤ 140737488355328 ∧ size ≤ 140737488355328) (.ite ((impl_putBytes_o3_1 n (List.replicate (size).toNat [TC.i (0 : Int)]) ((List.replicate (size).toNat [TC.i (0 : Int)]).length : Int) (0 : Int)) = true) (.ok ((impl_putBytes_u3_1 n (List.replicate (size).toNat [TC.i (0 : Int)]) ((List.replicate (size).toNat [TC.i (0 : Int)]).length : Int) (0 : Int)).map byteOf))
   .no)
  .no)
def impl_putBytes_mk (p : List UInt8) : Res := [(false, [⟨.str, .sh, TC.s p⟩])]
noncomputable def impl_putBytes_c (n : Int) (size : Int) : Bool := is (∃ sz : Nat, size = (sz : Int) ∧ sz ≤ 8)
noncomputable def impl_putBytes_v (n : Int) (size : Int) : List UInt8 := hid (bytesL n size.toNat)
theorem impl_putBytes_l (n : Int) (size : Int) : (impl_putBytes_c n size) = true → (impl_putBytes_t n size).val = some (impl_putBytes_v n size) := by
  intro h
  obtain ⟨sz, rfl, h8⟩ := is_iff.1 h
  unfold impl_putBytes_t
  refine Tr.t (by omega) ?_
  refine Tr.t (is_true ⟨sz, by simp, h8, rfl, rfl⟩) ?_
  unfold impl_putBytes_v
  rw [hid_eq]; simp; rfl
noncomputable def impl_putBytes_S : List Arg → Option (Bool × Res) := fun xs => match xs with
  | [(false, [(.int .i64, TC.i n)]), (false, [(.int .i64, TC.i size)])] => some ((impl_putBytes_c n size), impl_putBytes_mk (impl_putBytes_v n size))
  | _ => .none
theorem impl_putBytes_e (n : Int) (size : Int) : runF tab FT D27 live 99 impl_putBytes_lo [(false, [(.int .i64, TC.i n)]), (false, [(.int .i64, TC.i size)])] = (impl_putBytes_t n size).run fun p => some (impl_putBytes_mk p) := by kernel_rfl
theorem impl_putBytes_s : ∀ xs r, impl_putBytes_S xs = some (true, r) → runF tab FT D27 live 99 impl_putBytes_lo xs = some r := by
  intro xs r h
  unfold impl_putBytes_S at h
  split at h
  · simp only [Option.some.injEq, Prod.mk.injEq] at h
    obtain ⟨h1, rfl⟩ := h
    exact fun_told (impl_putBytes_e _ _) (impl_putBytes_l _ _) h1
  · cases h
noncomputable def D28 : Dt := also D27 99 impl_putBytes_S
theorem d28 : DOk Go.Proofs.Try.prog tab D28 := d27.also mixed_ok tab_ok names_ok (fnLoops_one (by kernel_rfl) impl_putBytes_is3) impl_putBytes_s
theorem impl_putBytes_h {n size : Int} : impl_putBytes_v n size = bytesL n size.toNat := hid_eq _
theorem impl_putBytes_len {n : Int} {sz : Nat} : (impl_putBytes_v n (sz : Int)).length = sz := by rw [impl_putBytes_h]; exact bytesL_len
/-! impl_putPairs -/
abbrev impl_putPairs_3_σ := List UInt8 × List (List TC) × Int × Int
abbrev impl_putPairs_3_ω := (List UInt8)
noncomputable def impl_putPairs_3_step (out : List UInt8) (A : List (List TC)) (m : Int) (i : Int) : Tr (impl_putPairs_3_σ ⊕ impl_putPairs_3_ω) := (.ite ((decide (i < m)) = true) (.ite ((0 : Int) ≤ i ∧ i < (A.length : Int)) (.ite ((impl_putBytes_c ((nth (row A i) 0).int) (2 : Int)) = true) (.ite (fits (out.length + (impl_putBytes_v ((nth (row A i) 0).int) (2 : Int)).length)) (.ok (.inl ((out ++ (impl_putBytes_v ((nth (row A i) 0).int) (2 : Int))), A, m, (IntKind.wrap .i64 (i + (1 : Int))))))
     .no)
    .no)
   .no)
  (.ok (.inr out)))
noncomputable def impl_putPairs_3_st : impl_putPairs_3_σ → Tr (impl_putPairs_3_σ ⊕ impl_putPairs_3_ω) := fun x => (impl_putPairs_3_step (x.1) (x.2.1) (x.2.2.1) (x.2.2.2))
noncomputable def impl_putPairs_o3_1 (out : List UInt8) (A : List (List TC)) (m : Int) (i : Int) : Bool := is (A.length ≤ 1000 ∧ out = [] ∧ m = (A.length : Int) ∧ i = 0)
noncomputable def impl_putPairs_u3_1 (out : List UInt8) (A : List (List TC)) (m : Int) (i : Int) : List UInt8 := pairsL A A.length
noncomputable def impl_putPairs_3_fin (out : List UInt8) (A : List (List TC)) (m : Int) (i : Int) : Told impl_putPairs_3_ω := (.leaf (impl_putPairs_o3_1 out A m i) (impl_putPairs_u3_1 out A m i))
def impl_putPairs_3_sl (x : impl_putPairs_3_σ) : List Slot := [⟨.bld 133 5 (x.1), ⟨0, 0⟩⟩, ⟨.val false [⟨.slice 2, .sh, TC.l (x.2.1)⟩], ⟨0, 0⟩⟩, ⟨.val false [⟨.int .i64, .sh, TC.i (x.2.2.1)⟩], ⟨0, 0⟩⟩, ⟨.val false [⟨.int .i64, .sh, TC.i (x.2.2.2)⟩], ⟨0, 0⟩⟩]
def impl_putPairs_3_out : impl_putPairs_3_ω → Ex × List Slot := (fun x => (.exit 0, [Slot.none, ⟨.bld 133 5 x, ⟨0, 0⟩⟩]))
noncomputable def impl_putPairs_lo3 : List Slot → Option (Told (Ex × List Slot)) := fun s => match s with
  | [⟨.bld 133 5 out, ⟨0, 0⟩⟩, ⟨.val false [⟨.slice 2, .sh, TC.l A⟩], ⟨0, 0⟩⟩, ⟨.val false [⟨.int .i64, .sh, TC.i m⟩], ⟨0, 0⟩⟩, ⟨.val false [⟨.int .i64, .sh, TC.i i⟩], ⟨0, 0⟩⟩] => some (((impl_putPairs_3_fin out A m i)).map impl_putPairs_3_out)
  | _ => .none
noncomputable def impl_putPairs_lo : LoopTeller := fun r s => bif Nat.beq r 3 then impl_putPairs_lo3 s else .none
theorem impl_putPairs_3_r (out : List UInt8) (A : List (List TC)) (m : Int) (i : Int) (fuel : Nat) : rounds (rnd tab FT D28 live 132 impl_putPairs_lo 0 3) leave (fuel + 1) (impl_putPairs_3_sl (out, A, m, i)) = ((impl_putPairs_3_step out A m i)).run (goOn (fun s => rounds (rnd tab FT D28 live 132 impl_putPairs_lo 0 3) leave fuel (impl_putPairs_3_sl s)) fun w => some (impl_putPairs_3_out w)) := by kernel_rfl
theorem impl_putPairs_3_h (out : List UInt8) (A : List (List TC)) (m : Int) (i : Int) (ow : impl_putPairs_3_ω) : ((impl_putPairs_3_fin out A m i)).val = some ow → ∃ fuel, loopN impl_putPairs_3_st fuel (out, A, m, i) = some ow := by
  intro h
  refine auto_leaf (R := pairsL A A.length) (fun ho => ?_) h
  obtain ⟨hl, rfl, rfl, rfl⟩ := is_iff.1 ho
  refine ⟨A.length + 1, loopN_run (step := impl_putPairs_3_st) (N := A.length) (fun j => (pairsL A j, A, (A.length : Int), (j : Int))) (fun j hj => ?_) ?_ A.length 0 (by omega)⟩
  · have hq := pairsL_len (A := A) j
    show (impl_putPairs_3_step (pairsL A j) A (A.length : Int) (j : Int)).val = _
    unfold impl_putPairs_3_step
    rw [impl_putBytes_h]
    refine Tr.t (by simp; omega) (Tr.t ⟨by omega, by omega⟩ (Tr.t (is_true ⟨2, rfl, by omega⟩) (Tr.t (show ((_ : Nat) : Int) ≤ 140737488355328 from by rw [bytesL_len]; omega) ?_)))
    rw [Tr.val_ok, wrap64 (i := (j : Int) + 1) (by omega) (by omega)]; rfl
  · show (impl_putPairs_3_step (pairsL A A.length) A (A.length : Int) (A.length : Int)).val = _
    unfold impl_putPairs_3_step
    refine Tr.n (by simp) ?_
    rfl
theorem impl_putPairs_is3 : LoopIs tab FT D28 live 132 impl_putPairs_lo 0 3 := by
  refine loop_told (sl := impl_putPairs_3_sl) (step := impl_putPairs_3_st) (out := impl_putPairs_3_out) (lor := impl_putPairs_lo3) (fin := fun x => (impl_putPairs_3_fin (x.1) (x.2.1) (x.2.2.1) (x.2.2.2))) (fun _ => rfl) ?_ (fun x n => impl_putPairs_3_r x.1 x.2.1 x.2.2.1 x.2.2.2 n) (fun x ow => impl_putPairs_3_h x.1 x.2.1 x.2.2.1 x.2.2.2 ow)
  intro s t h
  unfold impl_putPairs_lo3 at h
  split at h
  · cases h; exact ⟨(_, _, _, _), rfl, rfl⟩
  · cases h
noncomputable def impl_putPairs_t (A : List (List TC)) : Tr (List UInt8) := (.ite ((impl_putPairs_o3_1 [] A (A.length : Int) (0 : Int)) = true) (.ok (impl_putPairs_u3_1 [] A (A.length : Int) (0 : Int)))
  .no)
def impl_putPairs_mk (p : List UInt8) : Res := [(false, [⟨.str, .sh, TC.s p⟩])]
noncomputable def impl_putPairs_c (A : List (List TC)) : Bool := is (A.length ≤ 1000)
noncomputable def impl_putPairs_v (A : List (List TC)) : List UInt8 := hid (pairsL A A.length)
theorem impl_putPairs_l (A : List (List TC)) : (impl_putPairs_c A) = true → (impl_putPairs_t A).val = some (impl_putPairs_v A) := by
  intro h
  have hl := is_iff.1 h
  unfold impl_putPairs_t impl_putPairs_v
  rw [hid_eq]
  refine Tr.t (is_true ⟨hl, rfl, rfl, rfl⟩) ?_
  rfl
noncomputable def impl_putPairs_S : List Arg → Option (Bool × Res) := fun xs => match xs with
  | [(false, [(.slice 2, TC.l A)])] => some ((impl_putPairs_c A), impl_putPairs_mk (impl_putPairs_v A))
  | _ => .none
theorem impl_putPairs_e (A : List (List TC)) : runF tab FT D28 live 132 impl_putPairs_lo [(false, [(.slice 2, TC.l A)])] = (impl_putPairs_t A).run fun p => some (impl_putPairs_mk p) := by kernel_rfl
theorem impl_putPairs_s : ∀ xs r, impl_putPairs_S xs = some (true, r) → runF tab FT D28 live 132 impl_putPairs_lo xs = some r := by
  intro xs r h
  unfold impl_putPairs_S at h
  split at h
  · simp only [Option.some.injEq, Prod.mk.injEq] at h
    obtain ⟨h1, rfl⟩ := h
    exact fun_told (impl_putPairs_e _) (impl_putPairs_l _) h1
  · cases h
noncomputable def D29 : Dt := also D28 132 impl_putPairs_S
theorem d29 : DOk Go.Proofs.Try.prog tab D29 := d28.also mixed_ok tab_ok names_ok (fnLoops_one (by kernel_rfl) impl_putPairs_is3) impl_putPairs_s
theorem impl_putPairs_h {A : List (List TC)} : impl_putPairs_v A = pairsL A A.length := hid_eq _
/-! strings_Repeat, by contract -/
noncomputable def strings_Repeat_c (s : List UInt8) (n : Int) : Bool := is (0 ≤ n ∧ n ≤ 9223372036854775807 ∧ s.length * n.toNat ≤ 140737488355328)
noncomputable def strings_Repeat_v (s : List UInt8) (n : Int) : List UInt8 := hid (Lib.repeatL s n.toNat)
def strings_Repeat_mk (p : List UInt8) : Res := [(false, [⟨.str, .sh, TC.s p⟩])]
noncomputable def strings_Repeat_S : List Arg → Option (Bool × Res) := fun xs => match xs with
  | [(false, [(.str, TC.s s)]), (false, [(.int .i64, TC.i n)])] => some ((strings_Repeat_c s n), strings_Repeat_mk (strings_Repeat_v s n))
  | _ => .none
noncomputable def D30 : Dt := also D29 141 strings_Repeat_S
theorem d30 : DOk Go.Proofs.Try.prog tab D30 := d29.alsoC names_ok (c := _) Go.Proofs.Try.func141 rfl (by
  intro xs r h w S hargs0 hS hargs
  unfold strings_Repeat_S at h
  split at h
  · rename_i s n
    simp only [Option.some.injEq, Prod.mk.injEq] at h
    obtain ⟨h1, rfl⟩ := h
    obtain ⟨h2, h3, h4⟩ := is_iff.1 h1
    obtain ⟨u, us, rfl, ha, hr⟩ := args_cons hargs
    obtain ⟨u2, us2, rfl, hb, hr⟩ := args_cons hr
    cases args_nil hr
    rw [rep_str' (arg_rep ha), rep_int' (arg_rep hb)]
    obtain ⟨m, rfl⟩ : ∃ m : Nat, n = (m : Int) := ⟨n.toNat, by omega⟩
    rw [Int.toNat_natCast] at h4
    refine Calls.mono (Any.strings_Repeat lays105 extra ⟨s.toArray⟩ m w (by omega) (by rw [bytes_size]; exact h4)) ?_
    rintro e w' ⟨rfl, hb⟩
    refine ⟨_, rfl, ?_⟩
    show PlainRes tab w S [(false, [⟨.str, .sh, .s (hid (Lib.repeatL s ((m : Int)).toNat))⟩])] _ w'
    rw [hid_eq, Int.toNat_natCast]
    exact plain_flat rfl (.str _) hb
  · cases h)
theorem strings_Repeat_h {s : List UInt8} {n : Int} : strings_Repeat_v s n = Lib.repeatL s n.toNat := hid_eq _
/-! impl_zeros -/
noncomputable def impl_zeros_t (n : Int) : Tr (List UInt8) := (.ite ((strings_Repeat_c [0] n) = true) (.ok (strings_Repeat_v [0] n))
  .no)
def impl_zeros_mk (p : List UInt8) : Res := [(false, [⟨.str, .sh, TC.s p⟩])]
noncomputable def impl_zeros_c (n : Int) : Bool := is (0 ≤ n ∧ n ≤ 65536)
noncomputable def impl_zeros_v (n : Int) : List UInt8 := hid (List.replicate n.toNat 0)
theorem impl_zeros_l (n : Int) : (impl_zeros_c n) = true → (impl_zeros_t n).val = some (impl_zeros_v n) := by
  intro h
  obtain ⟨h0, h1⟩ := is_iff.1 h
  unfold impl_zeros_t impl_zeros_v
  rw [hid_eq]
  refine Tr.t (is_true ⟨h0, by omega, by rw [List.length_singleton]; omega⟩) ?_
  rw [Tr.val_ok, strings_Repeat_h, repL_one]
noncomputable def impl_zeros_S : List Arg → Option (Bool × Res) := fun xs => match xs with
  | [(false, [(.int .i64, TC.i n)])] => some ((impl_zeros_c n), impl_zeros_mk (impl_zeros_v n))
  | _ => .none
theorem impl_zeros_e (n : Int) : runF tab FT D30 live 122 noLoops [(false, [(.int .i64, TC.i n)])] = (impl_zeros_t n).run fun p => some (impl_zeros_mk p) := by kernel_rfl
theorem impl_zeros_s : ∀ xs r, impl_zeros_S xs = some (true, r) → runF tab FT D30 live 122 noLoops xs = some r := by
  intro xs r h
  unfold impl_zeros_S at h
  split at h
  · simp only [Option.some.injEq, Prod.mk.injEq] at h
    obtain ⟨h1, rfl⟩ := h
    exact fun_told (impl_zeros_e _) (impl_zeros_l _) h1
  · cases h
noncomputable def D31 : Dt := also D30 122 impl_zeros_S
theorem d31 : DOk Go.Proofs.Try.prog tab D31 := d30.also mixed_ok tab_ok names_ok noLoops_ok impl_zeros_s
theorem impl_zeros_h {n : Int} : impl_zeros_v n = List.replicate n.toNat 0 := hid_eq _
/-! impl_padded -/
noncomputable def impl_padded_t (s : List UInt8) (n : Int) : Tr (List UInt8) := (.ite ((impl_zeros_c (IntKind.wrap .i64 (n - (s.length : Int)))) = true) (.ite (((s.length + (impl_zeros_v (IntKind.wrap .i64 (n - (s.length : Int)))).length : Nat) : Int) ≤ 9223372036854775807) (.ok (s ++ (impl_zeros_v (IntKind.wrap .i64 (n - (s.length : Int))))))
   .no)
  .no)
def impl_padded_mk (p : List UInt8) : Res := [(false, [⟨.str, .sh, TC.s p⟩])]
noncomputable def impl_padded_c (s : List UInt8) (n : Int) : Bool := is (∃ m : Nat, n = (m : Int) ∧ s.length ≤ m ∧ m ≤ 65536)
noncomputable def impl_padded_v (s : List UInt8) (n : Int) : List UInt8 := hid (padL s n.toNat)
theorem impl_padded_l (s : List UInt8) (n : Int) : (impl_padded_c s n) = true → (impl_padded_t s n).val = some (impl_padded_v s n) := by
  intro h
  obtain ⟨m, rfl, h0, h1⟩ := is_iff.1 h
  unfold impl_padded_t impl_padded_v
  have e : IntKind.wrap .i64 ((m : Int) - (s.length : Int)) = ((m - s.length : Nat) : Int) := by rw [wrap64 (by omega) (by omega)]; omega
  rw [hid_eq, e, impl_zeros_h, Int.toNat_natCast, Int.toNat_natCast]
  refine Tr.t (is_true ⟨by omega, by omega⟩) ?_
  refine Tr.t (by rw [List.length_replicate]; omega) ?_
  rfl
noncomputable def impl_padded_S : List Arg → Option (Bool × Res) := fun xs => match xs with
  | [(false, [(.str, TC.s s)]), (false, [(.int .i64, TC.i n)])] => some ((impl_padded_c s n), impl_padded_mk (impl_padded_v s n))
  | _ => .none
theorem impl_padded_e (s : List UInt8) (n : Int) : runF tab FT D31 live 110 noLoops [(false, [(.str, TC.s s)]), (false, [(.int .i64, TC.i n)])] = (impl_padded_t s n).run fun p => some (impl_padded_mk p) := by kernel_rfl
theorem impl_padded_s : ∀ xs r, impl_padded_S xs = some (true, r) → runF tab FT D31 live 110 noLoops xs = some r := by
  intro xs r h
  unfold impl_padded_S at h
  split at h
  · simp only [Option.some.injEq, Prod.mk.injEq] at h
    obtain ⟨h1, rfl⟩ := h
    exact fun_told (impl_padded_e _ _) (impl_padded_l _ _) h1
  · cases h
noncomputable def D32 : Dt := also D31 110 impl_padded_S
theorem d32 : DOk Go.Proofs.Try.prog tab D32 := d31.also mixed_ok tab_ok names_ok noLoops_ok impl_padded_s
theorem impl_padded_h {s : List UInt8} {n : Int} : impl_padded_v s n = padL s n.toNat := hid_eq _
/-! impl_Node_encode -/
theorem pp3 {a b c : Int} : impl_putPairs_v [[TC.i a], [TC.i b], [TC.i c]] = (bytesL a 2 ++ bytesL b 2) ++ bytesL c 2 := by
  rw [impl_putPairs_h]
  show (([] ++ bytesL (keyAt [[TC.i a], [TC.i b], [TC.i c]] 0) 2) ++ bytesL (keyAt [[TC.i a], [TC.i b], [TC.i c]] 1) 2) ++ bytesL (keyAt [[TC.i a], [TC.i b], [TC.i c]] 2) 2 = _
  rw [List.nil_append]
  rfl
abbrev impl_Node_encode_5_σ := Bool × List (List TC) × List (List TC) × List (List TC) × List UInt8 × List (List TC) × Int × Int
abbrev impl_Node_encode_5_ω := (List UInt8)
noncomputable def impl_Node_encode_5_step (L : Bool) (C : List (List TC)) (K : List (List TC)) (D : List (List TC)) (t : List UInt8) (A : List (List TC)) (m : Int) (i : Int) : Tr (impl_Node_encode_5_σ ⊕ impl_Node_encode_5_ω) := (.ite ((decide (i < m)) = true) (.ite ((0 : Int) ≤ i ∧ i < (A.length : Int)) (.ite ((impl_putPairs_c [[TC.i ((nth (row A i) 0).int)], [TC.i ((nth (row A i) 1).int)], [TC.i ((nth (row A i) 2).int)]]) = true) (.ite ((impl_putBytes_c ((nth (row A i) 3).int) (1 : Int)) = true) (.ite ((((impl_putPairs_v [[TC.i ((nth (row A i) 0).int)], [TC.i ((nth (row A i) 1).int)], [TC.i ((nth (row A i) 2).int)]]).length + (impl_putBytes_v ((nth (row A i) 3).int) (1 : Int)).length : Nat) : Int) ≤ 9223372036854775807) (.ite (((t.length + ((impl_putPairs_v [[TC.i ((nth (row A i) 0).int)], [TC.i ((nth (row A i) 1).int)], [TC.i ((nth (row A i) 2).int)]]) ++ (impl_putBytes_v ((nth (row A i) 3).int) (1 : Int))).length : Nat) : Int) ≤ 9223372036854775807) (.ok (.inl (L, C, K, D, (t ++ ((impl_putPairs_v [[TC.i ((nth (row A i) 0).int)], [TC.i ((nth (row A i) 1).int)], [TC.i ((nth (row A i) 2).int)]]) ++ (impl_putBytes_v ((nth (row A i) 3).int) (1 : Int)))), A, m, (IntKind.wrap .i64 (i + (1 : Int))))))
       .no)
      .no)
     .no)
    .no)
   .no)
  (.ok (.inr t)))
noncomputable def impl_Node_encode_5_st : impl_Node_encode_5_σ → Tr (impl_Node_encode_5_σ ⊕ impl_Node_encode_5_ω) := fun x => (impl_Node_encode_5_step (x.1) (x.2.1) (x.2.2.1) (x.2.2.2.1) (x.2.2.2.2.1) (x.2.2.2.2.2.1) (x.2.2.2.2.2.2.1) (x.2.2.2.2.2.2.2))
noncomputable def impl_Node_encode_o5_1 (L : Bool) (C : List (List TC)) (K : List (List TC)) (D : List (List TC)) (t : List UInt8) (A : List (List TC)) (m : Int) (i : Int) : Bool := is (A.length ≤ 8 ∧ t.length ≤ 100 ∧ m = (A.length : Int) ∧ i = 0)
noncomputable def impl_Node_encode_u5_1 (L : Bool) (C : List (List TC)) (K : List (List TC)) (D : List (List TC)) (t : List UInt8) (A : List (List TC)) (m : Int) (i : Int) : List UInt8 := t ++ chunksL A A.length
noncomputable def impl_Node_encode_5_fin (L : Bool) (C : List (List TC)) (K : List (List TC)) (D : List (List TC)) (t : List UInt8) (A : List (List TC)) (m : Int) (i : Int) : Told impl_Node_encode_5_ω := (.leaf (impl_Node_encode_o5_1 L C K D t A m i) (impl_Node_encode_u5_1 L C K D t A m i))
def impl_Node_encode_5_sl (x : impl_Node_encode_5_σ) : List Slot := [⟨.bx 79 [⟨.bool, .sh, TC.b (x.1)⟩, ⟨.slice 159, .sh, TC.l (x.2.1)⟩, ⟨.slice 2, .sh, TC.l (x.2.2.1)⟩, ⟨.slice 2, .sh, TC.l (x.2.2.2.1)⟩], ⟨0, 0⟩⟩, ⟨.val false [⟨.str, .sh, TC.s (x.2.2.2.2.1)⟩], ⟨0, 0⟩⟩, ⟨.val false [⟨.slice 159, .sh, TC.l (x.2.2.2.2.2.1)⟩], ⟨0, 0⟩⟩, ⟨.val false [⟨.int .i64, .sh, TC.i (x.2.2.2.2.2.2.1)⟩], ⟨0, 0⟩⟩, ⟨.val false [⟨.int .i64, .sh, TC.i (x.2.2.2.2.2.2.2)⟩], ⟨0, 0⟩⟩]
def impl_Node_encode_5_out : impl_Node_encode_5_ω → Ex × List Slot := (fun x => (.exit 0, [Slot.none, ⟨.val false [⟨.str, .sh, TC.s x⟩], ⟨0, 0⟩⟩]))
noncomputable def impl_Node_encode_lo5 : List Slot → Option (Told (Ex × List Slot)) := fun s => match s with
  | [⟨.bx 79 [⟨.bool, .sh, TC.b L⟩, ⟨.slice 159, .sh, TC.l C⟩, ⟨.slice 2, .sh, TC.l K⟩, ⟨.slice 2, .sh, TC.l D⟩], ⟨0, 0⟩⟩, ⟨.val false [⟨.str, .sh, TC.s t⟩], ⟨0, 0⟩⟩, ⟨.val false [⟨.slice 159, .sh, TC.l A⟩], ⟨0, 0⟩⟩, ⟨.val false [⟨.int .i64, .sh, TC.i m⟩], ⟨0, 0⟩⟩, ⟨.val false [⟨.int .i64, .sh, TC.i i⟩], ⟨0, 0⟩⟩] => some (((impl_Node_encode_5_fin L C K D t A m i)).map impl_Node_encode_5_out)
  | _ => .none
noncomputable def impl_Node_encode_lo : LoopTeller := fun r s => bif Nat.beq r 5 then impl_Node_encode_lo5 s else .none
theorem impl_Node_encode_5_r (L : Bool) (C : List (List TC)) (K : List (List TC)) (D : List (List TC)) (t : List UInt8) (A : List (List TC)) (m : Int) (i : Int) (fuel : Nat) : rounds (rnd tab FT D32 live 86 impl_Node_encode_lo 0 5) leave (fuel + 1) (impl_Node_encode_5_sl (L, C, K, D, t, A, m, i)) = ((impl_Node_encode_5_step L C K D t A m i)).run (goOn (fun s => rounds (rnd tab FT D32 live 86 impl_Node_encode_lo 0 5) leave fuel (impl_Node_encode_5_sl s)) fun w => some (impl_Node_encode_5_out w)) := by kernel_rfl
theorem impl_Node_encode_5_h (L : Bool) (C : List (List TC)) (K : List (List TC)) (D : List (List TC)) (t : List UInt8) (A : List (List TC)) (m : Int) (i : Int) (ow : impl_Node_encode_5_ω) : ((impl_Node_encode_5_fin L C K D t A m i)).val = some ow → ∃ fuel, loopN impl_Node_encode_5_st fuel (L, C, K, D, t, A, m, i) = some ow := by
  intro h
  refine auto_leaf (R := t ++ chunksL A A.length) (fun ho => ?_) h
  obtain ⟨h8, h100, rfl, rfl⟩ := is_iff.1 ho
  refine ⟨A.length + 1, Eq.trans (congrArg (loopN impl_Node_encode_5_st (A.length + 1)) (by simp [chunksL])) (loopN_run (step := impl_Node_encode_5_st) (N := A.length) (fun j => (L, C, K, D, t ++ chunksL A j, A, (A.length : Int), (j : Int))) (fun j hj => ?_) ?_ A.length 0 (by omega))⟩
  · have hq := chunksL_len (A := A) j
    show (impl_Node_encode_5_step L C K D (t ++ chunksL A j) A (A.length : Int) (j : Int)).val = _
    unfold impl_Node_encode_5_step
    rw [impl_putBytes_h, pp3]
    refine Tr.t (by simp; omega) (Tr.t ⟨by omega, by omega⟩ (Tr.t (is_true (by simp)) (Tr.t (is_true ⟨1, rfl, by omega⟩) (Tr.t (by simp only [List.length_append, bytesL_len]; omega) (Tr.t (by simp only [List.length_append, bytesL_len]; omega) ?_)))))
    rw [Tr.val_ok, wrap64 (i := (j : Int) + 1) (by omega) (by omega), List.append_assoc]; rfl
  · show (impl_Node_encode_5_step L C K D (t ++ chunksL A A.length) A (A.length : Int) (A.length : Int)).val = _
    unfold impl_Node_encode_5_step
    exact Tr.n (by simp) rfl
theorem impl_Node_encode_is5 : LoopIs tab FT D32 live 86 impl_Node_encode_lo 0 5 := by
  refine loop_told (sl := impl_Node_encode_5_sl) (step := impl_Node_encode_5_st) (out := impl_Node_encode_5_out) (lor := impl_Node_encode_lo5) (fin := fun x => (impl_Node_encode_5_fin (x.1) (x.2.1) (x.2.2.1) (x.2.2.2.1) (x.2.2.2.2.1) (x.2.2.2.2.2.1) (x.2.2.2.2.2.2.1) (x.2.2.2.2.2.2.2))) (fun _ => rfl) ?_ (fun x n => impl_Node_encode_5_r x.1 x.2.1 x.2.2.1 x.2.2.2.1 x.2.2.2.2.1 x.2.2.2.2.2.1 x.2.2.2.2.2.2.1 x.2.2.2.2.2.2.2 n) (fun x ow => impl_Node_encode_5_h x.1 x.2.1 x.2.2.1 x.2.2.2.1 x.2.2.2.2.1 x.2.2.2.2.2.1 x.2.2.2.2.2.2.1 x.2.2.2.2.2.2.2 ow)
  intro s t h
  unfold impl_Node_encode_lo5 at h
  split at h
  · cases h; exact ⟨(_, _, _, _, _, _, _, _), rfl, rfl⟩
  · cases h
noncomputable def impl_Node_encode_t (L : Bool) (C : List (List TC)) (K : List (List TC)) (D : List (List TC)) : Tr (List UInt8) := (.ite ((!L) = true) (.ite ((impl_putBytes_c (2 : Int) (1 : Int)) = true) (.ite ((impl_putBytes_c (K.length : Int) (1 : Int)) = true) (.ite ((((impl_putBytes_v (2 : Int) (1 : Int)).length + (impl_putBytes_v (K.length : Int) (1 : Int)).length : Nat) : Int) ≤ 9223372036854775807) (.ite ((impl_putPairs_c D) = true) (.ite (((((impl_putBytes_v (2 : Int) (1 : Int)) ++ (impl_putBytes_v (K.length : Int) (1 : Int))).length + (impl_putPairs_v D).length : Nat) : Int) ≤ 9223372036854775807) (.ite ((impl_putPairs_c K) = true) (.ite ((((((impl_putBytes_v (2 : Int) (1 : Int)) ++ (impl_putBytes_v (K.length : Int) (1 : Int))) ++ (impl_putPairs_v D)).length + (impl_putPairs_v K).length : Nat) : Int) ≤ 9223372036854775807) (.ite ((impl_padded_c ((((impl_putBytes_v (2 : Int) (1 : Int)) ++ (impl_putBytes_v (K.length : Int) (1 : Int))) ++ (impl_putPairs_v D)) ++ (impl_putPairs_v K)) (64 : Int)) = true) (.ok (impl_padded_v ((((impl_putBytes_v (2 : Int) (1 : Int)) ++ (impl_putBytes_v (K.length : Int) (1 : Int))) ++ (impl_putPairs_v D)) ++ (impl_putPairs_v K)) (64 : Int)))
          .no)
         .no)
        .no)
       .no)
      .no)
     .no)
    .no)
   .no)
  (.ite ((impl_putBytes_c (1 : Int) (1 : Int)) = true) (.ite ((impl_putBytes_c (C.length : Int) (1 : Int)) = true) (.ite ((((impl_putBytes_v (1 : Int) (1 : Int)).length + (impl_putBytes_v (C.length : Int) (1 : Int)).length : Nat) : Int) ≤ 9223372036854775807) (.ite ((impl_Node_encode_o5_1 L C K D ((impl_putBytes_v (1 : Int) (1 : Int)) ++ (impl_putBytes_v (C.length : Int) (1 : Int))) C (C.length : Int) (0 : Int)) = true) (.ite ((impl_padded_c (impl_Node_encode_u5_1 L C K D ((impl_putBytes_v (1 : Int) (1 : Int)) ++ (impl_putBytes_v (C.length : Int) (1 : Int))) C (C.length : Int) (0 : Int)) (64 : Int)) = true) (.ok (impl_padded_v (impl_Node_encode_u5_1 L C K D ((impl_putBytes_v (1 : Int) (1 : Int)) ++ (impl_putBytes_v (C.length : Int) (1 : Int))) C (C.length : Int) (0 : Int)) (64 : Int)))
       .no)
      .no)
     .no)
    .no)
   .no))
end Go.Proofs.Ythhdkojpkjkanaa.V
