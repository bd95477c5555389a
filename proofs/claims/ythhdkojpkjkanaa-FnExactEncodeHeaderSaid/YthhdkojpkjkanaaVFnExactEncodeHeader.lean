/- What the functions of FnExactEncodeHeader answer. No condition. -/
import Derived.Test.YthhdkojpkjkanaaVFacts
namespace Go.Proofs.Ythhdkojpkjkanaa.V
open Go
set_option maxRecDepth 100000
set_option linter.unusedVariables false
set_option linter.unusedSectionVars false
set_option linter.unusedSimpArgs false
set_option maxHeartbeats 2000000
theorem byteOf_byte (b : UInt8) : byteOf [TC.i b.toNat] = b := by
  unfold byteOf
  simp [nth, TC.int]
theorem bytesRow_of (l : List UInt8) : (bytesRow l).map byteOf = l := by
  unfold bytesRow
  rw [List.map_map]
  exact (List.map_congr_left fun b _ => byteOf_byte b).trans (List.map_id l)
theorem repL_one (b : UInt8) : ∀ n, Lib.repeatL [b] n = List.replicate n b
  | 0 => rfl
  | n + 1 => by rw [Lib.repeatL, repL_one b n]; rfl
def padL (s : List UInt8) (n : Nat) : List UInt8 := s ++ List.replicate (n - s.length) 0
theorem padL_len {s : List UInt8} {n : Nat} (h : s.length ≤ n) : (padL s n).length = n := by
  unfold padL
  rw [List.length_append, List.length_replicate]
  omega
theorem zeros_of {k : Nat} : (List.replicate k [TC.i (0 : Int)]).map byteOf = List.replicate k 0 := by
  rw [List.map_replicate]
  rfl
def inI (a b c : Int) : Bool := bif decide (a ≥ b) then decide (a ≤ c) else false
def msgOk (x : List TC) : Bool := inI (nth x 0).int 1 9 && inI (nth x 1).int 0 255 && !decide (((nth x 2).str.length : Int) > 200)
def hdrOk (k r : Int) (A : List (List TC)) : Bool := inI k 1 3 && inI r 0 1000 && !decide ((A.length : Int) > 24) && A.all msgOk
def msgB (x : List TC) : List UInt8 := bytesL (nth x 0).int 1 ++ bytesL (nth x 1).int 1 ++ bytesL ((nth x 2).str.length : Int) 1 ++ (nth x 2).str
def hdrL (A : List (List TC)) : Nat → List UInt8
  | 0 => []
  | j + 1 => hdrL A j ++ msgB (row A (j : Int))
theorem msgB_len {x : List TC} (h : msgOk x = true) : (msgB x).length ≤ 203 := by
  unfold msgOk at h
  rw [Bool.and_eq_true] at h
  have h2 : ¬ ((nth x 2).str.length : Int) > 200 := by simpa using h.2
  unfold msgB
  simp only [List.length_append, bytesL_len]
  omega
theorem hdrL_len {A : List (List TC)} (h : A.all msgOk = true) : ∀ j, j ≤ A.length → (hdrL A j).length ≤ 203 * j
  | 0, _ => by simp [hdrL]
  | j + 1, hj => by
    have ih := hdrL_len h j (by omega)
    have := msgB_len (x := row A (j : Int)) (List.all_eq_true.1 h _ (mem_getD (by omega)))
    unfold hdrL
    rw [List.length_append]
    omega
noncomputable def hdrV (k r : Int) (A : List (List TC)) : List UInt8 := (bytesL k 1 ++ bytesL r 2 ++ bytesL (A.length : Int) 1) ++ hdrL A A.length
theorem hdrOk_i {k r : Int} {A : List (List TC)} (h : hdrOk k r A = true) : A.length ≤ 24 ∧ A.all msgOk = true := by
  unfold hdrOk at h
  rw [Bool.and_eq_true, Bool.and_eq_true] at h
  have : ¬ (A.length : Int) > 24 := by simpa using h.1.2
  exact ⟨by omega, h.2⟩
theorem byte1 (n : Int) : [[TC.i (IntKind.wrap .u8 n)]].map byteOf = bytesL n 1 := by
  show _ = [byteOf (bAt n 0)]
  unfold bAt
  rw [show Int.fdiv n (2 ^ (8 * 0)) = n from by simp]
  rfl
def putB (n : Int) (sz : Nat) (bg : Bool) : List UInt8 := bif bg then (bytesL n sz).reverse else bytesL n sz
theorem bytesL_succ {n : Int} {j : Nat} : bytesL n (j + 1) = bytesL n j ++ [byteOf (bAt n j)] := by
  unfold bytesL
  rw [← bRows_succ, List.map_append]; rfl
theorem putB_len {n : Int} {sz : Nat} {bg : Bool} : (putB n sz bg).length = sz := by
  unfold putB
  cases bg
  · exact bytesL_len
  · rw [show (bif true then (bytesL n sz).reverse else bytesL n sz) = (bytesL n sz).reverse from rfl, List.length_reverse, bytesL_len]
/-! laws_szMessage -/
noncomputable def laws_szMessage_t (a0 : Int) (a1 : Int) (a2 : List UInt8) (a3 : Int) : Tr (Int) := (.ite ((decide ((IntKind.wrap .i64 (a3 - (a2.length : Int))) < (0 : Int))) = true) (.ok (-1 : Int))
  (.ok (IntKind.wrap .i64 (a3 - (a2.length : Int)))))
def laws_szMessage_mk (p : Int) : Res := [(false, [⟨.int .i64, .sh, TC.i p⟩])]
noncomputable def laws_szMessage_c (a0 : Int) (a1 : Int) (a2 : List UInt8) (a3 : Int) : Bool := true
noncomputable def laws_szMessage_v (a0 : Int) (a1 : Int) (a2 : List UInt8) (a3 : Int) : Int := (bif (decide ((IntKind.wrap .i64 (a3 - (a2.length : Int))) < (0 : Int))) then (-1 : Int) else (IntKind.wrap .i64 (a3 - (a2.length : Int))))
theorem laws_szMessage_l (a0 : Int) (a1 : Int) (a2 : List UInt8) (a3 : Int) : (laws_szMessage_c a0 a1 a2 a3) = true → (laws_szMessage_t a0 a1 a2 a3).val = some (laws_szMessage_v a0 a1 a2 a3) := by
  intro h
  skip
  unfold laws_szMessage_t laws_szMessage_v
  exact (Tr.s rfl rfl)
noncomputable def laws_szMessage_S : List Arg → Option (Bool × Res) := fun xs => match xs with
  | [(true, [(.int .i64, TC.i a0), (.int .i64, TC.i a1), (.str, TC.s a2)]), (false, [(.int .i64, TC.i a3)])] => some (true, laws_szMessage_mk (laws_szMessage_v a0 a1 a2 a3))
  | _ => .none
theorem laws_szMessage_e (a0 : Int) (a1 : Int) (a2 : List UInt8) (a3 : Int) : runF tab FT D0 live 89 noLoops [(true, [(.int .i64, TC.i a0), (.int .i64, TC.i a1), (.str, TC.s a2)]), (false, [(.int .i64, TC.i a3)])] = (laws_szMessage_t a0 a1 a2 a3).run fun p => some (laws_szMessage_mk p) := by kernel_rfl
theorem laws_szMessage_s : ∀ xs r, laws_szMessage_S xs = some (true, r) → runF tab FT D0 live 89 noLoops xs = some r := by
  intro xs r h
  unfold laws_szMessage_S at h
  split at h
  · simp only [Option.some.injEq, Prod.mk.injEq] at h
    obtain ⟨h1, rfl⟩ := h
    exact fun_told (laws_szMessage_e _ _ _ _) (laws_szMessage_l _ _ _ _) rfl
  · cases h
noncomputable def D1 : Dt := also D0 89 laws_szMessage_S
theorem d1 : DOk Go.Proofs.Try.prog tab D1 := d0.also mixed_ok tab_ok names_ok noLoops_ok laws_szMessage_s
/-! laws_szMessageS -/
abbrev laws_szMessageS_5_σ := List (List TC) × Int × Int
abbrev laws_szMessageS_5_ω := (Int) ⊕ (Int)
noncomputable def laws_szMessageS_5_step (A : List (List TC)) (left : Int) (i : Int) : Tr (laws_szMessageS_5_σ ⊕ laws_szMessageS_5_ω) := (.ite ((decide (i < (A.length : Int))) = true) (.ite ((0 : Int) ≤ i ∧ i < (A.length : Int)) (.ite ((decide ((laws_szMessage_v ((nth (row A i) 0).int) ((nth (row A i) 1).int) ((nth (row A i) 2).str) left) < (0 : Int))) = true) (.ok (.inr (.inl (laws_szMessage_v ((nth (row A i) 0).int) ((nth (row A i) 1).int) ((nth (row A i) 2).str) left))))
    (.ok (.inl (A, (laws_szMessage_v ((nth (row A i) 0).int) ((nth (row A i) 1).int) ((nth (row A i) 2).str) left), (IntKind.wrap .i64 (i + (1 : Int)))))))
   .no)
  (.ok (.inr (.inr left))))
noncomputable def laws_szMessageS_5_st : laws_szMessageS_5_σ → Tr (laws_szMessageS_5_σ ⊕ laws_szMessageS_5_ω) := fun x => (laws_szMessageS_5_step (x.1) (x.2.1) (x.2.2))
noncomputable def laws_szMessageS_k5_1 (A : List (List TC)) (left : Int) (i : Int) : Bool := isL (loopN laws_szMessageS_5_st (A.length + 1) (A, left, i))
noncomputable def laws_szMessageS_o5_2 (A : List (List TC)) (left : Int) (i : Int) : Bool := is (i = 0 ∧ Typed tab (.slice 122) (.l A))
noncomputable def laws_szMessageS_u5_2 (A : List (List TC)) (left : Int) (i : Int) : Int := getL (loopN laws_szMessageS_5_st (A.length + 1) (A, left, i))
noncomputable def laws_szMessageS_o5_3 (A : List (List TC)) (left : Int) (i : Int) : Bool := is (i = 0 ∧ Typed tab (.slice 122) (.l A))
noncomputable def laws_szMessageS_u5_3 (A : List (List TC)) (left : Int) (i : Int) : Int := getR (loopN laws_szMessageS_5_st (A.length + 1) (A, left, i))
noncomputable def laws_szMessageS_5_fin (A : List (List TC)) (left : Int) (i : Int) : Told laws_szMessageS_5_ω := (.br (laws_szMessageS_k5_1 A left i) (.leaf (laws_szMessageS_o5_2 A left i) (.inl (laws_szMessageS_u5_2 A left i))) (.leaf (laws_szMessageS_o5_3 A left i) (.inr (laws_szMessageS_u5_3 A left i))))
def laws_szMessageS_5_sl (x : laws_szMessageS_5_σ) : List Slot := [⟨.val false [⟨.slice 122, .sh, TC.l (x.1)⟩], ⟨0, 0⟩⟩, ⟨.val false [⟨.int .i64, .sh, TC.i (x.2.1)⟩], ⟨0, 0⟩⟩, ⟨.val false [⟨.int .i64, .sh, TC.i (x.2.2)⟩], ⟨0, 0⟩⟩]
def laws_szMessageS_5_out : laws_szMessageS_5_ω → Ex × List Slot := (Sum.elim (fun x => (.ret, [⟨.val false [⟨.int .i64, .sh, TC.i x⟩], ⟨0, 0⟩⟩, ⟨.val false [⟨.int .i64, .sh, TC.i (-1 : Int)⟩], ⟨0, 0⟩⟩])) (fun x => (.exit 0, [⟨.val false [⟨.int .i64, .sh, TC.i x⟩], ⟨0, 0⟩⟩, Slot.none])))
noncomputable def laws_szMessageS_lo5 : List Slot → Option (Told (Ex × List Slot)) := fun s => match s with
  | [⟨.val false [⟨.slice 122, .sh, TC.l A⟩], ⟨0, 0⟩⟩, ⟨.val false [⟨.int .i64, .sh, TC.i left⟩], ⟨0, 0⟩⟩, ⟨.val false [⟨.int .i64, .sh, TC.i i⟩], ⟨0, 0⟩⟩] => some (((laws_szMessageS_5_fin A left i)).map laws_szMessageS_5_out)
  | _ => .none
noncomputable def laws_szMessageS_lo : LoopTeller := fun r s => bif Nat.beq r 5 then laws_szMessageS_lo5 s else .none
theorem laws_szMessageS_5_r (A : List (List TC)) (left : Int) (i : Int) (fuel : Nat) : rounds (rnd tab FT D1 live 41 laws_szMessageS_lo 0 5) leave (fuel + 1) (laws_szMessageS_5_sl (A, left, i)) = ((laws_szMessageS_5_step A left i)).run (goOn (fun s => rounds (rnd tab FT D1 live 41 laws_szMessageS_lo 0 5) leave fuel (laws_szMessageS_5_sl s)) fun w => some (laws_szMessageS_5_out w)) := by kernel_rfl
theorem laws_szMessageS_5_h (A : List (List TC)) (left : Int) (i : Int) (ow : laws_szMessageS_5_ω) : ((laws_szMessageS_5_fin A left i)).val = some ow → ∃ fuel, loopN laws_szMessageS_5_st fuel (A, left, i) = some ow := by
  refine auto_two (N := A.length + 1) rfl rfl rfl ?_
  intro ho
  have ho : is (i = 0 ∧ Typed tab (.slice 122) (.l A)) = true := ho.elim id id
  obtain ⟨rfl, ht⟩ := is_iff.1 ho
  have hlen : A.length ≤ 140737488351232 := by have := typed_room ht; simp only [show (tab 122).bytes = 32 from rfl] at this; omega
  refine loopN_ends (step := laws_szMessageS_5_st) (N := A.length) (fun i a => (A, a, (i : Int))) (fun i a hi => ?_) (fun a => ?_) A.length 0 left (by omega)
  · show (∃ a', (laws_szMessageS_5_step A a (i : Int)).val = _) ∨ ∃ w, (laws_szMessageS_5_step A a (i : Int)).val = _
    have c2 : Typed tab (.str) (.s (nth (A.getD i []) 2).str) := typed_s (typed_cell ht (A.getD i []) (mem_getD hi) 2 (by decide))
    cases hneg : ((decide ((laws_szMessage_v ((nth (row A i) 0).int) ((nth (row A i) 1).int) ((nth (row A i) 2).str) a) < (0 : Int))))
    · apply Or.inl
      apply Exists.intro
      · unfold laws_szMessageS_5_step
        refine Tr.t (by simp; omega) ?_
        refine Tr.t (by first | omega | (constructor <;> omega)) ?_
        refine Tr.n (by rw [hneg]; simp) ?_
        rw [Tr.val_ok, wrap64 (i := (i : Int) + 1) (by omega) (by omega)]; rfl
    · apply Or.inr
      apply Exists.intro
      · unfold laws_szMessageS_5_step
        refine Tr.t (by simp; omega) ?_
        refine Tr.t (by first | omega | (constructor <;> omega)) ?_
        refine Tr.t hneg ?_
        rfl
  · apply Exists.intro
    · show (laws_szMessageS_5_step A a (A.length : Int)).val = _
      refine Tr.n (by simp) ?_
      rfl
theorem laws_szMessageS_is5 : LoopIs tab FT D1 live 41 laws_szMessageS_lo 0 5 := by
  refine loop_told (sl := laws_szMessageS_5_sl) (step := laws_szMessageS_5_st) (out := laws_szMessageS_5_out) (lor := laws_szMessageS_lo5) (fin := fun x => (laws_szMessageS_5_fin (x.1) (x.2.1) (x.2.2))) (fun _ => rfl) ?_ (fun x n => laws_szMessageS_5_r x.1 x.2.1 x.2.2 n) (fun x ow => laws_szMessageS_5_h x.1 x.2.1 x.2.2 ow)
  intro s t h
  unfold laws_szMessageS_lo5 at h
  split at h
  · cases h; exact ⟨(_, _, _), rfl, rfl⟩
  · cases h
noncomputable def laws_szMessageS_t (A : List (List TC)) (left : Int) : Tr (Int) := (.ite ((decide ((IntKind.wrap .i64 (left - (A.length : Int))) < (0 : Int))) = true) (.ok (-1 : Int))
  (.ite ((laws_szMessageS_k5_1 A (IntKind.wrap .i64 (left - (A.length : Int))) (0 : Int)) = true) (.ite ((laws_szMessageS_o5_2 A (IntKind.wrap .i64 (left - (A.length : Int))) (0 : Int)) = true) (.ok (-1 : Int))
    .no)
   (.ite ((laws_szMessageS_o5_3 A (IntKind.wrap .i64 (left - (A.length : Int))) (0 : Int)) = true) (.ok (laws_szMessageS_u5_3 A (IntKind.wrap .i64 (left - (A.length : Int))) (0 : Int)))
    .no)))
def laws_szMessageS_mk (p : Int) : Res := [(false, [⟨.int .i64, .sh, TC.i p⟩])]
noncomputable def laws_szMessageS_c (A : List (List TC)) (left : Int) : Bool := is (((laws_szMessageS_o5_2 A (IntKind.wrap .i64 (left - (A.length : Int))) (0 : Int)) = true) ∧ ((laws_szMessageS_o5_3 A (IntKind.wrap .i64 (left - (A.length : Int))) (0 : Int)) = true))
noncomputable def laws_szMessageS_v (A : List (List TC)) (left : Int) : Int := (bif (decide ((IntKind.wrap .i64 (left - (A.length : Int))) < (0 : Int))) then (-1 : Int) else (bif (laws_szMessageS_k5_1 A (IntKind.wrap .i64 (left - (A.length : Int))) (0 : Int)) then (-1 : Int) else (laws_szMessageS_u5_3 A (IntKind.wrap .i64 (left - (A.length : Int))) (0 : Int))))
theorem laws_szMessageS_l (A : List (List TC)) (left : Int) : (laws_szMessageS_c A left) = true → (laws_szMessageS_t A left).val = some (laws_szMessageS_v A left) := by
  intro h
  obtain ⟨g0, g1⟩ := is_iff.1 h
  unfold laws_szMessageS_t laws_szMessageS_v
  exact (Tr.s rfl (Tr.s (Tr.t g0 rfl) (Tr.t g1 rfl)))
noncomputable def laws_szMessageS_S : List Arg → Option (Bool × Res) := fun xs => match xs with
  | [(false, [(.slice 122, TC.l A)]), (false, [(.int .i64, TC.i left)])] => some ((laws_szMessageS_c A left), laws_szMessageS_mk (laws_szMessageS_v A left))
  | _ => .none
theorem laws_szMessageS_e (A : List (List TC)) (left : Int) : runF tab FT D1 live 41 laws_szMessageS_lo [(false, [(.slice 122, TC.l A)]), (false, [(.int .i64, TC.i left)])] = (laws_szMessageS_t A left).run fun p => some (laws_szMessageS_mk p) := by kernel_rfl
theorem laws_szMessageS_s : ∀ xs r, laws_szMessageS_S xs = some (true, r) → runF tab FT D1 live 41 laws_szMessageS_lo xs = some r := by
  intro xs r h
  unfold laws_szMessageS_S at h
  split at h
  · simp only [Option.some.injEq, Prod.mk.injEq] at h
    obtain ⟨h1, rfl⟩ := h
    exact fun_told (laws_szMessageS_e _ _) (laws_szMessageS_l _ _) h1
  · cases h
noncomputable def D2 : Dt := also D1 41 laws_szMessageS_S
theorem d2 : DOk Go.Proofs.Try.prog tab D2 := d1.also mixed_ok tab_ok names_ok (fnLoops_one (by kernel_rfl) laws_szMessageS_is5) laws_szMessageS_s
/-! laws_szHeader -/
noncomputable def laws_szHeader_t (a0 : Int) (a1 : Int) (a2 : List (List TC)) (a3 : Int) : Tr (Int) := (.ite ((laws_szMessageS_c a2 a3) = true) (.ite ((decide ((laws_szMessageS_v a2 a3) < (0 : Int))) = true) (.ok (-1 : Int))
   (.ok (laws_szMessageS_v a2 a3)))
  .no)
def laws_szHeader_mk (p : Int) : Res := [(false, [⟨.int .i64, .sh, TC.i p⟩])]
noncomputable def laws_szHeader_c (a0 : Int) (a1 : Int) (a2 : List (List TC)) (a3 : Int) : Bool := (laws_szMessageS_c a2 a3)
noncomputable def laws_szHeader_v (a0 : Int) (a1 : Int) (a2 : List (List TC)) (a3 : Int) : Int := (bif (decide ((laws_szMessageS_v a2 a3) < (0 : Int))) then (-1 : Int) else (laws_szMessageS_v a2 a3))
theorem laws_szHeader_l (a0 : Int) (a1 : Int) (a2 : List (List TC)) (a3 : Int) : (laws_szHeader_c a0 a1 a2 a3) = true → (laws_szHeader_t a0 a1 a2 a3).val = some (laws_szHeader_v a0 a1 a2 a3) := by
  intro h
  have g0 : (laws_szMessageS_c a2 a3) = true := h
  unfold laws_szHeader_t laws_szHeader_v
  exact (Tr.t g0 (Tr.s rfl rfl))
noncomputable def laws_szHeader_S : List Arg → Option (Bool × Res) := fun xs => match xs with
  | [(true, [(.int .i64, TC.i a0), (.int .i64, TC.i a1), (.slice 122, TC.l a2)]), (false, [(.int .i64, TC.i a3)])] => some ((laws_szHeader_c a0 a1 a2 a3), laws_szHeader_mk (laws_szHeader_v a0 a1 a2 a3))
  | _ => .none
theorem laws_szHeader_e (a0 : Int) (a1 : Int) (a2 : List (List TC)) (a3 : Int) : runF tab FT D2 live 9 noLoops [(true, [(.int .i64, TC.i a0), (.int .i64, TC.i a1), (.slice 122, TC.l a2)]), (false, [(.int .i64, TC.i a3)])] = (laws_szHeader_t a0 a1 a2 a3).run fun p => some (laws_szHeader_mk p) := by kernel_rfl
theorem laws_szHeader_s : ∀ xs r, laws_szHeader_S xs = some (true, r) → runF tab FT D2 live 9 noLoops xs = some r := by
  intro xs r h
  unfold laws_szHeader_S at h
  split at h
  · simp only [Option.some.injEq, Prod.mk.injEq] at h
    obtain ⟨h1, rfl⟩ := h
    exact fun_told (laws_szHeader_e _ _ _ _) (laws_szHeader_l _ _ _ _) h1
  · cases h
noncomputable def D3 : Dt := also D2 9 laws_szHeader_S
theorem d3 : DOk Go.Proofs.Try.prog tab D3 := d2.also mixed_ok tab_ok names_ok noLoops_ok laws_szHeader_s
/-! laws_toMessage -/
noncomputable def laws_toMessage_t (a0 : Int) (a1 : Int) (a2 : List UInt8) : Tr (Int × Int × List UInt8) := .ok (a0, a1, a2)
def laws_toMessage_mk (p : Int × Int × List UInt8) : Res := [(true, [⟨.int .i64, .sh, TC.i (p.1)⟩, ⟨.int .i64, .sh, TC.i (p.2.1)⟩, ⟨.str, .sh, TC.s (p.2.2)⟩])]
noncomputable def laws_toMessage_c (a0 : Int) (a1 : Int) (a2 : List UInt8) : Bool := true
noncomputable def laws_toMessage_v (a0 : Int) (a1 : Int) (a2 : List UInt8) : Int × Int × List UInt8 := (a0, a1, a2)
theorem laws_toMessage_l (a0 : Int) (a1 : Int) (a2 : List UInt8) : (laws_toMessage_c a0 a1 a2) = true → (laws_toMessage_t a0 a1 a2).val = some (laws_toMessage_v a0 a1 a2) := by
  intro h
  skip
  unfold laws_toMessage_t laws_toMessage_v
  exact rfl
noncomputable def laws_toMessage_S : List Arg → Option (Bool × Res) := fun xs => match xs with
  | [(true, [(.int .i64, TC.i a0), (.int .i64, TC.i a1), (.str, TC.s a2)])] => some (true, laws_toMessage_mk (laws_toMessage_v a0 a1 a2))
  | _ => .none
theorem laws_toMessage_e (a0 : Int) (a1 : Int) (a2 : List UInt8) : runF tab FT D3 live 93 noLoops [(true, [(.int .i64, TC.i a0), (.int .i64, TC.i a1), (.str, TC.s a2)])] = (laws_toMessage_t a0 a1 a2).run fun p => some (laws_toMessage_mk p) := by kernel_rfl
theorem laws_toMessage_s : ∀ xs r, laws_toMessage_S xs = some (true, r) → runF tab FT D3 live 93 noLoops xs = some r := by
  intro xs r h
  unfold laws_toMessage_S at h
  split at h
  · simp only [Option.some.injEq, Prod.mk.injEq] at h
    obtain ⟨h1, rfl⟩ := h
    exact fun_told (laws_toMessage_e _ _ _) (laws_toMessage_l _ _ _) rfl
  · cases h
noncomputable def D4 : Dt := also D3 93 laws_toMessage_S
theorem d4 : DOk Go.Proofs.Try.prog tab D4 := d3.also mixed_ok tab_ok names_ok noLoops_ok laws_toMessage_s
/-! laws_toMessageS -/
def laws_toMessageS_g (x : List TC) : List TC := [TC.i ((nth x 0).int), TC.i ((nth x 1).int), TC.s ((nth x 2).str)]
def laws_toMessageS_z : List TC := [TC.i (0 : Int), TC.i (0 : Int), TC.s []]
abbrev laws_toMessageS_3_σ := List (List TC) × List (List TC) × Int
abbrev laws_toMessageS_3_ω := (List (List TC))
noncomputable def laws_toMessageS_3_step (A : List (List TC)) (X : List (List TC)) (i : Int) : Tr (laws_toMessageS_3_σ ⊕ laws_toMessageS_3_ω) := (.ite ((decide (i < (A.length : Int))) = true) (.ite ((0 : Int) ≤ i ∧ i < (A.length : Int)) (.ite ((0 : Int) ≤ i ∧ i < (X.length : Int)) (.ok (.inl (A, (X.set (i).toNat (splice (row X i) 0 [TC.i ((nth (row A i) 0).int), TC.i ((nth (row A i) 1).int), TC.s ((nth (row A i) 2).str)])), (IntKind.wrap .i64 (i + (1 : Int))))))
    .no)
   .no)
  (.ok (.inr X)))
noncomputable def laws_toMessageS_3_st : laws_toMessageS_3_σ → Tr (laws_toMessageS_3_σ ⊕ laws_toMessageS_3_ω) := fun x => (laws_toMessageS_3_step (x.1) (x.2.1) (x.2.2))
noncomputable def laws_toMessageS_o3_1 (A : List (List TC)) (X : List (List TC)) (i : Int) : Bool := is (Typed tab (.slice 122) (.l A) ∧ X = List.replicate A.length laws_toMessageS_z ∧ i = 0)
noncomputable def laws_toMessageS_u3_1 (A : List (List TC)) (X : List (List TC)) (i : Int) : List (List TC) := A.map laws_toMessageS_g
noncomputable def laws_toMessageS_3_fin (A : List (List TC)) (X : List (List TC)) (i : Int) : Told laws_toMessageS_3_ω := (.leaf (laws_toMessageS_o3_1 A X i) (laws_toMessageS_u3_1 A X i))
def laws_toMessageS_3_sl (x : laws_toMessageS_3_σ) : List Slot := [⟨.val false [⟨.slice 122, .sh, TC.l (x.1)⟩], ⟨0, 0⟩⟩, ⟨.val false [⟨.slice 124, .own true, TC.l (x.2.1)⟩], ⟨0, 0⟩⟩, ⟨.val false [⟨.int .i64, .sh, TC.i (x.2.2)⟩], ⟨0, 0⟩⟩]
def laws_toMessageS_3_out : laws_toMessageS_3_ω → Ex × List Slot := (fun x => (.exit 0, [Slot.none, ⟨.val false [⟨.slice 124, .own true, TC.l x⟩], ⟨0, 0⟩⟩]))
noncomputable def laws_toMessageS_lo3 : List Slot → Option (Told (Ex × List Slot)) := fun s => match s with
  | [⟨.val false [⟨.slice 122, .sh, TC.l A⟩], ⟨0, 0⟩⟩, ⟨.val false [⟨.slice 124, .own true, TC.l X⟩], ⟨0, 0⟩⟩, ⟨.val false [⟨.int .i64, .sh, TC.i i⟩], ⟨0, 0⟩⟩] => some (((laws_toMessageS_3_fin A X i)).map laws_toMessageS_3_out)
  | _ => .none
noncomputable def laws_toMessageS_lo : LoopTeller := fun r s => bif Nat.beq r 3 then laws_toMessageS_lo3 s else .none
theorem laws_toMessageS_3_r (A : List (List TC)) (X : List (List TC)) (i : Int) (fuel : Nat) : rounds (rnd tab FT D4 live 44 laws_toMessageS_lo 0 3) leave (fuel + 1) (laws_toMessageS_3_sl (A, X, i)) = ((laws_toMessageS_3_step A X i)).run (goOn (fun s => rounds (rnd tab FT D4 live 44 laws_toMessageS_lo 0 3) leave fuel (laws_toMessageS_3_sl s)) fun w => some (laws_toMessageS_3_out w)) := by kernel_rfl
theorem laws_toMessageS_3_h (A : List (List TC)) (X : List (List TC)) (i : Int) (ow : laws_toMessageS_3_ω) : ((laws_toMessageS_3_fin A X i)).val = some ow → ∃ fuel, loopN laws_toMessageS_3_st fuel (A, X, i) = some ow := by
  intro h
  simp only [laws_toMessageS_3_fin, Told.val] at h
  split at h
  · rename_i ho
    obtain ⟨ht, rfl, rfl⟩ := is_iff.1 ho
    cases h
    have hlen : A.length ≤ 140737488351232 := by have := typed_room ht; simp only [show (tab 122).bytes = 32 from rfl] at this; omega
    have key := loopN_copy (step := laws_toMessageS_3_st) A (List.replicate A.length laws_toMessageS_z) laws_toMessageS_g (fun Y i => (A, Y, (i : Int))) (A.map laws_toMessageS_g) (by simp) (fun x hx i _ => by rw [(List.mem_replicate.1 hx).2]; exact Nat.le_refl 3) (fun Y i hi hl => ?_) ?_ A.length 0 (by omega)
    · rw [copied_zero] at key
      exact ⟨_, key⟩
    · have c2 : Typed tab (.str) (.s (nth (A.getD i []) 2).str) := typed_s (typed_cell ht (A.getD i []) (mem_getD hi) 2 (by decide))
      show (laws_toMessageS_3_step A Y (i : Int)).val = _
      unfold laws_toMessageS_3_step
      refine Tr.t (by simp; omega) ?_
      refine Tr.t (by constructor <;> omega) ?_
      refine Tr.t (by constructor <;> omega) ?_
      repeat (refine Tr.t (by first | (apply is_true; and_intros <;> (first | rfl | assumption | (first | (apply is_true; and_intros <;> (first | rfl | assumption | (first | (apply is_true; and_intros <;> (first | rfl | assumption | (first | (apply is_true; and_intros <;> (first | rfl | assumption)))))))))))) ?_)
      rw [Tr.val_ok, wrap64 (i := (i : Int) + 1) (by omega) (by omega)]; rfl
    · show (laws_toMessageS_3_step A (A.map laws_toMessageS_g) (A.length : Int)).val = _
      refine Tr.n (by simp) ?_
      rfl
  · cases h
theorem laws_toMessageS_is3 : LoopIs tab FT D4 live 44 laws_toMessageS_lo 0 3 := by
  refine loop_told (sl := laws_toMessageS_3_sl) (step := laws_toMessageS_3_st) (out := laws_toMessageS_3_out) (lor := laws_toMessageS_lo3) (fin := fun x => (laws_toMessageS_3_fin (x.1) (x.2.1) (x.2.2))) (fun _ => rfl) ?_ (fun x n => laws_toMessageS_3_r x.1 x.2.1 x.2.2 n) (fun x ow => laws_toMessageS_3_h x.1 x.2.1 x.2.2 ow)
  intro s t h
  unfold laws_toMessageS_lo3 at h
  split at h
  · cases h; exact ⟨(_, _, _), rfl, rfl⟩
  · cases h
noncomputable def laws_toMessageS_t (A : List (List TC)) : Tr (List (List TC)) := (.ite (0 ≤ (A.length : Int) ∧ (A.length : Int) ≤ (A.length : Int) ∧ (A.length : Int) * 32 ≤ 140737488355328 ∧ (A.length : Int) ≤ 140737488355328) (.ite ((laws_toMessageS_o3_1 A (List.replicate ((A.length : Int)).toNat [TC.i (0 : Int), TC.i (0 : Int), TC.s []]) (0 : Int)) = true) (.ok (laws_toMessageS_u3_1 A (List.replicate ((A.length : Int)).toNat [TC.i (0 : Int), TC.i (0 : Int), TC.s []]) (0 : Int)))
   .no)
  .no)
def laws_toMessageS_mk (p : List (List TC)) : Res := [(false, [⟨.slice 124, .own true, TC.l p⟩])]
noncomputable def laws_toMessageS_c (A : List (List TC)) : Bool := is (Typed tab (.slice 122) (.l A))
noncomputable def laws_toMessageS_v (A : List (List TC)) : List (List TC) := A.map laws_toMessageS_g
theorem laws_toMessageS_l (A : List (List TC)) : (laws_toMessageS_c A) = true → (laws_toMessageS_t A).val = some (laws_toMessageS_v A) := by
  intro h
  have ht := is_iff.1 h
  have hb := typed_room ht
  simp only [show (tab 122).bytes = 32 from rfl] at hb
  unfold laws_toMessageS_t
  refine Tr.t (by omega) ?_
  refine Tr.t (is_true ⟨ht, by rfl, rfl⟩) ?_
  rfl
noncomputable def laws_toMessageS_S : List Arg → Option (Bool × Res) := fun xs => match xs with
  | [(false, [(.slice 122, TC.l A)])] => some ((laws_toMessageS_c A), laws_toMessageS_mk (laws_toMessageS_v A))
  | _ => .none
theorem laws_toMessageS_e (A : List (List TC)) : runF tab FT D4 live 44 laws_toMessageS_lo [(false, [(.slice 122, TC.l A)])] = (laws_toMessageS_t A).run fun p => some (laws_toMessageS_mk p) := by kernel_rfl
theorem laws_toMessageS_s : ∀ xs r, laws_toMessageS_S xs = some (true, r) → runF tab FT D4 live 44 laws_toMessageS_lo xs = some r := by
  intro xs r h
  unfold laws_toMessageS_S at h
  split at h
  · simp only [Option.some.injEq, Prod.mk.injEq] at h
    obtain ⟨h1, rfl⟩ := h
    exact fun_told (laws_toMessageS_e _) (laws_toMessageS_l _) h1
  · cases h
noncomputable def D5 : Dt := also D4 44 laws_toMessageS_S
theorem d5 : DOk Go.Proofs.Try.prog tab D5 := d4.also mixed_ok tab_ok names_ok (fnLoops_one (by kernel_rfl) laws_toMessageS_is3) laws_toMessageS_s
theorem laws_toMessageS_ty {A : List (List TC)} (h : Typed tab (.slice 122) (.l A)) : Typed tab (.slice 124) (.l (A.map laws_toMessageS_g)) := by
  refine typed_map h (by decide) fun x _ _ hx => ⟨rfl, fun k hk => ?_⟩
  match k, hk with
    | 0, _ => exact typed_i (hx 0 (by decide))
    | 1, _ => exact typed_i (hx 1 (by decide))
    | 2, _ => exact typed_s (hx 2 (by decide))
/-! laws_toHeader -/
noncomputable def laws_toHeader_t (x0 : Int) (x1 : Int) (x2 : List (List TC)) : Tr (Int × Int × List (List TC)) := (.ite ((laws_toMessageS_c x2) = true) (.ok (x0, x1, (laws_toMessageS_v x2)))
  .no)
def laws_toHeader_mk (p : Int × Int × List (List TC)) : Res := [(true, [⟨.int .i64, .sh, TC.i (p.1)⟩, ⟨.int .i64, .sh, TC.i (p.2.1)⟩, ⟨.slice 124, .own true, TC.l (p.2.2)⟩])]
noncomputable def laws_toHeader_c (x0 : Int) (x1 : Int) (x2 : List (List TC)) : Bool := is (Typed tab (.slice 122) (.l x2))
noncomputable def laws_toHeader_v (x0 : Int) (x1 : Int) (x2 : List (List TC)) : Int × Int × List (List TC) := (x0, x1, (laws_toMessageS_v x2))
theorem laws_toHeader_l (x0 : Int) (x1 : Int) (x2 : List (List TC)) : (laws_toHeader_c x0 x1 x2) = true → (laws_toHeader_t x0 x1 x2).val = some (laws_toHeader_v x0 x1 x2) := by
  intro h
  have t0 := is_iff.1 h
  unfold laws_toHeader_t
  repeat (refine Tr.t (by first | (apply is_true; and_intros <;> (first | rfl | assumption | (first | (apply is_true; and_intros <;> (first | rfl | assumption | (first | (apply is_true; and_intros <;> (first | rfl | assumption | (first | (apply is_true; and_intros <;> (first | rfl | assumption)))))))))))) ?_)
  rfl
noncomputable def laws_toHeader_S : List Arg → Option (Bool × Res) := fun xs => match xs with
  | [(true, [(.int .i64, TC.i x0), (.int .i64, TC.i x1), (.slice 122, TC.l x2)])] => some ((laws_toHeader_c x0 x1 x2), laws_toHeader_mk (laws_toHeader_v x0 x1 x2))
  | _ => .none
theorem laws_toHeader_e (x0 : Int) (x1 : Int) (x2 : List (List TC)) : runF tab FT D5 live 11 noLoops [(true, [(.int .i64, TC.i x0), (.int .i64, TC.i x1), (.slice 122, TC.l x2)])] = (laws_toHeader_t x0 x1 x2).run fun p => some (laws_toHeader_mk p) := by kernel_rfl
theorem laws_toHeader_s : ∀ xs r, laws_toHeader_S xs = some (true, r) → runF tab FT D5 live 11 noLoops xs = some r := by
  intro xs r h
  unfold laws_toHeader_S at h
  split at h
  · simp only [Option.some.injEq, Prod.mk.injEq] at h
    obtain ⟨h1, rfl⟩ := h
    exact fun_told (laws_toHeader_e _ _ _) (laws_toHeader_l _ _ _) h1
  · cases h
noncomputable def D6 : Dt := also D5 11 laws_toHeader_S
theorem d6 : DOk Go.Proofs.Try.prog tab D6 := d5.also mixed_ok tab_ok names_ok noLoops_ok laws_toHeader_s
/-! spec_l00In -/
noncomputable def spec_l00In_t (a0 : Int) (a1 : Int) (a2 : Int) : Tr (Bool) := (.ite ((decide (a0 ≥ a1)) = true) (.ok (decide (a0 ≤ a2)))
  (.ok false))
def spec_l00In_mk (p : Bool) : Res := [(false, [⟨.bool, .sh, TC.b p⟩])]
noncomputable def spec_l00In_c (a0 : Int) (a1 : Int) (a2 : Int) : Bool := true
noncomputable def spec_l00In_v (a0 : Int) (a1 : Int) (a2 : Int) : Bool := (bif (decide (a0 ≥ a1)) then (decide (a0 ≤ a2)) else false)
theorem spec_l00In_l (a0 : Int) (a1 : Int) (a2 : Int) : (spec_l00In_c a0 a1 a2) = true → (spec_l00In_t a0 a1 a2).val = some (spec_l00In_v a0 a1 a2) := by
  intro h
  skip
  unfold spec_l00In_t spec_l00In_v
  exact (Tr.s rfl rfl)
noncomputable def spec_l00In_S : List Arg → Option (Bool × Res) := fun xs => match xs with
  | [(false, [(.int .i64, TC.i a0)]), (false, [(.int .i64, TC.i a1)]), (false, [(.int .i64, TC.i a2)])] => some (true, spec_l00In_mk (spec_l00In_v a0 a1 a2))
  | _ => .none
theorem spec_l00In_e (a0 : Int) (a1 : Int) (a2 : Int) : runF tab FT D6 live 90 noLoops [(false, [(.int .i64, TC.i a0)]), (false, [(.int .i64, TC.i a1)]), (false, [(.int .i64, TC.i a2)])] = (spec_l00In_t a0 a1 a2).run fun p => some (spec_l00In_mk p) := by kernel_rfl
theorem spec_l00In_s : ∀ xs r, spec_l00In_S xs = some (true, r) → runF tab FT D6 live 90 noLoops xs = some r := by
  intro xs r h
  unfold spec_l00In_S at h
  split at h
  · simp only [Option.some.injEq, Prod.mk.injEq] at h
    obtain ⟨h1, rfl⟩ := h
    exact fun_told (spec_l00In_e _ _ _) (spec_l00In_l _ _ _) rfl
  · cases h
noncomputable def D7 : Dt := also D6 90 spec_l00In_S
theorem d7 : DOk Go.Proofs.Try.prog tab D7 := d6.also mixed_ok tab_ok names_ok noLoops_ok spec_l00In_s
/-! spec_l14Ok -/
theorem inI_s {a b c : Int} : spec_l00In_v a b c = inI a b c := rfl
abbrev spec_l14Ok_4_σ := Int × Int × List (List TC) × Int
abbrev spec_l14Ok_4_ω := (Unit) ⊕ (Unit)
noncomputable def spec_l14Ok_4_step (k : Int) (r : Int) (A : List (List TC)) (i : Int) : Tr (spec_l14Ok_4_σ ⊕ spec_l14Ok_4_ω) := (.ite ((decide (i < (A.length : Int))) = true) (.ite ((0 : Int) ≤ i ∧ i < (A.length : Int)) (.ite ((!(spec_l00In_v ((nth (row A i) 0).int) (1 : Int) (9 : Int))) = true) (.ok (.inr (.inl ())))
    (.ite ((!(spec_l00In_v ((nth (row A i) 1).int) (0 : Int) (255 : Int))) = true) (.ok (.inr (.inl ())))
     (.ite ((decide ((((nth (row A i) 2).str).length : Int) > (200 : Int))) = true) (.ok (.inr (.inl ())))
      (.ok (.inl (k, r, A, (IntKind.wrap .i64 (i + (1 : Int)))))))))
   .no)
  (.ok (.inr (.inr ()))))
noncomputable def spec_l14Ok_4_st : spec_l14Ok_4_σ → Tr (spec_l14Ok_4_σ ⊕ spec_l14Ok_4_ω) := fun x => (spec_l14Ok_4_step (x.1) (x.2.1) (x.2.2.1) (x.2.2.2))
noncomputable def spec_l14Ok_k4_1 (k : Int) (r : Int) (A : List (List TC)) (i : Int) : Bool := allI (fun i : Nat => msgOk (row A (i : Int))) A.length
noncomputable def spec_l14Ok_o4_2 (k : Int) (r : Int) (A : List (List TC)) (i : Int) : Bool := is (Typed tab (.slice 124) (.l A) ∧ i = 0)
noncomputable def spec_l14Ok_o4_3 (k : Int) (r : Int) (A : List (List TC)) (i : Int) : Bool := is (Typed tab (.slice 124) (.l A) ∧ i = 0)
noncomputable def spec_l14Ok_4_fin (k : Int) (r : Int) (A : List (List TC)) (i : Int) : Told spec_l14Ok_4_ω := (.br (spec_l14Ok_k4_1 k r A i) (.leaf (spec_l14Ok_o4_2 k r A i) (.inr ())) (.leaf (spec_l14Ok_o4_3 k r A i) (.inl ())))
def spec_l14Ok_4_sl (x : spec_l14Ok_4_σ) : List Slot := [⟨.bx 29 [⟨.int .i64, .sh, TC.i (x.1)⟩, ⟨.int .i64, .sh, TC.i (x.2.1)⟩, ⟨.slice 124, .sh, TC.l (x.2.2.1)⟩], ⟨0, 0⟩⟩, ⟨.val false [⟨.int .i64, .sh, TC.i (x.2.2.2)⟩], ⟨0, 0⟩⟩]
def spec_l14Ok_4_out : spec_l14Ok_4_ω → Ex × List Slot := (Sum.elim (fun x => (.ret, [⟨.val false [⟨.bool, .sh, TC.b false⟩], ⟨0, 0⟩⟩])) (fun x => (.exit 0, [Slot.none])))
noncomputable def spec_l14Ok_lo4 : List Slot → Option (Told (Ex × List Slot)) := fun s => match s with
  | [⟨.bx 29 [⟨.int .i64, .sh, TC.i k⟩, ⟨.int .i64, .sh, TC.i r⟩, ⟨.slice 124, .sh, TC.l A⟩], ⟨0, 0⟩⟩, ⟨.val false [⟨.int .i64, .sh, TC.i i⟩], ⟨0, 0⟩⟩] => some (((spec_l14Ok_4_fin k r A i)).map spec_l14Ok_4_out)
  | _ => .none
noncomputable def spec_l14Ok_lo : LoopTeller := fun r s => bif Nat.beq r 4 then spec_l14Ok_lo4 s else .none
theorem spec_l14Ok_4_r (k : Int) (r : Int) (A : List (List TC)) (i : Int) (fuel : Nat) : rounds (rnd tab FT D7 live 42 spec_l14Ok_lo 0 4) leave (fuel + 1) (spec_l14Ok_4_sl (k, r, A, i)) = ((spec_l14Ok_4_step k r A i)).run (goOn (fun s => rounds (rnd tab FT D7 live 42 spec_l14Ok_lo 0 4) leave fuel (spec_l14Ok_4_sl s)) fun w => some (spec_l14Ok_4_out w)) := by kernel_rfl
theorem spec_l14Ok_4_h (k : Int) (r : Int) (A : List (List TC)) (i : Int) (ow : spec_l14Ok_4_ω) : ((spec_l14Ok_4_fin k r A i)).val = some ow → ∃ fuel, loopN spec_l14Ok_4_st fuel (k, r, A, i) = some ow := by
  intro h
  refine auto_br (K := allI (fun i : Nat => msgOk (row A (i : Int))) A.length) rfl (fun ho => ?_) h
  have ho := ho.elim id id
  obtain ⟨ht, rfl⟩ := is_iff.1 ho
  have hlen : A.length ≤ 140737488351232 := by have := typed_room ht; simp only [show (tab 124).bytes = 32 from rfl] at this; omega
  show ∃ M, loopN spec_l14Ok_4_st M (k, r, A, 0) = some (bif allI (fun i : Nat => msgOk (row A (i : Int))) A.length then .inr () else .inl ())
  refine loopN_along (step := spec_l14Ok_4_st) A.length (fun i : Nat => msgOk (row A (i : Int))) (fun j => (k, r, A, (j : Int))) (.inr ()) (fun _ => .inl ()) (fun j hj hb => ⟨fun hP => ?_, fun hP => ?_⟩) (fun hb => ?_)
  · unfold msgOk at hP
    rw [Bool.and_eq_true, Bool.and_eq_true] at hP
    obtain ⟨⟨a, b⟩, c⟩ := hP
    have c : decide (((nth (row A (j : Int)) 2).str.length : Int) > 200) = false := by simpa using c
    show (spec_l14Ok_4_step k r A (j : Int)).val = _
    unfold spec_l14Ok_4_step
    rw [inI_s, inI_s, a, b, c]
    refine Tr.t (by simp; omega) ?_
    refine Tr.t (by omega) ?_
    refine Tr.n (by simp) ?_
    refine Tr.n (by simp) ?_
    refine Tr.n (by simp) ?_
    rw [Tr.val_ok, wrap64 (i := (j : Int) + 1) (by omega) (by omega)]; rfl
  · unfold msgOk at hP
    show (spec_l14Ok_4_step k r A (j : Int)).val = _
    unfold spec_l14Ok_4_step
    rw [inI_s, inI_s]
    refine Tr.t (by simp; omega) ?_
    refine Tr.t (by omega) ?_
    revert hP
    cases inI (nth (row A (j : Int)) 0).int 1 9 with
    | false => exact fun _ => Tr.t rfl rfl
    | true =>
      cases inI (nth (row A (j : Int)) 1).int 0 255 with
      | false => exact fun _ => Tr.n (by simp) (Tr.t rfl rfl)
      | true =>
        intro hP
        refine Tr.n (by simp) (Tr.n (by simp) ?_)
        refine Tr.t (by simpa using hP) rfl
  · show (spec_l14Ok_4_step k r A (A.length : Int)).val = _
    unfold spec_l14Ok_4_step
    refine Tr.n (by simp) ?_
    rfl
theorem spec_l14Ok_is4 : LoopIs tab FT D7 live 42 spec_l14Ok_lo 0 4 := by
  refine loop_told (sl := spec_l14Ok_4_sl) (step := spec_l14Ok_4_st) (out := spec_l14Ok_4_out) (lor := spec_l14Ok_lo4) (fin := fun x => (spec_l14Ok_4_fin (x.1) (x.2.1) (x.2.2.1) (x.2.2.2))) (fun _ => rfl) ?_ (fun x n => spec_l14Ok_4_r x.1 x.2.1 x.2.2.1 x.2.2.2 n) (fun x ow => spec_l14Ok_4_h x.1 x.2.1 x.2.2.1 x.2.2.2 ow)
  intro s t h
  unfold spec_l14Ok_lo4 at h
  split at h
  · cases h; exact ⟨(_, _, _, _), rfl, rfl⟩
  · cases h
noncomputable def spec_l14Ok_t (k : Int) (r : Int) (A : List (List TC)) : Tr (Bool) := (.ite ((!(spec_l00In_v k (1 : Int) (3 : Int))) = true) (.ok false)
  (.ite ((!(spec_l00In_v r (0 : Int) (1000 : Int))) = true) (.ok false)
   (.ite ((decide ((A.length : Int) > (24 : Int))) = true) (.ok false)
    (.ite ((spec_l14Ok_k4_1 k r A (0 : Int)) = true) (.ite ((spec_l14Ok_o4_2 k r A (0 : Int)) = true) (.ok true)
      .no)
     (.ite ((spec_l14Ok_o4_3 k r A (0 : Int)) = true) (.ok false)
      .no)))))
def spec_l14Ok_mk (p : Bool) : Res := [(false, [⟨.bool, .sh, TC.b p⟩])]
noncomputable def spec_l14Ok_c (k : Int) (r : Int) (A : List (List TC)) : Bool := (bif (!(spec_l00In_v k (1 : Int) (3 : Int))) then true else (bif (!(spec_l00In_v r (0 : Int) (1000 : Int))) then true else (bif (decide ((A.length : Int) > (24 : Int))) then true else (bif (spec_l14Ok_k4_1 k r A (0 : Int)) then ((spec_l14Ok_o4_2 k r A (0 : Int)) && true) else ((spec_l14Ok_o4_3 k r A (0 : Int)) && true)))))
noncomputable def spec_l14Ok_v (k : Int) (r : Int) (A : List (List TC)) : Bool := (bif (!(spec_l00In_v k (1 : Int) (3 : Int))) then false else (bif (!(spec_l00In_v r (0 : Int) (1000 : Int))) then false else (bif (decide ((A.length : Int) > (24 : Int))) then false else (bif (spec_l14Ok_k4_1 k r A (0 : Int)) then true else false))))
theorem spec_l14Ok_l (k : Int) (r : Int) (A : List (List TC)) : (spec_l14Ok_c k r A) = true → (spec_l14Ok_t k r A).val = some (spec_l14Ok_v k r A) := by
  unfold spec_l14Ok_t spec_l14Ok_v spec_l14Ok_c
  exact fun h => (Tr.ss h (fun h => rfl) (fun h => (Tr.ss h (fun h => rfl) (fun h => (Tr.ss h (fun h => rfl) (fun h => (Tr.ss h (fun h => (Tr.gb h fun h => rfl)) (fun h => (Tr.gb h fun h => rfl)))))))))
noncomputable def spec_l14Ok_S : List Arg → Option (Bool × Res) := fun xs => match xs with
  | [(true, [(.int .i64, TC.i k), (.int .i64, TC.i r), (.slice 124, TC.l A)])] => some ((spec_l14Ok_c k r A), spec_l14Ok_mk (spec_l14Ok_v k r A))
  | _ => .none
theorem spec_l14Ok_e (k : Int) (r : Int) (A : List (List TC)) : runF tab FT D7 live 42 spec_l14Ok_lo [(true, [(.int .i64, TC.i k), (.int .i64, TC.i r), (.slice 124, TC.l A)])] = (spec_l14Ok_t k r A).run fun p => some (spec_l14Ok_mk p) := by kernel_rfl
theorem spec_l14Ok_s : ∀ xs r, spec_l14Ok_S xs = some (true, r) → runF tab FT D7 live 42 spec_l14Ok_lo xs = some r := by
  intro xs r h
  unfold spec_l14Ok_S at h
  split at h
  · simp only [Option.some.injEq, Prod.mk.injEq] at h
    obtain ⟨h1, rfl⟩ := h
    exact fun_told (spec_l14Ok_e _ _ _) (spec_l14Ok_l _ _ _) h1
  · cases h
noncomputable def D8 : Dt := also D7 42 spec_l14Ok_S
theorem d8 : DOk Go.Proofs.Try.prog tab D8 := d7.also mixed_ok tab_ok names_ok (fnLoops_one (by kernel_rfl) spec_l14Ok_is4) spec_l14Ok_s
theorem spec_l14Ok_cc {k : Int} {r : Int} {A : List (List TC)} (hA : Typed tab (.slice 124) (.l A)) : (spec_l14Ok_c k r A) = true := by
  unfold spec_l14Ok_c
  refine bifT (fun b1 => ?_) (fun b1 => ?_)
  · skip
    rfl
  · skip
    refine bifT (fun b2 => ?_) (fun b2 => ?_)
    · skip
      rfl
    · skip
      refine bifT (fun b3 => ?_) (fun b3 => ?_)
      · skip
        rfl
      · skip
        refine bifT (fun b4 => ?_) (fun b4 => ?_)
        · skip
          refine andT (by exact is_true ⟨hA, rfl⟩) ?_
          rfl
        · skip
          refine andT (by exact is_true ⟨hA, rfl⟩) ?_
          rfl
theorem spec_l14Ok_vv (k r : Int) (A : List (List TC)) : spec_l14Ok_v k r A = hdrOk k r A := by
  unfold spec_l14Ok_v hdrOk
  rw [show spec_l14Ok_k4_1 k r A 0 = A.all msgOk from allI_rows]
  simp only [inI_s]
  generalize inI k 1 3 = p1, inI r 0 1000 = p2, decide ((A.length : Int) > 24) = p3, A.all msgOk = p4
  cases p1 <;> cases p2 <;> cases p3 <;> cases p4 <;> rfl
/-! spec_l02Byte -/
noncomputable def spec_l02Byte_t (n : Int) : Tr (List UInt8) := .ok ([[TC.i (IntKind.wrap .u8 n)]].map byteOf)
def spec_l02Byte_mk (p : List UInt8) : Res := [(false, [⟨.str, .sh, TC.s p⟩])]
noncomputable def spec_l02Byte_c (n : Int) : Bool := true
noncomputable def spec_l02Byte_v (n : Int) : List UInt8 := hid (bytesL n 1)
theorem spec_l02Byte_l (n : Int) : (spec_l02Byte_c n) = true → (spec_l02Byte_t n).val = some (spec_l02Byte_v n) := by
  intro _
  unfold spec_l02Byte_t spec_l02Byte_v
  rw [hid_eq, ← byte1]
  rfl
noncomputable def spec_l02Byte_S : List Arg → Option (Bool × Res) := fun xs => match xs with
  | [(false, [(.int .i64, TC.i n)])] => some (true, spec_l02Byte_mk (spec_l02Byte_v n))
  | _ => .none
theorem spec_l02Byte_e (n : Int) : runF tab FT D8 live 91 noLoops [(false, [(.int .i64, TC.i n)])] = (spec_l02Byte_t n).run fun p => some (spec_l02Byte_mk p) := by kernel_rfl
theorem spec_l02Byte_s : ∀ xs r, spec_l02Byte_S xs = some (true, r) → runF tab FT D8 live 91 noLoops xs = some r := by
  intro xs r h
  unfold spec_l02Byte_S at h
  split at h
  · simp only [Option.some.injEq, Prod.mk.injEq] at h
    obtain ⟨h1, rfl⟩ := h
    exact fun_told (spec_l02Byte_e _) (spec_l02Byte_l _) rfl
  · cases h
noncomputable def D9 : Dt := also D8 91 spec_l02Byte_S
theorem d9 : DOk Go.Proofs.Try.prog tab D9 := d8.also mixed_ok tab_ok names_ok noLoops_ok spec_l02Byte_s
theorem spec_l02Byte_h {n : Int} : spec_l02Byte_v n = bytesL n 1 := hid_eq _
theorem spec_l02Byte_len {n : Int} : (spec_l02Byte_v n).length = 1 := by rw [spec_l02Byte_h]; exact bytesL_len
/-! spec_l02Put -/
abbrev spec_l02Put_3_σ := Int × Int × Bool × List UInt8 × Int
abbrev spec_l02Put_3_ω := (List UInt8)
noncomputable def spec_l02Put_3_step (n : Int) (size : Int) (bg : Bool) (out : List UInt8) (k : Int) : Tr (spec_l02Put_3_σ ⊕ spec_l02Put_3_ω) := (.ite ((decide (k < size)) = true) (.ite (0 ≤ (IntKind.wrap .u64 (IntKind.wrap .i64 ((8 : Int) * k)))) (.ite (bg = true) (.ite ((((spec_l02Byte_v (bits .i64 (fun a b => a &&& b) (Int.fdiv n (2 ^ (min ((IntKind.wrap .u64 (IntKind.wrap .i64 ((8 : Int) * k)))).toNat 64))) (255 : Int))).length + out.length : Nat) : Int) ≤ 9223372036854775807) (.ok (.inl (n, size, bg, ((spec_l02Byte_v (bits .i64 (fun a b => a &&& b) (Int.fdiv n (2 ^ (min ((IntKind.wrap .u64 (IntKind.wrap .i64 ((8 : Int) * k)))).toNat 64))) (255 : Int))) ++ out), (IntKind.wrap .i64 (k + (1 : Int))))))
     .no)
    (.ite (((out.length + (spec_l02Byte_v (bits .i64 (fun a b => a &&& b) (Int.fdiv n (2 ^ (min ((IntKind.wrap .u64 (IntKind.wrap .i64 ((8 : Int) * k)))).toNat 64))) (255 : Int))).length : Nat) : Int) ≤ 9223372036854775807) (.ok (.inl (n, size, bg, (out ++ (spec_l02Byte_v (bits .i64 (fun a b => a &&& b) (Int.fdiv n (2 ^ (min ((IntKind.wrap .u64 (IntKind.wrap .i64 ((8 : Int) * k)))).toNat 64))) (255 : Int)))), (IntKind.wrap .i64 (k + (1 : Int))))))
     .no))
   .no)
  (.ok (.inr out)))
noncomputable def spec_l02Put_3_st : spec_l02Put_3_σ → Tr (spec_l02Put_3_σ ⊕ spec_l02Put_3_ω) := fun x => (spec_l02Put_3_step (x.1) (x.2.1) (x.2.2.1) (x.2.2.2.1) (x.2.2.2.2))
noncomputable def spec_l02Put_o3_1 (n : Int) (size : Int) (bg : Bool) (out : List UInt8) (k : Int) : Bool := is (∃ sz : Nat, size = (sz : Int) ∧ sz ≤ 8 ∧ out = [] ∧ k = 0)
noncomputable def spec_l02Put_u3_1 (n : Int) (size : Int) (bg : Bool) (out : List UInt8) (k : Int) : List UInt8 := putB n size.toNat bg
noncomputable def spec_l02Put_3_fin (n : Int) (size : Int) (bg : Bool) (out : List UInt8) (k : Int) : Told spec_l02Put_3_ω := (.leaf (spec_l02Put_o3_1 n size bg out k) (spec_l02Put_u3_1 n size bg out k))
def spec_l02Put_3_sl (x : spec_l02Put_3_σ) : List Slot := [⟨.val false [⟨.int .i64, .sh, TC.i (x.1)⟩], ⟨0, 0⟩⟩, ⟨.val false [⟨.int .i64, .sh, TC.i (x.2.1)⟩], ⟨0, 0⟩⟩, ⟨.val false [⟨.bool, .sh, TC.b (x.2.2.1)⟩], ⟨0, 0⟩⟩, ⟨.val false [⟨.str, .sh, TC.s (x.2.2.2.1)⟩], ⟨0, 0⟩⟩, ⟨.val false [⟨.int .i64, .sh, TC.i (x.2.2.2.2)⟩], ⟨0, 0⟩⟩]
def spec_l02Put_3_out : spec_l02Put_3_ω → Ex × List Slot := (fun x => (.exit 0, [Slot.none, ⟨.val false [⟨.str, .sh, TC.s x⟩], ⟨0, 0⟩⟩]))
noncomputable def spec_l02Put_lo3 : List Slot → Option (Told (Ex × List Slot)) := fun s => match s with
  | [⟨.val false [⟨.int .i64, .sh, TC.i n⟩], ⟨0, 0⟩⟩, ⟨.val false [⟨.int .i64, .sh, TC.i size⟩], ⟨0, 0⟩⟩, ⟨.val false [⟨.bool, .sh, TC.b bg⟩], ⟨0, 0⟩⟩, ⟨.val false [⟨.str, .sh, TC.s out⟩], ⟨0, 0⟩⟩, ⟨.val false [⟨.int .i64, .sh, TC.i k⟩], ⟨0, 0⟩⟩] => some (((spec_l02Put_3_fin n size bg out k)).map spec_l02Put_3_out)
  | _ => .none
noncomputable def spec_l02Put_lo : LoopTeller := fun r s => bif Nat.beq r 3 then spec_l02Put_lo3 s else .none
theorem spec_l02Put_3_r (n : Int) (size : Int) (bg : Bool) (out : List UInt8) (k : Int) (fuel : Nat) : rounds (rnd tab FT D9 live 92 spec_l02Put_lo 0 3) leave (fuel + 1) (spec_l02Put_3_sl (n, size, bg, out, k)) = ((spec_l02Put_3_step n size bg out k)).run (goOn (fun s => rounds (rnd tab FT D9 live 92 spec_l02Put_lo 0 3) leave fuel (spec_l02Put_3_sl s)) fun w => some (spec_l02Put_3_out w)) := by kernel_rfl
theorem spec_l02Put_3_h (n : Int) (size : Int) (bg : Bool) (out : List UInt8) (k : Int) (ow : spec_l02Put_3_ω) : ((spec_l02Put_3_fin n size bg out k)).val = some ow → ∃ fuel, loopN spec_l02Put_3_st fuel (n, size, bg, out, k) = some ow := by
  intro h
  refine auto_leaf (R := putB n size.toNat bg) (fun ho => ?_) h
  obtain ⟨sz, rfl, h8, rfl, rfl⟩ := is_iff.1 ho
  refine ⟨sz + 1, Eq.trans (congrArg (loopN spec_l02Put_3_st (sz + 1)) (by cases bg <;> rfl)) (loopN_run (step := spec_l02Put_3_st) (N := sz) (fun j => (n, (sz : Int), bg, putB n j bg, (j : Int))) (fun j hj => ?_) ?_ sz 0 (by omega))⟩
  · have e1 : IntKind.wrap .u64 (IntKind.wrap .i64 ((8 : Int) * (j : Int))) = ((8 * j : Nat) : Int) := by
      rw [wrap64 (by omega) (by omega), IntKind.wrap_u64]; omega
    have eb : spec_l02Byte_v (bits .i64 (fun a b => a &&& b) (Int.fdiv n (2 ^ (8 * j))) (255 : Int)) = [byteOf (bAt n j)] := by
      rw [spec_l02Byte_h]
      show [byteOf (bAt _ 0)] = _
      unfold bAt
      rw [show Int.fdiv (bits .i64 (fun a b => a &&& b) (Int.fdiv n (2 ^ (8 * j))) (255 : Int)) (2 ^ (8 * 0)) = bits .i64 (fun a b => a &&& b) (Int.fdiv n (2 ^ (8 * j))) (255 : Int) from by simp, u8_and]
    show (spec_l02Put_3_step n (sz : Int) bg (putB n j bg) (j : Int)).val = _
    unfold spec_l02Put_3_step
    rw [e1, Int.toNat_natCast, Nat.min_eq_left (by omega), eb]
    refine Tr.t (by simp; omega) ?_
    refine Tr.t (by omega) ?_
    have hl := putB_len (n := n) (sz := j) (bg := bg)
    cases bg with
    | true =>
      refine Tr.t rfl ?_
      refine Tr.t (by rw [hl, List.length_singleton]; omega) ?_
      rw [Tr.val_ok, wrap64 (i := (j : Int) + 1) (by omega) (by omega)]
      have e2 : putB n (j + 1) true = [byteOf (bAt n j)] ++ putB n j true := by
        show (bytesL n (j + 1)).reverse = _ ++ (bytesL n j).reverse
        rw [bytesL_succ, List.reverse_append]; rfl
      rw [e2]; rfl
    | false =>
      refine Tr.n (by simp) ?_
      refine Tr.t (by rw [hl, List.length_singleton]; omega) ?_
      rw [Tr.val_ok, wrap64 (i := (j : Int) + 1) (by omega) (by omega)]
      have e2 : putB n (j + 1) false = putB n j false ++ [byteOf (bAt n j)] := bytesL_succ
      rw [e2]; rfl
  · show (spec_l02Put_3_step n (sz : Int) bg (putB n sz bg) (sz : Int)).val = _
    unfold spec_l02Put_3_step
    refine Tr.n (by simp) ?_
    rfl
theorem spec_l02Put_is3 : LoopIs tab FT D9 live 92 spec_l02Put_lo 0 3 := by
  refine loop_told (sl := spec_l02Put_3_sl) (step := spec_l02Put_3_st) (out := spec_l02Put_3_out) (lor := spec_l02Put_lo3) (fin := fun x => (spec_l02Put_3_fin (x.1) (x.2.1) (x.2.2.1) (x.2.2.2.1) (x.2.2.2.2))) (fun _ => rfl) ?_ (fun x n => spec_l02Put_3_r x.1 x.2.1 x.2.2.1 x.2.2.2.1 x.2.2.2.2 n) (fun x ow => spec_l02Put_3_h x.1 x.2.1 x.2.2.1 x.2.2.2.1 x.2.2.2.2 ow)
  intro s t h
  unfold spec_l02Put_lo3 at h
  split at h
  · cases h; exact ⟨(_, _, _, _, _), rfl, rfl⟩
  · cases h
noncomputable def spec_l02Put_t (n : Int) (size : Int) (bg : Bool) : Tr (List UInt8) := (.ite ((spec_l02Put_o3_1 n size bg [] (0 : Int)) = true) (.ok (spec_l02Put_u3_1 n size bg [] (0 : Int)))
  .no)
def spec_l02Put_mk (p : List UInt8) : Res := [(false, [⟨.str, .sh, TC.s p⟩])]
noncomputable def spec_l02Put_c (n : Int) (size : Int) (bg : Bool) : Bool := is (∃ sz : Nat, size = (sz : Int) ∧ sz ≤ 8)
noncomputable def spec_l02Put_v (n : Int) (size : Int) (bg : Bool) : List UInt8 := hid (putB n size.toNat bg)
theorem spec_l02Put_l (n : Int) (size : Int) (bg : Bool) : (spec_l02Put_c n size bg) = true → (spec_l02Put_t n size bg).val = some (spec_l02Put_v n size bg) := by
  intro h
  obtain ⟨sz, rfl, h8⟩ := is_iff.1 h
  unfold spec_l02Put_t spec_l02Put_v
  rw [hid_eq]
  refine Tr.t (is_true ⟨sz, rfl, h8, rfl, rfl⟩) ?_
  rfl
noncomputable def spec_l02Put_S : List Arg → Option (Bool × Res) := fun xs => match xs with
  | [(false, [(.int .i64, TC.i n)]), (false, [(.int .i64, TC.i size)]), (false, [(.bool, TC.b bg)])] => some ((spec_l02Put_c n size bg), spec_l02Put_mk (spec_l02Put_v n size bg))
  | _ => .none
theorem spec_l02Put_e (n : Int) (size : Int) (bg : Bool) : runF tab FT D9 live 92 spec_l02Put_lo [(false, [(.int .i64, TC.i n)]), (false, [(.int .i64, TC.i size)]), (false, [(.bool, TC.b bg)])] = (spec_l02Put_t n size bg).run fun p => some (spec_l02Put_mk p) := by kernel_rfl
theorem spec_l02Put_s : ∀ xs r, spec_l02Put_S xs = some (true, r) → runF tab FT D9 live 92 spec_l02Put_lo xs = some r := by
  intro xs r h
  unfold spec_l02Put_S at h
  split at h
  · simp only [Option.some.injEq, Prod.mk.injEq] at h
    obtain ⟨h1, rfl⟩ := h
    exact fun_told (spec_l02Put_e _ _ _) (spec_l02Put_l _ _ _) h1
  · cases h
noncomputable def D10 : Dt := also D9 92 spec_l02Put_S
theorem d10 : DOk Go.Proofs.Try.prog tab D10 := d9.also mixed_ok tab_ok names_ok (fnLoops_one (by kernel_rfl) spec_l02Put_is3) spec_l02Put_s
theorem spec_l02Put_h {n size : Int} {bg : Bool} : spec_l02Put_v n size bg = putB n size.toNat bg := hid_eq _
/-! spec_l14Encode -/
abbrev spec_l14Encode_3_σ := Int × Int × List (List TC) × List UInt8 × Int
abbrev spec_l14Encode_3_ω := (List UInt8)
noncomputable def spec_l14Encode_3_step (k : Int) (r : Int) (A : List (List TC)) (out : List UInt8) (i : Int) : Tr (spec_l14Encode_3_σ ⊕ spec_l14Encode_3_ω) := (.ite ((decide (i < (A.length : Int))) = true) (.ite ((0 : Int) ≤ i ∧ i < (A.length : Int)) (.ite ((((spec_l02Byte_v ((nth (row A i) 0).int)).length + (spec_l02Byte_v ((nth (row A i) 1).int)).length : Nat) : Int) ≤ 9223372036854775807) (.ite (((((spec_l02Byte_v ((nth (row A i) 0).int)) ++ (spec_l02Byte_v ((nth (row A i) 1).int))).length + (spec_l02Byte_v (((nth (row A i) 2).str).length : Int)).length : Nat) : Int) ≤ 9223372036854775807) (.ite ((((((spec_l02Byte_v ((nth (row A i) 0).int)) ++ (spec_l02Byte_v ((nth (row A i) 1).int))) ++ (spec_l02Byte_v (((nth (row A i) 2).str).length : Int))).length + ((nth (row A i) 2).str).length : Nat) : Int) ≤ 9223372036854775807) (.ite (((out.length + ((((spec_l02Byte_v ((nth (row A i) 0).int)) ++ (spec_l02Byte_v ((nth (row A i) 1).int))) ++ (spec_l02Byte_v (((nth (row A i) 2).str).length : Int))) ++ (nth (row A i) 2).str).length : Nat) : Int) ≤ 9223372036854775807) (.ok (.inl (k, r, A, (out ++ ((((spec_l02Byte_v ((nth (row A i) 0).int)) ++ (spec_l02Byte_v ((nth (row A i) 1).int))) ++ (spec_l02Byte_v (((nth (row A i) 2).str).length : Int))) ++ (nth (row A i) 2).str)), (IntKind.wrap .i64 (i + (1 : Int))))))
       .no)
      .no)
     .no)
    .no)
   .no)
  (.ok (.inr out)))
noncomputable def spec_l14Encode_3_st : spec_l14Encode_3_σ → Tr (spec_l14Encode_3_σ ⊕ spec_l14Encode_3_ω) := fun x => (spec_l14Encode_3_step (x.1) (x.2.1) (x.2.2.1) (x.2.2.2.1) (x.2.2.2.2))
noncomputable def spec_l14Encode_o3_1 (k : Int) (r : Int) (A : List (List TC)) (out : List UInt8) (i : Int) : Bool := is (Typed tab (.slice 124) (.l A) ∧ A.length ≤ 24 ∧ A.all msgOk = true ∧ out.length ≤ 100 ∧ i = 0)
noncomputable def spec_l14Encode_u3_1 (k : Int) (r : Int) (A : List (List TC)) (out : List UInt8) (i : Int) : List UInt8 := out ++ hdrL A A.length
noncomputable def spec_l14Encode_3_fin (k : Int) (r : Int) (A : List (List TC)) (out : List UInt8) (i : Int) : Told spec_l14Encode_3_ω := (.leaf (spec_l14Encode_o3_1 k r A out i) (spec_l14Encode_u3_1 k r A out i))
def spec_l14Encode_3_sl (x : spec_l14Encode_3_σ) : List Slot := [⟨.bx 29 [⟨.int .i64, .sh, TC.i (x.1)⟩, ⟨.int .i64, .sh, TC.i (x.2.1)⟩, ⟨.slice 124, .sh, TC.l (x.2.2.1)⟩], ⟨0, 0⟩⟩, ⟨.val false [⟨.str, .sh, TC.s (x.2.2.2.1)⟩], ⟨0, 0⟩⟩, ⟨.val false [⟨.int .i64, .sh, TC.i (x.2.2.2.2)⟩], ⟨0, 0⟩⟩]
def spec_l14Encode_3_out : spec_l14Encode_3_ω → Ex × List Slot := (fun x => (.exit 0, [Slot.none, ⟨.val false [⟨.str, .sh, TC.s x⟩], ⟨0, 0⟩⟩]))
noncomputable def spec_l14Encode_lo3 : List Slot → Option (Told (Ex × List Slot)) := fun s => match s with
  | [⟨.bx 29 [⟨.int .i64, .sh, TC.i k⟩, ⟨.int .i64, .sh, TC.i r⟩, ⟨.slice 124, .sh, TC.l A⟩], ⟨0, 0⟩⟩, ⟨.val false [⟨.str, .sh, TC.s out⟩], ⟨0, 0⟩⟩, ⟨.val false [⟨.int .i64, .sh, TC.i i⟩], ⟨0, 0⟩⟩] => some (((spec_l14Encode_3_fin k r A out i)).map spec_l14Encode_3_out)
  | _ => .none
noncomputable def spec_l14Encode_lo : LoopTeller := fun r s => bif Nat.beq r 3 then spec_l14Encode_lo3 s else .none
theorem spec_l14Encode_3_r (k : Int) (r : Int) (A : List (List TC)) (out : List UInt8) (i : Int) (fuel : Nat) : rounds (rnd tab FT D10 live 43 spec_l14Encode_lo 0 3) leave (fuel + 1) (spec_l14Encode_3_sl (k, r, A, out, i)) = ((spec_l14Encode_3_step k r A out i)).run (goOn (fun s => rounds (rnd tab FT D10 live 43 spec_l14Encode_lo 0 3) leave fuel (spec_l14Encode_3_sl s)) fun w => some (spec_l14Encode_3_out w)) := by kernel_rfl
theorem spec_l14Encode_3_h (k : Int) (r : Int) (A : List (List TC)) (out : List UInt8) (i : Int) (ow : spec_l14Encode_3_ω) : ((spec_l14Encode_3_fin k r A out i)).val = some ow → ∃ fuel, loopN spec_l14Encode_3_st fuel (k, r, A, out, i) = some ow := by
  intro h
  refine auto_leaf (R := out ++ hdrL A A.length) (fun ho => ?_) h
  obtain ⟨ht, h24, hall, hout, rfl⟩ := is_iff.1 ho
  refine ⟨A.length + 1, Eq.trans (congrArg (loopN spec_l14Encode_3_st (A.length + 1)) (by simp [hdrL])) (loopN_run (step := spec_l14Encode_3_st) (N := A.length) (fun j => (k, r, A, out ++ hdrL A j, (j : Int))) (fun j hj => ?_) ?_ A.length 0 (by omega))⟩
  · have hl := hdrL_len hall j (by omega)
    have hm : msgOk (row A (j : Int)) = true := List.all_eq_true.1 hall _ (mem_getD hj)
    have hm2 : ((nth (row A (j : Int)) 2).str.length : Int) ≤ 200 := by
      unfold msgOk at hm
      rw [Bool.and_eq_true] at hm
      have h2 : ¬ ((nth (row A (j : Int)) 2).str.length : Int) > 200 := by simpa using hm.2
      omega
    show (spec_l14Encode_3_step k r A (out ++ hdrL A j) (j : Int)).val = _
    unfold spec_l14Encode_3_step
    rw [spec_l02Byte_h, spec_l02Byte_h, spec_l02Byte_h]
    refine Tr.t (by simp; omega) ?_
    refine Tr.t (by omega) ?_
    refine Tr.t (by simp only [bytesL_len]; omega) ?_
    refine Tr.t (by simp only [List.length_append, bytesL_len]; omega) ?_
    refine Tr.t (by simp only [List.length_append, bytesL_len]; omega) ?_
    refine Tr.t (by simp only [List.length_append, bytesL_len]; omega) ?_
    rw [Tr.val_ok, wrap64 (i := (j : Int) + 1) (by omega) (by omega), List.append_assoc]; rfl
  · show (spec_l14Encode_3_step k r A (out ++ hdrL A A.length) (A.length : Int)).val = _
    unfold spec_l14Encode_3_step
    refine Tr.n (by simp) ?_
    rfl
theorem spec_l14Encode_is3 : LoopIs tab FT D10 live 43 spec_l14Encode_lo 0 3 := by
  refine loop_told (sl := spec_l14Encode_3_sl) (step := spec_l14Encode_3_st) (out := spec_l14Encode_3_out) (lor := spec_l14Encode_lo3) (fin := fun x => (spec_l14Encode_3_fin (x.1) (x.2.1) (x.2.2.1) (x.2.2.2.1) (x.2.2.2.2))) (fun _ => rfl) ?_ (fun x n => spec_l14Encode_3_r x.1 x.2.1 x.2.2.1 x.2.2.2.1 x.2.2.2.2 n) (fun x ow => spec_l14Encode_3_h x.1 x.2.1 x.2.2.1 x.2.2.2.1 x.2.2.2.2 ow)
  intro s t h
  unfold spec_l14Encode_lo3 at h
  split at h
  · cases h; exact ⟨(_, _, _, _, _), rfl, rfl⟩
  · cases h
noncomputable def spec_l14Encode_t (k : Int) (r : Int) (A : List (List TC)) : Tr (List UInt8) := (.ite ((spec_l02Put_c r (2 : Int) false) = true) (.ite ((((spec_l02Byte_v k).length + (spec_l02Put_v r (2 : Int) false).length : Nat) : Int) ≤ 9223372036854775807) (.ite (((((spec_l02Byte_v k) ++ (spec_l02Put_v r (2 : Int) false)).length + (spec_l02Byte_v (A.length : Int)).length : Nat) : Int) ≤ 9223372036854775807) (.ite ((spec_l14Encode_o3_1 k r A (((spec_l02Byte_v k) ++ (spec_l02Put_v r (2 : Int) false)) ++ (spec_l02Byte_v (A.length : Int))) (0 : Int)) = true) (.ok (spec_l14Encode_u3_1 k r A (((spec_l02Byte_v k) ++ (spec_l02Put_v r (2 : Int) false)) ++ (spec_l02Byte_v (A.length : Int))) (0 : Int)))
     .no)
    .no)
   .no)
  .no)
def spec_l14Encode_mk (p : List UInt8) : Res := [(false, [⟨.str, .sh, TC.s p⟩])]
noncomputable def spec_l14Encode_c (k : Int) (r : Int) (A : List (List TC)) : Bool := is (Typed tab (.slice 124) (.l A) ∧ A.length ≤ 24 ∧ A.all msgOk = true)
noncomputable def spec_l14Encode_v (k : Int) (r : Int) (A : List (List TC)) : List UInt8 := hid (hdrV k r A)
theorem spec_l14Encode_l (k : Int) (r : Int) (A : List (List TC)) : (spec_l14Encode_c k r A) = true → (spec_l14Encode_t k r A).val = some (spec_l14Encode_v k r A) := by
  intro h
  obtain ⟨ht, h24, hall⟩ := is_iff.1 h
  unfold spec_l14Encode_t spec_l14Encode_v
  rw [hid_eq, spec_l02Byte_h, spec_l02Byte_h, spec_l02Put_h, show putB r ((2 : Int)).toNat false = bytesL r 2 from rfl]
  refine Tr.t (is_true ⟨2, rfl, by omega⟩) ?_
  refine Tr.t (by simp only [bytesL_len]; omega) ?_
  refine Tr.t (by simp only [List.length_append, bytesL_len]; omega) ?_
  refine Tr.t (is_true ⟨ht, h24, hall, by simp only [List.length_append, bytesL_len]; omega, rfl⟩) ?_
  rfl
noncomputable def spec_l14Encode_S : List Arg → Option (Bool × Res) := fun xs => match xs with
  | [(true, [(.int .i64, TC.i k), (.int .i64, TC.i r), (.slice 124, TC.l A)])] => some ((spec_l14Encode_c k r A), spec_l14Encode_mk (spec_l14Encode_v k r A))
  | _ => .none
theorem spec_l14Encode_e (k : Int) (r : Int) (A : List (List TC)) : runF tab FT D10 live 43 spec_l14Encode_lo [(true, [(.int .i64, TC.i k), (.int .i64, TC.i r), (.slice 124, TC.l A)])] = (spec_l14Encode_t k r A).run fun p => some (spec_l14Encode_mk p) := by kernel_rfl
theorem spec_l14Encode_s : ∀ xs r, spec_l14Encode_S xs = some (true, r) → runF tab FT D10 live 43 spec_l14Encode_lo xs = some r := by
  intro xs r h
  unfold spec_l14Encode_S at h
  split at h
  · simp only [Option.some.injEq, Prod.mk.injEq] at h
    obtain ⟨h1, rfl⟩ := h
    exact fun_told (spec_l14Encode_e _ _ _) (spec_l14Encode_l _ _ _) h1
  · cases h
noncomputable def D11 : Dt := also D10 43 spec_l14Encode_S
theorem d11 : DOk Go.Proofs.Try.prog tab D11 := d10.also mixed_ok tab_ok names_ok (fnLoops_one (by kernel_rfl) spec_l14Encode_is3) spec_l14Encode_s
theorem spec_l14Encode_h {k r : Int} {A : List (List TC)} : spec_l14Encode_v k r A = hdrV k r A := hid_eq _
/-! spec_EncodeHeader -/
noncomputable def spec_EncodeHeader_t (k : Int) (r : Int) (A : List (List TC)) : Tr (List UInt8) := (.ite ((spec_l14Ok_c k r A) = true) (.ite ((!(spec_l14Ok_v k r A)) = true) (.ok ([]))
   (.ite ((spec_l14Encode_c k r A) = true) (.ok (spec_l14Encode_v k r A))
    .no))
  .no)
def spec_EncodeHeader_mk (p : List UInt8) : Res := [(false, [⟨.str, .sh, TC.s p⟩])]
noncomputable def spec_EncodeHeader_c (k : Int) (r : Int) (A : List (List TC)) : Bool := is (Typed tab (.slice 124) (.l A))
noncomputable def spec_EncodeHeader_v (k : Int) (r : Int) (A : List (List TC)) : List UInt8 := bif hdrOk k r A then hid (hdrV k r A) else []
theorem spec_EncodeHeader_l (k : Int) (r : Int) (A : List (List TC)) : (spec_EncodeHeader_c k r A) = true → (spec_EncodeHeader_t k r A).val = some (spec_EncodeHeader_v k r A) := by
  intro h
  have hA := is_iff.1 h
  unfold spec_EncodeHeader_t spec_EncodeHeader_v
  refine Tr.t (spec_l14Ok_cc hA) ?_
  rw [spec_l14Ok_vv]
  cases hk : hdrOk k r A with
  | false => exact Tr.t rfl rfl
  | true =>
    obtain ⟨h24, hall⟩ := hdrOk_i hk
    refine Tr.n (by simp) (Tr.t (is_true ⟨hA, h24, hall⟩) ?_)
    rfl
noncomputable def spec_EncodeHeader_S : List Arg → Option (Bool × Res) := fun xs => match xs with
  | [(true, [(.int .i64, TC.i k), (.int .i64, TC.i r), (.slice 124, TC.l A)])] => some ((spec_EncodeHeader_c k r A), spec_EncodeHeader_mk (spec_EncodeHeader_v k r A))
  | _ => .none
theorem spec_EncodeHeader_e (k : Int) (r : Int) (A : List (List TC)) : runF tab FT D11 live 10 noLoops [(true, [(.int .i64, TC.i k), (.int .i64, TC.i r), (.slice 124, TC.l A)])] = (spec_EncodeHeader_t k r A).run fun p => some (spec_EncodeHeader_mk p) := by kernel_rfl
theorem spec_EncodeHeader_s : ∀ xs r, spec_EncodeHeader_S xs = some (true, r) → runF tab FT D11 live 10 noLoops xs = some r := by
  intro xs r h
  unfold spec_EncodeHeader_S at h
  split at h
  · simp only [Option.some.injEq, Prod.mk.injEq] at h
    obtain ⟨h1, rfl⟩ := h
    exact fun_told (spec_EncodeHeader_e _ _ _) (spec_EncodeHeader_l _ _ _) h1
  · cases h
noncomputable def D12 : Dt := also D11 10 spec_EncodeHeader_S
theorem d12 : DOk Go.Proofs.Try.prog tab D12 := d11.also mixed_ok tab_ok names_ok noLoops_ok spec_EncodeHeader_s
theorem spec_EncodeHeader_h {k r : Int} {A : List (List TC)} : spec_EncodeHeader_v k r A = bif hdrOk k r A then hid (hdrV k r A) else [] := rfl
/-! impl_within -/
noncomputable def impl_within_t (a0 : Int) (a1 : Int) (a2 : Int) : Tr (Bool) := (.ite ((decide (a0 ≥ a1)) = true) (.ok (decide (a0 ≤ a2)))
  (.ok false))
def impl_within_mk (p : Bool) : Res := [(false, [⟨.bool, .sh, TC.b p⟩])]
noncomputable def impl_within_c (a0 : Int) (a1 : Int) (a2 : Int) : Bool := true
noncomputable def impl_within_v (a0 : Int) (a1 : Int) (a2 : Int) : Bool := (bif (decide (a0 ≥ a1)) then (decide (a0 ≤ a2)) else false)
theorem impl_within_l (a0 : Int) (a1 : Int) (a2 : Int) : (impl_within_c a0 a1 a2) = true → (impl_within_t a0 a1 a2).val = some (impl_within_v a0 a1 a2) := by
  intro h
  skip
  unfold impl_within_t impl_within_v
  exact (Tr.s rfl rfl)
noncomputable def impl_within_S : List Arg → Option (Bool × Res) := fun xs => match xs with
  | [(false, [(.int .i64, TC.i a0)]), (false, [(.int .i64, TC.i a1)]), (false, [(.int .i64, TC.i a2)])] => some (true, impl_within_mk (impl_within_v a0 a1 a2))
  | _ => .none
theorem impl_within_e (a0 : Int) (a1 : Int) (a2 : Int) : runF tab FT D12 live 94 noLoops [(false, [(.int .i64, TC.i a0)]), (false, [(.int .i64, TC.i a1)]), (false, [(.int .i64, TC.i a2)])] = (impl_within_t a0 a1 a2).run fun p => some (impl_within_mk p) := by kernel_rfl
theorem impl_within_s : ∀ xs r, impl_within_S xs = some (true, r) → runF tab FT D12 live 94 noLoops xs = some r := by
  intro xs r h
  unfold impl_within_S at h
  split at h
  · simp only [Option.some.injEq, Prod.mk.injEq] at h
    obtain ⟨h1, rfl⟩ := h
    exact fun_told (impl_within_e _ _ _) (impl_within_l _ _ _) rfl
  · cases h
noncomputable def D13 : Dt := also D12 94 impl_within_S
theorem d13 : DOk Go.Proofs.Try.prog tab D13 := d12.also mixed_ok tab_ok names_ok noLoops_ok impl_within_s
/-! impl_messageOk -/
noncomputable def impl_messageOk_t (a0 : Int) (a1 : Int) (a2 : List UInt8) : Tr (Bool) := (.ite ((impl_within_v a0 (1 : Int) (9 : Int)) = true) (.ite ((impl_within_v a1 (0 : Int) (255 : Int)) = true) (.ok (decide ((a2.length : Int) ≤ (200 : Int))))
   (.ok false))
  (.ok false))
def impl_messageOk_mk (p : Bool) : Res := [(false, [⟨.bool, .sh, TC.b p⟩])]
noncomputable def impl_messageOk_c (a0 : Int) (a1 : Int) (a2 : List UInt8) : Bool := true
noncomputable def impl_messageOk_v (a0 : Int) (a1 : Int) (a2 : List UInt8) : Bool := (bif (impl_within_v a0 (1 : Int) (9 : Int)) then (bif (impl_within_v a1 (0 : Int) (255 : Int)) then (decide ((a2.length : Int) ≤ (200 : Int))) else false) else false)
theorem impl_messageOk_l (a0 : Int) (a1 : Int) (a2 : List UInt8) : (impl_messageOk_c a0 a1 a2) = true → (impl_messageOk_t a0 a1 a2).val = some (impl_messageOk_v a0 a1 a2) := by
  intro h
  skip
  unfold impl_messageOk_t impl_messageOk_v
  exact (Tr.s (Tr.s rfl rfl) rfl)
noncomputable def impl_messageOk_S : List Arg → Option (Bool × Res) := fun xs => match xs with
  | [(true, [(.int .i64, TC.i a0), (.int .i64, TC.i a1), (.str, TC.s a2)])] => some (true, impl_messageOk_mk (impl_messageOk_v a0 a1 a2))
  | _ => .none
theorem impl_messageOk_e (a0 : Int) (a1 : Int) (a2 : List UInt8) : runF tab FT D13 live 97 noLoops [(true, [(.int .i64, TC.i a0), (.int .i64, TC.i a1), (.str, TC.s a2)])] = (impl_messageOk_t a0 a1 a2).run fun p => some (impl_messageOk_mk p) := by kernel_rfl
theorem impl_messageOk_s : ∀ xs r, impl_messageOk_S xs = some (true, r) → runF tab FT D13 live 97 noLoops xs = some r := by
  intro xs r h
  unfold impl_messageOk_S at h
  split at h
  · simp only [Option.some.injEq, Prod.mk.injEq] at h
    obtain ⟨h1, rfl⟩ := h
    exact fun_told (impl_messageOk_e _ _ _) (impl_messageOk_l _ _ _) rfl
  · cases h
noncomputable def D14 : Dt := also D13 97 impl_messageOk_S
theorem d14 : DOk Go.Proofs.Try.prog tab D14 := d13.also mixed_ok tab_ok names_ok noLoops_ok impl_messageOk_s
/-! impl_ValidHeader_1 -/
noncomputable def impl_ValidHeader_1_t (a0 : Int) (a1 : Int) (a2 : List UInt8) : Tr (Bool) := .ok (!(impl_messageOk_v a0 a1 a2))
def impl_ValidHeader_1_mk (p : Bool) : Res := [(false, [⟨.bool, .sh, TC.b p⟩])]
noncomputable def impl_ValidHeader_1_c (a0 : Int) (a1 : Int) (a2 : List UInt8) : Bool := true
noncomputable def impl_ValidHeader_1_v (a0 : Int) (a1 : Int) (a2 : List UInt8) : Bool := (!(impl_messageOk_v a0 a1 a2))
theorem impl_ValidHeader_1_l (a0 : Int) (a1 : Int) (a2 : List UInt8) : (impl_ValidHeader_1_c a0 a1 a2) = true → (impl_ValidHeader_1_t a0 a1 a2).val = some (impl_ValidHeader_1_v a0 a1 a2) := by
  intro h
  skip
  unfold impl_ValidHeader_1_t impl_ValidHeader_1_v
  exact rfl
noncomputable def impl_ValidHeader_1_S : List Arg → Option (Bool × Res) := fun xs => match xs with
  | [(true, [(.int .i64, TC.i a0), (.int .i64, TC.i a1), (.str, TC.s a2)])] => some (true, impl_ValidHeader_1_mk (impl_ValidHeader_1_v a0 a1 a2))
  | _ => .none
theorem impl_ValidHeader_1_e (a0 : Int) (a1 : Int) (a2 : List UInt8) : runF tab FT D14 live 96 noLoops [(true, [(.int .i64, TC.i a0), (.int .i64, TC.i a1), (.str, TC.s a2)])] = (impl_ValidHeader_1_t a0 a1 a2).run fun p => some (impl_ValidHeader_1_mk p) := by kernel_rfl
theorem impl_ValidHeader_1_s : ∀ xs r, impl_ValidHeader_1_S xs = some (true, r) → runF tab FT D14 live 96 noLoops xs = some r := by
  intro xs r h
  unfold impl_ValidHeader_1_S at h
  split at h
  · simp only [Option.some.injEq, Prod.mk.injEq] at h
    obtain ⟨h1, rfl⟩ := h
    exact fun_told (impl_ValidHeader_1_e _ _ _) (impl_ValidHeader_1_l _ _ _) rfl
  · cases h
noncomputable def D15 : Dt := also D14 96 impl_ValidHeader_1_S
theorem d15 : DOk Go.Proofs.Try.prog tab D15 := d14.also mixed_ok tab_ok names_ok noLoops_ok impl_ValidHeader_1_s
/-! slices_IndexFunc_impl_Message_impl_Message -/
abbrev slices_IndexFunc_impl_Message_impl_Message_2_σ := List (List TC) × Int × Int
abbrev slices_IndexFunc_impl_Message_impl_Message_2_ω := (Int) ⊕ (Unit)
noncomputable def slices_IndexFunc_impl_Message_impl_Message_2_step (A : List (List TC)) (m : Int) (i : Int) : Tr (slices_IndexFunc_impl_Message_impl_Message_2_σ ⊕ slices_IndexFunc_impl_Message_impl_Message_2_ω) := (.ite ((decide (i < m)) = true) (.ite ((0 : Int) ≤ i ∧ i < (A.length : Int)) (.ite ((impl_ValidHeader_1_v ((nth (row A i) 0).int) ((nth (row A i) 1).int) ((nth (row A i) 2).str)) = true) (.ok (.inr (.inl i)))
    (.ok (.inl (A, m, (IntKind.wrap .i64 (i + (1 : Int)))))))
   .no)
  (.ok (.inr (.inr ()))))
noncomputable def slices_IndexFunc_impl_Message_impl_Message_2_st : slices_IndexFunc_impl_Message_impl_Message_2_σ → Tr (slices_IndexFunc_impl_Message_impl_Message_2_σ ⊕ slices_IndexFunc_impl_Message_impl_Message_2_ω) := fun x => (slices_IndexFunc_impl_Message_impl_Message_2_step (x.1) (x.2.1) (x.2.2))
noncomputable def slices_IndexFunc_impl_Message_impl_Message_k2_1 (A : List (List TC)) (m : Int) (i : Int) : Bool := A.all (fun x => !(impl_ValidHeader_1_v ((nth x 0).int) ((nth x 1).int) ((nth x 2).str)))
noncomputable def slices_IndexFunc_impl_Message_impl_Message_o2_2 (A : List (List TC)) (m : Int) (i : Int) : Bool := is (i = 0 ∧ Typed tab (.slice 124) (.l A) ∧ m = (A.length : Int))
noncomputable def slices_IndexFunc_impl_Message_impl_Message_o2_3 (A : List (List TC)) (m : Int) (i : Int) : Bool := is (i = 0 ∧ Typed tab (.slice 124) (.l A) ∧ m = (A.length : Int))
noncomputable def slices_IndexFunc_impl_Message_impl_Message_u2_3 (A : List (List TC)) (m : Int) (i : Int) : Int := (Int.ofNat (A.findIdx fun x => !(fun x => !(impl_ValidHeader_1_v ((nth x 0).int) ((nth x 1).int) ((nth x 2).str))) x))
noncomputable def slices_IndexFunc_impl_Message_impl_Message_2_fin (A : List (List TC)) (m : Int) (i : Int) : Told slices_IndexFunc_impl_Message_impl_Message_2_ω := (.br (slices_IndexFunc_impl_Message_impl_Message_k2_1 A m i) (.leaf (slices_IndexFunc_impl_Message_impl_Message_o2_2 A m i) (.inr ())) (.leaf (slices_IndexFunc_impl_Message_impl_Message_o2_3 A m i) (.inl (slices_IndexFunc_impl_Message_impl_Message_u2_3 A m i))))
def slices_IndexFunc_impl_Message_impl_Message_2_sl (x : slices_IndexFunc_impl_Message_impl_Message_2_σ) : List Slot := [⟨.val false [⟨.slice 124, .sh, TC.l (x.1)⟩], ⟨0, 0⟩⟩, ⟨.val false [⟨.func, .sh, TC.f 96 []⟩], ⟨0, 0⟩⟩, ⟨.val false [⟨.int .i64, .sh, TC.i (x.2.1)⟩], ⟨0, 0⟩⟩, ⟨.val false [⟨.int .i64, .sh, TC.i (x.2.2)⟩], ⟨0, 0⟩⟩]
def slices_IndexFunc_impl_Message_impl_Message_2_out : slices_IndexFunc_impl_Message_impl_Message_2_ω → Ex × List Slot := (Sum.elim (fun x => (.ret, [⟨.val false [⟨.int .i64, .sh, TC.i x⟩], ⟨0, 0⟩⟩])) (fun x => (.exit 0, [Slot.none])))
noncomputable def slices_IndexFunc_impl_Message_impl_Message_lo2 : List Slot → Option (Told (Ex × List Slot)) := fun s => match s with
  | [⟨.val false [⟨.slice 124, .sh, TC.l A⟩], ⟨0, 0⟩⟩, ⟨.val false [⟨.func, .sh, TC.f 96 []⟩], ⟨0, 0⟩⟩, ⟨.val false [⟨.int .i64, .sh, TC.i m⟩], ⟨0, 0⟩⟩, ⟨.val false [⟨.int .i64, .sh, TC.i i⟩], ⟨0, 0⟩⟩] => some (((slices_IndexFunc_impl_Message_impl_Message_2_fin A m i)).map slices_IndexFunc_impl_Message_impl_Message_2_out)
  | _ => .none
noncomputable def slices_IndexFunc_impl_Message_impl_Message_lo : LoopTeller := fun r s => bif Nat.beq r 2 then slices_IndexFunc_impl_Message_impl_Message_lo2 s else .none
theorem slices_IndexFunc_impl_Message_impl_Message_2_r (A : List (List TC)) (m : Int) (i : Int) (fuel : Nat) : rounds (rnd tab FT D15 live 134 slices_IndexFunc_impl_Message_impl_Message_lo 0 2) leave (fuel + 1) (slices_IndexFunc_impl_Message_impl_Message_2_sl (A, m, i)) = ((slices_IndexFunc_impl_Message_impl_Message_2_step A m i)).run (goOn (fun s => rounds (rnd tab FT D15 live 134 slices_IndexFunc_impl_Message_impl_Message_lo 0 2) leave fuel (slices_IndexFunc_impl_Message_impl_Message_2_sl s)) fun w => some (slices_IndexFunc_impl_Message_impl_Message_2_out w)) := by kernel_rfl
theorem slices_IndexFunc_impl_Message_impl_Message_2_h (A : List (List TC)) (m : Int) (i : Int) (ow : slices_IndexFunc_impl_Message_impl_Message_2_ω) : ((slices_IndexFunc_impl_Message_impl_Message_2_fin A m i)).val = some ow → ∃ fuel, loopN slices_IndexFunc_impl_Message_impl_Message_2_st fuel (A, m, i) = some ow := by
  intro h
  have key : Typed tab (.slice 124) (.l A) → loopN slices_IndexFunc_impl_Message_impl_Message_2_st (A.length + 1) (A, (A.length : Int), (0 : Int)) = some (if A.all (fun x => !(impl_ValidHeader_1_v ((nth x 0).int) ((nth x 1).int) ((nth x 2).str))) = true then (.inr ()) else (.inl (Int.ofNat (A.findIdx fun x => !(fun x => !(impl_ValidHeader_1_v ((nth x 0).int) ((nth x 1).int) ((nth x 2).str))) x)))) := by
    intro ht
    have hlen : A.length ≤ 140737488351232 := by have := typed_room ht; simp only [show (tab 124).bytes = 32 from rfl] at this; omega
    have key := loopN_scan (step := slices_IndexFunc_impl_Message_impl_Message_2_st) A [] (fun x => !(impl_ValidHeader_1_v ((nth x 0).int) ((nth x 1).int) ((nth x 2).str))) (fun a _ => a) (fun i a => (A, (A.length : Int), (i : Int))) (fun a => (.inr ())) (fun i a => (.inl (i : Int))) (fun i a hi => ?_) (fun a => ?_) A.length 0 () (by omega)
    · first | (rw [Nat.zero_add] at key; exact key) | exact key
    · have c2 : Typed tab (.str) (.s (nth (A.getD i []) 2).str) := typed_s (typed_cell ht (A.getD i []) (mem_getD hi) 2 (by decide))
      show (slices_IndexFunc_impl_Message_impl_Message_2_step A (A.length : Int) (i : Int)).val = _
      unfold slices_IndexFunc_impl_Message_impl_Message_2_step
      refine Tr.t (by simp; omega) ?_
      skip
      refine Tr.t (by first | omega | (constructor <;> omega)) ?_
      refine Tr.b2 (fun hP => ?_) (fun _ => rfl)
      rw [Tr.val_ok, wrap64 (i := (i : Int) + 1) (by omega) (by omega)]; rfl
    · show (slices_IndexFunc_impl_Message_impl_Message_2_step A (A.length : Int) (A.length : Int)).val = _
      refine Tr.n (by simp) ?_
      rfl
  simp only [slices_IndexFunc_impl_Message_impl_Message_2_fin, Told.val] at h
  cases hk : A.all (fun x => !(impl_ValidHeader_1_v ((nth x 0).int) ((nth x 1).int) ((nth x 2).str))) with
  | true =>
    rw [if_pos (show slices_IndexFunc_impl_Message_impl_Message_k2_1 A m i = true from hk)] at h
    split at h
    · rename_i ho
      obtain ⟨rfl, ht, rfl⟩ := is_iff.1 ho
      cases h
      refine ⟨_, (key ht).trans ?_⟩
      rw [hk]; rfl
    · cases h
  | false =>
    rw [if_neg (show ¬slices_IndexFunc_impl_Message_impl_Message_k2_1 A m i = true from by rw [show slices_IndexFunc_impl_Message_impl_Message_k2_1 A m i = (A.all (fun x => !(impl_ValidHeader_1_v ((nth x 0).int) ((nth x 1).int) ((nth x 2).str)))) from rfl, hk]; simp)] at h
    split at h
    · rename_i ho
      obtain ⟨rfl, ht, rfl⟩ := is_iff.1 ho
      cases h
      refine ⟨_, (key ht).trans ?_⟩
      rw [hk]; rfl
    · cases h
theorem slices_IndexFunc_impl_Message_impl_Message_is2 : LoopIs tab FT D15 live 134 slices_IndexFunc_impl_Message_impl_Message_lo 0 2 := by
  refine loop_told (sl := slices_IndexFunc_impl_Message_impl_Message_2_sl) (step := slices_IndexFunc_impl_Message_impl_Message_2_st) (out := slices_IndexFunc_impl_Message_impl_Message_2_out) (lor := slices_IndexFunc_impl_Message_impl_Message_lo2) (fin := fun x => (slices_IndexFunc_impl_Message_impl_Message_2_fin (x.1) (x.2.1) (x.2.2))) (fun _ => rfl) ?_ (fun x n => slices_IndexFunc_impl_Message_impl_Message_2_r x.1 x.2.1 x.2.2 n) (fun x ow => slices_IndexFunc_impl_Message_impl_Message_2_h x.1 x.2.1 x.2.2 ow)
  intro s t h
  unfold slices_IndexFunc_impl_Message_impl_Message_lo2 at h
  split at h
  · cases h; exact ⟨(_, _, _), rfl, rfl⟩
  · cases h
noncomputable def slices_IndexFunc_impl_Message_impl_Message_t (A : List (List TC)) : Tr (Int) := (.ite ((slices_IndexFunc_impl_Message_impl_Message_k2_1 A (A.length : Int) (0 : Int)) = true) (.ite ((slices_IndexFunc_impl_Message_impl_Message_o2_2 A (A.length : Int) (0 : Int)) = true) (.ok (-1 : Int))
   .no)
  (.ite ((slices_IndexFunc_impl_Message_impl_Message_o2_3 A (A.length : Int) (0 : Int)) = true) (.ok (slices_IndexFunc_impl_Message_impl_Message_u2_3 A (A.length : Int) (0 : Int)))
   .no))
def slices_IndexFunc_impl_Message_impl_Message_mk (p : Int) : Res := [(false, [⟨.int .i64, .sh, TC.i p⟩])]
noncomputable def slices_IndexFunc_impl_Message_impl_Message_c (A : List (List TC)) : Bool := is (Typed tab (.slice 124) (.l A))
noncomputable def slices_IndexFunc_impl_Message_impl_Message_v (A : List (List TC)) : Int := if (A.all (fun x => !(impl_ValidHeader_1_v ((nth x 0).int) ((nth x 1).int) ((nth x 2).str)))) = true then -1 else (Int.ofNat (A.findIdx fun x => !(fun x => !(impl_ValidHeader_1_v ((nth x 0).int) ((nth x 1).int) ((nth x 2).str))) x))
theorem slices_IndexFunc_impl_Message_impl_Message_l (A : List (List TC)) : (slices_IndexFunc_impl_Message_impl_Message_c A) = true → (slices_IndexFunc_impl_Message_impl_Message_t A).val = some (slices_IndexFunc_impl_Message_impl_Message_v A) := by
  intro h
  have ht := is_iff.1 h
  unfold slices_IndexFunc_impl_Message_impl_Message_t
  cases hk : A.all (fun x => !(impl_ValidHeader_1_v ((nth x 0).int) ((nth x 1).int) ((nth x 2).str))) with
  | true =>
    refine Tr.t (show A.all (fun x => !(impl_ValidHeader_1_v ((nth x 0).int) ((nth x 1).int) ((nth x 2).str))) = true from hk) ?_
    refine Tr.t (by first | (apply is_true; and_intros <;> (first | rfl | assumption | (apply spec_l14Ok_cc <;> assumption) | (first | (apply is_true; and_intros <;> (first | rfl | assumption | (apply spec_l14Ok_cc <;> assumption) | (first | (apply is_true; and_intros <;> (first | rfl | assumption | (apply spec_l14Ok_cc <;> assumption) | (first | (apply is_true; and_intros <;> (first | rfl | assumption | (apply spec_l14Ok_cc <;> assumption))) | (apply spec_l14Ok_cc <;> assumption)))) | (apply spec_l14Ok_cc <;> assumption)))) | (apply spec_l14Ok_cc <;> assumption)))) | (apply spec_l14Ok_cc <;> assumption)) ?_
    show _ = some (slices_IndexFunc_impl_Message_impl_Message_v A ); unfold slices_IndexFunc_impl_Message_impl_Message_v; rw [if_pos hk]; rfl
  | false =>
    refine Tr.n (show ¬A.all (fun x => !(impl_ValidHeader_1_v ((nth x 0).int) ((nth x 1).int) ((nth x 2).str))) = true from by rw [hk]; simp) ?_
    refine Tr.t (by first | (apply is_true; and_intros <;> (first | rfl | assumption | (apply spec_l14Ok_cc <;> assumption) | (first | (apply is_true; and_intros <;> (first | rfl | assumption | (apply spec_l14Ok_cc <;> assumption) | (first | (apply is_true; and_intros <;> (first | rfl | assumption | (apply spec_l14Ok_cc <;> assumption) | (first | (apply is_true; and_intros <;> (first | rfl | assumption | (apply spec_l14Ok_cc <;> assumption))) | (apply spec_l14Ok_cc <;> assumption)))) | (apply spec_l14Ok_cc <;> assumption)))) | (apply spec_l14Ok_cc <;> assumption)))) | (apply spec_l14Ok_cc <;> assumption)) ?_
    show _ = some (slices_IndexFunc_impl_Message_impl_Message_v A ); unfold slices_IndexFunc_impl_Message_impl_Message_v; rw [if_neg (by rw [hk]; simp)]; rfl
noncomputable def slices_IndexFunc_impl_Message_impl_Message_S : List Arg → Option (Bool × Res) := fun xs => match xs with
  | [(false, [(.slice 124, TC.l A)]), (false, [(.func, TC.f 96 [])])] => some ((slices_IndexFunc_impl_Message_impl_Message_c A), slices_IndexFunc_impl_Message_impl_Message_mk (slices_IndexFunc_impl_Message_impl_Message_v A))
  | _ => .none
theorem slices_IndexFunc_impl_Message_impl_Message_e (A : List (List TC)) : runF tab FT D15 live 134 slices_IndexFunc_impl_Message_impl_Message_lo [(false, [(.slice 124, TC.l A)]), (false, [(.func, TC.f 96 [])])] = (slices_IndexFunc_impl_Message_impl_Message_t A).run fun p => some (slices_IndexFunc_impl_Message_impl_Message_mk p) := by kernel_rfl
theorem slices_IndexFunc_impl_Message_impl_Message_s : ∀ xs r, slices_IndexFunc_impl_Message_impl_Message_S xs = some (true, r) → runF tab FT D15 live 134 slices_IndexFunc_impl_Message_impl_Message_lo xs = some r := by
  intro xs r h
  unfold slices_IndexFunc_impl_Message_impl_Message_S at h
  split at h
  · simp only [Option.some.injEq, Prod.mk.injEq] at h
    obtain ⟨h1, rfl⟩ := h
    exact fun_told (slices_IndexFunc_impl_Message_impl_Message_e _) (slices_IndexFunc_impl_Message_impl_Message_l _) h1
  · cases h
noncomputable def D16 : Dt := also D15 134 slices_IndexFunc_impl_Message_impl_Message_S
theorem d16 : DOk Go.Proofs.Try.prog tab D16 := d15.also mixed_ok tab_ok names_ok (fnLoops_one (by kernel_rfl) slices_IndexFunc_impl_Message_impl_Message_is2) slices_IndexFunc_impl_Message_impl_Message_s
/-! slices_ContainsFunc_impl_Message_impl_Message -/
noncomputable def slices_ContainsFunc_impl_Message_impl_Message_t (A : List (List TC)) : Tr (Bool) := (.ite ((slices_IndexFunc_impl_Message_impl_Message_c A) = true) (.ok (decide ((slices_IndexFunc_impl_Message_impl_Message_v A) ≥ (0 : Int))))
  .no)
def slices_ContainsFunc_impl_Message_impl_Message_mk (p : Bool) : Res := [(false, [⟨.bool, .sh, TC.b p⟩])]
noncomputable def slices_ContainsFunc_impl_Message_impl_Message_c (A : List (List TC)) : Bool := is (Typed tab (.slice 124) (.l A))
noncomputable def slices_ContainsFunc_impl_Message_impl_Message_v (A : List (List TC)) : Bool := !(A.all (fun x => !(impl_ValidHeader_1_v ((nth x 0).int) ((nth x 1).int) ((nth x 2).str))))
theorem slices_ContainsFunc_impl_Message_impl_Message_l (A : List (List TC)) : (slices_ContainsFunc_impl_Message_impl_Message_c A) = true → (slices_ContainsFunc_impl_Message_impl_Message_t A).val = some (slices_ContainsFunc_impl_Message_impl_Message_v A) := by
  intro h
  have ht := is_iff.1 h
  unfold slices_ContainsFunc_impl_Message_impl_Message_t
  refine Tr.t (by first | (apply is_true; and_intros <;> (first | rfl | assumption | (apply spec_l14Ok_cc <;> assumption) | (first | (apply is_true; and_intros <;> (first | rfl | assumption | (apply spec_l14Ok_cc <;> assumption) | (first | (apply is_true; and_intros <;> (first | rfl | assumption | (apply spec_l14Ok_cc <;> assumption) | (first | (apply is_true; and_intros <;> (first | rfl | assumption | (apply spec_l14Ok_cc <;> assumption))) | (apply spec_l14Ok_cc <;> assumption)))) | (apply spec_l14Ok_cc <;> assumption)))) | (apply spec_l14Ok_cc <;> assumption)))) | (apply spec_l14Ok_cc <;> assumption)) ?_
  show some (decide (slices_IndexFunc_impl_Message_impl_Message_v A  ≥ 0)) = some (!(A.all (fun x => !(impl_ValidHeader_1_v ((nth x 0).int) ((nth x 1).int) ((nth x 2).str)))))
  unfold slices_IndexFunc_impl_Message_impl_Message_v
  cases hk : A.all (fun x => !(impl_ValidHeader_1_v ((nth x 0).int) ((nth x 1).int) ((nth x 2).str))) <;> simp
noncomputable def slices_ContainsFunc_impl_Message_impl_Message_S : List Arg → Option (Bool × Res) := fun xs => match xs with
  | [(false, [(.slice 124, TC.l A)]), (false, [(.func, TC.f 96 [])])] => some ((slices_ContainsFunc_impl_Message_impl_Message_c A), slices_ContainsFunc_impl_Message_impl_Message_mk (slices_ContainsFunc_impl_Message_impl_Message_v A))
  | _ => .none
theorem slices_ContainsFunc_impl_Message_impl_Message_e (A : List (List TC)) : runF tab FT D16 live 95 noLoops [(false, [(.slice 124, TC.l A)]), (false, [(.func, TC.f 96 [])])] = (slices_ContainsFunc_impl_Message_impl_Message_t A).run fun p => some (slices_ContainsFunc_impl_Message_impl_Message_mk p) := by kernel_rfl
theorem slices_ContainsFunc_impl_Message_impl_Message_s : ∀ xs r, slices_ContainsFunc_impl_Message_impl_Message_S xs = some (true, r) → runF tab FT D16 live 95 noLoops xs = some r := by
  intro xs r h
  unfold slices_ContainsFunc_impl_Message_impl_Message_S at h
  split at h
  · simp only [Option.some.injEq, Prod.mk.injEq] at h
    obtain ⟨h1, rfl⟩ := h
    exact fun_told (slices_ContainsFunc_impl_Message_impl_Message_e _) (slices_ContainsFunc_impl_Message_impl_Message_l _) h1
  · cases h
noncomputable def D17 : Dt := also D16 95 slices_ContainsFunc_impl_Message_impl_Message_S
theorem d17 : DOk Go.Proofs.Try.prog tab D17 := d16.also mixed_ok tab_ok names_ok noLoops_ok slices_ContainsFunc_impl_Message_impl_Message_s
/-! impl_ValidHeader -/
noncomputable def impl_ValidHeader_t (a0 : Int) (a1 : Int) (a2 : List (List TC)) : Tr (Bool) := (.ite ((impl_within_v a0 (1 : Int) (3 : Int)) = true) (.ite ((impl_within_v a1 (0 : Int) (1000 : Int)) = true) (.ite ((decide ((a2.length : Int) ≤ (24 : Int))) = true) (.ite ((slices_ContainsFunc_impl_Message_impl_Message_c a2) = true) (.ok (!(slices_ContainsFunc_impl_Message_impl_Message_v a2)))
     .no)
    (.ok false))
   (.ok false))
  (.ok false))
def impl_ValidHeader_mk (p : Bool) : Res := [(false, [⟨.bool, .sh, TC.b p⟩])]
noncomputable def impl_ValidHeader_c (a0 : Int) (a1 : Int) (a2 : List (List TC)) : Bool := (slices_ContainsFunc_impl_Message_impl_Message_c a2)
noncomputable def impl_ValidHeader_v (a0 : Int) (a1 : Int) (a2 : List (List TC)) : Bool := (bif (impl_within_v a0 (1 : Int) (3 : Int)) then (bif (impl_within_v a1 (0 : Int) (1000 : Int)) then (bif (decide ((a2.length : Int) ≤ (24 : Int))) then (!(slices_ContainsFunc_impl_Message_impl_Message_v a2)) else false) else false) else false)
theorem impl_ValidHeader_l (a0 : Int) (a1 : Int) (a2 : List (List TC)) : (impl_ValidHeader_c a0 a1 a2) = true → (impl_ValidHeader_t a0 a1 a2).val = some (impl_ValidHeader_v a0 a1 a2) := by
  intro h
  have g0 : (slices_ContainsFunc_impl_Message_impl_Message_c a2) = true := h
  unfold impl_ValidHeader_t impl_ValidHeader_v
  exact (Tr.s (Tr.s (Tr.s (Tr.t g0 rfl) rfl) rfl) rfl)
noncomputable def impl_ValidHeader_S : List Arg → Option (Bool × Res) := fun xs => match xs with
  | [(true, [(.int .i64, TC.i a0), (.int .i64, TC.i a1), (.slice 124, TC.l a2)])] => some ((impl_ValidHeader_c a0 a1 a2), impl_ValidHeader_mk (impl_ValidHeader_v a0 a1 a2))
  | _ => .none
theorem impl_ValidHeader_e (a0 : Int) (a1 : Int) (a2 : List (List TC)) : runF tab FT D17 live 45 noLoops [(true, [(.int .i64, TC.i a0), (.int .i64, TC.i a1), (.slice 124, TC.l a2)])] = (impl_ValidHeader_t a0 a1 a2).run fun p => some (impl_ValidHeader_mk p) := by kernel_rfl
theorem impl_ValidHeader_s : ∀ xs r, impl_ValidHeader_S xs = some (true, r) → runF tab FT D17 live 45 noLoops xs = some r := by
  intro xs r h
  unfold impl_ValidHeader_S at h
  split at h
  · simp only [Option.some.injEq, Prod.mk.injEq] at h
    obtain ⟨h1, rfl⟩ := h
    exact fun_told (impl_ValidHeader_e _ _ _) (impl_ValidHeader_l _ _ _) h1
  · cases h
noncomputable def D18 : Dt := also D17 45 impl_ValidHeader_S
theorem d18 : DOk Go.Proofs.Try.prog tab D18 := d17.also mixed_ok tab_ok names_ok noLoops_ok impl_ValidHeader_s
/-! impl_putBytes -/
abbrev impl_putBytes_3_σ := Int × List (List TC) × Int × Int
abbrev impl_putBytes_3_ω := (List (List TC))
noncomputable def impl_putBytes_3_step (n : Int) (X : List (List TC)) (m : Int) (k : Int) : Tr (impl_putBytes_3_σ ⊕ impl_putBytes_3_ω) := (.ite ((decide (k < m)) = true) (.ite (0 ≤ (IntKind.wrap .i64 ((8 : Int) * k))) (.ite ((0 : Int) ≤ k ∧ k < (X.length : Int)) (.ok (.inl (n, (X.set (k).toNat (splice (row X k) 0 [TC.i (IntKind.wrap .u8 (Int.fdiv n (2 ^ (min ((IntKind.wrap .i64 ((8 : Int) * k))).toNat 64))))])), m, (IntKind.wrap .i64 (k + (1 : Int))))))
    .no)
   .no)
  (.ok (.inr X)))
noncomputable def impl_putBytes_3_st : impl_putBytes_3_σ → Tr (impl_putBytes_3_σ ⊕ impl_putBytes_3_ω) := fun x => (impl_putBytes_3_step (x.1) (x.2.1) (x.2.2.1) (x.2.2.2))
noncomputable def impl_putBytes_o3_1 (n : Int) (X : List (List TC)) (m : Int) (k : Int) : Bool := is (∃ sz : Nat, m = (sz : Int) ∧ sz ≤ 8 ∧ X = List.replicate sz [TC.i 0] ∧ k = 0)
noncomputable def impl_putBytes_u3_1 (n : Int) (X : List (List TC)) (m : Int) (k : Int) : List (List TC) := bRows n m.toNat
noncomputable def impl_putBytes_3_fin (n : Int) (X : List (List TC)) (m : Int) (k : Int) : Told impl_putBytes_3_ω := (.leaf (impl_putBytes_o3_1 n X m k) (impl_putBytes_u3_1 n X m k))
def impl_putBytes_3_sl (x : impl_putBytes_3_σ) : List Slot := [⟨.val false [⟨.int .i64, .sh, TC.i (x.1)⟩], ⟨0, 0⟩⟩, ⟨.val false [⟨.slice 5, .own true, TC.l (x.2.1)⟩], ⟨0, 0⟩⟩, ⟨.val false [⟨.int .i64, .sh, TC.i (x.2.2.1)⟩], ⟨0, 0⟩⟩, ⟨.val false [⟨.int .i64, .sh, TC.i (x.2.2.2)⟩], ⟨0, 0⟩⟩]
def impl_putBytes_3_out : impl_putBytes_3_ω → Ex × List Slot := (fun x => (.exit 0, [Slot.none, ⟨.val false [⟨.slice 5, .own true, TC.l x⟩], ⟨0, 0⟩⟩]))
noncomputable def impl_putBytes_lo3 : List Slot → Option (Told (Ex × List Slot)) := fun s => match s with
  | [⟨.val false [⟨.int .i64, .sh, TC.i n⟩], ⟨0, 0⟩⟩, ⟨.val false [⟨.slice 5, .own true, TC.l X⟩], ⟨0, 0⟩⟩, ⟨.val false [⟨.int .i64, .sh, TC.i m⟩], ⟨0, 0⟩⟩, ⟨.val false [⟨.int .i64, .sh, TC.i k⟩], ⟨0, 0⟩⟩] => some (((impl_putBytes_3_fin n X m k)).map impl_putBytes_3_out)
  | _ => .none
noncomputable def impl_putBytes_lo : LoopTeller := fun r s => bif Nat.beq r 3 then impl_putBytes_lo3 s else .none
theorem impl_putBytes_3_r (n : Int) (X : List (List TC)) (m : Int) (k : Int) (fuel : Nat) : rounds (rnd tab FT D18 live 99 impl_putBytes_lo 0 3) leave (fuel + 1) (impl_putBytes_3_sl (n, X, m, k)) = ((impl_putBytes_3_step n X m k)).run (goOn (fun s => rounds (rnd tab FT D18 live 99 impl_putBytes_lo 0 3) leave fuel (impl_putBytes_3_sl s)) fun w => some (impl_putBytes_3_out w)) := by kernel_rfl
theorem impl_putBytes_3_h (n : Int) (X : List (List TC)) (m : Int) (k : Int) (ow : impl_putBytes_3_ω) : ((impl_putBytes_3_fin n X m k)).val = some ow → ∃ fuel, loopN impl_putBytes_3_st fuel (n, X, m, k) = some ow := by
  intro h
  refine auto_leaf (R := bRows n m.toNat) (fun ho => ?_) h
  obtain ⟨sz, rfl, h8, rfl, rfl⟩ := is_iff.1 ho
  rw [wr_zero (n := n)]
  refine ⟨sz + 1, loopN_run (step := impl_putBytes_3_st) (N := sz) (fun j => (n, (wr sz (bAt n) (fun _ => [TC.i 0]) (fun p => decide (p < j))), (sz : Int), (j : Int))) (fun j hj => ?_) ?_ sz 0 (by omega)⟩
  · have e := wr_step (L := sz) (p0 := j) (F := bAt n) (O := fun _ => [TC.i 0]) (vis := fun p => decide (p < j)) (vis' := fun p => decide (p < j + 1)) hj (fun _ => rfl) (fun _ => rfl) (fun p _ => by
      rw [Bool.eq_iff_iff]; simp only [Bool.or_eq_true, decide_eq_true_eq, beq_iff_eq]; omega)
    show (impl_putBytes_3_step n (wr sz (bAt n) (fun _ => [TC.i 0]) (fun p => decide (p < j))) (sz : Int) (j : Int)).val = _
    unfold impl_putBytes_3_step
    rw [bAt_i64 (by omega)]
    refine Tr.t (by simp; omega) ?_
    refine Tr.t (by rw [wrap64 (by omega) (by omega)]; omega) ?_
    refine Tr.t ⟨by omega, by rw [wr_len]; omega⟩ ?_
    rw [Tr.val_ok, wrap64 (i := (j : Int) + 1) (by omega) (by omega)]
    show some (Sum.inl (n, (wr sz (bAt n) (fun _ => [TC.i 0]) (fun p => decide (p < j))).set j (splice ((wr sz (bAt n) (fun _ => [TC.i 0]) (fun p => decide (p < j))).getD j []) 0 (bAt n j)), (sz : Int), ((j + 1 : Nat) : Int))) = _
    rw [e]
  · show (impl_putBytes_3_step n (wr sz (bAt n) (fun _ => [TC.i 0]) (fun p => decide (p < sz))) (sz : Int) (sz : Int)).val = _
    refine Tr.n (by simp) ?_
    rw [wr_bRows]
    rfl
theorem impl_putBytes_is3 : LoopIs tab FT D18 live 99 impl_putBytes_lo 0 3 := by
  refine loop_told (sl := impl_putBytes_3_sl) (step := impl_putBytes_3_st) (out := impl_putBytes_3_out) (lor := impl_putBytes_lo3) (fin := fun x => (impl_putBytes_3_fin (x.1) (x.2.1) (x.2.2.1) (x.2.2.2))) (fun _ => rfl) ?_ (fun x n => impl_putBytes_3_r x.1 x.2.1 x.2.2.1 x.2.2.2 n) (fun x ow => impl_putBytes_3_h x.1 x.2.1 x.2.2.1 x.2.2.2 ow)
  intro s t h
  unfold impl_putBytes_lo3 at h
  split at h
  · cases h; exact ⟨(_, _, _, _), rfl, rfl⟩
  · cases h
noncomputable def impl_putBytes_t (n : Int) (size : Int) : Tr (List UInt8) := (.ite (0 ≤ size ∧ size ≤ size ∧ size * 1 ≤ 140737488355328 ∧ size ≤ 140737488355328) (.ite ((impl_putBytes_o3_1 n (List.replicate (size).toNat [TC.i (0 : Int)]) ((List.replicate (size).toNat [TC.i (0 : Int)]).length : Int) (0 : Int)) = true) (.ok ((impl_putBytes_u3_1 n (List.replicate (size).toNat [TC.i (0 : Int)]) ((List.replicate (size).toNat [TC.i (0 : Int)]).length : Int) (0 : Int)).map byteOf))
   .no)
  .no)
def impl_putBytes_mk (p : List UInt8) : Res := [(false, [⟨.str, .sh, TC.s p⟩])]
noncomputable def impl_putBytes_c (n : Int) (size : Int) : Bool := is (∃ sz : Nat, size = (sz : Int) ∧ sz ≤ 8)
noncomputable def impl_putBytes_v (n : Int) (size : Int) : List UInt8 := hid (bytesL n size.toNat)
theorem impl_putBytes_l (n : Int) (size : Int) : (impl_putBytes_c n size) = true → (impl_putBytes_t n size).val = some (impl_putBytes_v n size) := by
  intro h
  obtain ⟨sz, rfl, h8⟩ := is_iff.1 h
  unfold impl_putBytes_t
  refine Tr.t (by omega) ?_
  refine Tr.t (is_true ⟨sz, by simp, h8, rfl, rfl⟩) ?_
  unfold impl_putBytes_v
  rw [hid_eq]; simp; rfl
noncomputable def impl_putBytes_S : List Arg → Option (Bool × Res) := fun xs => match xs with
  | [(false, [(.int .i64, TC.i n)]), (false, [(.int .i64, TC.i size)])] => some ((impl_putBytes_c n size), impl_putBytes_mk (impl_putBytes_v n size))
  | _ => .none
theorem impl_putBytes_e (n : Int) (size : Int) : runF tab FT D18 live 99 impl_putBytes_lo [(false, [(.int .i64, TC.i n)]), (false, [(.int .i64, TC.i size)])] = (impl_putBytes_t n size).run fun p => some (impl_putBytes_mk p) := by kernel_rfl
theorem impl_putBytes_s : ∀ xs r, impl_putBytes_S xs = some (true, r) → runF tab FT D18 live 99 impl_putBytes_lo xs = some r := by
  intro xs r h
  unfold impl_putBytes_S at h
  split at h
  · simp only [Option.some.injEq, Prod.mk.injEq] at h
    obtain ⟨h1, rfl⟩ := h
    exact fun_told (impl_putBytes_e _ _) (impl_putBytes_l _ _) h1
  · cases h
noncomputable def D19 : Dt := also D18 99 impl_putBytes_S
theorem d19 : DOk Go.Proofs.Try.prog tab D19 := d18.also mixed_ok tab_ok names_ok (fnLoops_one (by kernel_rfl) impl_putBytes_is3) impl_putBytes_s
theorem impl_putBytes_h {n size : Int} : impl_putBytes_v n size = bytesL n size.toNat := hid_eq _
theorem impl_putBytes_len {n : Int} {sz : Nat} : (impl_putBytes_v n (sz : Int)).length = sz := by rw [impl_putBytes_h]; exact bytesL_len
/-! impl_Header_encode -/
abbrev impl_Header_encode_4_σ := Int × Int × List (List TC) × List UInt8 × List (List TC) × Int × Int
abbrev impl_Header_encode_4_ω := (List UInt8)
noncomputable def impl_Header_encode_4_step (k : Int) (r : Int) (A : List (List TC)) (out : List UInt8) (B : List (List TC)) (m : Int) (i : Int) : Tr (impl_Header_encode_4_σ ⊕ impl_Header_encode_4_ω) := (.ite ((decide (i < m)) = true) (.ite ((0 : Int) ≤ i ∧ i < (B.length : Int)) (.ite ((impl_putBytes_c ((nth (row B i) 0).int) (1 : Int)) = true) (.ite ((impl_putBytes_c ((nth (row B i) 1).int) (1 : Int)) = true) (.ite ((((impl_putBytes_v ((nth (row B i) 0).int) (1 : Int)).length + (impl_putBytes_v ((nth (row B i) 1).int) (1 : Int)).length : Nat) : Int) ≤ 9223372036854775807) (.ite ((impl_putBytes_c (((nth (row B i) 2).str).length : Int) (1 : Int)) = true) (.ite (((((impl_putBytes_v ((nth (row B i) 0).int) (1 : Int)) ++ (impl_putBytes_v ((nth (row B i) 1).int) (1 : Int))).length + (impl_putBytes_v (((nth (row B i) 2).str).length : Int) (1 : Int)).length : Nat) : Int) ≤ 9223372036854775807) (.ite ((((((impl_putBytes_v ((nth (row B i) 0).int) (1 : Int)) ++ (impl_putBytes_v ((nth (row B i) 1).int) (1 : Int))) ++ (impl_putBytes_v (((nth (row B i) 2).str).length : Int) (1 : Int))).length + ((nth (row B i) 2).str).length : Nat) : Int) ≤ 9223372036854775807) (.ite (fits (out.length + ((((impl_putBytes_v ((nth (row B i) 0).int) (1 : Int)) ++ (impl_putBytes_v ((nth (row B i) 1).int) (1 : Int))) ++ (impl_putBytes_v (((nth (row B i) 2).str).length : Int) (1 : Int))) ++ (nth (row B i) 2).str).length)) (.ok (.inl (k, r, A, (out ++ ((((impl_putBytes_v ((nth (row B i) 0).int) (1 : Int)) ++ (impl_putBytes_v ((nth (row B i) 1).int) (1 : Int))) ++ (impl_putBytes_v (((nth (row B i) 2).str).length : Int) (1 : Int))) ++ (nth (row B i) 2).str)), B, m, (IntKind.wrap .i64 (i + (1 : Int))))))
          .no)
         .no)
        .no)
       .no)
      .no)
     .no)
    .no)
   .no)
  (.ok (.inr out)))
noncomputable def impl_Header_encode_4_st : impl_Header_encode_4_σ → Tr (impl_Header_encode_4_σ ⊕ impl_Header_encode_4_ω) := fun x => (impl_Header_encode_4_step (x.1) (x.2.1) (x.2.2.1) (x.2.2.2.1) (x.2.2.2.2.1) (x.2.2.2.2.2.1) (x.2.2.2.2.2.2))
noncomputable def impl_Header_encode_o4_1 (k : Int) (r : Int) (A : List (List TC)) (out : List UInt8) (B : List (List TC)) (m : Int) (i : Int) : Bool := is (Typed tab (.slice 124) (.l B) ∧ B.length ≤ 24 ∧ B.all msgOk = true ∧ out.length ≤ 100 ∧ i = 0 ∧ m = (B.length : Int))
noncomputable def impl_Header_encode_u4_1 (k : Int) (r : Int) (A : List (List TC)) (out : List UInt8) (B : List (List TC)) (m : Int) (i : Int) : List UInt8 := out ++ hdrL B B.length
noncomputable def impl_Header_encode_4_fin (k : Int) (r : Int) (A : List (List TC)) (out : List UInt8) (B : List (List TC)) (m : Int) (i : Int) : Told impl_Header_encode_4_ω := (.leaf (impl_Header_encode_o4_1 k r A out B m i) (impl_Header_encode_u4_1 k r A out B m i))
def impl_Header_encode_4_sl (x : impl_Header_encode_4_σ) : List Slot := [⟨.bx 29 [⟨.int .i64, .sh, TC.i (x.1)⟩, ⟨.int .i64, .sh, TC.i (x.2.1)⟩, ⟨.slice 124, .sh, TC.l (x.2.2.1)⟩], ⟨0, 0⟩⟩, ⟨.bld 133 5 (x.2.2.2.1), ⟨0, 0⟩⟩, ⟨.val false [⟨.slice 124, .sh, TC.l (x.2.2.2.2.1)⟩], ⟨0, 0⟩⟩, ⟨.val false [⟨.int .i64, .sh, TC.i (x.2.2.2.2.2.1)⟩], ⟨0, 0⟩⟩, ⟨.val false [⟨.int .i64, .sh, TC.i (x.2.2.2.2.2.2)⟩], ⟨0, 0⟩⟩]
def impl_Header_encode_4_out : impl_Header_encode_4_ω → Ex × List Slot := (fun x => (.exit 0, [Slot.none, ⟨.bld 133 5 x, ⟨0, 0⟩⟩]))
noncomputable def impl_Header_encode_lo4 : List Slot → Option (Told (Ex × List Slot)) := fun s => match s with
  | [⟨.bx 29 [⟨.int .i64, .sh, TC.i k⟩, ⟨.int .i64, .sh, TC.i r⟩, ⟨.slice 124, .sh, TC.l A⟩], ⟨0, 0⟩⟩, ⟨.bld 133 5 out, ⟨0, 0⟩⟩, ⟨.val false [⟨.slice 124, .sh, TC.l B⟩], ⟨0, 0⟩⟩, ⟨.val false [⟨.int .i64, .sh, TC.i m⟩], ⟨0, 0⟩⟩, ⟨.val false [⟨.int .i64, .sh, TC.i i⟩], ⟨0, 0⟩⟩] => some (((impl_Header_encode_4_fin k r A out B m i)).map impl_Header_encode_4_out)
  | _ => .none
noncomputable def impl_Header_encode_lo : LoopTeller := fun r s => bif Nat.beq r 4 then impl_Header_encode_lo4 s else .none
theorem impl_Header_encode_4_r (k : Int) (r : Int) (A : List (List TC)) (out : List UInt8) (B : List (List TC)) (m : Int) (i : Int) (fuel : Nat) : rounds (rnd tab FT D19 live 46 impl_Header_encode_lo 0 4) leave (fuel + 1) (impl_Header_encode_4_sl (k, r, A, out, B, m, i)) = ((impl_Header_encode_4_step k r A out B m i)).run (goOn (fun s => rounds (rnd tab FT D19 live 46 impl_Header_encode_lo 0 4) leave fuel (impl_Header_encode_4_sl s)) fun w => some (impl_Header_encode_4_out w)) := by kernel_rfl
theorem impl_Header_encode_4_h (k : Int) (r : Int) (A : List (List TC)) (out : List UInt8) (B : List (List TC)) (m : Int) (i : Int) (ow : impl_Header_encode_4_ω) : ((impl_Header_encode_4_fin k r A out B m i)).val = some ow → ∃ fuel, loopN impl_Header_encode_4_st fuel (k, r, A, out, B, m, i) = some ow := by
  intro h
  refine auto_leaf (R := out ++ hdrL B B.length) (fun ho => ?_) h
  obtain ⟨ht, h24, hall, hout, rfl, rfl⟩ := is_iff.1 ho
  refine ⟨B.length + 1, Eq.trans (congrArg (loopN impl_Header_encode_4_st (B.length + 1)) (by simp [hdrL])) (loopN_run (step := impl_Header_encode_4_st) (N := B.length) (fun j => (k, r, A, out ++ hdrL B j, B, (B.length : Int), (j : Int))) (fun j hj => ?_) ?_ B.length 0 (by omega))⟩
  · have hl := hdrL_len hall j (by omega)
    have hm : msgOk (row B (j : Int)) = true := List.all_eq_true.1 hall _ (mem_getD hj)
    have hm2 : ((nth (row B (j : Int)) 2).str.length : Int) ≤ 200 := by
      unfold msgOk at hm
      rw [Bool.and_eq_true] at hm
      have h2 : ¬ ((nth (row B (j : Int)) 2).str.length : Int) > 200 := by simpa using hm.2
      omega
    show (impl_Header_encode_4_step k r A (out ++ hdrL B j) B (B.length : Int) (j : Int)).val = _
    unfold impl_Header_encode_4_step
    rw [impl_putBytes_h, impl_putBytes_h, impl_putBytes_h]
    refine Tr.t (by simp; omega) ?_
    refine Tr.t (by omega) ?_
    refine Tr.t (is_true ⟨1, rfl, by omega⟩) ?_
    refine Tr.t (is_true ⟨1, rfl, by omega⟩) ?_
    refine Tr.t (by simp only [bytesL_len]; omega) ?_
    refine Tr.t (is_true ⟨1, rfl, by omega⟩) ?_
    refine Tr.t (by simp only [List.length_append, bytesL_len]; omega) ?_
    refine Tr.t (by simp only [List.length_append, bytesL_len]; omega) ?_
    refine Tr.t (show ((_ : Nat) : Int) ≤ 140737488355328 from by simp only [List.length_append, bytesL_len]; omega) ?_
    rw [Tr.val_ok, wrap64 (i := (j : Int) + 1) (by omega) (by omega), List.append_assoc]; rfl
  · show (impl_Header_encode_4_step k r A (out ++ hdrL B B.length) B (B.length : Int) (B.length : Int)).val = _
    unfold impl_Header_encode_4_step
    refine Tr.n (by simp) ?_
    rfl
theorem impl_Header_encode_is4 : LoopIs tab FT D19 live 46 impl_Header_encode_lo 0 4 := by
  refine loop_told (sl := impl_Header_encode_4_sl) (step := impl_Header_encode_4_st) (out := impl_Header_encode_4_out) (lor := impl_Header_encode_lo4) (fin := fun x => (impl_Header_encode_4_fin (x.1) (x.2.1) (x.2.2.1) (x.2.2.2.1) (x.2.2.2.2.1) (x.2.2.2.2.2.1) (x.2.2.2.2.2.2))) (fun _ => rfl) ?_ (fun x n => impl_Header_encode_4_r x.1 x.2.1 x.2.2.1 x.2.2.2.1 x.2.2.2.2.1 x.2.2.2.2.2.1 x.2.2.2.2.2.2 n) (fun x ow => impl_Header_encode_4_h x.1 x.2.1 x.2.2.1 x.2.2.2.1 x.2.2.2.2.1 x.2.2.2.2.2.1 x.2.2.2.2.2.2 ow)
  intro s t h
  unfold impl_Header_encode_lo4 at h
  split at h
  · cases h; exact ⟨(_, _, _, _, _, _, _), rfl, rfl⟩
  · cases h
noncomputable def impl_Header_encode_t (k : Int) (r : Int) (A : List (List TC)) : Tr (List UInt8) := (.ite ((impl_putBytes_c k (1 : Int)) = true) (.ite ((impl_putBytes_c r (2 : Int)) = true) (.ite ((((impl_putBytes_v k (1 : Int)).length + (impl_putBytes_v r (2 : Int)).length : Nat) : Int) ≤ 9223372036854775807) (.ite ((impl_putBytes_c (A.length : Int) (1 : Int)) = true) (.ite (((((impl_putBytes_v k (1 : Int)) ++ (impl_putBytes_v r (2 : Int))).length + (impl_putBytes_v (A.length : Int) (1 : Int)).length : Nat) : Int) ≤ 9223372036854775807) (.ite (fits (([] : List UInt8).length + (((impl_putBytes_v k (1 : Int)) ++ (impl_putBytes_v r (2 : Int))) ++ (impl_putBytes_v (A.length : Int) (1 : Int))).length)) (.ite ((impl_Header_encode_o4_1 k r A ([] ++ (((impl_putBytes_v k (1 : Int)) ++ (impl_putBytes_v r (2 : Int))) ++ (impl_putBytes_v (A.length : Int) (1 : Int)))) A (A.length : Int) (0 : Int)) = true) (.ok (impl_Header_encode_u4_1 k r A ([] ++ (((impl_putBytes_v k (1 : Int)) ++ (impl_putBytes_v r (2 : Int))) ++ (impl_putBytes_v (A.length : Int) (1 : Int)))) A (A.length : Int) (0 : Int)))
        .no)
       .no)
      .no)
     .no)
    .no)
   .no)
  .no)
def impl_Header_encode_mk (p : List UInt8) : Res := [(false, [⟨.str, .sh, TC.s p⟩])]
noncomputable def impl_Header_encode_c (k : Int) (r : Int) (A : List (List TC)) : Bool := is (Typed tab (.slice 124) (.l A) ∧ A.length ≤ 24 ∧ A.all msgOk = true)
noncomputable def impl_Header_encode_v (k : Int) (r : Int) (A : List (List TC)) : List UInt8 := hid (hdrV k r A)
theorem impl_Header_encode_l (k : Int) (r : Int) (A : List (List TC)) : (impl_Header_encode_c k r A) = true → (impl_Header_encode_t k r A).val = some (impl_Header_encode_v k r A) := by
  intro h
  obtain ⟨ht, h24, hall⟩ := is_iff.1 h
  unfold impl_Header_encode_t impl_Header_encode_v
  rw [hid_eq, impl_putBytes_h, impl_putBytes_h, impl_putBytes_h]
  refine Tr.t (is_true ⟨1, rfl, by omega⟩) ?_
  refine Tr.t (is_true ⟨2, rfl, by omega⟩) ?_
  refine Tr.t (by simp only [bytesL_len]; decide) ?_
  refine Tr.t (is_true ⟨1, rfl, by omega⟩) ?_
  refine Tr.t (by simp only [List.length_append, bytesL_len]; decide) ?_
  refine Tr.t (show ((_ : Nat) : Int) ≤ 140737488355328 from by simp only [List.length_append, bytesL_len]; decide) ?_
  refine Tr.t (is_true ⟨ht, h24, hall, by simp only [List.length_append, bytesL_len]; decide, rfl, rfl⟩) ?_
  rfl
noncomputable def impl_Header_encode_S : List Arg → Option (Bool × Res) := fun xs => match xs with
  | [(true, [(.int .i64, TC.i k), (.int .i64, TC.i r), (.slice 124, TC.l A)])] => some ((impl_Header_encode_c k r A), impl_Header_encode_mk (impl_Header_encode_v k r A))
  | _ => .none
theorem impl_Header_encode_e (k : Int) (r : Int) (A : List (List TC)) : runF tab FT D19 live 46 impl_Header_encode_lo [(true, [(.int .i64, TC.i k), (.int .i64, TC.i r), (.slice 124, TC.l A)])] = (impl_Header_encode_t k r A).run fun p => some (impl_Header_encode_mk p) := by kernel_rfl
theorem impl_Header_encode_s : ∀ xs r, impl_Header_encode_S xs = some (true, r) → runF tab FT D19 live 46 impl_Header_encode_lo xs = some r := by
  intro xs r h
  unfold impl_Header_encode_S at h
  split at h
  · simp only [Option.some.injEq, Prod.mk.injEq] at h
    obtain ⟨h1, rfl⟩ := h
    exact fun_told (impl_Header_encode_e _ _ _) (impl_Header_encode_l _ _ _) h1
  · cases h
noncomputable def D20 : Dt := also D19 46 impl_Header_encode_S
theorem d20 : DOk Go.Proofs.Try.prog tab D20 := d19.also mixed_ok tab_ok names_ok (fnLoops_one (by kernel_rfl) impl_Header_encode_is4) impl_Header_encode_s
theorem impl_Header_encode_h {k r : Int} {A : List (List TC)} : impl_Header_encode_v k r A = hdrV k r A := hid_eq _
/-! impl_EncodeHeader -/
theorem inI_w {a b c : Int} : impl_within_v a b c = inI a b c := rfl
theorem impl_ValidHeader_vv (k r : Int) (A : List (List TC)) : impl_ValidHeader_v k r A = hdrOk k r A := by
  have hc : slices_ContainsFunc_impl_Message_impl_Message_v A = !(A.all msgOk) := by
    unfold slices_ContainsFunc_impl_Message_impl_Message_v
    refine congrArg (fun b => !b) (congrArg (fun p => A.all p) (funext fun x => ?_))
    unfold impl_ValidHeader_1_v impl_messageOk_v msgOk
    rw [inI_w, inI_w, Bool.not_not]
    generalize inI (nth x 0).int 1 9 = p, inI (nth x 1).int 0 255 = q
    have hd : decide (((nth x 2).str.length : Int) ≤ 200) = !decide (((nth x 2).str.length : Int) > 200) := by
      rw [Bool.eq_iff_iff]
      simp
    rw [hd]
    cases p <;> cases q <;> rfl
  unfold impl_ValidHeader_v hdrOk
  rw [hc, inI_w, inI_w]
  have hd : decide ((A.length : Int) ≤ 24) = !decide ((A.length : Int) > 24) := by
    rw [Bool.eq_iff_iff]
    simp
  rw [hd]
  generalize inI k 1 3 = p1, inI r 0 1000 = p2, decide ((A.length : Int) > 24) = p3, A.all msgOk = p4
  cases p1 <;> cases p2 <;> cases p3 <;> cases p4 <;> rfl
noncomputable def impl_EncodeHeader_t (k : Int) (r : Int) (A : List (List TC)) : Tr (List UInt8) := (.ite ((impl_ValidHeader_c k r A) = true) (.ite ((!(impl_ValidHeader_v k r A)) = true) (.ok ([]))
   (.ite ((impl_Header_encode_c k r A) = true) (.ok (impl_Header_encode_v k r A))
    .no))
  .no)
def impl_EncodeHeader_mk (p : List UInt8) : Res := [(false, [⟨.str, .sh, TC.s p⟩])]
noncomputable def impl_EncodeHeader_c (k : Int) (r : Int) (A : List (List TC)) : Bool := is (Typed tab (.slice 124) (.l A))
noncomputable def impl_EncodeHeader_v (k : Int) (r : Int) (A : List (List TC)) : List UInt8 := bif hdrOk k r A then hid (hdrV k r A) else []
theorem impl_EncodeHeader_l (k : Int) (r : Int) (A : List (List TC)) : (impl_EncodeHeader_c k r A) = true → (impl_EncodeHeader_t k r A).val = some (impl_EncodeHeader_v k r A) := by
  intro h
  have hA := is_iff.1 h
  unfold impl_EncodeHeader_t impl_EncodeHeader_v
  refine Tr.t (is_true hA) ?_
  rw [impl_ValidHeader_vv]
  cases hk : hdrOk k r A with
  | false => exact Tr.t rfl rfl
  | true =>
    obtain ⟨h24, hall⟩ := hdrOk_i hk
    refine Tr.n (by simp) (Tr.t (is_true ⟨hA, h24, hall⟩) ?_)
    rfl
noncomputable def impl_EncodeHeader_S : List Arg → Option (Bool × Res) := fun xs => match xs with
  | [(true, [(.int .i64, TC.i k), (.int .i64, TC.i r), (.slice 124, TC.l A)])] => some ((impl_EncodeHeader_c k r A), impl_EncodeHeader_mk (impl_EncodeHeader_v k r A))
  | _ => .none
theorem impl_EncodeHeader_e (k : Int) (r : Int) (A : List (List TC)) : runF tab FT D20 live 12 noLoops [(true, [(.int .i64, TC.i k), (.int .i64, TC.i r), (.slice 124, TC.l A)])] = (impl_EncodeHeader_t k r A).run fun p => some (impl_EncodeHeader_mk p) := by kernel_rfl
theorem impl_EncodeHeader_s : ∀ xs r, impl_EncodeHeader_S xs = some (true, r) → runF tab FT D20 live 12 noLoops xs = some r := by
  intro xs r h
  unfold impl_EncodeHeader_S at h
  split at h
  · simp only [Option.some.injEq, Prod.mk.injEq] at h
    obtain ⟨h1, rfl⟩ := h
    exact fun_told (impl_EncodeHeader_e _ _ _) (impl_EncodeHeader_l _ _ _) h1
  · cases h
noncomputable def D21 : Dt := also D20 12 impl_EncodeHeader_S
theorem d21 : DOk Go.Proofs.Try.prog tab D21 := d20.also mixed_ok tab_ok names_ok noLoops_ok impl_EncodeHeader_s
theorem impl_EncodeHeader_h {k r : Int} {A : List (List TC)} : impl_EncodeHeader_v k r A = bif hdrOk k r A then hid (hdrV k r A) else [] := rfl
/-! laws_eqMessage -/
noncomputable def laws_eqMessage_t (x0 : Int) (x1 : Int) (x2 : List UInt8) (y0 : Int) (y1 : Int) (y2 : List UInt8) : Tr (Bool) := (.ite ((!(x0 == y0)) = true) (.ok false)
  (.ite ((!(x1 == y1)) = true) (.ok false)
   (.ite ((!(x2 == y2)) = true) (.ok false)
    (.ok true))))
def laws_eqMessage_mk (p : Bool) : Res := [(false, [⟨.bool, .sh, TC.b p⟩])]
noncomputable def laws_eqMessage_c (x0 : Int) (x1 : Int) (x2 : List UInt8) (y0 : Int) (y1 : Int) (y2 : List UInt8) : Bool := is (x0 = y0 ∧ x1 = y1 ∧ x2 = y2 ∧ Typed tab (.str) (.s x2))
noncomputable def laws_eqMessage_v (x0 : Int) (x1 : Int) (x2 : List UInt8) (y0 : Int) (y1 : Int) (y2 : List UInt8) : Bool := true
theorem laws_eqMessage_l (x0 : Int) (x1 : Int) (x2 : List UInt8) (y0 : Int) (y1 : Int) (y2 : List UInt8) : (laws_eqMessage_c x0 x1 x2 y0 y1 y2) = true → (laws_eqMessage_t x0 x1 x2 y0 y1 y2).val = some (laws_eqMessage_v x0 x1 x2 y0 y1 y2) := by
  intro h
  obtain ⟨rfl, rfl, rfl, t0⟩ := is_iff.1 h
  unfold laws_eqMessage_t
  refine Tr.n (by simp) ?_
  refine Tr.n (by simp) ?_
  refine Tr.n (by simp) ?_
  rfl
noncomputable def laws_eqMessage_S : List Arg → Option (Bool × Res) := fun xs => match xs with
  | [(true, [(.int .i64, TC.i x0), (.int .i64, TC.i x1), (.str, TC.s x2)]), (true, [(.int .i64, TC.i y0), (.int .i64, TC.i y1), (.str, TC.s y2)])] => some ((laws_eqMessage_c x0 x1 x2 y0 y1 y2), laws_eqMessage_mk (laws_eqMessage_v x0 x1 x2 y0 y1 y2))
  | _ => .none
theorem laws_eqMessage_e (x0 : Int) (x1 : Int) (x2 : List UInt8) (y0 : Int) (y1 : Int) (y2 : List UInt8) : runF tab FT D21 live 101 noLoops [(true, [(.int .i64, TC.i x0), (.int .i64, TC.i x1), (.str, TC.s x2)]), (true, [(.int .i64, TC.i y0), (.int .i64, TC.i y1), (.str, TC.s y2)])] = (laws_eqMessage_t x0 x1 x2 y0 y1 y2).run fun p => some (laws_eqMessage_mk p) := by kernel_rfl
theorem laws_eqMessage_s : ∀ xs r, laws_eqMessage_S xs = some (true, r) → runF tab FT D21 live 101 noLoops xs = some r := by
  intro xs r h
  unfold laws_eqMessage_S at h
  split at h
  · simp only [Option.some.injEq, Prod.mk.injEq] at h
    obtain ⟨h1, rfl⟩ := h
    exact fun_told (laws_eqMessage_e _ _ _ _ _ _) (laws_eqMessage_l _ _ _ _ _ _) h1
  · cases h
noncomputable def D22 : Dt := also D21 101 laws_eqMessage_S
theorem d22 : DOk Go.Proofs.Try.prog tab D22 := d21.also mixed_ok tab_ok names_ok noLoops_ok laws_eqMessage_s
/-! laws_eqMessageS -/
abbrev laws_eqMessageS_4_σ := List (List TC) × List (List TC) × Int
abbrev laws_eqMessageS_4_ω := (Unit) ⊕ (Unit)
noncomputable def laws_eqMessageS_4_step (A : List (List TC)) (C : List (List TC)) (i : Int) : Tr (laws_eqMessageS_4_σ ⊕ laws_eqMessageS_4_ω) := (.ite ((decide (i < (A.length : Int))) = true) (.ite ((0 : Int) ≤ i ∧ i < (A.length : Int)) (.ite ((0 : Int) ≤ i ∧ i < (C.length : Int)) (.ite ((laws_eqMessage_c ((nth (row A i) 0).int) ((nth (row A i) 1).int) ((nth (row A i) 2).str) ((nth (row C i) 0).int) ((nth (row C i) 1).int) ((nth (row C i) 2).str)) = true) (.ite ((!(laws_eqMessage_v ((nth (row A i) 0).int) ((nth (row A i) 1).int) ((nth (row A i) 2).str) ((nth (row C i) 0).int) ((nth (row C i) 1).int) ((nth (row C i) 2).str))) = true) (.ok (.inr (.inl ())))
      (.ok (.inl (A, C, (IntKind.wrap .i64 (i + (1 : Int)))))))
     .no)
    .no)
   .no)
  (.ok (.inr (.inr ()))))
noncomputable def laws_eqMessageS_4_st : laws_eqMessageS_4_σ → Tr (laws_eqMessageS_4_σ ⊕ laws_eqMessageS_4_ω) := fun x => (laws_eqMessageS_4_step (x.1) (x.2.1) (x.2.2))
noncomputable def laws_eqMessageS_o4_1 (A : List (List TC)) (C : List (List TC)) (i : Int) : Bool := is (A = C ∧ i = 0 ∧ Typed tab (.slice 124) (.l A))
noncomputable def laws_eqMessageS_4_fin (A : List (List TC)) (C : List (List TC)) (i : Int) : Told laws_eqMessageS_4_ω := (.leaf (laws_eqMessageS_o4_1 A C i) (.inr ()))
def laws_eqMessageS_4_sl (x : laws_eqMessageS_4_σ) : List Slot := [⟨.val false [⟨.slice 124, .sh, TC.l (x.1)⟩], ⟨0, 0⟩⟩, ⟨.val false [⟨.slice 124, .sh, TC.l (x.2.1)⟩], ⟨0, 0⟩⟩, ⟨.val false [⟨.int .i64, .sh, TC.i (x.2.2)⟩], ⟨0, 0⟩⟩]
def laws_eqMessageS_4_out : laws_eqMessageS_4_ω → Ex × List Slot := (Sum.elim (fun x => (.ret, [⟨.val false [⟨.bool, .sh, TC.b false⟩], ⟨0, 0⟩⟩])) (fun x => (.exit 0, [Slot.none])))
noncomputable def laws_eqMessageS_lo4 : List Slot → Option (Told (Ex × List Slot)) := fun s => match s with
  | [⟨.val false [⟨.slice 124, .sh, TC.l A⟩], ⟨0, 0⟩⟩, ⟨.val false [⟨.slice 124, .sh, TC.l C⟩], ⟨0, 0⟩⟩, ⟨.val false [⟨.int .i64, .sh, TC.i i⟩], ⟨0, 0⟩⟩] => some (((laws_eqMessageS_4_fin A C i)).map laws_eqMessageS_4_out)
  | _ => .none
noncomputable def laws_eqMessageS_lo : LoopTeller := fun r s => bif Nat.beq r 4 then laws_eqMessageS_lo4 s else .none
theorem laws_eqMessageS_4_r (A : List (List TC)) (C : List (List TC)) (i : Int) (fuel : Nat) : rounds (rnd tab FT D22 live 47 laws_eqMessageS_lo 0 4) leave (fuel + 1) (laws_eqMessageS_4_sl (A, C, i)) = ((laws_eqMessageS_4_step A C i)).run (goOn (fun s => rounds (rnd tab FT D22 live 47 laws_eqMessageS_lo 0 4) leave fuel (laws_eqMessageS_4_sl s)) fun w => some (laws_eqMessageS_4_out w)) := by kernel_rfl
theorem laws_eqMessageS_4_h (A : List (List TC)) (C : List (List TC)) (i : Int) (ow : laws_eqMessageS_4_ω) : ((laws_eqMessageS_4_fin A C i)).val = some ow → ∃ fuel, loopN laws_eqMessageS_4_st fuel (A, C, i) = some ow := by
  intro h
  simp only [laws_eqMessageS_4_fin, Told.val] at h
  split at h
  · rename_i ho
    obtain ⟨rfl, rfl, ht⟩ := is_iff.1 ho
    cases h
    have hlen : A.length ≤ 140737488351232 := by have := typed_room ht; simp only [show (tab 124).bytes = 32 from rfl] at this; omega
    refine ⟨_, loopN_run (N := A.length) (fun i => (A, A, (i : Int))) (fun i hi => ?_) ?_ A.length 0 (by omega)⟩
    · have c2 : Typed tab (.str) (.s (nth (A.getD i []) 2).str) := typed_s (typed_cell ht (A.getD i []) (mem_getD hi) 2 (by decide))
      show (laws_eqMessageS_4_step A A (i : Int)).val = _
      unfold laws_eqMessageS_4_step
      refine Tr.t (by simp; omega) ?_
      refine Tr.t (by constructor <;> omega) ?_
      refine Tr.t (by constructor <;> omega) ?_
      refine Tr.t (by first | (apply is_true; and_intros <;> (first | rfl | assumption | (apply spec_l14Ok_cc <;> assumption) | (first | (apply is_true; and_intros <;> (first | rfl | assumption | (apply spec_l14Ok_cc <;> assumption) | (first | (apply is_true; and_intros <;> (first | rfl | assumption | (apply spec_l14Ok_cc <;> assumption) | (first | (apply is_true; and_intros <;> (first | rfl | assumption | (apply spec_l14Ok_cc <;> assumption))) | (apply spec_l14Ok_cc <;> assumption)))) | (apply spec_l14Ok_cc <;> assumption)))) | (apply spec_l14Ok_cc <;> assumption)))) | (apply spec_l14Ok_cc <;> assumption)) ?_
      refine Tr.n (by simp [laws_eqMessage_v]) ?_
      rw [Tr.val_ok, wrap64 (i := (i : Int) + 1) (by omega) (by omega)]; rfl
    · show (laws_eqMessageS_4_step A A (A.length : Int)).val = _
      refine Tr.n (by simp) ?_
      rfl
  · cases h
theorem laws_eqMessageS_is4 : LoopIs tab FT D22 live 47 laws_eqMessageS_lo 0 4 := by
  refine loop_told (sl := laws_eqMessageS_4_sl) (step := laws_eqMessageS_4_st) (out := laws_eqMessageS_4_out) (lor := laws_eqMessageS_lo4) (fin := fun x => (laws_eqMessageS_4_fin (x.1) (x.2.1) (x.2.2))) (fun _ => rfl) ?_ (fun x n => laws_eqMessageS_4_r x.1 x.2.1 x.2.2 n) (fun x ow => laws_eqMessageS_4_h x.1 x.2.1 x.2.2 ow)
  intro s t h
  unfold laws_eqMessageS_lo4 at h
  split at h
  · cases h; exact ⟨(_, _, _), rfl, rfl⟩
  · cases h
noncomputable def laws_eqMessageS_t (A : List (List TC)) (C : List (List TC)) : Tr (Bool) := (.ite ((!((A.length : Int) == (C.length : Int))) = true) (.ok false)
  (.ite ((laws_eqMessageS_o4_1 A C (0 : Int)) = true) (.ok true)
   .no))
def laws_eqMessageS_mk (p : Bool) : Res := [(false, [⟨.bool, .sh, TC.b p⟩])]
noncomputable def laws_eqMessageS_c (A : List (List TC)) (C : List (List TC)) : Bool := is (A = C ∧ Typed tab (.slice 124) (.l A))
noncomputable def laws_eqMessageS_v (A : List (List TC)) (C : List (List TC)) : Bool := true
theorem laws_eqMessageS_l (A : List (List TC)) (C : List (List TC)) : (laws_eqMessageS_c A C) = true → (laws_eqMessageS_t A C).val = some (laws_eqMessageS_v A C) := by
  intro h
  obtain ⟨rfl, ht⟩ := is_iff.1 h
  unfold laws_eqMessageS_t
  refine Tr.n (by simp) ?_
  refine Tr.t (by first | (apply is_true; and_intros <;> (first | rfl | assumption | (apply spec_l14Ok_cc <;> assumption) | (first | (apply is_true; and_intros <;> (first | rfl | assumption | (apply spec_l14Ok_cc <;> assumption) | (first | (apply is_true; and_intros <;> (first | rfl | assumption | (apply spec_l14Ok_cc <;> assumption) | (first | (apply is_true; and_intros <;> (first | rfl | assumption | (apply spec_l14Ok_cc <;> assumption))) | (apply spec_l14Ok_cc <;> assumption)))) | (apply spec_l14Ok_cc <;> assumption)))) | (apply spec_l14Ok_cc <;> assumption)))) | (apply spec_l14Ok_cc <;> assumption)) ?_
  rfl
noncomputable def laws_eqMessageS_S : List Arg → Option (Bool × Res) := fun xs => match xs with
  | [(false, [(.slice 124, TC.l A)]), (false, [(.slice 124, TC.l C)])] => some ((laws_eqMessageS_c A C), laws_eqMessageS_mk (laws_eqMessageS_v A C))
  | _ => .none
theorem laws_eqMessageS_e (A : List (List TC)) (C : List (List TC)) : runF tab FT D22 live 47 laws_eqMessageS_lo [(false, [(.slice 124, TC.l A)]), (false, [(.slice 124, TC.l C)])] = (laws_eqMessageS_t A C).run fun p => some (laws_eqMessageS_mk p) := by kernel_rfl
theorem laws_eqMessageS_s : ∀ xs r, laws_eqMessageS_S xs = some (true, r) → runF tab FT D22 live 47 laws_eqMessageS_lo xs = some r := by
  intro xs r h
  unfold laws_eqMessageS_S at h
  split at h
  · simp only [Option.some.injEq, Prod.mk.injEq] at h
    obtain ⟨h1, rfl⟩ := h
    exact fun_told (laws_eqMessageS_e _ _) (laws_eqMessageS_l _ _) h1
  · cases h
noncomputable def D23 : Dt := also D22 47 laws_eqMessageS_S
theorem d23 : DOk Go.Proofs.Try.prog tab D23 := d22.also mixed_ok tab_ok names_ok (fnLoops_one (by kernel_rfl) laws_eqMessageS_is4) laws_eqMessageS_s
/-! laws_eqHeader -/
noncomputable def laws_eqHeader_t (x0 : Int) (x1 : Int) (x2 : List (List TC)) (y0 : Int) (y1 : Int) (y2 : List (List TC)) : Tr (Bool) := (.ite ((!(x0 == y0)) = true) (.ok false)
  (.ite ((!(x1 == y1)) = true) (.ok false)
   (.ite ((laws_eqMessageS_c x2 y2) = true) (.ite ((!(laws_eqMessageS_v x2 y2)) = true) (.ok false)
     (.ok true))
    .no)))
def laws_eqHeader_mk (p : Bool) : Res := [(false, [⟨.bool, .sh, TC.b p⟩])]
noncomputable def laws_eqHeader_c (x0 : Int) (x1 : Int) (x2 : List (List TC)) (y0 : Int) (y1 : Int) (y2 : List (List TC)) : Bool := is (x0 = y0 ∧ x1 = y1 ∧ x2 = y2 ∧ Typed tab (.slice 124) (.l x2))
noncomputable def laws_eqHeader_v (x0 : Int) (x1 : Int) (x2 : List (List TC)) (y0 : Int) (y1 : Int) (y2 : List (List TC)) : Bool := true
theorem laws_eqHeader_l (x0 : Int) (x1 : Int) (x2 : List (List TC)) (y0 : Int) (y1 : Int) (y2 : List (List TC)) : (laws_eqHeader_c x0 x1 x2 y0 y1 y2) = true → (laws_eqHeader_t x0 x1 x2 y0 y1 y2).val = some (laws_eqHeader_v x0 x1 x2 y0 y1 y2) := by
  intro h
  obtain ⟨rfl, rfl, rfl, t0⟩ := is_iff.1 h
  unfold laws_eqHeader_t
  refine Tr.n (by simp) ?_
  refine Tr.n (by simp) ?_
  refine Tr.t (by first | (apply is_true; and_intros <;> (first | rfl | assumption | (apply spec_l14Ok_cc <;> assumption) | (first | (apply is_true; and_intros <;> (first | rfl | assumption | (apply spec_l14Ok_cc <;> assumption) | (first | (apply is_true; and_intros <;> (first | rfl | assumption | (apply spec_l14Ok_cc <;> assumption) | (first | (apply is_true; and_intros <;> (first | rfl | assumption | (apply spec_l14Ok_cc <;> assumption))) | (apply spec_l14Ok_cc <;> assumption)))) | (apply spec_l14Ok_cc <;> assumption)))) | (apply spec_l14Ok_cc <;> assumption)))) | (apply spec_l14Ok_cc <;> assumption)) ?_
  refine Tr.n (by simp [laws_eqMessageS_v]) ?_
  rfl
noncomputable def laws_eqHeader_S : List Arg → Option (Bool × Res) := fun xs => match xs with
  | [(true, [(.int .i64, TC.i x0), (.int .i64, TC.i x1), (.slice 124, TC.l x2)]), (true, [(.int .i64, TC.i y0), (.int .i64, TC.i y1), (.slice 124, TC.l y2)])] => some ((laws_eqHeader_c x0 x1 x2 y0 y1 y2), laws_eqHeader_mk (laws_eqHeader_v x0 x1 x2 y0 y1 y2))
  | _ => .none
theorem laws_eqHeader_e (x0 : Int) (x1 : Int) (x2 : List (List TC)) (y0 : Int) (y1 : Int) (y2 : List (List TC)) : runF tab FT D23 live 13 noLoops [(true, [(.int .i64, TC.i x0), (.int .i64, TC.i x1), (.slice 124, TC.l x2)]), (true, [(.int .i64, TC.i y0), (.int .i64, TC.i y1), (.slice 124, TC.l y2)])] = (laws_eqHeader_t x0 x1 x2 y0 y1 y2).run fun p => some (laws_eqHeader_mk p) := by kernel_rfl
theorem laws_eqHeader_s : ∀ xs r, laws_eqHeader_S xs = some (true, r) → runF tab FT D23 live 13 noLoops xs = some r := by
  intro xs r h
  unfold laws_eqHeader_S at h
  split at h
  · simp only [Option.some.injEq, Prod.mk.injEq] at h
    obtain ⟨h1, rfl⟩ := h
    exact fun_told (laws_eqHeader_e _ _ _ _ _ _) (laws_eqHeader_l _ _ _ _ _ _) h1
  · cases h
noncomputable def D24 : Dt := also D23 13 laws_eqHeader_S
theorem d24 : DOk Go.Proofs.Try.prog tab D24 := d23.also mixed_ok tab_ok names_ok noLoops_ok laws_eqHeader_s
/-! the law -/
noncomputable def laws_FnExactEncodeHeader_t (x0 : Int) (x1 : Int) (x2 : List (List TC)) : Tr Bool := (.ite ((laws_szHeader_c x0 x1 x2 (1048576 : Int)) = true) (.ite ((decide ((laws_szHeader_v x0 x1 x2 (1048576 : Int)) < (0 : Int))) = true) (.ok true)
   (.ite ((laws_toHeader_c x0 x1 x2) = true) (.ite ((spec_EncodeHeader_c ((laws_toHeader_v x0 x1 x2).1) ((laws_toHeader_v x0 x1 x2).2.1) ((laws_toHeader_v x0 x1 x2).2.2)) = true) (.ite ((laws_toHeader_c x0 x1 x2) = true) (.ite ((impl_EncodeHeader_c ((laws_toHeader_v x0 x1 x2).1) ((laws_toHeader_v x0 x1 x2).2.1) ((laws_toHeader_v x0 x1 x2).2.2)) = true) (.ite ((!((impl_EncodeHeader_v ((laws_toHeader_v x0 x1 x2).1) ((laws_toHeader_v x0 x1 x2).2.1) ((laws_toHeader_v x0 x1 x2).2.2)) == (spec_EncodeHeader_v ((laws_toHeader_v x0 x1 x2).1) ((laws_toHeader_v x0 x1 x2).2.1) ((laws_toHeader_v x0 x1 x2).2.2)))) = true) (.ok false)
        (.ite ((laws_toHeader_c x0 x1 x2) = true) (.ite ((laws_eqHeader_c ((laws_toHeader_v x0 x1 x2).1) ((laws_toHeader_v x0 x1 x2).2.1) ((laws_toHeader_v x0 x1 x2).2.2) ((laws_toHeader_v x0 x1 x2).1) ((laws_toHeader_v x0 x1 x2).2.1) ((laws_toHeader_v x0 x1 x2).2.2)) = true) (.ite ((!(laws_eqHeader_v ((laws_toHeader_v x0 x1 x2).1) ((laws_toHeader_v x0 x1 x2).2.1) ((laws_toHeader_v x0 x1 x2).2.2) ((laws_toHeader_v x0 x1 x2).1) ((laws_toHeader_v x0 x1 x2).2.1) ((laws_toHeader_v x0 x1 x2).2.2))) = true) (.ok false)
           (.ok true))
          .no)
         .no))
       .no)
      .no)
     .no)
    .no))
  .no)
theorem laws_FnExactEncodeHeader_e (x0 : Int) (x1 : Int) (x2 : List (List TC)) : runF tab FT D24 live 3 noLoops [(true, [(.int .i64, TC.i x0), (.int .i64, TC.i x1), (.slice 122, TC.l x2)])] = (laws_FnExactEncodeHeader_t x0 x1 x2).run fun p => some [(false, [⟨.bool, .sh, .b p⟩])] := by kernel_rfl
theorem EncodeHeader_eq (k r : Int) (A : List (List TC)) : spec_EncodeHeader_v k r A = impl_EncodeHeader_v k r A := by
  rw [spec_EncodeHeader_h, impl_EncodeHeader_h]
theorem laws_FnExactEncodeHeader_p (x0 : Int) (x1 : Int) (x2 : List (List TC)) (h0 : Typed tab (.int .i64) (.i x0)) (h1 : Typed tab (.int .i64) (.i x1)) (h2 : Typed tab (.slice 122) (.l x2)) : (laws_FnExactEncodeHeader_t x0 x1 x2).val = some true := by
  have t2_124 := laws_toMessageS_ty h2
  unfold laws_FnExactEncodeHeader_t
  rw [EncodeHeader_eq]
  refine Tr.t (by first | exact (by first | (apply is_true; and_intros <;> (first | rfl | assumption | (apply spec_l14Ok_cc <;> assumption) | (first | (apply is_true; and_intros <;> (first | rfl | assumption | (apply spec_l14Ok_cc <;> assumption) | (first | (apply is_true; and_intros <;> (first | rfl | assumption | (apply spec_l14Ok_cc <;> assumption) | (first | (apply is_true; and_intros <;> (first | rfl | assumption | (apply spec_l14Ok_cc <;> assumption))) | (apply spec_l14Ok_cc <;> assumption)))) | (apply spec_l14Ok_cc <;> assumption)))) | (apply spec_l14Ok_cc <;> assumption)))) | (apply spec_l14Ok_cc <;> assumption)) | simp [*]) ?_
  refine Tr.y ?_
  refine Tr.t (by first | exact (by first | (apply is_true; and_intros <;> (first | rfl | assumption | (apply spec_l14Ok_cc <;> assumption) | (first | (apply is_true; and_intros <;> (first | rfl | assumption | (apply spec_l14Ok_cc <;> assumption) | (first | (apply is_true; and_intros <;> (first | rfl | assumption | (apply spec_l14Ok_cc <;> assumption) | (first | (apply is_true; and_intros <;> (first | rfl | assumption | (apply spec_l14Ok_cc <;> assumption))) | (apply spec_l14Ok_cc <;> assumption)))) | (apply spec_l14Ok_cc <;> assumption)))) | (apply spec_l14Ok_cc <;> assumption)))) | (apply spec_l14Ok_cc <;> assumption)) | simp [*]) ?_
  refine Tr.t (by first | exact (by first | (apply is_true; and_intros <;> (first | rfl | assumption | (apply spec_l14Ok_cc <;> assumption) | (first | (apply is_true; and_intros <;> (first | rfl | assumption | (apply spec_l14Ok_cc <;> assumption) | (first | (apply is_true; and_intros <;> (first | rfl | assumption | (apply spec_l14Ok_cc <;> assumption) | (first | (apply is_true; and_intros <;> (first | rfl | assumption | (apply spec_l14Ok_cc <;> assumption))) | (apply spec_l14Ok_cc <;> assumption)))) | (apply spec_l14Ok_cc <;> assumption)))) | (apply spec_l14Ok_cc <;> assumption)))) | (apply spec_l14Ok_cc <;> assumption)) | simp [*]) ?_
  refine Tr.t (by first | exact (by first | (apply is_true; and_intros <;> (first | rfl | assumption | (apply spec_l14Ok_cc <;> assumption) | (first | (apply is_true; and_intros <;> (first | rfl | assumption | (apply spec_l14Ok_cc <;> assumption) | (first | (apply is_true; and_intros <;> (first | rfl | assumption | (apply spec_l14Ok_cc <;> assumption) | (first | (apply is_true; and_intros <;> (first | rfl | assumption | (apply spec_l14Ok_cc <;> assumption))) | (apply spec_l14Ok_cc <;> assumption)))) | (apply spec_l14Ok_cc <;> assumption)))) | (apply spec_l14Ok_cc <;> assumption)))) | (apply spec_l14Ok_cc <;> assumption)) | simp [*]) ?_
  refine Tr.t (by first | exact (by first | (apply is_true; and_intros <;> (first | rfl | assumption | (apply spec_l14Ok_cc <;> assumption) | (first | (apply is_true; and_intros <;> (first | rfl | assumption | (apply spec_l14Ok_cc <;> assumption) | (first | (apply is_true; and_intros <;> (first | rfl | assumption | (apply spec_l14Ok_cc <;> assumption) | (first | (apply is_true; and_intros <;> (first | rfl | assumption | (apply spec_l14Ok_cc <;> assumption))) | (apply spec_l14Ok_cc <;> assumption)))) | (apply spec_l14Ok_cc <;> assumption)))) | (apply spec_l14Ok_cc <;> assumption)))) | (apply spec_l14Ok_cc <;> assumption)) | simp [*]) ?_
  refine Tr.n (by first | (simp [laws_szMessage_v, laws_szMessageS_k5_1, laws_szMessageS_u5_2, laws_szMessageS_u5_3, laws_szMessageS_v, laws_szHeader_v, laws_toMessage_v, laws_toMessageS_u3_1, laws_toMessageS_v, laws_toHeader_v, spec_l00In_v, spec_l14Ok_k4_1, spec_l14Ok_v, spec_l02Byte_v, spec_l02Put_u3_1, spec_l02Put_v, spec_l14Encode_u3_1, spec_l14Encode_v, spec_EncodeHeader_v, impl_within_v, impl_messageOk_v, impl_ValidHeader_1_v, slices_IndexFunc_impl_Message_impl_Message_k2_1, slices_IndexFunc_impl_Message_impl_Message_u2_3, slices_IndexFunc_impl_Message_impl_Message_v, slices_ContainsFunc_impl_Message_impl_Message_v, impl_ValidHeader_v, impl_putBytes_u3_1, impl_putBytes_v, impl_Header_encode_u4_1, impl_Header_encode_v, impl_EncodeHeader_v, laws_eqMessage_v, laws_eqMessageS_v, laws_eqHeader_v]; done) | (simp only [laws_szMessage_v, laws_szMessageS_k5_1, laws_szMessageS_u5_2, laws_szMessageS_u5_3, laws_szMessageS_v, laws_szHeader_v, laws_toMessage_v, laws_toMessageS_u3_1, laws_toMessageS_v, laws_toHeader_v, spec_l00In_v, spec_l14Ok_k4_1, spec_l14Ok_v, spec_l02Byte_v, spec_l02Put_u3_1, spec_l02Put_v, spec_l14Encode_u3_1, spec_l14Encode_v, spec_EncodeHeader_v, impl_within_v, impl_messageOk_v, impl_ValidHeader_1_v, slices_IndexFunc_impl_Message_impl_Message_k2_1, slices_IndexFunc_impl_Message_impl_Message_u2_3, slices_IndexFunc_impl_Message_impl_Message_v, slices_ContainsFunc_impl_Message_impl_Message_v, impl_ValidHeader_v, impl_putBytes_u3_1, impl_putBytes_v, impl_Header_encode_u4_1, impl_Header_encode_v, impl_EncodeHeader_v, laws_eqMessage_v, laws_eqMessageS_v, laws_eqHeader_v, nth0, nth1, nth2, nth3, nth4, nth5, int_i, bool_b, str_s, list_l, cells_p, Bool.not_eq_true, bne_self_eq_false, beq_self_eq_true, Bool.not_true]; done) | (simp [laws_szMessage_v, laws_szMessageS_k5_1, laws_szMessageS_u5_2, laws_szMessageS_u5_3, laws_szMessageS_v, laws_szHeader_v, laws_toMessage_v, laws_toMessageS_u3_1, laws_toMessageS_v, laws_toHeader_v, spec_l00In_v, spec_l14Ok_k4_1, spec_l14Ok_v, spec_l02Byte_v, spec_l02Put_u3_1, spec_l02Put_v, spec_l14Encode_u3_1, spec_l14Encode_v, spec_EncodeHeader_v, impl_within_v, impl_messageOk_v, impl_ValidHeader_1_v, slices_IndexFunc_impl_Message_impl_Message_k2_1, slices_IndexFunc_impl_Message_impl_Message_u2_3, slices_IndexFunc_impl_Message_impl_Message_v, slices_ContainsFunc_impl_Message_impl_Message_v, impl_ValidHeader_v, impl_putBytes_u3_1, impl_putBytes_v, impl_Header_encode_u4_1, impl_Header_encode_v, impl_EncodeHeader_v, laws_eqMessage_v, laws_eqMessageS_v, laws_eqHeader_v, nth0, nth1, nth2, nth3, nth4, nth5, int_i, bool_b, str_s, list_l, cells_p]; done) | (simp [laws_szMessage_v, laws_szMessageS_k5_1, laws_szMessageS_u5_2, laws_szMessageS_u5_3, laws_szMessageS_v, laws_szHeader_v, laws_toMessage_v, laws_toMessageS_u3_1, laws_toMessageS_v, laws_toHeader_v, spec_l00In_v, spec_l14Ok_k4_1, spec_l14Ok_v, spec_l02Byte_v, spec_l02Put_u3_1, spec_l02Put_v, spec_l14Encode_u3_1, spec_l14Encode_v, spec_EncodeHeader_v, impl_within_v, impl_messageOk_v, impl_ValidHeader_1_v, slices_IndexFunc_impl_Message_impl_Message_k2_1, slices_IndexFunc_impl_Message_impl_Message_u2_3, slices_IndexFunc_impl_Message_impl_Message_v, slices_ContainsFunc_impl_Message_impl_Message_v, impl_ValidHeader_v, impl_putBytes_u3_1, impl_putBytes_v, impl_Header_encode_u4_1, impl_Header_encode_v, impl_EncodeHeader_v, laws_eqMessage_v, laws_eqMessageS_v, laws_eqHeader_v, nth0, nth1, nth2, nth3, nth4, nth5, int_i, bool_b, str_s, list_l, cells_p] <;> rfl)) ?_
  refine Tr.t (by first | exact (by first | (apply is_true; and_intros <;> (first | rfl | assumption | (apply spec_l14Ok_cc <;> assumption) | (first | (apply is_true; and_intros <;> (first | rfl | assumption | (apply spec_l14Ok_cc <;> assumption) | (first | (apply is_true; and_intros <;> (first | rfl | assumption | (apply spec_l14Ok_cc <;> assumption) | (first | (apply is_true; and_intros <;> (first | rfl | assumption | (apply spec_l14Ok_cc <;> assumption))) | (apply spec_l14Ok_cc <;> assumption)))) | (apply spec_l14Ok_cc <;> assumption)))) | (apply spec_l14Ok_cc <;> assumption)))) | (apply spec_l14Ok_cc <;> assumption)) | simp [*]) ?_
  refine Tr.t (by first | exact (by first | (apply is_true; and_intros <;> (first | rfl | assumption | (apply spec_l14Ok_cc <;> assumption) | (first | (apply is_true; and_intros <;> (first | rfl | assumption | (apply spec_l14Ok_cc <;> assumption) | (first | (apply is_true; and_intros <;> (first | rfl | assumption | (apply spec_l14Ok_cc <;> assumption) | (first | (apply is_true; and_intros <;> (first | rfl | assumption | (apply spec_l14Ok_cc <;> assumption))) | (apply spec_l14Ok_cc <;> assumption)))) | (apply spec_l14Ok_cc <;> assumption)))) | (apply spec_l14Ok_cc <;> assumption)))) | (apply spec_l14Ok_cc <;> assumption)) | simp [*]) ?_
  refine Tr.n (by first | (simp [laws_szMessage_v, laws_szMessageS_k5_1, laws_szMessageS_u5_2, laws_szMessageS_u5_3, laws_szMessageS_v, laws_szHeader_v, laws_toMessage_v, laws_toMessageS_u3_1, laws_toMessageS_v, laws_toHeader_v, spec_l00In_v, spec_l14Ok_k4_1, spec_l14Ok_v, spec_l02Byte_v, spec_l02Put_u3_1, spec_l02Put_v, spec_l14Encode_u3_1, spec_l14Encode_v, spec_EncodeHeader_v, impl_within_v, impl_messageOk_v, impl_ValidHeader_1_v, slices_IndexFunc_impl_Message_impl_Message_k2_1, slices_IndexFunc_impl_Message_impl_Message_u2_3, slices_IndexFunc_impl_Message_impl_Message_v, slices_ContainsFunc_impl_Message_impl_Message_v, impl_ValidHeader_v, impl_putBytes_u3_1, impl_putBytes_v, impl_Header_encode_u4_1, impl_Header_encode_v, impl_EncodeHeader_v, laws_eqMessage_v, laws_eqMessageS_v, laws_eqHeader_v]; done) | (simp only [laws_szMessage_v, laws_szMessageS_k5_1, laws_szMessageS_u5_2, laws_szMessageS_u5_3, laws_szMessageS_v, laws_szHeader_v, laws_toMessage_v, laws_toMessageS_u3_1, laws_toMessageS_v, laws_toHeader_v, spec_l00In_v, spec_l14Ok_k4_1, spec_l14Ok_v, spec_l02Byte_v, spec_l02Put_u3_1, spec_l02Put_v, spec_l14Encode_u3_1, spec_l14Encode_v, spec_EncodeHeader_v, impl_within_v, impl_messageOk_v, impl_ValidHeader_1_v, slices_IndexFunc_impl_Message_impl_Message_k2_1, slices_IndexFunc_impl_Message_impl_Message_u2_3, slices_IndexFunc_impl_Message_impl_Message_v, slices_ContainsFunc_impl_Message_impl_Message_v, impl_ValidHeader_v, impl_putBytes_u3_1, impl_putBytes_v, impl_Header_encode_u4_1, impl_Header_encode_v, impl_EncodeHeader_v, laws_eqMessage_v, laws_eqMessageS_v, laws_eqHeader_v, nth0, nth1, nth2, nth3, nth4, nth5, int_i, bool_b, str_s, list_l, cells_p, Bool.not_eq_true, bne_self_eq_false, beq_self_eq_true, Bool.not_true]; done) | (simp [laws_szMessage_v, laws_szMessageS_k5_1, laws_szMessageS_u5_2, laws_szMessageS_u5_3, laws_szMessageS_v, laws_szHeader_v, laws_toMessage_v, laws_toMessageS_u3_1, laws_toMessageS_v, laws_toHeader_v, spec_l00In_v, spec_l14Ok_k4_1, spec_l14Ok_v, spec_l02Byte_v, spec_l02Put_u3_1, spec_l02Put_v, spec_l14Encode_u3_1, spec_l14Encode_v, spec_EncodeHeader_v, impl_within_v, impl_messageOk_v, impl_ValidHeader_1_v, slices_IndexFunc_impl_Message_impl_Message_k2_1, slices_IndexFunc_impl_Message_impl_Message_u2_3, slices_IndexFunc_impl_Message_impl_Message_v, slices_ContainsFunc_impl_Message_impl_Message_v, impl_ValidHeader_v, impl_putBytes_u3_1, impl_putBytes_v, impl_Header_encode_u4_1, impl_Header_encode_v, impl_EncodeHeader_v, laws_eqMessage_v, laws_eqMessageS_v, laws_eqHeader_v, nth0, nth1, nth2, nth3, nth4, nth5, int_i, bool_b, str_s, list_l, cells_p]; done) | (simp [laws_szMessage_v, laws_szMessageS_k5_1, laws_szMessageS_u5_2, laws_szMessageS_u5_3, laws_szMessageS_v, laws_szHeader_v, laws_toMessage_v, laws_toMessageS_u3_1, laws_toMessageS_v, laws_toHeader_v, spec_l00In_v, spec_l14Ok_k4_1, spec_l14Ok_v, spec_l02Byte_v, spec_l02Put_u3_1, spec_l02Put_v, spec_l14Encode_u3_1, spec_l14Encode_v, spec_EncodeHeader_v, impl_within_v, impl_messageOk_v, impl_ValidHeader_1_v, slices_IndexFunc_impl_Message_impl_Message_k2_1, slices_IndexFunc_impl_Message_impl_Message_u2_3, slices_IndexFunc_impl_Message_impl_Message_v, slices_ContainsFunc_impl_Message_impl_Message_v, impl_ValidHeader_v, impl_putBytes_u3_1, impl_putBytes_v, impl_Header_encode_u4_1, impl_Header_encode_v, impl_EncodeHeader_v, laws_eqMessage_v, laws_eqMessageS_v, laws_eqHeader_v, nth0, nth1, nth2, nth3, nth4, nth5, int_i, bool_b, str_s, list_l, cells_p] <;> rfl)) ?_
  rfl
theorem laws_FnExactEncodeHeader_pure : ∀ xs, ArgsTyped tab [24] xs → runF tab FT D24 live 3 noLoops xs = yes := by
  intro xs h
  cases h with | cons l0 g0 h =>
  obtain ⟨z0_0, z0_1, z0_2, rfl⟩ := len_3 l0
  have q0 := g0 0 (by decide)
  have q0 : Typed tab (.int .i64) z0_0 := q0
  obtain ⟨y0, rfl⟩ := typed_int q0
  have q1 := g0 1 (by decide)
  have q1 : Typed tab (.int .i64) z0_1 := q1
  obtain ⟨y1, rfl⟩ := typed_int q1
  have q2 := g0 2 (by decide)
  have q2 : Typed tab (.slice 122) z0_2 := q2
  obtain ⟨y2, rfl⟩ := typed_slice q2
  cases h
  refine (laws_FnExactEncodeHeader_e y0 y1 y2).trans ?_
  rw [Tr.run_eq, laws_FnExactEncodeHeader_p y0 y1 y2 q0 q1 q2]
  rfl
end Go.Proofs.Ythhdkojpkjkanaa.V
