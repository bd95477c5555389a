/- What the functions of FnExactPutName answer. No condition. -/
import Derived.Test.YthhdkojpkjkanaaVFacts
namespace Go.Proofs.Ythhdkojpkjkanaa.V
open Go
set_option maxRecDepth 100000
set_option linter.unusedVariables false
set_option linter.unusedSectionVars false
set_option linter.unusedSimpArgs false
set_option maxHeartbeats 2000000
def letterB (c : Int) : Bool := (decide (c ≥ 65) && decide (c ≤ 90)) || (decide (c ≥ 97) && decide (c ≤ 122))
def nameB (i : Int) (c : Int) : Bool := letterB c || (!(i == 0) && ((decide (c ≥ 48) && decide (c ≤ 57)) || c == 95))
def nameOk (s : List UInt8) : Bool := decide ((s.length : Int) ≥ 1) && decide ((s.length : Int) ≤ 12) && allI (fun i : Nat => nameB (i : Int) ((s.getD ((i : Int)).toNat 0).toNat : Int)) s.length
theorem dlt {a b : Int} : decide (a < b) = !decide (a ≥ b) := by rw [← decide_not]; simp
theorem dgt {a b : Int} : decide (a > b) = !decide (a ≤ b) := by rw [← decide_not]; simp
def slotNameOk (x : List TC) : Bool := (nth x 0).str == [] || nameOk (nth x 0).str
def lastEmpty (A : List (List TC)) : Bool := (nth (row A (IntKind.wrap .i64 ((A.length : Int) - (1 : Int)))) 0).str == []
def heapOk (A : List (List TC)) : Bool := decide ((A.length : Int) ≤ 30) && (((A.length : Int) == 0) || !(lastEmpty A)) && A.all slotNameOk
theorem lenPos (A : List (List TC)) : decide ((A.length : Int) > 0) = !((A.length : Int) == 0) := by
  rw [Bool.eq_iff_iff]
  simp only [decide_eq_true_eq, Bool.not_eq_true', beq_eq_false_iff_ne]
  omega
def slotIdx (A : List (List TC)) (s : List UInt8) : Int := bif A.all (fun x => !((nth x 0).str == s)) then -1 else Int.ofNat (A.findIdx fun x => !(!((nth x 0).str == s)))
theorem typed_snoc {e : TypeId} {A : List (List TC)} {r : List TC} (h : Typed tab (.slice e) (.l A)) (hl : A.length ≤ 1000) (hb : (tab e).bytes ≤ 1000) (h3 : r.length = (tab e).cts.length) (h4 : ∀ k, k < (tab e).cts.length → Typed tab ((tab e).cts.getD k .bool) (nth r k)) : Typed tab (.slice e) (.l (A ++ [r])) := by
  cases h with
  | slice _ _ q1 q2 q3 q4 =>
    have hm : (A ++ [r]).length * (tab e).bytes ≤ 1001 * 1000 := Nat.mul_le_mul (by simp; omega) hb
    refine .slice _ _ (by show _ ≤ 140737488351232; omega) (by rw [List.length_append, List.length_singleton]; show _ ≤ 9223372036854775807; omega) (fun x hx => ?_) (fun x hx => ?_) <;> rcases List.mem_append.1 hx with hx | hx
    · exact q3 x hx
    · rw [List.mem_singleton.1 hx]; exact h3
    · exact q4 x hx
    · rw [List.mem_singleton.1 hx]; exact h4
theorem typed_setR {e : TypeId} {A : List (List TC)} {i : Nat} {r : List TC} (h : Typed tab (.slice e) (.l A)) (h3 : r.length = (tab e).cts.length) (h4 : ∀ k, k < (tab e).cts.length → Typed tab ((tab e).cts.getD k .bool) (nth r k)) : Typed tab (.slice e) (.l (A.set i r)) := by
  cases h with
  | slice _ _ q1 q2 q3 q4 =>
    refine .slice _ _ (by rw [List.length_set]; exact q1) (by rw [List.length_set]; exact q2) (fun x hx => ?_) (fun x hx => ?_) <;> rcases List.mem_or_eq_of_mem_set hx with hx | hx
    · exact q3 x hx
    · rw [hx]; exact h3
    · exact q4 x hx
    · rw [hx]; exact h4
theorem slotIdx_lt {A : List (List TC)} {s : List UInt8} (h : decide (slotIdx A s ≥ 0) = true) : 0 ≤ slotIdx A s ∧ slotIdx A s < (A.length : Int) := by
  rw [decide_eq_true_eq] at h
  refine ⟨h, ?_⟩
  unfold slotIdx at h ⊢
  cases ha : A.all (fun x => !((nth x 0).str == s)) with
  | true => rw [ha] at h; simp at h
  | false =>
    simp only [cond_false]
    have : (A.findIdx fun x => !(!((nth x 0).str == s))) < A.length := by
      rw [List.findIdx_lt_length]
      rw [List.all_eq_false] at ha
      obtain ⟨x, hx, hn⟩ := ha
      exact ⟨x, hx, by simpa using hn⟩
    show ((A.findIdx fun x => !(!((nth x 0).str == s)) : Nat) : Int) < _
    omega
noncomputable def putV (A : List (List TC)) (s : List UInt8) : List (List TC) × Int × Int :=
  bif !(heapOk A) then ([], 0, 1) else bif !(nameOk s) then ([], 0, 1) else bif decide (slotIdx A [] ≥ 0) then (A.set (slotIdx A []).toNat [TC.s s], slotIdx A [], 0)
    else bif decide ((A.length : Int) ≥ 30) then ([], 0, 5) else (A ++ [[TC.s s]], (A.length : Int), 0)
theorem splice_row {e : TypeId} {A : List (List TC)} {i : Int} {c : TC} (h : Typed tab (.slice e) (.l A)) (he : (tab e).cts.length = 1) (hi : 0 ≤ i ∧ i < (A.length : Int)) : splice (row A i) 0 [c] = [c] := by
  have hl : (row A i).length = 1 := by
    cases h with
    | slice _ _ q1 q2 q3 q4 => rw [← he]; exact q3 _ (by unfold row; exact mem_getD (by omega))
  unfold splice
  rw [List.take_zero, List.nil_append, List.drop_of_length_le (by simp [hl])]
  rfl
def digT (k : Int) : List UInt8 := [[TC.i (IntKind.wrap .u8 (IntKind.wrap .i64 ((48 : Int) + (Int.tmod k (10 : Int)))))]].map byteOf
theorem digT_len (k : Int) : (digT k).length ≤ 1 := Nat.le_refl 1
/-! laws_szStringS -/
abbrev laws_szStringS_5_σ := List (List TC) × Int × Int
abbrev laws_szStringS_5_ω := (Int) ⊕ (Int)
noncomputable def laws_szStringS_5_step (A : List (List TC)) (left : Int) (i : Int) : Tr (laws_szStringS_5_σ ⊕ laws_szStringS_5_ω) := (.ite ((decide (i < (A.length : Int))) = true) (.ite ((0 : Int) ≤ i ∧ i < (A.length : Int)) (.ite ((decide ((IntKind.wrap .i64 (left - (((nth (row A i) 0).str).length : Int))) < (0 : Int))) = true) (.ok (.inr (.inl (IntKind.wrap .i64 (left - (((nth (row A i) 0).str).length : Int))))))
    (.ok (.inl (A, (IntKind.wrap .i64 (left - (((nth (row A i) 0).str).length : Int))), (IntKind.wrap .i64 (i + (1 : Int)))))))
   .no)
  (.ok (.inr (.inr left))))
noncomputable def laws_szStringS_5_st : laws_szStringS_5_σ → Tr (laws_szStringS_5_σ ⊕ laws_szStringS_5_ω) := fun x => (laws_szStringS_5_step (x.1) (x.2.1) (x.2.2))
noncomputable def laws_szStringS_k5_1 (A : List (List TC)) (left : Int) (i : Int) : Bool := isL (loopN laws_szStringS_5_st (A.length + 1) (A, left, i))
noncomputable def laws_szStringS_o5_2 (A : List (List TC)) (left : Int) (i : Int) : Bool := is (i = 0 ∧ Typed tab (.slice 9) (.l A))
noncomputable def laws_szStringS_u5_2 (A : List (List TC)) (left : Int) (i : Int) : Int := getL (loopN laws_szStringS_5_st (A.length + 1) (A, left, i))
noncomputable def laws_szStringS_o5_3 (A : List (List TC)) (left : Int) (i : Int) : Bool := is (i = 0 ∧ Typed tab (.slice 9) (.l A))
noncomputable def laws_szStringS_u5_3 (A : List (List TC)) (left : Int) (i : Int) : Int := getR (loopN laws_szStringS_5_st (A.length + 1) (A, left, i))
noncomputable def laws_szStringS_5_fin (A : List (List TC)) (left : Int) (i : Int) : Told laws_szStringS_5_ω := (.br (laws_szStringS_k5_1 A left i) (.leaf (laws_szStringS_o5_2 A left i) (.inl (laws_szStringS_u5_2 A left i))) (.leaf (laws_szStringS_o5_3 A left i) (.inr (laws_szStringS_u5_3 A left i))))
def laws_szStringS_5_sl (x : laws_szStringS_5_σ) : List Slot := [⟨.val false [⟨.slice 9, .sh, TC.l (x.1)⟩], ⟨0, 0⟩⟩, ⟨.val false [⟨.int .i64, .sh, TC.i (x.2.1)⟩], ⟨0, 0⟩⟩, ⟨.val false [⟨.int .i64, .sh, TC.i (x.2.2)⟩], ⟨0, 0⟩⟩]
def laws_szStringS_5_out : laws_szStringS_5_ω → Ex × List Slot := (Sum.elim (fun x => (.ret, [⟨.val false [⟨.int .i64, .sh, TC.i x⟩], ⟨0, 0⟩⟩, ⟨.val false [⟨.int .i64, .sh, TC.i (-1 : Int)⟩], ⟨0, 0⟩⟩])) (fun x => (.exit 0, [⟨.val false [⟨.int .i64, .sh, TC.i x⟩], ⟨0, 0⟩⟩, Slot.none])))
noncomputable def laws_szStringS_lo5 : List Slot → Option (Told (Ex × List Slot)) := fun s => match s with
  | [⟨.val false [⟨.slice 9, .sh, TC.l A⟩], ⟨0, 0⟩⟩, ⟨.val false [⟨.int .i64, .sh, TC.i left⟩], ⟨0, 0⟩⟩, ⟨.val false [⟨.int .i64, .sh, TC.i i⟩], ⟨0, 0⟩⟩] => some (((laws_szStringS_5_fin A left i)).map laws_szStringS_5_out)
  | _ => .none
noncomputable def laws_szStringS_lo : LoopTeller := fun r s => bif Nat.beq r 5 then laws_szStringS_lo5 s else .none
theorem laws_szStringS_5_r (A : List (List TC)) (left : Int) (i : Int) (fuel : Nat) : rounds (rnd tab FT D0 live 48 laws_szStringS_lo 0 5) leave (fuel + 1) (laws_szStringS_5_sl (A, left, i)) = ((laws_szStringS_5_step A left i)).run (goOn (fun s => rounds (rnd tab FT D0 live 48 laws_szStringS_lo 0 5) leave fuel (laws_szStringS_5_sl s)) fun w => some (laws_szStringS_5_out w)) := by kernel_rfl
theorem laws_szStringS_5_h (A : List (List TC)) (left : Int) (i : Int) (ow : laws_szStringS_5_ω) : ((laws_szStringS_5_fin A left i)).val = some ow → ∃ fuel, loopN laws_szStringS_5_st fuel (A, left, i) = some ow := by
  refine auto_two (N := A.length + 1) rfl rfl rfl ?_
  intro ho
  have ho : is (i = 0 ∧ Typed tab (.slice 9) (.l A)) = true := ho.elim id id
  obtain ⟨rfl, ht⟩ := is_iff.1 ho
  have hlen : A.length ≤ 140737488351232 := by have := typed_room ht; simp only [show (tab 9).bytes = 16 from rfl] at this; omega
  refine loopN_ends (step := laws_szStringS_5_st) (N := A.length) (fun i a => (A, a, (i : Int))) (fun i a hi => ?_) (fun a => ?_) A.length 0 left (by omega)
  · show (∃ a', (laws_szStringS_5_step A a (i : Int)).val = _) ∨ ∃ w, (laws_szStringS_5_step A a (i : Int)).val = _
    have c0 : Typed tab (.str) (.s (nth (A.getD i []) 0).str) := typed_s (typed_cell ht (A.getD i []) (mem_getD hi) 0 (by decide))
    cases hneg : ((decide ((IntKind.wrap .i64 (a - (((nth (row A i) 0).str).length : Int))) < (0 : Int))))
    · apply Or.inl
      apply Exists.intro
      · unfold laws_szStringS_5_step
        refine Tr.t (by simp; omega) ?_
        refine Tr.t (by first | omega | (constructor <;> omega)) ?_
        refine Tr.n (by rw [hneg]; simp) ?_
        rw [Tr.val_ok, wrap64 (i := (i : Int) + 1) (by omega) (by omega)]; rfl
    · apply Or.inr
      apply Exists.intro
      · unfold laws_szStringS_5_step
        refine Tr.t (by simp; omega) ?_
        refine Tr.t (by first | omega | (constructor <;> omega)) ?_
        refine Tr.t hneg ?_
        rfl
  · apply Exists.intro
    · show (laws_szStringS_5_step A a (A.length : Int)).val = _
      refine Tr.n (by simp) ?_
      rfl
theorem laws_szStringS_is5 : LoopIs tab FT D0 live 48 laws_szStringS_lo 0 5 := by
  refine loop_told (sl := laws_szStringS_5_sl) (step := laws_szStringS_5_st) (out := laws_szStringS_5_out) (lor := laws_szStringS_lo5) (fin := fun x => (laws_szStringS_5_fin (x.1) (x.2.1) (x.2.2))) (fun _ => rfl) ?_ (fun x n => laws_szStringS_5_r x.1 x.2.1 x.2.2 n) (fun x ow => laws_szStringS_5_h x.1 x.2.1 x.2.2 ow)
  intro s t h
  unfold laws_szStringS_lo5 at h
  split at h
  · cases h; exact ⟨(_, _, _), rfl, rfl⟩
  · cases h
noncomputable def laws_szStringS_t (A : List (List TC)) (left : Int) : Tr (Int) := (.ite ((decide ((IntKind.wrap .i64 (left - (A.length : Int))) < (0 : Int))) = true) (.ok (-1 : Int))
  (.ite ((laws_szStringS_k5_1 A (IntKind.wrap .i64 (left - (A.length : Int))) (0 : Int)) = true) (.ite ((laws_szStringS_o5_2 A (IntKind.wrap .i64 (left - (A.length : Int))) (0 : Int)) = true) (.ok (-1 : Int))
    .no)
   (.ite ((laws_szStringS_o5_3 A (IntKind.wrap .i64 (left - (A.length : Int))) (0 : Int)) = true) (.ok (laws_szStringS_u5_3 A (IntKind.wrap .i64 (left - (A.length : Int))) (0 : Int)))
    .no)))
def laws_szStringS_mk (p : Int) : Res := [(false, [⟨.int .i64, .sh, TC.i p⟩])]
noncomputable def laws_szStringS_c (A : List (List TC)) (left : Int) : Bool := is (((laws_szStringS_o5_2 A (IntKind.wrap .i64 (left - (A.length : Int))) (0 : Int)) = true) ∧ ((laws_szStringS_o5_3 A (IntKind.wrap .i64 (left - (A.length : Int))) (0 : Int)) = true))
noncomputable def laws_szStringS_v (A : List (List TC)) (left : Int) : Int := (bif (decide ((IntKind.wrap .i64 (left - (A.length : Int))) < (0 : Int))) then (-1 : Int) else (bif (laws_szStringS_k5_1 A (IntKind.wrap .i64 (left - (A.length : Int))) (0 : Int)) then (-1 : Int) else (laws_szStringS_u5_3 A (IntKind.wrap .i64 (left - (A.length : Int))) (0 : Int))))
theorem laws_szStringS_l (A : List (List TC)) (left : Int) : (laws_szStringS_c A left) = true → (laws_szStringS_t A left).val = some (laws_szStringS_v A left) := by
  intro h
  obtain ⟨g0, g1⟩ := is_iff.1 h
  unfold laws_szStringS_t laws_szStringS_v
  exact (Tr.s rfl (Tr.s (Tr.t g0 rfl) (Tr.t g1 rfl)))
noncomputable def laws_szStringS_S : List Arg → Option (Bool × Res) := fun xs => match xs with
  | [(false, [(.slice 9, TC.l A)]), (false, [(.int .i64, TC.i left)])] => some ((laws_szStringS_c A left), laws_szStringS_mk (laws_szStringS_v A left))
  | _ => .none
theorem laws_szStringS_e (A : List (List TC)) (left : Int) : runF tab FT D0 live 48 laws_szStringS_lo [(false, [(.slice 9, TC.l A)]), (false, [(.int .i64, TC.i left)])] = (laws_szStringS_t A left).run fun p => some (laws_szStringS_mk p) := by kernel_rfl
theorem laws_szStringS_s : ∀ xs r, laws_szStringS_S xs = some (true, r) → runF tab FT D0 live 48 laws_szStringS_lo xs = some r := by
  intro xs r h
  unfold laws_szStringS_S at h
  split at h
  · simp only [Option.some.injEq, Prod.mk.injEq] at h
    obtain ⟨h1, rfl⟩ := h
    exact fun_told (laws_szStringS_e _ _) (laws_szStringS_l _ _) h1
  · cases h
noncomputable def D1 : Dt := also D0 48 laws_szStringS_S
theorem d1 : DOk Go.Proofs.Try.prog tab D1 := d0.also mixed_ok tab_ok names_ok (fnLoops_one (by kernel_rfl) laws_szStringS_is5) laws_szStringS_s
/-! laws_szNameHeap -/
noncomputable def laws_szNameHeap_t (a0 : List (List TC)) (a1 : Int) : Tr (Int) := (.ite ((laws_szStringS_c a0 a1) = true) (.ite ((decide ((laws_szStringS_v a0 a1) < (0 : Int))) = true) (.ok (-1 : Int))
   (.ok (laws_szStringS_v a0 a1)))
  .no)
def laws_szNameHeap_mk (p : Int) : Res := [(false, [⟨.int .i64, .sh, TC.i p⟩])]
noncomputable def laws_szNameHeap_c (a0 : List (List TC)) (a1 : Int) : Bool := (laws_szStringS_c a0 a1)
noncomputable def laws_szNameHeap_v (a0 : List (List TC)) (a1 : Int) : Int := (bif (decide ((laws_szStringS_v a0 a1) < (0 : Int))) then (-1 : Int) else (laws_szStringS_v a0 a1))
theorem laws_szNameHeap_l (a0 : List (List TC)) (a1 : Int) : (laws_szNameHeap_c a0 a1) = true → (laws_szNameHeap_t a0 a1).val = some (laws_szNameHeap_v a0 a1) := by
  intro h
  have g0 : (laws_szStringS_c a0 a1) = true := h
  unfold laws_szNameHeap_t laws_szNameHeap_v
  exact (Tr.t g0 (Tr.s rfl rfl))
noncomputable def laws_szNameHeap_S : List Arg → Option (Bool × Res) := fun xs => match xs with
  | [(true, [(.slice 9, TC.l a0)]), (false, [(.int .i64, TC.i a1)])] => some ((laws_szNameHeap_c a0 a1), laws_szNameHeap_mk (laws_szNameHeap_v a0 a1))
  | _ => .none
theorem laws_szNameHeap_e (a0 : List (List TC)) (a1 : Int) : runF tab FT D1 live 14 noLoops [(true, [(.slice 9, TC.l a0)]), (false, [(.int .i64, TC.i a1)])] = (laws_szNameHeap_t a0 a1).run fun p => some (laws_szNameHeap_mk p) := by kernel_rfl
theorem laws_szNameHeap_s : ∀ xs r, laws_szNameHeap_S xs = some (true, r) → runF tab FT D1 live 14 noLoops xs = some r := by
  intro xs r h
  unfold laws_szNameHeap_S at h
  split at h
  · simp only [Option.some.injEq, Prod.mk.injEq] at h
    obtain ⟨h1, rfl⟩ := h
    exact fun_told (laws_szNameHeap_e _ _) (laws_szNameHeap_l _ _) h1
  · cases h
noncomputable def D2 : Dt := also D1 14 laws_szNameHeap_S
theorem d2 : DOk Go.Proofs.Try.prog tab D2 := d1.also mixed_ok tab_ok names_ok noLoops_ok laws_szNameHeap_s
/-! laws_toStringS -/
def laws_toStringS_g (x : List TC) : List TC := [TC.s ((nth x 0).str)]
def laws_toStringS_z : List TC := [TC.s []]
abbrev laws_toStringS_3_σ := List (List TC) × List (List TC) × Int
abbrev laws_toStringS_3_ω := (List (List TC))
noncomputable def laws_toStringS_3_step (A : List (List TC)) (X : List (List TC)) (i : Int) : Tr (laws_toStringS_3_σ ⊕ laws_toStringS_3_ω) := (.ite ((decide (i < (A.length : Int))) = true) (.ite ((0 : Int) ≤ i ∧ i < (A.length : Int)) (.ite ((0 : Int) ≤ i ∧ i < (X.length : Int)) (.ok (.inl (A, (X.set (i).toNat (splice (row X i) 0 [TC.s ((nth (row A i) 0).str)])), (IntKind.wrap .i64 (i + (1 : Int))))))
    .no)
   .no)
  (.ok (.inr X)))
noncomputable def laws_toStringS_3_st : laws_toStringS_3_σ → Tr (laws_toStringS_3_σ ⊕ laws_toStringS_3_ω) := fun x => (laws_toStringS_3_step (x.1) (x.2.1) (x.2.2))
noncomputable def laws_toStringS_o3_1 (A : List (List TC)) (X : List (List TC)) (i : Int) : Bool := is (Typed tab (.slice 9) (.l A) ∧ X = List.replicate A.length laws_toStringS_z ∧ i = 0)
noncomputable def laws_toStringS_u3_1 (A : List (List TC)) (X : List (List TC)) (i : Int) : List (List TC) := A.map laws_toStringS_g
noncomputable def laws_toStringS_3_fin (A : List (List TC)) (X : List (List TC)) (i : Int) : Told laws_toStringS_3_ω := (.leaf (laws_toStringS_o3_1 A X i) (laws_toStringS_u3_1 A X i))
def laws_toStringS_3_sl (x : laws_toStringS_3_σ) : List Slot := [⟨.val false [⟨.slice 9, .sh, TC.l (x.1)⟩], ⟨0, 0⟩⟩, ⟨.val false [⟨.slice 9, .own true, TC.l (x.2.1)⟩], ⟨0, 0⟩⟩, ⟨.val false [⟨.int .i64, .sh, TC.i (x.2.2)⟩], ⟨0, 0⟩⟩]
def laws_toStringS_3_out : laws_toStringS_3_ω → Ex × List Slot := (fun x => (.exit 0, [Slot.none, ⟨.val false [⟨.slice 9, .own true, TC.l x⟩], ⟨0, 0⟩⟩]))
noncomputable def laws_toStringS_lo3 : List Slot → Option (Told (Ex × List Slot)) := fun s => match s with
  | [⟨.val false [⟨.slice 9, .sh, TC.l A⟩], ⟨0, 0⟩⟩, ⟨.val false [⟨.slice 9, .own true, TC.l X⟩], ⟨0, 0⟩⟩, ⟨.val false [⟨.int .i64, .sh, TC.i i⟩], ⟨0, 0⟩⟩] => some (((laws_toStringS_3_fin A X i)).map laws_toStringS_3_out)
  | _ => .none
noncomputable def laws_toStringS_lo : LoopTeller := fun r s => bif Nat.beq r 3 then laws_toStringS_lo3 s else .none
theorem laws_toStringS_3_r (A : List (List TC)) (X : List (List TC)) (i : Int) (fuel : Nat) : rounds (rnd tab FT D2 live 53 laws_toStringS_lo 0 3) leave (fuel + 1) (laws_toStringS_3_sl (A, X, i)) = ((laws_toStringS_3_step A X i)).run (goOn (fun s => rounds (rnd tab FT D2 live 53 laws_toStringS_lo 0 3) leave fuel (laws_toStringS_3_sl s)) fun w => some (laws_toStringS_3_out w)) := by kernel_rfl
theorem laws_toStringS_3_h (A : List (List TC)) (X : List (List TC)) (i : Int) (ow : laws_toStringS_3_ω) : ((laws_toStringS_3_fin A X i)).val = some ow → ∃ fuel, loopN laws_toStringS_3_st fuel (A, X, i) = some ow := by
  intro h
  simp only [laws_toStringS_3_fin, Told.val] at h
  split at h
  · rename_i ho
    obtain ⟨ht, rfl, rfl⟩ := is_iff.1 ho
    cases h
    have hlen : A.length ≤ 140737488351232 := by have := typed_room ht; simp only [show (tab 9).bytes = 16 from rfl] at this; omega
    have key := loopN_copy (step := laws_toStringS_3_st) A (List.replicate A.length laws_toStringS_z) laws_toStringS_g (fun Y i => (A, Y, (i : Int))) (A.map laws_toStringS_g) (by simp) (fun x hx i _ => by rw [(List.mem_replicate.1 hx).2]; exact Nat.le_refl 1) (fun Y i hi hl => ?_) ?_ A.length 0 (by omega)
    · rw [copied_zero] at key
      exact ⟨_, key⟩
    · have c0 : Typed tab (.str) (.s (nth (A.getD i []) 0).str) := typed_s (typed_cell ht (A.getD i []) (mem_getD hi) 0 (by decide))
      show (laws_toStringS_3_step A Y (i : Int)).val = _
      unfold laws_toStringS_3_step
      refine Tr.t (by simp; omega) ?_
      refine Tr.t (by constructor <;> omega) ?_
      refine Tr.t (by constructor <;> omega) ?_
      repeat (refine Tr.t (by first | (apply is_true; and_intros <;> (first | rfl | assumption | (first | (apply is_true; and_intros <;> (first | rfl | assumption | (first | (apply is_true; and_intros <;> (first | rfl | assumption | (first | (apply is_true; and_intros <;> (first | rfl | assumption)))))))))))) ?_)
      rw [Tr.val_ok, wrap64 (i := (i : Int) + 1) (by omega) (by omega)]; rfl
    · show (laws_toStringS_3_step A (A.map laws_toStringS_g) (A.length : Int)).val = _
      refine Tr.n (by simp) ?_
      rfl
  · cases h
theorem laws_toStringS_is3 : LoopIs tab FT D2 live 53 laws_toStringS_lo 0 3 := by
  refine loop_told (sl := laws_toStringS_3_sl) (step := laws_toStringS_3_st) (out := laws_toStringS_3_out) (lor := laws_toStringS_lo3) (fin := fun x => (laws_toStringS_3_fin (x.1) (x.2.1) (x.2.2))) (fun _ => rfl) ?_ (fun x n => laws_toStringS_3_r x.1 x.2.1 x.2.2 n) (fun x ow => laws_toStringS_3_h x.1 x.2.1 x.2.2 ow)
  intro s t h
  unfold laws_toStringS_lo3 at h
  split at h
  · cases h; exact ⟨(_, _, _), rfl, rfl⟩
  · cases h
noncomputable def laws_toStringS_t (A : List (List TC)) : Tr (List (List TC)) := (.ite (0 ≤ (A.length : Int) ∧ (A.length : Int) ≤ (A.length : Int) ∧ (A.length : Int) * 16 ≤ 140737488355328 ∧ (A.length : Int) ≤ 140737488355328) (.ite ((laws_toStringS_o3_1 A (List.replicate ((A.length : Int)).toNat [TC.s []]) (0 : Int)) = true) (.ok (laws_toStringS_u3_1 A (List.replicate ((A.length : Int)).toNat [TC.s []]) (0 : Int)))
   .no)
  .no)
def laws_toStringS_mk (p : List (List TC)) : Res := [(false, [⟨.slice 9, .own true, TC.l p⟩])]
noncomputable def laws_toStringS_c (A : List (List TC)) : Bool := is (Typed tab (.slice 9) (.l A))
noncomputable def laws_toStringS_v (A : List (List TC)) : List (List TC) := A.map laws_toStringS_g
theorem laws_toStringS_l (A : List (List TC)) : (laws_toStringS_c A) = true → (laws_toStringS_t A).val = some (laws_toStringS_v A) := by
  intro h
  have ht := is_iff.1 h
  have hb := typed_room ht
  simp only [show (tab 9).bytes = 16 from rfl] at hb
  unfold laws_toStringS_t
  refine Tr.t (by omega) ?_
  refine Tr.t (is_true ⟨ht, by rfl, rfl⟩) ?_
  rfl
noncomputable def laws_toStringS_S : List Arg → Option (Bool × Res) := fun xs => match xs with
  | [(false, [(.slice 9, TC.l A)])] => some ((laws_toStringS_c A), laws_toStringS_mk (laws_toStringS_v A))
  | _ => .none
theorem laws_toStringS_e (A : List (List TC)) : runF tab FT D2 live 53 laws_toStringS_lo [(false, [(.slice 9, TC.l A)])] = (laws_toStringS_t A).run fun p => some (laws_toStringS_mk p) := by kernel_rfl
theorem laws_toStringS_s : ∀ xs r, laws_toStringS_S xs = some (true, r) → runF tab FT D2 live 53 laws_toStringS_lo xs = some r := by
  intro xs r h
  unfold laws_toStringS_S at h
  split at h
  · simp only [Option.some.injEq, Prod.mk.injEq] at h
    obtain ⟨h1, rfl⟩ := h
    exact fun_told (laws_toStringS_e _) (laws_toStringS_l _) h1
  · cases h
noncomputable def D3 : Dt := also D2 53 laws_toStringS_S
theorem d3 : DOk Go.Proofs.Try.prog tab D3 := d2.also mixed_ok tab_ok names_ok (fnLoops_one (by kernel_rfl) laws_toStringS_is3) laws_toStringS_s
theorem laws_toStringS_ty {A : List (List TC)} (h : Typed tab (.slice 9) (.l A)) : Typed tab (.slice 9) (.l (A.map laws_toStringS_g)) := by
  refine typed_map h (by decide) fun x _ _ hx => ⟨rfl, fun k hk => ?_⟩
  match k, hk with
    | 0, _ => exact typed_s (hx 0 (by decide))
/-! laws_toNameHeap -/
noncomputable def laws_toNameHeap_t (x0 : List (List TC)) : Tr (List (List TC)) := (.ite ((laws_toStringS_c x0) = true) (.ok (laws_toStringS_v x0))
  .no)
def laws_toNameHeap_mk (p : List (List TC)) : Res := [(true, [⟨.slice 9, .own true, TC.l p⟩])]
noncomputable def laws_toNameHeap_c (x0 : List (List TC)) : Bool := is (Typed tab (.slice 9) (.l x0))
noncomputable def laws_toNameHeap_v (x0 : List (List TC)) : List (List TC) := (laws_toStringS_v x0)
theorem laws_toNameHeap_l (x0 : List (List TC)) : (laws_toNameHeap_c x0) = true → (laws_toNameHeap_t x0).val = some (laws_toNameHeap_v x0) := by
  intro h
  have t0 := is_iff.1 h
  unfold laws_toNameHeap_t
  repeat (refine Tr.t (by first | (apply is_true; and_intros <;> (first | rfl | assumption | (first | (apply is_true; and_intros <;> (first | rfl | assumption | (first | (apply is_true; and_intros <;> (first | rfl | assumption | (first | (apply is_true; and_intros <;> (first | rfl | assumption)))))))))))) ?_)
  rfl
noncomputable def laws_toNameHeap_S : List Arg → Option (Bool × Res) := fun xs => match xs with
  | [(true, [(.slice 9, TC.l x0)])] => some ((laws_toNameHeap_c x0), laws_toNameHeap_mk (laws_toNameHeap_v x0))
  | _ => .none
theorem laws_toNameHeap_e (x0 : List (List TC)) : runF tab FT D3 live 16 noLoops [(true, [(.slice 9, TC.l x0)])] = (laws_toNameHeap_t x0).run fun p => some (laws_toNameHeap_mk p) := by kernel_rfl
theorem laws_toNameHeap_s : ∀ xs r, laws_toNameHeap_S xs = some (true, r) → runF tab FT D3 live 16 noLoops xs = some r := by
  intro xs r h
  unfold laws_toNameHeap_S at h
  split at h
  · simp only [Option.some.injEq, Prod.mk.injEq] at h
    obtain ⟨h1, rfl⟩ := h
    exact fun_told (laws_toNameHeap_e _) (laws_toNameHeap_l _) h1
  · cases h
noncomputable def D4 : Dt := also D3 16 laws_toNameHeap_S
theorem d4 : DOk Go.Proofs.Try.prog tab D4 := d3.also mixed_ok tab_ok names_ok noLoops_ok laws_toNameHeap_s
/-! spec_l01Letter -/
noncomputable def spec_l01Letter_t (a0 : Int) : Tr (Bool) := (.ite ((decide (a0 ≥ (65 : Int))) = true) (.ite ((decide (a0 ≤ (90 : Int))) = true) (.ok true)
   (.ite ((decide (a0 ≥ (97 : Int))) = true) (.ok (decide (a0 ≤ (122 : Int))))
    (.ok false)))
  (.ite ((decide (a0 ≥ (97 : Int))) = true) (.ok (decide (a0 ≤ (122 : Int))))
   (.ok false)))
def spec_l01Letter_mk (p : Bool) : Res := [(false, [⟨.bool, .sh, TC.b p⟩])]
noncomputable def spec_l01Letter_c (a0 : Int) : Bool := true
noncomputable def spec_l01Letter_v (a0 : Int) : Bool := (bif (decide (a0 ≥ (65 : Int))) then (bif (decide (a0 ≤ (90 : Int))) then true else (bif (decide (a0 ≥ (97 : Int))) then (decide (a0 ≤ (122 : Int))) else false)) else (bif (decide (a0 ≥ (97 : Int))) then (decide (a0 ≤ (122 : Int))) else false))
theorem spec_l01Letter_l (a0 : Int) : (spec_l01Letter_c a0) = true → (spec_l01Letter_t a0).val = some (spec_l01Letter_v a0) := by
  intro h
  skip
  unfold spec_l01Letter_t spec_l01Letter_v
  exact (Tr.s (Tr.s rfl (Tr.s rfl rfl)) (Tr.s rfl rfl))
noncomputable def spec_l01Letter_S : List Arg → Option (Bool × Res) := fun xs => match xs with
  | [(false, [(.int .u8, TC.i a0)])] => some (true, spec_l01Letter_mk (spec_l01Letter_v a0))
  | _ => .none
theorem spec_l01Letter_e (a0 : Int) : runF tab FT D4 live 102 noLoops [(false, [(.int .u8, TC.i a0)])] = (spec_l01Letter_t a0).run fun p => some (spec_l01Letter_mk p) := by kernel_rfl
theorem spec_l01Letter_s : ∀ xs r, spec_l01Letter_S xs = some (true, r) → runF tab FT D4 live 102 noLoops xs = some r := by
  intro xs r h
  unfold spec_l01Letter_S at h
  split at h
  · simp only [Option.some.injEq, Prod.mk.injEq] at h
    obtain ⟨h1, rfl⟩ := h
    exact fun_told (spec_l01Letter_e _) (spec_l01Letter_l _) rfl
  · cases h
noncomputable def D5 : Dt := also D4 102 spec_l01Letter_S
theorem d5 : DOk Go.Proofs.Try.prog tab D5 := d4.also mixed_ok tab_ok names_ok noLoops_ok spec_l01Letter_s
/-! spec_IsName -/
noncomputable def spec_IsName_f4 (s : List UInt8) (i : Int) : (Unit) ⊕ ((Unit) ⊕ (Unit)) := (bif (!(spec_l01Letter_v ((s.getD (i).toNat 0).toNat : Int))) then (bif (decide (((s.getD (i).toNat 0).toNat : Int) ≥ (48 : Int))) then (bif (!(decide (((s.getD (i).toNat 0).toNat : Int) ≤ (57 : Int)))) then (bif (!(((s.getD (i).toNat 0).toNat : Int) == (95 : Int))) then (.inr (.inl ())) else (.inl ())) else (.inl ())) else (bif (!(((s.getD (i).toNat 0).toNat : Int) == (95 : Int))) then (.inr (.inl ())) else (.inl ()))) else (.inl ()))
noncomputable def spec_IsName_e4 (s : List UInt8) : (Unit) ⊕ (Unit) := .inr ()
noncomputable def spec_IsName_R4 (s : List UInt8) (i : Int) : (Unit) ⊕ (Unit) := iter (fun i a => (spec_IsName_f4 s ((i + 1 : Nat) : Int))) (fun a => (spec_IsName_e4 s)) (s.length - 1) 0 ()
abbrev spec_IsName_4_σ := List UInt8 × Int
abbrev spec_IsName_4_ω := (Unit) ⊕ (Unit)
noncomputable def spec_IsName_4_step (s : List UInt8) (i : Int) : Tr (spec_IsName_4_σ ⊕ spec_IsName_4_ω) := (.ite ((decide (i < (s.length : Int))) = true) (.ite ((0 : Int) ≤ i ∧ i < (s.length : Int)) (.ite ((!(spec_l01Letter_v ((s.getD (i).toNat 0).toNat : Int))) = true) (.ite ((0 : Int) ≤ i ∧ i < (s.length : Int)) (.ite ((decide (((s.getD (i).toNat 0).toNat : Int) ≥ (48 : Int))) = true) (.ite ((0 : Int) ≤ i ∧ i < (s.length : Int)) (.ite ((!(decide (((s.getD (i).toNat 0).toNat : Int) ≤ (57 : Int)))) = true) (.ite ((0 : Int) ≤ i ∧ i < (s.length : Int)) (.ite ((!(((s.getD (i).toNat 0).toNat : Int) == (95 : Int))) = true) (.ok (.inr (.inl ())))
          (.ok (.inl (s, (IntKind.wrap .i64 (i + (1 : Int)))))))
         .no)
        (.ok (.inl (s, (IntKind.wrap .i64 (i + (1 : Int)))))))
       .no)
      (.ite ((0 : Int) ≤ i ∧ i < (s.length : Int)) (.ite ((!(((s.getD (i).toNat 0).toNat : Int) == (95 : Int))) = true) (.ok (.inr (.inl ())))
        (.ok (.inl (s, (IntKind.wrap .i64 (i + (1 : Int)))))))
       .no))
     .no)
    (.ok (.inl (s, (IntKind.wrap .i64 (i + (1 : Int)))))))
   .no)
  (.ok (.inr (.inr ()))))
noncomputable def spec_IsName_4_st : spec_IsName_4_σ → Tr (spec_IsName_4_σ ⊕ spec_IsName_4_ω) := fun x => (spec_IsName_4_step (x.1) (x.2))
noncomputable def spec_IsName_k4_1 (s : List UInt8) (i : Int) : Bool := sumIs (spec_IsName_R4 s i)
noncomputable def spec_IsName_o4_2 (s : List UInt8) (i : Int) : Bool := is (i = 1 ∧ s.length ≤ 140737488355328)
noncomputable def spec_IsName_o4_3 (s : List UInt8) (i : Int) : Bool := is (i = 1 ∧ s.length ≤ 140737488355328)
noncomputable def spec_IsName_4_fin (s : List UInt8) (i : Int) : Told spec_IsName_4_ω := (.br (spec_IsName_k4_1 s i) (.leaf (spec_IsName_o4_2 s i) (.inl ())) (.leaf (spec_IsName_o4_3 s i) (.inr ())))
def spec_IsName_4_sl (x : spec_IsName_4_σ) : List Slot := [⟨.val false [⟨.str, .sh, TC.s (x.1)⟩], ⟨0, 0⟩⟩, ⟨.val false [⟨.int .i64, .sh, TC.i (x.2)⟩], ⟨0, 0⟩⟩]
def spec_IsName_4_out : spec_IsName_4_ω → Ex × List Slot := (Sum.elim (fun x => (.ret, [⟨.val false [⟨.bool, .sh, TC.b false⟩], ⟨0, 0⟩⟩])) (fun x => (.exit 0, [Slot.none])))
noncomputable def spec_IsName_lo4 : List Slot → Option (Told (Ex × List Slot)) := fun s => match s with
  | [⟨.val false [⟨.str, .sh, TC.s s⟩], ⟨0, 0⟩⟩, ⟨.val false [⟨.int .i64, .sh, TC.i i⟩], ⟨0, 0⟩⟩] => some (((spec_IsName_4_fin s i)).map spec_IsName_4_out)
  | _ => .none
noncomputable def spec_IsName_lo : LoopTeller := fun r s => bif Nat.beq r 4 then spec_IsName_lo4 s else .none
theorem spec_IsName_4_r (s : List UInt8) (i : Int) (fuel : Nat) : rounds (rnd tab FT D5 live 50 spec_IsName_lo 0 4) leave (fuel + 1) (spec_IsName_4_sl (s, i)) = ((spec_IsName_4_step s i)).run (goOn (fun s => rounds (rnd tab FT D5 live 50 spec_IsName_lo 0 4) leave fuel (spec_IsName_4_sl s)) fun w => some (spec_IsName_4_out w)) := by kernel_rfl
theorem spec_IsName_f4_eq (s : List UInt8) (i : Int) : spec_IsName_f4 s i = bif (letterB ((s.getD (i).toNat 0).toNat : Int) || ((decide (((s.getD (i).toNat 0).toNat : Int) ≥ 48) && decide (((s.getD (i).toNat 0).toNat : Int) ≤ 57)) || ((s.getD (i).toNat 0).toNat : Int) == 95)) then Sum.inl () else Sum.inr (Sum.inl ()) := by
  unfold spec_IsName_f4 letterB
  simp only [spec_l01Letter_v, dlt, dgt]
  generalize ((s.getD i.toNat 0).toNat : Int) = c
  generalize decide (c ≥ 65) = p0, decide (c ≤ 90) = p1, decide (c ≥ 97) = p2, decide (c ≤ 122) = p3, decide (c ≥ 48) = p4, decide (c ≤ 57) = p5, (c == 95) = p6
  cases p0 <;> cases p1 <;> cases p2 <;> cases p3 <;> cases p4 <;> cases p5 <;> cases p6 <;> rfl
theorem spec_IsName_R4_eq (s : List UInt8)  : spec_IsName_R4 s 1 = bif allI (fun i : Nat => (letterB ((s.getD (((i + 1 : Nat) : Int)).toNat 0).toNat : Int) || ((decide (((s.getD (((i + 1 : Nat) : Int)).toNat 0).toNat : Int) ≥ 48) && decide (((s.getD (((i + 1 : Nat) : Int)).toNat 0).toNat : Int) ≤ 57)) || ((s.getD (((i + 1 : Nat) : Int)).toNat 0).toNat : Int) == 95))) (s.length - 1) then Sum.inr () else (Sum.inl ()) := by
  unfold spec_IsName_R4
  exact (iter_all (P := (fun i : Nat => (letterB ((s.getD (((i + 1 : Nat) : Int)).toNat 0).toNat : Int) || ((decide (((s.getD (((i + 1 : Nat) : Int)).toNat 0).toNat : Int) ≥ 48) && decide (((s.getD (((i + 1 : Nat) : Int)).toNat 0).toNat : Int) ≤ 57)) || ((s.getD (((i + 1 : Nat) : Int)).toNat 0).toNat : Int) == 95)))) (g := fun _ a => a) (w := Sum.inl ()) fun j a _ => spec_IsName_f4_eq s _)
theorem spec_IsName_4_h (s : List UInt8) (i : Int) (ow : spec_IsName_4_ω) : ((spec_IsName_4_fin s i)).val = some ow → ∃ fuel, loopN spec_IsName_4_st fuel (s, i) = some ow := by
  refine auto_const (R := (spec_IsName_R4 s i)) rfl (iter_onR (f := (fun i a => (spec_IsName_f4 s ((i + 1 : Nat) : Int)))) (fin := (fun a => (spec_IsName_e4 s))) (Q := endsAs () ()) (fun i a => by unfold spec_IsName_f4; exact (onR_bif (onR_bif (onR_bif (onR_bif rfl trivial) trivial) (onR_bif rfl trivial)) trivial)) (fun _ => rfl) _ _ _) ?_
  intro ho
  have ho : is (i = 1 ∧ s.length ≤ 140737488355328) = true := ho.elim id id
  obtain ⟨rfl, hs⟩ := is_iff.1 ho
  skip
  refine ⟨(s.length - 1) + 1, ?_⟩
  refine iter_loop (step := spec_IsName_4_st) (s.length - 1) (fun i a => (spec_IsName_f4 s ((i + 1 : Nat) : Int))) (fun a => (spec_IsName_e4 s)) (fun i a => (s, ((i + 1 : Nat) : Int))) (fun _ _ => True) trivial (fun i a hi hI => ⟨?_, fun _ _ => trivial⟩) (fun a hI => ?_)
  · show (spec_IsName_4_step s ((i + 1 : Nat) : Int)).val = _
    unfold spec_IsName_4_step spec_IsName_f4
    skip
    refine Tr.t (by simp; omega) ?_
    exact (Tr.t (by first | omega | (constructor <;> omega)) (Tr.bf (Tr.t (by first | omega | (constructor <;> omega)) (Tr.bf (Tr.t (by first | omega | (constructor <;> omega)) (Tr.bf (Tr.t (by first | omega | (constructor <;> omega)) (Tr.bf rfl (by rw [Tr.val_ok, wrap64 (i := ((i + 1 : Nat) : Int) + 1) (by omega) (by omega)]; rfl))) (by rw [Tr.val_ok, wrap64 (i := ((i + 1 : Nat) : Int) + 1) (by omega) (by omega)]; rfl))) (Tr.t (by first | omega | (constructor <;> omega)) (Tr.bf rfl (by rw [Tr.val_ok, wrap64 (i := ((i + 1 : Nat) : Int) + 1) (by omega) (by omega)]; rfl))))) (by rw [Tr.val_ok, wrap64 (i := ((i + 1 : Nat) : Int) + 1) (by omega) (by omega)]; rfl)))
  · show (spec_IsName_4_step s ((s.length - 1 + 1 : Nat) : Int)).val = _
    refine Tr.n (by first | (simp; done) | (simp; omega) | omega) ?_
    rfl
theorem spec_IsName_is4 : LoopIs tab FT D5 live 50 spec_IsName_lo 0 4 := by
  refine loop_told (sl := spec_IsName_4_sl) (step := spec_IsName_4_st) (out := spec_IsName_4_out) (lor := spec_IsName_lo4) (fin := fun x => (spec_IsName_4_fin (x.1) (x.2))) (fun _ => rfl) ?_ (fun x n => spec_IsName_4_r x.1 x.2 n) (fun x ow => spec_IsName_4_h x.1 x.2 ow)
  intro s t h
  unfold spec_IsName_lo4 at h
  split at h
  · cases h; exact ⟨(_, _), rfl, rfl⟩
  · cases h
noncomputable def spec_IsName_t (s : List UInt8) : Tr (Bool) := (.ite (((s.length : Int) == (0 : Int)) = true) (.ok false)
  (.ite ((decide ((s.length : Int) > (12 : Int))) = true) (.ok false)
   (.ite ((0 : Int) ≤ (0 : Int) ∧ (0 : Int) < (s.length : Int)) (.ite ((!(spec_l01Letter_v ((s.getD ((0 : Int)).toNat 0).toNat : Int))) = true) (.ok false)
     (.ite ((spec_IsName_k4_1 s (1 : Int)) = true) (.ite ((spec_IsName_o4_2 s (1 : Int)) = true) (.ok false)
       .no)
      (.ite ((spec_IsName_o4_3 s (1 : Int)) = true) (.ok true)
       .no)))
    .no)))
def spec_IsName_mk (p : Bool) : Res := [(false, [⟨.bool, .sh, TC.b p⟩])]
noncomputable def spec_IsName_c (s : List UInt8) : Bool := (bif ((s.length : Int) == (0 : Int)) then true else (bif (decide ((s.length : Int) > (12 : Int))) then true else (is ((0 : Int) ≤ (0 : Int) ∧ (0 : Int) < (s.length : Int)) && (bif (!(spec_l01Letter_v ((s.getD ((0 : Int)).toNat 0).toNat : Int))) then true else (bif (spec_IsName_k4_1 s (1 : Int)) then ((spec_IsName_o4_2 s (1 : Int)) && true) else ((spec_IsName_o4_3 s (1 : Int)) && true))))))
noncomputable def spec_IsName_v (s : List UInt8) : Bool := (bif ((s.length : Int) == (0 : Int)) then false else (bif (decide ((s.length : Int) > (12 : Int))) then false else (bif (!(spec_l01Letter_v ((s.getD ((0 : Int)).toNat 0).toNat : Int))) then false else (bif (spec_IsName_k4_1 s (1 : Int)) then false else true))))
theorem spec_IsName_l (s : List UInt8) : (spec_IsName_c s) = true → (spec_IsName_t s).val = some (spec_IsName_v s) := by
  unfold spec_IsName_t spec_IsName_v spec_IsName_c
  exact fun h => (Tr.ss h (fun h => rfl) (fun h => (Tr.ss h (fun h => rfl) (fun h => (Tr.gs h fun h => (Tr.ss h (fun h => rfl) (fun h => (Tr.ss h (fun h => (Tr.gb h fun h => rfl)) (fun h => (Tr.gb h fun h => rfl))))))))))
noncomputable def spec_IsName_S : List Arg → Option (Bool × Res) := fun xs => match xs with
  | [(false, [(.str, TC.s s)])] => some ((spec_IsName_c s), spec_IsName_mk (spec_IsName_v s))
  | _ => .none
theorem spec_IsName_e (s : List UInt8) : runF tab FT D5 live 50 spec_IsName_lo [(false, [(.str, TC.s s)])] = (spec_IsName_t s).run fun p => some (spec_IsName_mk p) := by kernel_rfl
theorem spec_IsName_s : ∀ xs r, spec_IsName_S xs = some (true, r) → runF tab FT D5 live 50 spec_IsName_lo xs = some r := by
  intro xs r h
  unfold spec_IsName_S at h
  split at h
  · simp only [Option.some.injEq, Prod.mk.injEq] at h
    obtain ⟨h1, rfl⟩ := h
    exact fun_told (spec_IsName_e _) (spec_IsName_l _) h1
  · cases h
noncomputable def D6 : Dt := also D5 50 spec_IsName_S
theorem d6 : DOk Go.Proofs.Try.prog tab D6 := d5.also mixed_ok tab_ok names_ok (fnLoops_one (by kernel_rfl) spec_IsName_is4) spec_IsName_s
theorem spec_IsName_cc {s : List UInt8} (hs : Typed tab (.str) (.s s)) : (spec_IsName_c s) = true := by
  unfold spec_IsName_c
  refine bifT (fun b1 => ?_) (fun b1 => ?_)
  · skip
    rfl
  · skip
    refine bifT (fun b2 => ?_) (fun b2 => ?_)
    · skip
      rfl
    · skip
      refine andT (is_true (by exact ⟨by omega, by have h2 := ne_of_beq_false b1; omega⟩)) ?_
      refine bifT (fun b3 => ?_) (fun b3 => ?_)
      · skip
        rfl
      · skip
        refine bifT (fun b4 => ?_) (fun b4 => ?_)
        · skip
          refine andT (by exact is_true ⟨rfl, by have := typed_str_len hs; omega⟩) ?_
          rfl
        · skip
          refine andT (by exact is_true ⟨rfl, by have := typed_str_len hs; omega⟩) ?_
          rfl
theorem spec_IsName_vv (s : List UInt8) : spec_IsName_v s = nameOk s := by
  unfold spec_IsName_v spec_IsName_k4_1
  rw [spec_IsName_R4_eq]
  have e3 : spec_l01Letter_v ((s.getD ((0 : Int)).toNat 0).toNat : Int) = nameB ((0 : Nat) : Int) ((s.getD (((0 : Nat) : Int)).toNat 0).toNat : Int) := by
    unfold spec_l01Letter_v nameB letterB
    generalize ((s.getD ((0 : Int)).toNat 0).toNat : Int) = c
    generalize decide (c ≥ 65) = p1, decide (c ≤ 90) = p2, decide (c ≥ 97) = p3, decide (c ≤ 122) = p4
    cases p1 <;> cases p2 <;> cases p3 <;> cases p4 <;> rfl
  rw [e3]
  cases h0 : s.length with
  | zero =>
    have : s = [] := List.eq_nil_of_length_eq_zero h0
    subst this
    rfl
  | succ n =>
    have e2 : allI (fun i : Nat => nameB ((i + 1 : Nat) : Int) ((s.getD (((i + 1 : Nat) : Int)).toNat 0).toNat : Int)) n = allI (fun i : Nat => (letterB ((s.getD (((i + 1 : Nat) : Int)).toNat 0).toNat : Int) || ((decide (((s.getD (((i + 1 : Nat) : Int)).toNat 0).toNat : Int) ≥ 48) && decide (((s.getD (((i + 1 : Nat) : Int)).toNat 0).toNat : Int) ≤ 57)) || ((s.getD (((i + 1 : Nat) : Int)).toNat 0).toNat : Int) == 95))) n := allI_congr fun i _ => by
      unfold nameB
      rw [show (((i + 1 : Nat) : Int) == 0) = false from by simp; omega]
      rfl
    unfold nameOk
    rw [h0, allI_head, e2, Nat.add_sub_cancel]
    rw [show (((n + 1 : Nat) : Int) == 0) = false from by simp; omega, show decide (((n + 1 : Nat) : Int) ≥ 1) = true from by simp; omega, dgt]
    generalize nameB ((0 : Nat) : Int) ((s.getD (((0 : Nat) : Int)).toNat 0).toNat : Int) = q1
    generalize allI (fun i : Nat => (letterB ((s.getD (((i + 1 : Nat) : Int)).toNat 0).toNat : Int) || ((decide (((s.getD (((i + 1 : Nat) : Int)).toNat 0).toNat : Int) ≥ 48) && decide (((s.getD (((i + 1 : Nat) : Int)).toNat 0).toNat : Int) ≤ 57)) || ((s.getD (((i + 1 : Nat) : Int)).toNat 0).toNat : Int) == 95))) n = q2
    generalize decide (((n + 1 : Nat) : Int) ≤ 12) = q3
    cases q1 <;> cases q2 <;> cases q3 <;> rfl
/-! spec_l16Ok -/
noncomputable def spec_l16Ok_f5 (A : List (List TC)) (m : Int) (i : Int) : (Unit) ⊕ ((Unit) ⊕ (Unit)) := (bif (!((nth (row A i) 0).str == [])) then (bif (!(spec_IsName_v ((nth (row A i) 0).str))) then (.inr (.inl ())) else (.inl ())) else (.inl ()))
noncomputable def spec_l16Ok_e5 (A : List (List TC)) (m : Int) : (Unit) ⊕ (Unit) := .inr ()
noncomputable def spec_l16Ok_R5 (A : List (List TC)) (m : Int) (i : Int) : (Unit) ⊕ (Unit) := iter (fun i a => (spec_l16Ok_f5 A m (i : Int))) (fun a => (spec_l16Ok_e5 A m)) (A.length) 0 ()
abbrev spec_l16Ok_5_σ := List (List TC) × Int × Int
abbrev spec_l16Ok_5_ω := (Unit) ⊕ (Unit)
noncomputable def spec_l16Ok_5_step (A : List (List TC)) (m : Int) (i : Int) : Tr (spec_l16Ok_5_σ ⊕ spec_l16Ok_5_ω) := (.ite ((decide (i < m)) = true) (.ite ((0 : Int) ≤ i ∧ i < (A.length : Int)) (.ite ((!((nth (row A i) 0).str == [])) = true) (.ite ((0 : Int) ≤ i ∧ i < (A.length : Int)) (.ite ((spec_IsName_c ((nth (row A i) 0).str)) = true) (.ite ((!(spec_IsName_v ((nth (row A i) 0).str))) = true) (.ok (.inr (.inl ())))
       (.ok (.inl (A, m, (IntKind.wrap .i64 (i + (1 : Int)))))))
      .no)
     .no)
    (.ok (.inl (A, m, (IntKind.wrap .i64 (i + (1 : Int)))))))
   .no)
  (.ok (.inr (.inr ()))))
noncomputable def spec_l16Ok_5_st : spec_l16Ok_5_σ → Tr (spec_l16Ok_5_σ ⊕ spec_l16Ok_5_ω) := fun x => (spec_l16Ok_5_step (x.1) (x.2.1) (x.2.2))
noncomputable def spec_l16Ok_k5_1 (A : List (List TC)) (m : Int) (i : Int) : Bool := sumIs (spec_l16Ok_R5 A m i)
noncomputable def spec_l16Ok_o5_2 (A : List (List TC)) (m : Int) (i : Int) : Bool := is (i = 0 ∧ Typed tab (.slice 9) (.l A) ∧ m = (A.length : Int))
noncomputable def spec_l16Ok_o5_3 (A : List (List TC)) (m : Int) (i : Int) : Bool := is (i = 0 ∧ Typed tab (.slice 9) (.l A) ∧ m = (A.length : Int))
noncomputable def spec_l16Ok_5_fin (A : List (List TC)) (m : Int) (i : Int) : Told spec_l16Ok_5_ω := (.br (spec_l16Ok_k5_1 A m i) (.leaf (spec_l16Ok_o5_2 A m i) (.inl ())) (.leaf (spec_l16Ok_o5_3 A m i) (.inr ())))
def spec_l16Ok_5_sl (x : spec_l16Ok_5_σ) : List Slot := [⟨.bx 37 [⟨.slice 9, .sh, TC.l (x.1)⟩], ⟨0, 0⟩⟩, ⟨.val false [⟨.int .i64, .sh, TC.i (x.2.1)⟩], ⟨0, 0⟩⟩, ⟨.val false [⟨.int .i64, .sh, TC.i (x.2.2)⟩], ⟨0, 0⟩⟩]
def spec_l16Ok_5_out : spec_l16Ok_5_ω → Ex × List Slot := (Sum.elim (fun x => (.ret, [⟨.val false [⟨.bool, .sh, TC.b false⟩], ⟨0, 0⟩⟩])) (fun x => (.exit 0, [Slot.none])))
noncomputable def spec_l16Ok_lo5 : List Slot → Option (Told (Ex × List Slot)) := fun s => match s with
  | [⟨.bx 37 [⟨.slice 9, .sh, TC.l A⟩], ⟨0, 0⟩⟩, ⟨.val false [⟨.int .i64, .sh, TC.i m⟩], ⟨0, 0⟩⟩, ⟨.val false [⟨.int .i64, .sh, TC.i i⟩], ⟨0, 0⟩⟩] => some (((spec_l16Ok_5_fin A m i)).map spec_l16Ok_5_out)
  | _ => .none
noncomputable def spec_l16Ok_lo : LoopTeller := fun r s => bif Nat.beq r 5 then spec_l16Ok_lo5 s else .none
theorem spec_l16Ok_5_r (A : List (List TC)) (m : Int) (i : Int) (fuel : Nat) : rounds (rnd tab FT D6 live 49 spec_l16Ok_lo 0 5) leave (fuel + 1) (spec_l16Ok_5_sl (A, m, i)) = ((spec_l16Ok_5_step A m i)).run (goOn (fun s => rounds (rnd tab FT D6 live 49 spec_l16Ok_lo 0 5) leave fuel (spec_l16Ok_5_sl s)) fun w => some (spec_l16Ok_5_out w)) := by kernel_rfl
theorem spec_l16Ok_f5_eq (A : List (List TC)) (m : Int) (i : Int) : spec_l16Ok_f5 A m i = bif slotNameOk (row A i) then Sum.inl () else Sum.inr (Sum.inl ()) := by
  unfold spec_l16Ok_f5 slotNameOk
  simp only [spec_IsName_vv]
  generalize ((nth (row A i) 0).str == []) = p0, nameOk (nth (row A i) 0).str = p1
  cases p0 <;> cases p1 <;> rfl
theorem spec_l16Ok_R5_eq (A : List (List TC)) (m : Int)  : spec_l16Ok_R5 A m 0 = bif allI (fun i : Nat => slotNameOk (row A (i : Int))) (A.length) then Sum.inr () else (Sum.inl ()) := by
  unfold spec_l16Ok_R5
  exact (iter_all (P := (fun i : Nat => slotNameOk (row A (i : Int)))) (g := fun _ a => a) (w := Sum.inl ()) fun j a _ => spec_l16Ok_f5_eq A m _)
theorem spec_l16Ok_5_h (A : List (List TC)) (m : Int) (i : Int) (ow : spec_l16Ok_5_ω) : ((spec_l16Ok_5_fin A m i)).val = some ow → ∃ fuel, loopN spec_l16Ok_5_st fuel (A, m, i) = some ow := by
  refine auto_const (R := (spec_l16Ok_R5 A m i)) rfl (iter_onR (f := (fun i a => (spec_l16Ok_f5 A m (i : Int)))) (fin := (fun a => (spec_l16Ok_e5 A m))) (Q := endsAs () ()) (fun i a => by unfold spec_l16Ok_f5; exact (onR_bif (onR_bif rfl trivial) trivial)) (fun _ => rfl) _ _ _) ?_
  intro ho
  have ho : is (i = 0 ∧ Typed tab (.slice 9) (.l A) ∧ m = (A.length : Int)) = true := ho.elim id id
  obtain ⟨rfl, ht, rfl⟩ := is_iff.1 ho
  have hlen : A.length ≤ 140737488351232 := by have := typed_room ht; simp only [show (tab 9).bytes = 16 from rfl] at this; omega
  refine ⟨(A.length) + 1, ?_⟩
  refine iter_loop (step := spec_l16Ok_5_st) (A.length) (fun i a => (spec_l16Ok_f5 A (A.length : Int) (i : Int))) (fun a => (spec_l16Ok_e5 A (A.length : Int))) (fun i a => (A, (A.length : Int), (i : Int))) (fun _ _ => True) trivial (fun i a hi hI => ⟨?_, fun _ _ => trivial⟩) (fun a hI => ?_)
  · show (spec_l16Ok_5_step A (A.length : Int) (i : Int)).val = _
    unfold spec_l16Ok_5_step spec_l16Ok_f5
    have c0 : Typed tab (.str) (.s (nth (A.getD i []) 0).str) := typed_s (typed_cell ht (A.getD i []) (mem_getD hi) 0 (by decide))
    refine Tr.t (by simp; omega) ?_
    exact (Tr.t (by first | omega | (constructor <;> omega)) (Tr.bf (Tr.t (by first | omega | (constructor <;> omega)) (Tr.t (by first | (first | (apply spec_IsName_cc <;> assumption) | (first | (apply is_true; and_intros <;> (first | rfl | assumption | (apply spec_IsName_cc <;> assumption) | (first | (apply is_true; and_intros <;> (first | rfl | assumption | (apply spec_IsName_cc <;> assumption))) | (apply spec_IsName_cc <;> assumption)))) | (apply spec_IsName_cc <;> assumption)))) (Tr.bf rfl (by rw [Tr.val_ok, wrap64 (i := (i : Int) + 1) (by omega) (by omega)]; rfl)))) (by rw [Tr.val_ok, wrap64 (i := (i : Int) + 1) (by omega) (by omega)]; rfl)))
  · show (spec_l16Ok_5_step A (A.length : Int) (A.length : Int)).val = _
    refine Tr.n (by first | (simp; done) | (simp; omega) | omega) ?_
    rfl
theorem spec_l16Ok_is5 : LoopIs tab FT D6 live 49 spec_l16Ok_lo 0 5 := by
  refine loop_told (sl := spec_l16Ok_5_sl) (step := spec_l16Ok_5_st) (out := spec_l16Ok_5_out) (lor := spec_l16Ok_lo5) (fin := fun x => (spec_l16Ok_5_fin (x.1) (x.2.1) (x.2.2))) (fun _ => rfl) ?_ (fun x n => spec_l16Ok_5_r x.1 x.2.1 x.2.2 n) (fun x ow => spec_l16Ok_5_h x.1 x.2.1 x.2.2 ow)
  intro s t h
  unfold spec_l16Ok_lo5 at h
  split at h
  · cases h; exact ⟨(_, _, _), rfl, rfl⟩
  · cases h
noncomputable def spec_l16Ok_t (A : List (List TC)) : Tr (Bool) := (.ite ((decide ((A.length : Int) > (30 : Int))) = true) (.ok false)
  (.ite ((decide ((A.length : Int) > (0 : Int))) = true) (.ite ((0 : Int) ≤ (IntKind.wrap .i64 ((A.length : Int) - (1 : Int))) ∧ (IntKind.wrap .i64 ((A.length : Int) - (1 : Int))) < (A.length : Int)) (.ite (((nth (row A (IntKind.wrap .i64 ((A.length : Int) - (1 : Int)))) 0).str == []) = true) (.ok false)
     (.ite ((spec_l16Ok_k5_1 A (A.length : Int) (0 : Int)) = true) (.ite ((spec_l16Ok_o5_2 A (A.length : Int) (0 : Int)) = true) (.ok false)
       .no)
      (.ite ((spec_l16Ok_o5_3 A (A.length : Int) (0 : Int)) = true) (.ok true)
       .no)))
    .no)
   (.ite ((spec_l16Ok_k5_1 A (A.length : Int) (0 : Int)) = true) (.ite ((spec_l16Ok_o5_2 A (A.length : Int) (0 : Int)) = true) (.ok false)
     .no)
    (.ite ((spec_l16Ok_o5_3 A (A.length : Int) (0 : Int)) = true) (.ok true)
     .no))))
def spec_l16Ok_mk (p : Bool) : Res := [(false, [⟨.bool, .sh, TC.b p⟩])]
noncomputable def spec_l16Ok_c (A : List (List TC)) : Bool := (bif (decide ((A.length : Int) > (30 : Int))) then true else (bif (decide ((A.length : Int) > (0 : Int))) then (is ((0 : Int) ≤ (IntKind.wrap .i64 ((A.length : Int) - (1 : Int))) ∧ (IntKind.wrap .i64 ((A.length : Int) - (1 : Int))) < (A.length : Int)) && (bif ((nth (row A (IntKind.wrap .i64 ((A.length : Int) - (1 : Int)))) 0).str == []) then true else (bif (spec_l16Ok_k5_1 A (A.length : Int) (0 : Int)) then ((spec_l16Ok_o5_2 A (A.length : Int) (0 : Int)) && true) else ((spec_l16Ok_o5_3 A (A.length : Int) (0 : Int)) && true)))) else (bif (spec_l16Ok_k5_1 A (A.length : Int) (0 : Int)) then ((spec_l16Ok_o5_2 A (A.length : Int) (0 : Int)) && true) else ((spec_l16Ok_o5_3 A (A.length : Int) (0 : Int)) && true))))
noncomputable def spec_l16Ok_v (A : List (List TC)) : Bool := (bif (decide ((A.length : Int) > (30 : Int))) then false else (bif (decide ((A.length : Int) > (0 : Int))) then (bif ((nth (row A (IntKind.wrap .i64 ((A.length : Int) - (1 : Int)))) 0).str == []) then false else (bif (spec_l16Ok_k5_1 A (A.length : Int) (0 : Int)) then false else true)) else (bif (spec_l16Ok_k5_1 A (A.length : Int) (0 : Int)) then false else true)))
theorem spec_l16Ok_l (A : List (List TC)) : (spec_l16Ok_c A) = true → (spec_l16Ok_t A).val = some (spec_l16Ok_v A) := by
  unfold spec_l16Ok_t spec_l16Ok_v spec_l16Ok_c
  exact fun h => (Tr.ss h (fun h => rfl) (fun h => (Tr.ss h (fun h => (Tr.gs h fun h => (Tr.ss h (fun h => rfl) (fun h => (Tr.ss h (fun h => (Tr.gb h fun h => rfl)) (fun h => (Tr.gb h fun h => rfl))))))) (fun h => (Tr.ss h (fun h => (Tr.gb h fun h => rfl)) (fun h => (Tr.gb h fun h => rfl)))))))
noncomputable def spec_l16Ok_S : List Arg → Option (Bool × Res) := fun xs => match xs with
  | [(true, [(.slice 9, TC.l A)])] => some ((spec_l16Ok_c A), spec_l16Ok_mk (spec_l16Ok_v A))
  | _ => .none
theorem spec_l16Ok_e (A : List (List TC)) : runF tab FT D6 live 49 spec_l16Ok_lo [(true, [(.slice 9, TC.l A)])] = (spec_l16Ok_t A).run fun p => some (spec_l16Ok_mk p) := by kernel_rfl
theorem spec_l16Ok_s : ∀ xs r, spec_l16Ok_S xs = some (true, r) → runF tab FT D6 live 49 spec_l16Ok_lo xs = some r := by
  intro xs r h
  unfold spec_l16Ok_S at h
  split at h
  · simp only [Option.some.injEq, Prod.mk.injEq] at h
    obtain ⟨h1, rfl⟩ := h
    exact fun_told (spec_l16Ok_e _) (spec_l16Ok_l _) h1
  · cases h
noncomputable def D7 : Dt := also D6 49 spec_l16Ok_S
theorem d7 : DOk Go.Proofs.Try.prog tab D7 := d6.also mixed_ok tab_ok names_ok (fnLoops_one (by kernel_rfl) spec_l16Ok_is5) spec_l16Ok_s
theorem spec_l16Ok_cc {A : List (List TC)} (hA : Typed tab (.slice 9) (.l A)) : (spec_l16Ok_c A) = true := by
  unfold spec_l16Ok_c
  refine bifT (fun b1 => ?_) (fun b1 => ?_)
  · skip
    rfl
  · skip
    refine bifT (fun b2 => ?_) (fun b2 => ?_)
    · skip
      refine andT (is_true (by have hl := typed_room hA; simp only [show (tab 9).bytes = 16 from rfl] at hl; have hb := of_decide_eq_true b2; rw [wrap64 (by omega) (by omega)]; constructor <;> omega)) ?_
      refine bifT (fun b3 => ?_) (fun b3 => ?_)
      · skip
        rfl
      · skip
        refine bifT (fun b4 => ?_) (fun b4 => ?_)
        · skip
          refine andT (by first | (apply is_true; and_intros <;> (first | rfl | assumption | (apply spec_IsName_cc <;> assumption) | (first | (apply is_true; and_intros <;> (first | rfl | assumption | (apply spec_IsName_cc <;> assumption) | (first | (apply is_true; and_intros <;> (first | rfl | assumption | (apply spec_IsName_cc <;> assumption) | (first | (apply is_true; and_intros <;> (first | rfl | assumption | (apply spec_IsName_cc <;> assumption))) | (apply spec_IsName_cc <;> assumption)))) | (apply spec_IsName_cc <;> assumption)))) | (apply spec_IsName_cc <;> assumption)))) | (apply spec_IsName_cc <;> assumption)) ?_
          rfl
        · skip
          refine andT (by first | (apply is_true; and_intros <;> (first | rfl | assumption | (apply spec_IsName_cc <;> assumption) | (first | (apply is_true; and_intros <;> (first | rfl | assumption | (apply spec_IsName_cc <;> assumption) | (first | (apply is_true; and_intros <;> (first | rfl | assumption | (apply spec_IsName_cc <;> assumption) | (first | (apply is_true; and_intros <;> (first | rfl | assumption | (apply spec_IsName_cc <;> assumption))) | (apply spec_IsName_cc <;> assumption)))) | (apply spec_IsName_cc <;> assumption)))) | (apply spec_IsName_cc <;> assumption)))) | (apply spec_IsName_cc <;> assumption)) ?_
          rfl
    · skip
      refine bifT (fun b5 => ?_) (fun b5 => ?_)
      · skip
        refine andT (by first | (apply is_true; and_intros <;> (first | rfl | assumption | (apply spec_IsName_cc <;> assumption) | (first | (apply is_true; and_intros <;> (first | rfl | assumption | (apply spec_IsName_cc <;> assumption) | (first | (apply is_true; and_intros <;> (first | rfl | assumption | (apply spec_IsName_cc <;> assumption) | (first | (apply is_true; and_intros <;> (first | rfl | assumption | (apply spec_IsName_cc <;> assumption))) | (apply spec_IsName_cc <;> assumption)))) | (apply spec_IsName_cc <;> assumption)))) | (apply spec_IsName_cc <;> assumption)))) | (apply spec_IsName_cc <;> assumption)) ?_
        rfl
      · skip
        refine andT (by first | (apply is_true; and_intros <;> (first | rfl | assumption | (apply spec_IsName_cc <;> assumption) | (first | (apply is_true; and_intros <;> (first | rfl | assumption | (apply spec_IsName_cc <;> assumption) | (first | (apply is_true; and_intros <;> (first | rfl | assumption | (apply spec_IsName_cc <;> assumption) | (first | (apply is_true; and_intros <;> (first | rfl | assumption | (apply spec_IsName_cc <;> assumption))) | (apply spec_IsName_cc <;> assumption)))) | (apply spec_IsName_cc <;> assumption)))) | (apply spec_IsName_cc <;> assumption)))) | (apply spec_IsName_cc <;> assumption)) ?_
        rfl
theorem spec_l16Ok_vv (A : List (List TC)) : spec_l16Ok_v A = heapOk A := by
  unfold spec_l16Ok_v spec_l16Ok_k5_1
  rw [spec_l16Ok_R5_eq, allI_rows, dgt, lenPos]
  unfold heapOk lastEmpty
  generalize decide ((A.length : Int) ≤ 30) = p1, ((A.length : Int) == 0) = p2, ((nth (row A (IntKind.wrap .i64 ((A.length : Int) - (1 : Int)))) 0).str == []) = p3, A.all slotNameOk = p4
  cases p1 <;> cases p2 <;> cases p3 <;> cases p4 <;> rfl
/-! spec_l16Own -/
noncomputable def spec_l16Own_t (A : List (List TC)) : Tr (List (List TC)) := (.ite (roomFor (tab 9) ([] ++ A).length) (.ok ([] ++ A))
  .no)
def spec_l16Own_mk (p : List (List TC)) : Res := [(true, [⟨.slice 9, .own true, TC.l p⟩])]
noncomputable def spec_l16Own_c (A : List (List TC)) : Bool := is (Typed tab (.slice 9) (.l A))
noncomputable def spec_l16Own_v (A : List (List TC)) : List (List TC) := A
theorem spec_l16Own_l (A : List (List TC)) : (spec_l16Own_c A) = true → (spec_l16Own_t A).val = some (spec_l16Own_v A) := by
  intro h
  have ht := is_iff.1 h
  have hroom := typed_room ht
  simp only [show (tab 9).bytes = 16 from rfl] at hroom
  unfold spec_l16Own_t
  rw [List.nil_append]
  refine Tr.t (show roomFor (tab 9) A.length from by unfold roomFor; simp only [show (tab 9).bytes = 16 from rfl]; omega) ?_
  rfl
noncomputable def spec_l16Own_S : List Arg → Option (Bool × Res) := fun xs => match xs with
  | [(true, [(.slice 9, TC.l A)])] => some ((spec_l16Own_c A), spec_l16Own_mk (spec_l16Own_v A))
  | _ => .none
theorem spec_l16Own_e (A : List (List TC)) : runF tab FT D7 live 51 noLoops [(true, [(.slice 9, TC.l A)])] = (spec_l16Own_t A).run fun p => some (spec_l16Own_mk p) := by kernel_rfl
theorem spec_l16Own_s : ∀ xs r, spec_l16Own_S xs = some (true, r) → runF tab FT D7 live 51 noLoops xs = some r := by
  intro xs r h
  unfold spec_l16Own_S at h
  split at h
  · simp only [Option.some.injEq, Prod.mk.injEq] at h
    obtain ⟨h1, rfl⟩ := h
    exact fun_told (spec_l16Own_e _) (spec_l16Own_l _) h1
  · cases h
noncomputable def D8 : Dt := also D7 51 spec_l16Own_S
theorem d8 : DOk Go.Proofs.Try.prog tab D8 := d7.also mixed_ok tab_ok names_ok noLoops_ok spec_l16Own_s
/-! spec_l16Slot -/
abbrev spec_l16Slot_2_σ := List UInt8 × List (List TC) × Int
abbrev spec_l16Slot_2_ω := (Int) ⊕ (Unit)
noncomputable def spec_l16Slot_2_step (s : List UInt8) (A : List (List TC)) (i : Int) : Tr (spec_l16Slot_2_σ ⊕ spec_l16Slot_2_ω) := (.ite ((decide (i < (A.length : Int))) = true) (.ite ((0 : Int) ≤ i ∧ i < (A.length : Int)) (.ite (((nth (row A i) 0).str == s) = true) (.ok (.inr (.inl i)))
    (.ok (.inl (s, A, (IntKind.wrap .i64 (i + (1 : Int)))))))
   .no)
  (.ok (.inr (.inr ()))))
noncomputable def spec_l16Slot_2_st : spec_l16Slot_2_σ → Tr (spec_l16Slot_2_σ ⊕ spec_l16Slot_2_ω) := fun x => (spec_l16Slot_2_step (x.1) (x.2.1) (x.2.2))
noncomputable def spec_l16Slot_k2_1 (s : List UInt8) (A : List (List TC)) (i : Int) : Bool := A.all (fun x => !((nth x 0).str == s))
noncomputable def spec_l16Slot_o2_2 (s : List UInt8) (A : List (List TC)) (i : Int) : Bool := is (i = 0 ∧ Typed tab (.slice 9) (.l A))
noncomputable def spec_l16Slot_o2_3 (s : List UInt8) (A : List (List TC)) (i : Int) : Bool := is (i = 0 ∧ Typed tab (.slice 9) (.l A))
noncomputable def spec_l16Slot_u2_3 (s : List UInt8) (A : List (List TC)) (i : Int) : Int := (Int.ofNat (A.findIdx fun x => !(fun x => !((nth x 0).str == s)) x))
noncomputable def spec_l16Slot_2_fin (s : List UInt8) (A : List (List TC)) (i : Int) : Told spec_l16Slot_2_ω := (.br (spec_l16Slot_k2_1 s A i) (.leaf (spec_l16Slot_o2_2 s A i) (.inr ())) (.leaf (spec_l16Slot_o2_3 s A i) (.inl (spec_l16Slot_u2_3 s A i))))
def spec_l16Slot_2_sl (x : spec_l16Slot_2_σ) : List Slot := [⟨.val false [⟨.str, .sh, TC.s (x.1)⟩], ⟨0, 0⟩⟩, ⟨.bx 37 [⟨.slice 9, .sh, TC.l (x.2.1)⟩], ⟨0, 0⟩⟩, ⟨.val false [⟨.int .i64, .sh, TC.i (x.2.2)⟩], ⟨0, 0⟩⟩]
def spec_l16Slot_2_out : spec_l16Slot_2_ω → Ex × List Slot := (Sum.elim (fun x => (.ret, [⟨.val false [⟨.int .i64, .sh, TC.i x⟩], ⟨0, 0⟩⟩])) (fun x => (.exit 0, [Slot.none])))
noncomputable def spec_l16Slot_lo2 : List Slot → Option (Told (Ex × List Slot)) := fun s => match s with
  | [⟨.val false [⟨.str, .sh, TC.s s⟩], ⟨0, 0⟩⟩, ⟨.bx 37 [⟨.slice 9, .sh, TC.l A⟩], ⟨0, 0⟩⟩, ⟨.val false [⟨.int .i64, .sh, TC.i i⟩], ⟨0, 0⟩⟩] => some (((spec_l16Slot_2_fin s A i)).map spec_l16Slot_2_out)
  | _ => .none
noncomputable def spec_l16Slot_lo : LoopTeller := fun r s => bif Nat.beq r 2 then spec_l16Slot_lo2 s else .none
theorem spec_l16Slot_2_r (s : List UInt8) (A : List (List TC)) (i : Int) (fuel : Nat) : rounds (rnd tab FT D8 live 52 spec_l16Slot_lo 0 2) leave (fuel + 1) (spec_l16Slot_2_sl (s, A, i)) = ((spec_l16Slot_2_step s A i)).run (goOn (fun s => rounds (rnd tab FT D8 live 52 spec_l16Slot_lo 0 2) leave fuel (spec_l16Slot_2_sl s)) fun w => some (spec_l16Slot_2_out w)) := by kernel_rfl
theorem spec_l16Slot_2_h (s : List UInt8) (A : List (List TC)) (i : Int) (ow : spec_l16Slot_2_ω) : ((spec_l16Slot_2_fin s A i)).val = some ow → ∃ fuel, loopN spec_l16Slot_2_st fuel (s, A, i) = some ow := by
  intro h
  have key : Typed tab (.slice 9) (.l A) → loopN spec_l16Slot_2_st (A.length + 1) (s, A, (0 : Int)) = some (if A.all (fun x => !((nth x 0).str == s)) = true then (.inr ()) else (.inl (Int.ofNat (A.findIdx fun x => !(fun x => !((nth x 0).str == s)) x)))) := by
    intro ht
    have hlen : A.length ≤ 140737488351232 := by have := typed_room ht; simp only [show (tab 9).bytes = 16 from rfl] at this; omega
    have key := loopN_scan (step := spec_l16Slot_2_st) A [] (fun x => !((nth x 0).str == s)) (fun a _ => a) (fun i a => (s, A, (i : Int))) (fun a => (.inr ())) (fun i a => (.inl (i : Int))) (fun i a hi => ?_) (fun a => ?_) A.length 0 () (by omega)
    · first | (rw [Nat.zero_add] at key; exact key) | exact key
    · have c0 : Typed tab (.str) (.s (nth (A.getD i []) 0).str) := typed_s (typed_cell ht (A.getD i []) (mem_getD hi) 0 (by decide))
      show (spec_l16Slot_2_step s A (i : Int)).val = _
      unfold spec_l16Slot_2_step
      refine Tr.t (by simp; omega) ?_
      skip
      refine Tr.t (by first | omega | (constructor <;> omega)) ?_
      refine Tr.b2 (fun hP => ?_) (fun _ => rfl)
      rw [Tr.val_ok, wrap64 (i := (i : Int) + 1) (by omega) (by omega)]; rfl
    · show (spec_l16Slot_2_step s A (A.length : Int)).val = _
      refine Tr.n (by simp) ?_
      rfl
  simp only [spec_l16Slot_2_fin, Told.val] at h
  cases hk : A.all (fun x => !((nth x 0).str == s)) with
  | true =>
    rw [if_pos (show spec_l16Slot_k2_1 s A i = true from hk)] at h
    split at h
    · rename_i ho
      obtain ⟨rfl, ht⟩ := is_iff.1 ho
      cases h
      refine ⟨_, (key ht).trans ?_⟩
      rw [hk]; rfl
    · cases h
  | false =>
    rw [if_neg (show ¬spec_l16Slot_k2_1 s A i = true from by rw [show spec_l16Slot_k2_1 s A i = (A.all (fun x => !((nth x 0).str == s))) from rfl, hk]; simp)] at h
    split at h
    · rename_i ho
      obtain ⟨rfl, ht⟩ := is_iff.1 ho
      cases h
      refine ⟨_, (key ht).trans ?_⟩
      rw [hk]; rfl
    · cases h
theorem spec_l16Slot_is2 : LoopIs tab FT D8 live 52 spec_l16Slot_lo 0 2 := by
  refine loop_told (sl := spec_l16Slot_2_sl) (step := spec_l16Slot_2_st) (out := spec_l16Slot_2_out) (lor := spec_l16Slot_lo2) (fin := fun x => (spec_l16Slot_2_fin (x.1) (x.2.1) (x.2.2))) (fun _ => rfl) ?_ (fun x n => spec_l16Slot_2_r x.1 x.2.1 x.2.2 n) (fun x ow => spec_l16Slot_2_h x.1 x.2.1 x.2.2 ow)
  intro s t h
  unfold spec_l16Slot_lo2 at h
  split at h
  · cases h; exact ⟨(_, _, _), rfl, rfl⟩
  · cases h
noncomputable def spec_l16Slot_t (A : List (List TC)) (s : List UInt8) : Tr (Int) := (.ite ((spec_l16Slot_k2_1 s A (0 : Int)) = true) (.ite ((spec_l16Slot_o2_2 s A (0 : Int)) = true) (.ok (-1 : Int))
   .no)
  (.ite ((spec_l16Slot_o2_3 s A (0 : Int)) = true) (.ok (spec_l16Slot_u2_3 s A (0 : Int)))
   .no))
def spec_l16Slot_mk (p : Int) : Res := [(false, [⟨.int .i64, .sh, TC.i p⟩])]
noncomputable def spec_l16Slot_c (A : List (List TC)) (s : List UInt8) : Bool := is (((spec_l16Slot_o2_2 s A (0 : Int)) = true) ∧ ((spec_l16Slot_o2_3 s A (0 : Int)) = true))
noncomputable def spec_l16Slot_v (A : List (List TC)) (s : List UInt8) : Int := (bif (spec_l16Slot_k2_1 s A (0 : Int)) then (-1 : Int) else (spec_l16Slot_u2_3 s A (0 : Int)))
theorem spec_l16Slot_l (A : List (List TC)) (s : List UInt8) : (spec_l16Slot_c A s) = true → (spec_l16Slot_t A s).val = some (spec_l16Slot_v A s) := by
  intro h
  obtain ⟨g0, g1⟩ := is_iff.1 h
  unfold spec_l16Slot_t spec_l16Slot_v
  exact (Tr.s (Tr.t g0 rfl) (Tr.t g1 rfl))
noncomputable def spec_l16Slot_S : List Arg → Option (Bool × Res) := fun xs => match xs with
  | [(true, [(.slice 9, TC.l A)]), (false, [(.str, TC.s s)])] => some ((spec_l16Slot_c A s), spec_l16Slot_mk (spec_l16Slot_v A s))
  | _ => .none
theorem spec_l16Slot_e (A : List (List TC)) (s : List UInt8) : runF tab FT D8 live 52 spec_l16Slot_lo [(true, [(.slice 9, TC.l A)]), (false, [(.str, TC.s s)])] = (spec_l16Slot_t A s).run fun p => some (spec_l16Slot_mk p) := by kernel_rfl
theorem spec_l16Slot_s : ∀ xs r, spec_l16Slot_S xs = some (true, r) → runF tab FT D8 live 52 spec_l16Slot_lo xs = some r := by
  intro xs r h
  unfold spec_l16Slot_S at h
  split at h
  · simp only [Option.some.injEq, Prod.mk.injEq] at h
    obtain ⟨h1, rfl⟩ := h
    exact fun_told (spec_l16Slot_e _ _) (spec_l16Slot_l _ _) h1
  · cases h
noncomputable def D9 : Dt := also D8 52 spec_l16Slot_S
theorem d9 : DOk Go.Proofs.Try.prog tab D9 := d8.also mixed_ok tab_ok names_ok (fnLoops_one (by kernel_rfl) spec_l16Slot_is2) spec_l16Slot_s
theorem spec_l16Slot_vv (A : List (List TC)) (s : List UInt8) : spec_l16Slot_v A s = slotIdx A s := rfl
/-! spec_PutName -/
noncomputable def spec_PutName_t (A : List (List TC)) (s : List UInt8) : Tr (List (List TC) × Int × Int) := (.ite ((spec_l16Ok_c A) = true) (.ite ((!(spec_l16Ok_v A)) = true) (.ok ([], (0 : Int), (1 : Int)))
   (.ite ((spec_IsName_c s) = true) (.ite ((!(spec_IsName_v s)) = true) (.ok ([], (0 : Int), (1 : Int)))
     (.ite ((spec_l16Own_c A) = true) (.ite ((spec_l16Slot_c A []) = true) (.ite ((decide ((spec_l16Slot_v A []) ≥ (0 : Int))) = true) (.ite ((0 : Int) ≤ (spec_l16Slot_v A []) ∧ (spec_l16Slot_v A []) < ((spec_l16Own_v A).length : Int)) (.ok (((spec_l16Own_v A).set ((spec_l16Slot_v A [])).toNat (splice (row (spec_l16Own_v A) (spec_l16Slot_v A [])) 0 [TC.s s])), (spec_l16Slot_v A []), (0 : Int)))
         .no)
        (.ite ((decide ((A.length : Int) ≥ (30 : Int))) = true) (.ok ([], (0 : Int), (5 : Int)))
         (.ite (roomFor (tab 9) ((spec_l16Own_v A) ++ [[TC.s s]]).length) (.ok (((spec_l16Own_v A) ++ [[TC.s s]]), (A.length : Int), (0 : Int)))
          .no)))
       .no)
      .no))
    .no))
  .no)
def spec_PutName_mk (p : List (List TC) × Int × Int) : Res := [(true, [⟨.slice 9, .own true, TC.l (p.1)⟩]), (false, [⟨.int .i64, .sh, TC.i (p.2.1)⟩]), (false, [⟨.int .i64, .sh, TC.i (p.2.2)⟩])]
noncomputable def spec_PutName_c (A : List (List TC)) (s : List UInt8) : Bool := ((spec_l16Ok_c A) && (bif (!(spec_l16Ok_v A)) then true else ((spec_IsName_c s) && (bif (!(spec_IsName_v s)) then true else ((spec_l16Own_c A) && ((spec_l16Slot_c A []) && (bif (decide ((spec_l16Slot_v A []) ≥ (0 : Int))) then (is ((0 : Int) ≤ (spec_l16Slot_v A []) ∧ (spec_l16Slot_v A []) < ((spec_l16Own_v A).length : Int)) && true) else (bif (decide ((A.length : Int) ≥ (30 : Int))) then true else (is (roomFor (tab 9) ((spec_l16Own_v A) ++ [[TC.s s]]).length) && true)))))))))
noncomputable def spec_PutName_v (A : List (List TC)) (s : List UInt8) : List (List TC) × Int × Int := (bif (!(spec_l16Ok_v A)) then ([], (0 : Int), (1 : Int)) else (bif (!(spec_IsName_v s)) then ([], (0 : Int), (1 : Int)) else (bif (decide ((spec_l16Slot_v A []) ≥ (0 : Int))) then (((spec_l16Own_v A).set ((spec_l16Slot_v A [])).toNat (splice (row (spec_l16Own_v A) (spec_l16Slot_v A [])) 0 [TC.s s])), (spec_l16Slot_v A []), (0 : Int)) else (bif (decide ((A.length : Int) ≥ (30 : Int))) then ([], (0 : Int), (5 : Int)) else (((spec_l16Own_v A) ++ [[TC.s s]]), (A.length : Int), (0 : Int))))))
theorem spec_PutName_l (A : List (List TC)) (s : List UInt8) : (spec_PutName_c A s) = true → (spec_PutName_t A s).val = some (spec_PutName_v A s) := by
  unfold spec_PutName_t spec_PutName_v spec_PutName_c
  exact fun h => (Tr.gb h fun h => (Tr.ss h (fun h => rfl) (fun h => (Tr.gb h fun h => (Tr.ss h (fun h => rfl) (fun h => (Tr.gb h fun h => (Tr.gb h fun h => (Tr.ss h (fun h => (Tr.gs h fun h => rfl)) (fun h => (Tr.ss h (fun h => rfl) (fun h => (Tr.gs h fun h => rfl)))))))))))))
noncomputable def spec_PutName_S : List Arg → Option (Bool × Res) := fun xs => match xs with
  | [(true, [(.slice 9, TC.l A)]), (false, [(.str, TC.s s)])] => some ((spec_PutName_c A s), spec_PutName_mk (spec_PutName_v A s))
  | _ => .none
theorem spec_PutName_e (A : List (List TC)) (s : List UInt8) : runF tab FT D9 live 15 noLoops [(true, [(.slice 9, TC.l A)]), (false, [(.str, TC.s s)])] = (spec_PutName_t A s).run fun p => some (spec_PutName_mk p) := by kernel_rfl
theorem spec_PutName_s : ∀ xs r, spec_PutName_S xs = some (true, r) → runF tab FT D9 live 15 noLoops xs = some r := by
  intro xs r h
  unfold spec_PutName_S at h
  split at h
  · simp only [Option.some.injEq, Prod.mk.injEq] at h
    obtain ⟨h1, rfl⟩ := h
    exact fun_told (spec_PutName_e _ _) (spec_PutName_l _ _) h1
  · cases h
noncomputable def D10 : Dt := also D9 15 spec_PutName_S
theorem d10 : DOk Go.Proofs.Try.prog tab D10 := d9.also mixed_ok tab_ok names_ok noLoops_ok spec_PutName_s
theorem spec_PutName_cc {A : List (List TC)} {s : List UInt8} (hA : Typed tab (.slice 9) (.l A)) (hs : Typed tab (.str) (.s s)) : (spec_PutName_c A s) = true := by
  unfold spec_PutName_c
  refine andT (by exact spec_l16Ok_cc hA) ?_
  refine bifT (fun b1 => ?_) (fun b1 => ?_)
  · skip
    rfl
  · skip
    refine andT (by exact spec_IsName_cc hs) ?_
    refine bifT (fun b2 => ?_) (fun b2 => ?_)
    · skip
      rfl
    · skip
      refine andT (by exact is_true hA) ?_
      refine andT (by apply is_true; and_intros <;> exact is_true ⟨rfl, hA⟩) ?_
      refine bifT (fun b3 => ?_) (fun b3 => ?_)
      · skip
        refine andT (is_true (by exact slotIdx_lt b3)) ?_
        rfl
      · skip
        refine bifT (fun b4 => ?_) (fun b4 => ?_)
        · skip
          rfl
        · skip
          refine andT (is_true (by show roomFor (tab 9) (A ++ [[TC.s s]]).length; have q : ¬ (A.length : Int) ≥ 30 := of_decide_eq_false b4; unfold roomFor; simp only [show (tab 9).bytes = 16 from rfl, List.length_append, List.length_singleton]; omega)) ?_
          rfl
theorem spec_PutName_vv {A : List (List TC)} {s : List UInt8} (h : Typed tab (.slice 9) (.l A)) : spec_PutName_v A s = putV A s := by
  unfold spec_PutName_v putV
  rw [spec_l16Ok_vv, spec_IsName_vv, spec_l16Slot_vv]
  cases !(heapOk A) <;> cases !(nameOk s) <;> try rfl
  cases hd : decide (slotIdx A [] ≥ 0) with
  | true =>
    show ((A.set (slotIdx A []).toNat (splice (row A (slotIdx A [])) 0 [TC.s s])), slotIdx A [], (0 : Int)) = _
    rw [splice_row h rfl (slotIdx_lt hd)]; rfl
  | false => rfl
theorem putV_ty {A : List (List TC)} {s : List UInt8} (h : Typed tab (.slice 9) (.l A)) (hs : Typed tab .str (.s s)) : Typed tab (.slice 9) (.l (putV A s).1) := by
  have h0 : Typed tab (.slice 9) (.l []) := .slice _ _ (by simp) (by simp) (fun _ h => by cases h) (fun _ h => by cases h)
  have hr : ∀ k, k < (tab 9).cts.length → Typed tab ((tab 9).cts.getD k .bool) (nth [TC.s s] k) := fun k hk => by
    have : k = 0 := by have : k < 1 := hk; omega
    subst this; exact hs
  unfold putV
  cases !(heapOk A) with
  | true => exact h0
  | false =>
    cases !(nameOk s) with
    | true => exact h0
    | false =>
      cases hd : decide (slotIdx A [] ≥ 0) with
      | true => exact typed_setR h rfl hr
      | false =>
        cases hl : decide ((A.length : Int) ≥ 30) with
        | true => exact h0
        | false => exact typed_snoc h (by have := of_decide_eq_false hl; omega) (by decide) rfl hr
/-! impl_IsName -/
noncomputable def impl_IsName_f2 (s : List UInt8) (m : Int) (i : Int) : (Unit) ⊕ ((List UInt8) ⊕ (List UInt8)) := (bif (decide (((s.getD (i).toNat 0).toNat : Int) ≥ (65 : Int))) then (bif (decide (((s.getD (i).toNat 0).toNat : Int) ≤ (90 : Int))) then (.inl ()) else (bif (decide (((s.getD (i).toNat 0).toNat : Int) ≥ (97 : Int))) then (bif (!(decide (((s.getD (i).toNat 0).toNat : Int) ≤ (122 : Int)))) then (bif (i == (0 : Int)) then (.inr (.inl s)) else (bif (decide (((s.getD (i).toNat 0).toNat : Int) < (48 : Int))) then (bif (!(((s.getD (i).toNat 0).toNat : Int) == (95 : Int))) then (.inr (.inl s)) else (.inl ())) else (bif (decide (((s.getD (i).toNat 0).toNat : Int) > (57 : Int))) then (bif (!(((s.getD (i).toNat 0).toNat : Int) == (95 : Int))) then (.inr (.inl s)) else (.inl ())) else (.inl ())))) else (.inl ())) else (bif (i == (0 : Int)) then (.inr (.inl s)) else (bif (decide (((s.getD (i).toNat 0).toNat : Int) < (48 : Int))) then (bif (!(((s.getD (i).toNat 0).toNat : Int) == (95 : Int))) then (.inr (.inl s)) else (.inl ())) else (bif (decide (((s.getD (i).toNat 0).toNat : Int) > (57 : Int))) then (bif (!(((s.getD (i).toNat 0).toNat : Int) == (95 : Int))) then (.inr (.inl s)) else (.inl ())) else (.inl ())))))) else (bif (decide (((s.getD (i).toNat 0).toNat : Int) ≥ (97 : Int))) then (bif (!(decide (((s.getD (i).toNat 0).toNat : Int) ≤ (122 : Int)))) then (bif (i == (0 : Int)) then (.inr (.inl s)) else (bif (decide (((s.getD (i).toNat 0).toNat : Int) < (48 : Int))) then (bif (!(((s.getD (i).toNat 0).toNat : Int) == (95 : Int))) then (.inr (.inl s)) else (.inl ())) else (bif (decide (((s.getD (i).toNat 0).toNat : Int) > (57 : Int))) then (bif (!(((s.getD (i).toNat 0).toNat : Int) == (95 : Int))) then (.inr (.inl s)) else (.inl ())) else (.inl ())))) else (.inl ())) else (bif (i == (0 : Int)) then (.inr (.inl s)) else (bif (decide (((s.getD (i).toNat 0).toNat : Int) < (48 : Int))) then (bif (!(((s.getD (i).toNat 0).toNat : Int) == (95 : Int))) then (.inr (.inl s)) else (.inl ())) else (bif (decide (((s.getD (i).toNat 0).toNat : Int) > (57 : Int))) then (bif (!(((s.getD (i).toNat 0).toNat : Int) == (95 : Int))) then (.inr (.inl s)) else (.inl ())) else (.inl ()))))))
noncomputable def impl_IsName_e2 (s : List UInt8) (m : Int) : (List UInt8) ⊕ (List UInt8) := .inr s
noncomputable def impl_IsName_R2 (s : List UInt8) (m : Int) (i : Int) : (List UInt8) ⊕ (List UInt8) := iter (fun i a => (impl_IsName_f2 s m (i : Int))) (fun a => (impl_IsName_e2 s m)) (s.length) 0 ()
abbrev impl_IsName_2_σ := List UInt8 × Int × Int
abbrev impl_IsName_2_ω := (List UInt8) ⊕ (List UInt8)
noncomputable def impl_IsName_2_step (s : List UInt8) (m : Int) (i : Int) : Tr (impl_IsName_2_σ ⊕ impl_IsName_2_ω) := (.ite ((decide (i < m)) = true) (.ite ((0 : Int) ≤ i ∧ i < (s.length : Int)) (.ite ((decide (((s.getD (i).toNat 0).toNat : Int) ≥ (65 : Int))) = true) (.ite ((decide (((s.getD (i).toNat 0).toNat : Int) ≤ (90 : Int))) = true) (.ok (.inl (s, m, (IntKind.wrap .i64 (i + (1 : Int))))))
     (.ite ((decide (((s.getD (i).toNat 0).toNat : Int) ≥ (97 : Int))) = true) (.ite ((!(decide (((s.getD (i).toNat 0).toNat : Int) ≤ (122 : Int)))) = true) (.ite ((i == (0 : Int)) = true) (.ok (.inr (.inl s)))
        (.ite ((decide (((s.getD (i).toNat 0).toNat : Int) < (48 : Int))) = true) (.ite ((!(((s.getD (i).toNat 0).toNat : Int) == (95 : Int))) = true) (.ok (.inr (.inl s)))
          (.ok (.inl (s, m, (IntKind.wrap .i64 (i + (1 : Int)))))))
         (.ite ((decide (((s.getD (i).toNat 0).toNat : Int) > (57 : Int))) = true) (.ite ((!(((s.getD (i).toNat 0).toNat : Int) == (95 : Int))) = true) (.ok (.inr (.inl s)))
           (.ok (.inl (s, m, (IntKind.wrap .i64 (i + (1 : Int)))))))
          (.ok (.inl (s, m, (IntKind.wrap .i64 (i + (1 : Int)))))))))
       (.ok (.inl (s, m, (IntKind.wrap .i64 (i + (1 : Int)))))))
      (.ite ((i == (0 : Int)) = true) (.ok (.inr (.inl s)))
       (.ite ((decide (((s.getD (i).toNat 0).toNat : Int) < (48 : Int))) = true) (.ite ((!(((s.getD (i).toNat 0).toNat : Int) == (95 : Int))) = true) (.ok (.inr (.inl s)))
         (.ok (.inl (s, m, (IntKind.wrap .i64 (i + (1 : Int)))))))
        (.ite ((decide (((s.getD (i).toNat 0).toNat : Int) > (57 : Int))) = true) (.ite ((!(((s.getD (i).toNat 0).toNat : Int) == (95 : Int))) = true) (.ok (.inr (.inl s)))
          (.ok (.inl (s, m, (IntKind.wrap .i64 (i + (1 : Int)))))))
         (.ok (.inl (s, m, (IntKind.wrap .i64 (i + (1 : Int)))))))))))
    (.ite ((decide (((s.getD (i).toNat 0).toNat : Int) ≥ (97 : Int))) = true) (.ite ((!(decide (((s.getD (i).toNat 0).toNat : Int) ≤ (122 : Int)))) = true) (.ite ((i == (0 : Int)) = true) (.ok (.inr (.inl s)))
       (.ite ((decide (((s.getD (i).toNat 0).toNat : Int) < (48 : Int))) = true) (.ite ((!(((s.getD (i).toNat 0).toNat : Int) == (95 : Int))) = true) (.ok (.inr (.inl s)))
         (.ok (.inl (s, m, (IntKind.wrap .i64 (i + (1 : Int)))))))
        (.ite ((decide (((s.getD (i).toNat 0).toNat : Int) > (57 : Int))) = true) (.ite ((!(((s.getD (i).toNat 0).toNat : Int) == (95 : Int))) = true) (.ok (.inr (.inl s)))
          (.ok (.inl (s, m, (IntKind.wrap .i64 (i + (1 : Int)))))))
         (.ok (.inl (s, m, (IntKind.wrap .i64 (i + (1 : Int)))))))))
      (.ok (.inl (s, m, (IntKind.wrap .i64 (i + (1 : Int)))))))
     (.ite ((i == (0 : Int)) = true) (.ok (.inr (.inl s)))
      (.ite ((decide (((s.getD (i).toNat 0).toNat : Int) < (48 : Int))) = true) (.ite ((!(((s.getD (i).toNat 0).toNat : Int) == (95 : Int))) = true) (.ok (.inr (.inl s)))
        (.ok (.inl (s, m, (IntKind.wrap .i64 (i + (1 : Int)))))))
       (.ite ((decide (((s.getD (i).toNat 0).toNat : Int) > (57 : Int))) = true) (.ite ((!(((s.getD (i).toNat 0).toNat : Int) == (95 : Int))) = true) (.ok (.inr (.inl s)))
         (.ok (.inl (s, m, (IntKind.wrap .i64 (i + (1 : Int)))))))
        (.ok (.inl (s, m, (IntKind.wrap .i64 (i + (1 : Int)))))))))))
   .no)
  (.ok (.inr (.inr s))))
noncomputable def impl_IsName_2_st : impl_IsName_2_σ → Tr (impl_IsName_2_σ ⊕ impl_IsName_2_ω) := fun x => (impl_IsName_2_step (x.1) (x.2.1) (x.2.2))
noncomputable def impl_IsName_k2_1 (s : List UInt8) (m : Int) (i : Int) : Bool := sumIs (impl_IsName_R2 s m i)
noncomputable def impl_IsName_o2_2 (s : List UInt8) (m : Int) (i : Int) : Bool := is (i = 0 ∧ s.length ≤ 140737488355328 ∧ m = (s.length : Int))
noncomputable def impl_IsName_o2_3 (s : List UInt8) (m : Int) (i : Int) : Bool := is (i = 0 ∧ s.length ≤ 140737488355328 ∧ m = (s.length : Int))
noncomputable def impl_IsName_2_fin (s : List UInt8) (m : Int) (i : Int) : Told impl_IsName_2_ω := (.br (impl_IsName_k2_1 s m i) (.leaf (impl_IsName_o2_2 s m i) (.inl s)) (.leaf (impl_IsName_o2_3 s m i) (.inr s)))
def impl_IsName_2_sl (x : impl_IsName_2_σ) : List Slot := [⟨.val false [⟨.str, .sh, TC.s (x.1)⟩], ⟨0, 0⟩⟩, ⟨.val false [⟨.int .i64, .sh, TC.i (x.2.1)⟩], ⟨0, 0⟩⟩, ⟨.val false [⟨.int .i64, .sh, TC.i (x.2.2)⟩], ⟨0, 0⟩⟩]
def impl_IsName_2_out : impl_IsName_2_ω → Ex × List Slot := (Sum.elim (fun x => (.ret, [⟨.val false [⟨.str, .sh, TC.s x⟩], ⟨0, 0⟩⟩, ⟨.val false [⟨.bool, .sh, TC.b false⟩], ⟨0, 0⟩⟩])) (fun x => (.exit 0, [⟨.val false [⟨.str, .sh, TC.s x⟩], ⟨0, 0⟩⟩, Slot.none])))
noncomputable def impl_IsName_lo2 : List Slot → Option (Told (Ex × List Slot)) := fun s => match s with
  | [⟨.val false [⟨.str, .sh, TC.s s⟩], ⟨0, 0⟩⟩, ⟨.val false [⟨.int .i64, .sh, TC.i m⟩], ⟨0, 0⟩⟩, ⟨.val false [⟨.int .i64, .sh, TC.i i⟩], ⟨0, 0⟩⟩] => some (((impl_IsName_2_fin s m i)).map impl_IsName_2_out)
  | _ => .none
noncomputable def impl_IsName_lo : LoopTeller := fun r s => bif Nat.beq r 2 then impl_IsName_lo2 s else .none
theorem impl_IsName_2_r (s : List UInt8) (m : Int) (i : Int) (fuel : Nat) : rounds (rnd tab FT D10 live 55 impl_IsName_lo 0 2) leave (fuel + 1) (impl_IsName_2_sl (s, m, i)) = ((impl_IsName_2_step s m i)).run (goOn (fun s => rounds (rnd tab FT D10 live 55 impl_IsName_lo 0 2) leave fuel (impl_IsName_2_sl s)) fun w => some (impl_IsName_2_out w)) := by kernel_rfl
theorem impl_IsName_f2_eq (s : List UInt8) (m : Int) (i : Int) : impl_IsName_f2 s m i = bif nameB i ((s.getD (i).toNat 0).toNat : Int) then Sum.inl () else Sum.inr (Sum.inl s) := by
  unfold impl_IsName_f2 nameB letterB
  simp only [dlt, dgt]
  generalize ((s.getD i.toNat 0).toNat : Int) = c
  generalize decide (c ≥ 65) = p0, decide (c ≤ 90) = p1, decide (c ≥ 97) = p2, decide (c ≤ 122) = p3, decide (c ≥ 48) = p4, decide (c ≤ 57) = p5, (c == 95) = p6, (i == 0) = p7
  cases p0 <;> cases p1 <;> cases p2 <;> cases p3 <;> cases p4 <;> cases p5 <;> cases p6 <;> cases p7 <;> rfl
theorem impl_IsName_R2_eq (s : List UInt8) (m : Int)  : impl_IsName_R2 s m 0 = bif allI (fun i : Nat => nameB (i : Int) ((s.getD ((i : Int)).toNat 0).toNat : Int)) (s.length) then Sum.inr s else (Sum.inl s) := by
  unfold impl_IsName_R2
  exact (iter_all (P := (fun i : Nat => nameB (i : Int) ((s.getD ((i : Int)).toNat 0).toNat : Int))) (g := fun _ a => a) (w := Sum.inl s) fun j a _ => impl_IsName_f2_eq s m _)
theorem impl_IsName_2_h (s : List UInt8) (m : Int) (i : Int) (ow : impl_IsName_2_ω) : ((impl_IsName_2_fin s m i)).val = some ow → ∃ fuel, loopN impl_IsName_2_st fuel (s, m, i) = some ow := by
  refine auto_const (R := (impl_IsName_R2 s m i)) rfl (iter_onR (f := (fun i a => (impl_IsName_f2 s m (i : Int)))) (fin := (fun a => (impl_IsName_e2 s m))) (Q := endsAs s s) (fun i a => by unfold impl_IsName_f2; exact (onR_bif (onR_bif trivial (onR_bif (onR_bif (onR_bif rfl (onR_bif (onR_bif rfl trivial) (onR_bif (onR_bif rfl trivial) trivial))) trivial) (onR_bif rfl (onR_bif (onR_bif rfl trivial) (onR_bif (onR_bif rfl trivial) trivial))))) (onR_bif (onR_bif (onR_bif rfl (onR_bif (onR_bif rfl trivial) (onR_bif (onR_bif rfl trivial) trivial))) trivial) (onR_bif rfl (onR_bif (onR_bif rfl trivial) (onR_bif (onR_bif rfl trivial) trivial)))))) (fun _ => rfl) _ _ _) ?_
  intro ho
  have ho : is (i = 0 ∧ s.length ≤ 140737488355328 ∧ m = (s.length : Int)) = true := ho.elim id id
  obtain ⟨rfl, hs, rfl⟩ := is_iff.1 ho
  skip
  refine ⟨(s.length) + 1, ?_⟩
  refine iter_loop (step := impl_IsName_2_st) (s.length) (fun i a => (impl_IsName_f2 s (s.length : Int) (i : Int))) (fun a => (impl_IsName_e2 s (s.length : Int))) (fun i a => (s, (s.length : Int), (i : Int))) (fun _ _ => True) trivial (fun i a hi hI => ⟨?_, fun _ _ => trivial⟩) (fun a hI => ?_)
  · show (impl_IsName_2_step s (s.length : Int) (i : Int)).val = _
    unfold impl_IsName_2_step impl_IsName_f2
    skip
    refine Tr.t (by simp; omega) ?_
    exact (Tr.t (by first | omega | (constructor <;> omega)) (Tr.bf (Tr.bf (by rw [Tr.val_ok, wrap64 (i := (i : Int) + 1) (by omega) (by omega)]; rfl) (Tr.bf (Tr.bf (Tr.bf rfl (Tr.bf (Tr.bf rfl (by rw [Tr.val_ok, wrap64 (i := (i : Int) + 1) (by omega) (by omega)]; rfl)) (Tr.bf (Tr.bf rfl (by rw [Tr.val_ok, wrap64 (i := (i : Int) + 1) (by omega) (by omega)]; rfl)) (by rw [Tr.val_ok, wrap64 (i := (i : Int) + 1) (by omega) (by omega)]; rfl)))) (by rw [Tr.val_ok, wrap64 (i := (i : Int) + 1) (by omega) (by omega)]; rfl)) (Tr.bf rfl (Tr.bf (Tr.bf rfl (by rw [Tr.val_ok, wrap64 (i := (i : Int) + 1) (by omega) (by omega)]; rfl)) (Tr.bf (Tr.bf rfl (by rw [Tr.val_ok, wrap64 (i := (i : Int) + 1) (by omega) (by omega)]; rfl)) (by rw [Tr.val_ok, wrap64 (i := (i : Int) + 1) (by omega) (by omega)]; rfl)))))) (Tr.bf (Tr.bf (Tr.bf rfl (Tr.bf (Tr.bf rfl (by rw [Tr.val_ok, wrap64 (i := (i : Int) + 1) (by omega) (by omega)]; rfl)) (Tr.bf (Tr.bf rfl (by rw [Tr.val_ok, wrap64 (i := (i : Int) + 1) (by omega) (by omega)]; rfl)) (by rw [Tr.val_ok, wrap64 (i := (i : Int) + 1) (by omega) (by omega)]; rfl)))) (by rw [Tr.val_ok, wrap64 (i := (i : Int) + 1) (by omega) (by omega)]; rfl)) (Tr.bf rfl (Tr.bf (Tr.bf rfl (by rw [Tr.val_ok, wrap64 (i := (i : Int) + 1) (by omega) (by omega)]; rfl)) (Tr.bf (Tr.bf rfl (by rw [Tr.val_ok, wrap64 (i := (i : Int) + 1) (by omega) (by omega)]; rfl)) (by rw [Tr.val_ok, wrap64 (i := (i : Int) + 1) (by omega) (by omega)]; rfl)))))))
  · show (impl_IsName_2_step s (s.length : Int) (s.length : Int)).val = _
    refine Tr.n (by first | (simp; done) | (simp; omega) | omega) ?_
    rfl
theorem impl_IsName_is2 : LoopIs tab FT D10 live 55 impl_IsName_lo 0 2 := by
  refine loop_told (sl := impl_IsName_2_sl) (step := impl_IsName_2_st) (out := impl_IsName_2_out) (lor := impl_IsName_lo2) (fin := fun x => (impl_IsName_2_fin (x.1) (x.2.1) (x.2.2))) (fun _ => rfl) ?_ (fun x n => impl_IsName_2_r x.1 x.2.1 x.2.2 n) (fun x ow => impl_IsName_2_h x.1 x.2.1 x.2.2 ow)
  intro s t h
  unfold impl_IsName_lo2 at h
  split at h
  · cases h; exact ⟨(_, _, _), rfl, rfl⟩
  · cases h
noncomputable def impl_IsName_t (s : List UInt8) : Tr (Bool) := (.ite ((impl_IsName_k2_1 s (s.length : Int) (0 : Int)) = true) (.ite ((impl_IsName_o2_2 s (s.length : Int) (0 : Int)) = true) (.ok false)
   .no)
  (.ite ((impl_IsName_o2_3 s (s.length : Int) (0 : Int)) = true) (.ite ((decide ((s.length : Int) ≥ (1 : Int))) = true) (.ok (decide ((s.length : Int) ≤ (12 : Int))))
    (.ok false))
   .no))
def impl_IsName_mk (p : Bool) : Res := [(false, [⟨.bool, .sh, TC.b p⟩])]
noncomputable def impl_IsName_c (s : List UInt8) : Bool := (bif (impl_IsName_k2_1 s (s.length : Int) (0 : Int)) then ((impl_IsName_o2_2 s (s.length : Int) (0 : Int)) && true) else ((impl_IsName_o2_3 s (s.length : Int) (0 : Int)) && (bif (decide ((s.length : Int) ≥ (1 : Int))) then true else true)))
noncomputable def impl_IsName_v (s : List UInt8) : Bool := (bif (impl_IsName_k2_1 s (s.length : Int) (0 : Int)) then false else (bif (decide ((s.length : Int) ≥ (1 : Int))) then (decide ((s.length : Int) ≤ (12 : Int))) else false))
theorem impl_IsName_l (s : List UInt8) : (impl_IsName_c s) = true → (impl_IsName_t s).val = some (impl_IsName_v s) := by
  unfold impl_IsName_t impl_IsName_v impl_IsName_c
  exact fun h => (Tr.ss h (fun h => (Tr.gb h fun h => rfl)) (fun h => (Tr.gb h fun h => (Tr.ss h (fun h => rfl) (fun h => rfl)))))
noncomputable def impl_IsName_S : List Arg → Option (Bool × Res) := fun xs => match xs with
  | [(false, [(.str, TC.s s)])] => some ((impl_IsName_c s), impl_IsName_mk (impl_IsName_v s))
  | _ => .none
theorem impl_IsName_e (s : List UInt8) : runF tab FT D10 live 55 impl_IsName_lo [(false, [(.str, TC.s s)])] = (impl_IsName_t s).run fun p => some (impl_IsName_mk p) := by kernel_rfl
theorem impl_IsName_s : ∀ xs r, impl_IsName_S xs = some (true, r) → runF tab FT D10 live 55 impl_IsName_lo xs = some r := by
  intro xs r h
  unfold impl_IsName_S at h
  split at h
  · simp only [Option.some.injEq, Prod.mk.injEq] at h
    obtain ⟨h1, rfl⟩ := h
    exact fun_told (impl_IsName_e _) (impl_IsName_l _) h1
  · cases h
noncomputable def D11 : Dt := also D10 55 impl_IsName_S
theorem d11 : DOk Go.Proofs.Try.prog tab D11 := d10.also mixed_ok tab_ok names_ok (fnLoops_one (by kernel_rfl) impl_IsName_is2) impl_IsName_s
theorem impl_IsName_cc {s : List UInt8} (hs : Typed tab (.str) (.s s)) : (impl_IsName_c s) = true := by
  unfold impl_IsName_c
  refine bifT (fun b1 => ?_) (fun b1 => ?_)
  · skip
    refine andT (by exact is_true ⟨rfl, by have := typed_str_len hs; omega, rfl⟩) ?_
    rfl
  · skip
    refine andT (by exact is_true ⟨rfl, by have := typed_str_len hs; omega, rfl⟩) ?_
    refine bifT (fun b2 => ?_) (fun b2 => ?_)
    · skip
      rfl
    · skip
      rfl
theorem impl_IsName_vv (s : List UInt8) : impl_IsName_v s = nameOk s := by
  unfold impl_IsName_v impl_IsName_k2_1 nameOk
  rw [impl_IsName_R2_eq]
  generalize allI (fun i : Nat => nameB (i : Int) ((s.getD ((i : Int)).toNat 0).toNat : Int)) s.length = q
  cases q
  · simp [sumIs]
  · show (bif decide ((s.length : Int) ≥ 1) then decide ((s.length : Int) ≤ 12) else false) = (decide ((s.length : Int) ≥ 1) && decide ((s.length : Int) ≤ 12) && true)
    generalize decide ((s.length : Int) ≥ 1) = q1, decide ((s.length : Int) ≤ 12) = q2
    cases q1 <;> cases q2 <;> rfl
/-! impl_ValidHeap_1 -/
noncomputable def impl_ValidHeap_1_t (a0 : List UInt8) : Tr (Bool) := (.ite ((!(a0 == [])) = true) (.ite ((impl_IsName_c a0) = true) (.ok (!(impl_IsName_v a0)))
   .no)
  (.ok false))
def impl_ValidHeap_1_mk (p : Bool) : Res := [(false, [⟨.bool, .sh, TC.b p⟩])]
noncomputable def impl_ValidHeap_1_c (a0 : List UInt8) : Bool := (impl_IsName_c a0)
noncomputable def impl_ValidHeap_1_v (a0 : List UInt8) : Bool := (bif (!(a0 == [])) then (!(impl_IsName_v a0)) else false)
theorem impl_ValidHeap_1_l (a0 : List UInt8) : (impl_ValidHeap_1_c a0) = true → (impl_ValidHeap_1_t a0).val = some (impl_ValidHeap_1_v a0) := by
  intro h
  have g0 : (impl_IsName_c a0) = true := h
  unfold impl_ValidHeap_1_t impl_ValidHeap_1_v
  exact (Tr.s (Tr.t g0 rfl) rfl)
noncomputable def impl_ValidHeap_1_S : List Arg → Option (Bool × Res) := fun xs => match xs with
  | [(false, [(.str, TC.s a0)])] => some ((impl_ValidHeap_1_c a0), impl_ValidHeap_1_mk (impl_ValidHeap_1_v a0))
  | _ => .none
theorem impl_ValidHeap_1_e (a0 : List UInt8) : runF tab FT D11 live 104 noLoops [(false, [(.str, TC.s a0)])] = (impl_ValidHeap_1_t a0).run fun p => some (impl_ValidHeap_1_mk p) := by kernel_rfl
theorem impl_ValidHeap_1_s : ∀ xs r, impl_ValidHeap_1_S xs = some (true, r) → runF tab FT D11 live 104 noLoops xs = some r := by
  intro xs r h
  unfold impl_ValidHeap_1_S at h
  split at h
  · simp only [Option.some.injEq, Prod.mk.injEq] at h
    obtain ⟨h1, rfl⟩ := h
    exact fun_told (impl_ValidHeap_1_e _) (impl_ValidHeap_1_l _) h1
  · cases h
noncomputable def D12 : Dt := also D11 104 impl_ValidHeap_1_S
theorem d12 : DOk Go.Proofs.Try.prog tab D12 := d11.also mixed_ok tab_ok names_ok noLoops_ok impl_ValidHeap_1_s
/-! slices_IndexFunc_string_string -/
abbrev slices_IndexFunc_string_string_2_σ := List (List TC) × Int × Int
abbrev slices_IndexFunc_string_string_2_ω := (Int) ⊕ (Unit)
noncomputable def slices_IndexFunc_string_string_2_step (A : List (List TC)) (m : Int) (i : Int) : Tr (slices_IndexFunc_string_string_2_σ ⊕ slices_IndexFunc_string_string_2_ω) := (.ite ((decide (i < m)) = true) (.ite ((0 : Int) ≤ i ∧ i < (A.length : Int)) (.ite ((impl_ValidHeap_1_c ((nth (row A i) 0).str)) = true) (.ite ((impl_ValidHeap_1_v ((nth (row A i) 0).str)) = true) (.ok (.inr (.inl i)))
     (.ok (.inl (A, m, (IntKind.wrap .i64 (i + (1 : Int)))))))
    .no)
   .no)
  (.ok (.inr (.inr ()))))
noncomputable def slices_IndexFunc_string_string_2_st : slices_IndexFunc_string_string_2_σ → Tr (slices_IndexFunc_string_string_2_σ ⊕ slices_IndexFunc_string_string_2_ω) := fun x => (slices_IndexFunc_string_string_2_step (x.1) (x.2.1) (x.2.2))
noncomputable def slices_IndexFunc_string_string_k2_1 (A : List (List TC)) (m : Int) (i : Int) : Bool := A.all (fun x => !(impl_ValidHeap_1_v ((nth x 0).str)))
noncomputable def slices_IndexFunc_string_string_o2_2 (A : List (List TC)) (m : Int) (i : Int) : Bool := is (i = 0 ∧ Typed tab (.slice 9) (.l A) ∧ m = (A.length : Int))
noncomputable def slices_IndexFunc_string_string_o2_3 (A : List (List TC)) (m : Int) (i : Int) : Bool := is (i = 0 ∧ Typed tab (.slice 9) (.l A) ∧ m = (A.length : Int))
noncomputable def slices_IndexFunc_string_string_u2_3 (A : List (List TC)) (m : Int) (i : Int) : Int := (Int.ofNat (A.findIdx fun x => !(fun x => !(impl_ValidHeap_1_v ((nth x 0).str))) x))
noncomputable def slices_IndexFunc_string_string_2_fin (A : List (List TC)) (m : Int) (i : Int) : Told slices_IndexFunc_string_string_2_ω := (.br (slices_IndexFunc_string_string_k2_1 A m i) (.leaf (slices_IndexFunc_string_string_o2_2 A m i) (.inr ())) (.leaf (slices_IndexFunc_string_string_o2_3 A m i) (.inl (slices_IndexFunc_string_string_u2_3 A m i))))
def slices_IndexFunc_string_string_2_sl (x : slices_IndexFunc_string_string_2_σ) : List Slot := [⟨.val false [⟨.slice 9, .sh, TC.l (x.1)⟩], ⟨0, 0⟩⟩, ⟨.val false [⟨.func, .sh, TC.f 104 []⟩], ⟨0, 0⟩⟩, ⟨.val false [⟨.int .i64, .sh, TC.i (x.2.1)⟩], ⟨0, 0⟩⟩, ⟨.val false [⟨.int .i64, .sh, TC.i (x.2.2)⟩], ⟨0, 0⟩⟩]
def slices_IndexFunc_string_string_2_out : slices_IndexFunc_string_string_2_ω → Ex × List Slot := (Sum.elim (fun x => (.ret, [⟨.val false [⟨.int .i64, .sh, TC.i x⟩], ⟨0, 0⟩⟩])) (fun x => (.exit 0, [Slot.none])))
noncomputable def slices_IndexFunc_string_string_lo2 : List Slot → Option (Told (Ex × List Slot)) := fun s => match s with
  | [⟨.val false [⟨.slice 9, .sh, TC.l A⟩], ⟨0, 0⟩⟩, ⟨.val false [⟨.func, .sh, TC.f 104 []⟩], ⟨0, 0⟩⟩, ⟨.val false [⟨.int .i64, .sh, TC.i m⟩], ⟨0, 0⟩⟩, ⟨.val false [⟨.int .i64, .sh, TC.i i⟩], ⟨0, 0⟩⟩] => some (((slices_IndexFunc_string_string_2_fin A m i)).map slices_IndexFunc_string_string_2_out)
  | _ => .none
noncomputable def slices_IndexFunc_string_string_lo : LoopTeller := fun r s => bif Nat.beq r 2 then slices_IndexFunc_string_string_lo2 s else .none
theorem slices_IndexFunc_string_string_2_r (A : List (List TC)) (m : Int) (i : Int) (fuel : Nat) : rounds (rnd tab FT D12 live 136 slices_IndexFunc_string_string_lo 0 2) leave (fuel + 1) (slices_IndexFunc_string_string_2_sl (A, m, i)) = ((slices_IndexFunc_string_string_2_step A m i)).run (goOn (fun s => rounds (rnd tab FT D12 live 136 slices_IndexFunc_string_string_lo 0 2) leave fuel (slices_IndexFunc_string_string_2_sl s)) fun w => some (slices_IndexFunc_string_string_2_out w)) := by kernel_rfl
theorem slices_IndexFunc_string_string_2_h (A : List (List TC)) (m : Int) (i : Int) (ow : slices_IndexFunc_string_string_2_ω) : ((slices_IndexFunc_string_string_2_fin A m i)).val = some ow → ∃ fuel, loopN slices_IndexFunc_string_string_2_st fuel (A, m, i) = some ow := by
  intro h
  have key : Typed tab (.slice 9) (.l A) → loopN slices_IndexFunc_string_string_2_st (A.length + 1) (A, (A.length : Int), (0 : Int)) = some (if A.all (fun x => !(impl_ValidHeap_1_v ((nth x 0).str))) = true then (.inr ()) else (.inl (Int.ofNat (A.findIdx fun x => !(fun x => !(impl_ValidHeap_1_v ((nth x 0).str))) x)))) := by
    intro ht
    have hlen : A.length ≤ 140737488351232 := by have := typed_room ht; simp only [show (tab 9).bytes = 16 from rfl] at this; omega
    have key := loopN_scan (step := slices_IndexFunc_string_string_2_st) A [] (fun x => !(impl_ValidHeap_1_v ((nth x 0).str))) (fun a _ => a) (fun i a => (A, (A.length : Int), (i : Int))) (fun a => (.inr ())) (fun i a => (.inl (i : Int))) (fun i a hi => ?_) (fun a => ?_) A.length 0 () (by omega)
    · first | (rw [Nat.zero_add] at key; exact key) | exact key
    · have c0 : Typed tab (.str) (.s (nth (A.getD i []) 0).str) := typed_s (typed_cell ht (A.getD i []) (mem_getD hi) 0 (by decide))
      show (slices_IndexFunc_string_string_2_step A (A.length : Int) (i : Int)).val = _
      unfold slices_IndexFunc_string_string_2_step
      refine Tr.t (by simp; omega) ?_
      skip
      refine Tr.t (by first | omega | (constructor <;> omega)) ?_
      refine Tr.t (by first | (apply is_true; and_intros <;> (first | rfl | assumption | (apply spec_IsName_cc <;> assumption) | (apply spec_l16Ok_cc <;> assumption) | (apply spec_PutName_cc <;> assumption) | (apply impl_IsName_cc <;> assumption) | (first | (apply is_true; and_intros <;> (first | rfl | assumption | (apply spec_IsName_cc <;> assumption) | (apply spec_l16Ok_cc <;> assumption) | (apply spec_PutName_cc <;> assumption) | (apply impl_IsName_cc <;> assumption) | (first | (apply is_true; and_intros <;> (first | rfl | assumption | (apply spec_IsName_cc <;> assumption) | (apply spec_l16Ok_cc <;> assumption) | (apply spec_PutName_cc <;> assumption) | (apply impl_IsName_cc <;> assumption) | (first | (apply is_true; and_intros <;> (first | rfl | assumption | (apply spec_IsName_cc <;> assumption) | (apply spec_l16Ok_cc <;> assumption) | (apply spec_PutName_cc <;> assumption) | (apply impl_IsName_cc <;> assumption))) | (apply spec_IsName_cc <;> assumption) | (apply spec_l16Ok_cc <;> assumption) | (apply spec_PutName_cc <;> assumption) | (apply impl_IsName_cc <;> assumption)))) | (apply spec_IsName_cc <;> assumption) | (apply spec_l16Ok_cc <;> assumption) | (apply spec_PutName_cc <;> assumption) | (apply impl_IsName_cc <;> assumption)))) | (apply spec_IsName_cc <;> assumption) | (apply spec_l16Ok_cc <;> assumption) | (apply spec_PutName_cc <;> assumption) | (apply impl_IsName_cc <;> assumption)))) | (apply spec_IsName_cc <;> assumption) | (apply spec_l16Ok_cc <;> assumption) | (apply spec_PutName_cc <;> assumption) | (apply impl_IsName_cc <;> assumption)) ?_
      refine Tr.b2 (fun hP => ?_) (fun _ => rfl)
      rw [Tr.val_ok, wrap64 (i := (i : Int) + 1) (by omega) (by omega)]; rfl
    · show (slices_IndexFunc_string_string_2_step A (A.length : Int) (A.length : Int)).val = _
      refine Tr.n (by simp) ?_
      rfl
  simp only [slices_IndexFunc_string_string_2_fin, Told.val] at h
  cases hk : A.all (fun x => !(impl_ValidHeap_1_v ((nth x 0).str))) with
  | true =>
    rw [if_pos (show slices_IndexFunc_string_string_k2_1 A m i = true from hk)] at h
    split at h
    · rename_i ho
      obtain ⟨rfl, ht, rfl⟩ := is_iff.1 ho
      cases h
      refine ⟨_, (key ht).trans ?_⟩
      rw [hk]; rfl
    · cases h
  | false =>
    rw [if_neg (show ¬slices_IndexFunc_string_string_k2_1 A m i = true from by rw [show slices_IndexFunc_string_string_k2_1 A m i = (A.all (fun x => !(impl_ValidHeap_1_v ((nth x 0).str)))) from rfl, hk]; simp)] at h
    split at h
    · rename_i ho
      obtain ⟨rfl, ht, rfl⟩ := is_iff.1 ho
      cases h
      refine ⟨_, (key ht).trans ?_⟩
      rw [hk]; rfl
    · cases h
theorem slices_IndexFunc_string_string_is2 : LoopIs tab FT D12 live 136 slices_IndexFunc_string_string_lo 0 2 := by
  refine loop_told (sl := slices_IndexFunc_string_string_2_sl) (step := slices_IndexFunc_string_string_2_st) (out := slices_IndexFunc_string_string_2_out) (lor := slices_IndexFunc_string_string_lo2) (fin := fun x => (slices_IndexFunc_string_string_2_fin (x.1) (x.2.1) (x.2.2))) (fun _ => rfl) ?_ (fun x n => slices_IndexFunc_string_string_2_r x.1 x.2.1 x.2.2 n) (fun x ow => slices_IndexFunc_string_string_2_h x.1 x.2.1 x.2.2 ow)
  intro s t h
  unfold slices_IndexFunc_string_string_lo2 at h
  split at h
  · cases h; exact ⟨(_, _, _), rfl, rfl⟩
  · cases h
noncomputable def slices_IndexFunc_string_string_t (A : List (List TC)) : Tr (Int) := (.ite ((slices_IndexFunc_string_string_k2_1 A (A.length : Int) (0 : Int)) = true) (.ite ((slices_IndexFunc_string_string_o2_2 A (A.length : Int) (0 : Int)) = true) (.ok (-1 : Int))
   .no)
  (.ite ((slices_IndexFunc_string_string_o2_3 A (A.length : Int) (0 : Int)) = true) (.ok (slices_IndexFunc_string_string_u2_3 A (A.length : Int) (0 : Int)))
   .no))
def slices_IndexFunc_string_string_mk (p : Int) : Res := [(false, [⟨.int .i64, .sh, TC.i p⟩])]
noncomputable def slices_IndexFunc_string_string_c (A : List (List TC)) : Bool := is (Typed tab (.slice 9) (.l A))
noncomputable def slices_IndexFunc_string_string_v (A : List (List TC)) : Int := if (A.all (fun x => !(impl_ValidHeap_1_v ((nth x 0).str)))) = true then -1 else (Int.ofNat (A.findIdx fun x => !(fun x => !(impl_ValidHeap_1_v ((nth x 0).str))) x))
theorem slices_IndexFunc_string_string_l (A : List (List TC)) : (slices_IndexFunc_string_string_c A) = true → (slices_IndexFunc_string_string_t A).val = some (slices_IndexFunc_string_string_v A) := by
  intro h
  have ht := is_iff.1 h
  unfold slices_IndexFunc_string_string_t
  cases hk : A.all (fun x => !(impl_ValidHeap_1_v ((nth x 0).str))) with
  | true =>
    refine Tr.t (show A.all (fun x => !(impl_ValidHeap_1_v ((nth x 0).str))) = true from hk) ?_
    refine Tr.t (by first | (apply is_true; and_intros <;> (first | rfl | assumption | (apply spec_IsName_cc <;> assumption) | (apply spec_l16Ok_cc <;> assumption) | (apply spec_PutName_cc <;> assumption) | (apply impl_IsName_cc <;> assumption) | (first | (apply is_true; and_intros <;> (first | rfl | assumption | (apply spec_IsName_cc <;> assumption) | (apply spec_l16Ok_cc <;> assumption) | (apply spec_PutName_cc <;> assumption) | (apply impl_IsName_cc <;> assumption) | (first | (apply is_true; and_intros <;> (first | rfl | assumption | (apply spec_IsName_cc <;> assumption) | (apply spec_l16Ok_cc <;> assumption) | (apply spec_PutName_cc <;> assumption) | (apply impl_IsName_cc <;> assumption) | (first | (apply is_true; and_intros <;> (first | rfl | assumption | (apply spec_IsName_cc <;> assumption) | (apply spec_l16Ok_cc <;> assumption) | (apply spec_PutName_cc <;> assumption) | (apply impl_IsName_cc <;> assumption))) | (apply spec_IsName_cc <;> assumption) | (apply spec_l16Ok_cc <;> assumption) | (apply spec_PutName_cc <;> assumption) | (apply impl_IsName_cc <;> assumption)))) | (apply spec_IsName_cc <;> assumption) | (apply spec_l16Ok_cc <;> assumption) | (apply spec_PutName_cc <;> assumption) | (apply impl_IsName_cc <;> assumption)))) | (apply spec_IsName_cc <;> assumption) | (apply spec_l16Ok_cc <;> assumption) | (apply spec_PutName_cc <;> assumption) | (apply impl_IsName_cc <;> assumption)))) | (apply spec_IsName_cc <;> assumption) | (apply spec_l16Ok_cc <;> assumption) | (apply spec_PutName_cc <;> assumption) | (apply impl_IsName_cc <;> assumption)) ?_
    show _ = some (slices_IndexFunc_string_string_v A ); unfold slices_IndexFunc_string_string_v; rw [if_pos hk]; rfl
  | false =>
    refine Tr.n (show ¬A.all (fun x => !(impl_ValidHeap_1_v ((nth x 0).str))) = true from by rw [hk]; simp) ?_
    refine Tr.t (by first | (apply is_true; and_intros <;> (first | rfl | assumption | (apply spec_IsName_cc <;> assumption) | (apply spec_l16Ok_cc <;> assumption) | (apply spec_PutName_cc <;> assumption) | (apply impl_IsName_cc <;> assumption) | (first | (apply is_true; and_intros <;> (first | rfl | assumption | (apply spec_IsName_cc <;> assumption) | (apply spec_l16Ok_cc <;> assumption) | (apply spec_PutName_cc <;> assumption) | (apply impl_IsName_cc <;> assumption) | (first | (apply is_true; and_intros <;> (first | rfl | assumption | (apply spec_IsName_cc <;> assumption) | (apply spec_l16Ok_cc <;> assumption) | (apply spec_PutName_cc <;> assumption) | (apply impl_IsName_cc <;> assumption) | (first | (apply is_true; and_intros <;> (first | rfl | assumption | (apply spec_IsName_cc <;> assumption) | (apply spec_l16Ok_cc <;> assumption) | (apply spec_PutName_cc <;> assumption) | (apply impl_IsName_cc <;> assumption))) | (apply spec_IsName_cc <;> assumption) | (apply spec_l16Ok_cc <;> assumption) | (apply spec_PutName_cc <;> assumption) | (apply impl_IsName_cc <;> assumption)))) | (apply spec_IsName_cc <;> assumption) | (apply spec_l16Ok_cc <;> assumption) | (apply spec_PutName_cc <;> assumption) | (apply impl_IsName_cc <;> assumption)))) | (apply spec_IsName_cc <;> assumption) | (apply spec_l16Ok_cc <;> assumption) | (apply spec_PutName_cc <;> assumption) | (apply impl_IsName_cc <;> assumption)))) | (apply spec_IsName_cc <;> assumption) | (apply spec_l16Ok_cc <;> assumption) | (apply spec_PutName_cc <;> assumption) | (apply impl_IsName_cc <;> assumption)) ?_
    show _ = some (slices_IndexFunc_string_string_v A ); unfold slices_IndexFunc_string_string_v; rw [if_neg (by rw [hk]; simp)]; rfl
noncomputable def slices_IndexFunc_string_string_S : List Arg → Option (Bool × Res) := fun xs => match xs with
  | [(false, [(.slice 9, TC.l A)]), (false, [(.func, TC.f 104 [])])] => some ((slices_IndexFunc_string_string_c A), slices_IndexFunc_string_string_mk (slices_IndexFunc_string_string_v A))
  | _ => .none
theorem slices_IndexFunc_string_string_e (A : List (List TC)) : runF tab FT D12 live 136 slices_IndexFunc_string_string_lo [(false, [(.slice 9, TC.l A)]), (false, [(.func, TC.f 104 [])])] = (slices_IndexFunc_string_string_t A).run fun p => some (slices_IndexFunc_string_string_mk p) := by kernel_rfl
theorem slices_IndexFunc_string_string_s : ∀ xs r, slices_IndexFunc_string_string_S xs = some (true, r) → runF tab FT D12 live 136 slices_IndexFunc_string_string_lo xs = some r := by
  intro xs r h
  unfold slices_IndexFunc_string_string_S at h
  split at h
  · simp only [Option.some.injEq, Prod.mk.injEq] at h
    obtain ⟨h1, rfl⟩ := h
    exact fun_told (slices_IndexFunc_string_string_e _) (slices_IndexFunc_string_string_l _) h1
  · cases h
noncomputable def D13 : Dt := also D12 136 slices_IndexFunc_string_string_S
theorem d13 : DOk Go.Proofs.Try.prog tab D13 := d12.also mixed_ok tab_ok names_ok (fnLoops_one (by kernel_rfl) slices_IndexFunc_string_string_is2) slices_IndexFunc_string_string_s
/-! slices_ContainsFunc_string_string -/
noncomputable def slices_ContainsFunc_string_string_t (A : List (List TC)) : Tr (Bool) := (.ite ((slices_IndexFunc_string_string_c A) = true) (.ok (decide ((slices_IndexFunc_string_string_v A) ≥ (0 : Int))))
  .no)
def slices_ContainsFunc_string_string_mk (p : Bool) : Res := [(false, [⟨.bool, .sh, TC.b p⟩])]
noncomputable def slices_ContainsFunc_string_string_c (A : List (List TC)) : Bool := is (Typed tab (.slice 9) (.l A))
noncomputable def slices_ContainsFunc_string_string_v (A : List (List TC)) : Bool := !(A.all (fun x => !(impl_ValidHeap_1_v ((nth x 0).str))))
theorem slices_ContainsFunc_string_string_l (A : List (List TC)) : (slices_ContainsFunc_string_string_c A) = true → (slices_ContainsFunc_string_string_t A).val = some (slices_ContainsFunc_string_string_v A) := by
  intro h
  have ht := is_iff.1 h
  unfold slices_ContainsFunc_string_string_t
  refine Tr.t (by first | (apply is_true; and_intros <;> (first | rfl | assumption | (apply spec_IsName_cc <;> assumption) | (apply spec_l16Ok_cc <;> assumption) | (apply spec_PutName_cc <;> assumption) | (apply impl_IsName_cc <;> assumption) | (first | (apply is_true; and_intros <;> (first | rfl | assumption | (apply spec_IsName_cc <;> assumption) | (apply spec_l16Ok_cc <;> assumption) | (apply spec_PutName_cc <;> assumption) | (apply impl_IsName_cc <;> assumption) | (first | (apply is_true; and_intros <;> (first | rfl | assumption | (apply spec_IsName_cc <;> assumption) | (apply spec_l16Ok_cc <;> assumption) | (apply spec_PutName_cc <;> assumption) | (apply impl_IsName_cc <;> assumption) | (first | (apply is_true; and_intros <;> (first | rfl | assumption | (apply spec_IsName_cc <;> assumption) | (apply spec_l16Ok_cc <;> assumption) | (apply spec_PutName_cc <;> assumption) | (apply impl_IsName_cc <;> assumption))) | (apply spec_IsName_cc <;> assumption) | (apply spec_l16Ok_cc <;> assumption) | (apply spec_PutName_cc <;> assumption) | (apply impl_IsName_cc <;> assumption)))) | (apply spec_IsName_cc <;> assumption) | (apply spec_l16Ok_cc <;> assumption) | (apply spec_PutName_cc <;> assumption) | (apply impl_IsName_cc <;> assumption)))) | (apply spec_IsName_cc <;> assumption) | (apply spec_l16Ok_cc <;> assumption) | (apply spec_PutName_cc <;> assumption) | (apply impl_IsName_cc <;> assumption)))) | (apply spec_IsName_cc <;> assumption) | (apply spec_l16Ok_cc <;> assumption) | (apply spec_PutName_cc <;> assumption) | (apply impl_IsName_cc <;> assumption)) ?_
  show some (decide (slices_IndexFunc_string_string_v A  ≥ 0)) = some (!(A.all (fun x => !(impl_ValidHeap_1_v ((nth x 0).str)))))
  unfold slices_IndexFunc_string_string_v
  cases hk : A.all (fun x => !(impl_ValidHeap_1_v ((nth x 0).str))) <;> simp
noncomputable def slices_ContainsFunc_string_string_S : List Arg → Option (Bool × Res) := fun xs => match xs with
  | [(false, [(.slice 9, TC.l A)]), (false, [(.func, TC.f 104 [])])] => some ((slices_ContainsFunc_string_string_c A), slices_ContainsFunc_string_string_mk (slices_ContainsFunc_string_string_v A))
  | _ => .none
theorem slices_ContainsFunc_string_string_e (A : List (List TC)) : runF tab FT D13 live 103 noLoops [(false, [(.slice 9, TC.l A)]), (false, [(.func, TC.f 104 [])])] = (slices_ContainsFunc_string_string_t A).run fun p => some (slices_ContainsFunc_string_string_mk p) := by kernel_rfl
theorem slices_ContainsFunc_string_string_s : ∀ xs r, slices_ContainsFunc_string_string_S xs = some (true, r) → runF tab FT D13 live 103 noLoops xs = some r := by
  intro xs r h
  unfold slices_ContainsFunc_string_string_S at h
  split at h
  · simp only [Option.some.injEq, Prod.mk.injEq] at h
    obtain ⟨h1, rfl⟩ := h
    exact fun_told (slices_ContainsFunc_string_string_e _) (slices_ContainsFunc_string_string_l _) h1
  · cases h
noncomputable def D14 : Dt := also D13 103 slices_ContainsFunc_string_string_S
theorem d14 : DOk Go.Proofs.Try.prog tab D14 := d13.also mixed_ok tab_ok names_ok noLoops_ok slices_ContainsFunc_string_string_s
/-! impl_ValidHeap -/
noncomputable def impl_ValidHeap_t (A : List (List TC)) : Tr (Bool) := (.ite ((decide ((A.length : Int) ≤ (30 : Int))) = true) (.ite (((A.length : Int) == (0 : Int)) = true) (.ite ((slices_ContainsFunc_string_string_c A) = true) (.ok (!(slices_ContainsFunc_string_string_v A)))
    .no)
   (.ite ((0 : Int) ≤ (IntKind.wrap .i64 ((A.length : Int) - (1 : Int))) ∧ (IntKind.wrap .i64 ((A.length : Int) - (1 : Int))) < (A.length : Int)) (.ite ((!((nth (row A (IntKind.wrap .i64 ((A.length : Int) - (1 : Int)))) 0).str == [])) = true) (.ite ((slices_ContainsFunc_string_string_c A) = true) (.ok (!(slices_ContainsFunc_string_string_v A)))
      .no)
     (.ok false))
    .no))
  (.ok false))
def impl_ValidHeap_mk (p : Bool) : Res := [(false, [⟨.bool, .sh, TC.b p⟩])]
noncomputable def impl_ValidHeap_c (A : List (List TC)) : Bool := (bif (decide ((A.length : Int) ≤ (30 : Int))) then (bif ((A.length : Int) == (0 : Int)) then ((slices_ContainsFunc_string_string_c A) && true) else (is ((0 : Int) ≤ (IntKind.wrap .i64 ((A.length : Int) - (1 : Int))) ∧ (IntKind.wrap .i64 ((A.length : Int) - (1 : Int))) < (A.length : Int)) && (bif (!((nth (row A (IntKind.wrap .i64 ((A.length : Int) - (1 : Int)))) 0).str == [])) then ((slices_ContainsFunc_string_string_c A) && true) else true))) else true)
noncomputable def impl_ValidHeap_v (A : List (List TC)) : Bool := (bif (decide ((A.length : Int) ≤ (30 : Int))) then (bif ((A.length : Int) == (0 : Int)) then (!(slices_ContainsFunc_string_string_v A)) else (bif (!((nth (row A (IntKind.wrap .i64 ((A.length : Int) - (1 : Int)))) 0).str == [])) then (!(slices_ContainsFunc_string_string_v A)) else false)) else false)
theorem impl_ValidHeap_l (A : List (List TC)) : (impl_ValidHeap_c A) = true → (impl_ValidHeap_t A).val = some (impl_ValidHeap_v A) := by
  unfold impl_ValidHeap_t impl_ValidHeap_v impl_ValidHeap_c
  exact fun h => (Tr.ss h (fun h => (Tr.ss h (fun h => (Tr.gb h fun h => rfl)) (fun h => (Tr.gs h fun h => (Tr.ss h (fun h => (Tr.gb h fun h => rfl)) (fun h => rfl)))))) (fun h => rfl))
noncomputable def impl_ValidHeap_S : List Arg → Option (Bool × Res) := fun xs => match xs with
  | [(true, [(.slice 9, TC.l A)])] => some ((impl_ValidHeap_c A), impl_ValidHeap_mk (impl_ValidHeap_v A))
  | _ => .none
theorem impl_ValidHeap_e (A : List (List TC)) : runF tab FT D14 live 54 noLoops [(true, [(.slice 9, TC.l A)])] = (impl_ValidHeap_t A).run fun p => some (impl_ValidHeap_mk p) := by kernel_rfl
theorem impl_ValidHeap_s : ∀ xs r, impl_ValidHeap_S xs = some (true, r) → runF tab FT D14 live 54 noLoops xs = some r := by
  intro xs r h
  unfold impl_ValidHeap_S at h
  split at h
  · simp only [Option.some.injEq, Prod.mk.injEq] at h
    obtain ⟨h1, rfl⟩ := h
    exact fun_told (impl_ValidHeap_e _) (impl_ValidHeap_l _) h1
  · cases h
noncomputable def D15 : Dt := also D14 54 impl_ValidHeap_S
theorem d15 : DOk Go.Proofs.Try.prog tab D15 := d14.also mixed_ok tab_ok names_ok noLoops_ok impl_ValidHeap_s
theorem impl_ValidHeap_cc {A : List (List TC)} (hA : Typed tab (.slice 9) (.l A)) : (impl_ValidHeap_c A) = true := by
  unfold impl_ValidHeap_c
  refine bifT (fun b1 => ?_) (fun b1 => ?_)
  · skip
    refine bifT (fun b2 => ?_) (fun b2 => ?_)
    · skip
      refine andT (by first | (apply is_true; and_intros <;> (first | rfl | assumption | (apply spec_IsName_cc <;> assumption) | (apply spec_l16Ok_cc <;> assumption) | (apply spec_PutName_cc <;> assumption) | (apply impl_IsName_cc <;> assumption) | (first | (apply is_true; and_intros <;> (first | rfl | assumption | (apply spec_IsName_cc <;> assumption) | (apply spec_l16Ok_cc <;> assumption) | (apply spec_PutName_cc <;> assumption) | (apply impl_IsName_cc <;> assumption) | (first | (apply is_true; and_intros <;> (first | rfl | assumption | (apply spec_IsName_cc <;> assumption) | (apply spec_l16Ok_cc <;> assumption) | (apply spec_PutName_cc <;> assumption) | (apply impl_IsName_cc <;> assumption) | (first | (apply is_true; and_intros <;> (first | rfl | assumption | (apply spec_IsName_cc <;> assumption) | (apply spec_l16Ok_cc <;> assumption) | (apply spec_PutName_cc <;> assumption) | (apply impl_IsName_cc <;> assumption))) | (apply spec_IsName_cc <;> assumption) | (apply spec_l16Ok_cc <;> assumption) | (apply spec_PutName_cc <;> assumption) | (apply impl_IsName_cc <;> assumption)))) | (apply spec_IsName_cc <;> assumption) | (apply spec_l16Ok_cc <;> assumption) | (apply spec_PutName_cc <;> assumption) | (apply impl_IsName_cc <;> assumption)))) | (apply spec_IsName_cc <;> assumption) | (apply spec_l16Ok_cc <;> assumption) | (apply spec_PutName_cc <;> assumption) | (apply impl_IsName_cc <;> assumption)))) | (apply spec_IsName_cc <;> assumption) | (apply spec_l16Ok_cc <;> assumption) | (apply spec_PutName_cc <;> assumption) | (apply impl_IsName_cc <;> assumption)) ?_
      rfl
    · skip
      refine andT (is_true (by have hl := typed_room hA; simp only [show (tab 9).bytes = 16 from rfl] at hl; have hb := of_decide_eq_true b1; have hc := ne_of_beq_false b2; rw [wrap64 (by omega) (by omega)]; constructor <;> omega)) ?_
      refine bifT (fun b3 => ?_) (fun b3 => ?_)
      · skip
        refine andT (by first | (apply is_true; and_intros <;> (first | rfl | assumption | (apply spec_IsName_cc <;> assumption) | (apply spec_l16Ok_cc <;> assumption) | (apply spec_PutName_cc <;> assumption) | (apply impl_IsName_cc <;> assumption) | (first | (apply is_true; and_intros <;> (first | rfl | assumption | (apply spec_IsName_cc <;> assumption) | (apply spec_l16Ok_cc <;> assumption) | (apply spec_PutName_cc <;> assumption) | (apply impl_IsName_cc <;> assumption) | (first | (apply is_true; and_intros <;> (first | rfl | assumption | (apply spec_IsName_cc <;> assumption) | (apply spec_l16Ok_cc <;> assumption) | (apply spec_PutName_cc <;> assumption) | (apply impl_IsName_cc <;> assumption) | (first | (apply is_true; and_intros <;> (first | rfl | assumption | (apply spec_IsName_cc <;> assumption) | (apply spec_l16Ok_cc <;> assumption) | (apply spec_PutName_cc <;> assumption) | (apply impl_IsName_cc <;> assumption))) | (apply spec_IsName_cc <;> assumption) | (apply spec_l16Ok_cc <;> assumption) | (apply spec_PutName_cc <;> assumption) | (apply impl_IsName_cc <;> assumption)))) | (apply spec_IsName_cc <;> assumption) | (apply spec_l16Ok_cc <;> assumption) | (apply spec_PutName_cc <;> assumption) | (apply impl_IsName_cc <;> assumption)))) | (apply spec_IsName_cc <;> assumption) | (apply spec_l16Ok_cc <;> assumption) | (apply spec_PutName_cc <;> assumption) | (apply impl_IsName_cc <;> assumption)))) | (apply spec_IsName_cc <;> assumption) | (apply spec_l16Ok_cc <;> assumption) | (apply spec_PutName_cc <;> assumption) | (apply impl_IsName_cc <;> assumption)) ?_
        rfl
      · skip
        rfl
  · skip
    rfl
theorem impl_ValidHeap_vv (A : List (List TC)) : impl_ValidHeap_v A = heapOk A := by
  unfold impl_ValidHeap_v slices_ContainsFunc_string_string_v
  rw [show (fun x : List TC => !(impl_ValidHeap_1_v (nth x 0).str)) = slotNameOk from by
    funext x
    unfold impl_ValidHeap_1_v slotNameOk
    rw [impl_IsName_vv]
    cases ((nth x 0).str == []) <;> cases nameOk (nth x 0).str <;> rfl]
  unfold heapOk lastEmpty
  generalize decide ((A.length : Int) ≤ 30) = p1, ((A.length : Int) == 0) = p2, ((nth (row A (IntKind.wrap .i64 ((A.length : Int) - (1 : Int)))) 0).str == []) = p3, A.all slotNameOk = p4
  cases p1 <;> cases p2 <;> cases p3 <;> cases p4 <;> rfl
/-! slices_Clone_string_string, by contract -/
def slices_Clone_string_string_ren : Go.Shelf.Ren := ⟨fun _ => 105, fun n => bif Nat.beq n 4 then 4 else bif Nat.beq n 22 then 33 else 9, fun _ => 0⟩
theorem slices_Clone_string_string_lays : SlLaysE0.n41 Go.Proofs.Try.prog slices_Clone_string_string_ren := {
  mixed := by kernel_rfl
  f41 := ⟨Go.Proofs.Try.f105.name, by decide, Go.Proofs.Try.func105.trans (congrArg some (by kernel_rfl))⟩
  t4 := Go.Proofs.Try.underlying4
  a4 := Go.Proofs.Try.isAgg4
  z4 := Go.Proofs.Try.sizeOf4
  v4 := Go.Proofs.Try.zeroValue4
  t22 := Go.Proofs.Try.underlying33
  a22 := Go.Proofs.Try.isAgg33
  z22 := Go.Proofs.Try.sizeOf33
  v22 := Go.Proofs.Try.zeroValue33 }
noncomputable def slices_Clone_string_string_c (A : List (List TC)) : Bool := is (Typed tab (.slice 9) (.l A))
noncomputable def slices_Clone_string_string_v (A : List (List TC)) : List (List TC) := A
def slices_Clone_string_string_mk (p : List (List TC)) : Res := [(false, [⟨.slice 9, .own true, TC.l p⟩])]
noncomputable def slices_Clone_string_string_S : List Arg → Option (Bool × Res) := fun xs => match xs with
  | [(false, [(.slice 9, TC.l A)])] => some ((slices_Clone_string_string_c A), slices_Clone_string_string_mk (slices_Clone_string_string_v A))
  | _ => .none
noncomputable def D16 : Dt := also D15 105 slices_Clone_string_string_S
theorem d16 : DOk Go.Proofs.Try.prog tab D16 := d15.alsoC names_ok (c := _) Go.Proofs.Try.func105 rfl (by
  intro xs r h w S hargs0 hS hargs
  unfold slices_Clone_string_string_S at h
  split at h
  · rename_i A
    simp only [Option.some.injEq, Prod.mk.injEq] at h
    obtain ⟨h1, rfl⟩ := h
    obtain ⟨u, us, rfl, ha, hr⟩ := args_cons hargs
    cases args_nil hr
    have ht := is_iff.1 h1
    have hroom := typed_room ht
    simp only [show (tab 9).bytes = 16 from rfl] at hroom
    exact clone_told slices_Clone_string_string_lays tab_ok rfl (zs := _) rfl (by decide) (deep := true) (fun _ => rfl) hS (arg_rep ha) (show roomFor (tab 9) A.length from by unfold roomFor; simp only [show (tab 9).bytes = 16 from rfl]; omega)
  · cases h)
theorem slices_Clone_string_string_cc {A : List (List TC)} (h : Typed tab (.slice 9) (.l A)) : slices_Clone_string_string_c A = true := is_true h
/-! slices_Index_string_string -/
abbrev slices_Index_string_string_2_σ := List (List TC) × List UInt8 × Int × Int
abbrev slices_Index_string_string_2_ω := (Int) ⊕ (Unit)
noncomputable def slices_Index_string_string_2_step (A : List (List TC)) (s : List UInt8) (m : Int) (i : Int) : Tr (slices_Index_string_string_2_σ ⊕ slices_Index_string_string_2_ω) := (.ite ((decide (i < m)) = true) (.ite ((0 : Int) ≤ i ∧ i < (A.length : Int)) (.ite ((s == (nth (row A i) 0).str) = true) (.ok (.inr (.inl i)))
    (.ok (.inl (A, s, m, (IntKind.wrap .i64 (i + (1 : Int)))))))
   .no)
  (.ok (.inr (.inr ()))))
noncomputable def slices_Index_string_string_2_st : slices_Index_string_string_2_σ → Tr (slices_Index_string_string_2_σ ⊕ slices_Index_string_string_2_ω) := fun x => (slices_Index_string_string_2_step (x.1) (x.2.1) (x.2.2.1) (x.2.2.2))
noncomputable def slices_Index_string_string_k2_1 (A : List (List TC)) (s : List UInt8) (m : Int) (i : Int) : Bool := A.all (fun x => !(s == (nth x 0).str))
noncomputable def slices_Index_string_string_o2_2 (A : List (List TC)) (s : List UInt8) (m : Int) (i : Int) : Bool := is (i = 0 ∧ Typed tab (.slice 9) (.l A) ∧ m = (A.length : Int))
noncomputable def slices_Index_string_string_o2_3 (A : List (List TC)) (s : List UInt8) (m : Int) (i : Int) : Bool := is (i = 0 ∧ Typed tab (.slice 9) (.l A) ∧ m = (A.length : Int))
noncomputable def slices_Index_string_string_u2_3 (A : List (List TC)) (s : List UInt8) (m : Int) (i : Int) : Int := (Int.ofNat (A.findIdx fun x => !(fun x => !(s == (nth x 0).str)) x))
noncomputable def slices_Index_string_string_2_fin (A : List (List TC)) (s : List UInt8) (m : Int) (i : Int) : Told slices_Index_string_string_2_ω := (.br (slices_Index_string_string_k2_1 A s m i) (.leaf (slices_Index_string_string_o2_2 A s m i) (.inr ())) (.leaf (slices_Index_string_string_o2_3 A s m i) (.inl (slices_Index_string_string_u2_3 A s m i))))
def slices_Index_string_string_2_sl (x : slices_Index_string_string_2_σ) : List Slot := [⟨.val false [⟨.slice 9, .sh, TC.l (x.1)⟩], ⟨0, 0⟩⟩, ⟨.val false [⟨.str, .sh, TC.s (x.2.1)⟩], ⟨0, 0⟩⟩, ⟨.val false [⟨.int .i64, .sh, TC.i (x.2.2.1)⟩], ⟨0, 0⟩⟩, ⟨.val false [⟨.int .i64, .sh, TC.i (x.2.2.2)⟩], ⟨0, 0⟩⟩]
def slices_Index_string_string_2_out : slices_Index_string_string_2_ω → Ex × List Slot := (Sum.elim (fun x => (.ret, [⟨.val false [⟨.int .i64, .sh, TC.i x⟩], ⟨0, 0⟩⟩])) (fun x => (.exit 0, [Slot.none])))
noncomputable def slices_Index_string_string_lo2 : List Slot → Option (Told (Ex × List Slot)) := fun s => match s with
  | [⟨.val false [⟨.slice 9, .sh, TC.l A⟩], ⟨0, 0⟩⟩, ⟨.val false [⟨.str, .sh, TC.s s⟩], ⟨0, 0⟩⟩, ⟨.val false [⟨.int .i64, .sh, TC.i m⟩], ⟨0, 0⟩⟩, ⟨.val false [⟨.int .i64, .sh, TC.i i⟩], ⟨0, 0⟩⟩] => some (((slices_Index_string_string_2_fin A s m i)).map slices_Index_string_string_2_out)
  | _ => .none
noncomputable def slices_Index_string_string_lo : LoopTeller := fun r s => bif Nat.beq r 2 then slices_Index_string_string_lo2 s else .none
theorem slices_Index_string_string_2_r (A : List (List TC)) (s : List UInt8) (m : Int) (i : Int) (fuel : Nat) : rounds (rnd tab FT D16 live 106 slices_Index_string_string_lo 0 2) leave (fuel + 1) (slices_Index_string_string_2_sl (A, s, m, i)) = ((slices_Index_string_string_2_step A s m i)).run (goOn (fun s => rounds (rnd tab FT D16 live 106 slices_Index_string_string_lo 0 2) leave fuel (slices_Index_string_string_2_sl s)) fun w => some (slices_Index_string_string_2_out w)) := by kernel_rfl
theorem slices_Index_string_string_2_h (A : List (List TC)) (s : List UInt8) (m : Int) (i : Int) (ow : slices_Index_string_string_2_ω) : ((slices_Index_string_string_2_fin A s m i)).val = some ow → ∃ fuel, loopN slices_Index_string_string_2_st fuel (A, s, m, i) = some ow := by
  intro h
  have key : Typed tab (.slice 9) (.l A) → loopN slices_Index_string_string_2_st (A.length + 1) (A, s, (A.length : Int), (0 : Int)) = some (if A.all (fun x => !(s == (nth x 0).str)) = true then (.inr ()) else (.inl (Int.ofNat (A.findIdx fun x => !(fun x => !(s == (nth x 0).str)) x)))) := by
    intro ht
    have hlen : A.length ≤ 140737488351232 := by have := typed_room ht; simp only [show (tab 9).bytes = 16 from rfl] at this; omega
    have key := loopN_scan (step := slices_Index_string_string_2_st) A [] (fun x => !(s == (nth x 0).str)) (fun a _ => a) (fun i a => (A, s, (A.length : Int), (i : Int))) (fun a => (.inr ())) (fun i a => (.inl (i : Int))) (fun i a hi => ?_) (fun a => ?_) A.length 0 () (by omega)
    · first | (rw [Nat.zero_add] at key; exact key) | exact key
    · have c0 : Typed tab (.str) (.s (nth (A.getD i []) 0).str) := typed_s (typed_cell ht (A.getD i []) (mem_getD hi) 0 (by decide))
      show (slices_Index_string_string_2_step A s (A.length : Int) (i : Int)).val = _
      unfold slices_Index_string_string_2_step
      refine Tr.t (by simp; omega) ?_
      skip
      refine Tr.t (by first | omega | (constructor <;> omega)) ?_
      refine Tr.b2 (fun hP => ?_) (fun _ => rfl)
      rw [Tr.val_ok, wrap64 (i := (i : Int) + 1) (by omega) (by omega)]; rfl
    · show (slices_Index_string_string_2_step A s (A.length : Int) (A.length : Int)).val = _
      refine Tr.n (by simp) ?_
      rfl
  simp only [slices_Index_string_string_2_fin, Told.val] at h
  cases hk : A.all (fun x => !(s == (nth x 0).str)) with
  | true =>
    rw [if_pos (show slices_Index_string_string_k2_1 A s m i = true from hk)] at h
    split at h
    · rename_i ho
      obtain ⟨rfl, ht, rfl⟩ := is_iff.1 ho
      cases h
      refine ⟨_, (key ht).trans ?_⟩
      rw [hk]; rfl
    · cases h
  | false =>
    rw [if_neg (show ¬slices_Index_string_string_k2_1 A s m i = true from by rw [show slices_Index_string_string_k2_1 A s m i = (A.all (fun x => !(s == (nth x 0).str))) from rfl, hk]; simp)] at h
    split at h
    · rename_i ho
      obtain ⟨rfl, ht, rfl⟩ := is_iff.1 ho
      cases h
      refine ⟨_, (key ht).trans ?_⟩
      rw [hk]; rfl
    · cases h
theorem slices_Index_string_string_is2 : LoopIs tab FT D16 live 106 slices_Index_string_string_lo 0 2 := by
  refine loop_told (sl := slices_Index_string_string_2_sl) (step := slices_Index_string_string_2_st) (out := slices_Index_string_string_2_out) (lor := slices_Index_string_string_lo2) (fin := fun x => (slices_Index_string_string_2_fin (x.1) (x.2.1) (x.2.2.1) (x.2.2.2))) (fun _ => rfl) ?_ (fun x n => slices_Index_string_string_2_r x.1 x.2.1 x.2.2.1 x.2.2.2 n) (fun x ow => slices_Index_string_string_2_h x.1 x.2.1 x.2.2.1 x.2.2.2 ow)
  intro s t h
  unfold slices_Index_string_string_lo2 at h
  split at h
  · cases h; exact ⟨(_, _, _, _), rfl, rfl⟩
  · cases h
noncomputable def slices_Index_string_string_t (A : List (List TC)) (s : List UInt8) : Tr (Int) := (.ite ((slices_Index_string_string_k2_1 A s (A.length : Int) (0 : Int)) = true) (.ite ((slices_Index_string_string_o2_2 A s (A.length : Int) (0 : Int)) = true) (.ok (-1 : Int))
   .no)
  (.ite ((slices_Index_string_string_o2_3 A s (A.length : Int) (0 : Int)) = true) (.ok (slices_Index_string_string_u2_3 A s (A.length : Int) (0 : Int)))
   .no))
def slices_Index_string_string_mk (p : Int) : Res := [(false, [⟨.int .i64, .sh, TC.i p⟩])]
noncomputable def slices_Index_string_string_c (A : List (List TC)) (s : List UInt8) : Bool := is (((slices_Index_string_string_o2_2 A s (A.length : Int) (0 : Int)) = true) ∧ ((slices_Index_string_string_o2_3 A s (A.length : Int) (0 : Int)) = true))
noncomputable def slices_Index_string_string_v (A : List (List TC)) (s : List UInt8) : Int := (bif (slices_Index_string_string_k2_1 A s (A.length : Int) (0 : Int)) then (-1 : Int) else (slices_Index_string_string_u2_3 A s (A.length : Int) (0 : Int)))
theorem slices_Index_string_string_l (A : List (List TC)) (s : List UInt8) : (slices_Index_string_string_c A s) = true → (slices_Index_string_string_t A s).val = some (slices_Index_string_string_v A s) := by
  intro h
  obtain ⟨g0, g1⟩ := is_iff.1 h
  unfold slices_Index_string_string_t slices_Index_string_string_v
  exact (Tr.s (Tr.t g0 rfl) (Tr.t g1 rfl))
noncomputable def slices_Index_string_string_S : List Arg → Option (Bool × Res) := fun xs => match xs with
  | [(false, [(.slice 9, TC.l A)]), (false, [(.str, TC.s s)])] => some ((slices_Index_string_string_c A s), slices_Index_string_string_mk (slices_Index_string_string_v A s))
  | _ => .none
theorem slices_Index_string_string_e (A : List (List TC)) (s : List UInt8) : runF tab FT D16 live 106 slices_Index_string_string_lo [(false, [(.slice 9, TC.l A)]), (false, [(.str, TC.s s)])] = (slices_Index_string_string_t A s).run fun p => some (slices_Index_string_string_mk p) := by kernel_rfl
theorem slices_Index_string_string_s : ∀ xs r, slices_Index_string_string_S xs = some (true, r) → runF tab FT D16 live 106 slices_Index_string_string_lo xs = some r := by
  intro xs r h
  unfold slices_Index_string_string_S at h
  split at h
  · simp only [Option.some.injEq, Prod.mk.injEq] at h
    obtain ⟨h1, rfl⟩ := h
    exact fun_told (slices_Index_string_string_e _ _) (slices_Index_string_string_l _ _) h1
  · cases h
noncomputable def D17 : Dt := also D16 106 slices_Index_string_string_S
theorem d17 : DOk Go.Proofs.Try.prog tab D17 := d16.also mixed_ok tab_ok names_ok (fnLoops_one (by kernel_rfl) slices_Index_string_string_is2) slices_Index_string_string_s
theorem slices_Index_string_string_vv (A : List (List TC)) (s : List UInt8) : slices_Index_string_string_v A s = slotIdx A s := by
  show (bif A.all (fun x => !(s == (nth x 0).str)) then -1 else Int.ofNat (A.findIdx fun x => !(!(s == (nth x 0).str)))) = slotIdx A s
  unfold slotIdx
  have e : ∀ x : List TC, (s == (nth x 0).str) = ((nth x 0).str == s) := fun x => Bool.beq_comm
  simp only [e]
/-! impl_NameHeap_put -/
noncomputable def impl_NameHeap_put_t (A : List (List TC)) (s : List UInt8) : Tr (List (List TC) × Int × Int) := (.ite ((slices_Clone_string_string_c A) = true) (.ite ((slices_Index_string_string_c (slices_Clone_string_string_v A) []) = true) (.ite ((decide ((slices_Index_string_string_v (slices_Clone_string_string_v A) []) ≥ (0 : Int))) = true) (.ite ((0 : Int) ≤ (slices_Index_string_string_v (slices_Clone_string_string_v A) []) ∧ (slices_Index_string_string_v (slices_Clone_string_string_v A) []) < ((slices_Clone_string_string_v A).length : Int)) (.ok (((slices_Clone_string_string_v A).set ((slices_Index_string_string_v (slices_Clone_string_string_v A) [])).toNat (splice (row (slices_Clone_string_string_v A) (slices_Index_string_string_v (slices_Clone_string_string_v A) [])) 0 [TC.s s])), (slices_Index_string_string_v (slices_Clone_string_string_v A) []), (0 : Int)))
     .no)
    (.ite ((decide (((slices_Clone_string_string_v A).length : Int) ≥ (30 : Int))) = true) (.ok ([], (0 : Int), (5 : Int)))
     (.ite (roomFor (tab 9) ((slices_Clone_string_string_v A) ++ [[TC.s s]]).length) (.ok (((slices_Clone_string_string_v A) ++ [[TC.s s]]), ((slices_Clone_string_string_v A).length : Int), (0 : Int)))
      .no)))
   .no)
  .no)
def impl_NameHeap_put_mk (p : List (List TC) × Int × Int) : Res := [(true, [⟨.slice 9, .own true, TC.l (p.1)⟩]), (false, [⟨.int .i64, .sh, TC.i (p.2.1)⟩]), (false, [⟨.int .i64, .sh, TC.i (p.2.2)⟩])]
noncomputable def impl_NameHeap_put_c (A : List (List TC)) (s : List UInt8) : Bool := ((slices_Clone_string_string_c A) && ((slices_Index_string_string_c (slices_Clone_string_string_v A) []) && (bif (decide ((slices_Index_string_string_v (slices_Clone_string_string_v A) []) ≥ (0 : Int))) then (is ((0 : Int) ≤ (slices_Index_string_string_v (slices_Clone_string_string_v A) []) ∧ (slices_Index_string_string_v (slices_Clone_string_string_v A) []) < ((slices_Clone_string_string_v A).length : Int)) && true) else (bif (decide (((slices_Clone_string_string_v A).length : Int) ≥ (30 : Int))) then true else (is (roomFor (tab 9) ((slices_Clone_string_string_v A) ++ [[TC.s s]]).length) && true)))))
noncomputable def impl_NameHeap_put_v (A : List (List TC)) (s : List UInt8) : List (List TC) × Int × Int := (bif (decide ((slices_Index_string_string_v (slices_Clone_string_string_v A) []) ≥ (0 : Int))) then (((slices_Clone_string_string_v A).set ((slices_Index_string_string_v (slices_Clone_string_string_v A) [])).toNat (splice (row (slices_Clone_string_string_v A) (slices_Index_string_string_v (slices_Clone_string_string_v A) [])) 0 [TC.s s])), (slices_Index_string_string_v (slices_Clone_string_string_v A) []), (0 : Int)) else (bif (decide (((slices_Clone_string_string_v A).length : Int) ≥ (30 : Int))) then ([], (0 : Int), (5 : Int)) else (((slices_Clone_string_string_v A) ++ [[TC.s s]]), ((slices_Clone_string_string_v A).length : Int), (0 : Int))))
theorem impl_NameHeap_put_l (A : List (List TC)) (s : List UInt8) : (impl_NameHeap_put_c A s) = true → (impl_NameHeap_put_t A s).val = some (impl_NameHeap_put_v A s) := by
  unfold impl_NameHeap_put_t impl_NameHeap_put_v impl_NameHeap_put_c
  exact fun h => (Tr.gb h fun h => (Tr.gb h fun h => (Tr.ss h (fun h => (Tr.gs h fun h => rfl)) (fun h => (Tr.ss h (fun h => rfl) (fun h => (Tr.gs h fun h => rfl)))))))
noncomputable def impl_NameHeap_put_S : List Arg → Option (Bool × Res) := fun xs => match xs with
  | [(true, [(.slice 9, TC.l A)]), (false, [(.str, TC.s s)])] => some ((impl_NameHeap_put_c A s), impl_NameHeap_put_mk (impl_NameHeap_put_v A s))
  | _ => .none
theorem impl_NameHeap_put_e (A : List (List TC)) (s : List UInt8) : runF tab FT D17 live 56 noLoops [(true, [(.slice 9, TC.l A)]), (false, [(.str, TC.s s)])] = (impl_NameHeap_put_t A s).run fun p => some (impl_NameHeap_put_mk p) := by kernel_rfl
theorem impl_NameHeap_put_s : ∀ xs r, impl_NameHeap_put_S xs = some (true, r) → runF tab FT D17 live 56 noLoops xs = some r := by
  intro xs r h
  unfold impl_NameHeap_put_S at h
  split at h
  · simp only [Option.some.injEq, Prod.mk.injEq] at h
    obtain ⟨h1, rfl⟩ := h
    exact fun_told (impl_NameHeap_put_e _ _) (impl_NameHeap_put_l _ _) h1
  · cases h
noncomputable def D18 : Dt := also D17 56 impl_NameHeap_put_S
theorem d18 : DOk Go.Proofs.Try.prog tab D18 := d17.also mixed_ok tab_ok names_ok noLoops_ok impl_NameHeap_put_s
theorem impl_NameHeap_put_cc {A : List (List TC)} {s : List UInt8} (hA : Typed tab (.slice 9) (.l A)) : (impl_NameHeap_put_c A s) = true := by
  unfold impl_NameHeap_put_c
  refine andT (by exact slices_Clone_string_string_cc hA) ?_
  refine andT (by apply is_true; and_intros <;> exact is_true ⟨rfl, hA, rfl⟩) ?_
  refine bifT (fun b1 => ?_) (fun b1 => ?_)
  · skip
    refine andT (is_true (by rw [slices_Index_string_string_vv] at *; exact slotIdx_lt b1)) ?_
    rfl
  · skip
    refine bifT (fun b2 => ?_) (fun b2 => ?_)
    · skip
      rfl
    · skip
      refine andT (is_true (by show roomFor (tab 9) (A ++ [[TC.s s]]).length; have q : ¬ (A.length : Int) ≥ 30 := of_decide_eq_false b2; unfold roomFor; simp only [show (tab 9).bytes = 16 from rfl, List.length_append, List.length_singleton]; omega)) ?_
      rfl
theorem impl_NameHeap_put_vv {A : List (List TC)} {s : List UInt8} (h : Typed tab (.slice 9) (.l A)) : impl_NameHeap_put_v A s = (bif decide (slotIdx A [] ≥ 0) then (A.set (slotIdx A []).toNat [TC.s s], slotIdx A [], (0 : Int)) else bif decide ((A.length : Int) ≥ 30) then ([], (0 : Int), (5 : Int)) else (A ++ [[TC.s s]], (A.length : Int), (0 : Int))) := by
  unfold impl_NameHeap_put_v
  have ec : slices_Clone_string_string_v A = A := rfl
  rw [slices_Index_string_string_vv, ec]
  cases hd : decide (slotIdx A [] ≥ 0) with
  | true =>
    show ((A.set (slotIdx A []).toNat (splice (row A (slotIdx A [])) 0 [TC.s s])), slotIdx A [], (0 : Int)) = _
    rw [splice_row h rfl (slotIdx_lt hd)]; rfl
  | false => rfl
/-! impl_PutName -/
noncomputable def impl_PutName_t (A : List (List TC)) (s : List UInt8) : Tr (List (List TC) × Int × Int) := (.ite ((impl_ValidHeap_c A) = true) (.ite ((!(impl_ValidHeap_v A)) = true) (.ok ([], (0 : Int), (1 : Int)))
   (.ite ((impl_IsName_c s) = true) (.ite ((!(impl_IsName_v s)) = true) (.ok ([], (0 : Int), (1 : Int)))
     (.ite ((impl_NameHeap_put_c A s) = true) (.ok ((impl_NameHeap_put_v A s).1, (impl_NameHeap_put_v A s).2.1, (impl_NameHeap_put_v A s).2.2))
      .no))
    .no))
  .no)
def impl_PutName_mk (p : List (List TC) × Int × Int) : Res := [(true, [⟨.slice 9, .own true, TC.l (p.1)⟩]), (false, [⟨.int .i64, .sh, TC.i (p.2.1)⟩]), (false, [⟨.int .i64, .sh, TC.i (p.2.2)⟩])]
noncomputable def impl_PutName_c (A : List (List TC)) (s : List UInt8) : Bool := ((impl_ValidHeap_c A) && (bif (!(impl_ValidHeap_v A)) then true else ((impl_IsName_c s) && (bif (!(impl_IsName_v s)) then true else ((impl_NameHeap_put_c A s) && true)))))
noncomputable def impl_PutName_v (A : List (List TC)) (s : List UInt8) : List (List TC) × Int × Int := (bif (!(impl_ValidHeap_v A)) then ([], (0 : Int), (1 : Int)) else (bif (!(impl_IsName_v s)) then ([], (0 : Int), (1 : Int)) else ((impl_NameHeap_put_v A s).1, (impl_NameHeap_put_v A s).2.1, (impl_NameHeap_put_v A s).2.2)))
theorem impl_PutName_l (A : List (List TC)) (s : List UInt8) : (impl_PutName_c A s) = true → (impl_PutName_t A s).val = some (impl_PutName_v A s) := by
  unfold impl_PutName_t impl_PutName_v impl_PutName_c
  exact fun h => (Tr.gb h fun h => (Tr.ss h (fun h => rfl) (fun h => (Tr.gb h fun h => (Tr.ss h (fun h => rfl) (fun h => (Tr.gb h fun h => rfl)))))))
noncomputable def impl_PutName_S : List Arg → Option (Bool × Res) := fun xs => match xs with
  | [(true, [(.slice 9, TC.l A)]), (false, [(.str, TC.s s)])] => some ((impl_PutName_c A s), impl_PutName_mk (impl_PutName_v A s))
  | _ => .none
theorem impl_PutName_e (A : List (List TC)) (s : List UInt8) : runF tab FT D18 live 17 noLoops [(true, [(.slice 9, TC.l A)]), (false, [(.str, TC.s s)])] = (impl_PutName_t A s).run fun p => some (impl_PutName_mk p) := by kernel_rfl
theorem impl_PutName_s : ∀ xs r, impl_PutName_S xs = some (true, r) → runF tab FT D18 live 17 noLoops xs = some r := by
  intro xs r h
  unfold impl_PutName_S at h
  split at h
  · simp only [Option.some.injEq, Prod.mk.injEq] at h
    obtain ⟨h1, rfl⟩ := h
    exact fun_told (impl_PutName_e _ _) (impl_PutName_l _ _) h1
  · cases h
noncomputable def D19 : Dt := also D18 17 impl_PutName_S
theorem d19 : DOk Go.Proofs.Try.prog tab D19 := d18.also mixed_ok tab_ok names_ok noLoops_ok impl_PutName_s
theorem impl_PutName_cc {A : List (List TC)} {s : List UInt8} (hA : Typed tab (.slice 9) (.l A)) (hs : Typed tab (.str) (.s s)) : (impl_PutName_c A s) = true := by
  unfold impl_PutName_c
  refine andT (by exact impl_ValidHeap_cc hA) ?_
  refine bifT (fun b1 => ?_) (fun b1 => ?_)
  · skip
    rfl
  · skip
    refine andT (by exact impl_IsName_cc hs) ?_
    refine bifT (fun b2 => ?_) (fun b2 => ?_)
    · skip
      rfl
    · skip
      refine andT (by exact impl_NameHeap_put_cc hA) ?_
      rfl
theorem impl_PutName_vv {A : List (List TC)} {s : List UInt8} (h : Typed tab (.slice 9) (.l A)) : impl_PutName_v A s = putV A s := by
  unfold impl_PutName_v putV
  rw [impl_ValidHeap_vv, impl_IsName_vv, impl_NameHeap_put_vv h]
/-! laws_eqStringS -/
abbrev laws_eqStringS_4_σ := List (List TC) × List (List TC) × Int
abbrev laws_eqStringS_4_ω := (Unit) ⊕ (Unit)
noncomputable def laws_eqStringS_4_step (A : List (List TC)) (C : List (List TC)) (i : Int) : Tr (laws_eqStringS_4_σ ⊕ laws_eqStringS_4_ω) := (.ite ((decide (i < (A.length : Int))) = true) (.ite ((0 : Int) ≤ i ∧ i < (A.length : Int)) (.ite ((0 : Int) ≤ i ∧ i < (C.length : Int)) (.ite ((!((nth (row A i) 0).str == (nth (row C i) 0).str)) = true) (.ok (.inr (.inl ())))
     (.ok (.inl (A, C, (IntKind.wrap .i64 (i + (1 : Int)))))))
    .no)
   .no)
  (.ok (.inr (.inr ()))))
noncomputable def laws_eqStringS_4_st : laws_eqStringS_4_σ → Tr (laws_eqStringS_4_σ ⊕ laws_eqStringS_4_ω) := fun x => (laws_eqStringS_4_step (x.1) (x.2.1) (x.2.2))
noncomputable def laws_eqStringS_o4_1 (A : List (List TC)) (C : List (List TC)) (i : Int) : Bool := is (A = C ∧ i = 0 ∧ Typed tab (.slice 9) (.l A))
noncomputable def laws_eqStringS_4_fin (A : List (List TC)) (C : List (List TC)) (i : Int) : Told laws_eqStringS_4_ω := (.leaf (laws_eqStringS_o4_1 A C i) (.inr ()))
def laws_eqStringS_4_sl (x : laws_eqStringS_4_σ) : List Slot := [⟨.val false [⟨.slice 9, .sh, TC.l (x.1)⟩], ⟨0, 0⟩⟩, ⟨.val false [⟨.slice 9, .sh, TC.l (x.2.1)⟩], ⟨0, 0⟩⟩, ⟨.val false [⟨.int .i64, .sh, TC.i (x.2.2)⟩], ⟨0, 0⟩⟩]
def laws_eqStringS_4_out : laws_eqStringS_4_ω → Ex × List Slot := (Sum.elim (fun x => (.ret, [⟨.val false [⟨.bool, .sh, TC.b false⟩], ⟨0, 0⟩⟩])) (fun x => (.exit 0, [Slot.none])))
noncomputable def laws_eqStringS_lo4 : List Slot → Option (Told (Ex × List Slot)) := fun s => match s with
  | [⟨.val false [⟨.slice 9, .sh, TC.l A⟩], ⟨0, 0⟩⟩, ⟨.val false [⟨.slice 9, .sh, TC.l C⟩], ⟨0, 0⟩⟩, ⟨.val false [⟨.int .i64, .sh, TC.i i⟩], ⟨0, 0⟩⟩] => some (((laws_eqStringS_4_fin A C i)).map laws_eqStringS_4_out)
  | _ => .none
noncomputable def laws_eqStringS_lo : LoopTeller := fun r s => bif Nat.beq r 4 then laws_eqStringS_lo4 s else .none
theorem laws_eqStringS_4_r (A : List (List TC)) (C : List (List TC)) (i : Int) (fuel : Nat) : rounds (rnd tab FT D19 live 57 laws_eqStringS_lo 0 4) leave (fuel + 1) (laws_eqStringS_4_sl (A, C, i)) = ((laws_eqStringS_4_step A C i)).run (goOn (fun s => rounds (rnd tab FT D19 live 57 laws_eqStringS_lo 0 4) leave fuel (laws_eqStringS_4_sl s)) fun w => some (laws_eqStringS_4_out w)) := by kernel_rfl
theorem laws_eqStringS_4_h (A : List (List TC)) (C : List (List TC)) (i : Int) (ow : laws_eqStringS_4_ω) : ((laws_eqStringS_4_fin A C i)).val = some ow → ∃ fuel, loopN laws_eqStringS_4_st fuel (A, C, i) = some ow := by
  intro h
  simp only [laws_eqStringS_4_fin, Told.val] at h
  split at h
  · rename_i ho
    obtain ⟨rfl, rfl, ht⟩ := is_iff.1 ho
    cases h
    have hlen : A.length ≤ 140737488351232 := by have := typed_room ht; simp only [show (tab 9).bytes = 16 from rfl] at this; omega
    refine ⟨_, loopN_run (N := A.length) (fun i => (A, A, (i : Int))) (fun i hi => ?_) ?_ A.length 0 (by omega)⟩
    · have c0 : Typed tab (.str) (.s (nth (A.getD i []) 0).str) := typed_s (typed_cell ht (A.getD i []) (mem_getD hi) 0 (by decide))
      show (laws_eqStringS_4_step A A (i : Int)).val = _
      unfold laws_eqStringS_4_step
      refine Tr.t (by simp; omega) ?_
      refine Tr.t (by constructor <;> omega) ?_
      refine Tr.t (by constructor <;> omega) ?_
      refine Tr.n (by simp) ?_
      rw [Tr.val_ok, wrap64 (i := (i : Int) + 1) (by omega) (by omega)]; rfl
    · show (laws_eqStringS_4_step A A (A.length : Int)).val = _
      refine Tr.n (by simp) ?_
      rfl
  · cases h
theorem laws_eqStringS_is4 : LoopIs tab FT D19 live 57 laws_eqStringS_lo 0 4 := by
  refine loop_told (sl := laws_eqStringS_4_sl) (step := laws_eqStringS_4_st) (out := laws_eqStringS_4_out) (lor := laws_eqStringS_lo4) (fin := fun x => (laws_eqStringS_4_fin (x.1) (x.2.1) (x.2.2))) (fun _ => rfl) ?_ (fun x n => laws_eqStringS_4_r x.1 x.2.1 x.2.2 n) (fun x ow => laws_eqStringS_4_h x.1 x.2.1 x.2.2 ow)
  intro s t h
  unfold laws_eqStringS_lo4 at h
  split at h
  · cases h; exact ⟨(_, _, _), rfl, rfl⟩
  · cases h
noncomputable def laws_eqStringS_t (A : List (List TC)) (C : List (List TC)) : Tr (Bool) := (.ite ((!((A.length : Int) == (C.length : Int))) = true) (.ok false)
  (.ite ((laws_eqStringS_o4_1 A C (0 : Int)) = true) (.ok true)
   .no))
def laws_eqStringS_mk (p : Bool) : Res := [(false, [⟨.bool, .sh, TC.b p⟩])]
noncomputable def laws_eqStringS_c (A : List (List TC)) (C : List (List TC)) : Bool := is (A = C ∧ Typed tab (.slice 9) (.l A))
noncomputable def laws_eqStringS_v (A : List (List TC)) (C : List (List TC)) : Bool := true
theorem laws_eqStringS_l (A : List (List TC)) (C : List (List TC)) : (laws_eqStringS_c A C) = true → (laws_eqStringS_t A C).val = some (laws_eqStringS_v A C) := by
  intro h
  obtain ⟨rfl, ht⟩ := is_iff.1 h
  unfold laws_eqStringS_t
  refine Tr.n (by simp) ?_
  refine Tr.t (by first | (apply is_true; and_intros <;> (first | rfl | assumption | (apply spec_IsName_cc <;> assumption) | (apply spec_l16Ok_cc <;> assumption) | (apply spec_PutName_cc <;> assumption) | (apply impl_IsName_cc <;> assumption) | (apply impl_ValidHeap_cc <;> assumption) | (apply impl_NameHeap_put_cc <;> assumption) | (apply impl_PutName_cc <;> assumption) | (first | (apply is_true; and_intros <;> (first | rfl | assumption | (apply spec_IsName_cc <;> assumption) | (apply spec_l16Ok_cc <;> assumption) | (apply spec_PutName_cc <;> assumption) | (apply impl_IsName_cc <;> assumption) | (apply impl_ValidHeap_cc <;> assumption) | (apply impl_NameHeap_put_cc <;> assumption) | (apply impl_PutName_cc <;> assumption) | (first | (apply is_true; and_intros <;> (first | rfl | assumption | (apply spec_IsName_cc <;> assumption) | (apply spec_l16Ok_cc <;> assumption) | (apply spec_PutName_cc <;> assumption) | (apply impl_IsName_cc <;> assumption) | (apply impl_ValidHeap_cc <;> assumption) | (apply impl_NameHeap_put_cc <;> assumption) | (apply impl_PutName_cc <;> assumption) | (first | (apply is_true; and_intros <;> (first | rfl | assumption | (apply spec_IsName_cc <;> assumption) | (apply spec_l16Ok_cc <;> assumption) | (apply spec_PutName_cc <;> assumption) | (apply impl_IsName_cc <;> assumption) | (apply impl_ValidHeap_cc <;> assumption) | (apply impl_NameHeap_put_cc <;> assumption) | (apply impl_PutName_cc <;> assumption))) | (apply spec_IsName_cc <;> assumption) | (apply spec_l16Ok_cc <;> assumption) | (apply spec_PutName_cc <;> assumption) | (apply impl_IsName_cc <;> assumption) | (apply impl_ValidHeap_cc <;> assumption) | (apply impl_NameHeap_put_cc <;> assumption) | (apply impl_PutName_cc <;> assumption)))) | (apply spec_IsName_cc <;> assumption) | (apply spec_l16Ok_cc <;> assumption) | (apply spec_PutName_cc <;> assumption) | (apply impl_IsName_cc <;> assumption) | (apply impl_ValidHeap_cc <;> assumption) | (apply impl_NameHeap_put_cc <;> assumption) | (apply impl_PutName_cc <;> assumption)))) | (apply spec_IsName_cc <;> assumption) | (apply spec_l16Ok_cc <;> assumption) | (apply spec_PutName_cc <;> assumption) | (apply impl_IsName_cc <;> assumption) | (apply impl_ValidHeap_cc <;> assumption) | (apply impl_NameHeap_put_cc <;> assumption) | (apply impl_PutName_cc <;> assumption)))) | (apply spec_IsName_cc <;> assumption) | (apply spec_l16Ok_cc <;> assumption) | (apply spec_PutName_cc <;> assumption) | (apply impl_IsName_cc <;> assumption) | (apply impl_ValidHeap_cc <;> assumption) | (apply impl_NameHeap_put_cc <;> assumption) | (apply impl_PutName_cc <;> assumption)) ?_
  rfl
noncomputable def laws_eqStringS_S : List Arg → Option (Bool × Res) := fun xs => match xs with
  | [(false, [(.slice 9, TC.l A)]), (false, [(.slice 9, TC.l C)])] => some ((laws_eqStringS_c A C), laws_eqStringS_mk (laws_eqStringS_v A C))
  | _ => .none
theorem laws_eqStringS_e (A : List (List TC)) (C : List (List TC)) : runF tab FT D19 live 57 laws_eqStringS_lo [(false, [(.slice 9, TC.l A)]), (false, [(.slice 9, TC.l C)])] = (laws_eqStringS_t A C).run fun p => some (laws_eqStringS_mk p) := by kernel_rfl
theorem laws_eqStringS_s : ∀ xs r, laws_eqStringS_S xs = some (true, r) → runF tab FT D19 live 57 laws_eqStringS_lo xs = some r := by
  intro xs r h
  unfold laws_eqStringS_S at h
  split at h
  · simp only [Option.some.injEq, Prod.mk.injEq] at h
    obtain ⟨h1, rfl⟩ := h
    exact fun_told (laws_eqStringS_e _ _) (laws_eqStringS_l _ _) h1
  · cases h
noncomputable def D20 : Dt := also D19 57 laws_eqStringS_S
theorem d20 : DOk Go.Proofs.Try.prog tab D20 := d19.also mixed_ok tab_ok names_ok (fnLoops_one (by kernel_rfl) laws_eqStringS_is4) laws_eqStringS_s
/-! laws_eqNameHeap -/
noncomputable def laws_eqNameHeap_t (x0 : List (List TC)) (y0 : List (List TC)) : Tr (Bool) := (.ite ((laws_eqStringS_c x0 y0) = true) (.ite ((!(laws_eqStringS_v x0 y0)) = true) (.ok false)
   (.ok true))
  .no)
def laws_eqNameHeap_mk (p : Bool) : Res := [(false, [⟨.bool, .sh, TC.b p⟩])]
noncomputable def laws_eqNameHeap_c (x0 : List (List TC)) (y0 : List (List TC)) : Bool := is (x0 = y0 ∧ Typed tab (.slice 9) (.l x0))
noncomputable def laws_eqNameHeap_v (x0 : List (List TC)) (y0 : List (List TC)) : Bool := true
theorem laws_eqNameHeap_l (x0 : List (List TC)) (y0 : List (List TC)) : (laws_eqNameHeap_c x0 y0) = true → (laws_eqNameHeap_t x0 y0).val = some (laws_eqNameHeap_v x0 y0) := by
  intro h
  obtain ⟨rfl, t0⟩ := is_iff.1 h
  unfold laws_eqNameHeap_t
  refine Tr.t (by first | (apply is_true; and_intros <;> (first | rfl | assumption | (apply spec_IsName_cc <;> assumption) | (apply spec_l16Ok_cc <;> assumption) | (apply spec_PutName_cc <;> assumption) | (apply impl_IsName_cc <;> assumption) | (apply impl_ValidHeap_cc <;> assumption) | (apply impl_NameHeap_put_cc <;> assumption) | (apply impl_PutName_cc <;> assumption) | (first | (apply is_true; and_intros <;> (first | rfl | assumption | (apply spec_IsName_cc <;> assumption) | (apply spec_l16Ok_cc <;> assumption) | (apply spec_PutName_cc <;> assumption) | (apply impl_IsName_cc <;> assumption) | (apply impl_ValidHeap_cc <;> assumption) | (apply impl_NameHeap_put_cc <;> assumption) | (apply impl_PutName_cc <;> assumption) | (first | (apply is_true; and_intros <;> (first | rfl | assumption | (apply spec_IsName_cc <;> assumption) | (apply spec_l16Ok_cc <;> assumption) | (apply spec_PutName_cc <;> assumption) | (apply impl_IsName_cc <;> assumption) | (apply impl_ValidHeap_cc <;> assumption) | (apply impl_NameHeap_put_cc <;> assumption) | (apply impl_PutName_cc <;> assumption) | (first | (apply is_true; and_intros <;> (first | rfl | assumption | (apply spec_IsName_cc <;> assumption) | (apply spec_l16Ok_cc <;> assumption) | (apply spec_PutName_cc <;> assumption) | (apply impl_IsName_cc <;> assumption) | (apply impl_ValidHeap_cc <;> assumption) | (apply impl_NameHeap_put_cc <;> assumption) | (apply impl_PutName_cc <;> assumption))) | (apply spec_IsName_cc <;> assumption) | (apply spec_l16Ok_cc <;> assumption) | (apply spec_PutName_cc <;> assumption) | (apply impl_IsName_cc <;> assumption) | (apply impl_ValidHeap_cc <;> assumption) | (apply impl_NameHeap_put_cc <;> assumption) | (apply impl_PutName_cc <;> assumption)))) | (apply spec_IsName_cc <;> assumption) | (apply spec_l16Ok_cc <;> assumption) | (apply spec_PutName_cc <;> assumption) | (apply impl_IsName_cc <;> assumption) | (apply impl_ValidHeap_cc <;> assumption) | (apply impl_NameHeap_put_cc <;> assumption) | (apply impl_PutName_cc <;> assumption)))) | (apply spec_IsName_cc <;> assumption) | (apply spec_l16Ok_cc <;> assumption) | (apply spec_PutName_cc <;> assumption) | (apply impl_IsName_cc <;> assumption) | (apply impl_ValidHeap_cc <;> assumption) | (apply impl_NameHeap_put_cc <;> assumption) | (apply impl_PutName_cc <;> assumption)))) | (apply spec_IsName_cc <;> assumption) | (apply spec_l16Ok_cc <;> assumption) | (apply spec_PutName_cc <;> assumption) | (apply impl_IsName_cc <;> assumption) | (apply impl_ValidHeap_cc <;> assumption) | (apply impl_NameHeap_put_cc <;> assumption) | (apply impl_PutName_cc <;> assumption)) ?_
  refine Tr.n (by simp [laws_eqStringS_v]) ?_
  rfl
noncomputable def laws_eqNameHeap_S : List Arg → Option (Bool × Res) := fun xs => match xs with
  | [(true, [(.slice 9, TC.l x0)]), (true, [(.slice 9, TC.l y0)])] => some ((laws_eqNameHeap_c x0 y0), laws_eqNameHeap_mk (laws_eqNameHeap_v x0 y0))
  | _ => .none
theorem laws_eqNameHeap_e (x0 : List (List TC)) (y0 : List (List TC)) : runF tab FT D20 live 18 noLoops [(true, [(.slice 9, TC.l x0)]), (true, [(.slice 9, TC.l y0)])] = (laws_eqNameHeap_t x0 y0).run fun p => some (laws_eqNameHeap_mk p) := by kernel_rfl
theorem laws_eqNameHeap_s : ∀ xs r, laws_eqNameHeap_S xs = some (true, r) → runF tab FT D20 live 18 noLoops xs = some r := by
  intro xs r h
  unfold laws_eqNameHeap_S at h
  split at h
  · simp only [Option.some.injEq, Prod.mk.injEq] at h
    obtain ⟨h1, rfl⟩ := h
    exact fun_told (laws_eqNameHeap_e _ _) (laws_eqNameHeap_l _ _) h1
  · cases h
noncomputable def D21 : Dt := also D20 18 laws_eqNameHeap_S
theorem d21 : DOk Go.Proofs.Try.prog tab D21 := d20.also mixed_ok tab_ok names_ok noLoops_ok laws_eqNameHeap_s
/-! laws_markText -/
abbrev laws_markText_4_σ := Int × List UInt8
abbrev laws_markText_4_ω := (List UInt8)
noncomputable def laws_markText_4_step (k : Int) (s : List UInt8) : Tr (laws_markText_4_σ ⊕ laws_markText_4_ω) := (.ite ((decide (k > (0 : Int))) = true) (.ite (((([[TC.i (IntKind.wrap .u8 (IntKind.wrap .i64 ((48 : Int) + (Int.tmod k (10 : Int)))))]].map byteOf).length + s.length : Nat) : Int) ≤ 9223372036854775807) (.ok (.inl ((IntKind.wrap .i64 (Int.tdiv k (10 : Int))), (([[TC.i (IntKind.wrap .u8 (IntKind.wrap .i64 ((48 : Int) + (Int.tmod k (10 : Int)))))]].map byteOf) ++ s))))
   .no)
  (.ok (.inr s)))
noncomputable def laws_markText_4_st : laws_markText_4_σ → Tr (laws_markText_4_σ ⊕ laws_markText_4_ω) := fun x => (laws_markText_4_step (x.1) (x.2))
noncomputable def laws_markText_o4_1 (k : Int) (s : List UInt8) : Bool := is (0 ≤ k ∧ k ≤ 4611686018427387904 ∧ s.length ≤ 16)
noncomputable def laws_markText_u4_1 (k : Int) (s : List UInt8) : List UInt8 := digitsF digT 19 k s
noncomputable def laws_markText_4_fin (k : Int) (s : List UInt8) : Told laws_markText_4_ω := (.leaf (laws_markText_o4_1 k s) (laws_markText_u4_1 k s))
def laws_markText_4_sl (x : laws_markText_4_σ) : List Slot := [⟨.val false [⟨.int .i64, .sh, TC.i (x.1)⟩], ⟨0, 0⟩⟩, ⟨.val false [⟨.str, .sh, TC.s (x.2)⟩], ⟨0, 0⟩⟩]
def laws_markText_4_out : laws_markText_4_ω → Ex × List Slot := (fun x => (.exit 0, [Slot.none, ⟨.val false [⟨.str, .sh, TC.s x⟩], ⟨0, 0⟩⟩]))
noncomputable def laws_markText_lo4 : List Slot → Option (Told (Ex × List Slot)) := fun s => match s with
  | [⟨.val false [⟨.int .i64, .sh, TC.i k⟩], ⟨0, 0⟩⟩, ⟨.val false [⟨.str, .sh, TC.s s⟩], ⟨0, 0⟩⟩] => some (((laws_markText_4_fin k s)).map laws_markText_4_out)
  | _ => .none
noncomputable def laws_markText_lo : LoopTeller := fun r s => bif Nat.beq r 4 then laws_markText_lo4 s else .none
theorem laws_markText_4_r (k : Int) (s : List UInt8) (fuel : Nat) : rounds (rnd tab FT D21 live 107 laws_markText_lo 0 4) leave (fuel + 1) (laws_markText_4_sl (k, s)) = ((laws_markText_4_step k s)).run (goOn (fun s => rounds (rnd tab FT D21 live 107 laws_markText_lo 0 4) leave fuel (laws_markText_4_sl s)) fun w => some (laws_markText_4_out w)) := by kernel_rfl
theorem laws_markText_4_h (k : Int) (s : List UInt8) (ow : laws_markText_4_ω) : ((laws_markText_4_fin k s)).val = some ow → ∃ fuel, loopN laws_markText_4_st fuel (k, s) = some ow := by
  intro h
  refine auto_leaf (R := digitsF digT 19 k s) (fun ho => ?_) h
  obtain ⟨h0, h1, h2⟩ := is_iff.1 ho
  refine ⟨20, loopN_digits (step := laws_markText_4_st) digT digT_len (fun k s => (k, s)) (fun s => s) 4611686018427387904 (fun k s h0 h1 h2 => ?_) (fun k s h0 => ?_) 19 k s (by have : (10 : Int) ^ 19 = 10000000000000000000 := rfl; omega) h1 (by omega)⟩
  · show (laws_markText_4_step k s).val = _
    unfold laws_markText_4_step
    refine Tr.t (by simpa using h0) ?_
    refine Tr.t (by simp only [List.length_map, List.length_singleton]; omega) ?_
    rw [Tr.val_ok, tdiv10 (by omega) (by omega)]
    rfl
  · show (laws_markText_4_step k s).val = _
    unfold laws_markText_4_step
    refine Tr.n (by simpa using h0) ?_
    rfl
theorem laws_markText_is4 : LoopIs tab FT D21 live 107 laws_markText_lo 0 4 := by
  refine loop_told (sl := laws_markText_4_sl) (step := laws_markText_4_st) (out := laws_markText_4_out) (lor := laws_markText_lo4) (fin := fun x => (laws_markText_4_fin (x.1) (x.2))) (fun _ => rfl) ?_ (fun x n => laws_markText_4_r x.1 x.2 n) (fun x ow => laws_markText_4_h x.1 x.2 ow)
  intro s t h
  unfold laws_markText_lo4 at h
  split at h
  · cases h; exact ⟨(_, _), rfl, rfl⟩
  · cases h
noncomputable def laws_markText_t (k : Int) : Tr (List UInt8) := (.ite ((decide (k ≤ (0 : Int))) = true) (.ok ([109, 48]))
  (.ite ((laws_markText_o4_1 k []) = true) (.ite ((([109].length + (laws_markText_u4_1 k []).length : Nat) : Int) ≤ 9223372036854775807) (.ok ([109] ++ (laws_markText_u4_1 k [])))
    .no)
   .no))
def laws_markText_mk (p : List UInt8) : Res := [(false, [⟨.str, .sh, TC.s p⟩])]
noncomputable def laws_markText_c (k : Int) : Bool := (bif (decide (k ≤ (0 : Int))) then true else ((laws_markText_o4_1 k []) && (is ((([109].length + (laws_markText_u4_1 k []).length : Nat) : Int) ≤ 9223372036854775807) && true)))
noncomputable def laws_markText_v (k : Int) : List UInt8 := hid ((bif (decide (k ≤ (0 : Int))) then [109, 48] else ([109] ++ (laws_markText_u4_1 k []))))
theorem laws_markText_l (k : Int) : (laws_markText_c k) = true → (laws_markText_t k).val = some (laws_markText_v k) := by
  unfold laws_markText_t laws_markText_v laws_markText_c
  rw [hid_eq]
  exact fun h => (Tr.ss h (fun h => rfl) (fun h => (Tr.gb h fun h => (Tr.gs h fun h => rfl))))
noncomputable def laws_markText_S : List Arg → Option (Bool × Res) := fun xs => match xs with
  | [(false, [(.int .i64, TC.i k)])] => some ((laws_markText_c k), laws_markText_mk (laws_markText_v k))
  | _ => .none
theorem laws_markText_e (k : Int) : runF tab FT D21 live 107 laws_markText_lo [(false, [(.int .i64, TC.i k)])] = (laws_markText_t k).run fun p => some (laws_markText_mk p) := by kernel_rfl
theorem laws_markText_s : ∀ xs r, laws_markText_S xs = some (true, r) → runF tab FT D21 live 107 laws_markText_lo xs = some r := by
  intro xs r h
  unfold laws_markText_S at h
  split at h
  · simp only [Option.some.injEq, Prod.mk.injEq] at h
    obtain ⟨h1, rfl⟩ := h
    exact fun_told (laws_markText_e _) (laws_markText_l _) h1
  · cases h
noncomputable def D22 : Dt := also D21 107 laws_markText_S
theorem d22 : DOk Go.Proofs.Try.prog tab D22 := d21.also mixed_ok tab_ok names_ok (fnLoops_one (by kernel_rfl) laws_markText_is4) laws_markText_s
theorem laws_markText_cc {k : Int} (h0 : 0 ≤ k) (h1 : k ≤ 4611686018427387904) : (laws_markText_c k) = true := by
  unfold laws_markText_c
  refine bifT (fun b1 => ?_) (fun b1 => ?_)
  · skip
    rfl
  · skip
    refine andT (by exact is_true ⟨h0, h1, by decide⟩) ?_
    refine andT (is_true (by have := digitsF_len digT_len 19 k []; simp only [laws_markText_u4_1, List.length_cons, List.length_nil] at *; omega)) ?_
    rfl
/-! laws_markStringS -/
noncomputable def mkR_9 (k : Int) : List TC := [TC.s (laws_markText_v k)]
theorem mkR_9_len (k : Int) : (mkR_9 k).length = 1 := rfl
noncomputable def mkL_9 (k : Int) (n : Nat) : List (List TC) := madeL (fun i => mkR_9 (k + 1 * (i : Int))) n
theorem mkL_9_length {k : Int} {n : Nat} : (mkL_9 k n).length = n := madeL_length
abbrev laws_markStringS_2_σ := Int × Int × List (List TC)
abbrev laws_markStringS_2_ω := (Int × List (List TC))
noncomputable def laws_markStringS_2_step (k : Int) (i : Int) (A : List (List TC)) : Tr (laws_markStringS_2_σ ⊕ laws_markStringS_2_ω) := (.ite ((decide (i < (A.length : Int))) = true) (.ite ((laws_markText_c k) = true) (.ite ((0 : Int) ≤ i ∧ i < (A.length : Int)) (.ok (.inl ((IntKind.wrap .i64 (k + (1 : Int))), (IntKind.wrap .i64 (i + (1 : Int))), (A.set (i).toNat (splice (row A i) 0 [TC.s (laws_markText_v k)])))))
    .no)
   .no)
  (.ok (.inr (k, A))))
noncomputable def laws_markStringS_2_st : laws_markStringS_2_σ → Tr (laws_markStringS_2_σ ⊕ laws_markStringS_2_ω) := fun x => (laws_markStringS_2_step (x.1) (x.2.1) (x.2.2))
noncomputable def laws_markStringS_o2_1 (k : Int) (i : Int) (A : List (List TC)) : Bool := is ((∀ x, x ∈ A → x.length = 1) ∧ A.length ≤ 140737488351232 ∧ 0 ≤ k ∧ k ≤ 2305843009213693952 ∧ i = 0)
noncomputable def laws_markStringS_u2_1_0 (k : Int) (i : Int) (A : List (List TC)) : Int := k + 1 * (A.length : Int)
noncomputable def laws_markStringS_u2_1_1 (k : Int) (i : Int) (A : List (List TC)) : List (List TC) := mkL_9 k A.length
noncomputable def laws_markStringS_2_fin (k : Int) (i : Int) (A : List (List TC)) : Told laws_markStringS_2_ω := (.leaf (laws_markStringS_o2_1 k i A) ((laws_markStringS_u2_1_0 k i A), (laws_markStringS_u2_1_1 k i A)))
def laws_markStringS_2_sl (x : laws_markStringS_2_σ) : List Slot := [⟨.gal false 0 1, ⟨0, 0⟩⟩, ⟨.val false [⟨.int .i64, .sh, TC.i (x.1)⟩], ⟨0, 0⟩⟩, ⟨.val false [⟨.int .i64, .sh, TC.i (x.2.1)⟩], ⟨0, 0⟩⟩, ⟨.gv [⟨.slice 9, .own true, TC.l (x.2.2)⟩], ⟨0, 0⟩⟩]
def laws_markStringS_2_out : laws_markStringS_2_ω → Ex × List Slot := (fun x => (.exit 0, [⟨.val false [⟨.int .i64, .sh, TC.i (x.1)⟩], ⟨0, 0⟩⟩, Slot.none, ⟨.gv [⟨.slice 9, .own true, TC.l (x.2)⟩], ⟨0, 0⟩⟩]))
noncomputable def laws_markStringS_lo2 : List Slot → Option (Told (Ex × List Slot)) := fun s => match s with
  | [⟨.gal false 0 1, ⟨0, 0⟩⟩, ⟨.val false [⟨.int .i64, .sh, TC.i k⟩], ⟨0, 0⟩⟩, ⟨.val false [⟨.int .i64, .sh, TC.i i⟩], ⟨0, 0⟩⟩, ⟨.gv [⟨.slice 9, .own true, TC.l A⟩], ⟨0, 0⟩⟩] => some (((laws_markStringS_2_fin k i A)).map laws_markStringS_2_out)
  | _ => .none
noncomputable def laws_markStringS_lo : LoopTeller := fun r s => bif Nat.beq r 2 then laws_markStringS_lo2 s else .none
theorem laws_markStringS_2_r (k : Int) (i : Int) (A : List (List TC)) (fuel : Nat) : rounds (rnd tab FT D22 live 58 laws_markStringS_lo 0 2) leave (fuel + 1) (laws_markStringS_2_sl (k, i, A)) = ((laws_markStringS_2_step k i A)).run (goOn (fun s => rounds (rnd tab FT D22 live 58 laws_markStringS_lo 0 2) leave fuel (laws_markStringS_2_sl s)) fun w => some (laws_markStringS_2_out w)) := by kernel_rfl
theorem laws_markStringS_2_h (k : Int) (i : Int) (A : List (List TC)) (ow : laws_markStringS_2_ω) : ((laws_markStringS_2_fin k i A)).val = some ow → ∃ fuel, loopN laws_markStringS_2_st fuel (k, i, A) = some ow := by
  intro h
  refine auto_leaf (R := (k + 1 * (A.length : Int), mkL_9 k A.length)) (fun ho => ?_) h
  obtain ⟨hr, hl, h0, h1, rfl⟩ := is_iff.1 ho
  have key := loopN_over (step := laws_markStringS_2_st) A 1 (fun i => mkR_9 (k + 1 * (i : Int))) (fun Y i => (k + 1 * (i : Int), (i : Int), Y)) (k + 1 * (A.length : Int), mkL_9 k A.length) hr (fun _ => rfl) (fun Y i hi hY hy => ?_) ?_ A.length 0 (by omega)
  · exact ⟨A.length + 1, Eq.trans (congrArg (loopN laws_markStringS_2_st (A.length + 1)) (by simp [madeL])) key⟩
  · obtain ⟨kk, hkk⟩ : ∃ kk : Int, kk = k + 1 * (i : Int) := ⟨_, rfl⟩
    have hk0 : 0 ≤ kk := by omega
    have hk1 : kk + 1 ≤ 4611686018427387904 := by omega
    have hy : ∃ y0, row Y (i : Int) = [y0] := len_1 hy
    obtain ⟨y0, hy⟩ := hy
    have hiY : i < Y.length := by omega
    show (laws_markStringS_2_step (k + 1 * (i : Int)) (i : Int) Y).val = _
    rw [← hkk]
    unfold laws_markStringS_2_step
    rw [wrap64 (i := kk + 1) (by omega) (by omega)]
    try rw [wrap64 (i := kk) (by omega) (by omega)]
    refine Tr.t (by simp; omega) ?_
    refine Tr.t (laws_markText_cc (by omega) (by omega)) ?_
    refine Tr.t (by constructor <;> (try simp only [List.length_set]) <;> omega) ?_
    rw [Tr.val_ok, wrap64 (i := (i : Int) + 1) (by omega) (by omega)]
    simp only [Int.toNat_natCast, hy, row_set, List.length_set, hiY, List.set_set]
    show some (Sum.inl (_, _, _)) = some (Sum.inl (_, _, _))
    rw [show k + 1 * ((i + 1 : Nat) : Int) = kk + 1 from by omega]
    rfl
  · show (laws_markStringS_2_step (k + 1 * (A.length : Int)) (A.length : Int) (mkL_9 k A.length)).val = _
    unfold laws_markStringS_2_step
    refine Tr.n (by simp [mkL_9_length]) ?_
    rfl
theorem laws_markStringS_is2 : LoopIs tab FT D22 live 58 laws_markStringS_lo 0 2 := by
  refine loop_told (sl := laws_markStringS_2_sl) (step := laws_markStringS_2_st) (out := laws_markStringS_2_out) (lor := laws_markStringS_lo2) (fin := fun x => (laws_markStringS_2_fin (x.1) (x.2.1) (x.2.2))) (fun _ => rfl) ?_ (fun x n => laws_markStringS_2_r x.1 x.2.1 x.2.2 n) (fun x ow => laws_markStringS_2_h x.1 x.2.1 x.2.2 ow)
  intro s t h
  unfold laws_markStringS_lo2 at h
  split at h
  · cases h; exact ⟨(_, _, _), rfl, rfl⟩
  · cases h
noncomputable def laws_markStringS_t (A : List (List TC)) (k : Int) : Tr (List (List TC) × Int) := (.ite ((laws_markStringS_o2_1 k (0 : Int) A) = true) (.ok ((laws_markStringS_u2_1_1 k (0 : Int) A), (laws_markStringS_u2_1_0 k (0 : Int) A)))
  .no)
def laws_markStringS_mk (p : List (List TC) × Int) : Res := [(true, [⟨.slice 9, .own true, TC.l (p.1)⟩]), (false, [⟨.int .i64, .sh, TC.i (p.2)⟩])]
noncomputable def laws_markStringS_c (A : List (List TC)) (k : Int) : Bool := is ((∀ x, x ∈ A → x.length = 1) ∧ A.length ≤ 140737488351232 ∧ 0 ≤ k ∧ k ≤ 2305843009213693952)
noncomputable def laws_markStringS_v (A : List (List TC)) (k : Int) : List (List TC) × Int := (mkL_9 k A.length, k + 1 * (A.length : Int))
theorem laws_markStringS_l (A : List (List TC)) (k : Int) : (laws_markStringS_c A k) = true → (laws_markStringS_t A k).val = some (laws_markStringS_v A k) := by
  intro h
  obtain ⟨hr, hl, h0, h1⟩ := is_iff.1 h
  unfold laws_markStringS_t
  exact Tr.t (is_true ⟨hr, hl, h0, h1, rfl⟩) rfl
noncomputable def laws_markStringS_S : List Arg → Option (Bool × Res) := fun xs => match xs with
  | [(false, [(.slice 9, TC.l A)]), (false, [(.int .i64, TC.i k)])] => some ((laws_markStringS_c A k), laws_markStringS_mk (laws_markStringS_v A k))
  | _ => .none
theorem laws_markStringS_e (A : List (List TC)) (k : Int) : runFW false tab FT D22 live 58 laws_markStringS_lo (false, [(.slice 9, TC.l A)]) [(false, [(.int .i64, TC.i k)])] = (laws_markStringS_t A k).run fun p => some (laws_markStringS_mk p) := by kernel_rfl
theorem laws_markStringS_s0 : ∀ ys r, laws_markStringS_S ys = some (true, r) → ∀ a0 xs, ys = a0 :: xs → runFW false tab FT D22 live 58 laws_markStringS_lo a0 xs = some r := by
  intro ys r h
  unfold laws_markStringS_S at h
  split at h
  · simp only [Option.some.injEq, Prod.mk.injEq] at h
    obtain ⟨h1, rfl⟩ := h
    intro a0 xs e
    cases e
    exact fun_toldW (laws_markStringS_e _ _) (laws_markStringS_l _ _) h1
  · cases h
theorem laws_markStringS_s : ∀ a0 xs r, laws_markStringS_S (a0 :: xs) = some (true, r) → runFW false tab FT D22 live 58 laws_markStringS_lo a0 xs = some r := fun a0 xs r h => laws_markStringS_s0 _ r h a0 xs rfl
noncomputable def D23 : Dt := alsoW D22 58 laws_markStringS_S
theorem d23 : DOk Go.Proofs.Try.prog tab D23 := d22.alsoW mixed_ok tab_ok names_ok (fnLoops_one (by kernel_rfl) laws_markStringS_is2) laws_markStringS_s
theorem laws_markStringS_cc {A : List (List TC)} {k : Int} (ht : Typed tab (.slice 9) (.l A)) (hl : A.length ≤ 140737488351232) (h0 : 0 ≤ k) (h1 : k ≤ 2305843009213693952) : laws_markStringS_c A k = true := is_true ⟨typed_rows ht rfl, hl, h0, h1⟩
theorem laws_markStringS_v2 {A : List (List TC)} {k : Int} : (laws_markStringS_v A k).2 = k + 1 * (A.length : Int) := rfl
/-! laws_markNameHeap -/
noncomputable def laws_markNameHeap_t (a0 : List (List TC)) (a1 : Int) : Tr (List (List TC) × Int) := (.ite ((laws_markStringS_c a0 a1) = true) (.ok ((laws_markStringS_v a0 a1).1, (laws_markStringS_v a0 a1).2))
  .no)
def laws_markNameHeap_mk (p : List (List TC) × Int) : Res := [(true, [⟨.slice 9, .own true, TC.l (p.1)⟩]), (false, [⟨.int .i64, .sh, TC.i (p.2)⟩])]
noncomputable def laws_markNameHeap_c (a0 : List (List TC)) (a1 : Int) : Bool := (laws_markStringS_c a0 a1)
noncomputable def laws_markNameHeap_v (a0 : List (List TC)) (a1 : Int) : List (List TC) × Int := ((laws_markStringS_v a0 a1).1, (laws_markStringS_v a0 a1).2)
theorem laws_markNameHeap_l (a0 : List (List TC)) (a1 : Int) : (laws_markNameHeap_c a0 a1) = true → (laws_markNameHeap_t a0 a1).val = some (laws_markNameHeap_v a0 a1) := by
  intro h
  have hc0 : (laws_markStringS_c a0 a1) = true := h
  unfold laws_markNameHeap_t
  exact (Tr.t hc0 rfl)
noncomputable def laws_markNameHeap_S : List Arg → Option (Bool × Res) := fun xs => match xs with
  | [(true, [(.slice 9, TC.l a0)]), (false, [(.int .i64, TC.i a1)])] => some ((laws_markNameHeap_c a0 a1), laws_markNameHeap_mk (laws_markNameHeap_v a0 a1))
  | _ => .none
theorem laws_markNameHeap_e (a0 : List (List TC)) (a1 : Int) : runFW false tab FT D23 live 19 noLoops (true, [(.slice 9, TC.l a0)]) [(false, [(.int .i64, TC.i a1)])] = (laws_markNameHeap_t a0 a1).run fun p => some (laws_markNameHeap_mk p) := by kernel_rfl
theorem laws_markNameHeap_s0 : ∀ ys r, laws_markNameHeap_S ys = some (true, r) → ∀ a0 xs, ys = a0 :: xs → runFW false tab FT D23 live 19 noLoops a0 xs = some r := by
  intro ys r h
  unfold laws_markNameHeap_S at h
  split at h
  · simp only [Option.some.injEq, Prod.mk.injEq] at h
    obtain ⟨h1, rfl⟩ := h
    intro a0 xs e
    cases e
    exact fun_toldW (laws_markNameHeap_e _ _) (laws_markNameHeap_l _ _) h1
  · cases h
theorem laws_markNameHeap_s : ∀ a0 xs r, laws_markNameHeap_S (a0 :: xs) = some (true, r) → runFW false tab FT D23 live 19 noLoops a0 xs = some r := fun a0 xs r h => laws_markNameHeap_s0 _ r h a0 xs rfl
noncomputable def D24 : Dt := alsoW D23 19 laws_markNameHeap_S
theorem d24 : DOk Go.Proofs.Try.prog tab D24 := d23.alsoW mixed_ok tab_ok names_ok noLoops_ok laws_markNameHeap_s
/-! laws_heldStringS -/
abbrev laws_heldStringS_2_σ := List (List TC) × Int × Int
abbrev laws_heldStringS_2_ω := (Int) ⊕ (Int)
noncomputable def laws_heldStringS_2_step (A : List (List TC)) (k : Int) (i : Int) : Tr (laws_heldStringS_2_σ ⊕ laws_heldStringS_2_ω) := (.ite ((decide (i < (A.length : Int))) = true) (.ite ((0 : Int) ≤ i ∧ i < (A.length : Int)) (.ite ((laws_markText_c k) = true) (.ite ((!((nth (row A i) 0).str == (laws_markText_v k))) = true) (.ok (.inr (.inl k)))
     (.ok (.inl (A, (IntKind.wrap .i64 (k + (1 : Int))), (IntKind.wrap .i64 (i + (1 : Int)))))))
    .no)
   .no)
  (.ok (.inr (.inr k))))
noncomputable def laws_heldStringS_2_st : laws_heldStringS_2_σ → Tr (laws_heldStringS_2_σ ⊕ laws_heldStringS_2_ω) := fun x => (laws_heldStringS_2_step (x.1) (x.2.1) (x.2.2))
noncomputable def laws_heldStringS_o2_1 (A : List (List TC)) (k : Int) (i : Int) : Bool := is (A = mkL_9 k A.length ∧ A.length ≤ 140737488351232 ∧ 0 ≤ k ∧ k ≤ 2305843009213693952 ∧ i = 0)
noncomputable def laws_heldStringS_u2_1 (A : List (List TC)) (k : Int) (i : Int) : Int := k + 1 * (A.length : Int)
noncomputable def laws_heldStringS_2_fin (A : List (List TC)) (k : Int) (i : Int) : Told laws_heldStringS_2_ω := (.leaf (laws_heldStringS_o2_1 A k i) (.inr (laws_heldStringS_u2_1 A k i)))
def laws_heldStringS_2_sl (x : laws_heldStringS_2_σ) : List Slot := [⟨.val false [⟨.slice 9, .sh, TC.l (x.1)⟩], ⟨0, 0⟩⟩, ⟨.val false [⟨.int .i64, .sh, TC.i (x.2.1)⟩], ⟨0, 0⟩⟩, ⟨.val false [⟨.int .i64, .sh, TC.i (x.2.2)⟩], ⟨0, 0⟩⟩]
def laws_heldStringS_2_out : laws_heldStringS_2_ω → Ex × List Slot := (Sum.elim (fun x => (.ret, [⟨.val false [⟨.int .i64, .sh, TC.i x⟩], ⟨0, 0⟩⟩, ⟨.val false [⟨.int .i64, .sh, TC.i (-1 : Int)⟩], ⟨0, 0⟩⟩])) (fun x => (.exit 0, [⟨.val false [⟨.int .i64, .sh, TC.i x⟩], ⟨0, 0⟩⟩, Slot.none])))
noncomputable def laws_heldStringS_lo2 : List Slot → Option (Told (Ex × List Slot)) := fun s => match s with
  | [⟨.val false [⟨.slice 9, .sh, TC.l A⟩], ⟨0, 0⟩⟩, ⟨.val false [⟨.int .i64, .sh, TC.i k⟩], ⟨0, 0⟩⟩, ⟨.val false [⟨.int .i64, .sh, TC.i i⟩], ⟨0, 0⟩⟩] => some (((laws_heldStringS_2_fin A k i)).map laws_heldStringS_2_out)
  | _ => .none
noncomputable def laws_heldStringS_lo : LoopTeller := fun r s => bif Nat.beq r 2 then laws_heldStringS_lo2 s else .none
theorem laws_heldStringS_2_r (A : List (List TC)) (k : Int) (i : Int) (fuel : Nat) : rounds (rnd tab FT D24 live 59 laws_heldStringS_lo 0 2) leave (fuel + 1) (laws_heldStringS_2_sl (A, k, i)) = ((laws_heldStringS_2_step A k i)).run (goOn (fun s => rounds (rnd tab FT D24 live 59 laws_heldStringS_lo 0 2) leave fuel (laws_heldStringS_2_sl s)) fun w => some (laws_heldStringS_2_out w)) := by kernel_rfl
theorem laws_heldStringS_2_h (A : List (List TC)) (k : Int) (i : Int) (ow : laws_heldStringS_2_ω) : ((laws_heldStringS_2_fin A k i)).val = some ow → ∃ fuel, loopN laws_heldStringS_2_st fuel (A, k, i) = some ow := by
  intro h
  refine auto_leaf (R := Sum.inr (k + 1 * (A.length : Int))) (fun ho => ?_) h
  obtain ⟨hA, hl, h0, h1, rfl⟩ := is_iff.1 ho
  have key := loopN_run (step := laws_heldStringS_2_st) (N := A.length) (w := Sum.inr (k + 1 * (A.length : Int))) (fun i => (A, k + 1 * (i : Int), (i : Int))) (fun i hi => ?_) ?_ A.length 0 (by omega)
  · exact ⟨A.length + 1, Eq.trans (congrArg (loopN laws_heldStringS_2_st (A.length + 1)) (by simp)) key⟩
  · obtain ⟨kk, hkk⟩ : ∃ kk : Int, kk = k + 1 * (i : Int) := ⟨_, rfl⟩
    have hk0 : 0 ≤ kk := by omega
    have hk1 : kk + 1 ≤ 4611686018427387904 := by omega
    have hrow : row A (i : Int) = mkR_9 kk := by
      rw [hA]
      unfold mkL_9
      rw [row_madeL hi, hkk]
    show (laws_heldStringS_2_step A (k + 1 * (i : Int)) (i : Int)).val = _
    rw [← hkk]
    unfold laws_heldStringS_2_step
    rw [hrow]
    rw [wrap64 (i := kk + 1) (by omega) (by omega)]
    try rw [wrap64 (i := kk) (by omega) (by omega)]
    refine Tr.t (by simp; omega) ?_
    refine Tr.t (by constructor <;> omega) ?_
    refine Tr.t (laws_markText_cc (by omega) (by omega)) ?_
    refine Tr.n (by simp [nth, mkR_9, TC.str, TC.int, TC.bool]) ?_
    rw [Tr.val_ok, wrap64 (i := (i : Int) + 1) (by omega) (by omega)]
    show some (Sum.inl (_, _, _)) = some (Sum.inl (_, _, _))
    rw [show k + 1 * ((i + 1 : Nat) : Int) = kk + 1 from by omega]
    rfl
  · show (laws_heldStringS_2_step A (k + 1 * (A.length : Int)) (A.length : Int)).val = _
    unfold laws_heldStringS_2_step
    refine Tr.n (by simp) ?_
    rfl
theorem laws_heldStringS_is2 : LoopIs tab FT D24 live 59 laws_heldStringS_lo 0 2 := by
  refine loop_told (sl := laws_heldStringS_2_sl) (step := laws_heldStringS_2_st) (out := laws_heldStringS_2_out) (lor := laws_heldStringS_lo2) (fin := fun x => (laws_heldStringS_2_fin (x.1) (x.2.1) (x.2.2))) (fun _ => rfl) ?_ (fun x n => laws_heldStringS_2_r x.1 x.2.1 x.2.2 n) (fun x ow => laws_heldStringS_2_h x.1 x.2.1 x.2.2 ow)
  intro s t h
  unfold laws_heldStringS_lo2 at h
  split at h
  · cases h; exact ⟨(_, _, _), rfl, rfl⟩
  · cases h
noncomputable def laws_heldStringS_t (A : List (List TC)) (k : Int) : Tr (Int) := (.ite ((laws_heldStringS_o2_1 A k (0 : Int)) = true) (.ok (laws_heldStringS_u2_1 A k (0 : Int)))
  .no)
def laws_heldStringS_mk (p : Int) : Res := [(false, [⟨.int .i64, .sh, TC.i p⟩])]
noncomputable def laws_heldStringS_c (A : List (List TC)) (k : Int) : Bool := is (A = mkL_9 k A.length ∧ A.length ≤ 140737488351232 ∧ 0 ≤ k ∧ k ≤ 2305843009213693952)
noncomputable def laws_heldStringS_v (A : List (List TC)) (k : Int) : Int := k + 1 * (A.length : Int)
theorem laws_heldStringS_l (A : List (List TC)) (k : Int) : (laws_heldStringS_c A k) = true → (laws_heldStringS_t A k).val = some (laws_heldStringS_v A k) := by
  intro h
  obtain ⟨hr, hl, h0, h1⟩ := is_iff.1 h
  unfold laws_heldStringS_t
  exact Tr.t (is_true ⟨hr, hl, h0, h1, rfl⟩) rfl
noncomputable def laws_heldStringS_S : List Arg → Option (Bool × Res) := fun xs => match xs with
  | [(false, [(.slice 9, TC.l A)]), (false, [(.int .i64, TC.i k)])] => some ((laws_heldStringS_c A k), laws_heldStringS_mk (laws_heldStringS_v A k))
  | _ => .none
theorem laws_heldStringS_e (A : List (List TC)) (k : Int) : runF tab FT D24 live 59 laws_heldStringS_lo [(false, [(.slice 9, TC.l A)]), (false, [(.int .i64, TC.i k)])] = (laws_heldStringS_t A k).run fun p => some (laws_heldStringS_mk p) := by kernel_rfl
theorem laws_heldStringS_s : ∀ xs r, laws_heldStringS_S xs = some (true, r) → runF tab FT D24 live 59 laws_heldStringS_lo xs = some r := by
  intro xs r h
  unfold laws_heldStringS_S at h
  split at h
  · simp only [Option.some.injEq, Prod.mk.injEq] at h
    obtain ⟨h1, rfl⟩ := h
    exact fun_told (laws_heldStringS_e _ _) (laws_heldStringS_l _ _) h1
  · cases h
noncomputable def D25 : Dt := also D24 59 laws_heldStringS_S
theorem d25 : DOk Go.Proofs.Try.prog tab D25 := d24.also mixed_ok tab_ok names_ok (fnLoops_one (by kernel_rfl) laws_heldStringS_is2) laws_heldStringS_s
theorem laws_heldStringS_cc {A : List (List TC)} {k : Int} (hl : A.length ≤ 140737488351232) (h0 : 0 ≤ k) (h1 : k ≤ 2305843009213693952) : laws_heldStringS_c (laws_markStringS_v A k).1 k = true := is_true ⟨by show mkL_9 k A.length = mkL_9 k (mkL_9 k A.length).length; rw [mkL_9_length], by show (mkL_9 k A.length).length ≤ _; rw [mkL_9_length]; exact hl, h0, h1⟩
theorem laws_heldStringS_vm {A : List (List TC)} {k : Int} : laws_heldStringS_v (laws_markStringS_v A k).1 k = (laws_markStringS_v A k).2 := by
  show k + 1 * ((mkL_9 k A.length).length : Int) = k + 1 * (A.length : Int)
  rw [mkL_9_length]
/-! laws_heldNameHeap -/
noncomputable def laws_heldNameHeap_t (a0 : List (List TC)) (a1 : Int) : Tr (Int) := (.ite ((laws_heldStringS_c a0 a1) = true) (.ite ((decide ((laws_heldStringS_v a0 a1) < (0 : Int))) = true) (.ok (-1 : Int))
   (.ok (laws_heldStringS_v a0 a1)))
  .no)
def laws_heldNameHeap_mk (p : Int) : Res := [(false, [⟨.int .i64, .sh, TC.i p⟩])]
noncomputable def laws_heldNameHeap_c (a0 : List (List TC)) (a1 : Int) : Bool := (laws_heldStringS_c a0 a1)
noncomputable def laws_heldNameHeap_v (a0 : List (List TC)) (a1 : Int) : Int := (bif (decide ((laws_heldStringS_v a0 a1) < (0 : Int))) then (-1 : Int) else (laws_heldStringS_v a0 a1))
theorem laws_heldNameHeap_l (a0 : List (List TC)) (a1 : Int) : (laws_heldNameHeap_c a0 a1) = true → (laws_heldNameHeap_t a0 a1).val = some (laws_heldNameHeap_v a0 a1) := by
  intro h
  have g0 : (laws_heldStringS_c a0 a1) = true := h
  unfold laws_heldNameHeap_t laws_heldNameHeap_v
  exact (Tr.t g0 (Tr.s rfl rfl))
noncomputable def laws_heldNameHeap_S : List Arg → Option (Bool × Res) := fun xs => match xs with
  | [(true, [(.slice 9, TC.l a0)]), (false, [(.int .i64, TC.i a1)])] => some ((laws_heldNameHeap_c a0 a1), laws_heldNameHeap_mk (laws_heldNameHeap_v a0 a1))
  | _ => .none
theorem laws_heldNameHeap_e (a0 : List (List TC)) (a1 : Int) : runF tab FT D25 live 20 noLoops [(true, [(.slice 9, TC.l a0)]), (false, [(.int .i64, TC.i a1)])] = (laws_heldNameHeap_t a0 a1).run fun p => some (laws_heldNameHeap_mk p) := by kernel_rfl
theorem laws_heldNameHeap_s : ∀ xs r, laws_heldNameHeap_S xs = some (true, r) → runF tab FT D25 live 20 noLoops xs = some r := by
  intro xs r h
  unfold laws_heldNameHeap_S at h
  split at h
  · simp only [Option.some.injEq, Prod.mk.injEq] at h
    obtain ⟨h1, rfl⟩ := h
    exact fun_told (laws_heldNameHeap_e _ _) (laws_heldNameHeap_l _ _) h1
  · cases h
noncomputable def D26 : Dt := also D25 20 laws_heldNameHeap_S
theorem d26 : DOk Go.Proofs.Try.prog tab D26 := d25.also mixed_ok tab_ok names_ok noLoops_ok laws_heldNameHeap_s
/-! the law -/
noncomputable def laws_FnExactPutName_t (x0 : List (List TC)) (x1 : List UInt8) : Tr Bool := (.ite ((decide ((x1.length : Int) > (1048576 : Int))) = true) (.ok true)
  (.ite ((laws_szNameHeap_c x0 (1048576 : Int)) = true) (.ite ((decide ((laws_szNameHeap_v x0 (1048576 : Int)) < (0 : Int))) = true) (.ok true)
    (.ite ((laws_toNameHeap_c x0) = true) (.ite ((spec_PutName_c (laws_toNameHeap_v x0) x1) = true) (.ite ((laws_toNameHeap_c x0) = true) (.ite ((impl_PutName_c (laws_toNameHeap_v x0) x1) = true) (.ite ((laws_eqNameHeap_c ((impl_PutName_v (laws_toNameHeap_v x0) x1).1) ((spec_PutName_v (laws_toNameHeap_v x0) x1).1)) = true) (.ite ((!(laws_eqNameHeap_v ((impl_PutName_v (laws_toNameHeap_v x0) x1).1) ((spec_PutName_v (laws_toNameHeap_v x0) x1).1))) = true) (.ok false)
          (.ite ((!((impl_PutName_v (laws_toNameHeap_v x0) x1).2.1 == (spec_PutName_v (laws_toNameHeap_v x0) x1).2.1)) = true) (.ok false)
           (.ite ((!((impl_PutName_v (laws_toNameHeap_v x0) x1).2.2 == (spec_PutName_v (laws_toNameHeap_v x0) x1).2.2)) = true) (.ok false)
            (.ite ((laws_toNameHeap_c x0) = true) (.ite ((laws_eqNameHeap_c (laws_toNameHeap_v x0) (laws_toNameHeap_v x0)) = true) (.ite ((!(laws_eqNameHeap_v (laws_toNameHeap_v x0) (laws_toNameHeap_v x0))) = true) (.ok false)
               (.ite ((laws_markNameHeap_c (laws_toNameHeap_v x0) (1 : Int)) = true) (.ite ((decide ((laws_markNameHeap_v (laws_toNameHeap_v x0) (1 : Int)).2 < (0 : Int))) = true) (.ok false)
                 (.ite ((laws_eqNameHeap_c ((impl_PutName_v (laws_toNameHeap_v x0) x1).1) ((spec_PutName_v (laws_toNameHeap_v x0) x1).1)) = true) (.ite ((!(laws_eqNameHeap_v ((impl_PutName_v (laws_toNameHeap_v x0) x1).1) ((spec_PutName_v (laws_toNameHeap_v x0) x1).1))) = true) (.ok false)
                   (.ite ((!((impl_PutName_v (laws_toNameHeap_v x0) x1).2.1 == (spec_PutName_v (laws_toNameHeap_v x0) x1).2.1)) = true) (.ok false)
                    (.ite ((!((impl_PutName_v (laws_toNameHeap_v x0) x1).2.2 == (spec_PutName_v (laws_toNameHeap_v x0) x1).2.2)) = true) (.ok false)
                     (.ite ((laws_markNameHeap_c ((impl_PutName_v (laws_toNameHeap_v x0) x1).1) (1 : Int)) = true) (.ite ((laws_heldNameHeap_c ((laws_markNameHeap_v ((impl_PutName_v (laws_toNameHeap_v x0) x1).1) (1 : Int)).1) (1 : Int)) = true) (.ite ((decide ((laws_heldNameHeap_v ((laws_markNameHeap_v ((impl_PutName_v (laws_toNameHeap_v x0) x1).1) (1 : Int)).1) (1 : Int)) < (0 : Int))) = true) (.ok false)
                        (.ite ((!((laws_heldNameHeap_v ((laws_markNameHeap_v ((impl_PutName_v (laws_toNameHeap_v x0) x1).1) (1 : Int)).1) (1 : Int)) == (laws_markNameHeap_v ((impl_PutName_v (laws_toNameHeap_v x0) x1).1) (1 : Int)).2)) = true) (.ok false)
                         (.ite ((laws_toNameHeap_c x0) = true) (.ite ((impl_PutName_c (laws_toNameHeap_v x0) x1) = true) (.ite ((laws_eqNameHeap_c ((impl_PutName_v (laws_toNameHeap_v x0) x1).1) ((spec_PutName_v (laws_toNameHeap_v x0) x1).1)) = true) (.ite ((!(laws_eqNameHeap_v ((impl_PutName_v (laws_toNameHeap_v x0) x1).1) ((spec_PutName_v (laws_toNameHeap_v x0) x1).1))) = true) (.ok false)
                             (.ite ((!((impl_PutName_v (laws_toNameHeap_v x0) x1).2.1 == (spec_PutName_v (laws_toNameHeap_v x0) x1).2.1)) = true) (.ok false)
                              (.ite ((!((impl_PutName_v (laws_toNameHeap_v x0) x1).2.2 == (spec_PutName_v (laws_toNameHeap_v x0) x1).2.2)) = true) (.ok false)
                               (.ite ((laws_heldNameHeap_c ((laws_markNameHeap_v ((impl_PutName_v (laws_toNameHeap_v x0) x1).1) (1 : Int)).1) (1 : Int)) = true) (.ite ((decide ((laws_heldNameHeap_v ((laws_markNameHeap_v ((impl_PutName_v (laws_toNameHeap_v x0) x1).1) (1 : Int)).1) (1 : Int)) < (0 : Int))) = true) (.ok false)
                                 (.ite ((!((laws_heldNameHeap_v ((laws_markNameHeap_v ((impl_PutName_v (laws_toNameHeap_v x0) x1).1) (1 : Int)).1) (1 : Int)) == (laws_markNameHeap_v ((impl_PutName_v (laws_toNameHeap_v x0) x1).1) (1 : Int)).2)) = true) (.ok false)
                                  (.ok true)))
                                .no))))
                            .no)
                           .no)
                          .no)))
                       .no)
                      .no))))
                  .no))
                .no))
              .no)
             .no))))
         .no)
        .no)
       .no)
      .no)
     .no))
   .no))
theorem laws_FnExactPutName_e (x0 : List (List TC)) (x1 : List UInt8) : runF tab FT D26 live 4 noLoops [(true, [(.slice 9, TC.l x0)]), (false, [(.str, TC.s x1)])] = (laws_FnExactPutName_t x0 x1).run fun p => some [(false, [⟨.bool, .sh, .b p⟩])] := by kernel_rfl
theorem laws_FnExactPutName_p (x0 : List (List TC)) (x1 : List UInt8) (h0 : Typed tab (.slice 9) (.l x0)) (h1 : Typed tab (.str) (.s x1)) : (laws_FnExactPutName_t x0 x1).val = some true := by
  have t0_9 := laws_toStringS_ty h0
  have e1 := spec_PutName_vv (s := x1) t0_9
  have e2 := impl_PutName_vv (s := x1) t0_9
  have hr0 := typed_room t0_9
  have ht := putV_ty t0_9 h1
  have hr2 := typed_room ht
  simp only [show (tab 9).bytes = 16 from rfl] at hr0 hr2
  unfold laws_FnExactPutName_t
  simp only [e1, e2, laws_toStringS_v, laws_toNameHeap_v]
  refine Tr.y ?_
  refine Tr.t (by first | exact (by first | (apply is_true; and_intros <;> (first | rfl | assumption | (apply spec_IsName_cc <;> assumption) | (apply spec_l16Ok_cc <;> assumption) | (apply spec_PutName_cc <;> assumption) | (apply impl_IsName_cc <;> assumption) | (apply impl_ValidHeap_cc <;> assumption) | (apply impl_NameHeap_put_cc <;> assumption) | (apply impl_PutName_cc <;> assumption) | (apply laws_markText_cc <;> assumption) | (first | (apply is_true; and_intros <;> (first | rfl | assumption | (apply spec_IsName_cc <;> assumption) | (apply spec_l16Ok_cc <;> assumption) | (apply spec_PutName_cc <;> assumption) | (apply impl_IsName_cc <;> assumption) | (apply impl_ValidHeap_cc <;> assumption) | (apply impl_NameHeap_put_cc <;> assumption) | (apply impl_PutName_cc <;> assumption) | (apply laws_markText_cc <;> assumption) | (first | (apply is_true; and_intros <;> (first | rfl | assumption | (apply spec_IsName_cc <;> assumption) | (apply spec_l16Ok_cc <;> assumption) | (apply spec_PutName_cc <;> assumption) | (apply impl_IsName_cc <;> assumption) | (apply impl_ValidHeap_cc <;> assumption) | (apply impl_NameHeap_put_cc <;> assumption) | (apply impl_PutName_cc <;> assumption) | (apply laws_markText_cc <;> assumption) | (first | (apply is_true; and_intros <;> (first | rfl | assumption | (apply spec_IsName_cc <;> assumption) | (apply spec_l16Ok_cc <;> assumption) | (apply spec_PutName_cc <;> assumption) | (apply impl_IsName_cc <;> assumption) | (apply impl_ValidHeap_cc <;> assumption) | (apply impl_NameHeap_put_cc <;> assumption) | (apply impl_PutName_cc <;> assumption) | (apply laws_markText_cc <;> assumption))) | (apply spec_IsName_cc <;> assumption) | (apply spec_l16Ok_cc <;> assumption) | (apply spec_PutName_cc <;> assumption) | (apply impl_IsName_cc <;> assumption) | (apply impl_ValidHeap_cc <;> assumption) | (apply impl_NameHeap_put_cc <;> assumption) | (apply impl_PutName_cc <;> assumption) | (apply laws_markText_cc <;> assumption)))) | (apply spec_IsName_cc <;> assumption) | (apply spec_l16Ok_cc <;> assumption) | (apply spec_PutName_cc <;> assumption) | (apply impl_IsName_cc <;> assumption) | (apply impl_ValidHeap_cc <;> assumption) | (apply impl_NameHeap_put_cc <;> assumption) | (apply impl_PutName_cc <;> assumption) | (apply laws_markText_cc <;> assumption)))) | (apply spec_IsName_cc <;> assumption) | (apply spec_l16Ok_cc <;> assumption) | (apply spec_PutName_cc <;> assumption) | (apply impl_IsName_cc <;> assumption) | (apply impl_ValidHeap_cc <;> assumption) | (apply impl_NameHeap_put_cc <;> assumption) | (apply impl_PutName_cc <;> assumption) | (apply laws_markText_cc <;> assumption)))) | (apply spec_IsName_cc <;> assumption) | (apply spec_l16Ok_cc <;> assumption) | (apply spec_PutName_cc <;> assumption) | (apply impl_IsName_cc <;> assumption) | (apply impl_ValidHeap_cc <;> assumption) | (apply impl_NameHeap_put_cc <;> assumption) | (apply impl_PutName_cc <;> assumption) | (apply laws_markText_cc <;> assumption)) | simp [*]) ?_
  refine Tr.y ?_
  refine Tr.t (by first | exact (by first | (apply is_true; and_intros <;> (first | rfl | assumption | (apply spec_IsName_cc <;> assumption) | (apply spec_l16Ok_cc <;> assumption) | (apply spec_PutName_cc <;> assumption) | (apply impl_IsName_cc <;> assumption) | (apply impl_ValidHeap_cc <;> assumption) | (apply impl_NameHeap_put_cc <;> assumption) | (apply impl_PutName_cc <;> assumption) | (apply laws_markText_cc <;> assumption) | (first | (apply is_true; and_intros <;> (first | rfl | assumption | (apply spec_IsName_cc <;> assumption) | (apply spec_l16Ok_cc <;> assumption) | (apply spec_PutName_cc <;> assumption) | (apply impl_IsName_cc <;> assumption) | (apply impl_ValidHeap_cc <;> assumption) | (apply impl_NameHeap_put_cc <;> assumption) | (apply impl_PutName_cc <;> assumption) | (apply laws_markText_cc <;> assumption) | (first | (apply is_true; and_intros <;> (first | rfl | assumption | (apply spec_IsName_cc <;> assumption) | (apply spec_l16Ok_cc <;> assumption) | (apply spec_PutName_cc <;> assumption) | (apply impl_IsName_cc <;> assumption) | (apply impl_ValidHeap_cc <;> assumption) | (apply impl_NameHeap_put_cc <;> assumption) | (apply impl_PutName_cc <;> assumption) | (apply laws_markText_cc <;> assumption) | (first | (apply is_true; and_intros <;> (first | rfl | assumption | (apply spec_IsName_cc <;> assumption) | (apply spec_l16Ok_cc <;> assumption) | (apply spec_PutName_cc <;> assumption) | (apply impl_IsName_cc <;> assumption) | (apply impl_ValidHeap_cc <;> assumption) | (apply impl_NameHeap_put_cc <;> assumption) | (apply impl_PutName_cc <;> assumption) | (apply laws_markText_cc <;> assumption))) | (apply spec_IsName_cc <;> assumption) | (apply spec_l16Ok_cc <;> assumption) | (apply spec_PutName_cc <;> assumption) | (apply impl_IsName_cc <;> assumption) | (apply impl_ValidHeap_cc <;> assumption) | (apply impl_NameHeap_put_cc <;> assumption) | (apply impl_PutName_cc <;> assumption) | (apply laws_markText_cc <;> assumption)))) | (apply spec_IsName_cc <;> assumption) | (apply spec_l16Ok_cc <;> assumption) | (apply spec_PutName_cc <;> assumption) | (apply impl_IsName_cc <;> assumption) | (apply impl_ValidHeap_cc <;> assumption) | (apply impl_NameHeap_put_cc <;> assumption) | (apply impl_PutName_cc <;> assumption) | (apply laws_markText_cc <;> assumption)))) | (apply spec_IsName_cc <;> assumption) | (apply spec_l16Ok_cc <;> assumption) | (apply spec_PutName_cc <;> assumption) | (apply impl_IsName_cc <;> assumption) | (apply impl_ValidHeap_cc <;> assumption) | (apply impl_NameHeap_put_cc <;> assumption) | (apply impl_PutName_cc <;> assumption) | (apply laws_markText_cc <;> assumption)))) | (apply spec_IsName_cc <;> assumption) | (apply spec_l16Ok_cc <;> assumption) | (apply spec_PutName_cc <;> assumption) | (apply impl_IsName_cc <;> assumption) | (apply impl_ValidHeap_cc <;> assumption) | (apply impl_NameHeap_put_cc <;> assumption) | (apply impl_PutName_cc <;> assumption) | (apply laws_markText_cc <;> assumption)) | simp [*]) ?_
  refine Tr.t (by first | exact (by first | (apply spec_PutName_cc <;> assumption) | (first | (apply is_true; and_intros <;> (first | rfl | assumption | (apply spec_IsName_cc <;> assumption) | (apply spec_l16Ok_cc <;> assumption) | (apply spec_PutName_cc <;> assumption) | (apply impl_IsName_cc <;> assumption) | (apply impl_ValidHeap_cc <;> assumption) | (apply impl_NameHeap_put_cc <;> assumption) | (apply impl_PutName_cc <;> assumption) | (apply laws_markText_cc <;> assumption) | (first | (apply is_true; and_intros <;> (first | rfl | assumption | (apply spec_IsName_cc <;> assumption) | (apply spec_l16Ok_cc <;> assumption) | (apply spec_PutName_cc <;> assumption) | (apply impl_IsName_cc <;> assumption) | (apply impl_ValidHeap_cc <;> assumption) | (apply impl_NameHeap_put_cc <;> assumption) | (apply impl_PutName_cc <;> assumption) | (apply laws_markText_cc <;> assumption))) | (apply spec_IsName_cc <;> assumption) | (apply spec_l16Ok_cc <;> assumption) | (apply spec_PutName_cc <;> assumption) | (apply impl_IsName_cc <;> assumption) | (apply impl_ValidHeap_cc <;> assumption) | (apply impl_NameHeap_put_cc <;> assumption) | (apply impl_PutName_cc <;> assumption) | (apply laws_markText_cc <;> assumption)))) | (apply spec_IsName_cc <;> assumption) | (apply spec_l16Ok_cc <;> assumption) | (apply spec_PutName_cc <;> assumption) | (apply impl_IsName_cc <;> assumption) | (apply impl_ValidHeap_cc <;> assumption) | (apply impl_NameHeap_put_cc <;> assumption) | (apply impl_PutName_cc <;> assumption) | (apply laws_markText_cc <;> assumption))) | simp [*]) ?_
  refine Tr.t (by first | exact (by first | (apply is_true; and_intros <;> (first | rfl | assumption | (apply spec_IsName_cc <;> assumption) | (apply spec_l16Ok_cc <;> assumption) | (apply spec_PutName_cc <;> assumption) | (apply impl_IsName_cc <;> assumption) | (apply impl_ValidHeap_cc <;> assumption) | (apply impl_NameHeap_put_cc <;> assumption) | (apply impl_PutName_cc <;> assumption) | (apply laws_markText_cc <;> assumption) | (first | (apply is_true; and_intros <;> (first | rfl | assumption | (apply spec_IsName_cc <;> assumption) | (apply spec_l16Ok_cc <;> assumption) | (apply spec_PutName_cc <;> assumption) | (apply impl_IsName_cc <;> assumption) | (apply impl_ValidHeap_cc <;> assumption) | (apply impl_NameHeap_put_cc <;> assumption) | (apply impl_PutName_cc <;> assumption) | (apply laws_markText_cc <;> assumption) | (first | (apply is_true; and_intros <;> (first | rfl | assumption | (apply spec_IsName_cc <;> assumption) | (apply spec_l16Ok_cc <;> assumption) | (apply spec_PutName_cc <;> assumption) | (apply impl_IsName_cc <;> assumption) | (apply impl_ValidHeap_cc <;> assumption) | (apply impl_NameHeap_put_cc <;> assumption) | (apply impl_PutName_cc <;> assumption) | (apply laws_markText_cc <;> assumption) | (first | (apply is_true; and_intros <;> (first | rfl | assumption | (apply spec_IsName_cc <;> assumption) | (apply spec_l16Ok_cc <;> assumption) | (apply spec_PutName_cc <;> assumption) | (apply impl_IsName_cc <;> assumption) | (apply impl_ValidHeap_cc <;> assumption) | (apply impl_NameHeap_put_cc <;> assumption) | (apply impl_PutName_cc <;> assumption) | (apply laws_markText_cc <;> assumption))) | (apply spec_IsName_cc <;> assumption) | (apply spec_l16Ok_cc <;> assumption) | (apply spec_PutName_cc <;> assumption) | (apply impl_IsName_cc <;> assumption) | (apply impl_ValidHeap_cc <;> assumption) | (apply impl_NameHeap_put_cc <;> assumption) | (apply impl_PutName_cc <;> assumption) | (apply laws_markText_cc <;> assumption)))) | (apply spec_IsName_cc <;> assumption) | (apply spec_l16Ok_cc <;> assumption) | (apply spec_PutName_cc <;> assumption) | (apply impl_IsName_cc <;> assumption) | (apply impl_ValidHeap_cc <;> assumption) | (apply impl_NameHeap_put_cc <;> assumption) | (apply impl_PutName_cc <;> assumption) | (apply laws_markText_cc <;> assumption)))) | (apply spec_IsName_cc <;> assumption) | (apply spec_l16Ok_cc <;> assumption) | (apply spec_PutName_cc <;> assumption) | (apply impl_IsName_cc <;> assumption) | (apply impl_ValidHeap_cc <;> assumption) | (apply impl_NameHeap_put_cc <;> assumption) | (apply impl_PutName_cc <;> assumption) | (apply laws_markText_cc <;> assumption)))) | (apply spec_IsName_cc <;> assumption) | (apply spec_l16Ok_cc <;> assumption) | (apply spec_PutName_cc <;> assumption) | (apply impl_IsName_cc <;> assumption) | (apply impl_ValidHeap_cc <;> assumption) | (apply impl_NameHeap_put_cc <;> assumption) | (apply impl_PutName_cc <;> assumption) | (apply laws_markText_cc <;> assumption)) | simp [*]) ?_
  refine Tr.t (by first | exact (by first | (apply impl_PutName_cc <;> assumption) | (first | (apply is_true; and_intros <;> (first | rfl | assumption | (apply spec_IsName_cc <;> assumption) | (apply spec_l16Ok_cc <;> assumption) | (apply spec_PutName_cc <;> assumption) | (apply impl_IsName_cc <;> assumption) | (apply impl_ValidHeap_cc <;> assumption) | (apply impl_NameHeap_put_cc <;> assumption) | (apply impl_PutName_cc <;> assumption) | (apply laws_markText_cc <;> assumption) | (first | (apply is_true; and_intros <;> (first | rfl | assumption | (apply spec_IsName_cc <;> assumption) | (apply spec_l16Ok_cc <;> assumption) | (apply spec_PutName_cc <;> assumption) | (apply impl_IsName_cc <;> assumption) | (apply impl_ValidHeap_cc <;> assumption) | (apply impl_NameHeap_put_cc <;> assumption) | (apply impl_PutName_cc <;> assumption) | (apply laws_markText_cc <;> assumption))) | (apply spec_IsName_cc <;> assumption) | (apply spec_l16Ok_cc <;> assumption) | (apply spec_PutName_cc <;> assumption) | (apply impl_IsName_cc <;> assumption) | (apply impl_ValidHeap_cc <;> assumption) | (apply impl_NameHeap_put_cc <;> assumption) | (apply impl_PutName_cc <;> assumption) | (apply laws_markText_cc <;> assumption)))) | (apply spec_IsName_cc <;> assumption) | (apply spec_l16Ok_cc <;> assumption) | (apply spec_PutName_cc <;> assumption) | (apply impl_IsName_cc <;> assumption) | (apply impl_ValidHeap_cc <;> assumption) | (apply impl_NameHeap_put_cc <;> assumption) | (apply impl_PutName_cc <;> assumption) | (apply laws_markText_cc <;> assumption))) | simp [*]) ?_
  refine Tr.t (by first | exact (by first | (apply is_true; and_intros <;> (first | rfl | assumption | (apply spec_IsName_cc <;> assumption) | (apply spec_l16Ok_cc <;> assumption) | (apply spec_PutName_cc <;> assumption) | (apply impl_IsName_cc <;> assumption) | (apply impl_ValidHeap_cc <;> assumption) | (apply impl_NameHeap_put_cc <;> assumption) | (apply impl_PutName_cc <;> assumption) | (apply laws_markText_cc <;> assumption) | (first | (apply is_true; and_intros <;> (first | rfl | assumption | (apply spec_IsName_cc <;> assumption) | (apply spec_l16Ok_cc <;> assumption) | (apply spec_PutName_cc <;> assumption) | (apply impl_IsName_cc <;> assumption) | (apply impl_ValidHeap_cc <;> assumption) | (apply impl_NameHeap_put_cc <;> assumption) | (apply impl_PutName_cc <;> assumption) | (apply laws_markText_cc <;> assumption) | (first | (apply is_true; and_intros <;> (first | rfl | assumption | (apply spec_IsName_cc <;> assumption) | (apply spec_l16Ok_cc <;> assumption) | (apply spec_PutName_cc <;> assumption) | (apply impl_IsName_cc <;> assumption) | (apply impl_ValidHeap_cc <;> assumption) | (apply impl_NameHeap_put_cc <;> assumption) | (apply impl_PutName_cc <;> assumption) | (apply laws_markText_cc <;> assumption) | (first | (apply is_true; and_intros <;> (first | rfl | assumption | (apply spec_IsName_cc <;> assumption) | (apply spec_l16Ok_cc <;> assumption) | (apply spec_PutName_cc <;> assumption) | (apply impl_IsName_cc <;> assumption) | (apply impl_ValidHeap_cc <;> assumption) | (apply impl_NameHeap_put_cc <;> assumption) | (apply impl_PutName_cc <;> assumption) | (apply laws_markText_cc <;> assumption))) | (apply spec_IsName_cc <;> assumption) | (apply spec_l16Ok_cc <;> assumption) | (apply spec_PutName_cc <;> assumption) | (apply impl_IsName_cc <;> assumption) | (apply impl_ValidHeap_cc <;> assumption) | (apply impl_NameHeap_put_cc <;> assumption) | (apply impl_PutName_cc <;> assumption) | (apply laws_markText_cc <;> assumption)))) | (apply spec_IsName_cc <;> assumption) | (apply spec_l16Ok_cc <;> assumption) | (apply spec_PutName_cc <;> assumption) | (apply impl_IsName_cc <;> assumption) | (apply impl_ValidHeap_cc <;> assumption) | (apply impl_NameHeap_put_cc <;> assumption) | (apply impl_PutName_cc <;> assumption) | (apply laws_markText_cc <;> assumption)))) | (apply spec_IsName_cc <;> assumption) | (apply spec_l16Ok_cc <;> assumption) | (apply spec_PutName_cc <;> assumption) | (apply impl_IsName_cc <;> assumption) | (apply impl_ValidHeap_cc <;> assumption) | (apply impl_NameHeap_put_cc <;> assumption) | (apply impl_PutName_cc <;> assumption) | (apply laws_markText_cc <;> assumption)))) | (apply spec_IsName_cc <;> assumption) | (apply spec_l16Ok_cc <;> assumption) | (apply spec_PutName_cc <;> assumption) | (apply impl_IsName_cc <;> assumption) | (apply impl_ValidHeap_cc <;> assumption) | (apply impl_NameHeap_put_cc <;> assumption) | (apply impl_PutName_cc <;> assumption) | (apply laws_markText_cc <;> assumption)) | simp [*]) ?_
  refine Tr.n (by first | (simp [laws_heldStringS_vm, laws_markStringS_v2, laws_markText_v, laws_markNameHeap_v, laws_heldNameHeap_v, laws_eqStringS_v, laws_eqNameHeap_v]; done) | (simp only [laws_heldStringS_vm, laws_markStringS_v2, laws_markText_v, laws_markNameHeap_v, laws_heldNameHeap_v, laws_eqStringS_v, laws_eqNameHeap_v, decide_eq_true_eq]; omega) | (simp [laws_heldStringS_vm, laws_markStringS_v2, laws_markText_v, laws_markNameHeap_v, laws_heldNameHeap_v, laws_eqStringS_v, laws_eqNameHeap_v]; omega) | (simp (disch := omega) only [laws_heldStringS_vm, laws_markStringS_v2, laws_markText_v, laws_markNameHeap_v, laws_heldNameHeap_v, laws_eqStringS_v, laws_eqNameHeap_v, neg_bif, decide_eq_true_eq]; omega) | (simp (disch := omega) [laws_heldStringS_vm, laws_markStringS_v2, laws_markText_v, laws_markNameHeap_v, laws_heldNameHeap_v, laws_eqStringS_v, laws_eqNameHeap_v, neg_bif]; done)) ?_
  refine Tr.n (by first | (simp [laws_heldStringS_vm, laws_markStringS_v2, laws_markText_v, laws_markNameHeap_v, laws_heldNameHeap_v, laws_eqStringS_v, laws_eqNameHeap_v]; done) | (simp only [laws_heldStringS_vm, laws_markStringS_v2, laws_markText_v, laws_markNameHeap_v, laws_heldNameHeap_v, laws_eqStringS_v, laws_eqNameHeap_v, decide_eq_true_eq]; omega) | (simp [laws_heldStringS_vm, laws_markStringS_v2, laws_markText_v, laws_markNameHeap_v, laws_heldNameHeap_v, laws_eqStringS_v, laws_eqNameHeap_v]; omega) | (simp (disch := omega) only [laws_heldStringS_vm, laws_markStringS_v2, laws_markText_v, laws_markNameHeap_v, laws_heldNameHeap_v, laws_eqStringS_v, laws_eqNameHeap_v, neg_bif, decide_eq_true_eq]; omega) | (simp (disch := omega) [laws_heldStringS_vm, laws_markStringS_v2, laws_markText_v, laws_markNameHeap_v, laws_heldNameHeap_v, laws_eqStringS_v, laws_eqNameHeap_v, neg_bif]; done)) ?_
  refine Tr.n (by first | (simp [laws_heldStringS_vm, laws_markStringS_v2, laws_markText_v, laws_markNameHeap_v, laws_heldNameHeap_v, laws_eqStringS_v, laws_eqNameHeap_v]; done) | (simp only [laws_heldStringS_vm, laws_markStringS_v2, laws_markText_v, laws_markNameHeap_v, laws_heldNameHeap_v, laws_eqStringS_v, laws_eqNameHeap_v, decide_eq_true_eq]; omega) | (simp [laws_heldStringS_vm, laws_markStringS_v2, laws_markText_v, laws_markNameHeap_v, laws_heldNameHeap_v, laws_eqStringS_v, laws_eqNameHeap_v]; omega) | (simp (disch := omega) only [laws_heldStringS_vm, laws_markStringS_v2, laws_markText_v, laws_markNameHeap_v, laws_heldNameHeap_v, laws_eqStringS_v, laws_eqNameHeap_v, neg_bif, decide_eq_true_eq]; omega) | (simp (disch := omega) [laws_heldStringS_vm, laws_markStringS_v2, laws_markText_v, laws_markNameHeap_v, laws_heldNameHeap_v, laws_eqStringS_v, laws_eqNameHeap_v, neg_bif]; done)) ?_
  refine Tr.t (by first | exact (by first | (apply is_true; and_intros <;> (first | rfl | assumption | (apply spec_IsName_cc <;> assumption) | (apply spec_l16Ok_cc <;> assumption) | (apply spec_PutName_cc <;> assumption) | (apply impl_IsName_cc <;> assumption) | (apply impl_ValidHeap_cc <;> assumption) | (apply impl_NameHeap_put_cc <;> assumption) | (apply impl_PutName_cc <;> assumption) | (apply laws_markText_cc <;> assumption) | (first | (apply is_true; and_intros <;> (first | rfl | assumption | (apply spec_IsName_cc <;> assumption) | (apply spec_l16Ok_cc <;> assumption) | (apply spec_PutName_cc <;> assumption) | (apply impl_IsName_cc <;> assumption) | (apply impl_ValidHeap_cc <;> assumption) | (apply impl_NameHeap_put_cc <;> assumption) | (apply impl_PutName_cc <;> assumption) | (apply laws_markText_cc <;> assumption) | (first | (apply is_true; and_intros <;> (first | rfl | assumption | (apply spec_IsName_cc <;> assumption) | (apply spec_l16Ok_cc <;> assumption) | (apply spec_PutName_cc <;> assumption) | (apply impl_IsName_cc <;> assumption) | (apply impl_ValidHeap_cc <;> assumption) | (apply impl_NameHeap_put_cc <;> assumption) | (apply impl_PutName_cc <;> assumption) | (apply laws_markText_cc <;> assumption) | (first | (apply is_true; and_intros <;> (first | rfl | assumption | (apply spec_IsName_cc <;> assumption) | (apply spec_l16Ok_cc <;> assumption) | (apply spec_PutName_cc <;> assumption) | (apply impl_IsName_cc <;> assumption) | (apply impl_ValidHeap_cc <;> assumption) | (apply impl_NameHeap_put_cc <;> assumption) | (apply impl_PutName_cc <;> assumption) | (apply laws_markText_cc <;> assumption))) | (apply spec_IsName_cc <;> assumption) | (apply spec_l16Ok_cc <;> assumption) | (apply spec_PutName_cc <;> assumption) | (apply impl_IsName_cc <;> assumption) | (apply impl_ValidHeap_cc <;> assumption) | (apply impl_NameHeap_put_cc <;> assumption) | (apply impl_PutName_cc <;> assumption) | (apply laws_markText_cc <;> assumption)))) | (apply spec_IsName_cc <;> assumption) | (apply spec_l16Ok_cc <;> assumption) | (apply spec_PutName_cc <;> assumption) | (apply impl_IsName_cc <;> assumption) | (apply impl_ValidHeap_cc <;> assumption) | (apply impl_NameHeap_put_cc <;> assumption) | (apply impl_PutName_cc <;> assumption) | (apply laws_markText_cc <;> assumption)))) | (apply spec_IsName_cc <;> assumption) | (apply spec_l16Ok_cc <;> assumption) | (apply spec_PutName_cc <;> assumption) | (apply impl_IsName_cc <;> assumption) | (apply impl_ValidHeap_cc <;> assumption) | (apply impl_NameHeap_put_cc <;> assumption) | (apply impl_PutName_cc <;> assumption) | (apply laws_markText_cc <;> assumption)))) | (apply spec_IsName_cc <;> assumption) | (apply spec_l16Ok_cc <;> assumption) | (apply spec_PutName_cc <;> assumption) | (apply impl_IsName_cc <;> assumption) | (apply impl_ValidHeap_cc <;> assumption) | (apply impl_NameHeap_put_cc <;> assumption) | (apply impl_PutName_cc <;> assumption) | (apply laws_markText_cc <;> assumption)) | simp [*]) ?_
  refine Tr.t (by first | exact (by first | (apply is_true; and_intros <;> (first | rfl | assumption | (apply spec_IsName_cc <;> assumption) | (apply spec_l16Ok_cc <;> assumption) | (apply spec_PutName_cc <;> assumption) | (apply impl_IsName_cc <;> assumption) | (apply impl_ValidHeap_cc <;> assumption) | (apply impl_NameHeap_put_cc <;> assumption) | (apply impl_PutName_cc <;> assumption) | (apply laws_markText_cc <;> assumption) | (first | (apply is_true; and_intros <;> (first | rfl | assumption | (apply spec_IsName_cc <;> assumption) | (apply spec_l16Ok_cc <;> assumption) | (apply spec_PutName_cc <;> assumption) | (apply impl_IsName_cc <;> assumption) | (apply impl_ValidHeap_cc <;> assumption) | (apply impl_NameHeap_put_cc <;> assumption) | (apply impl_PutName_cc <;> assumption) | (apply laws_markText_cc <;> assumption) | (first | (apply is_true; and_intros <;> (first | rfl | assumption | (apply spec_IsName_cc <;> assumption) | (apply spec_l16Ok_cc <;> assumption) | (apply spec_PutName_cc <;> assumption) | (apply impl_IsName_cc <;> assumption) | (apply impl_ValidHeap_cc <;> assumption) | (apply impl_NameHeap_put_cc <;> assumption) | (apply impl_PutName_cc <;> assumption) | (apply laws_markText_cc <;> assumption) | (first | (apply is_true; and_intros <;> (first | rfl | assumption | (apply spec_IsName_cc <;> assumption) | (apply spec_l16Ok_cc <;> assumption) | (apply spec_PutName_cc <;> assumption) | (apply impl_IsName_cc <;> assumption) | (apply impl_ValidHeap_cc <;> assumption) | (apply impl_NameHeap_put_cc <;> assumption) | (apply impl_PutName_cc <;> assumption) | (apply laws_markText_cc <;> assumption))) | (apply spec_IsName_cc <;> assumption) | (apply spec_l16Ok_cc <;> assumption) | (apply spec_PutName_cc <;> assumption) | (apply impl_IsName_cc <;> assumption) | (apply impl_ValidHeap_cc <;> assumption) | (apply impl_NameHeap_put_cc <;> assumption) | (apply impl_PutName_cc <;> assumption) | (apply laws_markText_cc <;> assumption)))) | (apply spec_IsName_cc <;> assumption) | (apply spec_l16Ok_cc <;> assumption) | (apply spec_PutName_cc <;> assumption) | (apply impl_IsName_cc <;> assumption) | (apply impl_ValidHeap_cc <;> assumption) | (apply impl_NameHeap_put_cc <;> assumption) | (apply impl_PutName_cc <;> assumption) | (apply laws_markText_cc <;> assumption)))) | (apply spec_IsName_cc <;> assumption) | (apply spec_l16Ok_cc <;> assumption) | (apply spec_PutName_cc <;> assumption) | (apply impl_IsName_cc <;> assumption) | (apply impl_ValidHeap_cc <;> assumption) | (apply impl_NameHeap_put_cc <;> assumption) | (apply impl_PutName_cc <;> assumption) | (apply laws_markText_cc <;> assumption)))) | (apply spec_IsName_cc <;> assumption) | (apply spec_l16Ok_cc <;> assumption) | (apply spec_PutName_cc <;> assumption) | (apply impl_IsName_cc <;> assumption) | (apply impl_ValidHeap_cc <;> assumption) | (apply impl_NameHeap_put_cc <;> assumption) | (apply impl_PutName_cc <;> assumption) | (apply laws_markText_cc <;> assumption)) | simp [*]) ?_
  refine Tr.n (by first | (simp [laws_heldStringS_vm, laws_markStringS_v2, laws_markText_v, laws_markNameHeap_v, laws_heldNameHeap_v, laws_eqStringS_v, laws_eqNameHeap_v]; done) | (simp only [laws_heldStringS_vm, laws_markStringS_v2, laws_markText_v, laws_markNameHeap_v, laws_heldNameHeap_v, laws_eqStringS_v, laws_eqNameHeap_v, decide_eq_true_eq]; omega) | (simp [laws_heldStringS_vm, laws_markStringS_v2, laws_markText_v, laws_markNameHeap_v, laws_heldNameHeap_v, laws_eqStringS_v, laws_eqNameHeap_v]; omega) | (simp (disch := omega) only [laws_heldStringS_vm, laws_markStringS_v2, laws_markText_v, laws_markNameHeap_v, laws_heldNameHeap_v, laws_eqStringS_v, laws_eqNameHeap_v, neg_bif, decide_eq_true_eq]; omega) | (simp (disch := omega) [laws_heldStringS_vm, laws_markStringS_v2, laws_markText_v, laws_markNameHeap_v, laws_heldNameHeap_v, laws_eqStringS_v, laws_eqNameHeap_v, neg_bif]; done)) ?_
  refine Tr.t (by show laws_markStringS_c _ _ = true; apply laws_markStringS_cc <;> (first | assumption | omega | (simp only [laws_heldStringS_vm, laws_markStringS_v2, laws_markText_v, laws_markNameHeap_v, laws_heldNameHeap_v]; omega) | (simp (disch := omega) only [laws_heldStringS_vm, laws_markStringS_v2, laws_markText_v, laws_markNameHeap_v, laws_heldNameHeap_v, neg_bif]; omega))) ?_
  refine Tr.n (by first | (simp [laws_heldStringS_vm, laws_markStringS_v2, laws_markText_v, laws_markNameHeap_v, laws_heldNameHeap_v, laws_eqStringS_v, laws_eqNameHeap_v]; done) | (simp only [laws_heldStringS_vm, laws_markStringS_v2, laws_markText_v, laws_markNameHeap_v, laws_heldNameHeap_v, laws_eqStringS_v, laws_eqNameHeap_v, decide_eq_true_eq]; omega) | (simp [laws_heldStringS_vm, laws_markStringS_v2, laws_markText_v, laws_markNameHeap_v, laws_heldNameHeap_v, laws_eqStringS_v, laws_eqNameHeap_v]; omega) | (simp (disch := omega) only [laws_heldStringS_vm, laws_markStringS_v2, laws_markText_v, laws_markNameHeap_v, laws_heldNameHeap_v, laws_eqStringS_v, laws_eqNameHeap_v, neg_bif, decide_eq_true_eq]; omega) | (simp (disch := omega) [laws_heldStringS_vm, laws_markStringS_v2, laws_markText_v, laws_markNameHeap_v, laws_heldNameHeap_v, laws_eqStringS_v, laws_eqNameHeap_v, neg_bif]; done)) ?_
  refine Tr.t (by first | exact (by first | (apply is_true; and_intros <;> (first | rfl | assumption | (apply spec_IsName_cc <;> assumption) | (apply spec_l16Ok_cc <;> assumption) | (apply spec_PutName_cc <;> assumption) | (apply impl_IsName_cc <;> assumption) | (apply impl_ValidHeap_cc <;> assumption) | (apply impl_NameHeap_put_cc <;> assumption) | (apply impl_PutName_cc <;> assumption) | (apply laws_markText_cc <;> assumption) | (first | (apply is_true; and_intros <;> (first | rfl | assumption | (apply spec_IsName_cc <;> assumption) | (apply spec_l16Ok_cc <;> assumption) | (apply spec_PutName_cc <;> assumption) | (apply impl_IsName_cc <;> assumption) | (apply impl_ValidHeap_cc <;> assumption) | (apply impl_NameHeap_put_cc <;> assumption) | (apply impl_PutName_cc <;> assumption) | (apply laws_markText_cc <;> assumption) | (first | (apply is_true; and_intros <;> (first | rfl | assumption | (apply spec_IsName_cc <;> assumption) | (apply spec_l16Ok_cc <;> assumption) | (apply spec_PutName_cc <;> assumption) | (apply impl_IsName_cc <;> assumption) | (apply impl_ValidHeap_cc <;> assumption) | (apply impl_NameHeap_put_cc <;> assumption) | (apply impl_PutName_cc <;> assumption) | (apply laws_markText_cc <;> assumption) | (first | (apply is_true; and_intros <;> (first | rfl | assumption | (apply spec_IsName_cc <;> assumption) | (apply spec_l16Ok_cc <;> assumption) | (apply spec_PutName_cc <;> assumption) | (apply impl_IsName_cc <;> assumption) | (apply impl_ValidHeap_cc <;> assumption) | (apply impl_NameHeap_put_cc <;> assumption) | (apply impl_PutName_cc <;> assumption) | (apply laws_markText_cc <;> assumption))) | (apply spec_IsName_cc <;> assumption) | (apply spec_l16Ok_cc <;> assumption) | (apply spec_PutName_cc <;> assumption) | (apply impl_IsName_cc <;> assumption) | (apply impl_ValidHeap_cc <;> assumption) | (apply impl_NameHeap_put_cc <;> assumption) | (apply impl_PutName_cc <;> assumption) | (apply laws_markText_cc <;> assumption)))) | (apply spec_IsName_cc <;> assumption) | (apply spec_l16Ok_cc <;> assumption) | (apply spec_PutName_cc <;> assumption) | (apply impl_IsName_cc <;> assumption) | (apply impl_ValidHeap_cc <;> assumption) | (apply impl_NameHeap_put_cc <;> assumption) | (apply impl_PutName_cc <;> assumption) | (apply laws_markText_cc <;> assumption)))) | (apply spec_IsName_cc <;> assumption) | (apply spec_l16Ok_cc <;> assumption) | (apply spec_PutName_cc <;> assumption) | (apply impl_IsName_cc <;> assumption) | (apply impl_ValidHeap_cc <;> assumption) | (apply impl_NameHeap_put_cc <;> assumption) | (apply impl_PutName_cc <;> assumption) | (apply laws_markText_cc <;> assumption)))) | (apply spec_IsName_cc <;> assumption) | (apply spec_l16Ok_cc <;> assumption) | (apply spec_PutName_cc <;> assumption) | (apply impl_IsName_cc <;> assumption) | (apply impl_ValidHeap_cc <;> assumption) | (apply impl_NameHeap_put_cc <;> assumption) | (apply impl_PutName_cc <;> assumption) | (apply laws_markText_cc <;> assumption)) | simp [*]) ?_
  refine Tr.n (by first | (simp [laws_heldStringS_vm, laws_markStringS_v2, laws_markText_v, laws_markNameHeap_v, laws_heldNameHeap_v, laws_eqStringS_v, laws_eqNameHeap_v]; done) | (simp only [laws_heldStringS_vm, laws_markStringS_v2, laws_markText_v, laws_markNameHeap_v, laws_heldNameHeap_v, laws_eqStringS_v, laws_eqNameHeap_v, decide_eq_true_eq]; omega) | (simp [laws_heldStringS_vm, laws_markStringS_v2, laws_markText_v, laws_markNameHeap_v, laws_heldNameHeap_v, laws_eqStringS_v, laws_eqNameHeap_v]; omega) | (simp (disch := omega) only [laws_heldStringS_vm, laws_markStringS_v2, laws_markText_v, laws_markNameHeap_v, laws_heldNameHeap_v, laws_eqStringS_v, laws_eqNameHeap_v, neg_bif, decide_eq_true_eq]; omega) | (simp (disch := omega) [laws_heldStringS_vm, laws_markStringS_v2, laws_markText_v, laws_markNameHeap_v, laws_heldNameHeap_v, laws_eqStringS_v, laws_eqNameHeap_v, neg_bif]; done)) ?_
  refine Tr.n (by first | (simp [laws_heldStringS_vm, laws_markStringS_v2, laws_markText_v, laws_markNameHeap_v, laws_heldNameHeap_v, laws_eqStringS_v, laws_eqNameHeap_v]; done) | (simp only [laws_heldStringS_vm, laws_markStringS_v2, laws_markText_v, laws_markNameHeap_v, laws_heldNameHeap_v, laws_eqStringS_v, laws_eqNameHeap_v, decide_eq_true_eq]; omega) | (simp [laws_heldStringS_vm, laws_markStringS_v2, laws_markText_v, laws_markNameHeap_v, laws_heldNameHeap_v, laws_eqStringS_v, laws_eqNameHeap_v]; omega) | (simp (disch := omega) only [laws_heldStringS_vm, laws_markStringS_v2, laws_markText_v, laws_markNameHeap_v, laws_heldNameHeap_v, laws_eqStringS_v, laws_eqNameHeap_v, neg_bif, decide_eq_true_eq]; omega) | (simp (disch := omega) [laws_heldStringS_vm, laws_markStringS_v2, laws_markText_v, laws_markNameHeap_v, laws_heldNameHeap_v, laws_eqStringS_v, laws_eqNameHeap_v, neg_bif]; done)) ?_
  refine Tr.n (by first | (simp [laws_heldStringS_vm, laws_markStringS_v2, laws_markText_v, laws_markNameHeap_v, laws_heldNameHeap_v, laws_eqStringS_v, laws_eqNameHeap_v]; done) | (simp only [laws_heldStringS_vm, laws_markStringS_v2, laws_markText_v, laws_markNameHeap_v, laws_heldNameHeap_v, laws_eqStringS_v, laws_eqNameHeap_v, decide_eq_true_eq]; omega) | (simp [laws_heldStringS_vm, laws_markStringS_v2, laws_markText_v, laws_markNameHeap_v, laws_heldNameHeap_v, laws_eqStringS_v, laws_eqNameHeap_v]; omega) | (simp (disch := omega) only [laws_heldStringS_vm, laws_markStringS_v2, laws_markText_v, laws_markNameHeap_v, laws_heldNameHeap_v, laws_eqStringS_v, laws_eqNameHeap_v, neg_bif, decide_eq_true_eq]; omega) | (simp (disch := omega) [laws_heldStringS_vm, laws_markStringS_v2, laws_markText_v, laws_markNameHeap_v, laws_heldNameHeap_v, laws_eqStringS_v, laws_eqNameHeap_v, neg_bif]; done)) ?_
  refine Tr.t (by show laws_markStringS_c _ _ = true; apply laws_markStringS_cc <;> (first | assumption | omega | (simp only [laws_heldStringS_vm, laws_markStringS_v2, laws_markText_v, laws_markNameHeap_v, laws_heldNameHeap_v]; omega) | (simp (disch := omega) only [laws_heldStringS_vm, laws_markStringS_v2, laws_markText_v, laws_markNameHeap_v, laws_heldNameHeap_v, neg_bif]; omega))) ?_
  refine Tr.t (by show laws_heldStringS_c _ _ = true; apply laws_heldStringS_cc <;> (first | assumption | omega | (simp only [laws_heldStringS_vm, laws_markStringS_v2, laws_markText_v, laws_markNameHeap_v, laws_heldNameHeap_v]; omega) | (simp (disch := omega) only [laws_heldStringS_vm, laws_markStringS_v2, laws_markText_v, laws_markNameHeap_v, laws_heldNameHeap_v, neg_bif]; omega))) ?_
  refine Tr.n (by first | (simp [laws_heldStringS_vm, laws_markStringS_v2, laws_markText_v, laws_markNameHeap_v, laws_heldNameHeap_v, laws_eqStringS_v, laws_eqNameHeap_v]; done) | (simp only [laws_heldStringS_vm, laws_markStringS_v2, laws_markText_v, laws_markNameHeap_v, laws_heldNameHeap_v, laws_eqStringS_v, laws_eqNameHeap_v, decide_eq_true_eq]; omega) | (simp [laws_heldStringS_vm, laws_markStringS_v2, laws_markText_v, laws_markNameHeap_v, laws_heldNameHeap_v, laws_eqStringS_v, laws_eqNameHeap_v]; omega) | (simp (disch := omega) only [laws_heldStringS_vm, laws_markStringS_v2, laws_markText_v, laws_markNameHeap_v, laws_heldNameHeap_v, laws_eqStringS_v, laws_eqNameHeap_v, neg_bif, decide_eq_true_eq]; omega) | (simp (disch := omega) [laws_heldStringS_vm, laws_markStringS_v2, laws_markText_v, laws_markNameHeap_v, laws_heldNameHeap_v, laws_eqStringS_v, laws_eqNameHeap_v, neg_bif]; done)) ?_
  refine Tr.n (by first | (simp [laws_heldStringS_vm, laws_markStringS_v2, laws_markText_v, laws_markNameHeap_v, laws_heldNameHeap_v, laws_eqStringS_v, laws_eqNameHeap_v]; done) | (simp only [laws_heldStringS_vm, laws_markStringS_v2, laws_markText_v, laws_markNameHeap_v, laws_heldNameHeap_v, laws_eqStringS_v, laws_eqNameHeap_v, decide_eq_true_eq]; omega) | (simp [laws_heldStringS_vm, laws_markStringS_v2, laws_markText_v, laws_markNameHeap_v, laws_heldNameHeap_v, laws_eqStringS_v, laws_eqNameHeap_v]; omega) | (simp (disch := omega) only [laws_heldStringS_vm, laws_markStringS_v2, laws_markText_v, laws_markNameHeap_v, laws_heldNameHeap_v, laws_eqStringS_v, laws_eqNameHeap_v, neg_bif, decide_eq_true_eq]; omega) | (simp (disch := omega) [laws_heldStringS_vm, laws_markStringS_v2, laws_markText_v, laws_markNameHeap_v, laws_heldNameHeap_v, laws_eqStringS_v, laws_eqNameHeap_v, neg_bif]; done)) ?_
  refine Tr.t (by first | exact (by first | (apply is_true; and_intros <;> (first | rfl | assumption | (apply spec_IsName_cc <;> assumption) | (apply spec_l16Ok_cc <;> assumption) | (apply spec_PutName_cc <;> assumption) | (apply impl_IsName_cc <;> assumption) | (apply impl_ValidHeap_cc <;> assumption) | (apply impl_NameHeap_put_cc <;> assumption) | (apply impl_PutName_cc <;> assumption) | (apply laws_markText_cc <;> assumption) | (first | (apply is_true; and_intros <;> (first | rfl | assumption | (apply spec_IsName_cc <;> assumption) | (apply spec_l16Ok_cc <;> assumption) | (apply spec_PutName_cc <;> assumption) | (apply impl_IsName_cc <;> assumption) | (apply impl_ValidHeap_cc <;> assumption) | (apply impl_NameHeap_put_cc <;> assumption) | (apply impl_PutName_cc <;> assumption) | (apply laws_markText_cc <;> assumption) | (first | (apply is_true; and_intros <;> (first | rfl | assumption | (apply spec_IsName_cc <;> assumption) | (apply spec_l16Ok_cc <;> assumption) | (apply spec_PutName_cc <;> assumption) | (apply impl_IsName_cc <;> assumption) | (apply impl_ValidHeap_cc <;> assumption) | (apply impl_NameHeap_put_cc <;> assumption) | (apply impl_PutName_cc <;> assumption) | (apply laws_markText_cc <;> assumption) | (first | (apply is_true; and_intros <;> (first | rfl | assumption | (apply spec_IsName_cc <;> assumption) | (apply spec_l16Ok_cc <;> assumption) | (apply spec_PutName_cc <;> assumption) | (apply impl_IsName_cc <;> assumption) | (apply impl_ValidHeap_cc <;> assumption) | (apply impl_NameHeap_put_cc <;> assumption) | (apply impl_PutName_cc <;> assumption) | (apply laws_markText_cc <;> assumption))) | (apply spec_IsName_cc <;> assumption) | (apply spec_l16Ok_cc <;> assumption) | (apply spec_PutName_cc <;> assumption) | (apply impl_IsName_cc <;> assumption) | (apply impl_ValidHeap_cc <;> assumption) | (apply impl_NameHeap_put_cc <;> assumption) | (apply impl_PutName_cc <;> assumption) | (apply laws_markText_cc <;> assumption)))) | (apply spec_IsName_cc <;> assumption) | (apply spec_l16Ok_cc <;> assumption) | (apply spec_PutName_cc <;> assumption) | (apply impl_IsName_cc <;> assumption) | (apply impl_ValidHeap_cc <;> assumption) | (apply impl_NameHeap_put_cc <;> assumption) | (apply impl_PutName_cc <;> assumption) | (apply laws_markText_cc <;> assumption)))) | (apply spec_IsName_cc <;> assumption) | (apply spec_l16Ok_cc <;> assumption) | (apply spec_PutName_cc <;> assumption) | (apply impl_IsName_cc <;> assumption) | (apply impl_ValidHeap_cc <;> assumption) | (apply impl_NameHeap_put_cc <;> assumption) | (apply impl_PutName_cc <;> assumption) | (apply laws_markText_cc <;> assumption)))) | (apply spec_IsName_cc <;> assumption) | (apply spec_l16Ok_cc <;> assumption) | (apply spec_PutName_cc <;> assumption) | (apply impl_IsName_cc <;> assumption) | (apply impl_ValidHeap_cc <;> assumption) | (apply impl_NameHeap_put_cc <;> assumption) | (apply impl_PutName_cc <;> assumption) | (apply laws_markText_cc <;> assumption)) | simp [*]) ?_
  refine Tr.t (by first | exact (by first | (apply impl_PutName_cc <;> assumption) | (first | (apply is_true; and_intros <;> (first | rfl | assumption | (apply spec_IsName_cc <;> assumption) | (apply spec_l16Ok_cc <;> assumption) | (apply spec_PutName_cc <;> assumption) | (apply impl_IsName_cc <;> assumption) | (apply impl_ValidHeap_cc <;> assumption) | (apply impl_NameHeap_put_cc <;> assumption) | (apply impl_PutName_cc <;> assumption) | (apply laws_markText_cc <;> assumption) | (first | (apply is_true; and_intros <;> (first | rfl | assumption | (apply spec_IsName_cc <;> assumption) | (apply spec_l16Ok_cc <;> assumption) | (apply spec_PutName_cc <;> assumption) | (apply impl_IsName_cc <;> assumption) | (apply impl_ValidHeap_cc <;> assumption) | (apply impl_NameHeap_put_cc <;> assumption) | (apply impl_PutName_cc <;> assumption) | (apply laws_markText_cc <;> assumption))) | (apply spec_IsName_cc <;> assumption) | (apply spec_l16Ok_cc <;> assumption) | (apply spec_PutName_cc <;> assumption) | (apply impl_IsName_cc <;> assumption) | (apply impl_ValidHeap_cc <;> assumption) | (apply impl_NameHeap_put_cc <;> assumption) | (apply impl_PutName_cc <;> assumption) | (apply laws_markText_cc <;> assumption)))) | (apply spec_IsName_cc <;> assumption) | (apply spec_l16Ok_cc <;> assumption) | (apply spec_PutName_cc <;> assumption) | (apply impl_IsName_cc <;> assumption) | (apply impl_ValidHeap_cc <;> assumption) | (apply impl_NameHeap_put_cc <;> assumption) | (apply impl_PutName_cc <;> assumption) | (apply laws_markText_cc <;> assumption))) | simp [*]) ?_
  refine Tr.t (by first | exact (by first | (apply is_true; and_intros <;> (first | rfl | assumption | (apply spec_IsName_cc <;> assumption) | (apply spec_l16Ok_cc <;> assumption) | (apply spec_PutName_cc <;> assumption) | (apply impl_IsName_cc <;> assumption) | (apply impl_ValidHeap_cc <;> assumption) | (apply impl_NameHeap_put_cc <;> assumption) | (apply impl_PutName_cc <;> assumption) | (apply laws_markText_cc <;> assumption) | (first | (apply is_true; and_intros <;> (first | rfl | assumption | (apply spec_IsName_cc <;> assumption) | (apply spec_l16Ok_cc <;> assumption) | (apply spec_PutName_cc <;> assumption) | (apply impl_IsName_cc <;> assumption) | (apply impl_ValidHeap_cc <;> assumption) | (apply impl_NameHeap_put_cc <;> assumption) | (apply impl_PutName_cc <;> assumption) | (apply laws_markText_cc <;> assumption) | (first | (apply is_true; and_intros <;> (first | rfl | assumption | (apply spec_IsName_cc <;> assumption) | (apply spec_l16Ok_cc <;> assumption) | (apply spec_PutName_cc <;> assumption) | (apply impl_IsName_cc <;> assumption) | (apply impl_ValidHeap_cc <;> assumption) | (apply impl_NameHeap_put_cc <;> assumption) | (apply impl_PutName_cc <;> assumption) | (apply laws_markText_cc <;> assumption) | (first | (apply is_true; and_intros <;> (first | rfl | assumption | (apply spec_IsName_cc <;> assumption) | (apply spec_l16Ok_cc <;> assumption) | (apply spec_PutName_cc <;> assumption) | (apply impl_IsName_cc <;> assumption) | (apply impl_ValidHeap_cc <;> assumption) | (apply impl_NameHeap_put_cc <;> assumption) | (apply impl_PutName_cc <;> assumption) | (apply laws_markText_cc <;> assumption))) | (apply spec_IsName_cc <;> assumption) | (apply spec_l16Ok_cc <;> assumption) | (apply spec_PutName_cc <;> assumption) | (apply impl_IsName_cc <;> assumption) | (apply impl_ValidHeap_cc <;> assumption) | (apply impl_NameHeap_put_cc <;> assumption) | (apply impl_PutName_cc <;> assumption) | (apply laws_markText_cc <;> assumption)))) | (apply spec_IsName_cc <;> assumption) | (apply spec_l16Ok_cc <;> assumption) | (apply spec_PutName_cc <;> assumption) | (apply impl_IsName_cc <;> assumption) | (apply impl_ValidHeap_cc <;> assumption) | (apply impl_NameHeap_put_cc <;> assumption) | (apply impl_PutName_cc <;> assumption) | (apply laws_markText_cc <;> assumption)))) | (apply spec_IsName_cc <;> assumption) | (apply spec_l16Ok_cc <;> assumption) | (apply spec_PutName_cc <;> assumption) | (apply impl_IsName_cc <;> assumption) | (apply impl_ValidHeap_cc <;> assumption) | (apply impl_NameHeap_put_cc <;> assumption) | (apply impl_PutName_cc <;> assumption) | (apply laws_markText_cc <;> assumption)))) | (apply spec_IsName_cc <;> assumption) | (apply spec_l16Ok_cc <;> assumption) | (apply spec_PutName_cc <;> assumption) | (apply impl_IsName_cc <;> assumption) | (apply impl_ValidHeap_cc <;> assumption) | (apply impl_NameHeap_put_cc <;> assumption) | (apply impl_PutName_cc <;> assumption) | (apply laws_markText_cc <;> assumption)) | simp [*]) ?_
  refine Tr.n (by first | (simp [laws_heldStringS_vm, laws_markStringS_v2, laws_markText_v, laws_markNameHeap_v, laws_heldNameHeap_v, laws_eqStringS_v, laws_eqNameHeap_v]; done) | (simp only [laws_heldStringS_vm, laws_markStringS_v2, laws_markText_v, laws_markNameHeap_v, laws_heldNameHeap_v, laws_eqStringS_v, laws_eqNameHeap_v, decide_eq_true_eq]; omega) | (simp [laws_heldStringS_vm, laws_markStringS_v2, laws_markText_v, laws_markNameHeap_v, laws_heldNameHeap_v, laws_eqStringS_v, laws_eqNameHeap_v]; omega) | (simp (disch := omega) only [laws_heldStringS_vm, laws_markStringS_v2, laws_markText_v, laws_markNameHeap_v, laws_heldNameHeap_v, laws_eqStringS_v, laws_eqNameHeap_v, neg_bif, decide_eq_true_eq]; omega) | (simp (disch := omega) [laws_heldStringS_vm, laws_markStringS_v2, laws_markText_v, laws_markNameHeap_v, laws_heldNameHeap_v, laws_eqStringS_v, laws_eqNameHeap_v, neg_bif]; done)) ?_
  refine Tr.n (by first | (simp [laws_heldStringS_vm, laws_markStringS_v2, laws_markText_v, laws_markNameHeap_v, laws_heldNameHeap_v, laws_eqStringS_v, laws_eqNameHeap_v]; done) | (simp only [laws_heldStringS_vm, laws_markStringS_v2, laws_markText_v, laws_markNameHeap_v, laws_heldNameHeap_v, laws_eqStringS_v, laws_eqNameHeap_v, decide_eq_true_eq]; omega) | (simp [laws_heldStringS_vm, laws_markStringS_v2, laws_markText_v, laws_markNameHeap_v, laws_heldNameHeap_v, laws_eqStringS_v, laws_eqNameHeap_v]; omega) | (simp (disch := omega) only [laws_heldStringS_vm, laws_markStringS_v2, laws_markText_v, laws_markNameHeap_v, laws_heldNameHeap_v, laws_eqStringS_v, laws_eqNameHeap_v, neg_bif, decide_eq_true_eq]; omega) | (simp (disch := omega) [laws_heldStringS_vm, laws_markStringS_v2, laws_markText_v, laws_markNameHeap_v, laws_heldNameHeap_v, laws_eqStringS_v, laws_eqNameHeap_v, neg_bif]; done)) ?_
  refine Tr.n (by first | (simp [laws_heldStringS_vm, laws_markStringS_v2, laws_markText_v, laws_markNameHeap_v, laws_heldNameHeap_v, laws_eqStringS_v, laws_eqNameHeap_v]; done) | (simp only [laws_heldStringS_vm, laws_markStringS_v2, laws_markText_v, laws_markNameHeap_v, laws_heldNameHeap_v, laws_eqStringS_v, laws_eqNameHeap_v, decide_eq_true_eq]; omega) | (simp [laws_heldStringS_vm, laws_markStringS_v2, laws_markText_v, laws_markNameHeap_v, laws_heldNameHeap_v, laws_eqStringS_v, laws_eqNameHeap_v]; omega) | (simp (disch := omega) only [laws_heldStringS_vm, laws_markStringS_v2, laws_markText_v, laws_markNameHeap_v, laws_heldNameHeap_v, laws_eqStringS_v, laws_eqNameHeap_v, neg_bif, decide_eq_true_eq]; omega) | (simp (disch := omega) [laws_heldStringS_vm, laws_markStringS_v2, laws_markText_v, laws_markNameHeap_v, laws_heldNameHeap_v, laws_eqStringS_v, laws_eqNameHeap_v, neg_bif]; done)) ?_
  refine Tr.t (by show laws_heldStringS_c _ _ = true; apply laws_heldStringS_cc <;> (first | assumption | omega | (simp only [laws_heldStringS_vm, laws_markStringS_v2, laws_markText_v, laws_markNameHeap_v, laws_heldNameHeap_v]; omega) | (simp (disch := omega) only [laws_heldStringS_vm, laws_markStringS_v2, laws_markText_v, laws_markNameHeap_v, laws_heldNameHeap_v, neg_bif]; omega))) ?_
  refine Tr.n (by first | (simp [laws_heldStringS_vm, laws_markStringS_v2, laws_markText_v, laws_markNameHeap_v, laws_heldNameHeap_v, laws_eqStringS_v, laws_eqNameHeap_v]; done) | (simp only [laws_heldStringS_vm, laws_markStringS_v2, laws_markText_v, laws_markNameHeap_v, laws_heldNameHeap_v, laws_eqStringS_v, laws_eqNameHeap_v, decide_eq_true_eq]; omega) | (simp [laws_heldStringS_vm, laws_markStringS_v2, laws_markText_v, laws_markNameHeap_v, laws_heldNameHeap_v, laws_eqStringS_v, laws_eqNameHeap_v]; omega) | (simp (disch := omega) only [laws_heldStringS_vm, laws_markStringS_v2, laws_markText_v, laws_markNameHeap_v, laws_heldNameHeap_v, laws_eqStringS_v, laws_eqNameHeap_v, neg_bif, decide_eq_true_eq]; omega) | (simp (disch := omega) [laws_heldStringS_vm, laws_markStringS_v2, laws_markText_v, laws_markNameHeap_v, laws_heldNameHeap_v, laws_eqStringS_v, laws_eqNameHeap_v, neg_bif]; done)) ?_
  refine Tr.n (by first | (simp [laws_heldStringS_vm, laws_markStringS_v2, laws_markText_v, laws_markNameHeap_v, laws_heldNameHeap_v, laws_eqStringS_v, laws_eqNameHeap_v]; done) | (simp only [laws_heldStringS_vm, laws_markStringS_v2, laws_markText_v, laws_markNameHeap_v, laws_heldNameHeap_v, laws_eqStringS_v, laws_eqNameHeap_v, decide_eq_true_eq]; omega) | (simp [laws_heldStringS_vm, laws_markStringS_v2, laws_markText_v, laws_markNameHeap_v, laws_heldNameHeap_v, laws_eqStringS_v, laws_eqNameHeap_v]; omega) | (simp (disch := omega) only [laws_heldStringS_vm, laws_markStringS_v2, laws_markText_v, laws_markNameHeap_v, laws_heldNameHeap_v, laws_eqStringS_v, laws_eqNameHeap_v, neg_bif, decide_eq_true_eq]; omega) | (simp (disch := omega) [laws_heldStringS_vm, laws_markStringS_v2, laws_markText_v, laws_markNameHeap_v, laws_heldNameHeap_v, laws_eqStringS_v, laws_eqNameHeap_v, neg_bif]; done)) ?_
  rfl
end Go.Proofs.Ythhdkojpkjkanaa.V
