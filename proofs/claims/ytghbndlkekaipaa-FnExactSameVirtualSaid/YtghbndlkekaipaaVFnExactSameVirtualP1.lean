/- What the functions of FnExactSameVirtual answer. No condition. -/
import Derived.Test.YtghbndlkekaipaaVFacts
namespace Go.Proofs.Ytghbndlkekaipaa.V
open Go
set_option maxRecDepth 100000
set_option linter.unusedVariables false
set_option linter.unusedSectionVars false
set_option linter.unusedSimpArgs false
set_option maxHeartbeats 2000000
def isoL : List (Nat × Nat) := [(25, 31), (45, 55), (47, 57), (49, 59), (63, 69), (66, 72), (77, 82), (135, 93), (151, 122), (161, 126), (163, 128), (189, 147), (215, 193), (31, 25), (55, 45), (57, 47), (59, 49), (69, 63), (72, 66), (82, 77), (93, 135), (122, 151), (126, 161), (128, 163), (147, 189), (193, 215)]
theorem iso_ok : isoOk tab isoL = true := by kernel_rfl
def has4 (s : Int) : Bool := s == 1 || s == 2 || s == 4 || s == 8
def empt (NA NU ME BA : List (List TC)) (ct : Int) : Bool := ((NA.length : Int) == 0) && ((NU.length : Int) == 0) && ((ME.length : Int) == 0) && ((BA.length : Int) == 0) && (ct == 0)
def intV (s : Int) (sg bg : Bool) (NA NU ME BA : List (List TC)) (ct : Int) : Bool := has4 s && !((s == 8) && !sg) && !((s == 1) && bg) && empt NA NU ME BA ct
theorem has4_eq (s : Int) : [[TC.i (1 : Int)], [TC.i (2 : Int)], [TC.i (4 : Int)], [TC.i (8 : Int)]].all (fun x => !((nth x 0).int == s)) = !(has4 s) := by
  show (!((1 : Int) == s) && (!((2 : Int) == s) && (!((4 : Int) == s) && (!((8 : Int) == s) && true)))) = _
  unfold has4
  rw [show ((1 : Int) == s) = (s == 1) from Bool.beq_comm, show ((2 : Int) == s) = (s == 2) from Bool.beq_comm, show ((4 : Int) == s) = (s == 4) from Bool.beq_comm, show ((8 : Int) == s) = (s == 8) from Bool.beq_comm]
  cases (s == 1) <;> cases (s == 2) <;> cases (s == 4) <;> cases (s == 8) <;> rfl

theorem pos_row {BA : List (List TC)} (h : 0 < BA.length) (j : Nat) : rowsDep (nth (row BA (0 : Int)) j).list < rowsDep BA := dep_row ⟨by omega, by omega⟩ j
def sizeV (k s : Int) (BA : List (List TC)) (ct : Int) : Int :=
  bif k == 3 then (nth (row BA (0 : Int)) 1).int
  else bif k == 5 then (if h : 0 < BA.length then IntKind.wrap .i64 (ct * sizeV (nth (row BA (0 : Int)) 0).int (nth (row BA (0 : Int)) 1).int (nth (row BA (0 : Int)) 7).list (nth (row BA (0 : Int)) 8).int) else 0)
  else s
termination_by rowsDep BA
decreasing_by exact pos_row h 7
def sizeC (k : Int) (BA : List (List TC)) : Bool :=
  bif k == 3 then decide (0 < BA.length)
  else bif k == 5 then (if h : 0 < BA.length then sizeC (nth (row BA (0 : Int)) 0).int (nth (row BA (0 : Int)) 7).list else false)
  else true
termination_by rowsDep BA
decreasing_by exact pos_row h 7
theorem dep_max {ME BA : List (List TC)} {x : List TC} (hx : x ∈ ME) (i j : Nat) : max (rowsDep (nth x i).list) (rowsDep (nth x j).list) < max (rowsDep ME) (rowsDep BA) := by
  have a := dep_cell hx i
  have b := dep_cell hx j
  omega
theorem dep_base {ME BA : List (List TC)} (h : 0 < BA.length) (i j : Nat) : max (rowsDep (nth (row BA (0 : Int)) i).list) (rowsDep (nth (row BA (0 : Int)) j).list) < max (rowsDep ME) (rowsDep BA) := by
  have a := pos_row h i
  have b := pos_row h j
  omega
def maxI (a b : Int) : Int := bif decide (a > b) then a else b
noncomputable def depthV (k : Int) (ME BA : List (List TC)) : Int :=
  bif k == 4 then IntKind.wrap .i64 (ME.attach.foldl (fun d x => maxI d (depthV (nth x.1 2).int (nth x.1 8).list (nth x.1 9).list)) 0 + 1)
  else bif k == 5 then (if h : 0 < BA.length then IntKind.wrap .i64 (depthV (nth (row BA (0 : Int)) 0).int (nth (row BA (0 : Int)) 6).list (nth (row BA (0 : Int)) 7).list + 1) else 0)
  else 1
termination_by max (rowsDep ME) (rowsDep BA)
decreasing_by
  · exact dep_max x.2 8 9
  · exact dep_base h 6 7
noncomputable def depthC (k : Int) (ME BA : List (List TC)) : Bool :=
  bif k == 4 then ME.attach.all (fun x => depthC (nth x.1 2).int (nth x.1 8).list (nth x.1 9).list)
  else bif k == 5 then (if h : 0 < BA.length then depthC (nth (row BA (0 : Int)) 0).int (nth (row BA (0 : Int)) 6).list (nth (row BA (0 : Int)) 7).list else false)
  else true
termination_by max (rowsDep ME) (rowsDep BA)
decreasing_by
  · exact dep_max x.2 8 9
  · exact dep_base h 6 7
noncomputable def sameV (k s : Int) (sg bg : Bool) (NA NU ME BA : List (List TC)) (ct : Int) (k2 s2 : Int) (sg2 bg2 : Bool) (NA2 NU2 ME2 BA2 : List (List TC)) (ct2 : Int) : Bool :=
  (k == k2) && ((s == s2) && ((sg == sg2) && ((bg == bg2) && ((ct == ct2) && (eqL NA NA2 && (eqL NU NU2 && (eqL ME ME2 && eqL BA BA2)))))))
noncomputable def selV (sk : Int) (A B C Q P : List (List TC)) (sk2 : Int) (A2 B2 C2 Q2 P2 : List (List TC)) : Bool :=
  (sk == sk2) && (eqL A A2 && (eqL B B2 && (eqL C C2 && (eqL Q Q2 && eqL P P2))))
def mapE (F : List TC → List TC → Bool) (x y : List TC) : Bool := ((nth x 0).str == (nth y 0).str) && F x y
theorem len_12 {α : Type} {l : List α} (h : l.length = 12) : ∃ a0 a1 a2 a3 a4 a5 a6 a7 a8 a9 a10 a11, l = [a0, a1, a2, a3, a4, a5, a6, a7, a8, a9, a10, a11] := by
  match l, h with
  | [a0, a1, a2, a3, a4, a5, a6, a7, a8, a9, a10, a11], _ => exact ⟨a0, a1, a2, a3, a4, a5, a6, a7, a8, a9, a10, a11, rfl⟩
/-! laws_szStringS -/
abbrev laws_szStringS_5_σ := List (List TC) × Int × Int
abbrev laws_szStringS_5_ω := (Int) ⊕ (Int)
noncomputable def laws_szStringS_5_step (A : List (List TC)) (left : Int) (i : Int) : Tr (laws_szStringS_5_σ ⊕ laws_szStringS_5_ω) := (.ite ((decide (i < (A.length : Int))) = true) (.ite ((0 : Int) ≤ i ∧ i < (A.length : Int)) (.ite ((decide ((IntKind.wrap .i64 (left - (((nth (row A i) 0).str).length : Int))) < (0 : Int))) = true) (.ok (.inr (.inl (IntKind.wrap .i64 (left - (((nth (row A i) 0).str).length : Int))))))
    (.ok (.inl (A, (IntKind.wrap .i64 (left - (((nth (row A i) 0).str).length : Int))), (IntKind.wrap .i64 (i + (1 : Int)))))))
   .no)
  (.ok (.inr (.inr left))))
noncomputable def laws_szStringS_5_st : laws_szStringS_5_σ → Tr (laws_szStringS_5_σ ⊕ laws_szStringS_5_ω) := fun x => (laws_szStringS_5_step (x.1) (x.2.1) (x.2.2))
noncomputable def laws_szStringS_k5_1 (A : List (List TC)) (left : Int) (i : Int) : Bool := isL (loopN laws_szStringS_5_st (A.length + 1) (A, left, i))
noncomputable def laws_szStringS_o5_2 (A : List (List TC)) (left : Int) (i : Int) : Bool := is (i = 0 ∧ Typed tab (.slice 9) (.l A))
noncomputable def laws_szStringS_u5_2 (A : List (List TC)) (left : Int) (i : Int) : Int := getL (loopN laws_szStringS_5_st (A.length + 1) (A, left, i))
noncomputable def laws_szStringS_o5_3 (A : List (List TC)) (left : Int) (i : Int) : Bool := is (i = 0 ∧ Typed tab (.slice 9) (.l A))
noncomputable def laws_szStringS_u5_3 (A : List (List TC)) (left : Int) (i : Int) : Int := getR (loopN laws_szStringS_5_st (A.length + 1) (A, left, i))
noncomputable def laws_szStringS_5_fin (A : List (List TC)) (left : Int) (i : Int) : Told laws_szStringS_5_ω := (.br (laws_szStringS_k5_1 A left i) (.leaf (laws_szStringS_o5_2 A left i) (.inl (laws_szStringS_u5_2 A left i))) (.leaf (laws_szStringS_o5_3 A left i) (.inr (laws_szStringS_u5_3 A left i))))
def laws_szStringS_5_sl (x : laws_szStringS_5_σ) : List Slot := [⟨.val false [⟨.slice 9, .sh, TC.l (x.1)⟩], ⟨0, 0⟩⟩, ⟨.val false [⟨.int .i64, .sh, TC.i (x.2.1)⟩], ⟨0, 0⟩⟩, ⟨.val false [⟨.int .i64, .sh, TC.i (x.2.2)⟩], ⟨0, 0⟩⟩]
def laws_szStringS_5_out : laws_szStringS_5_ω → Ex × List Slot := (Sum.elim (fun x => (.ret, [⟨.val false [⟨.int .i64, .sh, TC.i x⟩], ⟨0, 0⟩⟩, ⟨.val false [⟨.int .i64, .sh, TC.i (-1 : Int)⟩], ⟨0, 0⟩⟩])) (fun x => (.exit 0, [⟨.val false [⟨.int .i64, .sh, TC.i x⟩], ⟨0, 0⟩⟩, Slot.none])))
noncomputable def laws_szStringS_lo5 : List Slot → Option (Told (Ex × List Slot)) := fun s => match s with
  | [⟨.val false [⟨.slice 9, .sh, TC.l A⟩], ⟨0, 0⟩⟩, ⟨.val false [⟨.int .i64, .sh, TC.i left⟩], ⟨0, 0⟩⟩, ⟨.val false [⟨.int .i64, .sh, TC.i i⟩], ⟨0, 0⟩⟩] => some (((laws_szStringS_5_fin A left i)).map laws_szStringS_5_out)
  | _ => .none
noncomputable def laws_szStringS_lo : LoopTeller := fun r s => bif Nat.beq r 5 then laws_szStringS_lo5 s else .none
theorem laws_szStringS_5_r (A : List (List TC)) (left : Int) (i : Int) (fuel : Nat) : rounds (rnd tab FT D0 live 94 laws_szStringS_lo 0 5) leave (fuel + 1) (laws_szStringS_5_sl (A, left, i)) = ((laws_szStringS_5_step A left i)).run (goOn (fun s => rounds (rnd tab FT D0 live 94 laws_szStringS_lo 0 5) leave fuel (laws_szStringS_5_sl s)) fun w => some (laws_szStringS_5_out w)) := by kernel_rfl
theorem laws_szStringS_5_h (A : List (List TC)) (left : Int) (i : Int) (ow : laws_szStringS_5_ω) : ((laws_szStringS_5_fin A left i)).val = some ow → ∃ fuel, loopN laws_szStringS_5_st fuel (A, left, i) = some ow := by
  refine auto_two (N := A.length + 1) rfl rfl rfl ?_
  intro ho
  have ho : is (i = 0 ∧ Typed tab (.slice 9) (.l A)) = true := ho.elim id id
  obtain ⟨rfl, ht⟩ := is_iff.1 ho
  have hlen : A.length ≤ 140737488351232 := by have := typed_room ht; simp only [show (tab 9).bytes = 16 from rfl] at this; omega
  refine loopN_ends (step := laws_szStringS_5_st) (N := A.length) (fun i a => (A, a, (i : Int))) (fun i a hi => ?_) (fun a => ?_) A.length 0 left (by omega)
  · show (∃ a', (laws_szStringS_5_step A a (i : Int)).val = _) ∨ ∃ w, (laws_szStringS_5_step A a (i : Int)).val = _
    have c0 : Typed tab (.str) (.s (nth (A.getD i []) 0).str) := typed_s (typed_cell ht (A.getD i []) (mem_getD hi) 0 (by decide))
    cases hneg : ((decide ((IntKind.wrap .i64 (a - (((nth (row A i) 0).str).length : Int))) < (0 : Int))))
    · apply Or.inl
      apply Exists.intro
      · unfold laws_szStringS_5_step
        refine Tr.t (by simp; omega) ?_
        refine Tr.t (by first | omega | (constructor <;> omega)) ?_
        refine Tr.n (by rw [hneg]; simp) ?_
        rw [Tr.val_ok, wrap64 (i := (i : Int) + 1) (by omega) (by omega)]; rfl
    · apply Or.inr
      apply Exists.intro
      · unfold laws_szStringS_5_step
        refine Tr.t (by simp; omega) ?_
        refine Tr.t (by first | omega | (constructor <;> omega)) ?_
        refine Tr.t hneg ?_
        rfl
  · apply Exists.intro
    · show (laws_szStringS_5_step A a (A.length : Int)).val = _
      refine Tr.n (by simp) ?_
      rfl
theorem laws_szStringS_is5 : LoopIs tab FT D0 live 94 laws_szStringS_lo 0 5 := by
  refine loop_told (sl := laws_szStringS_5_sl) (step := laws_szStringS_5_st) (out := laws_szStringS_5_out) (lor := laws_szStringS_lo5) (fin := fun x => (laws_szStringS_5_fin (x.1) (x.2.1) (x.2.2))) (fun _ => rfl) ?_ (fun x n => laws_szStringS_5_r x.1 x.2.1 x.2.2 n) (fun x ow => laws_szStringS_5_h x.1 x.2.1 x.2.2 ow)
  intro s t h
  unfold laws_szStringS_lo5 at h
  split at h
  · cases h; exact ⟨(_, _, _), rfl, rfl⟩
  · cases h
noncomputable def laws_szStringS_t (A : List (List TC)) (left : Int) : Tr (Int) := (.ite ((decide ((IntKind.wrap .i64 (left - (A.length : Int))) < (0 : Int))) = true) (.ok (-1 : Int))
  (.ite ((laws_szStringS_k5_1 A (IntKind.wrap .i64 (left - (A.length : Int))) (0 : Int)) = true) (.ite ((laws_szStringS_o5_2 A (IntKind.wrap .i64 (left - (A.length : Int))) (0 : Int)) = true) (.ok (-1 : Int))
    .no)
   (.ite ((laws_szStringS_o5_3 A (IntKind.wrap .i64 (left - (A.length : Int))) (0 : Int)) = true) (.ok (laws_szStringS_u5_3 A (IntKind.wrap .i64 (left - (A.length : Int))) (0 : Int)))
    .no)))
def laws_szStringS_mk (p : Int) : Res := [(false, [⟨.int .i64, .sh, TC.i p⟩])]
noncomputable def laws_szStringS_c (A : List (List TC)) (left : Int) : Bool := (bif (decide ((IntKind.wrap .i64 (left - (A.length : Int))) < (0 : Int))) then true else (bif (laws_szStringS_k5_1 A (IntKind.wrap .i64 (left - (A.length : Int))) (0 : Int)) then ((laws_szStringS_o5_2 A (IntKind.wrap .i64 (left - (A.length : Int))) (0 : Int)) && true) else ((laws_szStringS_o5_3 A (IntKind.wrap .i64 (left - (A.length : Int))) (0 : Int)) && true)))
noncomputable def laws_szStringS_v (A : List (List TC)) (left : Int) : Int := (bif (decide ((IntKind.wrap .i64 (left - (A.length : Int))) < (0 : Int))) then (-1 : Int) else (bif (laws_szStringS_k5_1 A (IntKind.wrap .i64 (left - (A.length : Int))) (0 : Int)) then (-1 : Int) else (laws_szStringS_u5_3 A (IntKind.wrap .i64 (left - (A.length : Int))) (0 : Int))))
theorem laws_szStringS_l (A : List (List TC)) (left : Int) : (laws_szStringS_c A left) = true → (laws_szStringS_t A left).val = some (laws_szStringS_v A left) := by
  unfold laws_szStringS_t laws_szStringS_v laws_szStringS_c
  exact fun h => (Tr.ss h (fun h => rfl) (fun h => (Tr.ss h (fun h => (Tr.gb h fun h => rfl)) (fun h => (Tr.gb h fun h => rfl)))))
noncomputable def laws_szStringS_S : List Arg → Option (Bool × Res) := fun xs => match xs with
  | [(false, [(.slice 9, TC.l A)]), (false, [(.int .i64, TC.i left)])] => some ((laws_szStringS_c A left), laws_szStringS_mk (laws_szStringS_v A left))
  | _ => .none
theorem laws_szStringS_e (A : List (List TC)) (left : Int) : runF tab FT D0 live 94 laws_szStringS_lo [(false, [(.slice 9, TC.l A)]), (false, [(.int .i64, TC.i left)])] = (laws_szStringS_t A left).run fun p => some (laws_szStringS_mk p) := by kernel_rfl
theorem laws_szStringS_s : ∀ xs r, laws_szStringS_S xs = some (true, r) → runF tab FT D0 live 94 laws_szStringS_lo xs = some r := by
  intro xs r h
  unfold laws_szStringS_S at h
  split at h
  · simp only [Option.some.injEq, Prod.mk.injEq] at h
    obtain ⟨h1, rfl⟩ := h
    exact fun_told (laws_szStringS_e _ _) (laws_szStringS_l _ _) h1
  · cases h
noncomputable def D1 : Dt := also D0 94 laws_szStringS_S
theorem d1 : DOk Go.Proofs.Try.prog tab D1 := d0.also mixed_ok tab_ok names_ok (fnLoops_one (by kernel_rfl) laws_szStringS_is5) laws_szStringS_s
theorem laws_szStringS_cc {A : List (List TC)} {left : Int} (ht : Typed tab (.slice 9) (.l A)) : (laws_szStringS_c A left) = true := by
  unfold laws_szStringS_c
  refine bifT (fun b1 => ?_) (fun b1 => ?_)
  · skip
    rfl
  · skip
    refine bifT (fun b2 => ?_) (fun b2 => ?_)
    · skip
      refine andT (by exact is_true ⟨rfl, ht⟩) ?_
      rfl
    · skip
      refine andT (by exact is_true ⟨rfl, ht⟩) ?_
      rfl
/-! laws_szInt64S -/
noncomputable def laws_szInt64S_t (a0 : List (List TC)) (a1 : Int) : Tr (Int) := (.ite ((decide ((IntKind.wrap .i64 (a1 - (a0.length : Int))) < (0 : Int))) = true) (.ok (-1 : Int))
  (.ok (IntKind.wrap .i64 (a1 - (a0.length : Int)))))
def laws_szInt64S_mk (p : Int) : Res := [(false, [⟨.int .i64, .sh, TC.i p⟩])]
noncomputable def laws_szInt64S_c (a0 : List (List TC)) (a1 : Int) : Bool := true
noncomputable def laws_szInt64S_v (a0 : List (List TC)) (a1 : Int) : Int := (bif (decide ((IntKind.wrap .i64 (a1 - (a0.length : Int))) < (0 : Int))) then (-1 : Int) else (IntKind.wrap .i64 (a1 - (a0.length : Int))))
theorem laws_szInt64S_l (a0 : List (List TC)) (a1 : Int) : (laws_szInt64S_c a0 a1) = true → (laws_szInt64S_t a0 a1).val = some (laws_szInt64S_v a0 a1) := by
  intro h
  skip
  unfold laws_szInt64S_t laws_szInt64S_v
  exact (Tr.s rfl rfl)
noncomputable def laws_szInt64S_S : List Arg → Option (Bool × Res) := fun xs => match xs with
  | [(false, [(.slice 2, TC.l a0)]), (false, [(.int .i64, TC.i a1)])] => some (true, laws_szInt64S_mk (laws_szInt64S_v a0 a1))
  | _ => .none
theorem laws_szInt64S_e (a0 : List (List TC)) (a1 : Int) : runF tab FT D1 live 62 noLoops [(false, [(.slice 2, TC.l a0)]), (false, [(.int .i64, TC.i a1)])] = (laws_szInt64S_t a0 a1).run fun p => some (laws_szInt64S_mk p) := by kernel_rfl
theorem laws_szInt64S_s : ∀ xs r, laws_szInt64S_S xs = some (true, r) → runF tab FT D1 live 62 noLoops xs = some r := by
  intro xs r h
  unfold laws_szInt64S_S at h
  split at h
  · simp only [Option.some.injEq, Prod.mk.injEq] at h
    obtain ⟨h1, rfl⟩ := h
    exact fun_told (laws_szInt64S_e _ _) (laws_szInt64S_l _ _) rfl
  · cases h
noncomputable def D2 : Dt := also D1 62 laws_szInt64S_S
theorem d2 : DOk Go.Proofs.Try.prog tab D2 := d1.also mixed_ok tab_ok names_ok noLoops_ok laws_szInt64S_s
/-! laws_szType calls itself -/
section
class laws_szType_O where R : (Int) → (Int) → (Bool) → (Bool) → (List (List TC)) → (List (List TC)) → (List (List TC)) → (List (List TC)) → (Int) → (Int) → Bool × (Int)
variable [i_laws_szType : laws_szType_O]
def laws_szType_rc (x0 : Int) (x1 : Int) (x2 : Bool) (x3 : Bool) (x4 : List (List TC)) (x5 : List (List TC)) (x6 : List (List TC)) (x7 : List (List TC)) (x8 : Int) (x9 : Int) : Bool := ((laws_szType_O.R x0 x1 x2 x3 x4 x5 x6 x7 x8 x9)).1
def laws_szType_rv (x0 : Int) (x1 : Int) (x2 : Bool) (x3 : Bool) (x4 : List (List TC)) (x5 : List (List TC)) (x6 : List (List TC)) (x7 : List (List TC)) (x8 : Int) (x9 : Int) : Int := ((laws_szType_O.R x0 x1 x2 x3 x4 x5 x6 x7 x8 x9)).2
def laws_szType_rmk (p : Int) : Res := [(false, [⟨.int .i64, .sh, TC.i p⟩])]
noncomputable def laws_szType_rS : List Arg → Option (Bool × Res) := fun xs => match xs with
  | [(true, [(.int .i64, TC.i x0), (.int .i64, TC.i x1), (.bool, TC.b x2), (.bool, TC.b x3), (.slice 9, TC.l x4), (.slice 2, TC.l x5), (.slice 189, TC.l x6), (.slice 45, TC.l x7), (.int .i64, TC.i x8)]), (false, [(.int .i64, TC.i x9)])] => some ((laws_szType_rc x0 x1 x2 x3 x4 x5 x6 x7 x8 x9), laws_szType_rmk (laws_szType_rv x0 x1 x2 x3 x4 x5 x6 x7 x8 x9))
  | _ => .none
noncomputable def D3 : Dt := also D2 60 laws_szType_rS
class laws_szType_G : Prop where ok : DOk Go.Proofs.Try.prog tab D3
variable [g_laws_szType : laws_szType_G]
theorem d3 : DOk Go.Proofs.Try.prog tab D3 := laws_szType_G.ok
/-! laws_szMember -/
noncomputable def laws_szMember_t (x0 : List UInt8) (x1 : Int) (x2 : Int) (x3 : Int) (x4 : Bool) (x5 : Bool) (x6 : List (List TC)) (x7 : List (List TC)) (x8 : List (List TC)) (x9 : List (List TC)) (x10 : Int) (x11 : Int) : Tr (Int) := (.ite ((decide ((IntKind.wrap .i64 (x11 - (x0.length : Int))) < (0 : Int))) = true) (.ok (-1 : Int))
  (.ite ((laws_szType_rc x2 x3 x4 x5 x6 x7 x8 x9 x10 (IntKind.wrap .i64 (x11 - (x0.length : Int)))) = true) (.ite ((decide ((laws_szType_rv x2 x3 x4 x5 x6 x7 x8 x9 x10 (IntKind.wrap .i64 (x11 - (x0.length : Int)))) < (0 : Int))) = true) (.ok (-1 : Int))
    (.ok (laws_szType_rv x2 x3 x4 x5 x6 x7 x8 x9 x10 (IntKind.wrap .i64 (x11 - (x0.length : Int))))))
   .no))
def laws_szMember_mk (p : Int) : Res := [(false, [⟨.int .i64, .sh, TC.i p⟩])]
noncomputable def laws_szMember_c (x0 : List UInt8) (x1 : Int) (x2 : Int) (x3 : Int) (x4 : Bool) (x5 : Bool) (x6 : List (List TC)) (x7 : List (List TC)) (x8 : List (List TC)) (x9 : List (List TC)) (x10 : Int) (x11 : Int) : Bool := (bif (decide ((IntKind.wrap .i64 (x11 - (x0.length : Int))) < (0 : Int))) then true else ((laws_szType_rc x2 x3 x4 x5 x6 x7 x8 x9 x10 (IntKind.wrap .i64 (x11 - (x0.length : Int)))) && (bif (decide ((laws_szType_rv x2 x3 x4 x5 x6 x7 x8 x9 x10 (IntKind.wrap .i64 (x11 - (x0.length : Int)))) < (0 : Int))) then true else true)))
noncomputable def laws_szMember_v (x0 : List UInt8) (x1 : Int) (x2 : Int) (x3 : Int) (x4 : Bool) (x5 : Bool) (x6 : List (List TC)) (x7 : List (List TC)) (x8 : List (List TC)) (x9 : List (List TC)) (x10 : Int) (x11 : Int) : Int := (bif (decide ((IntKind.wrap .i64 (x11 - (x0.length : Int))) < (0 : Int))) then (-1 : Int) else (bif (decide ((laws_szType_rv x2 x3 x4 x5 x6 x7 x8 x9 x10 (IntKind.wrap .i64 (x11 - (x0.length : Int)))) < (0 : Int))) then (-1 : Int) else (laws_szType_rv x2 x3 x4 x5 x6 x7 x8 x9 x10 (IntKind.wrap .i64 (x11 - (x0.length : Int))))))
theorem laws_szMember_l (x0 : List UInt8) (x1 : Int) (x2 : Int) (x3 : Int) (x4 : Bool) (x5 : Bool) (x6 : List (List TC)) (x7 : List (List TC)) (x8 : List (List TC)) (x9 : List (List TC)) (x10 : Int) (x11 : Int) : (laws_szMember_c x0 x1 x2 x3 x4 x5 x6 x7 x8 x9 x10 x11) = true → (laws_szMember_t x0 x1 x2 x3 x4 x5 x6 x7 x8 x9 x10 x11).val = some (laws_szMember_v x0 x1 x2 x3 x4 x5 x6 x7 x8 x9 x10 x11) := by
  unfold laws_szMember_t laws_szMember_v laws_szMember_c
  exact fun h => (Tr.ss h (fun h => rfl) (fun h => (Tr.gb h fun h => (Tr.ss h (fun h => rfl) (fun h => rfl)))))
noncomputable def laws_szMember_S : List Arg → Option (Bool × Res) := fun xs => match xs with
  | [(true, [(.str, TC.s x0), (.int .i64, TC.i x1), (.int .i64, TC.i x2), (.int .i64, TC.i x3), (.bool, TC.b x4), (.bool, TC.b x5), (.slice 9, TC.l x6), (.slice 2, TC.l x7), (.slice 189, TC.l x8), (.slice 45, TC.l x9), (.int .i64, TC.i x10)]), (false, [(.int .i64, TC.i x11)])] => some ((laws_szMember_c x0 x1 x2 x3 x4 x5 x6 x7 x8 x9 x10 x11), laws_szMember_mk (laws_szMember_v x0 x1 x2 x3 x4 x5 x6 x7 x8 x9 x10 x11))
  | _ => .none
theorem laws_szMember_e (x0 : List UInt8) (x1 : Int) (x2 : Int) (x3 : Int) (x4 : Bool) (x5 : Bool) (x6 : List (List TC)) (x7 : List (List TC)) (x8 : List (List TC)) (x9 : List (List TC)) (x10 : Int) (x11 : Int) : runF tab FT D3 live 137 noLoops [(true, [(.str, TC.s x0), (.int .i64, TC.i x1), (.int .i64, TC.i x2), (.int .i64, TC.i x3), (.bool, TC.b x4), (.bool, TC.b x5), (.slice 9, TC.l x6), (.slice 2, TC.l x7), (.slice 189, TC.l x8), (.slice 45, TC.l x9), (.int .i64, TC.i x10)]), (false, [(.int .i64, TC.i x11)])] = (laws_szMember_t x0 x1 x2 x3 x4 x5 x6 x7 x8 x9 x10 x11).run fun p => some (laws_szMember_mk p) := by kernel_rfl
theorem laws_szMember_s : ∀ xs r, laws_szMember_S xs = some (true, r) → runF tab FT D3 live 137 noLoops xs = some r := by
  intro xs r h
  unfold laws_szMember_S at h
  split at h
  · simp only [Option.some.injEq, Prod.mk.injEq] at h
    obtain ⟨h1, rfl⟩ := h
    exact fun_told (laws_szMember_e _ _ _ _ _ _ _ _ _ _ _ _) (laws_szMember_l _ _ _ _ _ _ _ _ _ _ _ _) h1
  · cases h
noncomputable def D4 : Dt := also D3 137 laws_szMember_S
theorem d4 : DOk Go.Proofs.Try.prog tab D4 := d3.also mixed_ok tab_ok names_ok noLoops_ok laws_szMember_s
theorem laws_szMember_cc {x0 : List UInt8} {x1 : Int} {x2 : Int} {x3 : Int} {x4 : Bool} {x5 : Bool} {x6 : List (List TC)} {x7 : List (List TC)} {x8 : List (List TC)} {x9 : List (List TC)} {x10 : Int} {x11 : Int} (t6 : Typed tab (.slice 9) (.l x6)) (t7 : Typed tab (.slice 2) (.l x7)) (t8 : Typed tab (.slice 189) (.l x8)) (t9 : Typed tab (.slice 45) (.l x9)) (h0 : (∀ left : Int, laws_szType_rc x2 x3 x4 x5 x6 x7 x8 x9 x10 left = true)) : (laws_szMember_c x0 x1 x2 x3 x4 x5 x6 x7 x8 x9 x10 x11) = true := by
  unfold laws_szMember_c
  refine bifT (fun b1 => ?_) (fun b1 => ?_)
  · skip
    rfl
  · skip
    refine andT (by exact h0 _) ?_
    refine bifT (fun b2 => ?_) (fun b2 => ?_)
    · skip
      rfl
    · skip
      rfl
/-! laws_szMemberS -/
abbrev laws_szMemberS_5_σ := List (List TC) × Int × Int
abbrev laws_szMemberS_5_ω := (Int) ⊕ (Int)
noncomputable def laws_szMemberS_5_step (A : List (List TC)) (left : Int) (i : Int) : Tr (laws_szMemberS_5_σ ⊕ laws_szMemberS_5_ω) := (.ite ((decide (i < (A.length : Int))) = true) (.ite ((0 : Int) ≤ i ∧ i < (A.length : Int)) (.ite ((laws_szMember_c ((nth (row A i) 0).str) ((nth (row A i) 1).int) ((nth (row A i) 2).int) ((nth (row A i) 3).int) ((nth (row A i) 4).bool) ((nth (row A i) 5).bool) ((nth (row A i) 6).list) ((nth (row A i) 7).list) ((nth (row A i) 8).list) ((nth (row A i) 9).list) ((nth (row A i) 10).int) left) = true) (.ite ((decide ((laws_szMember_v ((nth (row A i) 0).str) ((nth (row A i) 1).int) ((nth (row A i) 2).int) ((nth (row A i) 3).int) ((nth (row A i) 4).bool) ((nth (row A i) 5).bool) ((nth (row A i) 6).list) ((nth (row A i) 7).list) ((nth (row A i) 8).list) ((nth (row A i) 9).list) ((nth (row A i) 10).int) left) < (0 : Int))) = true) (.ok (.inr (.inl (laws_szMember_v ((nth (row A i) 0).str) ((nth (row A i) 1).int) ((nth (row A i) 2).int) ((nth (row A i) 3).int) ((nth (row A i) 4).bool) ((nth (row A i) 5).bool) ((nth (row A i) 6).list) ((nth (row A i) 7).list) ((nth (row A i) 8).list) ((nth (row A i) 9).list) ((nth (row A i) 10).int) left))))
     (.ok (.inl (A, (laws_szMember_v ((nth (row A i) 0).str) ((nth (row A i) 1).int) ((nth (row A i) 2).int) ((nth (row A i) 3).int) ((nth (row A i) 4).bool) ((nth (row A i) 5).bool) ((nth (row A i) 6).list) ((nth (row A i) 7).list) ((nth (row A i) 8).list) ((nth (row A i) 9).list) ((nth (row A i) 10).int) left), (IntKind.wrap .i64 (i + (1 : Int)))))))
    .no)
   .no)
  (.ok (.inr (.inr left))))
noncomputable def laws_szMemberS_5_st : laws_szMemberS_5_σ → Tr (laws_szMemberS_5_σ ⊕ laws_szMemberS_5_ω) := fun x => (laws_szMemberS_5_step (x.1) (x.2.1) (x.2.2))
noncomputable def laws_szMemberS_k5_1 (A : List (List TC)) (left : Int) (i : Int) : Bool := isL (loopN laws_szMemberS_5_st (A.length + 1) (A, left, i))
noncomputable def laws_szMemberS_o5_2 (A : List (List TC)) (left : Int) (i : Int) : Bool := is (i = 0 ∧ Typed tab (.slice 189) (.l A) ∧ (∀ x : List TC, x ∈ A → ∀ left : Int, (laws_szMember_c ((nth x 0).str) ((nth x 1).int) ((nth x 2).int) ((nth x 3).int) ((nth x 4).bool) ((nth x 5).bool) ((nth x 6).list) ((nth x 7).list) ((nth x 8).list) ((nth x 9).list) ((nth x 10).int) left) = true))
noncomputable def laws_szMemberS_u5_2 (A : List (List TC)) (left : Int) (i : Int) : Int := getL (loopN laws_szMemberS_5_st (A.length + 1) (A, left, i))
noncomputable def laws_szMemberS_o5_3 (A : List (List TC)) (left : Int) (i : Int) : Bool := is (i = 0 ∧ Typed tab (.slice 189) (.l A) ∧ (∀ x : List TC, x ∈ A → ∀ left : Int, (laws_szMember_c ((nth x 0).str) ((nth x 1).int) ((nth x 2).int) ((nth x 3).int) ((nth x 4).bool) ((nth x 5).bool) ((nth x 6).list) ((nth x 7).list) ((nth x 8).list) ((nth x 9).list) ((nth x 10).int) left) = true))
noncomputable def laws_szMemberS_u5_3 (A : List (List TC)) (left : Int) (i : Int) : Int := getR (loopN laws_szMemberS_5_st (A.length + 1) (A, left, i))
noncomputable def laws_szMemberS_5_fin (A : List (List TC)) (left : Int) (i : Int) : Told laws_szMemberS_5_ω := (.br (laws_szMemberS_k5_1 A left i) (.leaf (laws_szMemberS_o5_2 A left i) (.inl (laws_szMemberS_u5_2 A left i))) (.leaf (laws_szMemberS_o5_3 A left i) (.inr (laws_szMemberS_u5_3 A left i))))
def laws_szMemberS_5_sl (x : laws_szMemberS_5_σ) : List Slot := [⟨.val false [⟨.slice 189, .sh, TC.l (x.1)⟩], ⟨0, 0⟩⟩, ⟨.val false [⟨.int .i64, .sh, TC.i (x.2.1)⟩], ⟨0, 0⟩⟩, ⟨.val false [⟨.int .i64, .sh, TC.i (x.2.2)⟩], ⟨0, 0⟩⟩]
def laws_szMemberS_5_out : laws_szMemberS_5_ω → Ex × List Slot := (Sum.elim (fun x => (.ret, [⟨.val false [⟨.int .i64, .sh, TC.i x⟩], ⟨0, 0⟩⟩, ⟨.val false [⟨.int .i64, .sh, TC.i (-1 : Int)⟩], ⟨0, 0⟩⟩])) (fun x => (.exit 0, [⟨.val false [⟨.int .i64, .sh, TC.i x⟩], ⟨0, 0⟩⟩, Slot.none])))
noncomputable def laws_szMemberS_lo5 : List Slot → Option (Told (Ex × List Slot)) := fun s => match s with
  | [⟨.val false [⟨.slice 189, .sh, TC.l A⟩], ⟨0, 0⟩⟩, ⟨.val false [⟨.int .i64, .sh, TC.i left⟩], ⟨0, 0⟩⟩, ⟨.val false [⟨.int .i64, .sh, TC.i i⟩], ⟨0, 0⟩⟩] => some (((laws_szMemberS_5_fin A left i)).map laws_szMemberS_5_out)
  | _ => .none
noncomputable def laws_szMemberS_lo : LoopTeller := fun r s => bif Nat.beq r 5 then laws_szMemberS_lo5 s else .none
theorem laws_szMemberS_5_r (A : List (List TC)) (left : Int) (i : Int) (fuel : Nat) : rounds (rnd tab FT D4 live 95 laws_szMemberS_lo 0 5) leave (fuel + 1) (laws_szMemberS_5_sl (A, left, i)) = ((laws_szMemberS_5_step A left i)).run (goOn (fun s => rounds (rnd tab FT D4 live 95 laws_szMemberS_lo 0 5) leave fuel (laws_szMemberS_5_sl s)) fun w => some (laws_szMemberS_5_out w)) := by kernel_rfl
theorem laws_szMemberS_5_h (A : List (List TC)) (left : Int) (i : Int) (ow : laws_szMemberS_5_ω) : ((laws_szMemberS_5_fin A left i)).val = some ow → ∃ fuel, loopN laws_szMemberS_5_st fuel (A, left, i) = some ow := by
  refine auto_two (N := A.length + 1) rfl rfl rfl ?_
  intro ho
  have ho : is (i = 0 ∧ Typed tab (.slice 189) (.l A) ∧ (∀ x : List TC, x ∈ A → ∀ left : Int, (laws_szMember_c ((nth x 0).str) ((nth x 1).int) ((nth x 2).int) ((nth x 3).int) ((nth x 4).bool) ((nth x 5).bool) ((nth x 6).list) ((nth x 7).list) ((nth x 8).list) ((nth x 9).list) ((nth x 10).int) left) = true)) = true := ho.elim id id
  obtain ⟨rfl, ht, hr0⟩ := is_iff.1 ho
  have hlen : A.length ≤ 140737488351232 := by have := typed_room ht; simp only [show (tab 189).bytes = 152 from rfl] at this; omega
  refine loopN_ends (step := laws_szMemberS_5_st) (N := A.length) (fun i a => (A, a, (i : Int))) (fun i a hi => ?_) (fun a => ?_) A.length 0 left (by omega)
  · show (∃ a', (laws_szMemberS_5_step A a (i : Int)).val = _) ∨ ∃ w, (laws_szMemberS_5_step A a (i : Int)).val = _
    have c0 : Typed tab (.str) (.s (nth (A.getD i []) 0).str) := typed_s (typed_cell ht (A.getD i []) (mem_getD hi) 0 (by decide))
    have c6 : Typed tab (.slice 9) (.l (nth (A.getD i []) 6).list) := typed_list (typed_cell ht (A.getD i []) (mem_getD hi) 6 (by decide))
    have c7 : Typed tab (.slice 2) (.l (nth (A.getD i []) 7).list) := typed_list (typed_cell ht (A.getD i []) (mem_getD hi) 7 (by decide))
    have c8 : Typed tab (.slice 189) (.l (nth (A.getD i []) 8).list) := typed_list (typed_cell ht (A.getD i []) (mem_getD hi) 8 (by decide))
    have c9 : Typed tab (.slice 45) (.l (nth (A.getD i []) 9).list) := typed_list (typed_cell ht (A.getD i []) (mem_getD hi) 9 (by decide))
    cases hneg : ((decide ((laws_szMember_v ((nth (row A i) 0).str) ((nth (row A i) 1).int) ((nth (row A i) 2).int) ((nth (row A i) 3).int) ((nth (row A i) 4).bool) ((nth (row A i) 5).bool) ((nth (row A i) 6).list) ((nth (row A i) 7).list) ((nth (row A i) 8).list) ((nth (row A i) 9).list) ((nth (row A i) 10).int) a) < (0 : Int))))
    · apply Or.inl
      apply Exists.intro
      · unfold laws_szMemberS_5_step
        refine Tr.t (by simp; omega) ?_
        refine Tr.t (by first | omega | (constructor <;> omega)) ?_
        refine Tr.t (hr0 (A.getD i []) (mem_getD hi) a) ?_
        refine Tr.n (by rw [hneg]; simp) ?_
        rw [Tr.val_ok, wrap64 (i := (i : Int) + 1) (by omega) (by omega)]; rfl
    · apply Or.inr
      apply Exists.intro
      · unfold laws_szMemberS_5_step
        refine Tr.t (by simp; omega) ?_
        refine Tr.t (by first | omega | (constructor <;> omega)) ?_
        refine Tr.t (hr0 (A.getD i []) (mem_getD hi) a) ?_
        refine Tr.t hneg ?_
        rfl
  · apply Exists.intro
    · show (laws_szMemberS_5_step A a (A.length : Int)).val = _
      refine Tr.n (by simp) ?_
      rfl
theorem laws_szMemberS_is5 : LoopIs tab FT D4 live 95 laws_szMemberS_lo 0 5 := by
  refine loop_told (sl := laws_szMemberS_5_sl) (step := laws_szMemberS_5_st) (out := laws_szMemberS_5_out) (lor := laws_szMemberS_lo5) (fin := fun x => (laws_szMemberS_5_fin (x.1) (x.2.1) (x.2.2))) (fun _ => rfl) ?_ (fun x n => laws_szMemberS_5_r x.1 x.2.1 x.2.2 n) (fun x ow => laws_szMemberS_5_h x.1 x.2.1 x.2.2 ow)
  intro s t h
  unfold laws_szMemberS_lo5 at h
  split at h
  · cases h; exact ⟨(_, _, _), rfl, rfl⟩
  · cases h
noncomputable def laws_szMemberS_t (A : List (List TC)) (left : Int) : Tr (Int) := (.ite ((decide ((IntKind.wrap .i64 (left - (A.length : Int))) < (0 : Int))) = true) (.ok (-1 : Int))
  (.ite ((laws_szMemberS_k5_1 A (IntKind.wrap .i64 (left - (A.length : Int))) (0 : Int)) = true) (.ite ((laws_szMemberS_o5_2 A (IntKind.wrap .i64 (left - (A.length : Int))) (0 : Int)) = true) (.ok (-1 : Int))
    .no)
   (.ite ((laws_szMemberS_o5_3 A (IntKind.wrap .i64 (left - (A.length : Int))) (0 : Int)) = true) (.ok (laws_szMemberS_u5_3 A (IntKind.wrap .i64 (left - (A.length : Int))) (0 : Int)))
    .no)))
def laws_szMemberS_mk (p : Int) : Res := [(false, [⟨.int .i64, .sh, TC.i p⟩])]
noncomputable def laws_szMemberS_c (A : List (List TC)) (left : Int) : Bool := (bif (decide ((IntKind.wrap .i64 (left - (A.length : Int))) < (0 : Int))) then true else (bif (laws_szMemberS_k5_1 A (IntKind.wrap .i64 (left - (A.length : Int))) (0 : Int)) then ((laws_szMemberS_o5_2 A (IntKind.wrap .i64 (left - (A.length : Int))) (0 : Int)) && true) else ((laws_szMemberS_o5_3 A (IntKind.wrap .i64 (left - (A.length : Int))) (0 : Int)) && true)))
noncomputable def laws_szMemberS_v (A : List (List TC)) (left : Int) : Int := (bif (decide ((IntKind.wrap .i64 (left - (A.length : Int))) < (0 : Int))) then (-1 : Int) else (bif (laws_szMemberS_k5_1 A (IntKind.wrap .i64 (left - (A.length : Int))) (0 : Int)) then (-1 : Int) else (laws_szMemberS_u5_3 A (IntKind.wrap .i64 (left - (A.length : Int))) (0 : Int))))
theorem laws_szMemberS_l (A : List (List TC)) (left : Int) : (laws_szMemberS_c A left) = true → (laws_szMemberS_t A left).val = some (laws_szMemberS_v A left) := by
  unfold laws_szMemberS_t laws_szMemberS_v laws_szMemberS_c
  exact fun h => (Tr.ss h (fun h => rfl) (fun h => (Tr.ss h (fun h => (Tr.gb h fun h => rfl)) (fun h => (Tr.gb h fun h => rfl)))))
noncomputable def laws_szMemberS_S : List Arg → Option (Bool × Res) := fun xs => match xs with
  | [(false, [(.slice 189, TC.l A)]), (false, [(.int .i64, TC.i left)])] => some ((laws_szMemberS_c A left), laws_szMemberS_mk (laws_szMemberS_v A left))
  | _ => .none
theorem laws_szMemberS_e (A : List (List TC)) (left : Int) : runF tab FT D4 live 95 laws_szMemberS_lo [(false, [(.slice 189, TC.l A)]), (false, [(.int .i64, TC.i left)])] = (laws_szMemberS_t A left).run fun p => some (laws_szMemberS_mk p) := by kernel_rfl
theorem laws_szMemberS_s : ∀ xs r, laws_szMemberS_S xs = some (true, r) → runF tab FT D4 live 95 laws_szMemberS_lo xs = some r := by
  intro xs r h
  unfold laws_szMemberS_S at h
  split at h
  · simp only [Option.some.injEq, Prod.mk.injEq] at h
    obtain ⟨h1, rfl⟩ := h
    exact fun_told (laws_szMemberS_e _ _) (laws_szMemberS_l _ _) h1
  · cases h
noncomputable def D5 : Dt := also D4 95 laws_szMemberS_S
theorem d5 : DOk Go.Proofs.Try.prog tab D5 := d4.also mixed_ok tab_ok names_ok (fnLoops_one (by kernel_rfl) laws_szMemberS_is5) laws_szMemberS_s
theorem laws_szMemberS_cc {A : List (List TC)} {left : Int} (ht : Typed tab (.slice 189) (.l A)) (hr0 : (∀ x : List TC, x ∈ A → ∀ left : Int, (laws_szMember_c ((nth x 0).str) ((nth x 1).int) ((nth x 2).int) ((nth x 3).int) ((nth x 4).bool) ((nth x 5).bool) ((nth x 6).list) ((nth x 7).list) ((nth x 8).list) ((nth x 9).list) ((nth x 10).int) left) = true)) : (laws_szMemberS_c A left) = true := by
  unfold laws_szMemberS_c
  refine bifT (fun b1 => ?_) (fun b1 => ?_)
  · skip
    rfl
  · skip
    refine bifT (fun b2 => ?_) (fun b2 => ?_)
    · skip
      refine andT (by exact is_true ⟨rfl, ht, hr0⟩) ?_
      rfl
    · skip
      refine andT (by exact is_true ⟨rfl, ht, hr0⟩) ?_
      rfl
/-! laws_szTypeS -/
abbrev laws_szTypeS_5_σ := List (List TC) × Int × Int
abbrev laws_szTypeS_5_ω := (Int) ⊕ (Int)
noncomputable def laws_szTypeS_5_step (A : List (List TC)) (left : Int) (i : Int) : Tr (laws_szTypeS_5_σ ⊕ laws_szTypeS_5_ω) := (.ite ((decide (i < (A.length : Int))) = true) (.ite ((0 : Int) ≤ i ∧ i < (A.length : Int)) (.ite ((laws_szType_rc ((nth (row A i) 0).int) ((nth (row A i) 1).int) ((nth (row A i) 2).bool) ((nth (row A i) 3).bool) ((nth (row A i) 4).list) ((nth (row A i) 5).list) ((nth (row A i) 6).list) ((nth (row A i) 7).list) ((nth (row A i) 8).int) left) = true) (.ite ((decide ((laws_szType_rv ((nth (row A i) 0).int) ((nth (row A i) 1).int) ((nth (row A i) 2).bool) ((nth (row A i) 3).bool) ((nth (row A i) 4).list) ((nth (row A i) 5).list) ((nth (row A i) 6).list) ((nth (row A i) 7).list) ((nth (row A i) 8).int) left) < (0 : Int))) = true) (.ok (.inr (.inl (laws_szType_rv ((nth (row A i) 0).int) ((nth (row A i) 1).int) ((nth (row A i) 2).bool) ((nth (row A i) 3).bool) ((nth (row A i) 4).list) ((nth (row A i) 5).list) ((nth (row A i) 6).list) ((nth (row A i) 7).list) ((nth (row A i) 8).int) left))))
     (.ok (.inl (A, (laws_szType_rv ((nth (row A i) 0).int) ((nth (row A i) 1).int) ((nth (row A i) 2).bool) ((nth (row A i) 3).bool) ((nth (row A i) 4).list) ((nth (row A i) 5).list) ((nth (row A i) 6).list) ((nth (row A i) 7).list) ((nth (row A i) 8).int) left), (IntKind.wrap .i64 (i + (1 : Int)))))))
    .no)
   .no)
  (.ok (.inr (.inr left))))
noncomputable def laws_szTypeS_5_st : laws_szTypeS_5_σ → Tr (laws_szTypeS_5_σ ⊕ laws_szTypeS_5_ω) := fun x => (laws_szTypeS_5_step (x.1) (x.2.1) (x.2.2))
noncomputable def laws_szTypeS_k5_1 (A : List (List TC)) (left : Int) (i : Int) : Bool := isL (loopN laws_szTypeS_5_st (A.length + 1) (A, left, i))
noncomputable def laws_szTypeS_o5_2 (A : List (List TC)) (left : Int) (i : Int) : Bool := is (i = 0 ∧ Typed tab (.slice 45) (.l A) ∧ (∀ x : List TC, x ∈ A → ∀ left : Int, (laws_szType_rc ((nth x 0).int) ((nth x 1).int) ((nth x 2).bool) ((nth x 3).bool) ((nth x 4).list) ((nth x 5).list) ((nth x 6).list) ((nth x 7).list) ((nth x 8).int) left) = true))
noncomputable def laws_szTypeS_u5_2 (A : List (List TC)) (left : Int) (i : Int) : Int := getL (loopN laws_szTypeS_5_st (A.length + 1) (A, left, i))
noncomputable def laws_szTypeS_o5_3 (A : List (List TC)) (left : Int) (i : Int) : Bool := is (i = 0 ∧ Typed tab (.slice 45) (.l A) ∧ (∀ x : List TC, x ∈ A → ∀ left : Int, (laws_szType_rc ((nth x 0).int) ((nth x 1).int) ((nth x 2).bool) ((nth x 3).bool) ((nth x 4).list) ((nth x 5).list) ((nth x 6).list) ((nth x 7).list) ((nth x 8).int) left) = true))
noncomputable def laws_szTypeS_u5_3 (A : List (List TC)) (left : Int) (i : Int) : Int := getR (loopN laws_szTypeS_5_st (A.length + 1) (A, left, i))
noncomputable def laws_szTypeS_5_fin (A : List (List TC)) (left : Int) (i : Int) : Told laws_szTypeS_5_ω := (.br (laws_szTypeS_k5_1 A left i) (.leaf (laws_szTypeS_o5_2 A left i) (.inl (laws_szTypeS_u5_2 A left i))) (.leaf (laws_szTypeS_o5_3 A left i) (.inr (laws_szTypeS_u5_3 A left i))))
def laws_szTypeS_5_sl (x : laws_szTypeS_5_σ) : List Slot := [⟨.val false [⟨.slice 45, .sh, TC.l (x.1)⟩], ⟨0, 0⟩⟩, ⟨.val false [⟨.int .i64, .sh, TC.i (x.2.1)⟩], ⟨0, 0⟩⟩, ⟨.val false [⟨.int .i64, .sh, TC.i (x.2.2)⟩], ⟨0, 0⟩⟩]
def laws_szTypeS_5_out : laws_szTypeS_5_ω → Ex × List Slot := (Sum.elim (fun x => (.ret, [⟨.val false [⟨.int .i64, .sh, TC.i x⟩], ⟨0, 0⟩⟩, ⟨.val false [⟨.int .i64, .sh, TC.i (-1 : Int)⟩], ⟨0, 0⟩⟩])) (fun x => (.exit 0, [⟨.val false [⟨.int .i64, .sh, TC.i x⟩], ⟨0, 0⟩⟩, Slot.none])))
noncomputable def laws_szTypeS_lo5 : List Slot → Option (Told (Ex × List Slot)) := fun s => match s with
  | [⟨.val false [⟨.slice 45, .sh, TC.l A⟩], ⟨0, 0⟩⟩, ⟨.val false [⟨.int .i64, .sh, TC.i left⟩], ⟨0, 0⟩⟩, ⟨.val false [⟨.int .i64, .sh, TC.i i⟩], ⟨0, 0⟩⟩] => some (((laws_szTypeS_5_fin A left i)).map laws_szTypeS_5_out)
  | _ => .none
noncomputable def laws_szTypeS_lo : LoopTeller := fun r s => bif Nat.beq r 5 then laws_szTypeS_lo5 s else .none
theorem laws_szTypeS_5_r (A : List (List TC)) (left : Int) (i : Int) (fuel : Nat) : rounds (rnd tab FT D5 live 96 laws_szTypeS_lo 0 5) leave (fuel + 1) (laws_szTypeS_5_sl (A, left, i)) = ((laws_szTypeS_5_step A left i)).run (goOn (fun s => rounds (rnd tab FT D5 live 96 laws_szTypeS_lo 0 5) leave fuel (laws_szTypeS_5_sl s)) fun w => some (laws_szTypeS_5_out w)) := by kernel_rfl
theorem laws_szTypeS_5_h (A : List (List TC)) (left : Int) (i : Int) (ow : laws_szTypeS_5_ω) : ((laws_szTypeS_5_fin A left i)).val = some ow → ∃ fuel, loopN laws_szTypeS_5_st fuel (A, left, i) = some ow := by
  refine auto_two (N := A.length + 1) rfl rfl rfl ?_
  intro ho
  have ho : is (i = 0 ∧ Typed tab (.slice 45) (.l A) ∧ (∀ x : List TC, x ∈ A → ∀ left : Int, (laws_szType_rc ((nth x 0).int) ((nth x 1).int) ((nth x 2).bool) ((nth x 3).bool) ((nth x 4).list) ((nth x 5).list) ((nth x 6).list) ((nth x 7).list) ((nth x 8).int) left) = true)) = true := ho.elim id id
  obtain ⟨rfl, ht, hr0⟩ := is_iff.1 ho
  have hlen : A.length ≤ 140737488351232 := by have := typed_room ht; simp only [show (tab 45).bytes = 128 from rfl] at this; omega
  refine loopN_ends (step := laws_szTypeS_5_st) (N := A.length) (fun i a => (A, a, (i : Int))) (fun i a hi => ?_) (fun a => ?_) A.length 0 left (by omega)
  · show (∃ a', (laws_szTypeS_5_step A a (i : Int)).val = _) ∨ ∃ w, (laws_szTypeS_5_step A a (i : Int)).val = _
    have c4 : Typed tab (.slice 9) (.l (nth (A.getD i []) 4).list) := typed_list (typed_cell ht (A.getD i []) (mem_getD hi) 4 (by decide))
    have c5 : Typed tab (.slice 2) (.l (nth (A.getD i []) 5).list) := typed_list (typed_cell ht (A.getD i []) (mem_getD hi) 5 (by decide))
    have c6 : Typed tab (.slice 189) (.l (nth (A.getD i []) 6).list) := typed_list (typed_cell ht (A.getD i []) (mem_getD hi) 6 (by decide))
    have c7 : Typed tab (.slice 45) (.l (nth (A.getD i []) 7).list) := typed_list (typed_cell ht (A.getD i []) (mem_getD hi) 7 (by decide))
    cases hneg : ((decide ((laws_szType_rv ((nth (row A i) 0).int) ((nth (row A i) 1).int) ((nth (row A i) 2).bool) ((nth (row A i) 3).bool) ((nth (row A i) 4).list) ((nth (row A i) 5).list) ((nth (row A i) 6).list) ((nth (row A i) 7).list) ((nth (row A i) 8).int) a) < (0 : Int))))
    · apply Or.inl
      apply Exists.intro
      · unfold laws_szTypeS_5_step
        refine Tr.t (by simp; omega) ?_
        refine Tr.t (by first | omega | (constructor <;> omega)) ?_
        refine Tr.t (hr0 (A.getD i []) (mem_getD hi) a) ?_
        refine Tr.n (by rw [hneg]; simp) ?_
        rw [Tr.val_ok, wrap64 (i := (i : Int) + 1) (by omega) (by omega)]; rfl
    · apply Or.inr
      apply Exists.intro
      · unfold laws_szTypeS_5_step
        refine Tr.t (by simp; omega) ?_
        refine Tr.t (by first | omega | (constructor <;> omega)) ?_
        refine Tr.t (hr0 (A.getD i []) (mem_getD hi) a) ?_
        refine Tr.t hneg ?_
        rfl
  · apply Exists.intro
    · show (laws_szTypeS_5_step A a (A.length : Int)).val = _
      refine Tr.n (by simp) ?_
      rfl
theorem laws_szTypeS_is5 : LoopIs tab FT D5 live 96 laws_szTypeS_lo 0 5 := by
  refine loop_told (sl := laws_szTypeS_5_sl) (step := laws_szTypeS_5_st) (out := laws_szTypeS_5_out) (lor := laws_szTypeS_lo5) (fin := fun x => (laws_szTypeS_5_fin (x.1) (x.2.1) (x.2.2))) (fun _ => rfl) ?_ (fun x n => laws_szTypeS_5_r x.1 x.2.1 x.2.2 n) (fun x ow => laws_szTypeS_5_h x.1 x.2.1 x.2.2 ow)
  intro s t h
  unfold laws_szTypeS_lo5 at h
  split at h
  · cases h; exact ⟨(_, _, _), rfl, rfl⟩
  · cases h
noncomputable def laws_szTypeS_t (A : List (List TC)) (left : Int) : Tr (Int) := (.ite ((decide ((IntKind.wrap .i64 (left - (A.length : Int))) < (0 : Int))) = true) (.ok (-1 : Int))
  (.ite ((laws_szTypeS_k5_1 A (IntKind.wrap .i64 (left - (A.length : Int))) (0 : Int)) = true) (.ite ((laws_szTypeS_o5_2 A (IntKind.wrap .i64 (left - (A.length : Int))) (0 : Int)) = true) (.ok (-1 : Int))
    .no)
   (.ite ((laws_szTypeS_o5_3 A (IntKind.wrap .i64 (left - (A.length : Int))) (0 : Int)) = true) (.ok (laws_szTypeS_u5_3 A (IntKind.wrap .i64 (left - (A.length : Int))) (0 : Int)))
    .no)))
def laws_szTypeS_mk (p : Int) : Res := [(false, [⟨.int .i64, .sh, TC.i p⟩])]
noncomputable def laws_szTypeS_c (A : List (List TC)) (left : Int) : Bool := (bif (decide ((IntKind.wrap .i64 (left - (A.length : Int))) < (0 : Int))) then true else (bif (laws_szTypeS_k5_1 A (IntKind.wrap .i64 (left - (A.length : Int))) (0 : Int)) then ((laws_szTypeS_o5_2 A (IntKind.wrap .i64 (left - (A.length : Int))) (0 : Int)) && true) else ((laws_szTypeS_o5_3 A (IntKind.wrap .i64 (left - (A.length : Int))) (0 : Int)) && true)))
noncomputable def laws_szTypeS_v (A : List (List TC)) (left : Int) : Int := (bif (decide ((IntKind.wrap .i64 (left - (A.length : Int))) < (0 : Int))) then (-1 : Int) else (bif (laws_szTypeS_k5_1 A (IntKind.wrap .i64 (left - (A.length : Int))) (0 : Int)) then (-1 : Int) else (laws_szTypeS_u5_3 A (IntKind.wrap .i64 (left - (A.length : Int))) (0 : Int))))
theorem laws_szTypeS_l (A : List (List TC)) (left : Int) : (laws_szTypeS_c A left) = true → (laws_szTypeS_t A left).val = some (laws_szTypeS_v A left) := by
  unfold laws_szTypeS_t laws_szTypeS_v laws_szTypeS_c
  exact fun h => (Tr.ss h (fun h => rfl) (fun h => (Tr.ss h (fun h => (Tr.gb h fun h => rfl)) (fun h => (Tr.gb h fun h => rfl)))))
noncomputable def laws_szTypeS_S : List Arg → Option (Bool × Res) := fun xs => match xs with
  | [(false, [(.slice 45, TC.l A)]), (false, [(.int .i64, TC.i left)])] => some ((laws_szTypeS_c A left), laws_szTypeS_mk (laws_szTypeS_v A left))
  | _ => .none
theorem laws_szTypeS_e (A : List (List TC)) (left : Int) : runF tab FT D5 live 96 laws_szTypeS_lo [(false, [(.slice 45, TC.l A)]), (false, [(.int .i64, TC.i left)])] = (laws_szTypeS_t A left).run fun p => some (laws_szTypeS_mk p) := by kernel_rfl
theorem laws_szTypeS_s : ∀ xs r, laws_szTypeS_S xs = some (true, r) → runF tab FT D5 live 96 laws_szTypeS_lo xs = some r := by
  intro xs r h
  unfold laws_szTypeS_S at h
  split at h
  · simp only [Option.some.injEq, Prod.mk.injEq] at h
    obtain ⟨h1, rfl⟩ := h
    exact fun_told (laws_szTypeS_e _ _) (laws_szTypeS_l _ _) h1
  · cases h
noncomputable def D6 : Dt := also D5 96 laws_szTypeS_S
theorem d6 : DOk Go.Proofs.Try.prog tab D6 := d5.also mixed_ok tab_ok names_ok (fnLoops_one (by kernel_rfl) laws_szTypeS_is5) laws_szTypeS_s
theorem laws_szTypeS_cc {A : List (List TC)} {left : Int} (ht : Typed tab (.slice 45) (.l A)) (hr0 : (∀ x : List TC, x ∈ A → ∀ left : Int, (laws_szType_rc ((nth x 0).int) ((nth x 1).int) ((nth x 2).bool) ((nth x 3).bool) ((nth x 4).list) ((nth x 5).list) ((nth x 6).list) ((nth x 7).list) ((nth x 8).int) left) = true)) : (laws_szTypeS_c A left) = true := by
  unfold laws_szTypeS_c
  refine bifT (fun b1 => ?_) (fun b1 => ?_)
  · skip
    rfl
  · skip
    refine bifT (fun b2 => ?_) (fun b2 => ?_)
    · skip
      refine andT (by exact is_true ⟨rfl, ht, hr0⟩) ?_
      rfl
    · skip
      refine andT (by exact is_true ⟨rfl, ht, hr0⟩) ?_
      rfl
/-! laws_szType -/
noncomputable def laws_szType_t (x0 : Int) (x1 : Int) (x2 : Bool) (x3 : Bool) (x4 : List (List TC)) (x5 : List (List TC)) (x6 : List (List TC)) (x7 : List (List TC)) (x8 : Int) (x9 : Int) : Tr (Int) := (.ite ((laws_szStringS_c x4 x9) = true) (.ite ((decide ((laws_szStringS_v x4 x9) < (0 : Int))) = true) (.ok (-1 : Int))
   (.ite ((decide ((laws_szInt64S_v x5 (laws_szStringS_v x4 x9)) < (0 : Int))) = true) (.ok (-1 : Int))
    (.ite ((laws_szMemberS_c x6 (laws_szInt64S_v x5 (laws_szStringS_v x4 x9))) = true) (.ite ((decide ((laws_szMemberS_v x6 (laws_szInt64S_v x5 (laws_szStringS_v x4 x9))) < (0 : Int))) = true) (.ok (-1 : Int))
      (.ite ((laws_szTypeS_c x7 (laws_szMemberS_v x6 (laws_szInt64S_v x5 (laws_szStringS_v x4 x9)))) = true) (.ite ((decide ((laws_szTypeS_v x7 (laws_szMemberS_v x6 (laws_szInt64S_v x5 (laws_szStringS_v x4 x9)))) < (0 : Int))) = true) (.ok (-1 : Int))
        (.ok (laws_szTypeS_v x7 (laws_szMemberS_v x6 (laws_szInt64S_v x5 (laws_szStringS_v x4 x9))))))
       .no))
     .no)))
  .no)
def laws_szType_mk (p : Int) : Res := [(false, [⟨.int .i64, .sh, TC.i p⟩])]
noncomputable def laws_szType_c (x0 : Int) (x1 : Int) (x2 : Bool) (x3 : Bool) (x4 : List (List TC)) (x5 : List (List TC)) (x6 : List (List TC)) (x7 : List (List TC)) (x8 : Int) (x9 : Int) : Bool := ((laws_szStringS_c x4 x9) && (bif (decide ((laws_szStringS_v x4 x9) < (0 : Int))) then true else (bif (decide ((laws_szInt64S_v x5 (laws_szStringS_v x4 x9)) < (0 : Int))) then true else ((laws_szMemberS_c x6 (laws_szInt64S_v x5 (laws_szStringS_v x4 x9))) && (bif (decide ((laws_szMemberS_v x6 (laws_szInt64S_v x5 (laws_szStringS_v x4 x9))) < (0 : Int))) then true else ((laws_szTypeS_c x7 (laws_szMemberS_v x6 (laws_szInt64S_v x5 (laws_szStringS_v x4 x9)))) && (bif (decide ((laws_szTypeS_v x7 (laws_szMemberS_v x6 (laws_szInt64S_v x5 (laws_szStringS_v x4 x9)))) < (0 : Int))) then true else true)))))))
noncomputable def laws_szType_v (x0 : Int) (x1 : Int) (x2 : Bool) (x3 : Bool) (x4 : List (List TC)) (x5 : List (List TC)) (x6 : List (List TC)) (x7 : List (List TC)) (x8 : Int) (x9 : Int) : Int := (bif (decide ((laws_szStringS_v x4 x9) < (0 : Int))) then (-1 : Int) else (bif (decide ((laws_szInt64S_v x5 (laws_szStringS_v x4 x9)) < (0 : Int))) then (-1 : Int) else (bif (decide ((laws_szMemberS_v x6 (laws_szInt64S_v x5 (laws_szStringS_v x4 x9))) < (0 : Int))) then (-1 : Int) else (bif (decide ((laws_szTypeS_v x7 (laws_szMemberS_v x6 (laws_szInt64S_v x5 (laws_szStringS_v x4 x9)))) < (0 : Int))) then (-1 : Int) else (laws_szTypeS_v x7 (laws_szMemberS_v x6 (laws_szInt64S_v x5 (laws_szStringS_v x4 x9))))))))
theorem laws_szType_l (x0 : Int) (x1 : Int) (x2 : Bool) (x3 : Bool) (x4 : List (List TC)) (x5 : List (List TC)) (x6 : List (List TC)) (x7 : List (List TC)) (x8 : Int) (x9 : Int) : (laws_szType_c x0 x1 x2 x3 x4 x5 x6 x7 x8 x9) = true → (laws_szType_t x0 x1 x2 x3 x4 x5 x6 x7 x8 x9).val = some (laws_szType_v x0 x1 x2 x3 x4 x5 x6 x7 x8 x9) := by
  unfold laws_szType_t laws_szType_v laws_szType_c
  exact fun h => (Tr.gb h fun h => (Tr.ss h (fun h => rfl) (fun h => (Tr.ss h (fun h => rfl) (fun h => (Tr.gb h fun h => (Tr.ss h (fun h => rfl) (fun h => (Tr.gb h fun h => (Tr.ss h (fun h => rfl) (fun h => rfl)))))))))))
noncomputable def laws_szType_S : List Arg → Option (Bool × Res) := fun xs => match xs with
  | [(true, [(.int .i64, TC.i x0), (.int .i64, TC.i x1), (.bool, TC.b x2), (.bool, TC.b x3), (.slice 9, TC.l x4), (.slice 2, TC.l x5), (.slice 189, TC.l x6), (.slice 45, TC.l x7), (.int .i64, TC.i x8)]), (false, [(.int .i64, TC.i x9)])] => some ((laws_szType_c x0 x1 x2 x3 x4 x5 x6 x7 x8 x9), laws_szType_mk (laws_szType_v x0 x1 x2 x3 x4 x5 x6 x7 x8 x9))
  | _ => .none
theorem laws_szType_e (x0 : Int) (x1 : Int) (x2 : Bool) (x3 : Bool) (x4 : List (List TC)) (x5 : List (List TC)) (x6 : List (List TC)) (x7 : List (List TC)) (x8 : Int) (x9 : Int) : runF tab FT D6 live 60 noLoops [(true, [(.int .i64, TC.i x0), (.int .i64, TC.i x1), (.bool, TC.b x2), (.bool, TC.b x3), (.slice 9, TC.l x4), (.slice 2, TC.l x5), (.slice 189, TC.l x6), (.slice 45, TC.l x7), (.int .i64, TC.i x8)]), (false, [(.int .i64, TC.i x9)])] = (laws_szType_t x0 x1 x2 x3 x4 x5 x6 x7 x8 x9).run fun p => some (laws_szType_mk p) := by kernel_rfl
theorem laws_szType_s : ∀ xs r, laws_szType_S xs = some (true, r) → runF tab FT D6 live 60 noLoops xs = some r := by
  intro xs r h
  unfold laws_szType_S at h
  split at h
  · simp only [Option.some.injEq, Prod.mk.injEq] at h
    obtain ⟨h1, rfl⟩ := h
    exact fun_told (laws_szType_e _ _ _ _ _ _ _ _ _ _) (laws_szType_l _ _ _ _ _ _ _ _ _ _) h1
  · cases h
noncomputable def laws_szType_next : (Int) → (Int) → (Bool) → (Bool) → (List (List TC)) → (List (List TC)) → (List (List TC)) → (List (List TC)) → (Int) → (Int) → Bool × (Int) := fun x0 x1 x2 x3 x4 x5 x6 x7 x8 x9 => ((laws_szType_c x0 x1 x2 x3 x4 x5 x6 x7 x8 x9), (laws_szType_v x0 x1 x2 x3 x4 x5 x6 x7 x8 x9))
theorem laws_szType_nx (m : Nat) (hR : ∀ (x0 : Int) (x1 : Int) (x2 : Bool) (x3 : Bool) (x4 : List (List TC)) (x5 : List (List TC)) (x6 : List (List TC)) (x7 : List (List TC)) (x8 : Int) (x9 : Int), max (rowsDep x6) (rowsDep x7) < m ∧ Typed tab (.slice 9) (.l x4) ∧ Typed tab (.slice 2) (.l x5) ∧ Typed tab (.slice 189) (.l x6) ∧ Typed tab (.slice 45) (.l x7) → (laws_szType_rc x0 x1 x2 x3 x4 x5 x6 x7 x8 x9) = true) (x0 : Int) (x1 : Int) (x2 : Bool) (x3 : Bool) (x4 : List (List TC)) (x5 : List (List TC)) (x6 : List (List TC)) (x7 : List (List TC)) (x8 : Int) (x9 : Int) : max (rowsDep x6) (rowsDep x7) < (m + 1) ∧ Typed tab (.slice 9) (.l x4) ∧ Typed tab (.slice 2) (.l x5) ∧ Typed tab (.slice 189) (.l x6) ∧ Typed tab (.slice 45) (.l x7) → (laws_szType_c x0 x1 x2 x3 x4 x5 x6 x7 x8 x9) = true := by
  intro h
  obtain ⟨hM, t4, t5, t6, t7⟩ := h
  unfold laws_szType_c
  refine andT (by exact laws_szStringS_cc t4) ?_
  refine bifT (fun b1 => ?_) (fun b1 => ?_)
  · skip
    rfl
  · skip
    refine bifT (fun b2 => ?_) (fun b2 => ?_)
    · skip
      rfl
    · skip
      refine andT (by exact laws_szMemberS_cc t6 (fun x hx left => laws_szMember_cc (typed_list ((typed_elem t6 hx).2 6 (by decide))) (typed_list ((typed_elem t6 hx).2 7 (by decide))) (typed_list ((typed_elem t6 hx).2 8 (by decide))) (typed_list ((typed_elem t6 hx).2 9 (by decide))) (fun left => hR _ _ _ _ _ _ _ _ _ _ ⟨by have a := dep_cell hx 8; have b := dep_cell hx 9; omega, typed_list ((typed_elem t6 hx).2 6 (by decide)), typed_list ((typed_elem t6 hx).2 7 (by decide)), typed_list ((typed_elem t6 hx).2 8 (by decide)), typed_list ((typed_elem t6 hx).2 9 (by decide))⟩))) ?_
      refine bifT (fun b3 => ?_) (fun b3 => ?_)
      · skip
        rfl
      · skip
        refine andT (by exact laws_szTypeS_cc t7 (fun x hx left => hR _ _ _ _ _ _ _ _ _ _ ⟨by have a := dep_cell hx 6; have b := dep_cell hx 7; omega, typed_list ((typed_elem t7 hx).2 4 (by decide)), typed_list ((typed_elem t7 hx).2 5 (by decide)), typed_list ((typed_elem t7 hx).2 6 (by decide)), typed_list ((typed_elem t7 hx).2 7 (by decide))⟩)) ?_
        refine bifT (fun b4 => ?_) (fun b4 => ?_)
        · skip
          rfl
        · skip
          rfl
theorem laws_szType_rs : ∀ xs r, laws_szType_rS (i_laws_szType := ⟨laws_szType_next⟩) xs = some (true, r) → runF tab FT D6 live 60 noLoops xs = some r := by
  intro xs r h
  unfold laws_szType_rS at h
  split at h
  · simp only [Option.some.injEq, Prod.mk.injEq] at h
    obtain ⟨h1, rfl⟩ := h
    exact fun_told (laws_szType_e _ _ _ _ _ _ _ _ _ _) (laws_szType_l _ _ _ _ _ _ _ _ _ _) h1
  · cases h
theorem laws_szType_step : laws_szType_G (i_laws_szType := ⟨laws_szType_next⟩) := by
  have h := DOk.also2 (S := laws_szType_rS (i_laws_szType := ⟨laws_szType_next⟩)) mixed_ok tab_ok names_ok d2 d6 noLoops_ok laws_szType_rs
  refine laws_szType_G.mk (i_laws_szType := ⟨laws_szType_next⟩) ?_
  exact h
/-! laws_szPoint -/
noncomputable def laws_szPoint_t (x0 : List (List TC)) (x1 : Int) : Tr (Int) := (.ite ((decide ((laws_szInt64S_v x0 x1) < (0 : Int))) = true) (.ok (-1 : Int))
  (.ok (laws_szInt64S_v x0 x1)))
def laws_szPoint_mk (p : Int) : Res := [(false, [⟨.int .i64, .sh, TC.i p⟩])]
noncomputable def laws_szPoint_c (x0 : List (List TC)) (x1 : Int) : Bool := (bif (decide ((laws_szInt64S_v x0 x1) < (0 : Int))) then true else true)
noncomputable def laws_szPoint_v (x0 : List (List TC)) (x1 : Int) : Int := (bif (decide ((laws_szInt64S_v x0 x1) < (0 : Int))) then (-1 : Int) else (laws_szInt64S_v x0 x1))
theorem laws_szPoint_l (x0 : List (List TC)) (x1 : Int) : (laws_szPoint_c x0 x1) = true → (laws_szPoint_t x0 x1).val = some (laws_szPoint_v x0 x1) := by
  unfold laws_szPoint_t laws_szPoint_v laws_szPoint_c
  exact fun h => (Tr.ss h (fun h => rfl) (fun h => rfl))
noncomputable def laws_szPoint_S : List Arg → Option (Bool × Res) := fun xs => match xs with
  | [(true, [(.slice 2, TC.l x0)]), (false, [(.int .i64, TC.i x1)])] => some ((laws_szPoint_c x0 x1), laws_szPoint_mk (laws_szPoint_v x0 x1))
  | _ => .none
theorem laws_szPoint_e (x0 : List (List TC)) (x1 : Int) : runF tab FT D6 live 161 noLoops [(true, [(.slice 2, TC.l x0)]), (false, [(.int .i64, TC.i x1)])] = (laws_szPoint_t x0 x1).run fun p => some (laws_szPoint_mk p) := by kernel_rfl
theorem laws_szPoint_s : ∀ xs r, laws_szPoint_S xs = some (true, r) → runF tab FT D6 live 161 noLoops xs = some r := by
  intro xs r h
  unfold laws_szPoint_S at h
  split at h
  · simp only [Option.some.injEq, Prod.mk.injEq] at h
    obtain ⟨h1, rfl⟩ := h
    exact fun_told (laws_szPoint_e _ _) (laws_szPoint_l _ _) h1
  · cases h
noncomputable def D7 : Dt := also D6 161 laws_szPoint_S
theorem d7 : DOk Go.Proofs.Try.prog tab D7 := d6.also mixed_ok tab_ok names_ok noLoops_ok laws_szPoint_s
theorem laws_szPoint_cc {x0 : List (List TC)} {x1 : Int} (t0 : Typed tab (.slice 2) (.l x0)) : (laws_szPoint_c x0 x1) = true := by
  unfold laws_szPoint_c
  refine bifT (fun b1 => ?_) (fun b1 => ?_)
  · skip
    rfl
  · skip
    rfl
/-! laws_szPointS -/
abbrev laws_szPointS_5_σ := List (List TC) × Int × Int
abbrev laws_szPointS_5_ω := (Int) ⊕ (Int)
noncomputable def laws_szPointS_5_step (A : List (List TC)) (left : Int) (i : Int) : Tr (laws_szPointS_5_σ ⊕ laws_szPointS_5_ω) := (.ite ((decide (i < (A.length : Int))) = true) (.ite ((0 : Int) ≤ i ∧ i < (A.length : Int)) (.ite ((laws_szPoint_c ((nth (row A i) 0).list) left) = true) (.ite ((decide ((laws_szPoint_v ((nth (row A i) 0).list) left) < (0 : Int))) = true) (.ok (.inr (.inl (laws_szPoint_v ((nth (row A i) 0).list) left))))
     (.ok (.inl (A, (laws_szPoint_v ((nth (row A i) 0).list) left), (IntKind.wrap .i64 (i + (1 : Int)))))))
    .no)
   .no)
  (.ok (.inr (.inr left))))
noncomputable def laws_szPointS_5_st : laws_szPointS_5_σ → Tr (laws_szPointS_5_σ ⊕ laws_szPointS_5_ω) := fun x => (laws_szPointS_5_step (x.1) (x.2.1) (x.2.2))
noncomputable def laws_szPointS_k5_1 (A : List (List TC)) (left : Int) (i : Int) : Bool := isL (loopN laws_szPointS_5_st (A.length + 1) (A, left, i))
noncomputable def laws_szPointS_o5_2 (A : List (List TC)) (left : Int) (i : Int) : Bool := is (i = 0 ∧ Typed tab (.slice 215) (.l A))
noncomputable def laws_szPointS_u5_2 (A : List (List TC)) (left : Int) (i : Int) : Int := getL (loopN laws_szPointS_5_st (A.length + 1) (A, left, i))
noncomputable def laws_szPointS_o5_3 (A : List (List TC)) (left : Int) (i : Int) : Bool := is (i = 0 ∧ Typed tab (.slice 215) (.l A))
noncomputable def laws_szPointS_u5_3 (A : List (List TC)) (left : Int) (i : Int) : Int := getR (loopN laws_szPointS_5_st (A.length + 1) (A, left, i))
noncomputable def laws_szPointS_5_fin (A : List (List TC)) (left : Int) (i : Int) : Told laws_szPointS_5_ω := (.br (laws_szPointS_k5_1 A left i) (.leaf (laws_szPointS_o5_2 A left i) (.inl (laws_szPointS_u5_2 A left i))) (.leaf (laws_szPointS_o5_3 A left i) (.inr (laws_szPointS_u5_3 A left i))))
def laws_szPointS_5_sl (x : laws_szPointS_5_σ) : List Slot := [⟨.val false [⟨.slice 215, .sh, TC.l (x.1)⟩], ⟨0, 0⟩⟩, ⟨.val false [⟨.int .i64, .sh, TC.i (x.2.1)⟩], ⟨0, 0⟩⟩, ⟨.val false [⟨.int .i64, .sh, TC.i (x.2.2)⟩], ⟨0, 0⟩⟩]
def laws_szPointS_5_out : laws_szPointS_5_ω → Ex × List Slot := (Sum.elim (fun x => (.ret, [⟨.val false [⟨.int .i64, .sh, TC.i x⟩], ⟨0, 0⟩⟩, ⟨.val false [⟨.int .i64, .sh, TC.i (-1 : Int)⟩], ⟨0, 0⟩⟩])) (fun x => (.exit 0, [⟨.val false [⟨.int .i64, .sh, TC.i x⟩], ⟨0, 0⟩⟩, Slot.none])))
noncomputable def laws_szPointS_lo5 : List Slot → Option (Told (Ex × List Slot)) := fun s => match s with
  | [⟨.val false [⟨.slice 215, .sh, TC.l A⟩], ⟨0, 0⟩⟩, ⟨.val false [⟨.int .i64, .sh, TC.i left⟩], ⟨0, 0⟩⟩, ⟨.val false [⟨.int .i64, .sh, TC.i i⟩], ⟨0, 0⟩⟩] => some (((laws_szPointS_5_fin A left i)).map laws_szPointS_5_out)
  | _ => .none
noncomputable def laws_szPointS_lo : LoopTeller := fun r s => bif Nat.beq r 5 then laws_szPointS_lo5 s else .none
theorem laws_szPointS_5_r (A : List (List TC)) (left : Int) (i : Int) (fuel : Nat) : rounds (rnd tab FT D7 live 156 laws_szPointS_lo 0 5) leave (fuel + 1) (laws_szPointS_5_sl (A, left, i)) = ((laws_szPointS_5_step A left i)).run (goOn (fun s => rounds (rnd tab FT D7 live 156 laws_szPointS_lo 0 5) leave fuel (laws_szPointS_5_sl s)) fun w => some (laws_szPointS_5_out w)) := by kernel_rfl
theorem laws_szPointS_5_h (A : List (List TC)) (left : Int) (i : Int) (ow : laws_szPointS_5_ω) : ((laws_szPointS_5_fin A left i)).val = some ow → ∃ fuel, loopN laws_szPointS_5_st fuel (A, left, i) = some ow := by
  refine auto_two (N := A.length + 1) rfl rfl rfl ?_
  intro ho
  have ho : is (i = 0 ∧ Typed tab (.slice 215) (.l A)) = true := ho.elim id id
  obtain ⟨rfl, ht⟩ := is_iff.1 ho
  have hlen : A.length ≤ 140737488351232 := by have := typed_room ht; simp only [show (tab 215).bytes = 24 from rfl] at this; omega
  refine loopN_ends (step := laws_szPointS_5_st) (N := A.length) (fun i a => (A, a, (i : Int))) (fun i a hi => ?_) (fun a => ?_) A.length 0 left (by omega)
  · show (∃ a', (laws_szPointS_5_step A a (i : Int)).val = _) ∨ ∃ w, (laws_szPointS_5_step A a (i : Int)).val = _
    have c0 : Typed tab (.slice 2) (.l (nth (A.getD i []) 0).list) := typed_list (typed_cell ht (A.getD i []) (mem_getD hi) 0 (by decide))
    cases hneg : ((decide ((laws_szPoint_v ((nth (row A i) 0).list) a) < (0 : Int))))
    · apply Or.inl
      apply Exists.intro
      · unfold laws_szPointS_5_step
        refine Tr.t (by simp; omega) ?_
        refine Tr.t (by first | omega | (constructor <;> omega)) ?_
        refine Tr.t (by first | (apply laws_szPoint_cc <;> assumption) | (first | (apply is_true; and_intros <;> (first | rfl | assumption | (apply laws_szStringS_cc <;> assumption) | (apply laws_szMember_cc <;> assumption) | (apply laws_szMemberS_cc <;> assumption) | (apply laws_szTypeS_cc <;> assumption) | (apply laws_szPoint_cc <;> assumption) | (first | (apply is_true; and_intros <;> (first | rfl | assumption | (apply laws_szStringS_cc <;> assumption) | (apply laws_szMember_cc <;> assumption) | (apply laws_szMemberS_cc <;> assumption) | (apply laws_szTypeS_cc <;> assumption) | (apply laws_szPoint_cc <;> assumption))) | (apply laws_szStringS_cc <;> assumption) | (apply laws_szMember_cc <;> assumption) | (apply laws_szMemberS_cc <;> assumption) | (apply laws_szTypeS_cc <;> assumption) | (apply laws_szPoint_cc <;> assumption)))) | (apply laws_szStringS_cc <;> assumption) | (apply laws_szMember_cc <;> assumption) | (apply laws_szMemberS_cc <;> assumption) | (apply laws_szTypeS_cc <;> assumption) | (apply laws_szPoint_cc <;> assumption))) ?_
        refine Tr.n (by rw [hneg]; simp) ?_
        rw [Tr.val_ok, wrap64 (i := (i : Int) + 1) (by omega) (by omega)]; rfl
    · apply Or.inr
      apply Exists.intro
      · unfold laws_szPointS_5_step
        refine Tr.t (by simp; omega) ?_
        refine Tr.t (by first | omega | (constructor <;> omega)) ?_
        refine Tr.t (by first | (apply laws_szPoint_cc <;> assumption) | (first | (apply is_true; and_intros <;> (first | rfl | assumption | (apply laws_szStringS_cc <;> assumption) | (apply laws_szMember_cc <;> assumption) | (apply laws_szMemberS_cc <;> assumption) | (apply laws_szTypeS_cc <;> assumption) | (apply laws_szPoint_cc <;> assumption) | (first | (apply is_true; and_intros <;> (first | rfl | assumption | (apply laws_szStringS_cc <;> assumption) | (apply laws_szMember_cc <;> assumption) | (apply laws_szMemberS_cc <;> assumption) | (apply laws_szTypeS_cc <;> assumption) | (apply laws_szPoint_cc <;> assumption))) | (apply laws_szStringS_cc <;> assumption) | (apply laws_szMember_cc <;> assumption) | (apply laws_szMemberS_cc <;> assumption) | (apply laws_szTypeS_cc <;> assumption) | (apply laws_szPoint_cc <;> assumption)))) | (apply laws_szStringS_cc <;> assumption) | (apply laws_szMember_cc <;> assumption) | (apply laws_szMemberS_cc <;> assumption) | (apply laws_szTypeS_cc <;> assumption) | (apply laws_szPoint_cc <;> assumption))) ?_
        refine Tr.t hneg ?_
        rfl
  · apply Exists.intro
    · show (laws_szPointS_5_step A a (A.length : Int)).val = _
      refine Tr.n (by simp) ?_
      rfl
theorem laws_szPointS_is5 : LoopIs tab FT D7 live 156 laws_szPointS_lo 0 5 := by
  refine loop_told (sl := laws_szPointS_5_sl) (step := laws_szPointS_5_st) (out := laws_szPointS_5_out) (lor := laws_szPointS_lo5) (fin := fun x => (laws_szPointS_5_fin (x.1) (x.2.1) (x.2.2))) (fun _ => rfl) ?_ (fun x n => laws_szPointS_5_r x.1 x.2.1 x.2.2 n) (fun x ow => laws_szPointS_5_h x.1 x.2.1 x.2.2 ow)
  intro s t h
  unfold laws_szPointS_lo5 at h
  split at h
  · cases h; exact ⟨(_, _, _), rfl, rfl⟩
  · cases h
noncomputable def laws_szPointS_t (A : List (List TC)) (left : Int) : Tr (Int) := (.ite ((decide ((IntKind.wrap .i64 (left - (A.length : Int))) < (0 : Int))) = true) (.ok (-1 : Int))
  (.ite ((laws_szPointS_k5_1 A (IntKind.wrap .i64 (left - (A.length : Int))) (0 : Int)) = true) (.ite ((laws_szPointS_o5_2 A (IntKind.wrap .i64 (left - (A.length : Int))) (0 : Int)) = true) (.ok (-1 : Int))
    .no)
   (.ite ((laws_szPointS_o5_3 A (IntKind.wrap .i64 (left - (A.length : Int))) (0 : Int)) = true) (.ok (laws_szPointS_u5_3 A (IntKind.wrap .i64 (left - (A.length : Int))) (0 : Int)))
    .no)))
def laws_szPointS_mk (p : Int) : Res := [(false, [⟨.int .i64, .sh, TC.i p⟩])]
noncomputable def laws_szPointS_c (A : List (List TC)) (left : Int) : Bool := (bif (decide ((IntKind.wrap .i64 (left - (A.length : Int))) < (0 : Int))) then true else (bif (laws_szPointS_k5_1 A (IntKind.wrap .i64 (left - (A.length : Int))) (0 : Int)) then ((laws_szPointS_o5_2 A (IntKind.wrap .i64 (left - (A.length : Int))) (0 : Int)) && true) else ((laws_szPointS_o5_3 A (IntKind.wrap .i64 (left - (A.length : Int))) (0 : Int)) && true)))
noncomputable def laws_szPointS_v (A : List (List TC)) (left : Int) : Int := (bif (decide ((IntKind.wrap .i64 (left - (A.length : Int))) < (0 : Int))) then (-1 : Int) else (bif (laws_szPointS_k5_1 A (IntKind.wrap .i64 (left - (A.length : Int))) (0 : Int)) then (-1 : Int) else (laws_szPointS_u5_3 A (IntKind.wrap .i64 (left - (A.length : Int))) (0 : Int))))
theorem laws_szPointS_l (A : List (List TC)) (left : Int) : (laws_szPointS_c A left) = true → (laws_szPointS_t A left).val = some (laws_szPointS_v A left) := by
  unfold laws_szPointS_t laws_szPointS_v laws_szPointS_c
  exact fun h => (Tr.ss h (fun h => rfl) (fun h => (Tr.ss h (fun h => (Tr.gb h fun h => rfl)) (fun h => (Tr.gb h fun h => rfl)))))
noncomputable def laws_szPointS_S : List Arg → Option (Bool × Res) := fun xs => match xs with
  | [(false, [(.slice 215, TC.l A)]), (false, [(.int .i64, TC.i left)])] => some ((laws_szPointS_c A left), laws_szPointS_mk (laws_szPointS_v A left))
  | _ => .none
theorem laws_szPointS_e (A : List (List TC)) (left : Int) : runF tab FT D7 live 156 laws_szPointS_lo [(false, [(.slice 215, TC.l A)]), (false, [(.int .i64, TC.i left)])] = (laws_szPointS_t A left).run fun p => some (laws_szPointS_mk p) := by kernel_rfl
theorem laws_szPointS_s : ∀ xs r, laws_szPointS_S xs = some (true, r) → runF tab FT D7 live 156 laws_szPointS_lo xs = some r := by
  intro xs r h
  unfold laws_szPointS_S at h
  split at h
  · simp only [Option.some.injEq, Prod.mk.injEq] at h
    obtain ⟨h1, rfl⟩ := h
    exact fun_told (laws_szPointS_e _ _) (laws_szPointS_l _ _) h1
  · cases h
noncomputable def D8 : Dt := also D7 156 laws_szPointS_S
theorem d8 : DOk Go.Proofs.Try.prog tab D8 := d7.also mixed_ok tab_ok names_ok (fnLoops_one (by kernel_rfl) laws_szPointS_is5) laws_szPointS_s
theorem laws_szPointS_cc {A : List (List TC)} {left : Int} (ht : Typed tab (.slice 215) (.l A)) : (laws_szPointS_c A left) = true := by
  unfold laws_szPointS_c
  refine bifT (fun b1 => ?_) (fun b1 => ?_)
  · skip
    rfl
  · skip
    refine bifT (fun b2 => ?_) (fun b2 => ?_)
    · skip
      refine andT (by exact is_true ⟨rfl, ht⟩) ?_
      rfl
    · skip
      refine andT (by exact is_true ⟨rfl, ht⟩) ?_
      rfl
/-! laws_szSelection -/
noncomputable def laws_szSelection_t (x0 : Int) (x1 : List (List TC)) (x2 : List (List TC)) (x3 : List (List TC)) (x4 : List (List TC)) (x5 : List (List TC)) (x6 : Int) : Tr (Int) := (.ite ((decide ((laws_szInt64S_v x1 x6) < (0 : Int))) = true) (.ok (-1 : Int))
  (.ite ((decide ((laws_szInt64S_v x2 (laws_szInt64S_v x1 x6)) < (0 : Int))) = true) (.ok (-1 : Int))
   (.ite ((decide ((laws_szInt64S_v x3 (laws_szInt64S_v x2 (laws_szInt64S_v x1 x6))) < (0 : Int))) = true) (.ok (-1 : Int))
    (.ite ((decide ((laws_szInt64S_v x4 (laws_szInt64S_v x3 (laws_szInt64S_v x2 (laws_szInt64S_v x1 x6)))) < (0 : Int))) = true) (.ok (-1 : Int))
     (.ite ((laws_szPointS_c x5 (laws_szInt64S_v x4 (laws_szInt64S_v x3 (laws_szInt64S_v x2 (laws_szInt64S_v x1 x6))))) = true) (.ite ((decide ((laws_szPointS_v x5 (laws_szInt64S_v x4 (laws_szInt64S_v x3 (laws_szInt64S_v x2 (laws_szInt64S_v x1 x6))))) < (0 : Int))) = true) (.ok (-1 : Int))
       (.ok (laws_szPointS_v x5 (laws_szInt64S_v x4 (laws_szInt64S_v x3 (laws_szInt64S_v x2 (laws_szInt64S_v x1 x6)))))))
      .no)))))
def laws_szSelection_mk (p : Int) : Res := [(false, [⟨.int .i64, .sh, TC.i p⟩])]
noncomputable def laws_szSelection_c (x0 : Int) (x1 : List (List TC)) (x2 : List (List TC)) (x3 : List (List TC)) (x4 : List (List TC)) (x5 : List (List TC)) (x6 : Int) : Bool := (bif (decide ((laws_szInt64S_v x1 x6) < (0 : Int))) then true else (bif (decide ((laws_szInt64S_v x2 (laws_szInt64S_v x1 x6)) < (0 : Int))) then true else (bif (decide ((laws_szInt64S_v x3 (laws_szInt64S_v x2 (laws_szInt64S_v x1 x6))) < (0 : Int))) then true else (bif (decide ((laws_szInt64S_v x4 (laws_szInt64S_v x3 (laws_szInt64S_v x2 (laws_szInt64S_v x1 x6)))) < (0 : Int))) then true else ((laws_szPointS_c x5 (laws_szInt64S_v x4 (laws_szInt64S_v x3 (laws_szInt64S_v x2 (laws_szInt64S_v x1 x6))))) && (bif (decide ((laws_szPointS_v x5 (laws_szInt64S_v x4 (laws_szInt64S_v x3 (laws_szInt64S_v x2 (laws_szInt64S_v x1 x6))))) < (0 : Int))) then true else true))))))
noncomputable def laws_szSelection_v (x0 : Int) (x1 : List (List TC)) (x2 : List (List TC)) (x3 : List (List TC)) (x4 : List (List TC)) (x5 : List (List TC)) (x6 : Int) : Int := (bif (decide ((laws_szInt64S_v x1 x6) < (0 : Int))) then (-1 : Int) else (bif (decide ((laws_szInt64S_v x2 (laws_szInt64S_v x1 x6)) < (0 : Int))) then (-1 : Int) else (bif (decide ((laws_szInt64S_v x3 (laws_szInt64S_v x2 (laws_szInt64S_v x1 x6))) < (0 : Int))) then (-1 : Int) else (bif (decide ((laws_szInt64S_v x4 (laws_szInt64S_v x3 (laws_szInt64S_v x2 (laws_szInt64S_v x1 x6)))) < (0 : Int))) then (-1 : Int) else (bif (decide ((laws_szPointS_v x5 (laws_szInt64S_v x4 (laws_szInt64S_v x3 (laws_szInt64S_v x2 (laws_szInt64S_v x1 x6))))) < (0 : Int))) then (-1 : Int) else (laws_szPointS_v x5 (laws_szInt64S_v x4 (laws_szInt64S_v x3 (laws_szInt64S_v x2 (laws_szInt64S_v x1 x6))))))))))
theorem laws_szSelection_l (x0 : Int) (x1 : List (List TC)) (x2 : List (List TC)) (x3 : List (List TC)) (x4 : List (List TC)) (x5 : List (List TC)) (x6 : Int) : (laws_szSelection_c x0 x1 x2 x3 x4 x5 x6) = true → (laws_szSelection_t x0 x1 x2 x3 x4 x5 x6).val = some (laws_szSelection_v x0 x1 x2 x3 x4 x5 x6) := by
  unfold laws_szSelection_t laws_szSelection_v laws_szSelection_c
  exact fun h => (Tr.ss h (fun h => rfl) (fun h => (Tr.ss h (fun h => rfl) (fun h => (Tr.ss h (fun h => rfl) (fun h => (Tr.ss h (fun h => rfl) (fun h => (Tr.gb h fun h => (Tr.ss h (fun h => rfl) (fun h => rfl)))))))))))
noncomputable def laws_szSelection_S : List Arg → Option (Bool × Res) := fun xs => match xs with
  | [(true, [(.int .i64, TC.i x0), (.slice 2, TC.l x1), (.slice 2, TC.l x2), (.slice 2, TC.l x3), (.slice 2, TC.l x4), (.slice 215, TC.l x5)]), (false, [(.int .i64, TC.i x6)])] => some ((laws_szSelection_c x0 x1 x2 x3 x4 x5 x6), laws_szSelection_mk (laws_szSelection_v x0 x1 x2 x3 x4 x5 x6))
  | _ => .none
theorem laws_szSelection_e (x0 : Int) (x1 : List (List TC)) (x2 : List (List TC)) (x3 : List (List TC)) (x4 : List (List TC)) (x5 : List (List TC)) (x6 : Int) : runF tab FT D8 live 140 noLoops [(true, [(.int .i64, TC.i x0), (.slice 2, TC.l x1), (.slice 2, TC.l x2), (.slice 2, TC.l x3), (.slice 2, TC.l x4), (.slice 215, TC.l x5)]), (false, [(.int .i64, TC.i x6)])] = (laws_szSelection_t x0 x1 x2 x3 x4 x5 x6).run fun p => some (laws_szSelection_mk p) := by kernel_rfl
theorem laws_szSelection_s : ∀ xs r, laws_szSelection_S xs = some (true, r) → runF tab FT D8 live 140 noLoops xs = some r := by
  intro xs r h
  unfold laws_szSelection_S at h
  split at h
  · simp only [Option.some.injEq, Prod.mk.injEq] at h
    obtain ⟨h1, rfl⟩ := h
    exact fun_told (laws_szSelection_e _ _ _ _ _ _ _) (laws_szSelection_l _ _ _ _ _ _ _) h1
  · cases h
noncomputable def D9 : Dt := also D8 140 laws_szSelection_S
theorem d9 : DOk Go.Proofs.Try.prog tab D9 := d8.also mixed_ok tab_ok names_ok noLoops_ok laws_szSelection_s
theorem laws_szSelection_cc {x0 : Int} {x1 : List (List TC)} {x2 : List (List TC)} {x3 : List (List TC)} {x4 : List (List TC)} {x5 : List (List TC)} {x6 : Int} (t1 : Typed tab (.slice 2) (.l x1)) (t2 : Typed tab (.slice 2) (.l x2)) (t3 : Typed tab (.slice 2) (.l x3)) (t4 : Typed tab (.slice 2) (.l x4)) (t5 : Typed tab (.slice 215) (.l x5)) : (laws_szSelection_c x0 x1 x2 x3 x4 x5 x6) = true := by
  unfold laws_szSelection_c
  refine bifT (fun b1 => ?_) (fun b1 => ?_)
  · skip
    rfl
  · skip
    refine bifT (fun b2 => ?_) (fun b2 => ?_)
    · skip
      rfl
    · skip
      refine bifT (fun b3 => ?_) (fun b3 => ?_)
      · skip
        rfl
      · skip
        refine bifT (fun b4 => ?_) (fun b4 => ?_)
        · skip
          rfl
        · skip
          refine andT (by exact laws_szPointS_cc t5) ?_
          refine bifT (fun b5 => ?_) (fun b5 => ?_)
          · skip
            rfl
          · skip
            rfl
/-! laws_szMapping -/
noncomputable def laws_szMapping_t (x0 : List UInt8) (x1 : Int) (x2 : List (List TC)) (x3 : List (List TC)) (x4 : List (List TC)) (x5 : List (List TC)) (x6 : List (List TC)) (x7 : Int) (x8 : List (List TC)) (x9 : List (List TC)) (x10 : List (List TC)) (x11 : List (List TC)) (x12 : List (List TC)) (x13 : Int) : Tr (Int) := (.ite ((decide ((IntKind.wrap .i64 (x13 - (x0.length : Int))) < (0 : Int))) = true) (.ok (-1 : Int))
  (.ite ((laws_szSelection_c x1 x2 x3 x4 x5 x6 (IntKind.wrap .i64 (x13 - (x0.length : Int)))) = true) (.ite ((decide ((laws_szSelection_v x1 x2 x3 x4 x5 x6 (IntKind.wrap .i64 (x13 - (x0.length : Int)))) < (0 : Int))) = true) (.ok (-1 : Int))
    (.ite ((laws_szSelection_c x7 x8 x9 x10 x11 x12 (laws_szSelection_v x1 x2 x3 x4 x5 x6 (IntKind.wrap .i64 (x13 - (x0.length : Int))))) = true) (.ite ((decide ((laws_szSelection_v x7 x8 x9 x10 x11 x12 (laws_szSelection_v x1 x2 x3 x4 x5 x6 (IntKind.wrap .i64 (x13 - (x0.length : Int))))) < (0 : Int))) = true) (.ok (-1 : Int))
      (.ok (laws_szSelection_v x7 x8 x9 x10 x11 x12 (laws_szSelection_v x1 x2 x3 x4 x5 x6 (IntKind.wrap .i64 (x13 - (x0.length : Int)))))))
     .no))
   .no))
def laws_szMapping_mk (p : Int) : Res := [(false, [⟨.int .i64, .sh, TC.i p⟩])]
noncomputable def laws_szMapping_c (x0 : List UInt8) (x1 : Int) (x2 : List (List TC)) (x3 : List (List TC)) (x4 : List (List TC)) (x5 : List (List TC)) (x6 : List (List TC)) (x7 : Int) (x8 : List (List TC)) (x9 : List (List TC)) (x10 : List (List TC)) (x11 : List (List TC)) (x12 : List (List TC)) (x13 : Int) : Bool := (bif (decide ((IntKind.wrap .i64 (x13 - (x0.length : Int))) < (0 : Int))) then true else ((laws_szSelection_c x1 x2 x3 x4 x5 x6 (IntKind.wrap .i64 (x13 - (x0.length : Int)))) && (bif (decide ((laws_szSelection_v x1 x2 x3 x4 x5 x6 (IntKind.wrap .i64 (x13 - (x0.length : Int)))) < (0 : Int))) then true else ((laws_szSelection_c x7 x8 x9 x10 x11 x12 (laws_szSelection_v x1 x2 x3 x4 x5 x6 (IntKind.wrap .i64 (x13 - (x0.length : Int))))) && (bif (decide ((laws_szSelection_v x7 x8 x9 x10 x11 x12 (laws_szSelection_v x1 x2 x3 x4 x5 x6 (IntKind.wrap .i64 (x13 - (x0.length : Int))))) < (0 : Int))) then true else true)))))
noncomputable def laws_szMapping_v (x0 : List UInt8) (x1 : Int) (x2 : List (List TC)) (x3 : List (List TC)) (x4 : List (List TC)) (x5 : List (List TC)) (x6 : List (List TC)) (x7 : Int) (x8 : List (List TC)) (x9 : List (List TC)) (x10 : List (List TC)) (x11 : List (List TC)) (x12 : List (List TC)) (x13 : Int) : Int := (bif (decide ((IntKind.wrap .i64 (x13 - (x0.length : Int))) < (0 : Int))) then (-1 : Int) else (bif (decide ((laws_szSelection_v x1 x2 x3 x4 x5 x6 (IntKind.wrap .i64 (x13 - (x0.length : Int)))) < (0 : Int))) then (-1 : Int) else (bif (decide ((laws_szSelection_v x7 x8 x9 x10 x11 x12 (laws_szSelection_v x1 x2 x3 x4 x5 x6 (IntKind.wrap .i64 (x13 - (x0.length : Int))))) < (0 : Int))) then (-1 : Int) else (laws_szSelection_v x7 x8 x9 x10 x11 x12 (laws_szSelection_v x1 x2 x3 x4 x5 x6 (IntKind.wrap .i64 (x13 - (x0.length : Int))))))))
theorem laws_szMapping_l (x0 : List UInt8) (x1 : Int) (x2 : List (List TC)) (x3 : List (List TC)) (x4 : List (List TC)) (x5 : List (List TC)) (x6 : List (List TC)) (x7 : Int) (x8 : List (List TC)) (x9 : List (List TC)) (x10 : List (List TC)) (x11 : List (List TC)) (x12 : List (List TC)) (x13 : Int) : (laws_szMapping_c x0 x1 x2 x3 x4 x5 x6 x7 x8 x9 x10 x11 x12 x13) = true → (laws_szMapping_t x0 x1 x2 x3 x4 x5 x6 x7 x8 x9 x10 x11 x12 x13).val = some (laws_szMapping_v x0 x1 x2 x3 x4 x5 x6 x7 x8 x9 x10 x11 x12 x13) := by
  unfold laws_szMapping_t laws_szMapping_v laws_szMapping_c
  exact fun h => (Tr.ss h (fun h => rfl) (fun h => (Tr.gb h fun h => (Tr.ss h (fun h => rfl) (fun h => (Tr.gb h fun h => (Tr.ss h (fun h => rfl) (fun h => rfl))))))))
noncomputable def laws_szMapping_S : List Arg → Option (Bool × Res) := fun xs => match xs with
  | [(true, [(.str, TC.s x0), (.int .i64, TC.i x1), (.slice 2, TC.l x2), (.slice 2, TC.l x3), (.slice 2, TC.l x4), (.slice 2, TC.l x5), (.slice 215, TC.l x6), (.int .i64, TC.i x7), (.slice 2, TC.l x8), (.slice 2, TC.l x9), (.slice 2, TC.l x10), (.slice 2, TC.l x11), (.slice 215, TC.l x12)]), (false, [(.int .i64, TC.i x13)])] => some ((laws_szMapping_c x0 x1 x2 x3 x4 x5 x6 x7 x8 x9 x10 x11 x12 x13), laws_szMapping_mk (laws_szMapping_v x0 x1 x2 x3 x4 x5 x6 x7 x8 x9 x10 x11 x12 x13))
  | _ => .none
theorem laws_szMapping_e (x0 : List UInt8) (x1 : Int) (x2 : List (List TC)) (x3 : List (List TC)) (x4 : List (List TC)) (x5 : List (List TC)) (x6 : List (List TC)) (x7 : Int) (x8 : List (List TC)) (x9 : List (List TC)) (x10 : List (List TC)) (x11 : List (List TC)) (x12 : List (List TC)) (x13 : Int) : runF tab FT D9 live 109 noLoops [(true, [(.str, TC.s x0), (.int .i64, TC.i x1), (.slice 2, TC.l x2), (.slice 2, TC.l x3), (.slice 2, TC.l x4), (.slice 2, TC.l x5), (.slice 215, TC.l x6), (.int .i64, TC.i x7), (.slice 2, TC.l x8), (.slice 2, TC.l x9), (.slice 2, TC.l x10), (.slice 2, TC.l x11), (.slice 215, TC.l x12)]), (false, [(.int .i64, TC.i x13)])] = (laws_szMapping_t x0 x1 x2 x3 x4 x5 x6 x7 x8 x9 x10 x11 x12 x13).run fun p => some (laws_szMapping_mk p) := by kernel_rfl
theorem laws_szMapping_s : ∀ xs r, laws_szMapping_S xs = some (true, r) → runF tab FT D9 live 109 noLoops xs = some r := by
  intro xs r h
  unfold laws_szMapping_S at h
  split at h
  · simp only [Option.some.injEq, Prod.mk.injEq] at h
    obtain ⟨h1, rfl⟩ := h
    exact fun_told (laws_szMapping_e _ _ _ _ _ _ _ _ _ _ _ _ _ _) (laws_szMapping_l _ _ _ _ _ _ _ _ _ _ _ _ _ _) h1
  · cases h
noncomputable def D10 : Dt := also D9 109 laws_szMapping_S
theorem d10 : DOk Go.Proofs.Try.prog tab D10 := d9.also mixed_ok tab_ok names_ok noLoops_ok laws_szMapping_s
theorem laws_szMapping_cc {x0 : List UInt8} {x1 : Int} {x2 : List (List TC)} {x3 : List (List TC)} {x4 : List (List TC)} {x5 : List (List TC)} {x6 : List (List TC)} {x7 : Int} {x8 : List (List TC)} {x9 : List (List TC)} {x10 : List (List TC)} {x11 : List (List TC)} {x12 : List (List TC)} {x13 : Int} (t2 : Typed tab (.slice 2) (.l x2)) (t3 : Typed tab (.slice 2) (.l x3)) (t4 : Typed tab (.slice 2) (.l x4)) (t5 : Typed tab (.slice 2) (.l x5)) (t6 : Typed tab (.slice 215) (.l x6)) (t8 : Typed tab (.slice 2) (.l x8)) (t9 : Typed tab (.slice 2) (.l x9)) (t10 : Typed tab (.slice 2) (.l x10)) (t11 : Typed tab (.slice 2) (.l x11)) (t12 : Typed tab (.slice 215) (.l x12)) : (laws_szMapping_c x0 x1 x2 x3 x4 x5 x6 x7 x8 x9 x10 x11 x12 x13) = true := by
  unfold laws_szMapping_c
  refine bifT (fun b1 => ?_) (fun b1 => ?_)
  · skip
    rfl
  · skip
    refine andT (by first | (apply laws_szSelection_cc <;> assumption) | (first | (apply is_true; and_intros <;> (first | rfl | assumption | (apply laws_szStringS_cc <;> assumption) | (apply laws_szMember_cc <;> assumption) | (apply laws_szMemberS_cc <;> assumption) | (apply laws_szTypeS_cc <;> assumption) | (apply laws_szPoint_cc <;> assumption) | (apply laws_szPointS_cc <;> assumption) | (apply laws_szSelection_cc <;> assumption) | (first | (apply is_true; and_intros <;> (first | rfl | assumption | (apply laws_szStringS_cc <;> assumption) | (apply laws_szMember_cc <;> assumption) | (apply laws_szMemberS_cc <;> assumption) | (apply laws_szTypeS_cc <;> assumption) | (apply laws_szPoint_cc <;> assumption) | (apply laws_szPointS_cc <;> assumption) | (apply laws_szSelection_cc <;> assumption))) | (apply laws_szStringS_cc <;> assumption) | (apply laws_szMember_cc <;> assumption) | (apply laws_szMemberS_cc <;> assumption) | (apply laws_szTypeS_cc <;> assumption) | (apply laws_szPoint_cc <;> assumption) | (apply laws_szPointS_cc <;> assumption) | (apply laws_szSelection_cc <;> assumption)))) | (apply laws_szStringS_cc <;> assumption) | (apply laws_szMember_cc <;> assumption) | (apply laws_szMemberS_cc <;> assumption) | (apply laws_szTypeS_cc <;> assumption) | (apply laws_szPoint_cc <;> assumption) | (apply laws_szPointS_cc <;> assumption) | (apply laws_szSelection_cc <;> assumption))) ?_
    refine bifT (fun b2 => ?_) (fun b2 => ?_)
    · skip
      rfl
    · skip
      refine andT (by first | (apply laws_szSelection_cc <;> assumption) | (first | (apply is_true; and_intros <;> (first | rfl | assumption | (apply laws_szStringS_cc <;> assumption) | (apply laws_szMember_cc <;> assumption) | (apply laws_szMemberS_cc <;> assumption) | (apply laws_szTypeS_cc <;> assumption) | (apply laws_szPoint_cc <;> assumption) | (apply laws_szPointS_cc <;> assumption) | (apply laws_szSelection_cc <;> assumption) | (first | (apply is_true; and_intros <;> (first | rfl | assumption | (apply laws_szStringS_cc <;> assumption) | (apply laws_szMember_cc <;> assumption) | (apply laws_szMemberS_cc <;> assumption) | (apply laws_szTypeS_cc <;> assumption) | (apply laws_szPoint_cc <;> assumption) | (apply laws_szPointS_cc <;> assumption) | (apply laws_szSelection_cc <;> assumption))) | (apply laws_szStringS_cc <;> assumption) | (apply laws_szMember_cc <;> assumption) | (apply laws_szMemberS_cc <;> assumption) | (apply laws_szTypeS_cc <;> assumption) | (apply laws_szPoint_cc <;> assumption) | (apply laws_szPointS_cc <;> assumption) | (apply laws_szSelection_cc <;> assumption)))) | (apply laws_szStringS_cc <;> assumption) | (apply laws_szMember_cc <;> assumption) | (apply laws_szMemberS_cc <;> assumption) | (apply laws_szTypeS_cc <;> assumption) | (apply laws_szPoint_cc <;> assumption) | (apply laws_szPointS_cc <;> assumption) | (apply laws_szSelection_cc <;> assumption))) ?_
      refine bifT (fun b3 => ?_) (fun b3 => ?_)
      · skip
        rfl
      · skip
        rfl
/-! laws_szMappingS -/
abbrev laws_szMappingS_5_σ := List (List TC) × Int × Int
abbrev laws_szMappingS_5_ω := (Int) ⊕ (Int)
noncomputable def laws_szMappingS_5_step (A : List (List TC)) (left : Int) (i : Int) : Tr (laws_szMappingS_5_σ ⊕ laws_szMappingS_5_ω) := (.ite ((decide (i < (A.length : Int))) = true) (.ite ((0 : Int) ≤ i ∧ i < (A.length : Int)) (.ite ((laws_szMapping_c ((nth (row A i) 0).str) ((nth (row A i) 1).int) ((nth (row A i) 2).list) ((nth (row A i) 3).list) ((nth (row A i) 4).list) ((nth (row A i) 5).list) ((nth (row A i) 6).list) ((nth (row A i) 7).int) ((nth (row A i) 8).list) ((nth (row A i) 9).list) ((nth (row A i) 10).list) ((nth (row A i) 11).list) ((nth (row A i) 12).list) left) = true) (.ite ((decide ((laws_szMapping_v ((nth (row A i) 0).str) ((nth (row A i) 1).int) ((nth (row A i) 2).list) ((nth (row A i) 3).list) ((nth (row A i) 4).list) ((nth (row A i) 5).list) ((nth (row A i) 6).list) ((nth (row A i) 7).int) ((nth (row A i) 8).list) ((nth (row A i) 9).list) ((nth (row A i) 10).list) ((nth (row A i) 11).list) ((nth (row A i) 12).list) left) < (0 : Int))) = true) (.ok (.inr (.inl (laws_szMapping_v ((nth (row A i) 0).str) ((nth (row A i) 1).int) ((nth (row A i) 2).list) ((nth (row A i) 3).list) ((nth (row A i) 4).list) ((nth (row A i) 5).list) ((nth (row A i) 6).list) ((nth (row A i) 7).int) ((nth (row A i) 8).list) ((nth (row A i) 9).list) ((nth (row A i) 10).list) ((nth (row A i) 11).list) ((nth (row A i) 12).list) left))))
     (.ok (.inl (A, (laws_szMapping_v ((nth (row A i) 0).str) ((nth (row A i) 1).int) ((nth (row A i) 2).list) ((nth (row A i) 3).list) ((nth (row A i) 4).list) ((nth (row A i) 5).list) ((nth (row A i) 6).list) ((nth (row A i) 7).int) ((nth (row A i) 8).list) ((nth (row A i) 9).list) ((nth (row A i) 10).list) ((nth (row A i) 11).list) ((nth (row A i) 12).list) left), (IntKind.wrap .i64 (i + (1 : Int)))))))
    .no)
   .no)
  (.ok (.inr (.inr left))))
noncomputable def laws_szMappingS_5_st : laws_szMappingS_5_σ → Tr (laws_szMappingS_5_σ ⊕ laws_szMappingS_5_ω) := fun x => (laws_szMappingS_5_step (x.1) (x.2.1) (x.2.2))
noncomputable def laws_szMappingS_k5_1 (A : List (List TC)) (left : Int) (i : Int) : Bool := isL (loopN laws_szMappingS_5_st (A.length + 1) (A, left, i))
noncomputable def laws_szMappingS_o5_2 (A : List (List TC)) (left : Int) (i : Int) : Bool := is (i = 0 ∧ Typed tab (.slice 163) (.l A))
noncomputable def laws_szMappingS_u5_2 (A : List (List TC)) (left : Int) (i : Int) : Int := getL (loopN laws_szMappingS_5_st (A.length + 1) (A, left, i))
noncomputable def laws_szMappingS_o5_3 (A : List (List TC)) (left : Int) (i : Int) : Bool := is (i = 0 ∧ Typed tab (.slice 163) (.l A))
noncomputable def laws_szMappingS_u5_3 (A : List (List TC)) (left : Int) (i : Int) : Int := getR (loopN laws_szMappingS_5_st (A.length + 1) (A, left, i))
noncomputable def laws_szMappingS_5_fin (A : List (List TC)) (left : Int) (i : Int) : Told laws_szMappingS_5_ω := (.br (laws_szMappingS_k5_1 A left i) (.leaf (laws_szMappingS_o5_2 A left i) (.inl (laws_szMappingS_u5_2 A left i))) (.leaf (laws_szMappingS_o5_3 A left i) (.inr (laws_szMappingS_u5_3 A left i))))
def laws_szMappingS_5_sl (x : laws_szMappingS_5_σ) : List Slot := [⟨.val false [⟨.slice 163, .sh, TC.l (x.1)⟩], ⟨0, 0⟩⟩, ⟨.val false [⟨.int .i64, .sh, TC.i (x.2.1)⟩], ⟨0, 0⟩⟩, ⟨.val false [⟨.int .i64, .sh, TC.i (x.2.2)⟩], ⟨0, 0⟩⟩]
def laws_szMappingS_5_out : laws_szMappingS_5_ω → Ex × List Slot := (Sum.elim (fun x => (.ret, [⟨.val false [⟨.int .i64, .sh, TC.i x⟩], ⟨0, 0⟩⟩, ⟨.val false [⟨.int .i64, .sh, TC.i (-1 : Int)⟩], ⟨0, 0⟩⟩])) (fun x => (.exit 0, [⟨.val false [⟨.int .i64, .sh, TC.i x⟩], ⟨0, 0⟩⟩, Slot.none])))
noncomputable def laws_szMappingS_lo5 : List Slot → Option (Told (Ex × List Slot)) := fun s => match s with
  | [⟨.val false [⟨.slice 163, .sh, TC.l A⟩], ⟨0, 0⟩⟩, ⟨.val false [⟨.int .i64, .sh, TC.i left⟩], ⟨0, 0⟩⟩, ⟨.val false [⟨.int .i64, .sh, TC.i i⟩], ⟨0, 0⟩⟩] => some (((laws_szMappingS_5_fin A left i)).map laws_szMappingS_5_out)
  | _ => .none
noncomputable def laws_szMappingS_lo : LoopTeller := fun r s => bif Nat.beq r 5 then laws_szMappingS_lo5 s else .none
theorem laws_szMappingS_5_r (A : List (List TC)) (left : Int) (i : Int) (fuel : Nat) : rounds (rnd tab FT D10 live 80 laws_szMappingS_lo 0 5) leave (fuel + 1) (laws_szMappingS_5_sl (A, left, i)) = ((laws_szMappingS_5_step A left i)).run (goOn (fun s => rounds (rnd tab FT D10 live 80 laws_szMappingS_lo 0 5) leave fuel (laws_szMappingS_5_sl s)) fun w => some (laws_szMappingS_5_out w)) := by kernel_rfl
theorem laws_szMappingS_5_h (A : List (List TC)) (left : Int) (i : Int) (ow : laws_szMappingS_5_ω) : ((laws_szMappingS_5_fin A left i)).val = some ow → ∃ fuel, loopN laws_szMappingS_5_st fuel (A, left, i) = some ow := by
  refine auto_two (N := A.length + 1) rfl rfl rfl ?_
  intro ho
  have ho : is (i = 0 ∧ Typed tab (.slice 163) (.l A)) = true := ho.elim id id
  obtain ⟨rfl, ht⟩ := is_iff.1 ho
  have hlen : A.length ≤ 140737488351232 := by have := typed_room ht; simp only [show (tab 163).bytes = 272 from rfl] at this; omega
  refine loopN_ends (step := laws_szMappingS_5_st) (N := A.length) (fun i a => (A, a, (i : Int))) (fun i a hi => ?_) (fun a => ?_) A.length 0 left (by omega)
  · show (∃ a', (laws_szMappingS_5_step A a (i : Int)).val = _) ∨ ∃ w, (laws_szMappingS_5_step A a (i : Int)).val = _
    have c0 : Typed tab (.str) (.s (nth (A.getD i []) 0).str) := typed_s (typed_cell ht (A.getD i []) (mem_getD hi) 0 (by decide))
    have c2 : Typed tab (.slice 2) (.l (nth (A.getD i []) 2).list) := typed_list (typed_cell ht (A.getD i []) (mem_getD hi) 2 (by decide))
    have c3 : Typed tab (.slice 2) (.l (nth (A.getD i []) 3).list) := typed_list (typed_cell ht (A.getD i []) (mem_getD hi) 3 (by decide))
    have c4 : Typed tab (.slice 2) (.l (nth (A.getD i []) 4).list) := typed_list (typed_cell ht (A.getD i []) (mem_getD hi) 4 (by decide))
    have c5 : Typed tab (.slice 2) (.l (nth (A.getD i []) 5).list) := typed_list (typed_cell ht (A.getD i []) (mem_getD hi) 5 (by decide))
    have c6 : Typed tab (.slice 215) (.l (nth (A.getD i []) 6).list) := typed_list (typed_cell ht (A.getD i []) (mem_getD hi) 6 (by decide))
    have c8 : Typed tab (.slice 2) (.l (nth (A.getD i []) 8).list) := typed_list (typed_cell ht (A.getD i []) (mem_getD hi) 8 (by decide))
    have c9 : Typed tab (.slice 2) (.l (nth (A.getD i []) 9).list) := typed_list (typed_cell ht (A.getD i []) (mem_getD hi) 9 (by decide))
    have c10 : Typed tab (.slice 2) (.l (nth (A.getD i []) 10).list) := typed_list (typed_cell ht (A.getD i []) (mem_getD hi) 10 (by decide))
    have c11 : Typed tab (.slice 2) (.l (nth (A.getD i []) 11).list) := typed_list (typed_cell ht (A.getD i []) (mem_getD hi) 11 (by decide))
    have c12 : Typed tab (.slice 215) (.l (nth (A.getD i []) 12).list) := typed_list (typed_cell ht (A.getD i []) (mem_getD hi) 12 (by decide))
    cases hneg : ((decide ((laws_szMapping_v ((nth (row A i) 0).str) ((nth (row A i) 1).int) ((nth (row A i) 2).list) ((nth (row A i) 3).list) ((nth (row A i) 4).list) ((nth (row A i) 5).list) ((nth (row A i) 6).list) ((nth (row A i) 7).int) ((nth (row A i) 8).list) ((nth (row A i) 9).list) ((nth (row A i) 10).list) ((nth (row A i) 11).list) ((nth (row A i) 12).list) a) < (0 : Int))))
    · apply Or.inl
      apply Exists.intro
      · unfold laws_szMappingS_5_step
        refine Tr.t (by simp; omega) ?_
        refine Tr.t (by first | omega | (constructor <;> omega)) ?_
        refine Tr.t (by first | (apply laws_szMapping_cc <;> assumption) | (first | (apply is_true; and_intros <;> (first | rfl | assumption | (apply laws_szStringS_cc <;> assumption) | (apply laws_szMember_cc <;> assumption) | (apply laws_szMemberS_cc <;> assumption) | (apply laws_szTypeS_cc <;> assumption) | (apply laws_szPoint_cc <;> assumption) | (apply laws_szPointS_cc <;> assumption) | (apply laws_szSelection_cc <;> assumption) | (apply laws_szMapping_cc <;> assumption) | (first | (apply is_true; and_intros <;> (first | rfl | assumption | (apply laws_szStringS_cc <;> assumption) | (apply laws_szMember_cc <;> assumption) | (apply laws_szMemberS_cc <;> assumption) | (apply laws_szTypeS_cc <;> assumption) | (apply laws_szPoint_cc <;> assumption) | (apply laws_szPointS_cc <;> assumption) | (apply laws_szSelection_cc <;> assumption) | (apply laws_szMapping_cc <;> assumption))) | (apply laws_szStringS_cc <;> assumption) | (apply laws_szMember_cc <;> assumption) | (apply laws_szMemberS_cc <;> assumption) | (apply laws_szTypeS_cc <;> assumption) | (apply laws_szPoint_cc <;> assumption) | (apply laws_szPointS_cc <;> assumption) | (apply laws_szSelection_cc <;> assumption) | (apply laws_szMapping_cc <;> assumption)))) | (apply laws_szStringS_cc <;> assumption) | (apply laws_szMember_cc <;> assumption) | (apply laws_szMemberS_cc <;> assumption) | (apply laws_szTypeS_cc <;> assumption) | (apply laws_szPoint_cc <;> assumption) | (apply laws_szPointS_cc <;> assumption) | (apply laws_szSelection_cc <;> assumption) | (apply laws_szMapping_cc <;> assumption))) ?_
        refine Tr.n (by rw [hneg]; simp) ?_
        rw [Tr.val_ok, wrap64 (i := (i : Int) + 1) (by omega) (by omega)]; rfl
    · apply Or.inr
      apply Exists.intro
      · unfold laws_szMappingS_5_step
        refine Tr.t (by simp; omega) ?_
        refine Tr.t (by first | omega | (constructor <;> omega)) ?_
        refine Tr.t (by first | (apply laws_szMapping_cc <;> assumption) | (first | (apply is_true; and_intros <;> (first | rfl | assumption | (apply laws_szStringS_cc <;> assumption) | (apply laws_szMember_cc <;> assumption) | (apply laws_szMemberS_cc <;> assumption) | (apply laws_szTypeS_cc <;> assumption) | (apply laws_szPoint_cc <;> assumption) | (apply laws_szPointS_cc <;> assumption) | (apply laws_szSelection_cc <;> assumption) | (apply laws_szMapping_cc <;> assumption) | (first | (apply is_true; and_intros <;> (first | rfl | assumption | (apply laws_szStringS_cc <;> assumption) | (apply laws_szMember_cc <;> assumption) | (apply laws_szMemberS_cc <;> assumption) | (apply laws_szTypeS_cc <;> assumption) | (apply laws_szPoint_cc <;> assumption) | (apply laws_szPointS_cc <;> assumption) | (apply laws_szSelection_cc <;> assumption) | (apply laws_szMapping_cc <;> assumption))) | (apply laws_szStringS_cc <;> assumption) | (apply laws_szMember_cc <;> assumption) | (apply laws_szMemberS_cc <;> assumption) | (apply laws_szTypeS_cc <;> assumption) | (apply laws_szPoint_cc <;> assumption) | (apply laws_szPointS_cc <;> assumption) | (apply laws_szSelection_cc <;> assumption) | (apply laws_szMapping_cc <;> assumption)))) | (apply laws_szStringS_cc <;> assumption) | (apply laws_szMember_cc <;> assumption) | (apply laws_szMemberS_cc <;> assumption) | (apply laws_szTypeS_cc <;> assumption) | (apply laws_szPoint_cc <;> assumption) | (apply laws_szPointS_cc <;> assumption) | (apply laws_szSelection_cc <;> assumption) | (apply laws_szMapping_cc <;> assumption))) ?_
        refine Tr.t hneg ?_
        rfl
  · apply Exists.intro
    · show (laws_szMappingS_5_step A a (A.length : Int)).val = _
      refine Tr.n (by simp) ?_
      rfl
theorem laws_szMappingS_is5 : LoopIs tab FT D10 live 80 laws_szMappingS_lo 0 5 := by
  refine loop_told (sl := laws_szMappingS_5_sl) (step := laws_szMappingS_5_st) (out := laws_szMappingS_5_out) (lor := laws_szMappingS_lo5) (fin := fun x => (laws_szMappingS_5_fin (x.1) (x.2.1) (x.2.2))) (fun _ => rfl) ?_ (fun x n => laws_szMappingS_5_r x.1 x.2.1 x.2.2 n) (fun x ow => laws_szMappingS_5_h x.1 x.2.1 x.2.2 ow)
  intro s t h
  unfold laws_szMappingS_lo5 at h
  split at h
  · cases h; exact ⟨(_, _, _), rfl, rfl⟩
  · cases h
noncomputable def laws_szMappingS_t (A : List (List TC)) (left : Int) : Tr (Int) := (.ite ((decide ((IntKind.wrap .i64 (left - (A.length : Int))) < (0 : Int))) = true) (.ok (-1 : Int))
  (.ite ((laws_szMappingS_k5_1 A (IntKind.wrap .i64 (left - (A.length : Int))) (0 : Int)) = true) (.ite ((laws_szMappingS_o5_2 A (IntKind.wrap .i64 (left - (A.length : Int))) (0 : Int)) = true) (.ok (-1 : Int))
    .no)
   (.ite ((laws_szMappingS_o5_3 A (IntKind.wrap .i64 (left - (A.length : Int))) (0 : Int)) = true) (.ok (laws_szMappingS_u5_3 A (IntKind.wrap .i64 (left - (A.length : Int))) (0 : Int)))
    .no)))
def laws_szMappingS_mk (p : Int) : Res := [(false, [⟨.int .i64, .sh, TC.i p⟩])]
noncomputable def laws_szMappingS_c (A : List (List TC)) (left : Int) : Bool := (bif (decide ((IntKind.wrap .i64 (left - (A.length : Int))) < (0 : Int))) then true else (bif (laws_szMappingS_k5_1 A (IntKind.wrap .i64 (left - (A.length : Int))) (0 : Int)) then ((laws_szMappingS_o5_2 A (IntKind.wrap .i64 (left - (A.length : Int))) (0 : Int)) && true) else ((laws_szMappingS_o5_3 A (IntKind.wrap .i64 (left - (A.length : Int))) (0 : Int)) && true)))
noncomputable def laws_szMappingS_v (A : List (List TC)) (left : Int) : Int := (bif (decide ((IntKind.wrap .i64 (left - (A.length : Int))) < (0 : Int))) then (-1 : Int) else (bif (laws_szMappingS_k5_1 A (IntKind.wrap .i64 (left - (A.length : Int))) (0 : Int)) then (-1 : Int) else (laws_szMappingS_u5_3 A (IntKind.wrap .i64 (left - (A.length : Int))) (0 : Int))))
theorem laws_szMappingS_l (A : List (List TC)) (left : Int) : (laws_szMappingS_c A left) = true → (laws_szMappingS_t A left).val = some (laws_szMappingS_v A left) := by
  unfold laws_szMappingS_t laws_szMappingS_v laws_szMappingS_c
  exact fun h => (Tr.ss h (fun h => rfl) (fun h => (Tr.ss h (fun h => (Tr.gb h fun h => rfl)) (fun h => (Tr.gb h fun h => rfl)))))
noncomputable def laws_szMappingS_S : List Arg → Option (Bool × Res) := fun xs => match xs with
  | [(false, [(.slice 163, TC.l A)]), (false, [(.int .i64, TC.i left)])] => some ((laws_szMappingS_c A left), laws_szMappingS_mk (laws_szMappingS_v A left))
  | _ => .none
theorem laws_szMappingS_e (A : List (List TC)) (left : Int) : runF tab FT D10 live 80 laws_szMappingS_lo [(false, [(.slice 163, TC.l A)]), (false, [(.int .i64, TC.i left)])] = (laws_szMappingS_t A left).run fun p => some (laws_szMappingS_mk p) := by kernel_rfl
theorem laws_szMappingS_s : ∀ xs r, laws_szMappingS_S xs = some (true, r) → runF tab FT D10 live 80 laws_szMappingS_lo xs = some r := by
  intro xs r h
  unfold laws_szMappingS_S at h
  split at h
  · simp only [Option.some.injEq, Prod.mk.injEq] at h
    obtain ⟨h1, rfl⟩ := h
    exact fun_told (laws_szMappingS_e _ _) (laws_szMappingS_l _ _) h1
  · cases h
noncomputable def D11 : Dt := also D10 80 laws_szMappingS_S
theorem d11 : DOk Go.Proofs.Try.prog tab D11 := d10.also mixed_ok tab_ok names_ok (fnLoops_one (by kernel_rfl) laws_szMappingS_is5) laws_szMappingS_s
theorem laws_szMappingS_cc {A : List (List TC)} {left : Int} (ht : Typed tab (.slice 163) (.l A)) : (laws_szMappingS_c A left) = true := by
  unfold laws_szMappingS_c
  refine bifT (fun b1 => ?_) (fun b1 => ?_)
  · skip
    rfl
  · skip
    refine bifT (fun b2 => ?_) (fun b2 => ?_)
    · skip
      refine andT (by exact is_true ⟨rfl, ht⟩) ?_
      rfl
    · skip
      refine andT (by exact is_true ⟨rfl, ht⟩) ?_
      rfl
/-! laws_szVirtual -/
noncomputable def laws_szVirtual_t (x0 : Int) (x1 : Int) (x2 : Bool) (x3 : Bool) (x4 : List (List TC)) (x5 : List (List TC)) (x6 : List (List TC)) (x7 : List (List TC)) (x8 : Int) (x9 : List (List TC)) (x10 : List UInt8) (x11 : List (List TC)) (x12 : Int) : Tr (Int) := (.ite ((laws_szType_rc x0 x1 x2 x3 x4 x5 x6 x7 x8 x12) = true) (.ite ((decide ((laws_szType_rv x0 x1 x2 x3 x4 x5 x6 x7 x8 x12) < (0 : Int))) = true) (.ok (-1 : Int))
   (.ite ((decide ((laws_szInt64S_v x9 (laws_szType_rv x0 x1 x2 x3 x4 x5 x6 x7 x8 x12)) < (0 : Int))) = true) (.ok (-1 : Int))
    (.ite ((decide ((IntKind.wrap .i64 ((laws_szInt64S_v x9 (laws_szType_rv x0 x1 x2 x3 x4 x5 x6 x7 x8 x12)) - (x10.length : Int))) < (0 : Int))) = true) (.ok (-1 : Int))
     (.ite ((laws_szMappingS_c x11 (IntKind.wrap .i64 ((laws_szInt64S_v x9 (laws_szType_rv x0 x1 x2 x3 x4 x5 x6 x7 x8 x12)) - (x10.length : Int)))) = true) (.ite ((decide ((laws_szMappingS_v x11 (IntKind.wrap .i64 ((laws_szInt64S_v x9 (laws_szType_rv x0 x1 x2 x3 x4 x5 x6 x7 x8 x12)) - (x10.length : Int)))) < (0 : Int))) = true) (.ok (-1 : Int))
       (.ok (laws_szMappingS_v x11 (IntKind.wrap .i64 ((laws_szInt64S_v x9 (laws_szType_rv x0 x1 x2 x3 x4 x5 x6 x7 x8 x12)) - (x10.length : Int))))))
      .no))))
  .no)
def laws_szVirtual_mk (p : Int) : Res := [(false, [⟨.int .i64, .sh, TC.i p⟩])]
noncomputable def laws_szVirtual_c (x0 : Int) (x1 : Int) (x2 : Bool) (x3 : Bool) (x4 : List (List TC)) (x5 : List (List TC)) (x6 : List (List TC)) (x7 : List (List TC)) (x8 : Int) (x9 : List (List TC)) (x10 : List UInt8) (x11 : List (List TC)) (x12 : Int) : Bool := ((laws_szType_rc x0 x1 x2 x3 x4 x5 x6 x7 x8 x12) && (bif (decide ((laws_szType_rv x0 x1 x2 x3 x4 x5 x6 x7 x8 x12) < (0 : Int))) then true else (bif (decide ((laws_szInt64S_v x9 (laws_szType_rv x0 x1 x2 x3 x4 x5 x6 x7 x8 x12)) < (0 : Int))) then true else (bif (decide ((IntKind.wrap .i64 ((laws_szInt64S_v x9 (laws_szType_rv x0 x1 x2 x3 x4 x5 x6 x7 x8 x12)) - (x10.length : Int))) < (0 : Int))) then true else ((laws_szMappingS_c x11 (IntKind.wrap .i64 ((laws_szInt64S_v x9 (laws_szType_rv x0 x1 x2 x3 x4 x5 x6 x7 x8 x12)) - (x10.length : Int)))) && (bif (decide ((laws_szMappingS_v x11 (IntKind.wrap .i64 ((laws_szInt64S_v x9 (laws_szType_rv x0 x1 x2 x3 x4 x5 x6 x7 x8 x12)) - (x10.length : Int)))) < (0 : Int))) then true else true))))))
noncomputable def laws_szVirtual_v (x0 : Int) (x1 : Int) (x2 : Bool) (x3 : Bool) (x4 : List (List TC)) (x5 : List (List TC)) (x6 : List (List TC)) (x7 : List (List TC)) (x8 : Int) (x9 : List (List TC)) (x10 : List UInt8) (x11 : List (List TC)) (x12 : Int) : Int := (bif (decide ((laws_szType_rv x0 x1 x2 x3 x4 x5 x6 x7 x8 x12) < (0 : Int))) then (-1 : Int) else (bif (decide ((laws_szInt64S_v x9 (laws_szType_rv x0 x1 x2 x3 x4 x5 x6 x7 x8 x12)) < (0 : Int))) then (-1 : Int) else (bif (decide ((IntKind.wrap .i64 ((laws_szInt64S_v x9 (laws_szType_rv x0 x1 x2 x3 x4 x5 x6 x7 x8 x12)) - (x10.length : Int))) < (0 : Int))) then (-1 : Int) else (bif (decide ((laws_szMappingS_v x11 (IntKind.wrap .i64 ((laws_szInt64S_v x9 (laws_szType_rv x0 x1 x2 x3 x4 x5 x6 x7 x8 x12)) - (x10.length : Int)))) < (0 : Int))) then (-1 : Int) else (laws_szMappingS_v x11 (IntKind.wrap .i64 ((laws_szInt64S_v x9 (laws_szType_rv x0 x1 x2 x3 x4 x5 x6 x7 x8 x12)) - (x10.length : Int))))))))
theorem laws_szVirtual_l (x0 : Int) (x1 : Int) (x2 : Bool) (x3 : Bool) (x4 : List (List TC)) (x5 : List (List TC)) (x6 : List (List TC)) (x7 : List (List TC)) (x8 : Int) (x9 : List (List TC)) (x10 : List UInt8) (x11 : List (List TC)) (x12 : Int) : (laws_szVirtual_c x0 x1 x2 x3 x4 x5 x6 x7 x8 x9 x10 x11 x12) = true → (laws_szVirtual_t x0 x1 x2 x3 x4 x5 x6 x7 x8 x9 x10 x11 x12).val = some (laws_szVirtual_v x0 x1 x2 x3 x4 x5 x6 x7 x8 x9 x10 x11 x12) := by
  unfold laws_szVirtual_t laws_szVirtual_v laws_szVirtual_c
  exact fun h => (Tr.gb h fun h => (Tr.ss h (fun h => rfl) (fun h => (Tr.ss h (fun h => rfl) (fun h => (Tr.ss h (fun h => rfl) (fun h => (Tr.gb h fun h => (Tr.ss h (fun h => rfl) (fun h => rfl))))))))))
noncomputable def laws_szVirtual_S : List Arg → Option (Bool × Res) := fun xs => match xs with
  | [(true, [(.int .i64, TC.i x0), (.int .i64, TC.i x1), (.bool, TC.b x2), (.bool, TC.b x3), (.slice 9, TC.l x4), (.slice 2, TC.l x5), (.slice 189, TC.l x6), (.slice 45, TC.l x7), (.int .i64, TC.i x8), (.slice 2, TC.l x9), (.str, TC.s x10), (.slice 163, TC.l x11)]), (false, [(.int .i64, TC.i x12)])] => some ((laws_szVirtual_c x0 x1 x2 x3 x4 x5 x6 x7 x8 x9 x10 x11 x12), laws_szVirtual_mk (laws_szVirtual_v x0 x1 x2 x3 x4 x5 x6 x7 x8 x9 x10 x11 x12))
  | _ => .none
theorem laws_szVirtual_e (x0 : Int) (x1 : Int) (x2 : Bool) (x3 : Bool) (x4 : List (List TC)) (x5 : List (List TC)) (x6 : List (List TC)) (x7 : List (List TC)) (x8 : Int) (x9 : List (List TC)) (x10 : List UInt8) (x11 : List (List TC)) (x12 : Int) : runF tab FT D11 live 32 noLoops [(true, [(.int .i64, TC.i x0), (.int .i64, TC.i x1), (.bool, TC.b x2), (.bool, TC.b x3), (.slice 9, TC.l x4), (.slice 2, TC.l x5), (.slice 189, TC.l x6), (.slice 45, TC.l x7), (.int .i64, TC.i x8), (.slice 2, TC.l x9), (.str, TC.s x10), (.slice 163, TC.l x11)]), (false, [(.int .i64, TC.i x12)])] = (laws_szVirtual_t x0 x1 x2 x3 x4 x5 x6 x7 x8 x9 x10 x11 x12).run fun p => some (laws_szVirtual_mk p) := by kernel_rfl
theorem laws_szVirtual_s : ∀ xs r, laws_szVirtual_S xs = some (true, r) → runF tab FT D11 live 32 noLoops xs = some r := by
  intro xs r h
  unfold laws_szVirtual_S at h
  split at h
  · simp only [Option.some.injEq, Prod.mk.injEq] at h
    obtain ⟨h1, rfl⟩ := h
    exact fun_told (laws_szVirtual_e _ _ _ _ _ _ _ _ _ _ _ _ _) (laws_szVirtual_l _ _ _ _ _ _ _ _ _ _ _ _ _) h1
  · cases h
noncomputable def D12 : Dt := also D11 32 laws_szVirtual_S
theorem d12 : DOk Go.Proofs.Try.prog tab D12 := d11.also mixed_ok tab_ok names_ok noLoops_ok laws_szVirtual_s
theorem laws_szVirtual_cc {x0 : Int} {x1 : Int} {x2 : Bool} {x3 : Bool} {x4 : List (List TC)} {x5 : List (List TC)} {x6 : List (List TC)} {x7 : List (List TC)} {x8 : Int} {x9 : List (List TC)} {x10 : List UInt8} {x11 : List (List TC)} {x12 : Int} (t4 : Typed tab (.slice 9) (.l x4)) (t5 : Typed tab (.slice 2) (.l x5)) (t6 : Typed tab (.slice 189) (.l x6)) (t7 : Typed tab (.slice 45) (.l x7)) (t9 : Typed tab (.slice 2) (.l x9)) (t11 : Typed tab (.slice 163) (.l x11)) (h0 : (∀ left : Int, laws_szType_rc x0 x1 x2 x3 x4 x5 x6 x7 x8 left = true)) : (laws_szVirtual_c x0 x1 x2 x3 x4 x5 x6 x7 x8 x9 x10 x11 x12) = true := by
  unfold laws_szVirtual_c
  refine andT (by exact h0 _) ?_
  refine bifT (fun b1 => ?_) (fun b1 => ?_)
  · skip
    rfl
  · skip
    refine bifT (fun b2 => ?_) (fun b2 => ?_)
    · skip
      rfl
    · skip
      refine bifT (fun b3 => ?_) (fun b3 => ?_)
      · skip
        rfl
      · skip
        refine andT (by exact laws_szMappingS_cc t11) ?_
        refine bifT (fun b4 => ?_) (fun b4 => ?_)
        · skip
          rfl
        · skip
          rfl
/-! laws_toStringS -/
noncomputable def laws_toStringS_g (x : List TC) : List TC := [TC.s ((nth x 0).str)]
def laws_toStringS_z : List TC := [TC.s []]
theorem laws_toStringS_id {A : List (List TC)} (h : Typed tab (.slice 9) (.l A)) : A.map laws_toStringS_g = A := map_same fun x hx => by
  obtain ⟨hl, hk⟩ := typed_elem h hx
  have e0 : TC.s ((nth x 0).str) = nth x 0 := typed_str_eq (hk 0 (by decide))
  show [TC.s ((nth x 0).str)] = _
  rw [e0]
  exact (row_eta hl).symm
abbrev laws_toStringS_3_σ := List (List TC) × List (List TC) × Int
abbrev laws_toStringS_3_ω := (List (List TC))
noncomputable def laws_toStringS_3_step (A : List (List TC)) (X : List (List TC)) (i : Int) : Tr (laws_toStringS_3_σ ⊕ laws_toStringS_3_ω) := (.ite ((decide (i < (A.length : Int))) = true) (.ite ((0 : Int) ≤ i ∧ i < (A.length : Int)) (.ite ((0 : Int) ≤ i ∧ i < (X.length : Int)) (.ok (.inl (A, (X.set (i).toNat (splice (row X i) 0 [TC.s ((nth (row A i) 0).str)])), (IntKind.wrap .i64 (i + (1 : Int))))))
    .no)
   .no)
  (.ok (.inr X)))
noncomputable def laws_toStringS_3_st : laws_toStringS_3_σ → Tr (laws_toStringS_3_σ ⊕ laws_toStringS_3_ω) := fun x => (laws_toStringS_3_step (x.1) (x.2.1) (x.2.2))
noncomputable def laws_toStringS_o3_1 (A : List (List TC)) (X : List (List TC)) (i : Int) : Bool := is (Typed tab (.slice 9) (.l A) ∧ X = List.replicate A.length laws_toStringS_z ∧ i = 0)
noncomputable def laws_toStringS_3_fin (A : List (List TC)) (X : List (List TC)) (i : Int) : Told laws_toStringS_3_ω := (.leaf (laws_toStringS_o3_1 A X i) A)
def laws_toStringS_3_sl (x : laws_toStringS_3_σ) : List Slot := [⟨.val false [⟨.slice 9, .sh, TC.l (x.1)⟩], ⟨0, 0⟩⟩, ⟨.val false [⟨.slice 9, .own true, TC.l (x.2.1)⟩], ⟨0, 0⟩⟩, ⟨.val false [⟨.int .i64, .sh, TC.i (x.2.2)⟩], ⟨0, 0⟩⟩]
def laws_toStringS_3_out : laws_toStringS_3_ω → Ex × List Slot := (fun x => (.exit 0, [Slot.none, ⟨.val false [⟨.slice 9, .own true, TC.l x⟩], ⟨0, 0⟩⟩]))
noncomputable def laws_toStringS_lo3 : List Slot → Option (Told (Ex × List Slot)) := fun s => match s with
  | [⟨.val false [⟨.slice 9, .sh, TC.l A⟩], ⟨0, 0⟩⟩, ⟨.val false [⟨.slice 9, .own true, TC.l X⟩], ⟨0, 0⟩⟩, ⟨.val false [⟨.int .i64, .sh, TC.i i⟩], ⟨0, 0⟩⟩] => some (((laws_toStringS_3_fin A X i)).map laws_toStringS_3_out)
  | _ => .none
noncomputable def laws_toStringS_lo : LoopTeller := fun r s => bif Nat.beq r 3 then laws_toStringS_lo3 s else .none
theorem laws_toStringS_3_r (A : List (List TC)) (X : List (List TC)) (i : Int) (fuel : Nat) : rounds (rnd tab FT D12 live 98 laws_toStringS_lo 0 3) leave (fuel + 1) (laws_toStringS_3_sl (A, X, i)) = ((laws_toStringS_3_step A X i)).run (goOn (fun s => rounds (rnd tab FT D12 live 98 laws_toStringS_lo 0 3) leave fuel (laws_toStringS_3_sl s)) fun w => some (laws_toStringS_3_out w)) := by kernel_rfl
theorem laws_toStringS_3_h (A : List (List TC)) (X : List (List TC)) (i : Int) (ow : laws_toStringS_3_ω) : ((laws_toStringS_3_fin A X i)).val = some ow → ∃ fuel, loopN laws_toStringS_3_st fuel (A, X, i) = some ow := by
  intro h
  refine auto_leaf (R := A) (fun ho => ?_) h
  obtain ⟨ht, rfl, rfl⟩ := is_iff.1 ho
  have hlen : A.length ≤ 140737488351232 := by have := typed_room ht; simp only [show (tab 9).bytes = 16 from rfl] at this; omega
  have key := loopN_copy (step := laws_toStringS_3_st) A (List.replicate A.length laws_toStringS_z) laws_toStringS_g (fun Y i => (A, Y, (i : Int))) (A.map laws_toStringS_g) (by simp) (fun x hx i _ => by rw [(List.mem_replicate.1 hx).2]; exact Nat.le_refl 1) (fun Y i hi hl => ?_) ?_ A.length 0 (by omega)
  · rw [copied_zero, laws_toStringS_id ht] at key
    exact ⟨_, key⟩
  · have c0 : Typed tab (.str) (.s (nth (A.getD i []) 0).str) := typed_s (typed_cell ht (A.getD i []) (mem_getD hi) 0 (by decide))
    show (laws_toStringS_3_step A Y (i : Int)).val = _
    unfold laws_toStringS_3_step
    refine Tr.t (by simp; omega) ?_
    refine Tr.t (by first | omega | (constructor <;> omega)) ?_
    refine Tr.t (by first | omega | (constructor <;> omega)) ?_
    rw [Tr.val_ok, wrap64 (i := (i : Int) + 1) (by omega) (by omega)]; rfl
  · show (laws_toStringS_3_step A (A.map laws_toStringS_g) (A.length : Int)).val = _
    refine Tr.n (by simp) ?_
    rfl
theorem laws_toStringS_is3 : LoopIs tab FT D12 live 98 laws_toStringS_lo 0 3 := by
  refine loop_told (sl := laws_toStringS_3_sl) (step := laws_toStringS_3_st) (out := laws_toStringS_3_out) (lor := laws_toStringS_lo3) (fin := fun x => (laws_toStringS_3_fin (x.1) (x.2.1) (x.2.2))) (fun _ => rfl) ?_ (fun x n => laws_toStringS_3_r x.1 x.2.1 x.2.2 n) (fun x ow => laws_toStringS_3_h x.1 x.2.1 x.2.2 ow)
  intro s t h
  unfold laws_toStringS_lo3 at h
  split at h
  · cases h; exact ⟨(_, _, _), rfl, rfl⟩
  · cases h
noncomputable def laws_toStringS_t (A : List (List TC)) : Tr (List (List TC)) := (.ite (0 ≤ (A.length : Int) ∧ (A.length : Int) ≤ (A.length : Int) ∧ (A.length : Int) * 16 ≤ 140737488355328 ∧ (A.length : Int) ≤ 140737488355328) (.ite ((laws_toStringS_o3_1 A (List.replicate ((A.length : Int)).toNat [TC.s []]) (0 : Int)) = true) (.ok A)
   .no)
  .no)
def laws_toStringS_mk (p : List (List TC)) : Res := [(false, [⟨.slice 9, .own true, TC.l p⟩])]
noncomputable def laws_toStringS_c (A : List (List TC)) : Bool := is (Typed tab (.slice 9) (.l A))
noncomputable def laws_toStringS_v (A : List (List TC)) : List (List TC) := A
theorem laws_toStringS_l (A : List (List TC)) : (laws_toStringS_c A) = true → (laws_toStringS_t A).val = some (laws_toStringS_v A) := by
  intro h
  have ht := is_iff.1 h
  have hb := typed_room ht
  simp only [show (tab 9).bytes = 16 from rfl] at hb
  unfold laws_toStringS_t
  refine Tr.t (by omega) ?_
  refine Tr.t (is_true ⟨ht, by rfl, rfl⟩) ?_
  rfl
noncomputable def laws_toStringS_S : List Arg → Option (Bool × Res) := fun xs => match xs with
  | [(false, [(.slice 9, TC.l A)])] => some ((laws_toStringS_c A), laws_toStringS_mk (laws_toStringS_v A))
  | _ => .none
theorem laws_toStringS_e (A : List (List TC)) : runF tab FT D12 live 98 laws_toStringS_lo [(false, [(.slice 9, TC.l A)])] = (laws_toStringS_t A).run fun p => some (laws_toStringS_mk p) := by kernel_rfl
theorem laws_toStringS_s : ∀ xs r, laws_toStringS_S xs = some (true, r) → runF tab FT D12 live 98 laws_toStringS_lo xs = some r := by
  intro xs r h
  unfold laws_toStringS_S at h
  split at h
  · simp only [Option.some.injEq, Prod.mk.injEq] at h
    obtain ⟨h1, rfl⟩ := h
    exact fun_told (laws_toStringS_e _) (laws_toStringS_l _) h1
  · cases h
noncomputable def D13 : Dt := also D12 98 laws_toStringS_S
theorem d13 : DOk Go.Proofs.Try.prog tab D13 := d12.also mixed_ok tab_ok names_ok (fnLoops_one (by kernel_rfl) laws_toStringS_is3) laws_toStringS_s
theorem laws_toStringS_ty {A : List (List TC)} (h : Typed tab (.slice 9) (.l A)) : Typed tab (.slice 9) (.l A) := typed_iso iso_ok h (by decide)
/-! laws_toInt64S -/
noncomputable def laws_toInt64S_g (x : List TC) : List TC := [TC.i ((nth x 0).int)]
def laws_toInt64S_z : List TC := [TC.i (0 : Int)]
theorem laws_toInt64S_id {A : List (List TC)} (h : Typed tab (.slice 2) (.l A)) : A.map laws_toInt64S_g = A := map_same fun x hx => by
  obtain ⟨hl, hk⟩ := typed_elem h hx
  have e0 : TC.i ((nth x 0).int) = nth x 0 := typed_int_eq (hk 0 (by decide))
  show [TC.i ((nth x 0).int)] = _
  rw [e0]
  exact (row_eta hl).symm
abbrev laws_toInt64S_3_σ := List (List TC) × List (List TC) × Int
abbrev laws_toInt64S_3_ω := (List (List TC))
noncomputable def laws_toInt64S_3_step (A : List (List TC)) (X : List (List TC)) (i : Int) : Tr (laws_toInt64S_3_σ ⊕ laws_toInt64S_3_ω) := (.ite ((decide (i < (A.length : Int))) = true) (.ite ((0 : Int) ≤ i ∧ i < (A.length : Int)) (.ite ((0 : Int) ≤ i ∧ i < (X.length : Int)) (.ok (.inl (A, (X.set (i).toNat (splice (row X i) 0 [TC.i ((nth (row A i) 0).int)])), (IntKind.wrap .i64 (i + (1 : Int))))))
    .no)
   .no)
  (.ok (.inr X)))
noncomputable def laws_toInt64S_3_st : laws_toInt64S_3_σ → Tr (laws_toInt64S_3_σ ⊕ laws_toInt64S_3_ω) := fun x => (laws_toInt64S_3_step (x.1) (x.2.1) (x.2.2))
noncomputable def laws_toInt64S_o3_1 (A : List (List TC)) (X : List (List TC)) (i : Int) : Bool := is (Typed tab (.slice 2) (.l A) ∧ X = List.replicate A.length laws_toInt64S_z ∧ i = 0)
noncomputable def laws_toInt64S_3_fin (A : List (List TC)) (X : List (List TC)) (i : Int) : Told laws_toInt64S_3_ω := (.leaf (laws_toInt64S_o3_1 A X i) A)
def laws_toInt64S_3_sl (x : laws_toInt64S_3_σ) : List Slot := [⟨.val false [⟨.slice 2, .sh, TC.l (x.1)⟩], ⟨0, 0⟩⟩, ⟨.val false [⟨.slice 2, .own true, TC.l (x.2.1)⟩], ⟨0, 0⟩⟩, ⟨.val false [⟨.int .i64, .sh, TC.i (x.2.2)⟩], ⟨0, 0⟩⟩]
def laws_toInt64S_3_out : laws_toInt64S_3_ω → Ex × List Slot := (fun x => (.exit 0, [Slot.none, ⟨.val false [⟨.slice 2, .own true, TC.l x⟩], ⟨0, 0⟩⟩]))
noncomputable def laws_toInt64S_lo3 : List Slot → Option (Told (Ex × List Slot)) := fun s => match s with
  | [⟨.val false [⟨.slice 2, .sh, TC.l A⟩], ⟨0, 0⟩⟩, ⟨.val false [⟨.slice 2, .own true, TC.l X⟩], ⟨0, 0⟩⟩, ⟨.val false [⟨.int .i64, .sh, TC.i i⟩], ⟨0, 0⟩⟩] => some (((laws_toInt64S_3_fin A X i)).map laws_toInt64S_3_out)
  | _ => .none
noncomputable def laws_toInt64S_lo : LoopTeller := fun r s => bif Nat.beq r 3 then laws_toInt64S_lo3 s else .none
theorem laws_toInt64S_3_r (A : List (List TC)) (X : List (List TC)) (i : Int) (fuel : Nat) : rounds (rnd tab FT D13 live 70 laws_toInt64S_lo 0 3) leave (fuel + 1) (laws_toInt64S_3_sl (A, X, i)) = ((laws_toInt64S_3_step A X i)).run (goOn (fun s => rounds (rnd tab FT D13 live 70 laws_toInt64S_lo 0 3) leave fuel (laws_toInt64S_3_sl s)) fun w => some (laws_toInt64S_3_out w)) := by kernel_rfl
theorem laws_toInt64S_3_h (A : List (List TC)) (X : List (List TC)) (i : Int) (ow : laws_toInt64S_3_ω) : ((laws_toInt64S_3_fin A X i)).val = some ow → ∃ fuel, loopN laws_toInt64S_3_st fuel (A, X, i) = some ow := by
  intro h
  refine auto_leaf (R := A) (fun ho => ?_) h
  obtain ⟨ht, rfl, rfl⟩ := is_iff.1 ho
  have hlen : A.length ≤ 140737488351232 := by have := typed_room ht; simp only [show (tab 2).bytes = 8 from rfl] at this; omega
  have key := loopN_copy (step := laws_toInt64S_3_st) A (List.replicate A.length laws_toInt64S_z) laws_toInt64S_g (fun Y i => (A, Y, (i : Int))) (A.map laws_toInt64S_g) (by simp) (fun x hx i _ => by rw [(List.mem_replicate.1 hx).2]; exact Nat.le_refl 1) (fun Y i hi hl => ?_) ?_ A.length 0 (by omega)
  · rw [copied_zero, laws_toInt64S_id ht] at key
    exact ⟨_, key⟩
  · skip
    show (laws_toInt64S_3_step A Y (i : Int)).val = _
    unfold laws_toInt64S_3_step
    refine Tr.t (by simp; omega) ?_
    refine Tr.t (by first | omega | (constructor <;> omega)) ?_
    refine Tr.t (by first | omega | (constructor <;> omega)) ?_
    rw [Tr.val_ok, wrap64 (i := (i : Int) + 1) (by omega) (by omega)]; rfl
  · show (laws_toInt64S_3_step A (A.map laws_toInt64S_g) (A.length : Int)).val = _
    refine Tr.n (by simp) ?_
    rfl
theorem laws_toInt64S_is3 : LoopIs tab FT D13 live 70 laws_toInt64S_lo 0 3 := by
  refine loop_told (sl := laws_toInt64S_3_sl) (step := laws_toInt64S_3_st) (out := laws_toInt64S_3_out) (lor := laws_toInt64S_lo3) (fin := fun x => (laws_toInt64S_3_fin (x.1) (x.2.1) (x.2.2))) (fun _ => rfl) ?_ (fun x n => laws_toInt64S_3_r x.1 x.2.1 x.2.2 n) (fun x ow => laws_toInt64S_3_h x.1 x.2.1 x.2.2 ow)
  intro s t h
  unfold laws_toInt64S_lo3 at h
  split at h
  · cases h; exact ⟨(_, _, _), rfl, rfl⟩
  · cases h
noncomputable def laws_toInt64S_t (A : List (List TC)) : Tr (List (List TC)) := (.ite (0 ≤ (A.length : Int) ∧ (A.length : Int) ≤ (A.length : Int) ∧ (A.length : Int) * 8 ≤ 140737488355328 ∧ (A.length : Int) ≤ 140737488355328) (.ite ((laws_toInt64S_o3_1 A (List.replicate ((A.length : Int)).toNat [TC.i (0 : Int)]) (0 : Int)) = true) (.ok A)
   .no)
  .no)
def laws_toInt64S_mk (p : List (List TC)) : Res := [(false, [⟨.slice 2, .own true, TC.l p⟩])]
noncomputable def laws_toInt64S_c (A : List (List TC)) : Bool := is (Typed tab (.slice 2) (.l A))
noncomputable def laws_toInt64S_v (A : List (List TC)) : List (List TC) := A
theorem laws_toInt64S_l (A : List (List TC)) : (laws_toInt64S_c A) = true → (laws_toInt64S_t A).val = some (laws_toInt64S_v A) := by
  intro h
  have ht := is_iff.1 h
  have hb := typed_room ht
  simp only [show (tab 2).bytes = 8 from rfl] at hb
  unfold laws_toInt64S_t
  refine Tr.t (by omega) ?_
  refine Tr.t (is_true ⟨ht, by rfl, rfl⟩) ?_
  rfl
noncomputable def laws_toInt64S_S : List Arg → Option (Bool × Res) := fun xs => match xs with
  | [(false, [(.slice 2, TC.l A)])] => some ((laws_toInt64S_c A), laws_toInt64S_mk (laws_toInt64S_v A))
  | _ => .none
theorem laws_toInt64S_e (A : List (List TC)) : runF tab FT D13 live 70 laws_toInt64S_lo [(false, [(.slice 2, TC.l A)])] = (laws_toInt64S_t A).run fun p => some (laws_toInt64S_mk p) := by kernel_rfl
theorem laws_toInt64S_s : ∀ xs r, laws_toInt64S_S xs = some (true, r) → runF tab FT D13 live 70 laws_toInt64S_lo xs = some r := by
  intro xs r h
  unfold laws_toInt64S_S at h
  split at h
  · simp only [Option.some.injEq, Prod.mk.injEq] at h
    obtain ⟨h1, rfl⟩ := h
    exact fun_told (laws_toInt64S_e _) (laws_toInt64S_l _) h1
  · cases h
noncomputable def D14 : Dt := also D13 70 laws_toInt64S_S
theorem d14 : DOk Go.Proofs.Try.prog tab D14 := d13.also mixed_ok tab_ok names_ok (fnLoops_one (by kernel_rfl) laws_toInt64S_is3) laws_toInt64S_s
theorem laws_toInt64S_ty {A : List (List TC)} (h : Typed tab (.slice 2) (.l A)) : Typed tab (.slice 2) (.l A) := typed_iso iso_ok h (by decide)
/-! laws_toType calls itself -/
section
class laws_toType_O where n : Nat
variable [i_laws_toType : laws_toType_O]
noncomputable def laws_toType_rc (x0 : Int) (x1 : Int) (x2 : Bool) (x3 : Bool) (x4 : List (List TC)) (x5 : List (List TC)) (x6 : List (List TC)) (x7 : List (List TC)) (x8 : Int) : Bool := is (max (rowsDep x6) (rowsDep x7) < laws_toType_O.n ∧ Typed tab (.slice 9) (.l x4) ∧ Typed tab (.slice 2) (.l x5) ∧ Typed tab (.slice 189) (.l x6) ∧ Typed tab (.slice 45) (.l x7))
noncomputable def laws_toType_rv (x0 : Int) (x1 : Int) (x2 : Bool) (x3 : Bool) (x4 : List (List TC)) (x5 : List (List TC)) (x6 : List (List TC)) (x7 : List (List TC)) (x8 : Int) : Int × Int × Bool × Bool × List (List TC) × List (List TC) × List (List TC) × List (List TC) × Int := (x0, x1, x2, x3, x4, x5, x6, x7, x8)
def laws_toType_rmk (p : Int × Int × Bool × Bool × List (List TC) × List (List TC) × List (List TC) × List (List TC) × Int) : Res := [(true, [⟨.int .i64, .sh, TC.i (p.1)⟩, ⟨.int .i64, .sh, TC.i (p.2.1)⟩, ⟨.bool, .sh, TC.b (p.2.2.1)⟩, ⟨.bool, .sh, TC.b (p.2.2.2.1)⟩, ⟨.slice 9, .own true, TC.l (p.2.2.2.2.1)⟩, ⟨.slice 2, .own true, TC.l (p.2.2.2.2.2.1)⟩, ⟨.slice 147, .own true, TC.l (p.2.2.2.2.2.2.1)⟩, ⟨.slice 55, .own true, TC.l (p.2.2.2.2.2.2.2.1)⟩, ⟨.int .i64, .sh, TC.i (p.2.2.2.2.2.2.2.2)⟩])]
noncomputable def laws_toType_rS : List Arg → Option (Bool × Res) := fun xs => match xs with
  | [(true, [(.int .i64, TC.i x0), (.int .i64, TC.i x1), (.bool, TC.b x2), (.bool, TC.b x3), (.slice 9, TC.l x4), (.slice 2, TC.l x5), (.slice 189, TC.l x6), (.slice 45, TC.l x7), (.int .i64, TC.i x8)])] => some ((laws_toType_rc x0 x1 x2 x3 x4 x5 x6 x7 x8), laws_toType_rmk (laws_toType_rv x0 x1 x2 x3 x4 x5 x6 x7 x8))
  | _ => .none
noncomputable def D15 : Dt := also D14 68 laws_toType_rS
class laws_toType_G : Prop where ok : DOk Go.Proofs.Try.prog tab D15
variable [g_laws_toType : laws_toType_G]
theorem d15 : DOk Go.Proofs.Try.prog tab D15 := laws_toType_G.ok
/-! laws_toMember -/
noncomputable def laws_toMember_t (a0 : List UInt8) (a1 : Int) (a2 : Int) (a3 : Int) (a4 : Bool) (a5 : Bool) (a6 : List (List TC)) (a7 : List (List TC)) (a8 : List (List TC)) (a9 : List (List TC)) (a10 : Int) : Tr (List UInt8 × Int × Int × Int × Bool × Bool × List (List TC) × List (List TC) × List (List TC) × List (List TC) × Int) := (.ite ((laws_toType_rc a2 a3 a4 a5 a6 a7 a8 a9 a10) = true) (.ok (a0, a1, (laws_toType_rv a2 a3 a4 a5 a6 a7 a8 a9 a10).1, (laws_toType_rv a2 a3 a4 a5 a6 a7 a8 a9 a10).2.1, (laws_toType_rv a2 a3 a4 a5 a6 a7 a8 a9 a10).2.2.1, (laws_toType_rv a2 a3 a4 a5 a6 a7 a8 a9 a10).2.2.2.1, (laws_toType_rv a2 a3 a4 a5 a6 a7 a8 a9 a10).2.2.2.2.1, (laws_toType_rv a2 a3 a4 a5 a6 a7 a8 a9 a10).2.2.2.2.2.1, (laws_toType_rv a2 a3 a4 a5 a6 a7 a8 a9 a10).2.2.2.2.2.2.1, (laws_toType_rv a2 a3 a4 a5 a6 a7 a8 a9 a10).2.2.2.2.2.2.2.1, (laws_toType_rv a2 a3 a4 a5 a6 a7 a8 a9 a10).2.2.2.2.2.2.2.2))
  .no)
def laws_toMember_mk (p : List UInt8 × Int × Int × Int × Bool × Bool × List (List TC) × List (List TC) × List (List TC) × List (List TC) × Int) : Res := [(true, [⟨.str, .sh, TC.s (p.1)⟩, ⟨.int .i64, .sh, TC.i (p.2.1)⟩, ⟨.int .i64, .sh, TC.i (p.2.2.1)⟩, ⟨.int .i64, .sh, TC.i (p.2.2.2.1)⟩, ⟨.bool, .sh, TC.b (p.2.2.2.2.1)⟩, ⟨.bool, .sh, TC.b (p.2.2.2.2.2.1)⟩, ⟨.slice 9, .own true, TC.l (p.2.2.2.2.2.2.1)⟩, ⟨.slice 2, .own true, TC.l (p.2.2.2.2.2.2.2.1)⟩, ⟨.slice 147, .own true, TC.l (p.2.2.2.2.2.2.2.2.1)⟩, ⟨.slice 55, .own true, TC.l (p.2.2.2.2.2.2.2.2.2.1)⟩, ⟨.int .i64, .sh, TC.i (p.2.2.2.2.2.2.2.2.2.2)⟩])]
noncomputable def laws_toMember_c (a0 : List UInt8) (a1 : Int) (a2 : Int) (a3 : Int) (a4 : Bool) (a5 : Bool) (a6 : List (List TC)) (a7 : List (List TC)) (a8 : List (List TC)) (a9 : List (List TC)) (a10 : Int) : Bool := (laws_toType_rc a2 a3 a4 a5 a6 a7 a8 a9 a10)
noncomputable def laws_toMember_v (a0 : List UInt8) (a1 : Int) (a2 : Int) (a3 : Int) (a4 : Bool) (a5 : Bool) (a6 : List (List TC)) (a7 : List (List TC)) (a8 : List (List TC)) (a9 : List (List TC)) (a10 : Int) : List UInt8 × Int × Int × Int × Bool × Bool × List (List TC) × List (List TC) × List (List TC) × List (List TC) × Int := (a0, a1, (laws_toType_rv a2 a3 a4 a5 a6 a7 a8 a9 a10).1, (laws_toType_rv a2 a3 a4 a5 a6 a7 a8 a9 a10).2.1, (laws_toType_rv a2 a3 a4 a5 a6 a7 a8 a9 a10).2.2.1, (laws_toType_rv a2 a3 a4 a5 a6 a7 a8 a9 a10).2.2.2.1, (laws_toType_rv a2 a3 a4 a5 a6 a7 a8 a9 a10).2.2.2.2.1, (laws_toType_rv a2 a3 a4 a5 a6 a7 a8 a9 a10).2.2.2.2.2.1, (laws_toType_rv a2 a3 a4 a5 a6 a7 a8 a9 a10).2.2.2.2.2.2.1, (laws_toType_rv a2 a3 a4 a5 a6 a7 a8 a9 a10).2.2.2.2.2.2.2.1, (laws_toType_rv a2 a3 a4 a5 a6 a7 a8 a9 a10).2.2.2.2.2.2.2.2)
theorem laws_toMember_l (a0 : List UInt8) (a1 : Int) (a2 : Int) (a3 : Int) (a4 : Bool) (a5 : Bool) (a6 : List (List TC)) (a7 : List (List TC)) (a8 : List (List TC)) (a9 : List (List TC)) (a10 : Int) : (laws_toMember_c a0 a1 a2 a3 a4 a5 a6 a7 a8 a9 a10) = true → (laws_toMember_t a0 a1 a2 a3 a4 a5 a6 a7 a8 a9 a10).val = some (laws_toMember_v a0 a1 a2 a3 a4 a5 a6 a7 a8 a9 a10) := by
  intro h
  have hc0 : (laws_toType_rc a2 a3 a4 a5 a6 a7 a8 a9 a10) = true := h
  unfold laws_toMember_t
  exact (Tr.t hc0 rfl)
noncomputable def laws_toMember_S : List Arg → Option (Bool × Res) := fun xs => match xs with
  | [(true, [(.str, TC.s a0), (.int .i64, TC.i a1), (.int .i64, TC.i a2), (.int .i64, TC.i a3), (.bool, TC.b a4), (.bool, TC.b a5), (.slice 9, TC.l a6), (.slice 2, TC.l a7), (.slice 189, TC.l a8), (.slice 45, TC.l a9), (.int .i64, TC.i a10)])] => some ((laws_toMember_c a0 a1 a2 a3 a4 a5 a6 a7 a8 a9 a10), laws_toMember_mk (laws_toMember_v a0 a1 a2 a3 a4 a5 a6 a7 a8 a9 a10))
  | _ => .none
theorem laws_toMember_e (a0 : List UInt8) (a1 : Int) (a2 : Int) (a3 : Int) (a4 : Bool) (a5 : Bool) (a6 : List (List TC)) (a7 : List (List TC)) (a8 : List (List TC)) (a9 : List (List TC)) (a10 : Int) : runF tab FT D15 live 138 noLoops [(true, [(.str, TC.s a0), (.int .i64, TC.i a1), (.int .i64, TC.i a2), (.int .i64, TC.i a3), (.bool, TC.b a4), (.bool, TC.b a5), (.slice 9, TC.l a6), (.slice 2, TC.l a7), (.slice 189, TC.l a8), (.slice 45, TC.l a9), (.int .i64, TC.i a10)])] = (laws_toMember_t a0 a1 a2 a3 a4 a5 a6 a7 a8 a9 a10).run fun p => some (laws_toMember_mk p) := by kernel_rfl
theorem laws_toMember_s : ∀ xs r, laws_toMember_S xs = some (true, r) → runF tab FT D15 live 138 noLoops xs = some r := by
  intro xs r h
  unfold laws_toMember_S at h
  split at h
  · simp only [Option.some.injEq, Prod.mk.injEq] at h
    obtain ⟨h1, rfl⟩ := h
    exact fun_told (laws_toMember_e _ _ _ _ _ _ _ _ _ _ _) (laws_toMember_l _ _ _ _ _ _ _ _ _ _ _) h1
  · cases h
noncomputable def D16 : Dt := also D15 138 laws_toMember_S
theorem d16 : DOk Go.Proofs.Try.prog tab D16 := d15.also mixed_ok tab_ok names_ok noLoops_ok laws_toMember_s
/-! laws_toMemberS -/
noncomputable def laws_toMemberS_g (x : List TC) : List TC := [TC.s ((laws_toMember_v ((nth x 0).str) ((nth x 1).int) ((nth x 2).int) ((nth x 3).int) ((nth x 4).bool) ((nth x 5).bool) ((nth x 6).list) ((nth x 7).list) ((nth x 8).list) ((nth x 9).list) ((nth x 10).int)).1), TC.i ((laws_toMember_v ((nth x 0).str) ((nth x 1).int) ((nth x 2).int) ((nth x 3).int) ((nth x 4).bool) ((nth x 5).bool) ((nth x 6).list) ((nth x 7).list) ((nth x 8).list) ((nth x 9).list) ((nth x 10).int)).2.1), TC.i ((laws_toMember_v ((nth x 0).str) ((nth x 1).int) ((nth x 2).int) ((nth x 3).int) ((nth x 4).bool) ((nth x 5).bool) ((nth x 6).list) ((nth x 7).list) ((nth x 8).list) ((nth x 9).list) ((nth x 10).int)).2.2.1), TC.i ((laws_toMember_v ((nth x 0).str) ((nth x 1).int) ((nth x 2).int) ((nth x 3).int) ((nth x 4).bool) ((nth x 5).bool) ((nth x 6).list) ((nth x 7).list) ((nth x 8).list) ((nth x 9).list) ((nth x 10).int)).2.2.2.1), TC.b ((laws_toMember_v ((nth x 0).str) ((nth x 1).int) ((nth x 2).int) ((nth x 3).int) ((nth x 4).bool) ((nth x 5).bool) ((nth x 6).list) ((nth x 7).list) ((nth x 8).list) ((nth x 9).list) ((nth x 10).int)).2.2.2.2.1), TC.b ((laws_toMember_v ((nth x 0).str) ((nth x 1).int) ((nth x 2).int) ((nth x 3).int) ((nth x 4).bool) ((nth x 5).bool) ((nth x 6).list) ((nth x 7).list) ((nth x 8).list) ((nth x 9).list) ((nth x 10).int)).2.2.2.2.2.1), TC.l ((laws_toMember_v ((nth x 0).str) ((nth x 1).int) ((nth x 2).int) ((nth x 3).int) ((nth x 4).bool) ((nth x 5).bool) ((nth x 6).list) ((nth x 7).list) ((nth x 8).list) ((nth x 9).list) ((nth x 10).int)).2.2.2.2.2.2.1), TC.l ((laws_toMember_v ((nth x 0).str) ((nth x 1).int) ((nth x 2).int) ((nth x 3).int) ((nth x 4).bool) ((nth x 5).bool) ((nth x 6).list) ((nth x 7).list) ((nth x 8).list) ((nth x 9).list) ((nth x 10).int)).2.2.2.2.2.2.2.1), TC.l ((laws_toMember_v ((nth x 0).str) ((nth x 1).int) ((nth x 2).int) ((nth x 3).int) ((nth x 4).bool) ((nth x 5).bool) ((nth x 6).list) ((nth x 7).list) ((nth x 8).list) ((nth x 9).list) ((nth x 10).int)).2.2.2.2.2.2.2.2.1), TC.l ((laws_toMember_v ((nth x 0).str) ((nth x 1).int) ((nth x 2).int) ((nth x 3).int) ((nth x 4).bool) ((nth x 5).bool) ((nth x 6).list) ((nth x 7).list) ((nth x 8).list) ((nth x 9).list) ((nth x 10).int)).2.2.2.2.2.2.2.2.2.1), TC.i ((laws_toMember_v ((nth x 0).str) ((nth x 1).int) ((nth x 2).int) ((nth x 3).int) ((nth x 4).bool) ((nth x 5).bool) ((nth x 6).list) ((nth x 7).list) ((nth x 8).list) ((nth x 9).list) ((nth x 10).int)).2.2.2.2.2.2.2.2.2.2)]
def laws_toMemberS_z : List TC := [TC.s [], TC.i (0 : Int), TC.i (0 : Int), TC.i (0 : Int), TC.b false, TC.b false, TC.l [], TC.l [], TC.l [], TC.l [], TC.i (0 : Int)]
theorem laws_toMemberS_id {A : List (List TC)} (h : Typed tab (.slice 189) (.l A)) : A.map laws_toMemberS_g = A := map_same fun x hx => by
  obtain ⟨hl, hk⟩ := typed_elem h hx
  have e0 : TC.s ((nth x 0).str) = nth x 0 := typed_str_eq (hk 0 (by decide))
  have e1 : TC.i ((nth x 1).int) = nth x 1 := typed_int_eq (hk 1 (by decide))
  have e2 : TC.i ((nth x 2).int) = nth x 2 := typed_int_eq (hk 2 (by decide))
  have e3 : TC.i ((nth x 3).int) = nth x 3 := typed_int_eq (hk 3 (by decide))
  have e4 : TC.b ((nth x 4).bool) = nth x 4 := typed_bool_eq (hk 4 (by decide))
  have e5 : TC.b ((nth x 5).bool) = nth x 5 := typed_bool_eq (hk 5 (by decide))
  have e6 : TC.l ((nth x 6).list) = nth x 6 := typed_list_eq (hk 6 (by decide))
  have e7 : TC.l ((nth x 7).list) = nth x 7 := typed_list_eq (hk 7 (by decide))
  have e8 : TC.l ((nth x 8).list) = nth x 8 := typed_list_eq (hk 8 (by decide))
  have e9 : TC.l ((nth x 9).list) = nth x 9 := typed_list_eq (hk 9 (by decide))
  have e10 : TC.i ((nth x 10).int) = nth x 10 := typed_int_eq (hk 10 (by decide))
  show [TC.s ((nth x 0).str), TC.i ((nth x 1).int), TC.i ((nth x 2).int), TC.i ((nth x 3).int), TC.b ((nth x 4).bool), TC.b ((nth x 5).bool), TC.l ((nth x 6).list), TC.l ((nth x 7).list), TC.l ((nth x 8).list), TC.l ((nth x 9).list), TC.i ((nth x 10).int)] = _
  rw [e0, e1, e2, e3, e4, e5, e6, e7, e8, e9, e10]
  exact (row_eta hl).symm
abbrev laws_toMemberS_3_σ := List (List TC) × List (List TC) × Int
abbrev laws_toMemberS_3_ω := (List (List TC))
noncomputable def laws_toMemberS_3_step (A : List (List TC)) (X : List (List TC)) (i : Int) : Tr (laws_toMemberS_3_σ ⊕ laws_toMemberS_3_ω) := (.ite ((decide (i < (A.length : Int))) = true) (.ite ((0 : Int) ≤ i ∧ i < (A.length : Int)) (.ite ((laws_toMember_c ((nth (row A i) 0).str) ((nth (row A i) 1).int) ((nth (row A i) 2).int) ((nth (row A i) 3).int) ((nth (row A i) 4).bool) ((nth (row A i) 5).bool) ((nth (row A i) 6).list) ((nth (row A i) 7).list) ((nth (row A i) 8).list) ((nth (row A i) 9).list) ((nth (row A i) 10).int)) = true) (.ite ((0 : Int) ≤ i ∧ i < (X.length : Int)) (.ok (.inl (A, (X.set (i).toNat (splice (row X i) 0 [TC.s ((laws_toMember_v ((nth (row A i) 0).str) ((nth (row A i) 1).int) ((nth (row A i) 2).int) ((nth (row A i) 3).int) ((nth (row A i) 4).bool) ((nth (row A i) 5).bool) ((nth (row A i) 6).list) ((nth (row A i) 7).list) ((nth (row A i) 8).list) ((nth (row A i) 9).list) ((nth (row A i) 10).int)).1), TC.i ((laws_toMember_v ((nth (row A i) 0).str) ((nth (row A i) 1).int) ((nth (row A i) 2).int) ((nth (row A i) 3).int) ((nth (row A i) 4).bool) ((nth (row A i) 5).bool) ((nth (row A i) 6).list) ((nth (row A i) 7).list) ((nth (row A i) 8).list) ((nth (row A i) 9).list) ((nth (row A i) 10).int)).2.1), TC.i ((laws_toMember_v ((nth (row A i) 0).str) ((nth (row A i) 1).int) ((nth (row A i) 2).int) ((nth (row A i) 3).int) ((nth (row A i) 4).bool) ((nth (row A i) 5).bool) ((nth (row A i) 6).list) ((nth (row A i) 7).list) ((nth (row A i) 8).list) ((nth (row A i) 9).list) ((nth (row A i) 10).int)).2.2.1), TC.i ((laws_toMember_v ((nth (row A i) 0).str) ((nth (row A i) 1).int) ((nth (row A i) 2).int) ((nth (row A i) 3).int) ((nth (row A i) 4).bool) ((nth (row A i) 5).bool) ((nth (row A i) 6).list) ((nth (row A i) 7).list) ((nth (row A i) 8).list) ((nth (row A i) 9).list) ((nth (row A i) 10).int)).2.2.2.1), TC.b ((laws_toMember_v ((nth (row A i) 0).str) ((nth (row A i) 1).int) ((nth (row A i) 2).int) ((nth (row A i) 3).int) ((nth (row A i) 4).bool) ((nth (row A i) 5).bool) ((nth (row A i) 6).list) ((nth (row A i) 7).list) ((nth (row A i) 8).list) ((nth (row A i) 9).list) ((nth (row A i) 10).int)).2.2.2.2.1), TC.b ((laws_toMember_v ((nth (row A i) 0).str) ((nth (row A i) 1).int) ((nth (row A i) 2).int) ((nth (row A i) 3).int) ((nth (row A i) 4).bool) ((nth (row A i) 5).bool) ((nth (row A i) 6).list) ((nth (row A i) 7).list) ((nth (row A i) 8).list) ((nth (row A i) 9).list) ((nth (row A i) 10).int)).2.2.2.2.2.1), TC.l ((laws_toMember_v ((nth (row A i) 0).str) ((nth (row A i) 1).int) ((nth (row A i) 2).int) ((nth (row A i) 3).int) ((nth (row A i) 4).bool) ((nth (row A i) 5).bool) ((nth (row A i) 6).list) ((nth (row A i) 7).list) ((nth (row A i) 8).list) ((nth (row A i) 9).list) ((nth (row A i) 10).int)).2.2.2.2.2.2.1), TC.l ((laws_toMember_v ((nth (row A i) 0).str) ((nth (row A i) 1).int) ((nth (row A i) 2).int) ((nth (row A i) 3).int) ((nth (row A i) 4).bool) ((nth (row A i) 5).bool) ((nth (row A i) 6).list) ((nth (row A i) 7).list) ((nth (row A i) 8).list) ((nth (row A i) 9).list) ((nth (row A i) 10).int)).2.2.2.2.2.2.2.1), TC.l ((laws_toMember_v ((nth (row A i) 0).str) ((nth (row A i) 1).int) ((nth (row A i) 2).int) ((nth (row A i) 3).int) ((nth (row A i) 4).bool) ((nth (row A i) 5).bool) ((nth (row A i) 6).list) ((nth (row A i) 7).list) ((nth (row A i) 8).list) ((nth (row A i) 9).list) ((nth (row A i) 10).int)).2.2.2.2.2.2.2.2.1), TC.l ((laws_toMember_v ((nth (row A i) 0).str) ((nth (row A i) 1).int) ((nth (row A i) 2).int) ((nth (row A i) 3).int) ((nth (row A i) 4).bool) ((nth (row A i) 5).bool) ((nth (row A i) 6).list) ((nth (row A i) 7).list) ((nth (row A i) 8).list) ((nth (row A i) 9).list) ((nth (row A i) 10).int)).2.2.2.2.2.2.2.2.2.1), TC.i ((laws_toMember_v ((nth (row A i) 0).str) ((nth (row A i) 1).int) ((nth (row A i) 2).int) ((nth (row A i) 3).int) ((nth (row A i) 4).bool) ((nth (row A i) 5).bool) ((nth (row A i) 6).list) ((nth (row A i) 7).list) ((nth (row A i) 8).list) ((nth (row A i) 9).list) ((nth (row A i) 10).int)).2.2.2.2.2.2.2.2.2.2)])), (IntKind.wrap .i64 (i + (1 : Int))))))
     .no)
    .no)
   .no)
  (.ok (.inr X)))
noncomputable def laws_toMemberS_3_st : laws_toMemberS_3_σ → Tr (laws_toMemberS_3_σ ⊕ laws_toMemberS_3_ω) := fun x => (laws_toMemberS_3_step (x.1) (x.2.1) (x.2.2))
noncomputable def laws_toMemberS_o3_1 (A : List (List TC)) (X : List (List TC)) (i : Int) : Bool := is (Typed tab (.slice 189) (.l A) ∧ (∀ x : List TC, x ∈ A → (laws_toMember_c ((nth x 0).str) ((nth x 1).int) ((nth x 2).int) ((nth x 3).int) ((nth x 4).bool) ((nth x 5).bool) ((nth x 6).list) ((nth x 7).list) ((nth x 8).list) ((nth x 9).list) ((nth x 10).int)) = true) ∧ X = List.replicate A.length laws_toMemberS_z ∧ i = 0)
noncomputable def laws_toMemberS_3_fin (A : List (List TC)) (X : List (List TC)) (i : Int) : Told laws_toMemberS_3_ω := (.leaf (laws_toMemberS_o3_1 A X i) A)
def laws_toMemberS_3_sl (x : laws_toMemberS_3_σ) : List Slot := [⟨.val false [⟨.slice 189, .sh, TC.l (x.1)⟩], ⟨0, 0⟩⟩, ⟨.val false [⟨.slice 147, .own true, TC.l (x.2.1)⟩], ⟨0, 0⟩⟩, ⟨.val false [⟨.int .i64, .sh, TC.i (x.2.2)⟩], ⟨0, 0⟩⟩]
def laws_toMemberS_3_out : laws_toMemberS_3_ω → Ex × List Slot := (fun x => (.exit 0, [Slot.none, ⟨.val false [⟨.slice 147, .own true, TC.l x⟩], ⟨0, 0⟩⟩]))
noncomputable def laws_toMemberS_lo3 : List Slot → Option (Told (Ex × List Slot)) := fun s => match s with
  | [⟨.val false [⟨.slice 189, .sh, TC.l A⟩], ⟨0, 0⟩⟩, ⟨.val false [⟨.slice 147, .own true, TC.l X⟩], ⟨0, 0⟩⟩, ⟨.val false [⟨.int .i64, .sh, TC.i i⟩], ⟨0, 0⟩⟩] => some (((laws_toMemberS_3_fin A X i)).map laws_toMemberS_3_out)
  | _ => .none
noncomputable def laws_toMemberS_lo : LoopTeller := fun r s => bif Nat.beq r 3 then laws_toMemberS_lo3 s else .none
theorem laws_toMemberS_3_r (A : List (List TC)) (X : List (List TC)) (i : Int) (fuel : Nat) : rounds (rnd tab FT D16 live 99 laws_toMemberS_lo 0 3) leave (fuel + 1) (laws_toMemberS_3_sl (A, X, i)) = ((laws_toMemberS_3_step A X i)).run (goOn (fun s => rounds (rnd tab FT D16 live 99 laws_toMemberS_lo 0 3) leave fuel (laws_toMemberS_3_sl s)) fun w => some (laws_toMemberS_3_out w)) := by kernel_rfl
theorem laws_toMemberS_3_h (A : List (List TC)) (X : List (List TC)) (i : Int) (ow : laws_toMemberS_3_ω) : ((laws_toMemberS_3_fin A X i)).val = some ow → ∃ fuel, loopN laws_toMemberS_3_st fuel (A, X, i) = some ow := by
  intro h
  refine auto_leaf (R := A) (fun ho => ?_) h
  obtain ⟨ht, hr0, rfl, rfl⟩ := is_iff.1 ho
  have hlen : A.length ≤ 140737488351232 := by have := typed_room ht; simp only [show (tab 189).bytes = 152 from rfl] at this; omega
  have key := loopN_copy (step := laws_toMemberS_3_st) A (List.replicate A.length laws_toMemberS_z) laws_toMemberS_g (fun Y i => (A, Y, (i : Int))) (A.map laws_toMemberS_g) (by simp) (fun x hx i _ => by rw [(List.mem_replicate.1 hx).2]; exact Nat.le_refl 11) (fun Y i hi hl => ?_) ?_ A.length 0 (by omega)
  · rw [copied_zero, laws_toMemberS_id ht] at key
    exact ⟨_, key⟩
  · have c0 : Typed tab (.str) (.s (nth (A.getD i []) 0).str) := typed_s (typed_cell ht (A.getD i []) (mem_getD hi) 0 (by decide))
    have c6 : Typed tab (.slice 9) (.l (nth (A.getD i []) 6).list) := typed_list (typed_cell ht (A.getD i []) (mem_getD hi) 6 (by decide))
    have c7 : Typed tab (.slice 2) (.l (nth (A.getD i []) 7).list) := typed_list (typed_cell ht (A.getD i []) (mem_getD hi) 7 (by decide))
    have c8 : Typed tab (.slice 189) (.l (nth (A.getD i []) 8).list) := typed_list (typed_cell ht (A.getD i []) (mem_getD hi) 8 (by decide))
    have c9 : Typed tab (.slice 45) (.l (nth (A.getD i []) 9).list) := typed_list (typed_cell ht (A.getD i []) (mem_getD hi) 9 (by decide))
    show (laws_toMemberS_3_step A Y (i : Int)).val = _
    unfold laws_toMemberS_3_step
    refine Tr.t (by simp; omega) ?_
    refine Tr.t (by first | omega | (constructor <;> omega)) ?_
    refine Tr.t (hr0 (A.getD i []) (mem_getD hi)) ?_
    refine Tr.t (by first | omega | (constructor <;> omega)) ?_
    rw [Tr.val_ok, wrap64 (i := (i : Int) + 1) (by omega) (by omega)]; rfl
  · show (laws_toMemberS_3_step A (A.map laws_toMemberS_g) (A.length : Int)).val = _
    refine Tr.n (by simp) ?_
    rfl
theorem laws_toMemberS_is3 : LoopIs tab FT D16 live 99 laws_toMemberS_lo 0 3 := by
  refine loop_told (sl := laws_toMemberS_3_sl) (step := laws_toMemberS_3_st) (out := laws_toMemberS_3_out) (lor := laws_toMemberS_lo3) (fin := fun x => (laws_toMemberS_3_fin (x.1) (x.2.1) (x.2.2))) (fun _ => rfl) ?_ (fun x n => laws_toMemberS_3_r x.1 x.2.1 x.2.2 n) (fun x ow => laws_toMemberS_3_h x.1 x.2.1 x.2.2 ow)
  intro s t h
  unfold laws_toMemberS_lo3 at h
  split at h
  · cases h; exact ⟨(_, _, _), rfl, rfl⟩
  · cases h
noncomputable def laws_toMemberS_t (A : List (List TC)) : Tr (List (List TC)) := (.ite (0 ≤ (A.length : Int) ∧ (A.length : Int) ≤ (A.length : Int) ∧ (A.length : Int) * 152 ≤ 140737488355328 ∧ (A.length : Int) ≤ 140737488355328) (.ite ((laws_toMemberS_o3_1 A (List.replicate ((A.length : Int)).toNat [TC.s [], TC.i (0 : Int), TC.i (0 : Int), TC.i (0 : Int), TC.b false, TC.b false, TC.l [], TC.l [], TC.l [], TC.l [], TC.i (0 : Int)]) (0 : Int)) = true) (.ok A)
   .no)
  .no)
def laws_toMemberS_mk (p : List (List TC)) : Res := [(false, [⟨.slice 147, .own true, TC.l p⟩])]
noncomputable def laws_toMemberS_c (A : List (List TC)) : Bool := is (Typed tab (.slice 189) (.l A) ∧ (∀ x : List TC, x ∈ A → (laws_toMember_c ((nth x 0).str) ((nth x 1).int) ((nth x 2).int) ((nth x 3).int) ((nth x 4).bool) ((nth x 5).bool) ((nth x 6).list) ((nth x 7).list) ((nth x 8).list) ((nth x 9).list) ((nth x 10).int)) = true))
noncomputable def laws_toMemberS_v (A : List (List TC)) : List (List TC) := A
theorem laws_toMemberS_l (A : List (List TC)) : (laws_toMemberS_c A) = true → (laws_toMemberS_t A).val = some (laws_toMemberS_v A) := by
  intro h
  obtain ⟨ht, hr0⟩ := is_iff.1 h
  have hb := typed_room ht
  simp only [show (tab 189).bytes = 152 from rfl] at hb
  unfold laws_toMemberS_t
  refine Tr.t (by omega) ?_
  refine Tr.t (is_true ⟨ht, hr0, by rfl, rfl⟩) ?_
  rfl
noncomputable def laws_toMemberS_S : List Arg → Option (Bool × Res) := fun xs => match xs with
  | [(false, [(.slice 189, TC.l A)])] => some ((laws_toMemberS_c A), laws_toMemberS_mk (laws_toMemberS_v A))
  | _ => .none
theorem laws_toMemberS_e (A : List (List TC)) : runF tab FT D16 live 99 laws_toMemberS_lo [(false, [(.slice 189, TC.l A)])] = (laws_toMemberS_t A).run fun p => some (laws_toMemberS_mk p) := by kernel_rfl
theorem laws_toMemberS_s : ∀ xs r, laws_toMemberS_S xs = some (true, r) → runF tab FT D16 live 99 laws_toMemberS_lo xs = some r := by
  intro xs r h
  unfold laws_toMemberS_S at h
  split at h
  · simp only [Option.some.injEq, Prod.mk.injEq] at h
    obtain ⟨h1, rfl⟩ := h
    exact fun_told (laws_toMemberS_e _) (laws_toMemberS_l _) h1
  · cases h
noncomputable def D17 : Dt := also D16 99 laws_toMemberS_S
theorem d17 : DOk Go.Proofs.Try.prog tab D17 := d16.also mixed_ok tab_ok names_ok (fnLoops_one (by kernel_rfl) laws_toMemberS_is3) laws_toMemberS_s
theorem laws_toMemberS_ty {A : List (List TC)} (h : Typed tab (.slice 189) (.l A)) : Typed tab (.slice 147) (.l A) := typed_iso iso_ok h (by decide)
/-! laws_toTypeS -/
noncomputable def laws_toTypeS_g (x : List TC) : List TC := [TC.i ((laws_toType_rv ((nth x 0).int) ((nth x 1).int) ((nth x 2).bool) ((nth x 3).bool) ((nth x 4).list) ((nth x 5).list) ((nth x 6).list) ((nth x 7).list) ((nth x 8).int)).1), TC.i ((laws_toType_rv ((nth x 0).int) ((nth x 1).int) ((nth x 2).bool) ((nth x 3).bool) ((nth x 4).list) ((nth x 5).list) ((nth x 6).list) ((nth x 7).list) ((nth x 8).int)).2.1), TC.b ((laws_toType_rv ((nth x 0).int) ((nth x 1).int) ((nth x 2).bool) ((nth x 3).bool) ((nth x 4).list) ((nth x 5).list) ((nth x 6).list) ((nth x 7).list) ((nth x 8).int)).2.2.1), TC.b ((laws_toType_rv ((nth x 0).int) ((nth x 1).int) ((nth x 2).bool) ((nth x 3).bool) ((nth x 4).list) ((nth x 5).list) ((nth x 6).list) ((nth x 7).list) ((nth x 8).int)).2.2.2.1), TC.l ((laws_toType_rv ((nth x 0).int) ((nth x 1).int) ((nth x 2).bool) ((nth x 3).bool) ((nth x 4).list) ((nth x 5).list) ((nth x 6).list) ((nth x 7).list) ((nth x 8).int)).2.2.2.2.1), TC.l ((laws_toType_rv ((nth x 0).int) ((nth x 1).int) ((nth x 2).bool) ((nth x 3).bool) ((nth x 4).list) ((nth x 5).list) ((nth x 6).list) ((nth x 7).list) ((nth x 8).int)).2.2.2.2.2.1), TC.l ((laws_toType_rv ((nth x 0).int) ((nth x 1).int) ((nth x 2).bool) ((nth x 3).bool) ((nth x 4).list) ((nth x 5).list) ((nth x 6).list) ((nth x 7).list) ((nth x 8).int)).2.2.2.2.2.2.1), TC.l ((laws_toType_rv ((nth x 0).int) ((nth x 1).int) ((nth x 2).bool) ((nth x 3).bool) ((nth x 4).list) ((nth x 5).list) ((nth x 6).list) ((nth x 7).list) ((nth x 8).int)).2.2.2.2.2.2.2.1), TC.i ((laws_toType_rv ((nth x 0).int) ((nth x 1).int) ((nth x 2).bool) ((nth x 3).bool) ((nth x 4).list) ((nth x 5).list) ((nth x 6).list) ((nth x 7).list) ((nth x 8).int)).2.2.2.2.2.2.2.2)]
def laws_toTypeS_z : List TC := [TC.i (0 : Int), TC.i (0 : Int), TC.b false, TC.b false, TC.l [], TC.l [], TC.l [], TC.l [], TC.i (0 : Int)]
theorem laws_toTypeS_id {A : List (List TC)} (h : Typed tab (.slice 45) (.l A)) : A.map laws_toTypeS_g = A := map_same fun x hx => by
  obtain ⟨hl, hk⟩ := typed_elem h hx
  have e0 : TC.i ((nth x 0).int) = nth x 0 := typed_int_eq (hk 0 (by decide))
  have e1 : TC.i ((nth x 1).int) = nth x 1 := typed_int_eq (hk 1 (by decide))
  have e2 : TC.b ((nth x 2).bool) = nth x 2 := typed_bool_eq (hk 2 (by decide))
  have e3 : TC.b ((nth x 3).bool) = nth x 3 := typed_bool_eq (hk 3 (by decide))
  have e4 : TC.l ((nth x 4).list) = nth x 4 := typed_list_eq (hk 4 (by decide))
  have e5 : TC.l ((nth x 5).list) = nth x 5 := typed_list_eq (hk 5 (by decide))
  have e6 : TC.l ((nth x 6).list) = nth x 6 := typed_list_eq (hk 6 (by decide))
  have e7 : TC.l ((nth x 7).list) = nth x 7 := typed_list_eq (hk 7 (by decide))
  have e8 : TC.i ((nth x 8).int) = nth x 8 := typed_int_eq (hk 8 (by decide))
  show [TC.i ((nth x 0).int), TC.i ((nth x 1).int), TC.b ((nth x 2).bool), TC.b ((nth x 3).bool), TC.l ((nth x 4).list), TC.l ((nth x 5).list), TC.l ((nth x 6).list), TC.l ((nth x 7).list), TC.i ((nth x 8).int)] = _
  rw [e0, e1, e2, e3, e4, e5, e6, e7, e8]
  exact (row_eta hl).symm
abbrev laws_toTypeS_3_σ := List (List TC) × List (List TC) × Int
abbrev laws_toTypeS_3_ω := (List (List TC))
noncomputable def laws_toTypeS_3_step (A : List (List TC)) (X : List (List TC)) (i : Int) : Tr (laws_toTypeS_3_σ ⊕ laws_toTypeS_3_ω) := (.ite ((decide (i < (A.length : Int))) = true) (.ite ((0 : Int) ≤ i ∧ i < (A.length : Int)) (.ite ((laws_toType_rc ((nth (row A i) 0).int) ((nth (row A i) 1).int) ((nth (row A i) 2).bool) ((nth (row A i) 3).bool) ((nth (row A i) 4).list) ((nth (row A i) 5).list) ((nth (row A i) 6).list) ((nth (row A i) 7).list) ((nth (row A i) 8).int)) = true) (.ite ((0 : Int) ≤ i ∧ i < (X.length : Int)) (.ok (.inl (A, (X.set (i).toNat (splice (row X i) 0 [TC.i ((laws_toType_rv ((nth (row A i) 0).int) ((nth (row A i) 1).int) ((nth (row A i) 2).bool) ((nth (row A i) 3).bool) ((nth (row A i) 4).list) ((nth (row A i) 5).list) ((nth (row A i) 6).list) ((nth (row A i) 7).list) ((nth (row A i) 8).int)).1), TC.i ((laws_toType_rv ((nth (row A i) 0).int) ((nth (row A i) 1).int) ((nth (row A i) 2).bool) ((nth (row A i) 3).bool) ((nth (row A i) 4).list) ((nth (row A i) 5).list) ((nth (row A i) 6).list) ((nth (row A i) 7).list) ((nth (row A i) 8).int)).2.1), TC.b ((laws_toType_rv ((nth (row A i) 0).int) ((nth (row A i) 1).int) ((nth (row A i) 2).bool) ((nth (row A i) 3).bool) ((nth (row A i) 4).list) ((nth (row A i) 5).list) ((nth (row A i) 6).list) ((nth (row A i) 7).list) ((nth (row A i) 8).int)).2.2.1), TC.b ((laws_toType_rv ((nth (row A i) 0).int) ((nth (row A i) 1).int) ((nth (row A i) 2).bool) ((nth (row A i) 3).bool) ((nth (row A i) 4).list) ((nth (row A i) 5).list) ((nth (row A i) 6).list) ((nth (row A i) 7).list) ((nth (row A i) 8).int)).2.2.2.1), TC.l ((laws_toType_rv ((nth (row A i) 0).int) ((nth (row A i) 1).int) ((nth (row A i) 2).bool) ((nth (row A i) 3).bool) ((nth (row A i) 4).list) ((nth (row A i) 5).list) ((nth (row A i) 6).list) ((nth (row A i) 7).list) ((nth (row A i) 8).int)).2.2.2.2.1), TC.l ((laws_toType_rv ((nth (row A i) 0).int) ((nth (row A i) 1).int) ((nth (row A i) 2).bool) ((nth (row A i) 3).bool) ((nth (row A i) 4).list) ((nth (row A i) 5).list) ((nth (row A i) 6).list) ((nth (row A i) 7).list) ((nth (row A i) 8).int)).2.2.2.2.2.1), TC.l ((laws_toType_rv ((nth (row A i) 0).int) ((nth (row A i) 1).int) ((nth (row A i) 2).bool) ((nth (row A i) 3).bool) ((nth (row A i) 4).list) ((nth (row A i) 5).list) ((nth (row A i) 6).list) ((nth (row A i) 7).list) ((nth (row A i) 8).int)).2.2.2.2.2.2.1), TC.l ((laws_toType_rv ((nth (row A i) 0).int) ((nth (row A i) 1).int) ((nth (row A i) 2).bool) ((nth (row A i) 3).bool) ((nth (row A i) 4).list) ((nth (row A i) 5).list) ((nth (row A i) 6).list) ((nth (row A i) 7).list) ((nth (row A i) 8).int)).2.2.2.2.2.2.2.1), TC.i ((laws_toType_rv ((nth (row A i) 0).int) ((nth (row A i) 1).int) ((nth (row A i) 2).bool) ((nth (row A i) 3).bool) ((nth (row A i) 4).list) ((nth (row A i) 5).list) ((nth (row A i) 6).list) ((nth (row A i) 7).list) ((nth (row A i) 8).int)).2.2.2.2.2.2.2.2)])), (IntKind.wrap .i64 (i + (1 : Int))))))
     .no)
    .no)
   .no)
  (.ok (.inr X)))
noncomputable def laws_toTypeS_3_st : laws_toTypeS_3_σ → Tr (laws_toTypeS_3_σ ⊕ laws_toTypeS_3_ω) := fun x => (laws_toTypeS_3_step (x.1) (x.2.1) (x.2.2))
noncomputable def laws_toTypeS_o3_1 (A : List (List TC)) (X : List (List TC)) (i : Int) : Bool := is (Typed tab (.slice 45) (.l A) ∧ (∀ x : List TC, x ∈ A → (laws_toType_rc ((nth x 0).int) ((nth x 1).int) ((nth x 2).bool) ((nth x 3).bool) ((nth x 4).list) ((nth x 5).list) ((nth x 6).list) ((nth x 7).list) ((nth x 8).int)) = true) ∧ X = List.replicate A.length laws_toTypeS_z ∧ i = 0)
noncomputable def laws_toTypeS_3_fin (A : List (List TC)) (X : List (List TC)) (i : Int) : Told laws_toTypeS_3_ω := (.leaf (laws_toTypeS_o3_1 A X i) A)
def laws_toTypeS_3_sl (x : laws_toTypeS_3_σ) : List Slot := [⟨.val false [⟨.slice 45, .sh, TC.l (x.1)⟩], ⟨0, 0⟩⟩, ⟨.val false [⟨.slice 55, .own true, TC.l (x.2.1)⟩], ⟨0, 0⟩⟩, ⟨.val false [⟨.int .i64, .sh, TC.i (x.2.2)⟩], ⟨0, 0⟩⟩]
def laws_toTypeS_3_out : laws_toTypeS_3_ω → Ex × List Slot := (fun x => (.exit 0, [Slot.none, ⟨.val false [⟨.slice 55, .own true, TC.l x⟩], ⟨0, 0⟩⟩]))
noncomputable def laws_toTypeS_lo3 : List Slot → Option (Told (Ex × List Slot)) := fun s => match s with
  | [⟨.val false [⟨.slice 45, .sh, TC.l A⟩], ⟨0, 0⟩⟩, ⟨.val false [⟨.slice 55, .own true, TC.l X⟩], ⟨0, 0⟩⟩, ⟨.val false [⟨.int .i64, .sh, TC.i i⟩], ⟨0, 0⟩⟩] => some (((laws_toTypeS_3_fin A X i)).map laws_toTypeS_3_out)
  | _ => .none
noncomputable def laws_toTypeS_lo : LoopTeller := fun r s => bif Nat.beq r 3 then laws_toTypeS_lo3 s else .none
theorem laws_toTypeS_3_r (A : List (List TC)) (X : List (List TC)) (i : Int) (fuel : Nat) : rounds (rnd tab FT D17 live 100 laws_toTypeS_lo 0 3) leave (fuel + 1) (laws_toTypeS_3_sl (A, X, i)) = ((laws_toTypeS_3_step A X i)).run (goOn (fun s => rounds (rnd tab FT D17 live 100 laws_toTypeS_lo 0 3) leave fuel (laws_toTypeS_3_sl s)) fun w => some (laws_toTypeS_3_out w)) := by kernel_rfl
theorem laws_toTypeS_3_h (A : List (List TC)) (X : List (List TC)) (i : Int) (ow : laws_toTypeS_3_ω) : ((laws_toTypeS_3_fin A X i)).val = some ow → ∃ fuel, loopN laws_toTypeS_3_st fuel (A, X, i) = some ow := by
  intro h
  refine auto_leaf (R := A) (fun ho => ?_) h
  obtain ⟨ht, hr0, rfl, rfl⟩ := is_iff.1 ho
  have hlen : A.length ≤ 140737488351232 := by have := typed_room ht; simp only [show (tab 45).bytes = 128 from rfl] at this; omega
  have key := loopN_copy (step := laws_toTypeS_3_st) A (List.replicate A.length laws_toTypeS_z) laws_toTypeS_g (fun Y i => (A, Y, (i : Int))) (A.map laws_toTypeS_g) (by simp) (fun x hx i _ => by rw [(List.mem_replicate.1 hx).2]; exact Nat.le_refl 9) (fun Y i hi hl => ?_) ?_ A.length 0 (by omega)
  · rw [copied_zero, laws_toTypeS_id ht] at key
    exact ⟨_, key⟩
  · have c4 : Typed tab (.slice 9) (.l (nth (A.getD i []) 4).list) := typed_list (typed_cell ht (A.getD i []) (mem_getD hi) 4 (by decide))
    have c5 : Typed tab (.slice 2) (.l (nth (A.getD i []) 5).list) := typed_list (typed_cell ht (A.getD i []) (mem_getD hi) 5 (by decide))
    have c6 : Typed tab (.slice 189) (.l (nth (A.getD i []) 6).list) := typed_list (typed_cell ht (A.getD i []) (mem_getD hi) 6 (by decide))
    have c7 : Typed tab (.slice 45) (.l (nth (A.getD i []) 7).list) := typed_list (typed_cell ht (A.getD i []) (mem_getD hi) 7 (by decide))
    show (laws_toTypeS_3_step A Y (i : Int)).val = _
    unfold laws_toTypeS_3_step
    refine Tr.t (by simp; omega) ?_
    refine Tr.t (by first | omega | (constructor <;> omega)) ?_
    refine Tr.t (hr0 (A.getD i []) (mem_getD hi)) ?_
    refine Tr.t (by first | omega | (constructor <;> omega)) ?_
    rw [Tr.val_ok, wrap64 (i := (i : Int) + 1) (by omega) (by omega)]; rfl
  · show (laws_toTypeS_3_step A (A.map laws_toTypeS_g) (A.length : Int)).val = _
    refine Tr.n (by simp) ?_
    rfl
theorem laws_toTypeS_is3 : LoopIs tab FT D17 live 100 laws_toTypeS_lo 0 3 := by
  refine loop_told (sl := laws_toTypeS_3_sl) (step := laws_toTypeS_3_st) (out := laws_toTypeS_3_out) (lor := laws_toTypeS_lo3) (fin := fun x => (laws_toTypeS_3_fin (x.1) (x.2.1) (x.2.2))) (fun _ => rfl) ?_ (fun x n => laws_toTypeS_3_r x.1 x.2.1 x.2.2 n) (fun x ow => laws_toTypeS_3_h x.1 x.2.1 x.2.2 ow)
  intro s t h
  unfold laws_toTypeS_lo3 at h
  split at h
  · cases h; exact ⟨(_, _, _), rfl, rfl⟩
  · cases h
noncomputable def laws_toTypeS_t (A : List (List TC)) : Tr (List (List TC)) := (.ite (0 ≤ (A.length : Int) ∧ (A.length : Int) ≤ (A.length : Int) ∧ (A.length : Int) * 128 ≤ 140737488355328 ∧ (A.length : Int) ≤ 140737488355328) (.ite ((laws_toTypeS_o3_1 A (List.replicate ((A.length : Int)).toNat [TC.i (0 : Int), TC.i (0 : Int), TC.b false, TC.b false, TC.l [], TC.l [], TC.l [], TC.l [], TC.i (0 : Int)]) (0 : Int)) = true) (.ok A)
   .no)
  .no)
def laws_toTypeS_mk (p : List (List TC)) : Res := [(false, [⟨.slice 55, .own true, TC.l p⟩])]
noncomputable def laws_toTypeS_c (A : List (List TC)) : Bool := is (Typed tab (.slice 45) (.l A) ∧ (∀ x : List TC, x ∈ A → (laws_toType_rc ((nth x 0).int) ((nth x 1).int) ((nth x 2).bool) ((nth x 3).bool) ((nth x 4).list) ((nth x 5).list) ((nth x 6).list) ((nth x 7).list) ((nth x 8).int)) = true))
noncomputable def laws_toTypeS_v (A : List (List TC)) : List (List TC) := A
theorem laws_toTypeS_l (A : List (List TC)) : (laws_toTypeS_c A) = true → (laws_toTypeS_t A).val = some (laws_toTypeS_v A) := by
  intro h
  obtain ⟨ht, hr0⟩ := is_iff.1 h
  have hb := typed_room ht
  simp only [show (tab 45).bytes = 128 from rfl] at hb
  unfold laws_toTypeS_t
  refine Tr.t (by omega) ?_
  refine Tr.t (is_true ⟨ht, hr0, by rfl, rfl⟩) ?_
  rfl
noncomputable def laws_toTypeS_S : List Arg → Option (Bool × Res) := fun xs => match xs with
  | [(false, [(.slice 45, TC.l A)])] => some ((laws_toTypeS_c A), laws_toTypeS_mk (laws_toTypeS_v A))
  | _ => .none
theorem laws_toTypeS_e (A : List (List TC)) : runF tab FT D17 live 100 laws_toTypeS_lo [(false, [(.slice 45, TC.l A)])] = (laws_toTypeS_t A).run fun p => some (laws_toTypeS_mk p) := by kernel_rfl
theorem laws_toTypeS_s : ∀ xs r, laws_toTypeS_S xs = some (true, r) → runF tab FT D17 live 100 laws_toTypeS_lo xs = some r := by
  intro xs r h
  unfold laws_toTypeS_S at h
  split at h
  · simp only [Option.some.injEq, Prod.mk.injEq] at h
    obtain ⟨h1, rfl⟩ := h
    exact fun_told (laws_toTypeS_e _) (laws_toTypeS_l _) h1
  · cases h
noncomputable def D18 : Dt := also D17 100 laws_toTypeS_S
theorem d18 : DOk Go.Proofs.Try.prog tab D18 := d17.also mixed_ok tab_ok names_ok (fnLoops_one (by kernel_rfl) laws_toTypeS_is3) laws_toTypeS_s
theorem laws_toTypeS_ty {A : List (List TC)} (h : Typed tab (.slice 45) (.l A)) : Typed tab (.slice 55) (.l A) := typed_iso iso_ok h (by decide)
/-! laws_toType -/
noncomputable def laws_toType_t (x0 : Int) (x1 : Int) (x2 : Bool) (x3 : Bool) (x4 : List (List TC)) (x5 : List (List TC)) (x6 : List (List TC)) (x7 : List (List TC)) (x8 : Int) : Tr (Int × Int × Bool × Bool × List (List TC) × List (List TC) × List (List TC) × List (List TC) × Int) := (.ite ((laws_toStringS_c x4) = true) (.ite ((laws_toInt64S_c x5) = true) (.ite ((laws_toMemberS_c x6) = true) (.ite ((laws_toTypeS_c x7) = true) (.ok (x0, x1, x2, x3, (laws_toStringS_v x4), (laws_toInt64S_v x5), (laws_toMemberS_v x6), (laws_toTypeS_v x7), x8))
     .no)
    .no)
   .no)
  .no)
def laws_toType_mk (p : Int × Int × Bool × Bool × List (List TC) × List (List TC) × List (List TC) × List (List TC) × Int) : Res := [(true, [⟨.int .i64, .sh, TC.i (p.1)⟩, ⟨.int .i64, .sh, TC.i (p.2.1)⟩, ⟨.bool, .sh, TC.b (p.2.2.1)⟩, ⟨.bool, .sh, TC.b (p.2.2.2.1)⟩, ⟨.slice 9, .own true, TC.l (p.2.2.2.2.1)⟩, ⟨.slice 2, .own true, TC.l (p.2.2.2.2.2.1)⟩, ⟨.slice 147, .own true, TC.l (p.2.2.2.2.2.2.1)⟩, ⟨.slice 55, .own true, TC.l (p.2.2.2.2.2.2.2.1)⟩, ⟨.int .i64, .sh, TC.i (p.2.2.2.2.2.2.2.2)⟩])]
noncomputable def laws_toType_c (x0 : Int) (x1 : Int) (x2 : Bool) (x3 : Bool) (x4 : List (List TC)) (x5 : List (List TC)) (x6 : List (List TC)) (x7 : List (List TC)) (x8 : Int) : Bool := ((laws_toStringS_c x4) && ((laws_toInt64S_c x5) && ((laws_toMemberS_c x6) && ((laws_toTypeS_c x7) && true))))
noncomputable def laws_toType_v (x0 : Int) (x1 : Int) (x2 : Bool) (x3 : Bool) (x4 : List (List TC)) (x5 : List (List TC)) (x6 : List (List TC)) (x7 : List (List TC)) (x8 : Int) : Int × Int × Bool × Bool × List (List TC) × List (List TC) × List (List TC) × List (List TC) × Int := (x0, x1, x2, x3, (laws_toStringS_v x4), (laws_toInt64S_v x5), (laws_toMemberS_v x6), (laws_toTypeS_v x7), x8)
theorem laws_toType_l (x0 : Int) (x1 : Int) (x2 : Bool) (x3 : Bool) (x4 : List (List TC)) (x5 : List (List TC)) (x6 : List (List TC)) (x7 : List (List TC)) (x8 : Int) : (laws_toType_c x0 x1 x2 x3 x4 x5 x6 x7 x8) = true → (laws_toType_t x0 x1 x2 x3 x4 x5 x6 x7 x8).val = some (laws_toType_v x0 x1 x2 x3 x4 x5 x6 x7 x8) := by
  unfold laws_toType_t laws_toType_v laws_toType_c
  exact fun h => (Tr.gb h fun h => (Tr.gb h fun h => (Tr.gb h fun h => (Tr.gb h fun h => rfl))))
noncomputable def laws_toType_S : List Arg → Option (Bool × Res) := fun xs => match xs with
  | [(true, [(.int .i64, TC.i x0), (.int .i64, TC.i x1), (.bool, TC.b x2), (.bool, TC.b x3), (.slice 9, TC.l x4), (.slice 2, TC.l x5), (.slice 189, TC.l x6), (.slice 45, TC.l x7), (.int .i64, TC.i x8)])] => some ((laws_toType_c x0 x1 x2 x3 x4 x5 x6 x7 x8), laws_toType_mk (laws_toType_v x0 x1 x2 x3 x4 x5 x6 x7 x8))
  | _ => .none
theorem laws_toType_e (x0 : Int) (x1 : Int) (x2 : Bool) (x3 : Bool) (x4 : List (List TC)) (x5 : List (List TC)) (x6 : List (List TC)) (x7 : List (List TC)) (x8 : Int) : runF tab FT D18 live 68 noLoops [(true, [(.int .i64, TC.i x0), (.int .i64, TC.i x1), (.bool, TC.b x2), (.bool, TC.b x3), (.slice 9, TC.l x4), (.slice 2, TC.l x5), (.slice 189, TC.l x6), (.slice 45, TC.l x7), (.int .i64, TC.i x8)])] = (laws_toType_t x0 x1 x2 x3 x4 x5 x6 x7 x8).run fun p => some (laws_toType_mk p) := by kernel_rfl
theorem laws_toType_s : ∀ xs r, laws_toType_S xs = some (true, r) → runF tab FT D18 live 68 noLoops xs = some r := by
  intro xs r h
  unfold laws_toType_S at h
  split at h
  · simp only [Option.some.injEq, Prod.mk.injEq] at h
    obtain ⟨h1, rfl⟩ := h
    exact fun_told (laws_toType_e _ _ _ _ _ _ _ _ _) (laws_toType_l _ _ _ _ _ _ _ _ _) h1
  · cases h
theorem laws_toType_nx (x0 : Int) (x1 : Int) (x2 : Bool) (x3 : Bool) (x4 : List (List TC)) (x5 : List (List TC)) (x6 : List (List TC)) (x7 : List (List TC)) (x8 : Int) : is (max (rowsDep x6) (rowsDep x7) < laws_toType_O.n + 1 ∧ Typed tab (.slice 9) (.l x4) ∧ Typed tab (.slice 2) (.l x5) ∧ Typed tab (.slice 189) (.l x6) ∧ Typed tab (.slice 45) (.l x7)) = true → (laws_toType_c x0 x1 x2 x3 x4 x5 x6 x7 x8) = true ∧ (laws_toType_v x0 x1 x2 x3 x4 x5 x6 x7 x8) = (x0, x1, x2, x3, x4, x5, x6, x7, x8) := by
  intro h
  obtain ⟨hM, t4, t5, t6, t7⟩ := is_iff.1 h
  refine ⟨?_, rfl⟩
  unfold laws_toType_c
  refine andT (by exact is_true t4) ?_
  refine andT (by exact is_true t5) ?_
  refine andT (by exact is_true ⟨t6, fun x hx => is_true ⟨by have a := dep_cell hx 8; have b := dep_cell hx 9; omega, typed_list ((typed_elem t6 hx).2 6 (by decide)), typed_list ((typed_elem t6 hx).2 7 (by decide)), typed_list ((typed_elem t6 hx).2 8 (by decide)), typed_list ((typed_elem t6 hx).2 9 (by decide))⟩⟩) ?_
  refine andT (by exact is_true ⟨t7, fun x hx => is_true ⟨by have a := dep_cell hx 6; have b := dep_cell hx 7; omega, typed_list ((typed_elem t7 hx).2 4 (by decide)), typed_list ((typed_elem t7 hx).2 5 (by decide)), typed_list ((typed_elem t7 hx).2 6 (by decide)), typed_list ((typed_elem t7 hx).2 7 (by decide))⟩⟩) ?_
  rfl
theorem laws_toType_nxr (x0 : Int) (x1 : Int) (x2 : Bool) (x3 : Bool) (x4 : List (List TC)) (x5 : List (List TC)) (x6 : List (List TC)) (x7 : List (List TC)) (x8 : Int) : laws_toType_rc (i_laws_toType := ⟨laws_toType_O.n + 1⟩) x0 x1 x2 x3 x4 x5 x6 x7 x8 = true → (laws_toType_c x0 x1 x2 x3 x4 x5 x6 x7 x8) = true ∧ (laws_toType_v x0 x1 x2 x3 x4 x5 x6 x7 x8) = (laws_toType_rv x0 x1 x2 x3 x4 x5 x6 x7 x8) := fun h => laws_toType_nx x0 x1 x2 x3 x4 x5 x6 x7 x8 h
theorem laws_toType_rs : ∀ xs r, laws_toType_rS (i_laws_toType := ⟨laws_toType_O.n + 1⟩) xs = some (true, r) → runF tab FT D18 live 68 noLoops xs = some r := by
  intro xs r h
  unfold laws_toType_rS at h
  split at h
  · simp only [Option.some.injEq, Prod.mk.injEq] at h
    obtain ⟨h1, rfl⟩ := h
    have hx := laws_toType_nxr _ _ _ _ _ _ _ _ _ h1
    have ht := fun_told (laws_toType_e _ _ _ _ _ _ _ _ _) (laws_toType_l _ _ _ _ _ _ _ _ _) hx.1
    rw [hx.2] at ht
    exact ht
  · cases h
theorem laws_toType_step : laws_toType_G (i_laws_toType := ⟨laws_toType_O.n + 1⟩) := by
  have h := DOk.also2 (S := laws_toType_rS (i_laws_toType := ⟨laws_toType_O.n + 1⟩)) mixed_ok tab_ok names_ok d14 d18 noLoops_ok laws_toType_rs
  refine laws_toType_G.mk (i_laws_toType := ⟨laws_toType_O.n + 1⟩) ?_
  exact h
/-! laws_toPoint -/
noncomputable def laws_toPoint_t (a0 : List (List TC)) : Tr (List (List TC)) := (.ite ((laws_toInt64S_c a0) = true) (.ok (laws_toInt64S_v a0))
  .no)
def laws_toPoint_mk (p : List (List TC)) : Res := [(true, [⟨.slice 2, .own true, TC.l p⟩])]
noncomputable def laws_toPoint_c (a0 : List (List TC)) : Bool := (laws_toInt64S_c a0)
noncomputable def laws_toPoint_v (a0 : List (List TC)) : List (List TC) := (laws_toInt64S_v a0)
theorem laws_toPoint_l (a0 : List (List TC)) : (laws_toPoint_c a0) = true → (laws_toPoint_t a0).val = some (laws_toPoint_v a0) := by
  intro h
  have hc0 : (laws_toInt64S_c a0) = true := h
  unfold laws_toPoint_t
  exact (Tr.t hc0 rfl)
noncomputable def laws_toPoint_S : List Arg → Option (Bool × Res) := fun xs => match xs with
  | [(true, [(.slice 2, TC.l a0)])] => some ((laws_toPoint_c a0), laws_toPoint_mk (laws_toPoint_v a0))
  | _ => .none
theorem laws_toPoint_e (a0 : List (List TC)) : runF tab FT D18 live 162 noLoops [(true, [(.slice 2, TC.l a0)])] = (laws_toPoint_t a0).run fun p => some (laws_toPoint_mk p) := by kernel_rfl
theorem laws_toPoint_s : ∀ xs r, laws_toPoint_S xs = some (true, r) → runF tab FT D18 live 162 noLoops xs = some r := by
  intro xs r h
  unfold laws_toPoint_S at h
  split at h
  · simp only [Option.some.injEq, Prod.mk.injEq] at h
    obtain ⟨h1, rfl⟩ := h
    exact fun_told (laws_toPoint_e _) (laws_toPoint_l _) h1
  · cases h
noncomputable def D19 : Dt := also D18 162 laws_toPoint_S
theorem d19 : DOk Go.Proofs.Try.prog tab D19 := d18.also mixed_ok tab_ok names_ok noLoops_ok laws_toPoint_s
/-! laws_toPointS -/
noncomputable def laws_toPointS_g (x : List TC) : List TC := [TC.l (laws_toPoint_v ((nth x 0).list))]
def laws_toPointS_z : List TC := [TC.l []]
theorem laws_toPointS_id {A : List (List TC)} (h : Typed tab (.slice 215) (.l A)) : A.map laws_toPointS_g = A := map_same fun x hx => by
  obtain ⟨hl, hk⟩ := typed_elem h hx
  have e0 : TC.l ((nth x 0).list) = nth x 0 := typed_list_eq (hk 0 (by decide))
  show [TC.l ((nth x 0).list)] = _
  rw [e0]
  exact (row_eta hl).symm
abbrev laws_toPointS_3_σ := List (List TC) × List (List TC) × Int
abbrev laws_toPointS_3_ω := (List (List TC))
noncomputable def laws_toPointS_3_step (A : List (List TC)) (X : List (List TC)) (i : Int) : Tr (laws_toPointS_3_σ ⊕ laws_toPointS_3_ω) := (.ite ((decide (i < (A.length : Int))) = true) (.ite ((0 : Int) ≤ i ∧ i < (A.length : Int)) (.ite ((laws_toPoint_c ((nth (row A i) 0).list)) = true) (.ite ((0 : Int) ≤ i ∧ i < (X.length : Int)) (.ok (.inl (A, (X.set (i).toNat (splice (row X i) 0 [TC.l (laws_toPoint_v ((nth (row A i) 0).list))])), (IntKind.wrap .i64 (i + (1 : Int))))))
     .no)
    .no)
   .no)
  (.ok (.inr X)))
noncomputable def laws_toPointS_3_st : laws_toPointS_3_σ → Tr (laws_toPointS_3_σ ⊕ laws_toPointS_3_ω) := fun x => (laws_toPointS_3_step (x.1) (x.2.1) (x.2.2))
noncomputable def laws_toPointS_o3_1 (A : List (List TC)) (X : List (List TC)) (i : Int) : Bool := is (Typed tab (.slice 215) (.l A) ∧ X = List.replicate A.length laws_toPointS_z ∧ i = 0)
noncomputable def laws_toPointS_3_fin (A : List (List TC)) (X : List (List TC)) (i : Int) : Told laws_toPointS_3_ω := (.leaf (laws_toPointS_o3_1 A X i) A)
def laws_toPointS_3_sl (x : laws_toPointS_3_σ) : List Slot := [⟨.val false [⟨.slice 215, .sh, TC.l (x.1)⟩], ⟨0, 0⟩⟩, ⟨.val false [⟨.slice 193, .own true, TC.l (x.2.1)⟩], ⟨0, 0⟩⟩, ⟨.val false [⟨.int .i64, .sh, TC.i (x.2.2)⟩], ⟨0, 0⟩⟩]
def laws_toPointS_3_out : laws_toPointS_3_ω → Ex × List Slot := (fun x => (.exit 0, [Slot.none, ⟨.val false [⟨.slice 193, .own true, TC.l x⟩], ⟨0, 0⟩⟩]))
noncomputable def laws_toPointS_lo3 : List Slot → Option (Told (Ex × List Slot)) := fun s => match s with
  | [⟨.val false [⟨.slice 215, .sh, TC.l A⟩], ⟨0, 0⟩⟩, ⟨.val false [⟨.slice 193, .own true, TC.l X⟩], ⟨0, 0⟩⟩, ⟨.val false [⟨.int .i64, .sh, TC.i i⟩], ⟨0, 0⟩⟩] => some (((laws_toPointS_3_fin A X i)).map laws_toPointS_3_out)
  | _ => .none
noncomputable def laws_toPointS_lo : LoopTeller := fun r s => bif Nat.beq r 3 then laws_toPointS_lo3 s else .none
theorem laws_toPointS_3_r (A : List (List TC)) (X : List (List TC)) (i : Int) (fuel : Nat) : rounds (rnd tab FT D19 live 157 laws_toPointS_lo 0 3) leave (fuel + 1) (laws_toPointS_3_sl (A, X, i)) = ((laws_toPointS_3_step A X i)).run (goOn (fun s => rounds (rnd tab FT D19 live 157 laws_toPointS_lo 0 3) leave fuel (laws_toPointS_3_sl s)) fun w => some (laws_toPointS_3_out w)) := by kernel_rfl
theorem laws_toPointS_3_h (A : List (List TC)) (X : List (List TC)) (i : Int) (ow : laws_toPointS_3_ω) : ((laws_toPointS_3_fin A X i)).val = some ow → ∃ fuel, loopN laws_toPointS_3_st fuel (A, X, i) = some ow := by
  intro h
  refine auto_leaf (R := A) (fun ho => ?_) h
  obtain ⟨ht, rfl, rfl⟩ := is_iff.1 ho
  have hlen : A.length ≤ 140737488351232 := by have := typed_room ht; simp only [show (tab 215).bytes = 24 from rfl] at this; omega
  have key := loopN_copy (step := laws_toPointS_3_st) A (List.replicate A.length laws_toPointS_z) laws_toPointS_g (fun Y i => (A, Y, (i : Int))) (A.map laws_toPointS_g) (by simp) (fun x hx i _ => by rw [(List.mem_replicate.1 hx).2]; exact Nat.le_refl 1) (fun Y i hi hl => ?_) ?_ A.length 0 (by omega)
  · rw [copied_zero, laws_toPointS_id ht] at key
    exact ⟨_, key⟩
  · have c0 : Typed tab (.slice 2) (.l (nth (A.getD i []) 0).list) := typed_list (typed_cell ht (A.getD i []) (mem_getD hi) 0 (by decide))
    show (laws_toPointS_3_step A Y (i : Int)).val = _
    unfold laws_toPointS_3_step
    refine Tr.t (by simp; omega) ?_
    refine Tr.t (by first | omega | (constructor <;> omega)) ?_
    refine Tr.t (by first | (apply is_true; and_intros <;> (first | rfl | assumption | (apply laws_szStringS_cc <;> assumption) | (apply laws_szMember_cc <;> assumption) | (apply laws_szMemberS_cc <;> assumption) | (apply laws_szTypeS_cc <;> assumption) | (apply laws_szPoint_cc <;> assumption) | (apply laws_szPointS_cc <;> assumption) | (apply laws_szSelection_cc <;> assumption) | (apply laws_szMapping_cc <;> assumption) | (apply laws_szMappingS_cc <;> assumption) | (apply laws_szVirtual_cc <;> assumption) | (first | (apply is_true; and_intros <;> (first | rfl | assumption | (apply laws_szStringS_cc <;> assumption) | (apply laws_szMember_cc <;> assumption) | (apply laws_szMemberS_cc <;> assumption) | (apply laws_szTypeS_cc <;> assumption) | (apply laws_szPoint_cc <;> assumption) | (apply laws_szPointS_cc <;> assumption) | (apply laws_szSelection_cc <;> assumption) | (apply laws_szMapping_cc <;> assumption) | (apply laws_szMappingS_cc <;> assumption) | (apply laws_szVirtual_cc <;> assumption) | (first | (apply is_true; and_intros <;> (first | rfl | assumption | (apply laws_szStringS_cc <;> assumption) | (apply laws_szMember_cc <;> assumption) | (apply laws_szMemberS_cc <;> assumption) | (apply laws_szTypeS_cc <;> assumption) | (apply laws_szPoint_cc <;> assumption) | (apply laws_szPointS_cc <;> assumption) | (apply laws_szSelection_cc <;> assumption) | (apply laws_szMapping_cc <;> assumption) | (apply laws_szMappingS_cc <;> assumption) | (apply laws_szVirtual_cc <;> assumption) | (first | (apply is_true; and_intros <;> (first | rfl | assumption | (apply laws_szStringS_cc <;> assumption) | (apply laws_szMember_cc <;> assumption) | (apply laws_szMemberS_cc <;> assumption) | (apply laws_szTypeS_cc <;> assumption) | (apply laws_szPoint_cc <;> assumption) | (apply laws_szPointS_cc <;> assumption) | (apply laws_szSelection_cc <;> assumption) | (apply laws_szMapping_cc <;> assumption) | (apply laws_szMappingS_cc <;> assumption) | (apply laws_szVirtual_cc <;> assumption))) | (apply laws_szStringS_cc <;> assumption) | (apply laws_szMember_cc <;> assumption) | (apply laws_szMemberS_cc <;> assumption) | (apply laws_szTypeS_cc <;> assumption) | (apply laws_szPoint_cc <;> assumption) | (apply laws_szPointS_cc <;> assumption) | (apply laws_szSelection_cc <;> assumption) | (apply laws_szMapping_cc <;> assumption) | (apply laws_szMappingS_cc <;> assumption) | (apply laws_szVirtual_cc <;> assumption)))) | (apply laws_szStringS_cc <;> assumption) | (apply laws_szMember_cc <;> assumption) | (apply laws_szMemberS_cc <;> assumption) | (apply laws_szTypeS_cc <;> assumption) | (apply laws_szPoint_cc <;> assumption) | (apply laws_szPointS_cc <;> assumption) | (apply laws_szSelection_cc <;> assumption) | (apply laws_szMapping_cc <;> assumption) | (apply laws_szMappingS_cc <;> assumption) | (apply laws_szVirtual_cc <;> assumption)))) | (apply laws_szStringS_cc <;> assumption) | (apply laws_szMember_cc <;> assumption) | (apply laws_szMemberS_cc <;> assumption) | (apply laws_szTypeS_cc <;> assumption) | (apply laws_szPoint_cc <;> assumption) | (apply laws_szPointS_cc <;> assumption) | (apply laws_szSelection_cc <;> assumption) | (apply laws_szMapping_cc <;> assumption) | (apply laws_szMappingS_cc <;> assumption) | (apply laws_szVirtual_cc <;> assumption)))) | (apply laws_szStringS_cc <;> assumption) | (apply laws_szMember_cc <;> assumption) | (apply laws_szMemberS_cc <;> assumption) | (apply laws_szTypeS_cc <;> assumption) | (apply laws_szPoint_cc <;> assumption) | (apply laws_szPointS_cc <;> assumption) | (apply laws_szSelection_cc <;> assumption) | (apply laws_szMapping_cc <;> assumption) | (apply laws_szMappingS_cc <;> assumption) | (apply laws_szVirtual_cc <;> assumption)) ?_
    refine Tr.t (by first | omega | (constructor <;> omega)) ?_
    rw [Tr.val_ok, wrap64 (i := (i : Int) + 1) (by omega) (by omega)]; rfl
  · show (laws_toPointS_3_step A (A.map laws_toPointS_g) (A.length : Int)).val = _
    refine Tr.n (by simp) ?_
    rfl
theorem laws_toPointS_is3 : LoopIs tab FT D19 live 157 laws_toPointS_lo 0 3 := by
  refine loop_told (sl := laws_toPointS_3_sl) (step := laws_toPointS_3_st) (out := laws_toPointS_3_out) (lor := laws_toPointS_lo3) (fin := fun x => (laws_toPointS_3_fin (x.1) (x.2.1) (x.2.2))) (fun _ => rfl) ?_ (fun x n => laws_toPointS_3_r x.1 x.2.1 x.2.2 n) (fun x ow => laws_toPointS_3_h x.1 x.2.1 x.2.2 ow)
  intro s t h
  unfold laws_toPointS_lo3 at h
  split at h
  · cases h; exact ⟨(_, _, _), rfl, rfl⟩
  · cases h
noncomputable def laws_toPointS_t (A : List (List TC)) : Tr (List (List TC)) := (.ite (0 ≤ (A.length : Int) ∧ (A.length : Int) ≤ (A.length : Int) ∧ (A.length : Int) * 24 ≤ 140737488355328 ∧ (A.length : Int) ≤ 140737488355328) (.ite ((laws_toPointS_o3_1 A (List.replicate ((A.length : Int)).toNat [TC.l []]) (0 : Int)) = true) (.ok A)
   .no)
  .no)
def laws_toPointS_mk (p : List (List TC)) : Res := [(false, [⟨.slice 193, .own true, TC.l p⟩])]
noncomputable def laws_toPointS_c (A : List (List TC)) : Bool := is (Typed tab (.slice 215) (.l A))
noncomputable def laws_toPointS_v (A : List (List TC)) : List (List TC) := A
theorem laws_toPointS_l (A : List (List TC)) : (laws_toPointS_c A) = true → (laws_toPointS_t A).val = some (laws_toPointS_v A) := by
  intro h
  have ht := is_iff.1 h
  have hb := typed_room ht
  simp only [show (tab 215).bytes = 24 from rfl] at hb
  unfold laws_toPointS_t
  refine Tr.t (by omega) ?_
  refine Tr.t (is_true ⟨ht, by rfl, rfl⟩) ?_
  rfl
noncomputable def laws_toPointS_S : List Arg → Option (Bool × Res) := fun xs => match xs with
  | [(false, [(.slice 215, TC.l A)])] => some ((laws_toPointS_c A), laws_toPointS_mk (laws_toPointS_v A))
  | _ => .none
theorem laws_toPointS_e (A : List (List TC)) : runF tab FT D19 live 157 laws_toPointS_lo [(false, [(.slice 215, TC.l A)])] = (laws_toPointS_t A).run fun p => some (laws_toPointS_mk p) := by kernel_rfl
theorem laws_toPointS_s : ∀ xs r, laws_toPointS_S xs = some (true, r) → runF tab FT D19 live 157 laws_toPointS_lo xs = some r := by
  intro xs r h
  unfold laws_toPointS_S at h
  split at h
  · simp only [Option.some.injEq, Prod.mk.injEq] at h
    obtain ⟨h1, rfl⟩ := h
    exact fun_told (laws_toPointS_e _) (laws_toPointS_l _) h1
  · cases h
noncomputable def D20 : Dt := also D19 157 laws_toPointS_S
theorem d20 : DOk Go.Proofs.Try.prog tab D20 := d19.also mixed_ok tab_ok names_ok (fnLoops_one (by kernel_rfl) laws_toPointS_is3) laws_toPointS_s
theorem laws_toPointS_ty {A : List (List TC)} (h : Typed tab (.slice 215) (.l A)) : Typed tab (.slice 193) (.l A) := typed_iso iso_ok h (by decide)
/-! laws_toSelection -/
noncomputable def laws_toSelection_t (a0 : Int) (a1 : List (List TC)) (a2 : List (List TC)) (a3 : List (List TC)) (a4 : List (List TC)) (a5 : List (List TC)) : Tr (Int × List (List TC) × List (List TC) × List (List TC) × List (List TC) × List (List TC)) := (.ite ((laws_toInt64S_c a1) = true) (.ite ((laws_toInt64S_c a2) = true) (.ite ((laws_toInt64S_c a3) = true) (.ite ((laws_toInt64S_c a4) = true) (.ite ((laws_toPointS_c a5) = true) (.ok (a0, (laws_toInt64S_v a1), (laws_toInt64S_v a2), (laws_toInt64S_v a3), (laws_toInt64S_v a4), (laws_toPointS_v a5)))
      .no)
     .no)
    .no)
   .no)
  .no)
def laws_toSelection_mk (p : Int × List (List TC) × List (List TC) × List (List TC) × List (List TC) × List (List TC)) : Res := [(true, [⟨.int .i64, .sh, TC.i (p.1)⟩, ⟨.slice 2, .own true, TC.l (p.2.1)⟩, ⟨.slice 2, .own true, TC.l (p.2.2.1)⟩, ⟨.slice 2, .own true, TC.l (p.2.2.2.1)⟩, ⟨.slice 2, .own true, TC.l (p.2.2.2.2.1)⟩, ⟨.slice 193, .own true, TC.l (p.2.2.2.2.2)⟩])]
noncomputable def laws_toSelection_c (a0 : Int) (a1 : List (List TC)) (a2 : List (List TC)) (a3 : List (List TC)) (a4 : List (List TC)) (a5 : List (List TC)) : Bool := is (((laws_toInt64S_c a1) = true) ∧ ((laws_toInt64S_c a2) = true) ∧ ((laws_toInt64S_c a3) = true) ∧ ((laws_toInt64S_c a4) = true) ∧ ((laws_toPointS_c a5) = true))
noncomputable def laws_toSelection_v (a0 : Int) (a1 : List (List TC)) (a2 : List (List TC)) (a3 : List (List TC)) (a4 : List (List TC)) (a5 : List (List TC)) : Int × List (List TC) × List (List TC) × List (List TC) × List (List TC) × List (List TC) := (a0, (laws_toInt64S_v a1), (laws_toInt64S_v a2), (laws_toInt64S_v a3), (laws_toInt64S_v a4), (laws_toPointS_v a5))
theorem laws_toSelection_l (a0 : Int) (a1 : List (List TC)) (a2 : List (List TC)) (a3 : List (List TC)) (a4 : List (List TC)) (a5 : List (List TC)) : (laws_toSelection_c a0 a1 a2 a3 a4 a5) = true → (laws_toSelection_t a0 a1 a2 a3 a4 a5).val = some (laws_toSelection_v a0 a1 a2 a3 a4 a5) := by
  intro h
  obtain ⟨hc0, hc1, hc2, hc3, hc4⟩ := is_iff.1 h
  unfold laws_toSelection_t
  exact (Tr.t hc0 (Tr.t hc1 (Tr.t hc2 (Tr.t hc3 (Tr.t hc4 rfl)))))
noncomputable def laws_toSelection_S : List Arg → Option (Bool × Res) := fun xs => match xs with
  | [(true, [(.int .i64, TC.i a0), (.slice 2, TC.l a1), (.slice 2, TC.l a2), (.slice 2, TC.l a3), (.slice 2, TC.l a4), (.slice 215, TC.l a5)])] => some ((laws_toSelection_c a0 a1 a2 a3 a4 a5), laws_toSelection_mk (laws_toSelection_v a0 a1 a2 a3 a4 a5))
  | _ => .none
theorem laws_toSelection_e (a0 : Int) (a1 : List (List TC)) (a2 : List (List TC)) (a3 : List (List TC)) (a4 : List (List TC)) (a5 : List (List TC)) : runF tab FT D20 live 141 noLoops [(true, [(.int .i64, TC.i a0), (.slice 2, TC.l a1), (.slice 2, TC.l a2), (.slice 2, TC.l a3), (.slice 2, TC.l a4), (.slice 215, TC.l a5)])] = (laws_toSelection_t a0 a1 a2 a3 a4 a5).run fun p => some (laws_toSelection_mk p) := by kernel_rfl
theorem laws_toSelection_s : ∀ xs r, laws_toSelection_S xs = some (true, r) → runF tab FT D20 live 141 noLoops xs = some r := by
  intro xs r h
  unfold laws_toSelection_S at h
  split at h
  · simp only [Option.some.injEq, Prod.mk.injEq] at h
    obtain ⟨h1, rfl⟩ := h
    exact fun_told (laws_toSelection_e _ _ _ _ _ _) (laws_toSelection_l _ _ _ _ _ _) h1
  · cases h
noncomputable def D21 : Dt := also D20 141 laws_toSelection_S
theorem d21 : DOk Go.Proofs.Try.prog tab D21 := d20.also mixed_ok tab_ok names_ok noLoops_ok laws_toSelection_s
/-! laws_toMapping -/
noncomputable def laws_toMapping_t (a0 : List UInt8) (a1 : Int) (a2 : List (List TC)) (a3 : List (List TC)) (a4 : List (List TC)) (a5 : List (List TC)) (a6 : List (List TC)) (a7 : Int) (a8 : List (List TC)) (a9 : List (List TC)) (a10 : List (List TC)) (a11 : List (List TC)) (a12 : List (List TC)) : Tr (List UInt8 × Int × List (List TC) × List (List TC) × List (List TC) × List (List TC) × List (List TC) × Int × List (List TC) × List (List TC) × List (List TC) × List (List TC) × List (List TC)) := (.ite ((laws_toSelection_c a1 a2 a3 a4 a5 a6) = true) (.ite ((laws_toSelection_c a7 a8 a9 a10 a11 a12) = true) (.ok (a0, (laws_toSelection_v a1 a2 a3 a4 a5 a6).1, (laws_toSelection_v a1 a2 a3 a4 a5 a6).2.1, (laws_toSelection_v a1 a2 a3 a4 a5 a6).2.2.1, (laws_toSelection_v a1 a2 a3 a4 a5 a6).2.2.2.1, (laws_toSelection_v a1 a2 a3 a4 a5 a6).2.2.2.2.1, (laws_toSelection_v a1 a2 a3 a4 a5 a6).2.2.2.2.2, (laws_toSelection_v a7 a8 a9 a10 a11 a12).1, (laws_toSelection_v a7 a8 a9 a10 a11 a12).2.1, (laws_toSelection_v a7 a8 a9 a10 a11 a12).2.2.1, (laws_toSelection_v a7 a8 a9 a10 a11 a12).2.2.2.1, (laws_toSelection_v a7 a8 a9 a10 a11 a12).2.2.2.2.1, (laws_toSelection_v a7 a8 a9 a10 a11 a12).2.2.2.2.2))
   .no)
  .no)
def laws_toMapping_mk (p : List UInt8 × Int × List (List TC) × List (List TC) × List (List TC) × List (List TC) × List (List TC) × Int × List (List TC) × List (List TC) × List (List TC) × List (List TC) × List (List TC)) : Res := [(true, [⟨.str, .sh, TC.s (p.1)⟩, ⟨.int .i64, .sh, TC.i (p.2.1)⟩, ⟨.slice 2, .own true, TC.l (p.2.2.1)⟩, ⟨.slice 2, .own true, TC.l (p.2.2.2.1)⟩, ⟨.slice 2, .own true, TC.l (p.2.2.2.2.1)⟩, ⟨.slice 2, .own true, TC.l (p.2.2.2.2.2.1)⟩, ⟨.slice 193, .own true, TC.l (p.2.2.2.2.2.2.1)⟩, ⟨.int .i64, .sh, TC.i (p.2.2.2.2.2.2.2.1)⟩, ⟨.slice 2, .own true, TC.l (p.2.2.2.2.2.2.2.2.1)⟩, ⟨.slice 2, .own true, TC.l (p.2.2.2.2.2.2.2.2.2.1)⟩, ⟨.slice 2, .own true, TC.l (p.2.2.2.2.2.2.2.2.2.2.1)⟩, ⟨.slice 2, .own true, TC.l (p.2.2.2.2.2.2.2.2.2.2.2.1)⟩, ⟨.slice 193, .own true, TC.l (p.2.2.2.2.2.2.2.2.2.2.2.2)⟩])]
noncomputable def laws_toMapping_c (a0 : List UInt8) (a1 : Int) (a2 : List (List TC)) (a3 : List (List TC)) (a4 : List (List TC)) (a5 : List (List TC)) (a6 : List (List TC)) (a7 : Int) (a8 : List (List TC)) (a9 : List (List TC)) (a10 : List (List TC)) (a11 : List (List TC)) (a12 : List (List TC)) : Bool := is (((laws_toSelection_c a1 a2 a3 a4 a5 a6) = true) ∧ ((laws_toSelection_c a7 a8 a9 a10 a11 a12) = true))
noncomputable def laws_toMapping_v (a0 : List UInt8) (a1 : Int) (a2 : List (List TC)) (a3 : List (List TC)) (a4 : List (List TC)) (a5 : List (List TC)) (a6 : List (List TC)) (a7 : Int) (a8 : List (List TC)) (a9 : List (List TC)) (a10 : List (List TC)) (a11 : List (List TC)) (a12 : List (List TC)) : List UInt8 × Int × List (List TC) × List (List TC) × List (List TC) × List (List TC) × List (List TC) × Int × List (List TC) × List (List TC) × List (List TC) × List (List TC) × List (List TC) := (a0, (laws_toSelection_v a1 a2 a3 a4 a5 a6).1, (laws_toSelection_v a1 a2 a3 a4 a5 a6).2.1, (laws_toSelection_v a1 a2 a3 a4 a5 a6).2.2.1, (laws_toSelection_v a1 a2 a3 a4 a5 a6).2.2.2.1, (laws_toSelection_v a1 a2 a3 a4 a5 a6).2.2.2.2.1, (laws_toSelection_v a1 a2 a3 a4 a5 a6).2.2.2.2.2, (laws_toSelection_v a7 a8 a9 a10 a11 a12).1, (laws_toSelection_v a7 a8 a9 a10 a11 a12).2.1, (laws_toSelection_v a7 a8 a9 a10 a11 a12).2.2.1, (laws_toSelection_v a7 a8 a9 a10 a11 a12).2.2.2.1, (laws_toSelection_v a7 a8 a9 a10 a11 a12).2.2.2.2.1, (laws_toSelection_v a7 a8 a9 a10 a11 a12).2.2.2.2.2)
theorem laws_toMapping_l (a0 : List UInt8) (a1 : Int) (a2 : List (List TC)) (a3 : List (List TC)) (a4 : List (List TC)) (a5 : List (List TC)) (a6 : List (List TC)) (a7 : Int) (a8 : List (List TC)) (a9 : List (List TC)) (a10 : List (List TC)) (a11 : List (List TC)) (a12 : List (List TC)) : (laws_toMapping_c a0 a1 a2 a3 a4 a5 a6 a7 a8 a9 a10 a11 a12) = true → (laws_toMapping_t a0 a1 a2 a3 a4 a5 a6 a7 a8 a9 a10 a11 a12).val = some (laws_toMapping_v a0 a1 a2 a3 a4 a5 a6 a7 a8 a9 a10 a11 a12) := by
  intro h
  obtain ⟨hc0, hc1⟩ := is_iff.1 h
  unfold laws_toMapping_t
  exact (Tr.t hc0 (Tr.t hc1 rfl))
noncomputable def laws_toMapping_S : List Arg → Option (Bool × Res) := fun xs => match xs with
  | [(true, [(.str, TC.s a0), (.int .i64, TC.i a1), (.slice 2, TC.l a2), (.slice 2, TC.l a3), (.slice 2, TC.l a4), (.slice 2, TC.l a5), (.slice 215, TC.l a6), (.int .i64, TC.i a7), (.slice 2, TC.l a8), (.slice 2, TC.l a9), (.slice 2, TC.l a10), (.slice 2, TC.l a11), (.slice 215, TC.l a12)])] => some ((laws_toMapping_c a0 a1 a2 a3 a4 a5 a6 a7 a8 a9 a10 a11 a12), laws_toMapping_mk (laws_toMapping_v a0 a1 a2 a3 a4 a5 a6 a7 a8 a9 a10 a11 a12))
  | _ => .none
theorem laws_toMapping_e (a0 : List UInt8) (a1 : Int) (a2 : List (List TC)) (a3 : List (List TC)) (a4 : List (List TC)) (a5 : List (List TC)) (a6 : List (List TC)) (a7 : Int) (a8 : List (List TC)) (a9 : List (List TC)) (a10 : List (List TC)) (a11 : List (List TC)) (a12 : List (List TC)) : runF tab FT D21 live 111 noLoops [(true, [(.str, TC.s a0), (.int .i64, TC.i a1), (.slice 2, TC.l a2), (.slice 2, TC.l a3), (.slice 2, TC.l a4), (.slice 2, TC.l a5), (.slice 215, TC.l a6), (.int .i64, TC.i a7), (.slice 2, TC.l a8), (.slice 2, TC.l a9), (.slice 2, TC.l a10), (.slice 2, TC.l a11), (.slice 215, TC.l a12)])] = (laws_toMapping_t a0 a1 a2 a3 a4 a5 a6 a7 a8 a9 a10 a11 a12).run fun p => some (laws_toMapping_mk p) := by kernel_rfl
theorem laws_toMapping_s : ∀ xs r, laws_toMapping_S xs = some (true, r) → runF tab FT D21 live 111 noLoops xs = some r := by
  intro xs r h
  unfold laws_toMapping_S at h
  split at h
  · simp only [Option.some.injEq, Prod.mk.injEq] at h
    obtain ⟨h1, rfl⟩ := h
    exact fun_told (laws_toMapping_e _ _ _ _ _ _ _ _ _ _ _ _ _) (laws_toMapping_l _ _ _ _ _ _ _ _ _ _ _ _ _) h1
  · cases h
noncomputable def D22 : Dt := also D21 111 laws_toMapping_S
theorem d22 : DOk Go.Proofs.Try.prog tab D22 := d21.also mixed_ok tab_ok names_ok noLoops_ok laws_toMapping_s
/-! laws_toMappingS -/
noncomputable def laws_toMappingS_g (x : List TC) : List TC := [TC.s ((laws_toMapping_v ((nth x 0).str) ((nth x 1).int) ((nth x 2).list) ((nth x 3).list) ((nth x 4).list) ((nth x 5).list) ((nth x 6).list) ((nth x 7).int) ((nth x 8).list) ((nth x 9).list) ((nth x 10).list) ((nth x 11).list) ((nth x 12).list)).1), TC.i ((laws_toMapping_v ((nth x 0).str) ((nth x 1).int) ((nth x 2).list) ((nth x 3).list) ((nth x 4).list) ((nth x 5).list) ((nth x 6).list) ((nth x 7).int) ((nth x 8).list) ((nth x 9).list) ((nth x 10).list) ((nth x 11).list) ((nth x 12).list)).2.1), TC.l ((laws_toMapping_v ((nth x 0).str) ((nth x 1).int) ((nth x 2).list) ((nth x 3).list) ((nth x 4).list) ((nth x 5).list) ((nth x 6).list) ((nth x 7).int) ((nth x 8).list) ((nth x 9).list) ((nth x 10).list) ((nth x 11).list) ((nth x 12).list)).2.2.1), TC.l ((laws_toMapping_v ((nth x 0).str) ((nth x 1).int) ((nth x 2).list) ((nth x 3).list) ((nth x 4).list) ((nth x 5).list) ((nth x 6).list) ((nth x 7).int) ((nth x 8).list) ((nth x 9).list) ((nth x 10).list) ((nth x 11).list) ((nth x 12).list)).2.2.2.1), TC.l ((laws_toMapping_v ((nth x 0).str) ((nth x 1).int) ((nth x 2).list) ((nth x 3).list) ((nth x 4).list) ((nth x 5).list) ((nth x 6).list) ((nth x 7).int) ((nth x 8).list) ((nth x 9).list) ((nth x 10).list) ((nth x 11).list) ((nth x 12).list)).2.2.2.2.1), TC.l ((laws_toMapping_v ((nth x 0).str) ((nth x 1).int) ((nth x 2).list) ((nth x 3).list) ((nth x 4).list) ((nth x 5).list) ((nth x 6).list) ((nth x 7).int) ((nth x 8).list) ((nth x 9).list) ((nth x 10).list) ((nth x 11).list) ((nth x 12).list)).2.2.2.2.2.1), TC.l ((laws_toMapping_v ((nth x 0).str) ((nth x 1).int) ((nth x 2).list) ((nth x 3).list) ((nth x 4).list) ((nth x 5).list) ((nth x 6).list) ((nth x 7).int) ((nth x 8).list) ((nth x 9).list) ((nth x 10).list) ((nth x 11).list) ((nth x 12).list)).2.2.2.2.2.2.1), TC.i ((laws_toMapping_v ((nth x 0).str) ((nth x 1).int) ((nth x 2).list) ((nth x 3).list) ((nth x 4).list) ((nth x 5).list) ((nth x 6).list) ((nth x 7).int) ((nth x 8).list) ((nth x 9).list) ((nth x 10).list) ((nth x 11).list) ((nth x 12).list)).2.2.2.2.2.2.2.1), TC.l ((laws_toMapping_v ((nth x 0).str) ((nth x 1).int) ((nth x 2).list) ((nth x 3).list) ((nth x 4).list) ((nth x 5).list) ((nth x 6).list) ((nth x 7).int) ((nth x 8).list) ((nth x 9).list) ((nth x 10).list) ((nth x 11).list) ((nth x 12).list)).2.2.2.2.2.2.2.2.1), TC.l ((laws_toMapping_v ((nth x 0).str) ((nth x 1).int) ((nth x 2).list) ((nth x 3).list) ((nth x 4).list) ((nth x 5).list) ((nth x 6).list) ((nth x 7).int) ((nth x 8).list) ((nth x 9).list) ((nth x 10).list) ((nth x 11).list) ((nth x 12).list)).2.2.2.2.2.2.2.2.2.1), TC.l ((laws_toMapping_v ((nth x 0).str) ((nth x 1).int) ((nth x 2).list) ((nth x 3).list) ((nth x 4).list) ((nth x 5).list) ((nth x 6).list) ((nth x 7).int) ((nth x 8).list) ((nth x 9).list) ((nth x 10).list) ((nth x 11).list) ((nth x 12).list)).2.2.2.2.2.2.2.2.2.2.1), TC.l ((laws_toMapping_v ((nth x 0).str) ((nth x 1).int) ((nth x 2).list) ((nth x 3).list) ((nth x 4).list) ((nth x 5).list) ((nth x 6).list) ((nth x 7).int) ((nth x 8).list) ((nth x 9).list) ((nth x 10).list) ((nth x 11).list) ((nth x 12).list)).2.2.2.2.2.2.2.2.2.2.2.1), TC.l ((laws_toMapping_v ((nth x 0).str) ((nth x 1).int) ((nth x 2).list) ((nth x 3).list) ((nth x 4).list) ((nth x 5).list) ((nth x 6).list) ((nth x 7).int) ((nth x 8).list) ((nth x 9).list) ((nth x 10).list) ((nth x 11).list) ((nth x 12).list)).2.2.2.2.2.2.2.2.2.2.2.2)]
def laws_toMappingS_z : List TC := [TC.s [], TC.i (0 : Int), TC.l [], TC.l [], TC.l [], TC.l [], TC.l [], TC.i (0 : Int), TC.l [], TC.l [], TC.l [], TC.l [], TC.l []]
theorem laws_toMappingS_id {A : List (List TC)} (h : Typed tab (.slice 163) (.l A)) : A.map laws_toMappingS_g = A := map_same fun x hx => by
  obtain ⟨hl, hk⟩ := typed_elem h hx
  have e0 : TC.s ((nth x 0).str) = nth x 0 := typed_str_eq (hk 0 (by decide))
  have e1 : TC.i ((nth x 1).int) = nth x 1 := typed_int_eq (hk 1 (by decide))
  have e2 : TC.l ((nth x 2).list) = nth x 2 := typed_list_eq (hk 2 (by decide))
  have e3 : TC.l ((nth x 3).list) = nth x 3 := typed_list_eq (hk 3 (by decide))
  have e4 : TC.l ((nth x 4).list) = nth x 4 := typed_list_eq (hk 4 (by decide))
  have e5 : TC.l ((nth x 5).list) = nth x 5 := typed_list_eq (hk 5 (by decide))
  have e6 : TC.l ((nth x 6).list) = nth x 6 := typed_list_eq (hk 6 (by decide))
  have e7 : TC.i ((nth x 7).int) = nth x 7 := typed_int_eq (hk 7 (by decide))
  have e8 : TC.l ((nth x 8).list) = nth x 8 := typed_list_eq (hk 8 (by decide))
  have e9 : TC.l ((nth x 9).list) = nth x 9 := typed_list_eq (hk 9 (by decide))
  have e10 : TC.l ((nth x 10).list) = nth x 10 := typed_list_eq (hk 10 (by decide))
  have e11 : TC.l ((nth x 11).list) = nth x 11 := typed_list_eq (hk 11 (by decide))
  have e12 : TC.l ((nth x 12).list) = nth x 12 := typed_list_eq (hk 12 (by decide))
  show [TC.s ((nth x 0).str), TC.i ((nth x 1).int), TC.l ((nth x 2).list), TC.l ((nth x 3).list), TC.l ((nth x 4).list), TC.l ((nth x 5).list), TC.l ((nth x 6).list), TC.i ((nth x 7).int), TC.l ((nth x 8).list), TC.l ((nth x 9).list), TC.l ((nth x 10).list), TC.l ((nth x 11).list), TC.l ((nth x 12).list)] = _
  rw [e0, e1, e2, e3, e4, e5, e6, e7, e8, e9, e10, e11, e12]
  exact (row_eta hl).symm
abbrev laws_toMappingS_3_σ := List (List TC) × List (List TC) × Int
abbrev laws_toMappingS_3_ω := (List (List TC))
noncomputable def laws_toMappingS_3_step (A : List (List TC)) (X : List (List TC)) (i : Int) : Tr (laws_toMappingS_3_σ ⊕ laws_toMappingS_3_ω) := (.ite ((decide (i < (A.length : Int))) = true) (.ite ((0 : Int) ≤ i ∧ i < (A.length : Int)) (.ite ((laws_toMapping_c ((nth (row A i) 0).str) ((nth (row A i) 1).int) ((nth (row A i) 2).list) ((nth (row A i) 3).list) ((nth (row A i) 4).list) ((nth (row A i) 5).list) ((nth (row A i) 6).list) ((nth (row A i) 7).int) ((nth (row A i) 8).list) ((nth (row A i) 9).list) ((nth (row A i) 10).list) ((nth (row A i) 11).list) ((nth (row A i) 12).list)) = true) (.ite ((0 : Int) ≤ i ∧ i < (X.length : Int)) (.ok (.inl (A, (X.set (i).toNat (splice (row X i) 0 [TC.s ((laws_toMapping_v ((nth (row A i) 0).str) ((nth (row A i) 1).int) ((nth (row A i) 2).list) ((nth (row A i) 3).list) ((nth (row A i) 4).list) ((nth (row A i) 5).list) ((nth (row A i) 6).list) ((nth (row A i) 7).int) ((nth (row A i) 8).list) ((nth (row A i) 9).list) ((nth (row A i) 10).list) ((nth (row A i) 11).list) ((nth (row A i) 12).list)).1), TC.i ((laws_toMapping_v ((nth (row A i) 0).str) ((nth (row A i) 1).int) ((nth (row A i) 2).list) ((nth (row A i) 3).list) ((nth (row A i) 4).list) ((nth (row A i) 5).list) ((nth (row A i) 6).list) ((nth (row A i) 7).int) ((nth (row A i) 8).list) ((nth (row A i) 9).list) ((nth (row A i) 10).list) ((nth (row A i) 11).list) ((nth (row A i) 12).list)).2.1), TC.l ((laws_toMapping_v ((nth (row A i) 0).str) ((nth (row A i) 1).int) ((nth (row A i) 2).list) ((nth (row A i) 3).list) ((nth (row A i) 4).list) ((nth (row A i) 5).list) ((nth (row A i) 6).list) ((nth (row A i) 7).int) ((nth (row A i) 8).list) ((nth (row A i) 9).list) ((nth (row A i) 10).list) ((nth (row A i) 11).list) ((nth (row A i) 12).list)).2.2.1), TC.l ((laws_toMapping_v ((nth (row A i) 0).str) ((nth (row A i) 1).int) ((nth (row A i) 2).list) ((nth (row A i) 3).list) ((nth (row A i) 4).list) ((nth (row A i) 5).list) ((nth (row A i) 6).list) ((nth (row A i) 7).int) ((nth (row A i) 8).list) ((nth (row A i) 9).list) ((nth (row A i) 10).list) ((nth (row A i) 11).list) ((nth (row A i) 12).list)).2.2.2.1), TC.l ((laws_toMapping_v ((nth (row A i) 0).str) ((nth (row A i) 1).int) ((nth (row A i) 2).list) ((nth (row A i) 3).list) ((nth (row A i) 4).list) ((nth (row A i) 5).list) ((nth (row A i) 6).list) ((nth (row A i) 7).int) ((nth (row A i) 8).list) ((nth (row A i) 9).list) ((nth (row A i) 10).list) ((nth (row A i) 11).list) ((nth (row A i) 12).list)).2.2.2.2.1), TC.l ((laws_toMapping_v ((nth (row A i) 0).str) ((nth (row A i) 1).int) ((nth (row A i) 2).list) ((nth (row A i) 3).list) ((nth (row A i) 4).list) ((nth (row A i) 5).list) ((nth (row A i) 6).list) ((nth (row A i) 7).int) ((nth (row A i) 8).list) ((nth (row A i) 9).list) ((nth (row A i) 10).list) ((nth (row A i) 11).list) ((nth (row A i) 12).list)).2.2.2.2.2.1), TC.l ((laws_toMapping_v ((nth (row A i) 0).str) ((nth (row A i) 1).int) ((nth (row A i) 2).list) ((nth (row A i) 3).list) ((nth (row A i) 4).list) ((nth (row A i) 5).list) ((nth (row A i) 6).list) ((nth (row A i) 7).int) ((nth (row A i) 8).list) ((nth (row A i) 9).list) ((nth (row A i) 10).list) ((nth (row A i) 11).list) ((nth (row A i) 12).list)).2.2.2.2.2.2.1), TC.i ((laws_toMapping_v ((nth (row A i) 0).str) ((nth (row A i) 1).int) ((nth (row A i) 2).list) ((nth (row A i) 3).list) ((nth (row A i) 4).list) ((nth (row A i) 5).list) ((nth (row A i) 6).list) ((nth (row A i) 7).int) ((nth (row A i) 8).list) ((nth (row A i) 9).list) ((nth (row A i) 10).list) ((nth (row A i) 11).list) ((nth (row A i) 12).list)).2.2.2.2.2.2.2.1), TC.l ((laws_toMapping_v ((nth (row A i) 0).str) ((nth (row A i) 1).int) ((nth (row A i) 2).list) ((nth (row A i) 3).list) ((nth (row A i) 4).list) ((nth (row A i) 5).list) ((nth (row A i) 6).list) ((nth (row A i) 7).int) ((nth (row A i) 8).list) ((nth (row A i) 9).list) ((nth (row A i) 10).list) ((nth (row A i) 11).list) ((nth (row A i) 12).list)).2.2.2.2.2.2.2.2.1), TC.l ((laws_toMapping_v ((nth (row A i) 0).str) ((nth (row A i) 1).int) ((nth (row A i) 2).list) ((nth (row A i) 3).list) ((nth (row A i) 4).list) ((nth (row A i) 5).list) ((nth (row A i) 6).list) ((nth (row A i) 7).int) ((nth (row A i) 8).list) ((nth (row A i) 9).list) ((nth (row A i) 10).list) ((nth (row A i) 11).list) ((nth (row A i) 12).list)).2.2.2.2.2.2.2.2.2.1), TC.l ((laws_toMapping_v ((nth (row A i) 0).str) ((nth (row A i) 1).int) ((nth (row A i) 2).list) ((nth (row A i) 3).list) ((nth (row A i) 4).list) ((nth (row A i) 5).list) ((nth (row A i) 6).list) ((nth (row A i) 7).int) ((nth (row A i) 8).list) ((nth (row A i) 9).list) ((nth (row A i) 10).list) ((nth (row A i) 11).list) ((nth (row A i) 12).list)).2.2.2.2.2.2.2.2.2.2.1), TC.l ((laws_toMapping_v ((nth (row A i) 0).str) ((nth (row A i) 1).int) ((nth (row A i) 2).list) ((nth (row A i) 3).list) ((nth (row A i) 4).list) ((nth (row A i) 5).list) ((nth (row A i) 6).list) ((nth (row A i) 7).int) ((nth (row A i) 8).list) ((nth (row A i) 9).list) ((nth (row A i) 10).list) ((nth (row A i) 11).list) ((nth (row A i) 12).list)).2.2.2.2.2.2.2.2.2.2.2.1), TC.l ((laws_toMapping_v ((nth (row A i) 0).str) ((nth (row A i) 1).int) ((nth (row A i) 2).list) ((nth (row A i) 3).list) ((nth (row A i) 4).list) ((nth (row A i) 5).list) ((nth (row A i) 6).list) ((nth (row A i) 7).int) ((nth (row A i) 8).list) ((nth (row A i) 9).list) ((nth (row A i) 10).list) ((nth (row A i) 11).list) ((nth (row A i) 12).list)).2.2.2.2.2.2.2.2.2.2.2.2)])), (IntKind.wrap .i64 (i + (1 : Int))))))
     .no)
    .no)
   .no)
  (.ok (.inr X)))
noncomputable def laws_toMappingS_3_st : laws_toMappingS_3_σ → Tr (laws_toMappingS_3_σ ⊕ laws_toMappingS_3_ω) := fun x => (laws_toMappingS_3_step (x.1) (x.2.1) (x.2.2))
noncomputable def laws_toMappingS_o3_1 (A : List (List TC)) (X : List (List TC)) (i : Int) : Bool := is (Typed tab (.slice 163) (.l A) ∧ X = List.replicate A.length laws_toMappingS_z ∧ i = 0)
noncomputable def laws_toMappingS_3_fin (A : List (List TC)) (X : List (List TC)) (i : Int) : Told laws_toMappingS_3_ω := (.leaf (laws_toMappingS_o3_1 A X i) A)
def laws_toMappingS_3_sl (x : laws_toMappingS_3_σ) : List Slot := [⟨.val false [⟨.slice 163, .sh, TC.l (x.1)⟩], ⟨0, 0⟩⟩, ⟨.val false [⟨.slice 128, .own true, TC.l (x.2.1)⟩], ⟨0, 0⟩⟩, ⟨.val false [⟨.int .i64, .sh, TC.i (x.2.2)⟩], ⟨0, 0⟩⟩]
def laws_toMappingS_3_out : laws_toMappingS_3_ω → Ex × List Slot := (fun x => (.exit 0, [Slot.none, ⟨.val false [⟨.slice 128, .own true, TC.l x⟩], ⟨0, 0⟩⟩]))
noncomputable def laws_toMappingS_lo3 : List Slot → Option (Told (Ex × List Slot)) := fun s => match s with
  | [⟨.val false [⟨.slice 163, .sh, TC.l A⟩], ⟨0, 0⟩⟩, ⟨.val false [⟨.slice 128, .own true, TC.l X⟩], ⟨0, 0⟩⟩, ⟨.val false [⟨.int .i64, .sh, TC.i i⟩], ⟨0, 0⟩⟩] => some (((laws_toMappingS_3_fin A X i)).map laws_toMappingS_3_out)
  | _ => .none
noncomputable def laws_toMappingS_lo : LoopTeller := fun r s => bif Nat.beq r 3 then laws_toMappingS_lo3 s else .none
theorem laws_toMappingS_3_r (A : List (List TC)) (X : List (List TC)) (i : Int) (fuel : Nat) : rounds (rnd tab FT D22 live 83 laws_toMappingS_lo 0 3) leave (fuel + 1) (laws_toMappingS_3_sl (A, X, i)) = ((laws_toMappingS_3_step A X i)).run (goOn (fun s => rounds (rnd tab FT D22 live 83 laws_toMappingS_lo 0 3) leave fuel (laws_toMappingS_3_sl s)) fun w => some (laws_toMappingS_3_out w)) := by kernel_rfl
theorem laws_toMappingS_3_h (A : List (List TC)) (X : List (List TC)) (i : Int) (ow : laws_toMappingS_3_ω) : ((laws_toMappingS_3_fin A X i)).val = some ow → ∃ fuel, loopN laws_toMappingS_3_st fuel (A, X, i) = some ow := by
  intro h
  refine auto_leaf (R := A) (fun ho => ?_) h
  obtain ⟨ht, rfl, rfl⟩ := is_iff.1 ho
  have hlen : A.length ≤ 140737488351232 := by have := typed_room ht; simp only [show (tab 163).bytes = 272 from rfl] at this; omega
  have key := loopN_copy (step := laws_toMappingS_3_st) A (List.replicate A.length laws_toMappingS_z) laws_toMappingS_g (fun Y i => (A, Y, (i : Int))) (A.map laws_toMappingS_g) (by simp) (fun x hx i _ => by rw [(List.mem_replicate.1 hx).2]; exact Nat.le_refl 13) (fun Y i hi hl => ?_) ?_ A.length 0 (by omega)
  · rw [copied_zero, laws_toMappingS_id ht] at key
    exact ⟨_, key⟩
  · have c0 : Typed tab (.str) (.s (nth (A.getD i []) 0).str) := typed_s (typed_cell ht (A.getD i []) (mem_getD hi) 0 (by decide))
    have c2 : Typed tab (.slice 2) (.l (nth (A.getD i []) 2).list) := typed_list (typed_cell ht (A.getD i []) (mem_getD hi) 2 (by decide))
    have c3 : Typed tab (.slice 2) (.l (nth (A.getD i []) 3).list) := typed_list (typed_cell ht (A.getD i []) (mem_getD hi) 3 (by decide))
    have c4 : Typed tab (.slice 2) (.l (nth (A.getD i []) 4).list) := typed_list (typed_cell ht (A.getD i []) (mem_getD hi) 4 (by decide))
    have c5 : Typed tab (.slice 2) (.l (nth (A.getD i []) 5).list) := typed_list (typed_cell ht (A.getD i []) (mem_getD hi) 5 (by decide))
    have c6 : Typed tab (.slice 215) (.l (nth (A.getD i []) 6).list) := typed_list (typed_cell ht (A.getD i []) (mem_getD hi) 6 (by decide))
    have c8 : Typed tab (.slice 2) (.l (nth (A.getD i []) 8).list) := typed_list (typed_cell ht (A.getD i []) (mem_getD hi) 8 (by decide))
    have c9 : Typed tab (.slice 2) (.l (nth (A.getD i []) 9).list) := typed_list (typed_cell ht (A.getD i []) (mem_getD hi) 9 (by decide))
    have c10 : Typed tab (.slice 2) (.l (nth (A.getD i []) 10).list) := typed_list (typed_cell ht (A.getD i []) (mem_getD hi) 10 (by decide))
    have c11 : Typed tab (.slice 2) (.l (nth (A.getD i []) 11).list) := typed_list (typed_cell ht (A.getD i []) (mem_getD hi) 11 (by decide))
    have c12 : Typed tab (.slice 215) (.l (nth (A.getD i []) 12).list) := typed_list (typed_cell ht (A.getD i []) (mem_getD hi) 12 (by decide))
    show (laws_toMappingS_3_step A Y (i : Int)).val = _
    unfold laws_toMappingS_3_step
    refine Tr.t (by simp; omega) ?_
    refine Tr.t (by first | omega | (constructor <;> omega)) ?_
    refine Tr.t (by first | (apply is_true; and_intros <;> (first | rfl | assumption | (apply laws_szStringS_cc <;> assumption) | (apply laws_szMember_cc <;> assumption) | (apply laws_szMemberS_cc <;> assumption) | (apply laws_szTypeS_cc <;> assumption) | (apply laws_szPoint_cc <;> assumption) | (apply laws_szPointS_cc <;> assumption) | (apply laws_szSelection_cc <;> assumption) | (apply laws_szMapping_cc <;> assumption) | (apply laws_szMappingS_cc <;> assumption) | (apply laws_szVirtual_cc <;> assumption) | (first | (apply is_true; and_intros <;> (first | rfl | assumption | (apply laws_szStringS_cc <;> assumption) | (apply laws_szMember_cc <;> assumption) | (apply laws_szMemberS_cc <;> assumption) | (apply laws_szTypeS_cc <;> assumption) | (apply laws_szPoint_cc <;> assumption) | (apply laws_szPointS_cc <;> assumption) | (apply laws_szSelection_cc <;> assumption) | (apply laws_szMapping_cc <;> assumption) | (apply laws_szMappingS_cc <;> assumption) | (apply laws_szVirtual_cc <;> assumption) | (first | (apply is_true; and_intros <;> (first | rfl | assumption | (apply laws_szStringS_cc <;> assumption) | (apply laws_szMember_cc <;> assumption) | (apply laws_szMemberS_cc <;> assumption) | (apply laws_szTypeS_cc <;> assumption) | (apply laws_szPoint_cc <;> assumption) | (apply laws_szPointS_cc <;> assumption) | (apply laws_szSelection_cc <;> assumption) | (apply laws_szMapping_cc <;> assumption) | (apply laws_szMappingS_cc <;> assumption) | (apply laws_szVirtual_cc <;> assumption) | (first | (apply is_true; and_intros <;> (first | rfl | assumption | (apply laws_szStringS_cc <;> assumption) | (apply laws_szMember_cc <;> assumption) | (apply laws_szMemberS_cc <;> assumption) | (apply laws_szTypeS_cc <;> assumption) | (apply laws_szPoint_cc <;> assumption) | (apply laws_szPointS_cc <;> assumption) | (apply laws_szSelection_cc <;> assumption) | (apply laws_szMapping_cc <;> assumption) | (apply laws_szMappingS_cc <;> assumption) | (apply laws_szVirtual_cc <;> assumption))) | (apply laws_szStringS_cc <;> assumption) | (apply laws_szMember_cc <;> assumption) | (apply laws_szMemberS_cc <;> assumption) | (apply laws_szTypeS_cc <;> assumption) | (apply laws_szPoint_cc <;> assumption) | (apply laws_szPointS_cc <;> assumption) | (apply laws_szSelection_cc <;> assumption) | (apply laws_szMapping_cc <;> assumption) | (apply laws_szMappingS_cc <;> assumption) | (apply laws_szVirtual_cc <;> assumption)))) | (apply laws_szStringS_cc <;> assumption) | (apply laws_szMember_cc <;> assumption) | (apply laws_szMemberS_cc <;> assumption) | (apply laws_szTypeS_cc <;> assumption) | (apply laws_szPoint_cc <;> assumption) | (apply laws_szPointS_cc <;> assumption) | (apply laws_szSelection_cc <;> assumption) | (apply laws_szMapping_cc <;> assumption) | (apply laws_szMappingS_cc <;> assumption) | (apply laws_szVirtual_cc <;> assumption)))) | (apply laws_szStringS_cc <;> assumption) | (apply laws_szMember_cc <;> assumption) | (apply laws_szMemberS_cc <;> assumption) | (apply laws_szTypeS_cc <;> assumption) | (apply laws_szPoint_cc <;> assumption) | (apply laws_szPointS_cc <;> assumption) | (apply laws_szSelection_cc <;> assumption) | (apply laws_szMapping_cc <;> assumption) | (apply laws_szMappingS_cc <;> assumption) | (apply laws_szVirtual_cc <;> assumption)))) | (apply laws_szStringS_cc <;> assumption) | (apply laws_szMember_cc <;> assumption) | (apply laws_szMemberS_cc <;> assumption) | (apply laws_szTypeS_cc <;> assumption) | (apply laws_szPoint_cc <;> assumption) | (apply laws_szPointS_cc <;> assumption) | (apply laws_szSelection_cc <;> assumption) | (apply laws_szMapping_cc <;> assumption) | (apply laws_szMappingS_cc <;> assumption) | (apply laws_szVirtual_cc <;> assumption)) ?_
    refine Tr.t (by first | omega | (constructor <;> omega)) ?_
    rw [Tr.val_ok, wrap64 (i := (i : Int) + 1) (by omega) (by omega)]; rfl
  · show (laws_toMappingS_3_step A (A.map laws_toMappingS_g) (A.length : Int)).val = _
    refine Tr.n (by simp) ?_
    rfl
end
end
end Go.Proofs.Ytghbndlkekaipaa.V
