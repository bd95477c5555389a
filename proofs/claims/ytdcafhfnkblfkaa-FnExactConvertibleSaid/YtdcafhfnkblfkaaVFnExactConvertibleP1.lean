/- What the functions of FnExactConvertible answer. No condition. -/
import Derived.Test.YtdcafhfnkblfkaaVFacts
namespace Go.Proofs.Ytdcafhfnkblfkaa.V
open Go
set_option maxRecDepth 100000
set_option linter.unusedVariables false
set_option linter.unusedSectionVars false
set_option linter.unusedSimpArgs false
set_option maxHeartbeats 2000000
abbrev LL := List (List TC)
abbrev BS := List UInt8
def isoL : List (Nat × Nat) := [(27, 32), (67, 71), (32, 27), (71, 67)]
theorem iso_ok : isoOk tab isoL = true := by kernel_rfl
def has4 (s : Int) : Bool := s == 1 || s == 2 || s == 4 || s == 8
def empt (NA NU ME BA : LL) (ct : Int) : Bool := ((NA.length : Int) == 0) && ((NU.length : Int) == 0) && ((ME.length : Int) == 0) && ((BA.length : Int) == 0) && (ct == 0)
def intV (s : Int) (sg bg : Bool) (NA NU ME BA : LL) (ct : Int) : Bool := has4 s && !((s == 8) && !sg) && !((s == 1) && bg) && empt NA NU ME BA ct
theorem has4_eq (s : Int) : [[TC.i (1 : Int)], [TC.i (2 : Int)], [TC.i (4 : Int)], [TC.i (8 : Int)]].all (fun x => !((nth x 0).int == s)) = !(has4 s) := by
  show (!((1 : Int) == s) && (!((2 : Int) == s) && (!((4 : Int) == s) && (!((8 : Int) == s) && true)))) = _
  unfold has4
  rw [show ((1 : Int) == s) = (s == 1) from Bool.beq_comm, show ((2 : Int) == s) = (s == 2) from Bool.beq_comm, show ((4 : Int) == s) = (s == 4) from Bool.beq_comm, show ((8 : Int) == s) = (s == 8) from Bool.beq_comm]
  cases (s == 1) <;> cases (s == 2) <;> cases (s == 4) <;> cases (s == 8) <;> rfl

theorem pos_row {BA : LL} (h : 0 < BA.length) (j : Nat) : rowsDep (nth (row BA (0 : Int)) j).list < rowsDep BA := dep_row ⟨by omega, by omega⟩ j
def sizeV (k s : Int) (BA : LL) (ct : Int) : Int :=
  bif k == 3 then (nth (row BA (0 : Int)) 1).int
  else bif k == 5 then (if h : 0 < BA.length then IntKind.wrap .i64 (ct * sizeV (nth (row BA (0 : Int)) 0).int (nth (row BA (0 : Int)) 1).int (nth (row BA (0 : Int)) 7).list (nth (row BA (0 : Int)) 8).int) else 0)
  else s
termination_by rowsDep BA
decreasing_by exact pos_row h 7
def sizeC (k : Int) (BA : LL) : Bool :=
  bif k == 3 then decide (0 < BA.length)
  else bif k == 5 then (if h : 0 < BA.length then sizeC (nth (row BA (0 : Int)) 0).int (nth (row BA (0 : Int)) 7).list else false)
  else true
termination_by rowsDep BA
decreasing_by exact pos_row h 7
theorem dep_max {ME BA : LL} {x : List TC} (hx : x ∈ ME) (i j : Nat) : max (rowsDep (nth x i).list) (rowsDep (nth x j).list) < max (rowsDep ME) (rowsDep BA) := by
  have a := dep_cell hx i
  have b := dep_cell hx j
  omega
theorem dep_base {ME BA : LL} (h : 0 < BA.length) (i j : Nat) : max (rowsDep (nth (row BA (0 : Int)) i).list) (rowsDep (nth (row BA (0 : Int)) j).list) < max (rowsDep ME) (rowsDep BA) := by
  have a := pos_row h i
  have b := pos_row h j
  omega
def maxI (a b : Int) : Int := bif decide (a > b) then a else b
noncomputable def depthV (k : Int) (ME BA : LL) : Int :=
  bif k == 4 then IntKind.wrap .i64 (ME.attach.foldl (fun d x => maxI d (depthV (nth x.1 2).int (nth x.1 8).list (nth x.1 9).list)) 0 + 1)
  else bif k == 5 then (if h : 0 < BA.length then IntKind.wrap .i64 (depthV (nth (row BA (0 : Int)) 0).int (nth (row BA (0 : Int)) 6).list (nth (row BA (0 : Int)) 7).list + 1) else 0)
  else 1
termination_by max (rowsDep ME) (rowsDep BA)
decreasing_by
  · exact dep_max x.2 8 9
  · exact dep_base h 6 7
noncomputable def depthC (k : Int) (ME BA : LL) : Bool :=
  bif k == 4 then ME.attach.all (fun x => depthC (nth x.1 2).int (nth x.1 8).list (nth x.1 9).list)
  else bif k == 5 then (if h : 0 < BA.length then depthC (nth (row BA (0 : Int)) 0).int (nth (row BA (0 : Int)) 6).list (nth (row BA (0 : Int)) 7).list else false)
  else true
termination_by max (rowsDep ME) (rowsDep BA)
decreasing_by
  · exact dep_max x.2 8 9
  · exact dep_base h 6 7
def letterB (c : Int) : Bool := (decide (c ≥ 65) && decide (c ≤ 90)) || (decide (c ≥ 97) && decide (c ≤ 122))
def nameB (i c : Int) : Bool := letterB c || (!(i == 0) && ((decide (c ≥ 48) && decide (c ≤ 57)) || c == 95))
def nameOk (s : BS) : Bool := decide ((s.length : Int) ≥ 1) && decide ((s.length : Int) ≤ 12) && allI (fun i : Nat => nameB (i : Int) ((s.getD ((i : Int)).toNat 0).toNat : Int)) s.length
theorem dlt {a b : Int} : decide (a < b) = !decide (a ≥ b) := by rw [← decide_not]; simp
theorem dgt {a b : Int} : decide (a > b) = !decide (a ≤ b) := by rw [← decide_not]; simp
def strAt (A : LL) (i : Int) : BS := (nth (row A i) 0).str
def intAt (A : LL) (i : Int) : Int := (nth (row A i) 0).int
def noDupN (A : LL) (i : Int) : Bool := allI (fun j : Nat => !(strAt A (j : Int) == strAt A i)) i.toNat
def inB (n lo hi : Int) : Bool := bif decide (n ≥ lo) then decide (n ≤ hi) else false
def ascB (A : LL) (i : Int) : Bool := bif decide (i > 0) then !(decide (intAt A (IntKind.wrap .i64 (i - (1 : Int))) ≥ intAt A i)) else true
def enumP (NA NU : LL) (lo hi i : Int) : Bool := nameOk (strAt NA i) && inB (intAt NU i) lo hi && ascB NU i && noDupN NA i
noncomputable def loV (s : Int) (sg : Bool) : Int := bif !sg then 0 else bif s == 1 then -128 else bif s == 2 then -32768 else bif s == 4 then -2147483648 else -9223372036854775808
noncomputable def hiV (s : Int) (sg : Bool) : Int := bif !sg then (bif s == 1 then 255 else bif s == 2 then 65535 else 4294967295) else bif s == 1 then 127 else bif s == 2 then 32767 else bif s == 4 then 2147483647 else 9223372036854775807
def plain (sg bg : Bool) : Bool := !sg && !bg
noncomputable def enumV (s : Int) (sg bg : Bool) (NA NU ME BA : LL) (ct : Int) : Bool :=
  (s == 0) && (plain sg bg && (!decide ((ME.length : Int) > 0) && ((ct == 0) && (((BA.length : Int) == 1) && (((nth (row BA (0 : Int)) 0).int == 1) && (intV (nth (row BA (0 : Int)) 1).int (nth (row BA (0 : Int)) 2).bool (nth (row BA (0 : Int)) 3).bool (nth (row BA (0 : Int)) 4).list (nth (row BA (0 : Int)) 5).list (nth (row BA (0 : Int)) 6).list (nth (row BA (0 : Int)) 7).list (nth (row BA (0 : Int)) 8).int && (!decide ((NA.length : Int) < 1) && (!decide ((NA.length : Int) > 6) && (((NU.length : Int) == (NA.length : Int)) &&
    allI (fun i : Nat => enumP NA NU (loV (nth (row BA (0 : Int)) 1).int (nth (row BA (0 : Int)) 2).bool) (hiV (nth (row BA (0 : Int)) 1).int (nth (row BA (0 : Int)) 2).bool) (i : Int)) NA.length)))))))))
noncomputable def endAt (ME : LL) : Nat → Int
  | 0 => 0
  | i + 1 => IntKind.wrap .i64 ((nth (row ME (i : Int)) 1).int + sizeV (nth (row ME (i : Int)) 2).int (nth (row ME (i : Int)) 3).int (nth (row ME (i : Int)) 9).list (nth (row ME (i : Int)) 10).int)
noncomputable def memP (ME : LL) (i : Nat) : Bool := nameOk (strAt ME (i : Int)) && (!decide ((nth (row ME (i : Int)) 1).int < endAt ME i) && (!decide ((nth (row ME (i : Int)) 1).int > 24) && noDupN ME (i : Int)))
def compS (s : Int) (sg bg : Bool) (NA NU ME BA : LL) (ct : Int) : Bool :=
  inB s 1 24 && (plain sg bg && (!decide ((NA.length : Int) > 0) && (!decide ((NU.length : Int) > 0) && (!decide ((BA.length : Int) > 0) && ((ct == 0) && (!decide ((ME.length : Int) < 1) && !decide ((ME.length : Int) > 4)))))))
def arrS (s : Int) (sg bg : Bool) (NA NU ME BA : LL) (ct : Int) : Bool :=
  (s == 0) && (plain sg bg && (!decide ((NA.length : Int) > 0) && (!decide ((NU.length : Int) > 0) && (!decide ((ME.length : Int) > 0) && (((BA.length : Int) == 1) && inB ct 1 4)))))
def bareV (sg bg : Bool) (NA NU ME BA : LL) (ct : Int) : Bool := plain sg bg && empt NA NU ME BA ct
noncomputable def okV (k s : Int) (sg bg : Bool) (NA NU ME BA : LL) (ct : Int) : Bool :=
  (bif k == 1 then intV s sg bg NA NU ME BA ct
   else bif k == 2 then inB s 1 16 && bareV sg bg NA NU ME BA ct
   else bif k == 3 then enumV s sg bg NA NU ME BA ct
   else bif k == 4 then compS s sg bg NA NU ME BA ct && ((allI (memP ME) ME.length && ME.attach.all (fun x => okV (nth x.1 2).int (nth x.1 3).int (nth x.1 4).bool (nth x.1 5).bool (nth x.1 6).list (nth x.1 7).list (nth x.1 8).list (nth x.1 9).list (nth x.1 10).int)) && decide (endAt ME ME.length ≤ s))
   else bif k == 5 then arrS s sg bg NA NU ME BA ct && (if h : 0 < BA.length then okV (nth (row BA (0 : Int)) 0).int (nth (row BA (0 : Int)) 1).int (nth (row BA (0 : Int)) 2).bool (nth (row BA (0 : Int)) 3).bool (nth (row BA (0 : Int)) 4).list (nth (row BA (0 : Int)) 5).list (nth (row BA (0 : Int)) 6).list (nth (row BA (0 : Int)) 7).list (nth (row BA (0 : Int)) 8).int else false)
   else bif k == 6 then (s == 2) && bareV sg bg NA NU ME BA ct
   else false) && (decide (sizeV k s BA ct ≤ 24) && decide (depthV k ME BA ≤ 3))
termination_by max (rowsDep ME) (rowsDep BA)
decreasing_by
  · exact dep_max x.2 8 9
  · exact dep_base h 6 7
theorem attach_okV {ME : LL} : (ME.attach.all fun x => okV (nth x.1 2).int (nth x.1 3).int (nth x.1 4).bool (nth x.1 5).bool (nth x.1 6).list (nth x.1 7).list (nth x.1 8).list (nth x.1 9).list (nth x.1 10).int) = ME.all fun x => okV (nth x 2).int (nth x 3).int (nth x 4).bool (nth x 5).bool (nth x 6).list (nth x 7).list (nth x 8).list (nth x 9).list (nth x 10).int := attach_all (p := fun x => okV (nth x 2).int (nth x 3).int (nth x 4).bool (nth x 5).bool (nth x 6).list (nth x 7).list (nth x 8).list (nth x 9).list (nth x 10).int)
theorem okV_size : ∀ {BA : LL} {k s : Int} {sg bg : Bool} {NA NU ME : LL} {ct : Int}, okV k s sg bg NA NU ME BA ct = true → sizeC k BA = true := by
  intro BA
  induction h : rowsDep BA using Nat.strongRecOn generalizing BA with
  | _ n ih =>
    intro k s sg bg NA NU ME ct hk
    rw [okV, Bool.and_eq_true] at hk
    rw [sizeC]
    have hk := hk.1
    cases h3 : (k == 3) with
    | true =>
      have : k = 3 := by simpa using h3
      subst this
      have hk : enumV s sg bg NA NU ME BA ct = true := hk
      simp only [enumV, Bool.and_eq_true] at hk
      have h1 : (BA.length : Int) = 1 := by simpa using hk.2.2.2.2.1
      show decide (0 < BA.length) = true
      exact decide_eq_true (by omega)
    | false =>
      cases h5 : (k == 5) with
      | true =>
        have : k = 5 := by simpa using h5
        subst this
        have hk : (arrS s sg bg NA NU ME BA ct && (if h : 0 < BA.length then okV (nth (row BA (0 : Int)) 0).int (nth (row BA (0 : Int)) 1).int (nth (row BA (0 : Int)) 2).bool (nth (row BA (0 : Int)) 3).bool (nth (row BA (0 : Int)) 4).list (nth (row BA (0 : Int)) 5).list (nth (row BA (0 : Int)) 6).list (nth (row BA (0 : Int)) 7).list (nth (row BA (0 : Int)) 8).int else false)) = true := hk
        rw [Bool.and_eq_true] at hk
        have hk := hk.2
        split at hk
        · rename_i hb
          simp only [cond_true, cond_false, dif_pos hb]
          exact ih _ (by rw [← h]; exact pos_row hb 7) rfl hk
        · cases hk
      | false => rfl
theorem okV_depth : ∀ {ME BA : LL} {k s : Int} {sg bg : Bool} {NA NU : LL} {ct : Int}, okV k s sg bg NA NU ME BA ct = true → depthC k ME BA = true := by
  intro ME BA
  induction h : max (rowsDep ME) (rowsDep BA) using Nat.strongRecOn generalizing ME BA with
  | _ n ih =>
    intro k s sg bg NA NU ct hk
    rw [okV, Bool.and_eq_true] at hk
    rw [depthC]
    have hk := hk.1
    cases h4 : (k == 4) with
    | true =>
      have : k = 4 := by simpa using h4
      subst this
      have hk : (compS s sg bg NA NU ME BA ct && ((allI (memP ME) ME.length && ME.attach.all (fun x => okV (nth x.1 2).int (nth x.1 3).int (nth x.1 4).bool (nth x.1 5).bool (nth x.1 6).list (nth x.1 7).list (nth x.1 8).list (nth x.1 9).list (nth x.1 10).int)) && decide (endAt ME ME.length ≤ s))) = true := hk
      simp only [Bool.and_eq_true] at hk
      have hk := hk.2.1.2
      rw [List.all_eq_true] at hk
      simp only [cond_true, List.all_eq_true]
      exact fun x hx => ih _ (by rw [← h]; exact dep_max x.2 8 9) rfl (hk x hx)
    | false =>
      cases h5 : (k == 5) with
      | true =>
        have : k = 5 := by simpa using h5
        subst this
        have hk : (arrS s sg bg NA NU ME BA ct && (if h : 0 < BA.length then okV (nth (row BA (0 : Int)) 0).int (nth (row BA (0 : Int)) 1).int (nth (row BA (0 : Int)) 2).bool (nth (row BA (0 : Int)) 3).bool (nth (row BA (0 : Int)) 4).list (nth (row BA (0 : Int)) 5).list (nth (row BA (0 : Int)) 6).list (nth (row BA (0 : Int)) 7).list (nth (row BA (0 : Int)) 8).int else false)) = true := hk
        rw [Bool.and_eq_true] at hk
        have hk := hk.2
        split at hk
        · rename_i hb
          simp only [cond_true, cond_false, dif_pos hb]
          exact ih _ (by rw [← h]; exact dep_base hb 6 7) rfl hk
        · cases hk
      | false => rfl
noncomputable def sameV (k s : Int) (sg bg : Bool) (NA NU ME BA : LL) (ct : Int) (k2 s2 : Int) (sg2 bg2 : Bool) (NA2 NU2 ME2 BA2 : LL) (ct2 : Int) : Bool :=
  (k == k2) && ((s == s2) && ((sg == sg2) && ((bg == bg2) && ((ct == ct2) && (eqL NA NA2 && (eqL NU NU2 && (eqL ME ME2 && eqL BA BA2)))))))
def isizeV (k s : Int) (BA : LL) (ct : Int) : Int :=
  bif k == 3 then (if h : 0 < BA.length then isizeV (nth (row BA (0 : Int)) 0).int (nth (row BA (0 : Int)) 1).int (nth (row BA (0 : Int)) 7).list (nth (row BA (0 : Int)) 8).int else 0)
  else bif k == 5 then (if h : 0 < BA.length then IntKind.wrap .i64 (ct * isizeV (nth (row BA (0 : Int)) 0).int (nth (row BA (0 : Int)) 1).int (nth (row BA (0 : Int)) 7).list (nth (row BA (0 : Int)) 8).int) else 0)
  else s
termination_by rowsDep BA
decreasing_by
  · exact pos_row h 7
  · exact pos_row h 7
def isizeC (k : Int) (BA : LL) : Bool :=
  bif k == 3 || k == 5 then (if h : 0 < BA.length then isizeC (nth (row BA (0 : Int)) 0).int (nth (row BA (0 : Int)) 7).list else false) else true
termination_by rowsDep BA
decreasing_by exact pos_row h 7
noncomputable def validV (k s : Int) (sg bg : Bool) (NA NU ME BA : LL) (ct d : Int) : Bool := okV k s sg bg NA NU ME BA ct && decide (depthV k ME BA ≤ d)
theorem eqL_nil {A : LL} : eqL A [] = ((A.length : Int) == 0) := by
  rw [Bool.eq_iff_iff, eqL_iff, beq_iff_eq]
  cases A <;> simp
  omega
def slotIdx (A : LL) (s : BS) : Int := bif A.all (fun x => !((nth x 0).str == s)) then -1 else Int.ofNat (A.findIdx fun x => !(!((nth x 0).str == s)))
def dnP (A : LL) (i : Int) : Bool := nameOk (strAt A i) && noDupN A i
theorem slotIdx_in {A : LL} {s : BS} : decide (slotIdx A s ≥ 0) = !(A.all fun x => !((nth x 0).str == s)) := by
  unfold slotIdx
  cases A.all fun x => !((nth x 0).str == s) <;> simp
noncomputable def endI (ME : LL) : Nat → Int
  | 0 => 0
  | i + 1 => IntKind.wrap .i64 ((nth (row ME (i : Int)) 1).int + isizeV (nth (row ME (i : Int)) 2).int (nth (row ME (i : Int)) 3).int (nth (row ME (i : Int)) 9).list (nth (row ME (i : Int)) 10).int)
def nmAt (ME : LL) : Nat → LL
  | 0 => []
  | i + 1 => nmAt ME i ++ [[TC.s (nth (row ME (i : Int)) 0).str]]
theorem nmAt_eq {ME : LL} : ∀ {j : Nat}, j ≤ ME.length → nmAt ME j = (ME.take j).map fun x => [TC.s (nth x 0).str]
  | 0, _ => rfl
  | j + 1, h => by
    have hn : j < ME.length := by omega
    rw [nmAt, nmAt_eq (Nat.le_of_lt hn), List.take_add_one, List.getElem?_eq_getElem hn, List.map_append, row_nat, getD_at hn]
    rfl
theorem nmAt_all {ME : LL} : nmAt ME ME.length = ME.map fun x => [TC.s (nth x 0).str] := by rw [nmAt_eq (Nat.le_refl _), List.take_length]
theorem nmAt_len {ME : LL} : (nmAt ME ME.length).length = ME.length := by rw [nmAt_all, List.length_map]
theorem nm_str {ME : LL} {i : Nat} (h : i < ME.length) : strAt (nmAt ME ME.length) (i : Int) = strAt ME (i : Int) := by
  unfold strAt
  rw [nmAt_all, row_nat, row_nat, getD_at (by rw [List.length_map]; exact h), getD_at h, List.getElem_map]
  rfl
theorem nm_dup {ME : LL} {i : Nat} (h : i < ME.length) : noDupN (nmAt ME ME.length) (i : Int) = noDupN ME (i : Int) := by
  unfold noDupN
  rw [Int.toNat_natCast]
  refine allI_congr fun j hj => ?_
  rw [nm_str h, nm_str (by omega)]
noncomputable def memI (ME : LL) (i : Nat) : Bool := !decide ((nth (row ME (i : Int)) 1).int < endI ME i) && !decide ((nth (row ME (i : Int)) 1).int > 24)
theorem maxI_le {a b c : Int} : maxI a b ≤ c ↔ a ≤ c ∧ b ≤ c := by
  unfold maxI
  cases h : decide (a > b) with
  | true => have := of_decide_eq_true h; simp only [cond_true]; omega
  | false => have := of_decide_eq_false h; simp only [cond_false]; omega
theorem fold_max {f : List TC → Int} {c : Int} : ∀ {l : LL} {b : Int}, l.foldl (fun d x => maxI d (f x)) b ≤ c ↔ b ≤ c ∧ ∀ x, x ∈ l → f x ≤ c
  | [], b => by simp
  | x :: l, b => by
    rw [List.foldl_cons, fold_max, maxI_le]
    simp only [List.mem_cons, forall_eq_or_imp, and_assoc]
theorem fold_ge {f : List TC → Int} : ∀ {l : LL} {b : Int}, b ≤ l.foldl (fun d x => maxI d (f x)) b
  | [], b => Int.le_refl _
  | x :: l, b => by
    rw [List.foldl_cons]
    exact Int.le_trans (maxI_le.1 (Int.le_refl _)).1 fold_ge
theorem okV_top {k s : Int} {sg bg : Bool} {NA NU ME BA : LL} {ct : Int} (h : okV k s sg bg NA NU ME BA ct = true) : sizeV k s BA ct ≤ 24 ∧ depthV k ME BA ≤ 3 := by
  rw [okV, Bool.and_eq_true, Bool.and_eq_true] at h
  exact ⟨of_decide_eq_true h.2.1, of_decide_eq_true h.2.2⟩
theorem okV_4 {s : Int} {sg bg : Bool} {NA NU ME BA : LL} {ct : Int} : okV 4 s sg bg NA NU ME BA ct = ((compS s sg bg NA NU ME BA ct && ((allI (memP ME) ME.length && ME.all (fun x => okV (nth x 2).int (nth x 3).int (nth x 4).bool (nth x 5).bool (nth x 6).list (nth x 7).list (nth x 8).list (nth x 9).list (nth x 10).int)) && decide (endAt ME ME.length ≤ s))) && (decide (sizeV 4 s BA ct ≤ 24) && decide (depthV 4 ME BA ≤ 3))) := by
  rw [okV, attach_okV]; rfl
theorem okV_5 {s : Int} {sg bg : Bool} {NA NU ME BA : LL} {ct : Int} : okV 5 s sg bg NA NU ME BA ct = ((arrS s sg bg NA NU ME BA ct && (if h : 0 < BA.length then okV (nth (row BA (0 : Int)) 0).int (nth (row BA (0 : Int)) 1).int (nth (row BA (0 : Int)) 2).bool (nth (row BA (0 : Int)) 3).bool (nth (row BA (0 : Int)) 4).list (nth (row BA (0 : Int)) 5).list (nth (row BA (0 : Int)) 6).list (nth (row BA (0 : Int)) 7).list (nth (row BA (0 : Int)) 8).int else false)) && (decide (sizeV 5 s BA ct ≤ 24) && decide (depthV 5 ME BA ≤ 3))) := by
  rw [okV]; rfl
theorem okV_1 {s : Int} {sg bg : Bool} {NA NU ME BA : LL} {ct : Int} : okV 1 s sg bg NA NU ME BA ct = (intV s sg bg NA NU ME BA ct && (decide (sizeV 1 s BA ct ≤ 24) && decide (depthV 1 ME BA ≤ 3))) := by
  rw [okV]; rfl
theorem okV_2 {s : Int} {sg bg : Bool} {NA NU ME BA : LL} {ct : Int} : okV 2 s sg bg NA NU ME BA ct = ((inB s 1 16 && bareV sg bg NA NU ME BA ct) && (decide (sizeV 2 s BA ct ≤ 24) && decide (depthV 2 ME BA ≤ 3))) := by
  rw [okV]; rfl
theorem okV_3 {s : Int} {sg bg : Bool} {NA NU ME BA : LL} {ct : Int} : okV 3 s sg bg NA NU ME BA ct = (enumV s sg bg NA NU ME BA ct && (decide (sizeV 3 s BA ct ≤ 24) && decide (depthV 3 ME BA ≤ 3))) := by
  rw [okV]; rfl
theorem okV_6 {s : Int} {sg bg : Bool} {NA NU ME BA : LL} {ct : Int} : okV 6 s sg bg NA NU ME BA ct = (((s == 2) && bareV sg bg NA NU ME BA ct) && (decide (sizeV 6 s BA ct ≤ 24) && decide (depthV 6 ME BA ≤ 3))) := by
  rw [okV]; rfl
theorem okV_kind {k s : Int} {sg bg : Bool} {NA NU ME BA : LL} {ct : Int} (h : okV k s sg bg NA NU ME BA ct = true) : k = 1 ∨ k = 2 ∨ k = 3 ∨ k = 4 ∨ k = 5 ∨ k = 6 := by
  apply Classical.byContradiction
  intro hn
  simp only [not_or] at hn
  obtain ⟨k1, k2, k3, k4, k5, k6⟩ := hn
  have e1 : (k == 1) = false := by simpa using k1
  have e2 : (k == 2) = false := by simpa using k2
  have e3 : (k == 3) = false := by simpa using k3
  have e4 : (k == 4) = false := by simpa using k4
  have e5 : (k == 5) = false := by simpa using k5
  have e6 : (k == 6) = false := by simpa using k6
  rw [okV] at h
  simp only [e1, e2, e3, e4, e5, e6, cond_false, Bool.false_and] at h
  cases h
theorem depth4 {ME BA : LL} : depthV 4 ME BA = IntKind.wrap .i64 (ME.foldl (fun d x => maxI d (depthV (nth x 2).int (nth x 8).list (nth x 9).list)) 0 + 1) := by
  rw [depthV, attach_foldl (f := fun d x => maxI d (depthV (nth x 2).int (nth x 8).list (nth x 9).list))]; rfl
theorem depth5 {ME BA : LL} (h : 0 < BA.length) : depthV 5 ME BA = IntKind.wrap .i64 (depthV (nth (row BA (0 : Int)) 0).int (nth (row BA (0 : Int)) 6).list (nth (row BA (0 : Int)) 7).list + 1) := by
  rw [depthV]
  show (if h : 0 < BA.length then IntKind.wrap .i64 (depthV (nth (row BA (0 : Int)) 0).int (nth (row BA (0 : Int)) 6).list (nth (row BA (0 : Int)) 7).list + 1) else 0) = _
  rw [dif_pos h]
theorem depth_else {k : Int} {ME BA : LL} (h4 : k ≠ 4) (h5 : k ≠ 5) : depthV k ME BA = 1 := by
  have e4 : (k == 4) = false := by simpa using h4
  have e5 : (k == 5) = false := by simpa using h5
  rw [depthV]
  simp only [e4, e5, cond_false]
theorem fold4 {ME BA : LL} (h : ∀ x, x ∈ ME → depthV (nth x 2).int (nth x 8).list (nth x 9).list ≤ 3) : depthV 4 ME BA = ME.foldl (fun d x => maxI d (depthV (nth x 2).int (nth x 8).list (nth x 9).list)) 0 + 1 := by
  have h1 : ME.foldl (fun d x => maxI d (depthV (nth x 2).int (nth x 8).list (nth x 9).list)) 0 ≤ 3 := fold_max.2 ⟨by omega, h⟩
  have h2 := fold_ge (f := fun x => depthV (nth x 2).int (nth x 8).list (nth x 9).list) (l := ME) (b := 0)
  rw [depth4, wrap64 (by omega) (by omega)]
theorem okV_base {s : Int} {sg bg : Bool} {NA NU ME BA : LL} {ct : Int} (h : okV 5 s sg bg NA NU ME BA ct = true) : 0 < BA.length ∧ okV (nth (row BA (0 : Int)) 0).int (nth (row BA (0 : Int)) 1).int (nth (row BA (0 : Int)) 2).bool (nth (row BA (0 : Int)) 3).bool (nth (row BA (0 : Int)) 4).list (nth (row BA (0 : Int)) 5).list (nth (row BA (0 : Int)) 6).list (nth (row BA (0 : Int)) 7).list (nth (row BA (0 : Int)) 8).int = true := by
  rw [okV_5, Bool.and_eq_true, Bool.and_eq_true] at h
  have h := h.1.2
  split at h
  · rename_i hb; exact ⟨hb, h⟩
  · cases h
theorem okV_mem {s : Int} {sg bg : Bool} {NA NU ME BA : LL} {ct : Int} (h : okV 4 s sg bg NA NU ME BA ct = true) : ∀ x, x ∈ ME → okV (nth x 2).int (nth x 3).int (nth x 4).bool (nth x 5).bool (nth x 6).list (nth x 7).list (nth x 8).list (nth x 9).list (nth x 10).int = true := by
  rw [okV_4] at h
  simp only [Bool.and_eq_true, List.all_eq_true] at h
  exact h.1.2.1.2
theorem okV_pos : ∀ {BA : LL} {k s : Int} {sg bg : Bool} {NA NU ME : LL} {ct : Int}, okV k s sg bg NA NU ME BA ct = true → 1 ≤ depthV k ME BA := by
  intro BA
  induction h : rowsDep BA using Nat.strongRecOn generalizing BA with
  | _ n ih =>
    intro k s sg bg NA NU ME ct hk
    by_cases k4 : k = 4
    · subst k4
      rw [fold4 fun x hx => (okV_top (okV_mem hk x hx)).2]
      have := fold_ge (f := fun x => depthV (nth x 2).int (nth x 8).list (nth x 9).list) (l := ME) (b := 0)
      omega
    by_cases k5 : k = 5
    · subst k5
      obtain ⟨hb, ho⟩ := okV_base hk
      have h1 := ih _ (by rw [← h]; exact pos_row hb 7) rfl ho
      have h2 := (okV_top ho).2
      rw [depth5 hb, wrap64 (by omega) (by omega)]
      omega
    rw [depth_else k4 k5]
    omega
theorem okV_isize : ∀ {BA : LL} {k s : Int} {sg bg : Bool} {NA NU ME : LL} {ct : Int}, okV k s sg bg NA NU ME BA ct = true → isizeV k s BA ct = sizeV k s BA ct ∧ isizeC k BA = true := by
  intro BA
  induction h : rowsDep BA using Nat.strongRecOn generalizing BA with
  | _ n ih =>
    intro k s sg bg NA NU ME ct hk
    rw [isizeV, isizeC, sizeV]
    cases h3 : (k == 3) with
    | true =>
      have : k = 3 := by simpa using h3
      subst this
      rw [okV_3, Bool.and_eq_true] at hk
      have hk := hk.1
      simp only [enumV, Bool.and_eq_true, beq_iff_eq] at hk
      have hb : 0 < BA.length := by omega
      have h1 := hk.2.2.2.2.2.1
      simp only [Bool.true_or, cond_true, dif_pos hb]
      rw [h1, isizeV, isizeC]
      exact ⟨rfl, rfl⟩
    | false =>
      cases h5 : (k == 5) with
      | true =>
        have : k = 5 := by simpa using h5
        subst this
        obtain ⟨hb, ho⟩ := okV_base hk
        have h1 := ih _ (by rw [← h]; exact pos_row hb 7) rfl ho
        simp only [Bool.false_or, cond_true, cond_false, dif_pos hb]
        rw [h1.1, h1.2]
        exact ⟨rfl, rfl⟩
      | false => exact ⟨rfl, rfl⟩
theorem endI_eq {ME : LL} (h : ∀ x, x ∈ ME → okV (nth x 2).int (nth x 3).int (nth x 4).bool (nth x 5).bool (nth x 6).list (nth x 7).list (nth x 8).list (nth x 9).list (nth x 10).int = true) : ∀ {j : Nat}, j ≤ ME.length → endI ME j = endAt ME j
  | 0, _ => rfl
  | j + 1, hj => by
    rw [endI, endAt, (okV_isize (h (row ME (j : Int)) (by rw [row_nat]; exact mem_getD (by omega)))).1]
def numP (NU : LL) (lo hi i : Int) : Bool := inB (intAt NU i) lo hi && ascB NU i
theorem inB_iff {n lo hi : Int} : inB n lo hi = true ↔ lo ≤ n ∧ n ≤ hi := by
  unfold inB
  cases h : decide (n ≥ lo) with
  | true => have := of_decide_eq_true h; simp only [cond_true, decide_eq_true_eq]; omega
  | false => have := of_decide_eq_false h; simp only [cond_false]; constructor <;> intro h <;> first | (cases h; done) | omega
theorem size_else {k s : Int} {BA : LL} {ct : Int} (h3 : k ≠ 3) (h5 : k ≠ 5) : sizeV k s BA ct = s := by
  have e3 : (k == 3) = false := by simpa using h3
  have e5 : (k == 5) = false := by simpa using h5
  rw [sizeV]
  simp only [e3, e5, cond_false]
theorem size3 {s : Int} {BA : LL} {ct : Int} : sizeV 3 s BA ct = (nth (row BA (0 : Int)) 1).int := by rw [sizeV]; rfl
theorem has4_le {s : Int} (h : has4 s = true) : s ≤ 8 := by
  unfold has4 at h
  simp only [Bool.or_eq_true, beq_iff_eq] at h
  omega
theorem intV_le {s : Int} {sg bg : Bool} {NA NU ME BA : LL} {ct : Int} (h : intV s sg bg NA NU ME BA ct = true) : s ≤ 8 := by
  simp only [intV, Bool.and_eq_true] at h
  exact has4_le h.1.1.1
theorem valid_1 {s : Int} {sg bg : Bool} {NA NU ME BA : LL} {ct d : Int} (hd : 1 ≤ d) : validV 1 s sg bg NA NU ME BA ct d = intV s sg bg NA NU ME BA ct := by
  unfold validV
  rw [okV_1, depth_else (by decide) (by decide), size_else (by decide) (by decide), decide_eq_true hd]
  cases h : intV s sg bg NA NU ME BA ct with
  | false => rfl
  | true => have := intV_le h; rw [decide_eq_true (show s ≤ 24 by omega)]; rfl
theorem pure1 {s : Int} {sg bg : Bool} {NA NU ME BA : LL} {ct d : Int} (hd : 1 ≤ d) : (bif !(sameV 1 s sg bg NA NU ME BA ct 1 s sg bg [] [] [] [] 0) then false else (has4 s && (!((s == 8) && !sg) && !((s == 1) && bg)))) = validV 1 s sg bg NA NU ME BA ct d := by
  rw [valid_1 hd]
  unfold intV sameV empt
  simp only [eqL_nil, beq_self_eq_true, Bool.true_and, bif_nf]
  ac_rfl
theorem valid_2 {s : Int} {sg bg : Bool} {NA NU ME BA : LL} {ct d : Int} (hd : 1 ≤ d) : validV 2 s sg bg NA NU ME BA ct d = (inB s 1 16 && bareV sg bg NA NU ME BA ct) := by
  unfold validV
  rw [okV_2, depth_else (by decide) (by decide), size_else (by decide) (by decide), decide_eq_true hd]
  cases h : inB s 1 16 with
  | false => rfl
  | true => have := inB_iff.1 h; rw [decide_eq_true (show s ≤ 24 by omega)]; simp
theorem valid_6 {s : Int} {sg bg : Bool} {NA NU ME BA : LL} {ct d : Int} (hd : 1 ≤ d) : validV 6 s sg bg NA NU ME BA ct d = ((s == 2) && bareV sg bg NA NU ME BA ct) := by
  unfold validV
  rw [okV_6, depth_else (by decide) (by decide), size_else (by decide) (by decide), decide_eq_true hd]
  cases h : (s == 2) with
  | false => rfl
  | true => have := beq_iff_eq.1 h; rw [decide_eq_true (show s ≤ 24 by omega)]; simp
theorem pureB {k s : Int} {b sg bg : Bool} {NA NU ME BA : LL} {ct : Int} : (bif !(sameV k s sg bg NA NU ME BA ct k s false false [] [] [] [] 0) then false else b) = (b && bareV sg bg NA NU ME BA ct) := by
  unfold sameV bareV plain empt
  simp only [eqL_nil, beq_self_eq_true, Bool.true_and, bif_nf, beq_false]
  ac_rfl
theorem len0 {A : LL} : (!decide ((A.length : Int) > 0)) = ((A.length : Int) == 0) := by
  rw [Bool.eq_iff_iff]; simp
theorem pure3 {s : Int} {sg bg : Bool} {NA NU ME BA : LL} {ct d : Int} (hd : 1 ≤ d) : (bif !(sameV 3 s sg bg NA NU ME BA ct 3 0 false false NA NU [] BA 0) then false else (((BA.length : Int) == 1) && (((nth (row BA (0 : Int)) 0).int == 1) && (validV (nth (row BA (0 : Int)) 0).int (nth (row BA (0 : Int)) 1).int (nth (row BA (0 : Int)) 2).bool (nth (row BA (0 : Int)) 3).bool (nth (row BA (0 : Int)) 4).list (nth (row BA (0 : Int)) 5).list (nth (row BA (0 : Int)) 6).list (nth (row BA (0 : Int)) 7).list (nth (row BA (0 : Int)) 8).int 1 && (allI (fun i : Nat => numP NU (loV (nth (row BA (0 : Int)) 1).int (nth (row BA (0 : Int)) 2).bool) (hiV (nth (row BA (0 : Int)) 1).int (nth (row BA (0 : Int)) 2).bool) (i : Int)) NU.length && (inB (NU.length : Int) 1 6 && (((NA.length : Int) == (NU.length : Int)) && allI (fun i : Nat => dnP NA (i : Int)) NA.length))))))) = validV 3 s sg bg NA NU ME BA ct d := by
  show _ = (okV 3 s sg bg NA NU ME BA ct && decide (depthV 3 ME BA ≤ d))
  rw [okV_3, depth_else (k := 3) (by decide) (by decide), decide_eq_true hd, size3]
  unfold sameV enumV plain
  simp only [eqL_nil, eqL_refl, beq_self_eq_true, Bool.true_and, Bool.and_true, bif_nf, beq_false, len0]
  cases hk : ((nth (row BA (0 : Int)) 0).int == 1) with
  | false => simp only [Bool.false_and, Bool.and_false]
  | true =>
    rw [show validV (nth (row BA (0 : Int)) 0).int (nth (row BA (0 : Int)) 1).int (nth (row BA (0 : Int)) 2).bool (nth (row BA (0 : Int)) 3).bool (nth (row BA (0 : Int)) 4).list (nth (row BA (0 : Int)) 5).list (nth (row BA (0 : Int)) 6).list (nth (row BA (0 : Int)) 7).list (nth (row BA (0 : Int)) 8).int 1 = intV (nth (row BA (0 : Int)) 1).int (nth (row BA (0 : Int)) 2).bool (nth (row BA (0 : Int)) 3).bool (nth (row BA (0 : Int)) 4).list (nth (row BA (0 : Int)) 5).list (nth (row BA (0 : Int)) 6).list (nth (row BA (0 : Int)) 7).list (nth (row BA (0 : Int)) 8).int from by rw [beq_iff_eq.1 hk]; exact valid_1 (by omega)]
    cases hI : intV (nth (row BA (0 : Int)) 1).int (nth (row BA (0 : Int)) 2).bool (nth (row BA (0 : Int)) 3).bool (nth (row BA (0 : Int)) 4).list (nth (row BA (0 : Int)) 5).list (nth (row BA (0 : Int)) 6).list (nth (row BA (0 : Int)) 7).list (nth (row BA (0 : Int)) 8).int with
    | false => simp only [Bool.false_and, Bool.and_false]
    | true =>
      have hs := intV_le hI
      rw [decide_eq_true (show (nth (row BA (0 : Int)) 1).int ≤ 24 by omega)]
      rw [Bool.eq_iff_iff]
      simp only [Bool.true_and, Bool.and_true, Bool.and_eq_true, beq_iff_eq, inB_iff, allI_iff, Bool.not_eq_true', decide_eq_false_iff_not, show decide ((1 : Int) ≤ 3) = true from rfl]
      constructor
      · rintro ⟨⟨a1, a2, a3, a4, a5⟩, a6, a7, ⟨a8, a9⟩, a10, a11⟩
        refine ⟨a1, ⟨a2, a3⟩, a5, a4, a6, by omega, by omega, a10.symm, fun i hi => ?_⟩
        have n1 := a7 i (by omega)
        have n2 := a11 i hi
        simp only [numP, dnP, Bool.and_eq_true] at n1 n2
        simp only [enumP, Bool.and_eq_true]
        exact ⟨⟨⟨n2.1, n1.1⟩, n1.2⟩, n2.2⟩
      · rintro ⟨a1, ⟨a2, a3⟩, a5, a4, a6, a7, a8, a9, a10⟩
        refine ⟨⟨a1, a2, a3, a4, a5⟩, a6, fun i hi => ?_, ⟨by omega, by omega⟩, a9.symm, fun i hi => ?_⟩
        · have n := a10 i (by omega)
          simp only [enumP, Bool.and_eq_true] at n
          simp only [numP, Bool.and_eq_true]
          exact ⟨n.1.1.2, n.1.2⟩
        · have n := a10 i hi
          simp only [enumP, Bool.and_eq_true] at n
          simp only [dnP, Bool.and_eq_true]
          exact ⟨n.1.1.1, n.2⟩
theorem pure4 {s : Int} {sg bg : Bool} {NA NU ME BA : LL} {ct d : Int} (hd : 1 ≤ d) (hd3 : d ≤ 3) : (bif !(sameV 4 s sg bg NA NU ME BA ct 4 s false false [] [] ME [] 0) then false else (inB s 1 24 && (inB (ME.length : Int) 1 4 && ((allI (memI ME) ME.length && ME.all fun x => validV (nth x 2).int (nth x 3).int (nth x 4).bool (nth x 5).bool (nth x 6).list (nth x 7).list (nth x 8).list (nth x 9).list (nth x 10).int (d - 1)) && (decide (endI ME ME.length ≤ s) && allI (fun i : Nat => dnP ME (i : Int)) ME.length))))) = validV 4 s sg bg NA NU ME BA ct d := by
  unfold validV
  rw [okV_4, size_else (by decide) (by decide)]
  unfold sameV compS plain
  simp only [eqL_nil, eqL_refl, beq_self_eq_true, Bool.true_and, Bool.and_true, bif_nf, beq_false, len0]
  rw [Bool.eq_iff_iff]
  simp only [Bool.true_and, Bool.and_true, Bool.and_eq_true, beq_iff_eq, inB_iff, allI_iff, Bool.not_eq_true', decide_eq_false_iff_not, decide_eq_true_eq, List.all_eq_true]
  constructor
  · rintro ⟨⟨a1, a2, a3, a4, a5, a6⟩, ⟨a7, a8⟩, ⟨a9, a10⟩, ⟨a11, a12⟩, a13, a14⟩
    have hok : ∀ x, x ∈ ME → okV (nth x 2).int (nth x 3).int (nth x 4).bool (nth x 5).bool (nth x 6).list (nth x 7).list (nth x 8).list (nth x 9).list (nth x 10).int = true := fun x hx => (a12 x hx).1
    have hf : depthV 4 ME BA ≤ d := by
      rw [fold4 fun x hx => (okV_top (hok x hx)).2]
      have := (fold_max (f := fun x => depthV (nth x 2).int (nth x 8).list (nth x 9).list) (c := d - 1) (l := ME) (b := 0)).2 ⟨by omega, fun x hx => (a12 x hx).2⟩
      omega
    refine ⟨⟨⟨⟨⟨a7, a8⟩, ⟨a1, a2⟩, a4, a5, a6, a3, by omega, by omega⟩, ⟨fun i hi => ?_, hok⟩, by rw [← endI_eq hok (Nat.le_refl _)]; exact a13⟩, a8, by omega⟩, hf⟩
    have n1 := a11 i hi
    have n2 := a14 i hi
    simp only [memI, dnP, Bool.and_eq_true, endI_eq hok (Nat.le_of_lt hi)] at n1 n2
    simp only [memP, Bool.and_eq_true]
    exact ⟨n2.1, n1.1, n1.2, n2.2⟩
  · rintro ⟨⟨⟨⟨⟨a7, a8⟩, ⟨a1, a2⟩, a4, a5, a6, a3, a9, a10⟩, ⟨a11, hok⟩, a13⟩, a15, a16⟩, hf⟩
    have hd' : ∀ x, x ∈ ME → depthV (nth x 2).int (nth x 8).list (nth x 9).list ≤ d - 1 := by
      rw [fold4 fun x hx => (okV_top (hok x hx)).2] at hf
      exact ((fold_max (f := fun x => depthV (nth x 2).int (nth x 8).list (nth x 9).list) (c := d - 1) (l := ME) (b := 0)).1 (by omega)).2
    refine ⟨⟨a1, a2, a3, a4, a5, a6⟩, ⟨a7, a8⟩, ⟨by omega, by omega⟩, ⟨fun i hi => ?_, fun x hx => ⟨hok x hx, hd' x hx⟩⟩, by rw [endI_eq hok (Nat.le_refl _)]; exact a13, fun i hi => ?_⟩
    · have n := a11 i hi
      simp only [memP, Bool.and_eq_true] at n
      simp only [memI, Bool.and_eq_true, endI_eq hok (Nat.le_of_lt hi)]
      exact ⟨n.2.1, n.2.2.1⟩
    · have n := a11 i hi
      simp only [memP, Bool.and_eq_true] at n
      simp only [dnP, Bool.and_eq_true]
      exact ⟨n.1, n.2.2.2⟩
theorem pure5 {s : Int} {sg bg : Bool} {NA NU ME BA : LL} {ct d : Int} (hd : 1 ≤ d) (hd3 : d ≤ 3) : (bif !(sameV 5 s sg bg NA NU ME BA ct 5 0 false false [] [] [] BA ct) then false else (inB ct 1 4 && (((BA.length : Int) == 1) && (validV (nth (row BA (0 : Int)) 0).int (nth (row BA (0 : Int)) 1).int (nth (row BA (0 : Int)) 2).bool (nth (row BA (0 : Int)) 3).bool (nth (row BA (0 : Int)) 4).list (nth (row BA (0 : Int)) 5).list (nth (row BA (0 : Int)) 6).list (nth (row BA (0 : Int)) 7).list (nth (row BA (0 : Int)) 8).int (d - 1) && decide (isizeV 5 s BA ct ≤ 24))))) = validV 5 s sg bg NA NU ME BA ct d := by
  cases hb : ((BA.length : Int) == 1) with
  | false =>
    unfold validV
    rw [okV_5]
    unfold arrS
    rw [hb]
    simp only [Bool.false_and, Bool.and_false, bif_nf]
  | true =>
    have hb0 : 0 < BA.length := by have := beq_iff_eq.1 hb; omega
    cases ho : okV (nth (row BA (0 : Int)) 0).int (nth (row BA (0 : Int)) 1).int (nth (row BA (0 : Int)) 2).bool (nth (row BA (0 : Int)) 3).bool (nth (row BA (0 : Int)) 4).list (nth (row BA (0 : Int)) 5).list (nth (row BA (0 : Int)) 6).list (nth (row BA (0 : Int)) 7).list (nth (row BA (0 : Int)) 8).int with
    | false =>
      have e1 : validV (nth (row BA (0 : Int)) 0).int (nth (row BA (0 : Int)) 1).int (nth (row BA (0 : Int)) 2).bool (nth (row BA (0 : Int)) 3).bool (nth (row BA (0 : Int)) 4).list (nth (row BA (0 : Int)) 5).list (nth (row BA (0 : Int)) 6).list (nth (row BA (0 : Int)) 7).list (nth (row BA (0 : Int)) 8).int (d - 1) = false := by unfold validV; rw [ho]; rfl
      have e2 : validV 5 s sg bg NA NU ME BA ct d = false := by
        unfold validV
        rw [okV_5, dif_pos hb0, ho]
        simp only [Bool.and_false, Bool.false_and]
      rw [e1, e2]
      simp only [Bool.false_and, Bool.and_false, bif_nf]
    | true =>
      have hi := okV_isize ho
      have hsz : isizeV 5 s BA ct = sizeV 5 s BA ct := by
        rw [isizeV, sizeV]
        show (if h : 0 < BA.length then IntKind.wrap .i64 (ct * isizeV (nth (row BA (0 : Int)) 0).int (nth (row BA (0 : Int)) 1).int (nth (row BA (0 : Int)) 7).list (nth (row BA (0 : Int)) 8).int) else 0) = (if h : 0 < BA.length then IntKind.wrap .i64 (ct * sizeV (nth (row BA (0 : Int)) 0).int (nth (row BA (0 : Int)) 1).int (nth (row BA (0 : Int)) 7).list (nth (row BA (0 : Int)) 8).int) else 0)
        rw [dif_pos hb0, dif_pos hb0, hi.1]
      have ht := okV_top ho
      have hp := okV_pos ho
      unfold validV
      rw [okV_5, dif_pos hb0, ho, hsz, depth5 hb0, wrap64 (by omega) (by omega)]
      unfold sameV arrS plain
      simp only [eqL_nil, eqL_refl, beq_self_eq_true, Bool.true_and, Bool.and_true, bif_nf, beq_false, len0, hb]
      rw [show decide (depthV (nth (row BA (0 : Int)) 0).int (nth (row BA (0 : Int)) 6).list (nth (row BA (0 : Int)) 7).list + 1 ≤ d) = decide (depthV (nth (row BA (0 : Int)) 0).int (nth (row BA (0 : Int)) 6).list (nth (row BA (0 : Int)) 7).list ≤ d - 1) from by rw [Bool.eq_iff_iff]; simp only [decide_eq_true_eq]; omega]
      rw [Bool.eq_iff_iff]
      simp only [Bool.and_eq_true, decide_eq_true_eq]
      constructor
      · rintro ⟨⟨a1, a2, a3, a4, a5, a6⟩, a7, a8, a9⟩
        exact ⟨⟨⟨a1, ⟨a2, a3⟩, a4, a5, a6, a7⟩, a9, by omega⟩, a8⟩
      · rintro ⟨⟨⟨a1, ⟨a2, a3⟩, a4, a5, a6, a7⟩, a9, a10⟩, a8⟩
        exact ⟨⟨a1, a2, a3, a4, a5, a6⟩, a7, a8, a9⟩
theorem okV_int {s : Int} {sg bg : Bool} {NA NU ME BA : LL} {ct : Int} (h : okV 1 s sg bg NA NU ME BA ct = true) : intV s sg bg NA NU ME BA ct = true := by
  rw [okV_1, Bool.and_eq_true] at h
  exact h.1
def memNo (A : LL) (nm : BS) : Bool := A.all fun x => !((nth x 0).str == nm)
def memIx (A : LL) (nm : BS) : Nat := A.findIdx fun x => !(!((nth x 0).str == nm))
theorem memIx_lt {A : LL} {nm : BS} (h : memNo A nm = false) : memIx A nm < A.length := by
  unfold memNo at h
  unfold memIx
  rw [List.findIdx_lt_length]
  obtain ⟨x, hx, hp⟩ := List.all_eq_false.1 h
  exact ⟨x, hx, by simpa using hp⟩
def numE (k : Int) : Bool := bif k == 1 then true else k == 3
noncomputable def canV (k : Int) (ME BA : LL) (ct k2 : Int) (ME2 BA2 : LL) (ct2 : Int) : Bool :=
  bif numE k || numE k2 then numE k && numE k2
  else bif !(k == k2) then false
  else bif k == 5 then (if h : 0 < BA2.length then (ct == ct2) && canV (nth (row BA (0 : Int)) 0).int (nth (row BA (0 : Int)) 6).list (nth (row BA (0 : Int)) 7).list (nth (row BA (0 : Int)) 8).int (nth (row BA2 (0 : Int)) 0).int (nth (row BA2 (0 : Int)) 6).list (nth (row BA2 (0 : Int)) 7).list (nth (row BA2 (0 : Int)) 8).int else false)
  else ME2.attach.all fun y => memNo ME (nth y.1 0).str || canV (nth (row ME ((memIx ME (nth y.1 0).str : Nat) : Int)) 2).int (nth (row ME ((memIx ME (nth y.1 0).str : Nat) : Int)) 8).list (nth (row ME ((memIx ME (nth y.1 0).str : Nat) : Int)) 9).list (nth (row ME ((memIx ME (nth y.1 0).str : Nat) : Int)) 10).int (nth y.1 2).int (nth y.1 8).list (nth y.1 9).list (nth y.1 10).int
termination_by max (rowsDep ME2) (rowsDep BA2)
decreasing_by
  · exact dep_base h 6 7
  · exact dep_max y.2 8 9
theorem attach_can {ME ME2 : LL} : (ME2.attach.all fun y => memNo ME (nth y.1 0).str || canV (nth (row ME ((memIx ME (nth y.1 0).str : Nat) : Int)) 2).int (nth (row ME ((memIx ME (nth y.1 0).str : Nat) : Int)) 8).list (nth (row ME ((memIx ME (nth y.1 0).str : Nat) : Int)) 9).list (nth (row ME ((memIx ME (nth y.1 0).str : Nat) : Int)) 10).int (nth y.1 2).int (nth y.1 8).list (nth y.1 9).list (nth y.1 10).int) = ME2.all fun y => memNo ME (nth y 0).str || canV (nth (row ME ((memIx ME (nth y 0).str : Nat) : Int)) 2).int (nth (row ME ((memIx ME (nth y 0).str : Nat) : Int)) 8).list (nth (row ME ((memIx ME (nth y 0).str : Nat) : Int)) 9).list (nth (row ME ((memIx ME (nth y 0).str : Nat) : Int)) 10).int (nth y 2).int (nth y 8).list (nth y 9).list (nth y 10).int := attach_all (p := fun y => memNo ME (nth y 0).str || canV (nth (row ME ((memIx ME (nth y 0).str : Nat) : Int)) 2).int (nth (row ME ((memIx ME (nth y 0).str : Nat) : Int)) 8).list (nth (row ME ((memIx ME (nth y 0).str : Nat) : Int)) 9).list (nth (row ME ((memIx ME (nth y 0).str : Nat) : Int)) 10).int (nth y 2).int (nth y 8).list (nth y 9).list (nth y 10).int)
theorem okV_me {k s : Int} {sg bg : Bool} {NA NU ME BA : LL} {ct : Int} (h : okV k s sg bg NA NU ME BA ct = true) : ME.length ≤ 4 ∧ ∀ x, x ∈ ME → okV (nth x 2).int (nth x 3).int (nth x 4).bool (nth x 5).bool (nth x 6).list (nth x 7).list (nth x 8).list (nth x 9).list (nth x 10).int = true := by
  have nil : ME.length = 0 → ME.length ≤ 4 ∧ ∀ x, x ∈ ME → okV (nth x 2).int (nth x 3).int (nth x 4).bool (nth x 5).bool (nth x 6).list (nth x 7).list (nth x 8).list (nth x 9).list (nth x 10).int = true := fun h => by
    have := List.eq_nil_of_length_eq_zero h
    subst this
    exact ⟨by simp, fun x hx => by cases hx⟩
  rcases okV_kind h with rfl | rfl | rfl | rfl | rfl | rfl
  · have := okV_int h
    simp only [intV, empt, Bool.and_eq_true, beq_iff_eq] at this
    exact nil (by omega)
  · rw [okV_2] at h
    simp only [bareV, empt, Bool.and_eq_true, beq_iff_eq] at h
    exact nil (by omega)
  · rw [okV_3] at h
    simp only [enumV, Bool.and_eq_true, beq_iff_eq, Bool.not_eq_true', decide_eq_false_iff_not] at h
    exact nil (by omega)
  · have h2 := okV_mem h
    rw [okV_4] at h
    simp only [Bool.and_eq_true, compS, Bool.not_eq_true', decide_eq_false_iff_not] at h
    exact ⟨by omega, h2⟩
  · rw [okV_5] at h
    simp only [arrS, Bool.and_eq_true, beq_iff_eq, Bool.not_eq_true', decide_eq_false_iff_not] at h
    exact nil (by omega)
  · rw [okV_6] at h
    simp only [bareV, empt, Bool.and_eq_true, beq_iff_eq] at h
    exact nil (by omega)
theorem len_9 {α : Type} {l : List α} (h : l.length = 9) : ∃ a0 a1 a2 a3 a4 a5 a6 a7 a8, l = [a0, a1, a2, a3, a4, a5, a6, a7, a8] := by
  match l, h with
  | [a0, a1, a2, a3, a4, a5, a6, a7, a8], _ => exact ⟨a0, a1, a2, a3, a4, a5, a6, a7, a8, rfl⟩
abbrev ql_5_σ := LL × Int × Int
abbrev ql_5_ω := (Int) ⊕ (Int)
noncomputable def ql_5_step (A : LL) (left i : Int) : Tr (ql_5_σ ⊕ ql_5_ω) := (.ite ((decide (i < (A.length : Int))) = true) (.ite ((0 : Int) ≤ i ∧ i < (A.length : Int)) (.ite ((decide ((IntKind.wrap .i64 (left - (((nth (row A i) 0).str).length : Int))) < (0 : Int))) = true) (.ok (.inr (.inl (IntKind.wrap .i64 (left - (((nth (row A i) 0).str).length : Int))))))
    (.ok (.inl (A, (IntKind.wrap .i64 (left - (((nth (row A i) 0).str).length : Int))), (IntKind.wrap .i64 (i + (1 : Int)))))))
   .no)
  (.ok (.inr (.inr left))))
noncomputable def ql_5_st : ql_5_σ → Tr (ql_5_σ ⊕ ql_5_ω) := fun x => (ql_5_step (x.1) (x.2.1) (x.2.2))
noncomputable def ql_k5_1 (A : LL) (left i : Int) : Bool := isL (loopN ql_5_st (A.length + 1) (A, left, i))
noncomputable def ql_o5_2 (A : LL) (left i : Int) : Bool := is (i = 0 ∧ Typed tab (.slice 9) (.l A))
noncomputable def ql_u5_2 (A : LL) (left i : Int) : Int := getL (loopN ql_5_st (A.length + 1) (A, left, i))
noncomputable def ql_o5_3 (A : LL) (left i : Int) : Bool := is (i = 0 ∧ Typed tab (.slice 9) (.l A))
noncomputable def ql_u5_3 (A : LL) (left i : Int) : Int := getR (loopN ql_5_st (A.length + 1) (A, left, i))
noncomputable def ql_5_fin (A : LL) (left i : Int) : Told ql_5_ω := (.br (ql_k5_1 A left i) (.leaf (ql_o5_2 A left i) (.inl (ql_u5_2 A left i))) (.leaf (ql_o5_3 A left i) (.inr (ql_u5_3 A left i))))
def ql_5_sl (x : ql_5_σ) : List Slot := [⟨.val false [⟨.slice 9, .sh, TC.l (x.1)⟩], ⟨0, 0⟩⟩, ⟨.val false [⟨.int .i64, .sh, TC.i (x.2.1)⟩], ⟨0, 0⟩⟩, ⟨.val false [⟨.int .i64, .sh, TC.i (x.2.2)⟩], ⟨0, 0⟩⟩]
def ql_5_out : ql_5_ω → Ex × List Slot := (Sum.elim (fun x => (.ret, [⟨.val false [⟨.int .i64, .sh, TC.i x⟩], ⟨0, 0⟩⟩, ⟨.val false [⟨.int .i64, .sh, TC.i (-1 : Int)⟩], ⟨0, 0⟩⟩])) (fun x => (.exit 0, [⟨.val false [⟨.int .i64, .sh, TC.i x⟩], ⟨0, 0⟩⟩, Slot.none])))
noncomputable def ql_lo5 : List Slot → Option (Told (Ex × List Slot)) := fun s => match s with
  | [⟨.val false [⟨.slice 9, .sh, TC.l A⟩], ⟨0, 0⟩⟩, ⟨.val false [⟨.int .i64, .sh, TC.i left⟩], ⟨0, 0⟩⟩, ⟨.val false [⟨.int .i64, .sh, TC.i i⟩], ⟨0, 0⟩⟩] => some (((ql_5_fin A left i)).map ql_5_out)
  | _ => .none
noncomputable def ql_lo : LoopTeller := fun r s => bif Nat.beq r 5 then ql_lo5 s else .none
theorem ql_5_r (A : LL) (left i : Int) (fuel : Nat) : rounds (rnd tab FT D0 live 26 ql_lo 0 5) leave (fuel + 1) (ql_5_sl (A, left, i)) = ((ql_5_step A left i)).run (goOn (fun s => rounds (rnd tab FT D0 live 26 ql_lo 0 5) leave fuel (ql_5_sl s)) fun w => some (ql_5_out w)) := by kernel_rfl
theorem ql_5_h (A : LL) (left i : Int) (ow : ql_5_ω) : ((ql_5_fin A left i)).val = some ow → ∃ fuel, loopN ql_5_st fuel (A, left, i) = some ow := by
  refine auto_two (N := A.length + 1) rfl rfl rfl ?_
  intro ho
  have ho : is (i = 0 ∧ Typed tab (.slice 9) (.l A)) = true := ho.elim id id
  obtain ⟨rfl, ht⟩ := is_iff.1 ho
  have hlen : A.length ≤ 140737488351232 := by have := typed_room ht; simp only [show (tab 9).bytes = 16 from rfl] at this; omega
  refine loopN_ends (step := ql_5_st) (N := A.length) (fun i a => (A, a, (i : Int))) (fun i a hi => ?_) (fun a => ?_) A.length 0 left (by omega)
  · show (∃ a', (ql_5_step A a (i : Int)).val = _) ∨ ∃ w, (ql_5_step A a (i : Int)).val = _
    have c0 : Typed tab (.str) (.s (nth (A.getD i []) 0).str) := typed_s (typed_cell ht (A.getD i []) (mem_getD hi) 0 (by decide))
    cases hneg : ((decide ((IntKind.wrap .i64 (a - (((nth (row A i) 0).str).length : Int))) < (0 : Int))))
    · apply Or.inl
      apply Exists.intro
      · unfold ql_5_step
        refine Tr.t (by simp; omega) ?_
        refine Tr.t (by first | omega | (constructor <;> omega)) ?_
        refine Tr.n (by rw [hneg]; simp) ?_
        rw [Tr.val_ok, wrap64 (i := (i : Int) + 1) (by omega) (by omega)]; rfl
    · apply Or.inr
      apply Exists.intro
      · unfold ql_5_step
        refine Tr.t (by simp; omega) ?_
        refine Tr.t (by first | omega | (constructor <;> omega)) ?_
        refine Tr.t hneg ?_
        rfl
  · apply Exists.intro
    · show (ql_5_step A a (A.length : Int)).val = _
      refine Tr.n (by simp) ?_
      rfl
theorem ql_is5 : LoopIs tab FT D0 live 26 ql_lo 0 5 := by
  refine loop_told (sl := ql_5_sl) (step := ql_5_st) (out := ql_5_out) (lor := ql_lo5) (fin := fun x => (ql_5_fin (x.1) (x.2.1) (x.2.2))) (fun _ => rfl) ?_ (fun x n => ql_5_r x.1 x.2.1 x.2.2 n) (fun x ow => ql_5_h x.1 x.2.1 x.2.2 ow)
  intro s t h
  unfold ql_lo5 at h
  split at h
  · cases h; exact ⟨(_, _, _), rfl, rfl⟩
  · cases h
noncomputable def ql_t (A : LL) (left : Int) : Tr (Int) := (.ite ((decide ((IntKind.wrap .i64 (left - (A.length : Int))) < (0 : Int))) = true) (.ok (-1 : Int))
  (.ite ((ql_k5_1 A (IntKind.wrap .i64 (left - (A.length : Int))) (0 : Int)) = true) (.ite ((ql_o5_2 A (IntKind.wrap .i64 (left - (A.length : Int))) (0 : Int)) = true) (.ok (-1 : Int))
    .no)
   (.ite ((ql_o5_3 A (IntKind.wrap .i64 (left - (A.length : Int))) (0 : Int)) = true) (.ok (ql_u5_3 A (IntKind.wrap .i64 (left - (A.length : Int))) (0 : Int)))
    .no)))
def ql_mk (p : Int) : Res := [(false, [⟨.int .i64, .sh, TC.i p⟩])]
noncomputable def ql_c (A : LL) (left : Int) : Bool := (bif (decide ((IntKind.wrap .i64 (left - (A.length : Int))) < (0 : Int))) then true else (bif (ql_k5_1 A (IntKind.wrap .i64 (left - (A.length : Int))) (0 : Int)) then ((ql_o5_2 A (IntKind.wrap .i64 (left - (A.length : Int))) (0 : Int)) && true) else ((ql_o5_3 A (IntKind.wrap .i64 (left - (A.length : Int))) (0 : Int)) && true)))
noncomputable def ql_v (A : LL) (left : Int) : Int := (bif (decide ((IntKind.wrap .i64 (left - (A.length : Int))) < (0 : Int))) then (-1 : Int) else (bif (ql_k5_1 A (IntKind.wrap .i64 (left - (A.length : Int))) (0 : Int)) then (-1 : Int) else (ql_u5_3 A (IntKind.wrap .i64 (left - (A.length : Int))) (0 : Int))))
theorem ql_l (A : LL) (left : Int) : (ql_c A left) = true → (ql_t A left).val = some (ql_v A left) := by
  unfold ql_t ql_v ql_c
  exact fun h => (Tr.ss h (fun h => rfl) (fun h => (Tr.ss h (fun h => (Tr.gb h fun h => rfl)) (fun h => (Tr.gb h fun h => rfl)))))
noncomputable def ql_S : List Arg → Option (Bool × Res) := fun xs => match xs with
  | [(false, [(.slice 9, TC.l A)]), (false, [(.int .i64, TC.i left)])] => some ((ql_c A left), ql_mk (ql_v A left))
  | _ => .none
theorem ql_e (A : LL) (left : Int) : runF tab FT D0 live 26 ql_lo [(false, [(.slice 9, TC.l A)]), (false, [(.int .i64, TC.i left)])] = (ql_t A left).run fun p => some (ql_mk p) := by kernel_rfl
theorem ql_s : ∀ xs r, ql_S xs = some (true, r) → runF tab FT D0 live 26 ql_lo xs = some r := by
  intro xs r h
  unfold ql_S at h
  split at h
  · simp only [Option.some.injEq, Prod.mk.injEq] at h
    obtain ⟨h1, rfl⟩ := h
    exact fun_told (ql_e _ _) (ql_l _ _) h1
  · cases h
noncomputable def D1 : Dt := also D0 26 ql_S
theorem d1 : DOk Go.Proofs.Try.prog tab D1 := d0.also mixed_ok tab_ok names_ok (fnLoops_one (by kernel_rfl) ql_is5) ql_s
theorem ql_cc {A : LL} {left : Int} (ht : Typed tab (.slice 9) (.l A)) : (ql_c A left) = true := by
  unfold ql_c
  refine bifT (fun b1 => ?_) (fun b1 => ?_)
  · skip
    rfl
  · skip
    refine bifT (fun b2 => ?_) (fun b2 => ?_)
    · skip
      refine andT (by exact is_true ⟨rfl, ht⟩) ?_
      rfl
    · skip
      refine andT (by exact is_true ⟨rfl, ht⟩) ?_
      rfl
noncomputable def qci_t (a0 : LL) (a1 : Int) : Tr (Int) := (.ite ((decide ((IntKind.wrap .i64 (a1 - (a0.length : Int))) < (0 : Int))) = true) (.ok (-1 : Int))
  (.ok (IntKind.wrap .i64 (a1 - (a0.length : Int)))))
def qci_mk (p : Int) : Res := [(false, [⟨.int .i64, .sh, TC.i p⟩])]
noncomputable def qci_c (a0 : LL) (a1 : Int) : Bool := true
noncomputable def qci_v (a0 : LL) (a1 : Int) : Int := (bif (decide ((IntKind.wrap .i64 (a1 - (a0.length : Int))) < (0 : Int))) then (-1 : Int) else (IntKind.wrap .i64 (a1 - (a0.length : Int))))
theorem qci_l (a0 : LL) (a1 : Int) : (qci_c a0 a1) = true → (qci_t a0 a1).val = some (qci_v a0 a1) := by
  intro h
  skip
  unfold qci_t qci_v
  exact (Tr.s rfl rfl)
noncomputable def qci_S : List Arg → Option (Bool × Res) := fun xs => match xs with
  | [(false, [(.slice 2, TC.l a0)]), (false, [(.int .i64, TC.i a1)])] => some (true, qci_mk (qci_v a0 a1))
  | _ => .none
theorem qci_e (a0 : LL) (a1 : Int) : runF tab FT D1 live 27 noLoops [(false, [(.slice 2, TC.l a0)]), (false, [(.int .i64, TC.i a1)])] = (qci_t a0 a1).run fun p => some (qci_mk p) := by kernel_rfl
theorem qci_s : ∀ xs r, qci_S xs = some (true, r) → runF tab FT D1 live 27 noLoops xs = some r := by
  intro xs r h
  unfold qci_S at h
  split at h
  · simp only [Option.some.injEq, Prod.mk.injEq] at h
    obtain ⟨h1, rfl⟩ := h
    exact fun_told (qci_e _ _) (qci_l _ _) rfl
  · cases h
noncomputable def D2 : Dt := also D1 27 qci_S
theorem d2 : DOk Go.Proofs.Try.prog tab D2 := d1.also mixed_ok tab_ok names_ok noLoops_ok qci_s
section
class qbh_O where R : (Int) → (Int) → (Bool) → (Bool) → (LL) → (LL) → (LL) → (LL) → (Int) → (Int) → Bool × (Int)
variable [i_laws_szType : qbh_O]
def qbh_rc (x0 x1 : Int) (x2 x3 : Bool) (x4 x5 x6 x7 : LL) (x8 x9 : Int) : Bool := ((qbh_O.R x0 x1 x2 x3 x4 x5 x6 x7 x8 x9)).1
def qbh_rv (x0 x1 : Int) (x2 x3 : Bool) (x4 x5 x6 x7 : LL) (x8 x9 : Int) : Int := ((qbh_O.R x0 x1 x2 x3 x4 x5 x6 x7 x8 x9)).2
def qbh_rmk (p : Int) : Res := [(false, [⟨.int .i64, .sh, TC.i p⟩])]
noncomputable def qbh_rS : List Arg → Option (Bool × Res) := fun xs => match xs with
  | [(true, [(.int .i64, TC.i x0), (.int .i64, TC.i x1), (.bool, TC.b x2), (.bool, TC.b x3), (.slice 9, TC.l x4), (.slice 2, TC.l x5), (.slice 67, TC.l x6), (.slice 27, TC.l x7), (.int .i64, TC.i x8)]), (false, [(.int .i64, TC.i x9)])] => some ((qbh_rc x0 x1 x2 x3 x4 x5 x6 x7 x8 x9), qbh_rmk (qbh_rv x0 x1 x2 x3 x4 x5 x6 x7 x8 x9))
  | _ => .none
noncomputable def D3 : Dt := also D2 9 qbh_rS
class qbh_G : Prop where ok : DOk Go.Proofs.Try.prog tab D3
variable [g_laws_szType : qbh_G]
theorem d3 : DOk Go.Proofs.Try.prog tab D3 := qbh_G.ok
noncomputable def qbb_t (x0 : BS) (x1 x2 x3 : Int) (x4 x5 : Bool) (x6 x7 x8 x9 : LL) (x10 x11 : Int) : Tr (Int) := (.ite ((decide ((IntKind.wrap .i64 (x11 - (x0.length : Int))) < (0 : Int))) = true) (.ok (-1 : Int))
  (.ite ((qbh_rc x2 x3 x4 x5 x6 x7 x8 x9 x10 (IntKind.wrap .i64 (x11 - (x0.length : Int)))) = true) (.ite ((decide ((qbh_rv x2 x3 x4 x5 x6 x7 x8 x9 x10 (IntKind.wrap .i64 (x11 - (x0.length : Int)))) < (0 : Int))) = true) (.ok (-1 : Int))
    (.ok (qbh_rv x2 x3 x4 x5 x6 x7 x8 x9 x10 (IntKind.wrap .i64 (x11 - (x0.length : Int))))))
   .no))
def qbb_mk (p : Int) : Res := [(false, [⟨.int .i64, .sh, TC.i p⟩])]
noncomputable def qbb_c (x0 : BS) (x1 x2 x3 : Int) (x4 x5 : Bool) (x6 x7 x8 x9 : LL) (x10 x11 : Int) : Bool := (bif (decide ((IntKind.wrap .i64 (x11 - (x0.length : Int))) < (0 : Int))) then true else ((qbh_rc x2 x3 x4 x5 x6 x7 x8 x9 x10 (IntKind.wrap .i64 (x11 - (x0.length : Int)))) && (bif (decide ((qbh_rv x2 x3 x4 x5 x6 x7 x8 x9 x10 (IntKind.wrap .i64 (x11 - (x0.length : Int)))) < (0 : Int))) then true else true)))
noncomputable def qbb_v (x0 : BS) (x1 x2 x3 : Int) (x4 x5 : Bool) (x6 x7 x8 x9 : LL) (x10 x11 : Int) : Int := (bif (decide ((IntKind.wrap .i64 (x11 - (x0.length : Int))) < (0 : Int))) then (-1 : Int) else (bif (decide ((qbh_rv x2 x3 x4 x5 x6 x7 x8 x9 x10 (IntKind.wrap .i64 (x11 - (x0.length : Int)))) < (0 : Int))) then (-1 : Int) else (qbh_rv x2 x3 x4 x5 x6 x7 x8 x9 x10 (IntKind.wrap .i64 (x11 - (x0.length : Int))))))
theorem qbb_l (x0 : BS) (x1 x2 x3 : Int) (x4 x5 : Bool) (x6 x7 x8 x9 : LL) (x10 x11 : Int) : (qbb_c x0 x1 x2 x3 x4 x5 x6 x7 x8 x9 x10 x11) = true → (qbb_t x0 x1 x2 x3 x4 x5 x6 x7 x8 x9 x10 x11).val = some (qbb_v x0 x1 x2 x3 x4 x5 x6 x7 x8 x9 x10 x11) := by
  unfold qbb_t qbb_v qbb_c
  exact fun h => (Tr.ss h (fun h => rfl) (fun h => (Tr.gb h fun h => (Tr.ss h (fun h => rfl) (fun h => rfl)))))
noncomputable def qbb_S : List Arg → Option (Bool × Res) := fun xs => match xs with
  | [(true, [(.str, TC.s x0), (.int .i64, TC.i x1), (.int .i64, TC.i x2), (.int .i64, TC.i x3), (.bool, TC.b x4), (.bool, TC.b x5), (.slice 9, TC.l x6), (.slice 2, TC.l x7), (.slice 67, TC.l x8), (.slice 27, TC.l x9), (.int .i64, TC.i x10)]), (false, [(.int .i64, TC.i x11)])] => some ((qbb_c x0 x1 x2 x3 x4 x5 x6 x7 x8 x9 x10 x11), qbb_mk (qbb_v x0 x1 x2 x3 x4 x5 x6 x7 x8 x9 x10 x11))
  | _ => .none
theorem qbb_e (x0 : BS) (x1 x2 x3 : Int) (x4 x5 : Bool) (x6 x7 x8 x9 : LL) (x10 x11 : Int) : runF tab FT D3 live 62 noLoops [(true, [(.str, TC.s x0), (.int .i64, TC.i x1), (.int .i64, TC.i x2), (.int .i64, TC.i x3), (.bool, TC.b x4), (.bool, TC.b x5), (.slice 9, TC.l x6), (.slice 2, TC.l x7), (.slice 67, TC.l x8), (.slice 27, TC.l x9), (.int .i64, TC.i x10)]), (false, [(.int .i64, TC.i x11)])] = (qbb_t x0 x1 x2 x3 x4 x5 x6 x7 x8 x9 x10 x11).run fun p => some (qbb_mk p) := by kernel_rfl
theorem qbb_s : ∀ xs r, qbb_S xs = some (true, r) → runF tab FT D3 live 62 noLoops xs = some r := by
  intro xs r h
  unfold qbb_S at h
  split at h
  · simp only [Option.some.injEq, Prod.mk.injEq] at h
    obtain ⟨h1, rfl⟩ := h
    exact fun_told (qbb_e _ _ _ _ _ _ _ _ _ _ _ _) (qbb_l _ _ _ _ _ _ _ _ _ _ _ _) h1
  · cases h
noncomputable def D4 : Dt := also D3 62 qbb_S
theorem d4 : DOk Go.Proofs.Try.prog tab D4 := d3.also mixed_ok tab_ok names_ok noLoops_ok qbb_s
theorem qbb_cc {x0 : BS} {x1 : Int} {x2 : Int} {x3 : Int} {x4 : Bool} {x5 : Bool} {x6 : LL} {x7 : LL} {x8 : LL} {x9 : LL} {x10 : Int} {x11 : Int} (t6 : Typed tab (.slice 9) (.l x6)) (t7 : Typed tab (.slice 2) (.l x7)) (t8 : Typed tab (.slice 67) (.l x8)) (t9 : Typed tab (.slice 27) (.l x9)) (h0 : (∀ left : Int, qbh_rc x2 x3 x4 x5 x6 x7 x8 x9 x10 left = true)) : (qbb_c x0 x1 x2 x3 x4 x5 x6 x7 x8 x9 x10 x11) = true := by
  unfold qbb_c
  refine bifT (fun b1 => ?_) (fun b1 => ?_)
  · skip
    rfl
  · skip
    refine andT (by exact h0 _) ?_
    refine bifT (fun b2 => ?_) (fun b2 => ?_)
    · skip
      rfl
    · skip
      rfl
abbrev qm_5_σ := LL × Int × Int
abbrev qm_5_ω := (Int) ⊕ (Int)
noncomputable def qm_5_step (A : LL) (left i : Int) : Tr (qm_5_σ ⊕ qm_5_ω) := (.ite ((decide (i < (A.length : Int))) = true) (.ite ((0 : Int) ≤ i ∧ i < (A.length : Int)) (.ite ((qbb_c ((nth (row A i) 0).str) ((nth (row A i) 1).int) ((nth (row A i) 2).int) ((nth (row A i) 3).int) ((nth (row A i) 4).bool) ((nth (row A i) 5).bool) ((nth (row A i) 6).list) ((nth (row A i) 7).list) ((nth (row A i) 8).list) ((nth (row A i) 9).list) ((nth (row A i) 10).int) left) = true) (.ite ((decide ((qbb_v ((nth (row A i) 0).str) ((nth (row A i) 1).int) ((nth (row A i) 2).int) ((nth (row A i) 3).int) ((nth (row A i) 4).bool) ((nth (row A i) 5).bool) ((nth (row A i) 6).list) ((nth (row A i) 7).list) ((nth (row A i) 8).list) ((nth (row A i) 9).list) ((nth (row A i) 10).int) left) < (0 : Int))) = true) (.ok (.inr (.inl (qbb_v ((nth (row A i) 0).str) ((nth (row A i) 1).int) ((nth (row A i) 2).int) ((nth (row A i) 3).int) ((nth (row A i) 4).bool) ((nth (row A i) 5).bool) ((nth (row A i) 6).list) ((nth (row A i) 7).list) ((nth (row A i) 8).list) ((nth (row A i) 9).list) ((nth (row A i) 10).int) left))))
     (.ok (.inl (A, (qbb_v ((nth (row A i) 0).str) ((nth (row A i) 1).int) ((nth (row A i) 2).int) ((nth (row A i) 3).int) ((nth (row A i) 4).bool) ((nth (row A i) 5).bool) ((nth (row A i) 6).list) ((nth (row A i) 7).list) ((nth (row A i) 8).list) ((nth (row A i) 9).list) ((nth (row A i) 10).int) left), (IntKind.wrap .i64 (i + (1 : Int)))))))
    .no)
   .no)
  (.ok (.inr (.inr left))))
noncomputable def qm_5_st : qm_5_σ → Tr (qm_5_σ ⊕ qm_5_ω) := fun x => (qm_5_step (x.1) (x.2.1) (x.2.2))
noncomputable def qm_k5_1 (A : LL) (left i : Int) : Bool := isL (loopN qm_5_st (A.length + 1) (A, left, i))
noncomputable def qm_o5_2 (A : LL) (left i : Int) : Bool := is (i = 0 ∧ Typed tab (.slice 67) (.l A) ∧ (∀ x : List TC, x ∈ A → ∀ left : Int, (qbb_c ((nth x 0).str) ((nth x 1).int) ((nth x 2).int) ((nth x 3).int) ((nth x 4).bool) ((nth x 5).bool) ((nth x 6).list) ((nth x 7).list) ((nth x 8).list) ((nth x 9).list) ((nth x 10).int) left) = true))
noncomputable def qm_u5_2 (A : LL) (left i : Int) : Int := getL (loopN qm_5_st (A.length + 1) (A, left, i))
noncomputable def qm_o5_3 (A : LL) (left i : Int) : Bool := is (i = 0 ∧ Typed tab (.slice 67) (.l A) ∧ (∀ x : List TC, x ∈ A → ∀ left : Int, (qbb_c ((nth x 0).str) ((nth x 1).int) ((nth x 2).int) ((nth x 3).int) ((nth x 4).bool) ((nth x 5).bool) ((nth x 6).list) ((nth x 7).list) ((nth x 8).list) ((nth x 9).list) ((nth x 10).int) left) = true))
noncomputable def qm_u5_3 (A : LL) (left i : Int) : Int := getR (loopN qm_5_st (A.length + 1) (A, left, i))
noncomputable def qm_5_fin (A : LL) (left i : Int) : Told qm_5_ω := (.br (qm_k5_1 A left i) (.leaf (qm_o5_2 A left i) (.inl (qm_u5_2 A left i))) (.leaf (qm_o5_3 A left i) (.inr (qm_u5_3 A left i))))
def qm_5_sl (x : qm_5_σ) : List Slot := [⟨.val false [⟨.slice 67, .sh, TC.l (x.1)⟩], ⟨0, 0⟩⟩, ⟨.val false [⟨.int .i64, .sh, TC.i (x.2.1)⟩], ⟨0, 0⟩⟩, ⟨.val false [⟨.int .i64, .sh, TC.i (x.2.2)⟩], ⟨0, 0⟩⟩]
def qm_5_out : qm_5_ω → Ex × List Slot := (Sum.elim (fun x => (.ret, [⟨.val false [⟨.int .i64, .sh, TC.i x⟩], ⟨0, 0⟩⟩, ⟨.val false [⟨.int .i64, .sh, TC.i (-1 : Int)⟩], ⟨0, 0⟩⟩])) (fun x => (.exit 0, [⟨.val false [⟨.int .i64, .sh, TC.i x⟩], ⟨0, 0⟩⟩, Slot.none])))
noncomputable def qm_lo5 : List Slot → Option (Told (Ex × List Slot)) := fun s => match s with
  | [⟨.val false [⟨.slice 67, .sh, TC.l A⟩], ⟨0, 0⟩⟩, ⟨.val false [⟨.int .i64, .sh, TC.i left⟩], ⟨0, 0⟩⟩, ⟨.val false [⟨.int .i64, .sh, TC.i i⟩], ⟨0, 0⟩⟩] => some (((qm_5_fin A left i)).map qm_5_out)
  | _ => .none
noncomputable def qm_lo : LoopTeller := fun r s => bif Nat.beq r 5 then qm_lo5 s else .none
theorem qm_5_r (A : LL) (left i : Int) (fuel : Nat) : rounds (rnd tab FT D4 live 28 qm_lo 0 5) leave (fuel + 1) (qm_5_sl (A, left, i)) = ((qm_5_step A left i)).run (goOn (fun s => rounds (rnd tab FT D4 live 28 qm_lo 0 5) leave fuel (qm_5_sl s)) fun w => some (qm_5_out w)) := by kernel_rfl
theorem qm_5_h (A : LL) (left i : Int) (ow : qm_5_ω) : ((qm_5_fin A left i)).val = some ow → ∃ fuel, loopN qm_5_st fuel (A, left, i) = some ow := by
  refine auto_two (N := A.length + 1) rfl rfl rfl ?_
  intro ho
  have ho : is (i = 0 ∧ Typed tab (.slice 67) (.l A) ∧ (∀ x : List TC, x ∈ A → ∀ left : Int, (qbb_c ((nth x 0).str) ((nth x 1).int) ((nth x 2).int) ((nth x 3).int) ((nth x 4).bool) ((nth x 5).bool) ((nth x 6).list) ((nth x 7).list) ((nth x 8).list) ((nth x 9).list) ((nth x 10).int) left) = true)) = true := ho.elim id id
  obtain ⟨rfl, ht, hr0⟩ := is_iff.1 ho
  have hlen : A.length ≤ 140737488351232 := by have := typed_room ht; simp only [show (tab 67).bytes = 152 from rfl] at this; omega
  refine loopN_ends (step := qm_5_st) (N := A.length) (fun i a => (A, a, (i : Int))) (fun i a hi => ?_) (fun a => ?_) A.length 0 left (by omega)
  · show (∃ a', (qm_5_step A a (i : Int)).val = _) ∨ ∃ w, (qm_5_step A a (i : Int)).val = _
    have c0 : Typed tab (.str) (.s (nth (A.getD i []) 0).str) := typed_s (typed_cell ht (A.getD i []) (mem_getD hi) 0 (by decide))
    have c6 : Typed tab (.slice 9) (.l (nth (A.getD i []) 6).list) := typed_list (typed_cell ht (A.getD i []) (mem_getD hi) 6 (by decide))
    have c7 : Typed tab (.slice 2) (.l (nth (A.getD i []) 7).list) := typed_list (typed_cell ht (A.getD i []) (mem_getD hi) 7 (by decide))
    have c8 : Typed tab (.slice 67) (.l (nth (A.getD i []) 8).list) := typed_list (typed_cell ht (A.getD i []) (mem_getD hi) 8 (by decide))
    have c9 : Typed tab (.slice 27) (.l (nth (A.getD i []) 9).list) := typed_list (typed_cell ht (A.getD i []) (mem_getD hi) 9 (by decide))
    cases hneg : ((decide ((qbb_v ((nth (row A i) 0).str) ((nth (row A i) 1).int) ((nth (row A i) 2).int) ((nth (row A i) 3).int) ((nth (row A i) 4).bool) ((nth (row A i) 5).bool) ((nth (row A i) 6).list) ((nth (row A i) 7).list) ((nth (row A i) 8).list) ((nth (row A i) 9).list) ((nth (row A i) 10).int) a) < (0 : Int))))
    · apply Or.inl
      apply Exists.intro
      · unfold qm_5_step
        refine Tr.t (by simp; omega) ?_
        refine Tr.t (by first | omega | (constructor <;> omega)) ?_
        refine Tr.t (hr0 (A.getD i []) (mem_getD hi) a) ?_
        refine Tr.n (by rw [hneg]; simp) ?_
        rw [Tr.val_ok, wrap64 (i := (i : Int) + 1) (by omega) (by omega)]; rfl
    · apply Or.inr
      apply Exists.intro
      · unfold qm_5_step
        refine Tr.t (by simp; omega) ?_
        refine Tr.t (by first | omega | (constructor <;> omega)) ?_
        refine Tr.t (hr0 (A.getD i []) (mem_getD hi) a) ?_
        refine Tr.t hneg ?_
        rfl
  · apply Exists.intro
    · show (qm_5_step A a (A.length : Int)).val = _
      refine Tr.n (by simp) ?_
      rfl
theorem qm_is5 : LoopIs tab FT D4 live 28 qm_lo 0 5 := by
  refine loop_told (sl := qm_5_sl) (step := qm_5_st) (out := qm_5_out) (lor := qm_lo5) (fin := fun x => (qm_5_fin (x.1) (x.2.1) (x.2.2))) (fun _ => rfl) ?_ (fun x n => qm_5_r x.1 x.2.1 x.2.2 n) (fun x ow => qm_5_h x.1 x.2.1 x.2.2 ow)
  intro s t h
  unfold qm_lo5 at h
  split at h
  · cases h; exact ⟨(_, _, _), rfl, rfl⟩
  · cases h
noncomputable def qm_t (A : LL) (left : Int) : Tr (Int) := (.ite ((decide ((IntKind.wrap .i64 (left - (A.length : Int))) < (0 : Int))) = true) (.ok (-1 : Int))
  (.ite ((qm_k5_1 A (IntKind.wrap .i64 (left - (A.length : Int))) (0 : Int)) = true) (.ite ((qm_o5_2 A (IntKind.wrap .i64 (left - (A.length : Int))) (0 : Int)) = true) (.ok (-1 : Int))
    .no)
   (.ite ((qm_o5_3 A (IntKind.wrap .i64 (left - (A.length : Int))) (0 : Int)) = true) (.ok (qm_u5_3 A (IntKind.wrap .i64 (left - (A.length : Int))) (0 : Int)))
    .no)))
def qm_mk (p : Int) : Res := [(false, [⟨.int .i64, .sh, TC.i p⟩])]
noncomputable def qm_c (A : LL) (left : Int) : Bool := (bif (decide ((IntKind.wrap .i64 (left - (A.length : Int))) < (0 : Int))) then true else (bif (qm_k5_1 A (IntKind.wrap .i64 (left - (A.length : Int))) (0 : Int)) then ((qm_o5_2 A (IntKind.wrap .i64 (left - (A.length : Int))) (0 : Int)) && true) else ((qm_o5_3 A (IntKind.wrap .i64 (left - (A.length : Int))) (0 : Int)) && true)))
noncomputable def qm_v (A : LL) (left : Int) : Int := (bif (decide ((IntKind.wrap .i64 (left - (A.length : Int))) < (0 : Int))) then (-1 : Int) else (bif (qm_k5_1 A (IntKind.wrap .i64 (left - (A.length : Int))) (0 : Int)) then (-1 : Int) else (qm_u5_3 A (IntKind.wrap .i64 (left - (A.length : Int))) (0 : Int))))
theorem qm_l (A : LL) (left : Int) : (qm_c A left) = true → (qm_t A left).val = some (qm_v A left) := by
  unfold qm_t qm_v qm_c
  exact fun h => (Tr.ss h (fun h => rfl) (fun h => (Tr.ss h (fun h => (Tr.gb h fun h => rfl)) (fun h => (Tr.gb h fun h => rfl)))))
noncomputable def qm_S : List Arg → Option (Bool × Res) := fun xs => match xs with
  | [(false, [(.slice 67, TC.l A)]), (false, [(.int .i64, TC.i left)])] => some ((qm_c A left), qm_mk (qm_v A left))
  | _ => .none
theorem qm_e (A : LL) (left : Int) : runF tab FT D4 live 28 qm_lo [(false, [(.slice 67, TC.l A)]), (false, [(.int .i64, TC.i left)])] = (qm_t A left).run fun p => some (qm_mk p) := by kernel_rfl
theorem qm_s : ∀ xs r, qm_S xs = some (true, r) → runF tab FT D4 live 28 qm_lo xs = some r := by
  intro xs r h
  unfold qm_S at h
  split at h
  · simp only [Option.some.injEq, Prod.mk.injEq] at h
    obtain ⟨h1, rfl⟩ := h
    exact fun_told (qm_e _ _) (qm_l _ _) h1
  · cases h
noncomputable def D5 : Dt := also D4 28 qm_S
theorem d5 : DOk Go.Proofs.Try.prog tab D5 := d4.also mixed_ok tab_ok names_ok (fnLoops_one (by kernel_rfl) qm_is5) qm_s
theorem qm_cc {A : LL} {left : Int} (ht : Typed tab (.slice 67) (.l A)) (hr0 : (∀ x : List TC, x ∈ A → ∀ left : Int, (qbb_c ((nth x 0).str) ((nth x 1).int) ((nth x 2).int) ((nth x 3).int) ((nth x 4).bool) ((nth x 5).bool) ((nth x 6).list) ((nth x 7).list) ((nth x 8).list) ((nth x 9).list) ((nth x 10).int) left) = true)) : (qm_c A left) = true := by
  unfold qm_c
  refine bifT (fun b1 => ?_) (fun b1 => ?_)
  · skip
    rfl
  · skip
    refine bifT (fun b2 => ?_) (fun b2 => ?_)
    · skip
      refine andT (by exact is_true ⟨rfl, ht, hr0⟩) ?_
      rfl
    · skip
      refine andT (by exact is_true ⟨rfl, ht, hr0⟩) ?_
      rfl
abbrev qq_5_σ := LL × Int × Int
abbrev qq_5_ω := (Int) ⊕ (Int)
noncomputable def qq_5_step (A : LL) (left i : Int) : Tr (qq_5_σ ⊕ qq_5_ω) := (.ite ((decide (i < (A.length : Int))) = true) (.ite ((0 : Int) ≤ i ∧ i < (A.length : Int)) (.ite ((qbh_rc ((nth (row A i) 0).int) ((nth (row A i) 1).int) ((nth (row A i) 2).bool) ((nth (row A i) 3).bool) ((nth (row A i) 4).list) ((nth (row A i) 5).list) ((nth (row A i) 6).list) ((nth (row A i) 7).list) ((nth (row A i) 8).int) left) = true) (.ite ((decide ((qbh_rv ((nth (row A i) 0).int) ((nth (row A i) 1).int) ((nth (row A i) 2).bool) ((nth (row A i) 3).bool) ((nth (row A i) 4).list) ((nth (row A i) 5).list) ((nth (row A i) 6).list) ((nth (row A i) 7).list) ((nth (row A i) 8).int) left) < (0 : Int))) = true) (.ok (.inr (.inl (qbh_rv ((nth (row A i) 0).int) ((nth (row A i) 1).int) ((nth (row A i) 2).bool) ((nth (row A i) 3).bool) ((nth (row A i) 4).list) ((nth (row A i) 5).list) ((nth (row A i) 6).list) ((nth (row A i) 7).list) ((nth (row A i) 8).int) left))))
     (.ok (.inl (A, (qbh_rv ((nth (row A i) 0).int) ((nth (row A i) 1).int) ((nth (row A i) 2).bool) ((nth (row A i) 3).bool) ((nth (row A i) 4).list) ((nth (row A i) 5).list) ((nth (row A i) 6).list) ((nth (row A i) 7).list) ((nth (row A i) 8).int) left), (IntKind.wrap .i64 (i + (1 : Int)))))))
    .no)
   .no)
  (.ok (.inr (.inr left))))
noncomputable def qq_5_st : qq_5_σ → Tr (qq_5_σ ⊕ qq_5_ω) := fun x => (qq_5_step (x.1) (x.2.1) (x.2.2))
noncomputable def qq_k5_1 (A : LL) (left i : Int) : Bool := isL (loopN qq_5_st (A.length + 1) (A, left, i))
noncomputable def qq_o5_2 (A : LL) (left i : Int) : Bool := is (i = 0 ∧ Typed tab (.slice 27) (.l A) ∧ (∀ x : List TC, x ∈ A → ∀ left : Int, (qbh_rc ((nth x 0).int) ((nth x 1).int) ((nth x 2).bool) ((nth x 3).bool) ((nth x 4).list) ((nth x 5).list) ((nth x 6).list) ((nth x 7).list) ((nth x 8).int) left) = true))
noncomputable def qq_u5_2 (A : LL) (left i : Int) : Int := getL (loopN qq_5_st (A.length + 1) (A, left, i))
noncomputable def qq_o5_3 (A : LL) (left i : Int) : Bool := is (i = 0 ∧ Typed tab (.slice 27) (.l A) ∧ (∀ x : List TC, x ∈ A → ∀ left : Int, (qbh_rc ((nth x 0).int) ((nth x 1).int) ((nth x 2).bool) ((nth x 3).bool) ((nth x 4).list) ((nth x 5).list) ((nth x 6).list) ((nth x 7).list) ((nth x 8).int) left) = true))
noncomputable def qq_u5_3 (A : LL) (left i : Int) : Int := getR (loopN qq_5_st (A.length + 1) (A, left, i))
noncomputable def qq_5_fin (A : LL) (left i : Int) : Told qq_5_ω := (.br (qq_k5_1 A left i) (.leaf (qq_o5_2 A left i) (.inl (qq_u5_2 A left i))) (.leaf (qq_o5_3 A left i) (.inr (qq_u5_3 A left i))))
def qq_5_sl (x : qq_5_σ) : List Slot := [⟨.val false [⟨.slice 27, .sh, TC.l (x.1)⟩], ⟨0, 0⟩⟩, ⟨.val false [⟨.int .i64, .sh, TC.i (x.2.1)⟩], ⟨0, 0⟩⟩, ⟨.val false [⟨.int .i64, .sh, TC.i (x.2.2)⟩], ⟨0, 0⟩⟩]
def qq_5_out : qq_5_ω → Ex × List Slot := (Sum.elim (fun x => (.ret, [⟨.val false [⟨.int .i64, .sh, TC.i x⟩], ⟨0, 0⟩⟩, ⟨.val false [⟨.int .i64, .sh, TC.i (-1 : Int)⟩], ⟨0, 0⟩⟩])) (fun x => (.exit 0, [⟨.val false [⟨.int .i64, .sh, TC.i x⟩], ⟨0, 0⟩⟩, Slot.none])))
noncomputable def qq_lo5 : List Slot → Option (Told (Ex × List Slot)) := fun s => match s with
  | [⟨.val false [⟨.slice 27, .sh, TC.l A⟩], ⟨0, 0⟩⟩, ⟨.val false [⟨.int .i64, .sh, TC.i left⟩], ⟨0, 0⟩⟩, ⟨.val false [⟨.int .i64, .sh, TC.i i⟩], ⟨0, 0⟩⟩] => some (((qq_5_fin A left i)).map qq_5_out)
  | _ => .none
noncomputable def qq_lo : LoopTeller := fun r s => bif Nat.beq r 5 then qq_lo5 s else .none
theorem qq_5_r (A : LL) (left i : Int) (fuel : Nat) : rounds (rnd tab FT D5 live 29 qq_lo 0 5) leave (fuel + 1) (qq_5_sl (A, left, i)) = ((qq_5_step A left i)).run (goOn (fun s => rounds (rnd tab FT D5 live 29 qq_lo 0 5) leave fuel (qq_5_sl s)) fun w => some (qq_5_out w)) := by kernel_rfl
theorem qq_5_h (A : LL) (left i : Int) (ow : qq_5_ω) : ((qq_5_fin A left i)).val = some ow → ∃ fuel, loopN qq_5_st fuel (A, left, i) = some ow := by
  refine auto_two (N := A.length + 1) rfl rfl rfl ?_
  intro ho
  have ho : is (i = 0 ∧ Typed tab (.slice 27) (.l A) ∧ (∀ x : List TC, x ∈ A → ∀ left : Int, (qbh_rc ((nth x 0).int) ((nth x 1).int) ((nth x 2).bool) ((nth x 3).bool) ((nth x 4).list) ((nth x 5).list) ((nth x 6).list) ((nth x 7).list) ((nth x 8).int) left) = true)) = true := ho.elim id id
  obtain ⟨rfl, ht, hr0⟩ := is_iff.1 ho
  have hlen : A.length ≤ 140737488351232 := by have := typed_room ht; simp only [show (tab 27).bytes = 128 from rfl] at this; omega
  refine loopN_ends (step := qq_5_st) (N := A.length) (fun i a => (A, a, (i : Int))) (fun i a hi => ?_) (fun a => ?_) A.length 0 left (by omega)
  · show (∃ a', (qq_5_step A a (i : Int)).val = _) ∨ ∃ w, (qq_5_step A a (i : Int)).val = _
    have c4 : Typed tab (.slice 9) (.l (nth (A.getD i []) 4).list) := typed_list (typed_cell ht (A.getD i []) (mem_getD hi) 4 (by decide))
    have c5 : Typed tab (.slice 2) (.l (nth (A.getD i []) 5).list) := typed_list (typed_cell ht (A.getD i []) (mem_getD hi) 5 (by decide))
    have c6 : Typed tab (.slice 67) (.l (nth (A.getD i []) 6).list) := typed_list (typed_cell ht (A.getD i []) (mem_getD hi) 6 (by decide))
    have c7 : Typed tab (.slice 27) (.l (nth (A.getD i []) 7).list) := typed_list (typed_cell ht (A.getD i []) (mem_getD hi) 7 (by decide))
    cases hneg : ((decide ((qbh_rv ((nth (row A i) 0).int) ((nth (row A i) 1).int) ((nth (row A i) 2).bool) ((nth (row A i) 3).bool) ((nth (row A i) 4).list) ((nth (row A i) 5).list) ((nth (row A i) 6).list) ((nth (row A i) 7).list) ((nth (row A i) 8).int) a) < (0 : Int))))
    · apply Or.inl
      apply Exists.intro
      · unfold qq_5_step
        refine Tr.t (by simp; omega) ?_
        refine Tr.t (by first | omega | (constructor <;> omega)) ?_
        refine Tr.t (hr0 (A.getD i []) (mem_getD hi) a) ?_
        refine Tr.n (by rw [hneg]; simp) ?_
        rw [Tr.val_ok, wrap64 (i := (i : Int) + 1) (by omega) (by omega)]; rfl
    · apply Or.inr
      apply Exists.intro
      · unfold qq_5_step
        refine Tr.t (by simp; omega) ?_
        refine Tr.t (by first | omega | (constructor <;> omega)) ?_
        refine Tr.t (hr0 (A.getD i []) (mem_getD hi) a) ?_
        refine Tr.t hneg ?_
        rfl
  · apply Exists.intro
    · show (qq_5_step A a (A.length : Int)).val = _
      refine Tr.n (by simp) ?_
      rfl
theorem qq_is5 : LoopIs tab FT D5 live 29 qq_lo 0 5 := by
  refine loop_told (sl := qq_5_sl) (step := qq_5_st) (out := qq_5_out) (lor := qq_lo5) (fin := fun x => (qq_5_fin (x.1) (x.2.1) (x.2.2))) (fun _ => rfl) ?_ (fun x n => qq_5_r x.1 x.2.1 x.2.2 n) (fun x ow => qq_5_h x.1 x.2.1 x.2.2 ow)
  intro s t h
  unfold qq_lo5 at h
  split at h
  · cases h; exact ⟨(_, _, _), rfl, rfl⟩
  · cases h
noncomputable def qq_t (A : LL) (left : Int) : Tr (Int) := (.ite ((decide ((IntKind.wrap .i64 (left - (A.length : Int))) < (0 : Int))) = true) (.ok (-1 : Int))
  (.ite ((qq_k5_1 A (IntKind.wrap .i64 (left - (A.length : Int))) (0 : Int)) = true) (.ite ((qq_o5_2 A (IntKind.wrap .i64 (left - (A.length : Int))) (0 : Int)) = true) (.ok (-1 : Int))
    .no)
   (.ite ((qq_o5_3 A (IntKind.wrap .i64 (left - (A.length : Int))) (0 : Int)) = true) (.ok (qq_u5_3 A (IntKind.wrap .i64 (left - (A.length : Int))) (0 : Int)))
    .no)))
def qq_mk (p : Int) : Res := [(false, [⟨.int .i64, .sh, TC.i p⟩])]
noncomputable def qq_c (A : LL) (left : Int) : Bool := (bif (decide ((IntKind.wrap .i64 (left - (A.length : Int))) < (0 : Int))) then true else (bif (qq_k5_1 A (IntKind.wrap .i64 (left - (A.length : Int))) (0 : Int)) then ((qq_o5_2 A (IntKind.wrap .i64 (left - (A.length : Int))) (0 : Int)) && true) else ((qq_o5_3 A (IntKind.wrap .i64 (left - (A.length : Int))) (0 : Int)) && true)))
noncomputable def qq_v (A : LL) (left : Int) : Int := (bif (decide ((IntKind.wrap .i64 (left - (A.length : Int))) < (0 : Int))) then (-1 : Int) else (bif (qq_k5_1 A (IntKind.wrap .i64 (left - (A.length : Int))) (0 : Int)) then (-1 : Int) else (qq_u5_3 A (IntKind.wrap .i64 (left - (A.length : Int))) (0 : Int))))
theorem qq_l (A : LL) (left : Int) : (qq_c A left) = true → (qq_t A left).val = some (qq_v A left) := by
  unfold qq_t qq_v qq_c
  exact fun h => (Tr.ss h (fun h => rfl) (fun h => (Tr.ss h (fun h => (Tr.gb h fun h => rfl)) (fun h => (Tr.gb h fun h => rfl)))))
noncomputable def qq_S : List Arg → Option (Bool × Res) := fun xs => match xs with
  | [(false, [(.slice 27, TC.l A)]), (false, [(.int .i64, TC.i left)])] => some ((qq_c A left), qq_mk (qq_v A left))
  | _ => .none
theorem qq_e (A : LL) (left : Int) : runF tab FT D5 live 29 qq_lo [(false, [(.slice 27, TC.l A)]), (false, [(.int .i64, TC.i left)])] = (qq_t A left).run fun p => some (qq_mk p) := by kernel_rfl
theorem qq_s : ∀ xs r, qq_S xs = some (true, r) → runF tab FT D5 live 29 qq_lo xs = some r := by
  intro xs r h
  unfold qq_S at h
  split at h
  · simp only [Option.some.injEq, Prod.mk.injEq] at h
    obtain ⟨h1, rfl⟩ := h
    exact fun_told (qq_e _ _) (qq_l _ _) h1
  · cases h
noncomputable def D6 : Dt := also D5 29 qq_S
theorem d6 : DOk Go.Proofs.Try.prog tab D6 := d5.also mixed_ok tab_ok names_ok (fnLoops_one (by kernel_rfl) qq_is5) qq_s
theorem qq_cc {A : LL} {left : Int} (ht : Typed tab (.slice 27) (.l A)) (hr0 : (∀ x : List TC, x ∈ A → ∀ left : Int, (qbh_rc ((nth x 0).int) ((nth x 1).int) ((nth x 2).bool) ((nth x 3).bool) ((nth x 4).list) ((nth x 5).list) ((nth x 6).list) ((nth x 7).list) ((nth x 8).int) left) = true)) : (qq_c A left) = true := by
  unfold qq_c
  refine bifT (fun b1 => ?_) (fun b1 => ?_)
  · skip
    rfl
  · skip
    refine bifT (fun b2 => ?_) (fun b2 => ?_)
    · skip
      refine andT (by exact is_true ⟨rfl, ht, hr0⟩) ?_
      rfl
    · skip
      refine andT (by exact is_true ⟨rfl, ht, hr0⟩) ?_
      rfl
noncomputable def qbh_t (x0 x1 : Int) (x2 x3 : Bool) (x4 x5 x6 x7 : LL) (x8 x9 : Int) : Tr (Int) := (.ite ((ql_c x4 x9) = true) (.ite ((decide ((ql_v x4 x9) < (0 : Int))) = true) (.ok (-1 : Int))
   (.ite ((decide ((qci_v x5 (ql_v x4 x9)) < (0 : Int))) = true) (.ok (-1 : Int))
    (.ite ((qm_c x6 (qci_v x5 (ql_v x4 x9))) = true) (.ite ((decide ((qm_v x6 (qci_v x5 (ql_v x4 x9))) < (0 : Int))) = true) (.ok (-1 : Int))
      (.ite ((qq_c x7 (qm_v x6 (qci_v x5 (ql_v x4 x9)))) = true) (.ite ((decide ((qq_v x7 (qm_v x6 (qci_v x5 (ql_v x4 x9)))) < (0 : Int))) = true) (.ok (-1 : Int))
        (.ok (qq_v x7 (qm_v x6 (qci_v x5 (ql_v x4 x9))))))
       .no))
     .no)))
  .no)
def qbh_mk (p : Int) : Res := [(false, [⟨.int .i64, .sh, TC.i p⟩])]
noncomputable def qbh_c (x0 x1 : Int) (x2 x3 : Bool) (x4 x5 x6 x7 : LL) (x8 x9 : Int) : Bool := ((ql_c x4 x9) && (bif (decide ((ql_v x4 x9) < (0 : Int))) then true else (bif (decide ((qci_v x5 (ql_v x4 x9)) < (0 : Int))) then true else ((qm_c x6 (qci_v x5 (ql_v x4 x9))) && (bif (decide ((qm_v x6 (qci_v x5 (ql_v x4 x9))) < (0 : Int))) then true else ((qq_c x7 (qm_v x6 (qci_v x5 (ql_v x4 x9)))) && (bif (decide ((qq_v x7 (qm_v x6 (qci_v x5 (ql_v x4 x9)))) < (0 : Int))) then true else true)))))))
noncomputable def qbh_v (x0 x1 : Int) (x2 x3 : Bool) (x4 x5 x6 x7 : LL) (x8 x9 : Int) : Int := (bif (decide ((ql_v x4 x9) < (0 : Int))) then (-1 : Int) else (bif (decide ((qci_v x5 (ql_v x4 x9)) < (0 : Int))) then (-1 : Int) else (bif (decide ((qm_v x6 (qci_v x5 (ql_v x4 x9))) < (0 : Int))) then (-1 : Int) else (bif (decide ((qq_v x7 (qm_v x6 (qci_v x5 (ql_v x4 x9)))) < (0 : Int))) then (-1 : Int) else (qq_v x7 (qm_v x6 (qci_v x5 (ql_v x4 x9))))))))
theorem qbh_l (x0 x1 : Int) (x2 x3 : Bool) (x4 x5 x6 x7 : LL) (x8 x9 : Int) : (qbh_c x0 x1 x2 x3 x4 x5 x6 x7 x8 x9) = true → (qbh_t x0 x1 x2 x3 x4 x5 x6 x7 x8 x9).val = some (qbh_v x0 x1 x2 x3 x4 x5 x6 x7 x8 x9) := by
  unfold qbh_t qbh_v qbh_c
  exact fun h => (Tr.gb h fun h => (Tr.ss h (fun h => rfl) (fun h => (Tr.ss h (fun h => rfl) (fun h => (Tr.gb h fun h => (Tr.ss h (fun h => rfl) (fun h => (Tr.gb h fun h => (Tr.ss h (fun h => rfl) (fun h => rfl)))))))))))
theorem qbh_e (x0 x1 : Int) (x2 x3 : Bool) (x4 x5 x6 x7 : LL) (x8 x9 : Int) : runF tab FT D6 live 9 noLoops [(true, [(.int .i64, TC.i x0), (.int .i64, TC.i x1), (.bool, TC.b x2), (.bool, TC.b x3), (.slice 9, TC.l x4), (.slice 2, TC.l x5), (.slice 67, TC.l x6), (.slice 27, TC.l x7), (.int .i64, TC.i x8)]), (false, [(.int .i64, TC.i x9)])] = (qbh_t x0 x1 x2 x3 x4 x5 x6 x7 x8 x9).run fun p => some (qbh_mk p) := by kernel_rfl
noncomputable def qbh_next : (Int) → (Int) → (Bool) → (Bool) → (LL) → (LL) → (LL) → (LL) → (Int) → (Int) → Bool × (Int) := fun x0 x1 x2 x3 x4 x5 x6 x7 x8 x9 => ((qbh_c x0 x1 x2 x3 x4 x5 x6 x7 x8 x9), (qbh_v x0 x1 x2 x3 x4 x5 x6 x7 x8 x9))
theorem qbh_nx (m : Nat) (hR : ∀ (x0 x1 : Int) (x2 x3 : Bool) (x4 x5 x6 x7 : LL) (x8 x9 : Int), max (rowsDep x6) (rowsDep x7) < m ∧ Typed tab (.slice 9) (.l x4) ∧ Typed tab (.slice 2) (.l x5) ∧ Typed tab (.slice 67) (.l x6) ∧ Typed tab (.slice 27) (.l x7) → (qbh_rc x0 x1 x2 x3 x4 x5 x6 x7 x8 x9) = true) (x0 x1 : Int) (x2 x3 : Bool) (x4 x5 x6 x7 : LL) (x8 x9 : Int) : max (rowsDep x6) (rowsDep x7) < (m + 1) ∧ Typed tab (.slice 9) (.l x4) ∧ Typed tab (.slice 2) (.l x5) ∧ Typed tab (.slice 67) (.l x6) ∧ Typed tab (.slice 27) (.l x7) → (qbh_c x0 x1 x2 x3 x4 x5 x6 x7 x8 x9) = true := by
  intro h
  obtain ⟨hM, t4, t5, t6, t7⟩ := h
  unfold qbh_c
  refine andT (by exact ql_cc t4) ?_
  refine bifT (fun b1 => ?_) (fun b1 => ?_)
  · skip
    rfl
  · skip
    refine bifT (fun b2 => ?_) (fun b2 => ?_)
    · skip
      rfl
    · skip
      refine andT (by exact qm_cc t6 (fun x hx left => qbb_cc (typed_list ((typed_elem t6 hx).2 6 (by decide))) (typed_list ((typed_elem t6 hx).2 7 (by decide))) (typed_list ((typed_elem t6 hx).2 8 (by decide))) (typed_list ((typed_elem t6 hx).2 9 (by decide))) (fun left => hR _ _ _ _ _ _ _ _ _ _ ⟨by have a := dep_cell hx 8; have b := dep_cell hx 9; omega, typed_list ((typed_elem t6 hx).2 6 (by decide)), typed_list ((typed_elem t6 hx).2 7 (by decide)), typed_list ((typed_elem t6 hx).2 8 (by decide)), typed_list ((typed_elem t6 hx).2 9 (by decide))⟩))) ?_
      refine bifT (fun b3 => ?_) (fun b3 => ?_)
      · skip
        rfl
      · skip
        refine andT (by exact qq_cc t7 (fun x hx left => hR _ _ _ _ _ _ _ _ _ _ ⟨by have a := dep_cell hx 6; have b := dep_cell hx 7; omega, typed_list ((typed_elem t7 hx).2 4 (by decide)), typed_list ((typed_elem t7 hx).2 5 (by decide)), typed_list ((typed_elem t7 hx).2 6 (by decide)), typed_list ((typed_elem t7 hx).2 7 (by decide))⟩)) ?_
        refine bifT (fun b4 => ?_) (fun b4 => ?_)
        · skip
          rfl
        · skip
          rfl
theorem qbh_rs : ∀ xs r, qbh_rS (i_laws_szType := ⟨qbh_next⟩) xs = some (true, r) → runF tab FT D6 live 9 noLoops xs = some r := by
  intro xs r h
  unfold qbh_rS at h
  split at h
  · simp only [Option.some.injEq, Prod.mk.injEq] at h
    obtain ⟨h1, rfl⟩ := h
    exact fun_told (qbh_e _ _ _ _ _ _ _ _ _ _) (qbh_l _ _ _ _ _ _ _ _ _ _) h1
  · cases h
theorem qbh_step : qbh_G (i_laws_szType := ⟨qbh_next⟩) := by
  have h := DOk.also2 (S := qbh_rS (i_laws_szType := ⟨qbh_next⟩)) mixed_ok tab_ok names_ok d2 d6 noLoops_ok qbh_rs
  refine qbh_G.mk (i_laws_szType := ⟨qbh_next⟩) ?_
  exact h
noncomputable def qbj_g (x : List TC) : List TC := [TC.s ((nth x 0).str)]
def qbj_z : List TC := [TC.s []]
theorem qbj_id {A : LL} (h : Typed tab (.slice 9) (.l A)) : A.map qbj_g = A := map_same fun x hx => by
  obtain ⟨hl, hk⟩ := typed_elem h hx
  have e0 : TC.s ((nth x 0).str) = nth x 0 := typed_str_eq (hk 0 (by decide))
  show [TC.s ((nth x 0).str)] = _
  rw [e0]
  exact (row_eta hl).symm
abbrev qbj_3_σ := LL × LL × Int
abbrev qbj_3_ω := (LL)
noncomputable def qbj_3_step (A X : LL) (i : Int) : Tr (qbj_3_σ ⊕ qbj_3_ω) := (.ite ((decide (i < (A.length : Int))) = true) (.ite ((0 : Int) ≤ i ∧ i < (A.length : Int)) (.ite ((0 : Int) ≤ i ∧ i < (X.length : Int)) (.ok (.inl (A, (X.set (i).toNat (splice (row X i) 0 [TC.s ((nth (row A i) 0).str)])), (IntKind.wrap .i64 (i + (1 : Int))))))
    .no)
   .no)
  (.ok (.inr X)))
noncomputable def qbj_3_st : qbj_3_σ → Tr (qbj_3_σ ⊕ qbj_3_ω) := fun x => (qbj_3_step (x.1) (x.2.1) (x.2.2))
noncomputable def qbj_o3_1 (A X : LL) (i : Int) : Bool := is (Typed tab (.slice 9) (.l A) ∧ X = List.replicate A.length qbj_z ∧ i = 0)
noncomputable def qbj_3_fin (A X : LL) (i : Int) : Told qbj_3_ω := (.leaf (qbj_o3_1 A X i) A)
def qbj_3_sl (x : qbj_3_σ) : List Slot := [⟨.val false [⟨.slice 9, .sh, TC.l (x.1)⟩], ⟨0, 0⟩⟩, ⟨.val false [⟨.slice 9, .own true, TC.l (x.2.1)⟩], ⟨0, 0⟩⟩, ⟨.val false [⟨.int .i64, .sh, TC.i (x.2.2)⟩], ⟨0, 0⟩⟩]
def qbj_3_out : qbj_3_ω → Ex × List Slot := (fun x => (.exit 0, [Slot.none, ⟨.val false [⟨.slice 9, .own true, TC.l x⟩], ⟨0, 0⟩⟩]))
noncomputable def qbj_lo3 : List Slot → Option (Told (Ex × List Slot)) := fun s => match s with
  | [⟨.val false [⟨.slice 9, .sh, TC.l A⟩], ⟨0, 0⟩⟩, ⟨.val false [⟨.slice 9, .own true, TC.l X⟩], ⟨0, 0⟩⟩, ⟨.val false [⟨.int .i64, .sh, TC.i i⟩], ⟨0, 0⟩⟩] => some (((qbj_3_fin A X i)).map qbj_3_out)
  | _ => .none
noncomputable def qbj_lo : LoopTeller := fun r s => bif Nat.beq r 3 then qbj_lo3 s else .none
theorem qbj_3_r (A X : LL) (i : Int) (fuel : Nat) : rounds (rnd tab FT D6 live 32 qbj_lo 0 3) leave (fuel + 1) (qbj_3_sl (A, X, i)) = ((qbj_3_step A X i)).run (goOn (fun s => rounds (rnd tab FT D6 live 32 qbj_lo 0 3) leave fuel (qbj_3_sl s)) fun w => some (qbj_3_out w)) := by kernel_rfl
theorem qbj_3_h (A X : LL) (i : Int) (ow : qbj_3_ω) : ((qbj_3_fin A X i)).val = some ow → ∃ fuel, loopN qbj_3_st fuel (A, X, i) = some ow := by
  intro h
  refine auto_leaf (R := A) (fun ho => ?_) h
  obtain ⟨ht, rfl, rfl⟩ := is_iff.1 ho
  have hlen : A.length ≤ 140737488351232 := by have := typed_room ht; simp only [show (tab 9).bytes = 16 from rfl] at this; omega
  have key := loopN_copy (step := qbj_3_st) A (List.replicate A.length qbj_z) qbj_g (fun Y i => (A, Y, (i : Int))) (A.map qbj_g) (by simp) (fun x hx i _ => by rw [(List.mem_replicate.1 hx).2]; exact Nat.le_refl 1) (fun Y i hi hl => ?_) ?_ A.length 0 (by omega)
  · rw [copied_zero, qbj_id ht] at key
    exact ⟨_, key⟩
  · have c0 : Typed tab (.str) (.s (nth (A.getD i []) 0).str) := typed_s (typed_cell ht (A.getD i []) (mem_getD hi) 0 (by decide))
    show (qbj_3_step A Y (i : Int)).val = _
    unfold qbj_3_step
    refine Tr.t (by simp; omega) ?_
    refine Tr.t (by first | omega | (constructor <;> omega)) ?_
    refine Tr.t (by first | omega | (constructor <;> omega)) ?_
    rw [Tr.val_ok, wrap64 (i := (i : Int) + 1) (by omega) (by omega)]; rfl
  · show (qbj_3_step A (A.map qbj_g) (A.length : Int)).val = _
    refine Tr.n (by simp) ?_
    rfl
theorem qbj_is3 : LoopIs tab FT D6 live 32 qbj_lo 0 3 := by
  refine loop_told (sl := qbj_3_sl) (step := qbj_3_st) (out := qbj_3_out) (lor := qbj_lo3) (fin := fun x => (qbj_3_fin (x.1) (x.2.1) (x.2.2))) (fun _ => rfl) ?_ (fun x n => qbj_3_r x.1 x.2.1 x.2.2 n) (fun x ow => qbj_3_h x.1 x.2.1 x.2.2 ow)
  intro s t h
  unfold qbj_lo3 at h
  split at h
  · cases h; exact ⟨(_, _, _), rfl, rfl⟩
  · cases h
noncomputable def qbj_t (A : LL) : Tr (LL) := (.ite (0 ≤ (A.length : Int) ∧ (A.length : Int) ≤ (A.length : Int) ∧ (A.length : Int) * 16 ≤ 140737488355328 ∧ (A.length : Int) ≤ 140737488355328) (.ite ((qbj_o3_1 A (List.replicate ((A.length : Int)).toNat [TC.s []]) (0 : Int)) = true) (.ok A)
   .no)
  .no)
def qbj_mk (p : LL) : Res := [(false, [⟨.slice 9, .own true, TC.l p⟩])]
noncomputable def qbj_c (A : LL) : Bool := is (Typed tab (.slice 9) (.l A))
noncomputable def qbj_v (A : LL) : LL := A
theorem qbj_l (A : LL) : (qbj_c A) = true → (qbj_t A).val = some (qbj_v A) := by
  intro h
  have ht := is_iff.1 h
  have hb := typed_room ht
  simp only [show (tab 9).bytes = 16 from rfl] at hb
  unfold qbj_t
  refine Tr.t (by omega) ?_
  refine Tr.t (is_true ⟨ht, by rfl, rfl⟩) ?_
  rfl
noncomputable def qbj_S : List Arg → Option (Bool × Res) := fun xs => match xs with
  | [(false, [(.slice 9, TC.l A)])] => some ((qbj_c A), qbj_mk (qbj_v A))
  | _ => .none
theorem qbj_e (A : LL) : runF tab FT D6 live 32 qbj_lo [(false, [(.slice 9, TC.l A)])] = (qbj_t A).run fun p => some (qbj_mk p) := by kernel_rfl
theorem qbj_s : ∀ xs r, qbj_S xs = some (true, r) → runF tab FT D6 live 32 qbj_lo xs = some r := by
  intro xs r h
  unfold qbj_S at h
  split at h
  · simp only [Option.some.injEq, Prod.mk.injEq] at h
    obtain ⟨h1, rfl⟩ := h
    exact fun_told (qbj_e _) (qbj_l _) h1
  · cases h
noncomputable def D7 : Dt := also D6 32 qbj_S
theorem d7 : DOk Go.Proofs.Try.prog tab D7 := d6.also mixed_ok tab_ok names_ok (fnLoops_one (by kernel_rfl) qbj_is3) qbj_s
theorem qbj_ty {A : LL} (h : Typed tab (.slice 9) (.l A)) : Typed tab (.slice 9) (.l A) := typed_iso iso_ok h (by decide)
noncomputable def qbn_g (x : List TC) : List TC := [TC.i ((nth x 0).int)]
def qbn_z : List TC := [TC.i (0 : Int)]
theorem qbn_id {A : LL} (h : Typed tab (.slice 2) (.l A)) : A.map qbn_g = A := map_same fun x hx => by
  obtain ⟨hl, hk⟩ := typed_elem h hx
  have e0 : TC.i ((nth x 0).int) = nth x 0 := typed_int_eq (hk 0 (by decide))
  show [TC.i ((nth x 0).int)] = _
  rw [e0]
  exact (row_eta hl).symm
abbrev qbn_3_σ := LL × LL × Int
abbrev qbn_3_ω := (LL)
noncomputable def qbn_3_step (A X : LL) (i : Int) : Tr (qbn_3_σ ⊕ qbn_3_ω) := (.ite ((decide (i < (A.length : Int))) = true) (.ite ((0 : Int) ≤ i ∧ i < (A.length : Int)) (.ite ((0 : Int) ≤ i ∧ i < (X.length : Int)) (.ok (.inl (A, (X.set (i).toNat (splice (row X i) 0 [TC.i ((nth (row A i) 0).int)])), (IntKind.wrap .i64 (i + (1 : Int))))))
    .no)
   .no)
  (.ok (.inr X)))
noncomputable def qbn_3_st : qbn_3_σ → Tr (qbn_3_σ ⊕ qbn_3_ω) := fun x => (qbn_3_step (x.1) (x.2.1) (x.2.2))
noncomputable def qbn_o3_1 (A X : LL) (i : Int) : Bool := is (Typed tab (.slice 2) (.l A) ∧ X = List.replicate A.length qbn_z ∧ i = 0)
noncomputable def qbn_3_fin (A X : LL) (i : Int) : Told qbn_3_ω := (.leaf (qbn_o3_1 A X i) A)
def qbn_3_sl (x : qbn_3_σ) : List Slot := [⟨.val false [⟨.slice 2, .sh, TC.l (x.1)⟩], ⟨0, 0⟩⟩, ⟨.val false [⟨.slice 2, .own true, TC.l (x.2.1)⟩], ⟨0, 0⟩⟩, ⟨.val false [⟨.int .i64, .sh, TC.i (x.2.2)⟩], ⟨0, 0⟩⟩]
def qbn_3_out : qbn_3_ω → Ex × List Slot := (fun x => (.exit 0, [Slot.none, ⟨.val false [⟨.slice 2, .own true, TC.l x⟩], ⟨0, 0⟩⟩]))
noncomputable def qbn_lo3 : List Slot → Option (Told (Ex × List Slot)) := fun s => match s with
  | [⟨.val false [⟨.slice 2, .sh, TC.l A⟩], ⟨0, 0⟩⟩, ⟨.val false [⟨.slice 2, .own true, TC.l X⟩], ⟨0, 0⟩⟩, ⟨.val false [⟨.int .i64, .sh, TC.i i⟩], ⟨0, 0⟩⟩] => some (((qbn_3_fin A X i)).map qbn_3_out)
  | _ => .none
noncomputable def qbn_lo : LoopTeller := fun r s => bif Nat.beq r 3 then qbn_lo3 s else .none
theorem qbn_3_r (A X : LL) (i : Int) (fuel : Nat) : rounds (rnd tab FT D7 live 33 qbn_lo 0 3) leave (fuel + 1) (qbn_3_sl (A, X, i)) = ((qbn_3_step A X i)).run (goOn (fun s => rounds (rnd tab FT D7 live 33 qbn_lo 0 3) leave fuel (qbn_3_sl s)) fun w => some (qbn_3_out w)) := by kernel_rfl
theorem qbn_3_h (A X : LL) (i : Int) (ow : qbn_3_ω) : ((qbn_3_fin A X i)).val = some ow → ∃ fuel, loopN qbn_3_st fuel (A, X, i) = some ow := by
  intro h
  refine auto_leaf (R := A) (fun ho => ?_) h
  obtain ⟨ht, rfl, rfl⟩ := is_iff.1 ho
  have hlen : A.length ≤ 140737488351232 := by have := typed_room ht; simp only [show (tab 2).bytes = 8 from rfl] at this; omega
  have key := loopN_copy (step := qbn_3_st) A (List.replicate A.length qbn_z) qbn_g (fun Y i => (A, Y, (i : Int))) (A.map qbn_g) (by simp) (fun x hx i _ => by rw [(List.mem_replicate.1 hx).2]; exact Nat.le_refl 1) (fun Y i hi hl => ?_) ?_ A.length 0 (by omega)
  · rw [copied_zero, qbn_id ht] at key
    exact ⟨_, key⟩
  · skip
    show (qbn_3_step A Y (i : Int)).val = _
    unfold qbn_3_step
    refine Tr.t (by simp; omega) ?_
    refine Tr.t (by first | omega | (constructor <;> omega)) ?_
    refine Tr.t (by first | omega | (constructor <;> omega)) ?_
    rw [Tr.val_ok, wrap64 (i := (i : Int) + 1) (by omega) (by omega)]; rfl
  · show (qbn_3_step A (A.map qbn_g) (A.length : Int)).val = _
    refine Tr.n (by simp) ?_
    rfl
theorem qbn_is3 : LoopIs tab FT D7 live 33 qbn_lo 0 3 := by
  refine loop_told (sl := qbn_3_sl) (step := qbn_3_st) (out := qbn_3_out) (lor := qbn_lo3) (fin := fun x => (qbn_3_fin (x.1) (x.2.1) (x.2.2))) (fun _ => rfl) ?_ (fun x n => qbn_3_r x.1 x.2.1 x.2.2 n) (fun x ow => qbn_3_h x.1 x.2.1 x.2.2 ow)
  intro s t h
  unfold qbn_lo3 at h
  split at h
  · cases h; exact ⟨(_, _, _), rfl, rfl⟩
  · cases h
noncomputable def qbn_t (A : LL) : Tr (LL) := (.ite (0 ≤ (A.length : Int) ∧ (A.length : Int) ≤ (A.length : Int) ∧ (A.length : Int) * 8 ≤ 140737488355328 ∧ (A.length : Int) ≤ 140737488355328) (.ite ((qbn_o3_1 A (List.replicate ((A.length : Int)).toNat [TC.i (0 : Int)]) (0 : Int)) = true) (.ok A)
   .no)
  .no)
def qbn_mk (p : LL) : Res := [(false, [⟨.slice 2, .own true, TC.l p⟩])]
noncomputable def qbn_c (A : LL) : Bool := is (Typed tab (.slice 2) (.l A))
noncomputable def qbn_v (A : LL) : LL := A
theorem qbn_l (A : LL) : (qbn_c A) = true → (qbn_t A).val = some (qbn_v A) := by
  intro h
  have ht := is_iff.1 h
  have hb := typed_room ht
  simp only [show (tab 2).bytes = 8 from rfl] at hb
  unfold qbn_t
  refine Tr.t (by omega) ?_
  refine Tr.t (is_true ⟨ht, by rfl, rfl⟩) ?_
  rfl
noncomputable def qbn_S : List Arg → Option (Bool × Res) := fun xs => match xs with
  | [(false, [(.slice 2, TC.l A)])] => some ((qbn_c A), qbn_mk (qbn_v A))
  | _ => .none
theorem qbn_e (A : LL) : runF tab FT D7 live 33 qbn_lo [(false, [(.slice 2, TC.l A)])] = (qbn_t A).run fun p => some (qbn_mk p) := by kernel_rfl
theorem qbn_s : ∀ xs r, qbn_S xs = some (true, r) → runF tab FT D7 live 33 qbn_lo xs = some r := by
  intro xs r h
  unfold qbn_S at h
  split at h
  · simp only [Option.some.injEq, Prod.mk.injEq] at h
    obtain ⟨h1, rfl⟩ := h
    exact fun_told (qbn_e _) (qbn_l _) h1
  · cases h
noncomputable def D8 : Dt := also D7 33 qbn_S
theorem d8 : DOk Go.Proofs.Try.prog tab D8 := d7.also mixed_ok tab_ok names_ok (fnLoops_one (by kernel_rfl) qbn_is3) qbn_s
theorem qbn_ty {A : LL} (h : Typed tab (.slice 2) (.l A)) : Typed tab (.slice 2) (.l A) := typed_iso iso_ok h (by decide)
section
class qk_O where n : Nat
variable [i_laws_toType : qk_O]
noncomputable def qk_rc (x0 x1 : Int) (x2 x3 : Bool) (x4 x5 x6 x7 : LL) (x8 : Int) : Bool := is (max (rowsDep x6) (rowsDep x7) < qk_O.n ∧ Typed tab (.slice 9) (.l x4) ∧ Typed tab (.slice 2) (.l x5) ∧ Typed tab (.slice 67) (.l x6) ∧ Typed tab (.slice 27) (.l x7))
noncomputable def qk_rv (x0 x1 : Int) (x2 x3 : Bool) (x4 x5 x6 x7 : LL) (x8 : Int) : Int × Int × Bool × Bool × LL × LL × LL × LL × Int := (x0, x1, x2, x3, x4, x5, x6, x7, x8)
def qk_rmk (p : Int × Int × Bool × Bool × LL × LL × LL × LL × Int) : Res := [(true, [⟨.int .i64, .sh, TC.i (p.1)⟩, ⟨.int .i64, .sh, TC.i (p.2.1)⟩, ⟨.bool, .sh, TC.b (p.2.2.1)⟩, ⟨.bool, .sh, TC.b (p.2.2.2.1)⟩, ⟨.slice 9, .own true, TC.l (p.2.2.2.2.1)⟩, ⟨.slice 2, .own true, TC.l (p.2.2.2.2.2.1)⟩, ⟨.slice 71, .own true, TC.l (p.2.2.2.2.2.2.1)⟩, ⟨.slice 32, .own true, TC.l (p.2.2.2.2.2.2.2.1)⟩, ⟨.int .i64, .sh, TC.i (p.2.2.2.2.2.2.2.2)⟩])]
noncomputable def qk_rS : List Arg → Option (Bool × Res) := fun xs => match xs with
  | [(true, [(.int .i64, TC.i x0), (.int .i64, TC.i x1), (.bool, TC.b x2), (.bool, TC.b x3), (.slice 9, TC.l x4), (.slice 2, TC.l x5), (.slice 67, TC.l x6), (.slice 27, TC.l x7), (.int .i64, TC.i x8)])] => some ((qk_rc x0 x1 x2 x3 x4 x5 x6 x7 x8), qk_rmk (qk_rv x0 x1 x2 x3 x4 x5 x6 x7 x8))
  | _ => .none
noncomputable def D9 : Dt := also D8 11 qk_rS
class qk_G : Prop where ok : DOk Go.Proofs.Try.prog tab D9
variable [g_laws_toType : qk_G]
theorem d9 : DOk Go.Proofs.Try.prog tab D9 := qk_G.ok
noncomputable def qcb_t (a0 : BS) (a1 a2 a3 : Int) (a4 a5 : Bool) (a6 a7 a8 a9 : LL) (a10 : Int) : Tr (BS × Int × Int × Int × Bool × Bool × LL × LL × LL × LL × Int) := (.ite ((qk_rc a2 a3 a4 a5 a6 a7 a8 a9 a10) = true) (.ok (a0, a1, (qk_rv a2 a3 a4 a5 a6 a7 a8 a9 a10).1, (qk_rv a2 a3 a4 a5 a6 a7 a8 a9 a10).2.1, (qk_rv a2 a3 a4 a5 a6 a7 a8 a9 a10).2.2.1, (qk_rv a2 a3 a4 a5 a6 a7 a8 a9 a10).2.2.2.1, (qk_rv a2 a3 a4 a5 a6 a7 a8 a9 a10).2.2.2.2.1, (qk_rv a2 a3 a4 a5 a6 a7 a8 a9 a10).2.2.2.2.2.1, (qk_rv a2 a3 a4 a5 a6 a7 a8 a9 a10).2.2.2.2.2.2.1, (qk_rv a2 a3 a4 a5 a6 a7 a8 a9 a10).2.2.2.2.2.2.2.1, (qk_rv a2 a3 a4 a5 a6 a7 a8 a9 a10).2.2.2.2.2.2.2.2))
  .no)
def qcb_mk (p : BS × Int × Int × Int × Bool × Bool × LL × LL × LL × LL × Int) : Res := [(true, [⟨.str, .sh, TC.s (p.1)⟩, ⟨.int .i64, .sh, TC.i (p.2.1)⟩, ⟨.int .i64, .sh, TC.i (p.2.2.1)⟩, ⟨.int .i64, .sh, TC.i (p.2.2.2.1)⟩, ⟨.bool, .sh, TC.b (p.2.2.2.2.1)⟩, ⟨.bool, .sh, TC.b (p.2.2.2.2.2.1)⟩, ⟨.slice 9, .own true, TC.l (p.2.2.2.2.2.2.1)⟩, ⟨.slice 2, .own true, TC.l (p.2.2.2.2.2.2.2.1)⟩, ⟨.slice 71, .own true, TC.l (p.2.2.2.2.2.2.2.2.1)⟩, ⟨.slice 32, .own true, TC.l (p.2.2.2.2.2.2.2.2.2.1)⟩, ⟨.int .i64, .sh, TC.i (p.2.2.2.2.2.2.2.2.2.2)⟩])]
noncomputable def qcb_c (a0 : BS) (a1 a2 a3 : Int) (a4 a5 : Bool) (a6 a7 a8 a9 : LL) (a10 : Int) : Bool := (qk_rc a2 a3 a4 a5 a6 a7 a8 a9 a10)
noncomputable def qcb_v (a0 : BS) (a1 a2 a3 : Int) (a4 a5 : Bool) (a6 a7 a8 a9 : LL) (a10 : Int) : BS × Int × Int × Int × Bool × Bool × LL × LL × LL × LL × Int := (a0, a1, (qk_rv a2 a3 a4 a5 a6 a7 a8 a9 a10).1, (qk_rv a2 a3 a4 a5 a6 a7 a8 a9 a10).2.1, (qk_rv a2 a3 a4 a5 a6 a7 a8 a9 a10).2.2.1, (qk_rv a2 a3 a4 a5 a6 a7 a8 a9 a10).2.2.2.1, (qk_rv a2 a3 a4 a5 a6 a7 a8 a9 a10).2.2.2.2.1, (qk_rv a2 a3 a4 a5 a6 a7 a8 a9 a10).2.2.2.2.2.1, (qk_rv a2 a3 a4 a5 a6 a7 a8 a9 a10).2.2.2.2.2.2.1, (qk_rv a2 a3 a4 a5 a6 a7 a8 a9 a10).2.2.2.2.2.2.2.1, (qk_rv a2 a3 a4 a5 a6 a7 a8 a9 a10).2.2.2.2.2.2.2.2)
theorem qcb_l (a0 : BS) (a1 a2 a3 : Int) (a4 a5 : Bool) (a6 a7 a8 a9 : LL) (a10 : Int) : (qcb_c a0 a1 a2 a3 a4 a5 a6 a7 a8 a9 a10) = true → (qcb_t a0 a1 a2 a3 a4 a5 a6 a7 a8 a9 a10).val = some (qcb_v a0 a1 a2 a3 a4 a5 a6 a7 a8 a9 a10) := by
  intro h
  have hc0 : (qk_rc a2 a3 a4 a5 a6 a7 a8 a9 a10) = true := h
  unfold qcb_t
  exact (Tr.t hc0 rfl)
noncomputable def qcb_S : List Arg → Option (Bool × Res) := fun xs => match xs with
  | [(true, [(.str, TC.s a0), (.int .i64, TC.i a1), (.int .i64, TC.i a2), (.int .i64, TC.i a3), (.bool, TC.b a4), (.bool, TC.b a5), (.slice 9, TC.l a6), (.slice 2, TC.l a7), (.slice 67, TC.l a8), (.slice 27, TC.l a9), (.int .i64, TC.i a10)])] => some ((qcb_c a0 a1 a2 a3 a4 a5 a6 a7 a8 a9 a10), qcb_mk (qcb_v a0 a1 a2 a3 a4 a5 a6 a7 a8 a9 a10))
  | _ => .none
theorem qcb_e (a0 : BS) (a1 a2 a3 : Int) (a4 a5 : Bool) (a6 a7 a8 a9 : LL) (a10 : Int) : runF tab FT D9 live 72 noLoops [(true, [(.str, TC.s a0), (.int .i64, TC.i a1), (.int .i64, TC.i a2), (.int .i64, TC.i a3), (.bool, TC.b a4), (.bool, TC.b a5), (.slice 9, TC.l a6), (.slice 2, TC.l a7), (.slice 67, TC.l a8), (.slice 27, TC.l a9), (.int .i64, TC.i a10)])] = (qcb_t a0 a1 a2 a3 a4 a5 a6 a7 a8 a9 a10).run fun p => some (qcb_mk p) := by kernel_rfl
theorem qcb_s : ∀ xs r, qcb_S xs = some (true, r) → runF tab FT D9 live 72 noLoops xs = some r := by
  intro xs r h
  unfold qcb_S at h
  split at h
  · simp only [Option.some.injEq, Prod.mk.injEq] at h
    obtain ⟨h1, rfl⟩ := h
    exact fun_told (qcb_e _ _ _ _ _ _ _ _ _ _ _) (qcb_l _ _ _ _ _ _ _ _ _ _ _) h1
  · cases h
noncomputable def D10 : Dt := also D9 72 qcb_S
theorem d10 : DOk Go.Proofs.Try.prog tab D10 := d9.also mixed_ok tab_ok names_ok noLoops_ok qcb_s
noncomputable def qbi_g (x : List TC) : List TC := [TC.s ((qcb_v ((nth x 0).str) ((nth x 1).int) ((nth x 2).int) ((nth x 3).int) ((nth x 4).bool) ((nth x 5).bool) ((nth x 6).list) ((nth x 7).list) ((nth x 8).list) ((nth x 9).list) ((nth x 10).int)).1), TC.i ((qcb_v ((nth x 0).str) ((nth x 1).int) ((nth x 2).int) ((nth x 3).int) ((nth x 4).bool) ((nth x 5).bool) ((nth x 6).list) ((nth x 7).list) ((nth x 8).list) ((nth x 9).list) ((nth x 10).int)).2.1), TC.i ((qcb_v ((nth x 0).str) ((nth x 1).int) ((nth x 2).int) ((nth x 3).int) ((nth x 4).bool) ((nth x 5).bool) ((nth x 6).list) ((nth x 7).list) ((nth x 8).list) ((nth x 9).list) ((nth x 10).int)).2.2.1), TC.i ((qcb_v ((nth x 0).str) ((nth x 1).int) ((nth x 2).int) ((nth x 3).int) ((nth x 4).bool) ((nth x 5).bool) ((nth x 6).list) ((nth x 7).list) ((nth x 8).list) ((nth x 9).list) ((nth x 10).int)).2.2.2.1), TC.b ((qcb_v ((nth x 0).str) ((nth x 1).int) ((nth x 2).int) ((nth x 3).int) ((nth x 4).bool) ((nth x 5).bool) ((nth x 6).list) ((nth x 7).list) ((nth x 8).list) ((nth x 9).list) ((nth x 10).int)).2.2.2.2.1), TC.b ((qcb_v ((nth x 0).str) ((nth x 1).int) ((nth x 2).int) ((nth x 3).int) ((nth x 4).bool) ((nth x 5).bool) ((nth x 6).list) ((nth x 7).list) ((nth x 8).list) ((nth x 9).list) ((nth x 10).int)).2.2.2.2.2.1), TC.l ((qcb_v ((nth x 0).str) ((nth x 1).int) ((nth x 2).int) ((nth x 3).int) ((nth x 4).bool) ((nth x 5).bool) ((nth x 6).list) ((nth x 7).list) ((nth x 8).list) ((nth x 9).list) ((nth x 10).int)).2.2.2.2.2.2.1), TC.l ((qcb_v ((nth x 0).str) ((nth x 1).int) ((nth x 2).int) ((nth x 3).int) ((nth x 4).bool) ((nth x 5).bool) ((nth x 6).list) ((nth x 7).list) ((nth x 8).list) ((nth x 9).list) ((nth x 10).int)).2.2.2.2.2.2.2.1), TC.l ((qcb_v ((nth x 0).str) ((nth x 1).int) ((nth x 2).int) ((nth x 3).int) ((nth x 4).bool) ((nth x 5).bool) ((nth x 6).list) ((nth x 7).list) ((nth x 8).list) ((nth x 9).list) ((nth x 10).int)).2.2.2.2.2.2.2.2.1), TC.l ((qcb_v ((nth x 0).str) ((nth x 1).int) ((nth x 2).int) ((nth x 3).int) ((nth x 4).bool) ((nth x 5).bool) ((nth x 6).list) ((nth x 7).list) ((nth x 8).list) ((nth x 9).list) ((nth x 10).int)).2.2.2.2.2.2.2.2.2.1), TC.i ((qcb_v ((nth x 0).str) ((nth x 1).int) ((nth x 2).int) ((nth x 3).int) ((nth x 4).bool) ((nth x 5).bool) ((nth x 6).list) ((nth x 7).list) ((nth x 8).list) ((nth x 9).list) ((nth x 10).int)).2.2.2.2.2.2.2.2.2.2)]
def qbi_z : List TC := [TC.s [], TC.i (0 : Int), TC.i (0 : Int), TC.i (0 : Int), TC.b false, TC.b false, TC.l [], TC.l [], TC.l [], TC.l [], TC.i (0 : Int)]
theorem qbi_id {A : LL} (h : Typed tab (.slice 67) (.l A)) : A.map qbi_g = A := map_same fun x hx => by
  obtain ⟨hl, hk⟩ := typed_elem h hx
  have e0 : TC.s ((nth x 0).str) = nth x 0 := typed_str_eq (hk 0 (by decide))
  have e1 : TC.i ((nth x 1).int) = nth x 1 := typed_int_eq (hk 1 (by decide))
  have e2 : TC.i ((nth x 2).int) = nth x 2 := typed_int_eq (hk 2 (by decide))
  have e3 : TC.i ((nth x 3).int) = nth x 3 := typed_int_eq (hk 3 (by decide))
  have e4 : TC.b ((nth x 4).bool) = nth x 4 := typed_bool_eq (hk 4 (by decide))
  have e5 : TC.b ((nth x 5).bool) = nth x 5 := typed_bool_eq (hk 5 (by decide))
  have e6 : TC.l ((nth x 6).list) = nth x 6 := typed_list_eq (hk 6 (by decide))
  have e7 : TC.l ((nth x 7).list) = nth x 7 := typed_list_eq (hk 7 (by decide))
  have e8 : TC.l ((nth x 8).list) = nth x 8 := typed_list_eq (hk 8 (by decide))
  have e9 : TC.l ((nth x 9).list) = nth x 9 := typed_list_eq (hk 9 (by decide))
  have e10 : TC.i ((nth x 10).int) = nth x 10 := typed_int_eq (hk 10 (by decide))
  show [TC.s ((nth x 0).str), TC.i ((nth x 1).int), TC.i ((nth x 2).int), TC.i ((nth x 3).int), TC.b ((nth x 4).bool), TC.b ((nth x 5).bool), TC.l ((nth x 6).list), TC.l ((nth x 7).list), TC.l ((nth x 8).list), TC.l ((nth x 9).list), TC.i ((nth x 10).int)] = _
  rw [e0, e1, e2, e3, e4, e5, e6, e7, e8, e9, e10]
  exact (row_eta hl).symm
abbrev qbi_3_σ := LL × LL × Int
abbrev qbi_3_ω := (LL)
noncomputable def qbi_3_step (A X : LL) (i : Int) : Tr (qbi_3_σ ⊕ qbi_3_ω) := (.ite ((decide (i < (A.length : Int))) = true) (.ite ((0 : Int) ≤ i ∧ i < (A.length : Int)) (.ite ((qcb_c ((nth (row A i) 0).str) ((nth (row A i) 1).int) ((nth (row A i) 2).int) ((nth (row A i) 3).int) ((nth (row A i) 4).bool) ((nth (row A i) 5).bool) ((nth (row A i) 6).list) ((nth (row A i) 7).list) ((nth (row A i) 8).list) ((nth (row A i) 9).list) ((nth (row A i) 10).int)) = true) (.ite ((0 : Int) ≤ i ∧ i < (X.length : Int)) (.ok (.inl (A, (X.set (i).toNat (splice (row X i) 0 [TC.s ((qcb_v ((nth (row A i) 0).str) ((nth (row A i) 1).int) ((nth (row A i) 2).int) ((nth (row A i) 3).int) ((nth (row A i) 4).bool) ((nth (row A i) 5).bool) ((nth (row A i) 6).list) ((nth (row A i) 7).list) ((nth (row A i) 8).list) ((nth (row A i) 9).list) ((nth (row A i) 10).int)).1), TC.i ((qcb_v ((nth (row A i) 0).str) ((nth (row A i) 1).int) ((nth (row A i) 2).int) ((nth (row A i) 3).int) ((nth (row A i) 4).bool) ((nth (row A i) 5).bool) ((nth (row A i) 6).list) ((nth (row A i) 7).list) ((nth (row A i) 8).list) ((nth (row A i) 9).list) ((nth (row A i) 10).int)).2.1), TC.i ((qcb_v ((nth (row A i) 0).str) ((nth (row A i) 1).int) ((nth (row A i) 2).int) ((nth (row A i) 3).int) ((nth (row A i) 4).bool) ((nth (row A i) 5).bool) ((nth (row A i) 6).list) ((nth (row A i) 7).list) ((nth (row A i) 8).list) ((nth (row A i) 9).list) ((nth (row A i) 10).int)).2.2.1), TC.i ((qcb_v ((nth (row A i) 0).str) ((nth (row A i) 1).int) ((nth (row A i) 2).int) ((nth (row A i) 3).int) ((nth (row A i) 4).bool) ((nth (row A i) 5).bool) ((nth (row A i) 6).list) ((nth (row A i) 7).list) ((nth (row A i) 8).list) ((nth (row A i) 9).list) ((nth (row A i) 10).int)).2.2.2.1), TC.b ((qcb_v ((nth (row A i) 0).str) ((nth (row A i) 1).int) ((nth (row A i) 2).int) ((nth (row A i) 3).int) ((nth (row A i) 4).bool) ((nth (row A i) 5).bool) ((nth (row A i) 6).list) ((nth (row A i) 7).list) ((nth (row A i) 8).list) ((nth (row A i) 9).list) ((nth (row A i) 10).int)).2.2.2.2.1), TC.b ((qcb_v ((nth (row A i) 0).str) ((nth (row A i) 1).int) ((nth (row A i) 2).int) ((nth (row A i) 3).int) ((nth (row A i) 4).bool) ((nth (row A i) 5).bool) ((nth (row A i) 6).list) ((nth (row A i) 7).list) ((nth (row A i) 8).list) ((nth (row A i) 9).list) ((nth (row A i) 10).int)).2.2.2.2.2.1), TC.l ((qcb_v ((nth (row A i) 0).str) ((nth (row A i) 1).int) ((nth (row A i) 2).int) ((nth (row A i) 3).int) ((nth (row A i) 4).bool) ((nth (row A i) 5).bool) ((nth (row A i) 6).list) ((nth (row A i) 7).list) ((nth (row A i) 8).list) ((nth (row A i) 9).list) ((nth (row A i) 10).int)).2.2.2.2.2.2.1), TC.l ((qcb_v ((nth (row A i) 0).str) ((nth (row A i) 1).int) ((nth (row A i) 2).int) ((nth (row A i) 3).int) ((nth (row A i) 4).bool) ((nth (row A i) 5).bool) ((nth (row A i) 6).list) ((nth (row A i) 7).list) ((nth (row A i) 8).list) ((nth (row A i) 9).list) ((nth (row A i) 10).int)).2.2.2.2.2.2.2.1), TC.l ((qcb_v ((nth (row A i) 0).str) ((nth (row A i) 1).int) ((nth (row A i) 2).int) ((nth (row A i) 3).int) ((nth (row A i) 4).bool) ((nth (row A i) 5).bool) ((nth (row A i) 6).list) ((nth (row A i) 7).list) ((nth (row A i) 8).list) ((nth (row A i) 9).list) ((nth (row A i) 10).int)).2.2.2.2.2.2.2.2.1), TC.l ((qcb_v ((nth (row A i) 0).str) ((nth (row A i) 1).int) ((nth (row A i) 2).int) ((nth (row A i) 3).int) ((nth (row A i) 4).bool) ((nth (row A i) 5).bool) ((nth (row A i) 6).list) ((nth (row A i) 7).list) ((nth (row A i) 8).list) ((nth (row A i) 9).list) ((nth (row A i) 10).int)).2.2.2.2.2.2.2.2.2.1), TC.i ((qcb_v ((nth (row A i) 0).str) ((nth (row A i) 1).int) ((nth (row A i) 2).int) ((nth (row A i) 3).int) ((nth (row A i) 4).bool) ((nth (row A i) 5).bool) ((nth (row A i) 6).list) ((nth (row A i) 7).list) ((nth (row A i) 8).list) ((nth (row A i) 9).list) ((nth (row A i) 10).int)).2.2.2.2.2.2.2.2.2.2)])), (IntKind.wrap .i64 (i + (1 : Int))))))
     .no)
    .no)
   .no)
  (.ok (.inr X)))
noncomputable def qbi_3_st : qbi_3_σ → Tr (qbi_3_σ ⊕ qbi_3_ω) := fun x => (qbi_3_step (x.1) (x.2.1) (x.2.2))
noncomputable def qbi_o3_1 (A X : LL) (i : Int) : Bool := is (Typed tab (.slice 67) (.l A) ∧ (∀ x : List TC, x ∈ A → (qcb_c ((nth x 0).str) ((nth x 1).int) ((nth x 2).int) ((nth x 3).int) ((nth x 4).bool) ((nth x 5).bool) ((nth x 6).list) ((nth x 7).list) ((nth x 8).list) ((nth x 9).list) ((nth x 10).int)) = true) ∧ X = List.replicate A.length qbi_z ∧ i = 0)
noncomputable def qbi_3_fin (A X : LL) (i : Int) : Told qbi_3_ω := (.leaf (qbi_o3_1 A X i) A)
def qbi_3_sl (x : qbi_3_σ) : List Slot := [⟨.val false [⟨.slice 67, .sh, TC.l (x.1)⟩], ⟨0, 0⟩⟩, ⟨.val false [⟨.slice 71, .own true, TC.l (x.2.1)⟩], ⟨0, 0⟩⟩, ⟨.val false [⟨.int .i64, .sh, TC.i (x.2.2)⟩], ⟨0, 0⟩⟩]
def qbi_3_out : qbi_3_ω → Ex × List Slot := (fun x => (.exit 0, [Slot.none, ⟨.val false [⟨.slice 71, .own true, TC.l x⟩], ⟨0, 0⟩⟩]))
noncomputable def qbi_lo3 : List Slot → Option (Told (Ex × List Slot)) := fun s => match s with
  | [⟨.val false [⟨.slice 67, .sh, TC.l A⟩], ⟨0, 0⟩⟩, ⟨.val false [⟨.slice 71, .own true, TC.l X⟩], ⟨0, 0⟩⟩, ⟨.val false [⟨.int .i64, .sh, TC.i i⟩], ⟨0, 0⟩⟩] => some (((qbi_3_fin A X i)).map qbi_3_out)
  | _ => .none
noncomputable def qbi_lo : LoopTeller := fun r s => bif Nat.beq r 3 then qbi_lo3 s else .none
theorem qbi_3_r (A X : LL) (i : Int) (fuel : Nat) : rounds (rnd tab FT D10 live 34 qbi_lo 0 3) leave (fuel + 1) (qbi_3_sl (A, X, i)) = ((qbi_3_step A X i)).run (goOn (fun s => rounds (rnd tab FT D10 live 34 qbi_lo 0 3) leave fuel (qbi_3_sl s)) fun w => some (qbi_3_out w)) := by kernel_rfl
theorem qbi_3_h (A X : LL) (i : Int) (ow : qbi_3_ω) : ((qbi_3_fin A X i)).val = some ow → ∃ fuel, loopN qbi_3_st fuel (A, X, i) = some ow := by
  intro h
  refine auto_leaf (R := A) (fun ho => ?_) h
  obtain ⟨ht, hr0, rfl, rfl⟩ := is_iff.1 ho
  have hlen : A.length ≤ 140737488351232 := by have := typed_room ht; simp only [show (tab 67).bytes = 152 from rfl] at this; omega
  have key := loopN_copy (step := qbi_3_st) A (List.replicate A.length qbi_z) qbi_g (fun Y i => (A, Y, (i : Int))) (A.map qbi_g) (by simp) (fun x hx i _ => by rw [(List.mem_replicate.1 hx).2]; exact Nat.le_refl 11) (fun Y i hi hl => ?_) ?_ A.length 0 (by omega)
  · rw [copied_zero, qbi_id ht] at key
    exact ⟨_, key⟩
  · have c0 : Typed tab (.str) (.s (nth (A.getD i []) 0).str) := typed_s (typed_cell ht (A.getD i []) (mem_getD hi) 0 (by decide))
    have c6 : Typed tab (.slice 9) (.l (nth (A.getD i []) 6).list) := typed_list (typed_cell ht (A.getD i []) (mem_getD hi) 6 (by decide))
    have c7 : Typed tab (.slice 2) (.l (nth (A.getD i []) 7).list) := typed_list (typed_cell ht (A.getD i []) (mem_getD hi) 7 (by decide))
    have c8 : Typed tab (.slice 67) (.l (nth (A.getD i []) 8).list) := typed_list (typed_cell ht (A.getD i []) (mem_getD hi) 8 (by decide))
    have c9 : Typed tab (.slice 27) (.l (nth (A.getD i []) 9).list) := typed_list (typed_cell ht (A.getD i []) (mem_getD hi) 9 (by decide))
    show (qbi_3_step A Y (i : Int)).val = _
    unfold qbi_3_step
    refine Tr.t (by simp; omega) ?_
    refine Tr.t (by first | omega | (constructor <;> omega)) ?_
    refine Tr.t (hr0 (A.getD i []) (mem_getD hi)) ?_
    refine Tr.t (by first | omega | (constructor <;> omega)) ?_
    rw [Tr.val_ok, wrap64 (i := (i : Int) + 1) (by omega) (by omega)]; rfl
  · show (qbi_3_step A (A.map qbi_g) (A.length : Int)).val = _
    refine Tr.n (by simp) ?_
    rfl
theorem qbi_is3 : LoopIs tab FT D10 live 34 qbi_lo 0 3 := by
  refine loop_told (sl := qbi_3_sl) (step := qbi_3_st) (out := qbi_3_out) (lor := qbi_lo3) (fin := fun x => (qbi_3_fin (x.1) (x.2.1) (x.2.2))) (fun _ => rfl) ?_ (fun x n => qbi_3_r x.1 x.2.1 x.2.2 n) (fun x ow => qbi_3_h x.1 x.2.1 x.2.2 ow)
  intro s t h
  unfold qbi_lo3 at h
  split at h
  · cases h; exact ⟨(_, _, _), rfl, rfl⟩
  · cases h
noncomputable def qbi_t (A : LL) : Tr (LL) := (.ite (0 ≤ (A.length : Int) ∧ (A.length : Int) ≤ (A.length : Int) ∧ (A.length : Int) * 152 ≤ 140737488355328 ∧ (A.length : Int) ≤ 140737488355328) (.ite ((qbi_o3_1 A (List.replicate ((A.length : Int)).toNat [TC.s [], TC.i (0 : Int), TC.i (0 : Int), TC.i (0 : Int), TC.b false, TC.b false, TC.l [], TC.l [], TC.l [], TC.l [], TC.i (0 : Int)]) (0 : Int)) = true) (.ok A)
   .no)
  .no)
def qbi_mk (p : LL) : Res := [(false, [⟨.slice 71, .own true, TC.l p⟩])]
noncomputable def qbi_c (A : LL) : Bool := is (Typed tab (.slice 67) (.l A) ∧ (∀ x : List TC, x ∈ A → (qcb_c ((nth x 0).str) ((nth x 1).int) ((nth x 2).int) ((nth x 3).int) ((nth x 4).bool) ((nth x 5).bool) ((nth x 6).list) ((nth x 7).list) ((nth x 8).list) ((nth x 9).list) ((nth x 10).int)) = true))
noncomputable def qbi_v (A : LL) : LL := A
theorem qbi_l (A : LL) : (qbi_c A) = true → (qbi_t A).val = some (qbi_v A) := by
  intro h
  obtain ⟨ht, hr0⟩ := is_iff.1 h
  have hb := typed_room ht
  simp only [show (tab 67).bytes = 152 from rfl] at hb
  unfold qbi_t
  refine Tr.t (by omega) ?_
  refine Tr.t (is_true ⟨ht, hr0, by rfl, rfl⟩) ?_
  rfl
noncomputable def qbi_S : List Arg → Option (Bool × Res) := fun xs => match xs with
  | [(false, [(.slice 67, TC.l A)])] => some ((qbi_c A), qbi_mk (qbi_v A))
  | _ => .none
theorem qbi_e (A : LL) : runF tab FT D10 live 34 qbi_lo [(false, [(.slice 67, TC.l A)])] = (qbi_t A).run fun p => some (qbi_mk p) := by kernel_rfl
theorem qbi_s : ∀ xs r, qbi_S xs = some (true, r) → runF tab FT D10 live 34 qbi_lo xs = some r := by
  intro xs r h
  unfold qbi_S at h
  split at h
  · simp only [Option.some.injEq, Prod.mk.injEq] at h
    obtain ⟨h1, rfl⟩ := h
    exact fun_told (qbi_e _) (qbi_l _) h1
  · cases h
noncomputable def D11 : Dt := also D10 34 qbi_S
theorem d11 : DOk Go.Proofs.Try.prog tab D11 := d10.also mixed_ok tab_ok names_ok (fnLoops_one (by kernel_rfl) qbi_is3) qbi_s
theorem qbi_ty {A : LL} (h : Typed tab (.slice 67) (.l A)) : Typed tab (.slice 71) (.l A) := typed_iso iso_ok h (by decide)
noncomputable def qbq_g (x : List TC) : List TC := [TC.i ((qk_rv ((nth x 0).int) ((nth x 1).int) ((nth x 2).bool) ((nth x 3).bool) ((nth x 4).list) ((nth x 5).list) ((nth x 6).list) ((nth x 7).list) ((nth x 8).int)).1), TC.i ((qk_rv ((nth x 0).int) ((nth x 1).int) ((nth x 2).bool) ((nth x 3).bool) ((nth x 4).list) ((nth x 5).list) ((nth x 6).list) ((nth x 7).list) ((nth x 8).int)).2.1), TC.b ((qk_rv ((nth x 0).int) ((nth x 1).int) ((nth x 2).bool) ((nth x 3).bool) ((nth x 4).list) ((nth x 5).list) ((nth x 6).list) ((nth x 7).list) ((nth x 8).int)).2.2.1), TC.b ((qk_rv ((nth x 0).int) ((nth x 1).int) ((nth x 2).bool) ((nth x 3).bool) ((nth x 4).list) ((nth x 5).list) ((nth x 6).list) ((nth x 7).list) ((nth x 8).int)).2.2.2.1), TC.l ((qk_rv ((nth x 0).int) ((nth x 1).int) ((nth x 2).bool) ((nth x 3).bool) ((nth x 4).list) ((nth x 5).list) ((nth x 6).list) ((nth x 7).list) ((nth x 8).int)).2.2.2.2.1), TC.l ((qk_rv ((nth x 0).int) ((nth x 1).int) ((nth x 2).bool) ((nth x 3).bool) ((nth x 4).list) ((nth x 5).list) ((nth x 6).list) ((nth x 7).list) ((nth x 8).int)).2.2.2.2.2.1), TC.l ((qk_rv ((nth x 0).int) ((nth x 1).int) ((nth x 2).bool) ((nth x 3).bool) ((nth x 4).list) ((nth x 5).list) ((nth x 6).list) ((nth x 7).list) ((nth x 8).int)).2.2.2.2.2.2.1), TC.l ((qk_rv ((nth x 0).int) ((nth x 1).int) ((nth x 2).bool) ((nth x 3).bool) ((nth x 4).list) ((nth x 5).list) ((nth x 6).list) ((nth x 7).list) ((nth x 8).int)).2.2.2.2.2.2.2.1), TC.i ((qk_rv ((nth x 0).int) ((nth x 1).int) ((nth x 2).bool) ((nth x 3).bool) ((nth x 4).list) ((nth x 5).list) ((nth x 6).list) ((nth x 7).list) ((nth x 8).int)).2.2.2.2.2.2.2.2)]
def qbq_z : List TC := [TC.i (0 : Int), TC.i (0 : Int), TC.b false, TC.b false, TC.l [], TC.l [], TC.l [], TC.l [], TC.i (0 : Int)]
theorem qbq_id {A : LL} (h : Typed tab (.slice 27) (.l A)) : A.map qbq_g = A := map_same fun x hx => by
  obtain ⟨hl, hk⟩ := typed_elem h hx
  have e0 : TC.i ((nth x 0).int) = nth x 0 := typed_int_eq (hk 0 (by decide))
  have e1 : TC.i ((nth x 1).int) = nth x 1 := typed_int_eq (hk 1 (by decide))
  have e2 : TC.b ((nth x 2).bool) = nth x 2 := typed_bool_eq (hk 2 (by decide))
  have e3 : TC.b ((nth x 3).bool) = nth x 3 := typed_bool_eq (hk 3 (by decide))
  have e4 : TC.l ((nth x 4).list) = nth x 4 := typed_list_eq (hk 4 (by decide))
  have e5 : TC.l ((nth x 5).list) = nth x 5 := typed_list_eq (hk 5 (by decide))
  have e6 : TC.l ((nth x 6).list) = nth x 6 := typed_list_eq (hk 6 (by decide))
  have e7 : TC.l ((nth x 7).list) = nth x 7 := typed_list_eq (hk 7 (by decide))
  have e8 : TC.i ((nth x 8).int) = nth x 8 := typed_int_eq (hk 8 (by decide))
  show [TC.i ((nth x 0).int), TC.i ((nth x 1).int), TC.b ((nth x 2).bool), TC.b ((nth x 3).bool), TC.l ((nth x 4).list), TC.l ((nth x 5).list), TC.l ((nth x 6).list), TC.l ((nth x 7).list), TC.i ((nth x 8).int)] = _
  rw [e0, e1, e2, e3, e4, e5, e6, e7, e8]
  exact (row_eta hl).symm
abbrev qbq_3_σ := LL × LL × Int
abbrev qbq_3_ω := (LL)
noncomputable def qbq_3_step (A X : LL) (i : Int) : Tr (qbq_3_σ ⊕ qbq_3_ω) := (.ite ((decide (i < (A.length : Int))) = true) (.ite ((0 : Int) ≤ i ∧ i < (A.length : Int)) (.ite ((qk_rc ((nth (row A i) 0).int) ((nth (row A i) 1).int) ((nth (row A i) 2).bool) ((nth (row A i) 3).bool) ((nth (row A i) 4).list) ((nth (row A i) 5).list) ((nth (row A i) 6).list) ((nth (row A i) 7).list) ((nth (row A i) 8).int)) = true) (.ite ((0 : Int) ≤ i ∧ i < (X.length : Int)) (.ok (.inl (A, (X.set (i).toNat (splice (row X i) 0 [TC.i ((qk_rv ((nth (row A i) 0).int) ((nth (row A i) 1).int) ((nth (row A i) 2).bool) ((nth (row A i) 3).bool) ((nth (row A i) 4).list) ((nth (row A i) 5).list) ((nth (row A i) 6).list) ((nth (row A i) 7).list) ((nth (row A i) 8).int)).1), TC.i ((qk_rv ((nth (row A i) 0).int) ((nth (row A i) 1).int) ((nth (row A i) 2).bool) ((nth (row A i) 3).bool) ((nth (row A i) 4).list) ((nth (row A i) 5).list) ((nth (row A i) 6).list) ((nth (row A i) 7).list) ((nth (row A i) 8).int)).2.1), TC.b ((qk_rv ((nth (row A i) 0).int) ((nth (row A i) 1).int) ((nth (row A i) 2).bool) ((nth (row A i) 3).bool) ((nth (row A i) 4).list) ((nth (row A i) 5).list) ((nth (row A i) 6).list) ((nth (row A i) 7).list) ((nth (row A i) 8).int)).2.2.1), TC.b ((qk_rv ((nth (row A i) 0).int) ((nth (row A i) 1).int) ((nth (row A i) 2).bool) ((nth (row A i) 3).bool) ((nth (row A i) 4).list) ((nth (row A i) 5).list) ((nth (row A i) 6).list) ((nth (row A i) 7).list) ((nth (row A i) 8).int)).2.2.2.1), TC.l ((qk_rv ((nth (row A i) 0).int) ((nth (row A i) 1).int) ((nth (row A i) 2).bool) ((nth (row A i) 3).bool) ((nth (row A i) 4).list) ((nth (row A i) 5).list) ((nth (row A i) 6).list) ((nth (row A i) 7).list) ((nth (row A i) 8).int)).2.2.2.2.1), TC.l ((qk_rv ((nth (row A i) 0).int) ((nth (row A i) 1).int) ((nth (row A i) 2).bool) ((nth (row A i) 3).bool) ((nth (row A i) 4).list) ((nth (row A i) 5).list) ((nth (row A i) 6).list) ((nth (row A i) 7).list) ((nth (row A i) 8).int)).2.2.2.2.2.1), TC.l ((qk_rv ((nth (row A i) 0).int) ((nth (row A i) 1).int) ((nth (row A i) 2).bool) ((nth (row A i) 3).bool) ((nth (row A i) 4).list) ((nth (row A i) 5).list) ((nth (row A i) 6).list) ((nth (row A i) 7).list) ((nth (row A i) 8).int)).2.2.2.2.2.2.1), TC.l ((qk_rv ((nth (row A i) 0).int) ((nth (row A i) 1).int) ((nth (row A i) 2).bool) ((nth (row A i) 3).bool) ((nth (row A i) 4).list) ((nth (row A i) 5).list) ((nth (row A i) 6).list) ((nth (row A i) 7).list) ((nth (row A i) 8).int)).2.2.2.2.2.2.2.1), TC.i ((qk_rv ((nth (row A i) 0).int) ((nth (row A i) 1).int) ((nth (row A i) 2).bool) ((nth (row A i) 3).bool) ((nth (row A i) 4).list) ((nth (row A i) 5).list) ((nth (row A i) 6).list) ((nth (row A i) 7).list) ((nth (row A i) 8).int)).2.2.2.2.2.2.2.2)])), (IntKind.wrap .i64 (i + (1 : Int))))))
     .no)
    .no)
   .no)
  (.ok (.inr X)))
noncomputable def qbq_3_st : qbq_3_σ → Tr (qbq_3_σ ⊕ qbq_3_ω) := fun x => (qbq_3_step (x.1) (x.2.1) (x.2.2))
noncomputable def qbq_o3_1 (A X : LL) (i : Int) : Bool := is (Typed tab (.slice 27) (.l A) ∧ (∀ x : List TC, x ∈ A → (qk_rc ((nth x 0).int) ((nth x 1).int) ((nth x 2).bool) ((nth x 3).bool) ((nth x 4).list) ((nth x 5).list) ((nth x 6).list) ((nth x 7).list) ((nth x 8).int)) = true) ∧ X = List.replicate A.length qbq_z ∧ i = 0)
noncomputable def qbq_3_fin (A X : LL) (i : Int) : Told qbq_3_ω := (.leaf (qbq_o3_1 A X i) A)
def qbq_3_sl (x : qbq_3_σ) : List Slot := [⟨.val false [⟨.slice 27, .sh, TC.l (x.1)⟩], ⟨0, 0⟩⟩, ⟨.val false [⟨.slice 32, .own true, TC.l (x.2.1)⟩], ⟨0, 0⟩⟩, ⟨.val false [⟨.int .i64, .sh, TC.i (x.2.2)⟩], ⟨0, 0⟩⟩]
def qbq_3_out : qbq_3_ω → Ex × List Slot := (fun x => (.exit 0, [Slot.none, ⟨.val false [⟨.slice 32, .own true, TC.l x⟩], ⟨0, 0⟩⟩]))
noncomputable def qbq_lo3 : List Slot → Option (Told (Ex × List Slot)) := fun s => match s with
  | [⟨.val false [⟨.slice 27, .sh, TC.l A⟩], ⟨0, 0⟩⟩, ⟨.val false [⟨.slice 32, .own true, TC.l X⟩], ⟨0, 0⟩⟩, ⟨.val false [⟨.int .i64, .sh, TC.i i⟩], ⟨0, 0⟩⟩] => some (((qbq_3_fin A X i)).map qbq_3_out)
  | _ => .none
noncomputable def qbq_lo : LoopTeller := fun r s => bif Nat.beq r 3 then qbq_lo3 s else .none
theorem qbq_3_r (A X : LL) (i : Int) (fuel : Nat) : rounds (rnd tab FT D11 live 35 qbq_lo 0 3) leave (fuel + 1) (qbq_3_sl (A, X, i)) = ((qbq_3_step A X i)).run (goOn (fun s => rounds (rnd tab FT D11 live 35 qbq_lo 0 3) leave fuel (qbq_3_sl s)) fun w => some (qbq_3_out w)) := by kernel_rfl
theorem qbq_3_h (A X : LL) (i : Int) (ow : qbq_3_ω) : ((qbq_3_fin A X i)).val = some ow → ∃ fuel, loopN qbq_3_st fuel (A, X, i) = some ow := by
  intro h
  refine auto_leaf (R := A) (fun ho => ?_) h
  obtain ⟨ht, hr0, rfl, rfl⟩ := is_iff.1 ho
  have hlen : A.length ≤ 140737488351232 := by have := typed_room ht; simp only [show (tab 27).bytes = 128 from rfl] at this; omega
  have key := loopN_copy (step := qbq_3_st) A (List.replicate A.length qbq_z) qbq_g (fun Y i => (A, Y, (i : Int))) (A.map qbq_g) (by simp) (fun x hx i _ => by rw [(List.mem_replicate.1 hx).2]; exact Nat.le_refl 9) (fun Y i hi hl => ?_) ?_ A.length 0 (by omega)
  · rw [copied_zero, qbq_id ht] at key
    exact ⟨_, key⟩
  · have c4 : Typed tab (.slice 9) (.l (nth (A.getD i []) 4).list) := typed_list (typed_cell ht (A.getD i []) (mem_getD hi) 4 (by decide))
    have c5 : Typed tab (.slice 2) (.l (nth (A.getD i []) 5).list) := typed_list (typed_cell ht (A.getD i []) (mem_getD hi) 5 (by decide))
    have c6 : Typed tab (.slice 67) (.l (nth (A.getD i []) 6).list) := typed_list (typed_cell ht (A.getD i []) (mem_getD hi) 6 (by decide))
    have c7 : Typed tab (.slice 27) (.l (nth (A.getD i []) 7).list) := typed_list (typed_cell ht (A.getD i []) (mem_getD hi) 7 (by decide))
    show (qbq_3_step A Y (i : Int)).val = _
    unfold qbq_3_step
    refine Tr.t (by simp; omega) ?_
    refine Tr.t (by first | omega | (constructor <;> omega)) ?_
    refine Tr.t (hr0 (A.getD i []) (mem_getD hi)) ?_
    refine Tr.t (by first | omega | (constructor <;> omega)) ?_
    rw [Tr.val_ok, wrap64 (i := (i : Int) + 1) (by omega) (by omega)]; rfl
  · show (qbq_3_step A (A.map qbq_g) (A.length : Int)).val = _
    refine Tr.n (by simp) ?_
    rfl
theorem qbq_is3 : LoopIs tab FT D11 live 35 qbq_lo 0 3 := by
  refine loop_told (sl := qbq_3_sl) (step := qbq_3_st) (out := qbq_3_out) (lor := qbq_lo3) (fin := fun x => (qbq_3_fin (x.1) (x.2.1) (x.2.2))) (fun _ => rfl) ?_ (fun x n => qbq_3_r x.1 x.2.1 x.2.2 n) (fun x ow => qbq_3_h x.1 x.2.1 x.2.2 ow)
  intro s t h
  unfold qbq_lo3 at h
  split at h
  · cases h; exact ⟨(_, _, _), rfl, rfl⟩
  · cases h
noncomputable def qbq_t (A : LL) : Tr (LL) := (.ite (0 ≤ (A.length : Int) ∧ (A.length : Int) ≤ (A.length : Int) ∧ (A.length : Int) * 128 ≤ 140737488355328 ∧ (A.length : Int) ≤ 140737488355328) (.ite ((qbq_o3_1 A (List.replicate ((A.length : Int)).toNat [TC.i (0 : Int), TC.i (0 : Int), TC.b false, TC.b false, TC.l [], TC.l [], TC.l [], TC.l [], TC.i (0 : Int)]) (0 : Int)) = true) (.ok A)
   .no)
  .no)
def qbq_mk (p : LL) : Res := [(false, [⟨.slice 32, .own true, TC.l p⟩])]
noncomputable def qbq_c (A : LL) : Bool := is (Typed tab (.slice 27) (.l A) ∧ (∀ x : List TC, x ∈ A → (qk_rc ((nth x 0).int) ((nth x 1).int) ((nth x 2).bool) ((nth x 3).bool) ((nth x 4).list) ((nth x 5).list) ((nth x 6).list) ((nth x 7).list) ((nth x 8).int)) = true))
noncomputable def qbq_v (A : LL) : LL := A
theorem qbq_l (A : LL) : (qbq_c A) = true → (qbq_t A).val = some (qbq_v A) := by
  intro h
  obtain ⟨ht, hr0⟩ := is_iff.1 h
  have hb := typed_room ht
  simp only [show (tab 27).bytes = 128 from rfl] at hb
  unfold qbq_t
  refine Tr.t (by omega) ?_
  refine Tr.t (is_true ⟨ht, hr0, by rfl, rfl⟩) ?_
  rfl
noncomputable def qbq_S : List Arg → Option (Bool × Res) := fun xs => match xs with
  | [(false, [(.slice 27, TC.l A)])] => some ((qbq_c A), qbq_mk (qbq_v A))
  | _ => .none
theorem qbq_e (A : LL) : runF tab FT D11 live 35 qbq_lo [(false, [(.slice 27, TC.l A)])] = (qbq_t A).run fun p => some (qbq_mk p) := by kernel_rfl
theorem qbq_s : ∀ xs r, qbq_S xs = some (true, r) → runF tab FT D11 live 35 qbq_lo xs = some r := by
  intro xs r h
  unfold qbq_S at h
  split at h
  · simp only [Option.some.injEq, Prod.mk.injEq] at h
    obtain ⟨h1, rfl⟩ := h
    exact fun_told (qbq_e _) (qbq_l _) h1
  · cases h
noncomputable def D12 : Dt := also D11 35 qbq_S
theorem d12 : DOk Go.Proofs.Try.prog tab D12 := d11.also mixed_ok tab_ok names_ok (fnLoops_one (by kernel_rfl) qbq_is3) qbq_s
theorem qbq_ty {A : LL} (h : Typed tab (.slice 27) (.l A)) : Typed tab (.slice 32) (.l A) := typed_iso iso_ok h (by decide)
noncomputable def qk_t (x0 x1 : Int) (x2 x3 : Bool) (x4 x5 x6 x7 : LL) (x8 : Int) : Tr (Int × Int × Bool × Bool × LL × LL × LL × LL × Int) := (.ite ((qbj_c x4) = true) (.ite ((qbn_c x5) = true) (.ite ((qbi_c x6) = true) (.ite ((qbq_c x7) = true) (.ok (x0, x1, x2, x3, (qbj_v x4), (qbn_v x5), (qbi_v x6), (qbq_v x7), x8))
     .no)
    .no)
   .no)
  .no)
def qk_mk (p : Int × Int × Bool × Bool × LL × LL × LL × LL × Int) : Res := [(true, [⟨.int .i64, .sh, TC.i (p.1)⟩, ⟨.int .i64, .sh, TC.i (p.2.1)⟩, ⟨.bool, .sh, TC.b (p.2.2.1)⟩, ⟨.bool, .sh, TC.b (p.2.2.2.1)⟩, ⟨.slice 9, .own true, TC.l (p.2.2.2.2.1)⟩, ⟨.slice 2, .own true, TC.l (p.2.2.2.2.2.1)⟩, ⟨.slice 71, .own true, TC.l (p.2.2.2.2.2.2.1)⟩, ⟨.slice 32, .own true, TC.l (p.2.2.2.2.2.2.2.1)⟩, ⟨.int .i64, .sh, TC.i (p.2.2.2.2.2.2.2.2)⟩])]
noncomputable def qk_c (x0 x1 : Int) (x2 x3 : Bool) (x4 x5 x6 x7 : LL) (x8 : Int) : Bool := ((qbj_c x4) && ((qbn_c x5) && ((qbi_c x6) && ((qbq_c x7) && true))))
noncomputable def qk_v (x0 x1 : Int) (x2 x3 : Bool) (x4 x5 x6 x7 : LL) (x8 : Int) : Int × Int × Bool × Bool × LL × LL × LL × LL × Int := (x0, x1, x2, x3, (qbj_v x4), (qbn_v x5), (qbi_v x6), (qbq_v x7), x8)
theorem qk_l (x0 x1 : Int) (x2 x3 : Bool) (x4 x5 x6 x7 : LL) (x8 : Int) : (qk_c x0 x1 x2 x3 x4 x5 x6 x7 x8) = true → (qk_t x0 x1 x2 x3 x4 x5 x6 x7 x8).val = some (qk_v x0 x1 x2 x3 x4 x5 x6 x7 x8) := by
  unfold qk_t qk_v qk_c
  exact fun h => (Tr.gb h fun h => (Tr.gb h fun h => (Tr.gb h fun h => (Tr.gb h fun h => rfl))))
theorem qk_e (x0 x1 : Int) (x2 x3 : Bool) (x4 x5 x6 x7 : LL) (x8 : Int) : runF tab FT D12 live 11 noLoops [(true, [(.int .i64, TC.i x0), (.int .i64, TC.i x1), (.bool, TC.b x2), (.bool, TC.b x3), (.slice 9, TC.l x4), (.slice 2, TC.l x5), (.slice 67, TC.l x6), (.slice 27, TC.l x7), (.int .i64, TC.i x8)])] = (qk_t x0 x1 x2 x3 x4 x5 x6 x7 x8).run fun p => some (qk_mk p) := by kernel_rfl
theorem qk_nx (x0 x1 : Int) (x2 x3 : Bool) (x4 x5 x6 x7 : LL) (x8 : Int) : is (max (rowsDep x6) (rowsDep x7) < qk_O.n + 1 ∧ Typed tab (.slice 9) (.l x4) ∧ Typed tab (.slice 2) (.l x5) ∧ Typed tab (.slice 67) (.l x6) ∧ Typed tab (.slice 27) (.l x7)) = true → (qk_c x0 x1 x2 x3 x4 x5 x6 x7 x8) = true ∧ (qk_v x0 x1 x2 x3 x4 x5 x6 x7 x8) = (x0, x1, x2, x3, x4, x5, x6, x7, x8) := by
  intro h
  obtain ⟨hM, t4, t5, t6, t7⟩ := is_iff.1 h
  refine ⟨?_, rfl⟩
  unfold qk_c
  refine andT (by exact is_true t4) ?_
  refine andT (by exact is_true t5) ?_
  refine andT (by exact is_true ⟨t6, fun x hx => is_true ⟨by have a := dep_cell hx 8; have b := dep_cell hx 9; omega, typed_list ((typed_elem t6 hx).2 6 (by decide)), typed_list ((typed_elem t6 hx).2 7 (by decide)), typed_list ((typed_elem t6 hx).2 8 (by decide)), typed_list ((typed_elem t6 hx).2 9 (by decide))⟩⟩) ?_
  refine andT (by exact is_true ⟨t7, fun x hx => is_true ⟨by have a := dep_cell hx 6; have b := dep_cell hx 7; omega, typed_list ((typed_elem t7 hx).2 4 (by decide)), typed_list ((typed_elem t7 hx).2 5 (by decide)), typed_list ((typed_elem t7 hx).2 6 (by decide)), typed_list ((typed_elem t7 hx).2 7 (by decide))⟩⟩) ?_
  rfl
theorem qk_nxr (x0 x1 : Int) (x2 x3 : Bool) (x4 x5 x6 x7 : LL) (x8 : Int) : qk_rc (i_laws_toType := ⟨qk_O.n + 1⟩) x0 x1 x2 x3 x4 x5 x6 x7 x8 = true → (qk_c x0 x1 x2 x3 x4 x5 x6 x7 x8) = true ∧ (qk_v x0 x1 x2 x3 x4 x5 x6 x7 x8) = (qk_rv x0 x1 x2 x3 x4 x5 x6 x7 x8) := fun h => qk_nx x0 x1 x2 x3 x4 x5 x6 x7 x8 h
theorem qk_rs : ∀ xs r, qk_rS (i_laws_toType := ⟨qk_O.n + 1⟩) xs = some (true, r) → runF tab FT D12 live 11 noLoops xs = some r := by
  intro xs r h
  unfold qk_rS at h
  split at h
  · simp only [Option.some.injEq, Prod.mk.injEq] at h
    obtain ⟨h1, rfl⟩ := h
    have hx := qk_nxr _ _ _ _ _ _ _ _ _ h1
    have ht := fun_told (qk_e _ _ _ _ _ _ _ _ _) (qk_l _ _ _ _ _ _ _ _ _) hx.1
    rw [hx.2] at ht
    exact ht
  · cases h
theorem qk_step : qk_G (i_laws_toType := ⟨qk_O.n + 1⟩) := by
  have h := DOk.also2 (S := qk_rS (i_laws_toType := ⟨qk_O.n + 1⟩)) mixed_ok tab_ok names_ok d8 d12 noLoops_ok qk_rs
  refine qk_G.mk (i_laws_toType := ⟨qk_O.n + 1⟩) ?_
  exact h
section
class qt_O where n : Nat
variable [i_spec_l02Size : qt_O]
noncomputable def qt_rc (k s : Int) (sg bg : Bool) (NA NU ME BA : LL) (ct : Int) : Bool := is (rowsDep BA < qt_O.n ∧ sizeC k BA = true)
noncomputable def qt_rv (k s : Int) (sg bg : Bool) (NA NU ME BA : LL) (ct : Int) : Int := sizeV k s BA ct
def qt_rmk (p : Int) : Res := [(false, [⟨.int .i64, .sh, TC.i p⟩])]
noncomputable def qt_rS : List Arg → Option (Bool × Res) := fun xs => match xs with
  | [(true, [(.int .i64, TC.i k), (.int .i64, TC.i s), (.bool, TC.b sg), (.bool, TC.b bg), (.slice 9, TC.l NA), (.slice 2, TC.l NU), (.slice 71, TC.l ME), (.slice 32, TC.l BA), (.int .i64, TC.i ct)])] => some ((qt_rc k s sg bg NA NU ME BA ct), qt_rmk (qt_rv k s sg bg NA NU ME BA ct))
  | _ => .none
noncomputable def D13 : Dt := also D12 69 qt_rS
class qt_G : Prop where ok : DOk Go.Proofs.Try.prog tab D13
variable [g_spec_l02Size : qt_G]
theorem d13 : DOk Go.Proofs.Try.prog tab D13 := qt_G.ok
noncomputable def qt_t (k s : Int) (sg bg : Bool) (NA NU ME BA : LL) (ct : Int) : Tr (Int) := (.ite ((k == (3 : Int)) = true) (.ite ((0 : Int) ≤ (0 : Int) ∧ (0 : Int) < (BA.length : Int)) (.ok ((nth (row BA (0 : Int)) 1).int))
   .no)
  (.ite ((k == (5 : Int)) = true) (.ite ((0 : Int) ≤ (0 : Int) ∧ (0 : Int) < (BA.length : Int)) (.ite ((qt_rc ((nth (row BA (0 : Int)) 0).int) ((nth (row BA (0 : Int)) 1).int) ((nth (row BA (0 : Int)) 2).bool) ((nth (row BA (0 : Int)) 3).bool) ((nth (row BA (0 : Int)) 4).list) ((nth (row BA (0 : Int)) 5).list) ((nth (row BA (0 : Int)) 6).list) ((nth (row BA (0 : Int)) 7).list) ((nth (row BA (0 : Int)) 8).int)) = true) (.ok (IntKind.wrap .i64 (ct * (qt_rv ((nth (row BA (0 : Int)) 0).int) ((nth (row BA (0 : Int)) 1).int) ((nth (row BA (0 : Int)) 2).bool) ((nth (row BA (0 : Int)) 3).bool) ((nth (row BA (0 : Int)) 4).list) ((nth (row BA (0 : Int)) 5).list) ((nth (row BA (0 : Int)) 6).list) ((nth (row BA (0 : Int)) 7).list) ((nth (row BA (0 : Int)) 8).int)))))
     .no)
    .no)
   (.ok s)))
def qt_mk (p : Int) : Res := [(false, [⟨.int .i64, .sh, TC.i p⟩])]
noncomputable def qt_c (k s : Int) (sg bg : Bool) (NA NU ME BA : LL) (ct : Int) : Bool := (bif (k == (3 : Int)) then (is ((0 : Int) ≤ (0 : Int) ∧ (0 : Int) < (BA.length : Int)) && true) else (bif (k == (5 : Int)) then (is ((0 : Int) ≤ (0 : Int) ∧ (0 : Int) < (BA.length : Int)) && ((qt_rc ((nth (row BA (0 : Int)) 0).int) ((nth (row BA (0 : Int)) 1).int) ((nth (row BA (0 : Int)) 2).bool) ((nth (row BA (0 : Int)) 3).bool) ((nth (row BA (0 : Int)) 4).list) ((nth (row BA (0 : Int)) 5).list) ((nth (row BA (0 : Int)) 6).list) ((nth (row BA (0 : Int)) 7).list) ((nth (row BA (0 : Int)) 8).int)) && true)) else true))
noncomputable def qt_v (k s : Int) (sg bg : Bool) (NA NU ME BA : LL) (ct : Int) : Int := (bif (k == (3 : Int)) then (nth (row BA (0 : Int)) 1).int else (bif (k == (5 : Int)) then (IntKind.wrap .i64 (ct * (qt_rv ((nth (row BA (0 : Int)) 0).int) ((nth (row BA (0 : Int)) 1).int) ((nth (row BA (0 : Int)) 2).bool) ((nth (row BA (0 : Int)) 3).bool) ((nth (row BA (0 : Int)) 4).list) ((nth (row BA (0 : Int)) 5).list) ((nth (row BA (0 : Int)) 6).list) ((nth (row BA (0 : Int)) 7).list) ((nth (row BA (0 : Int)) 8).int)))) else s))
theorem qt_l (k s : Int) (sg bg : Bool) (NA NU ME BA : LL) (ct : Int) : (qt_c k s sg bg NA NU ME BA ct) = true → (qt_t k s sg bg NA NU ME BA ct).val = some (qt_v k s sg bg NA NU ME BA ct) := by
  unfold qt_t qt_v qt_c
  exact fun h => (Tr.ss h (fun h => (Tr.gs h fun h => rfl)) (fun h => (Tr.ss h (fun h => (Tr.gs h fun h => (Tr.gb h fun h => rfl))) (fun h => rfl))))
theorem qt_e (k s : Int) (sg bg : Bool) (NA NU ME BA : LL) (ct : Int) : runF tab FT D13 live 69 noLoops [(true, [(.int .i64, TC.i k), (.int .i64, TC.i s), (.bool, TC.b sg), (.bool, TC.b bg), (.slice 9, TC.l NA), (.slice 2, TC.l NU), (.slice 71, TC.l ME), (.slice 32, TC.l BA), (.int .i64, TC.i ct)])] = (qt_t k s sg bg NA NU ME BA ct).run fun p => some (qt_mk p) := by kernel_rfl
theorem qt_nx (k s : Int) (sg bg : Bool) (NA NU ME BA : LL) (ct : Int) : is (rowsDep BA < qt_O.n + 1 ∧ sizeC k BA = true) = true → (qt_c k s sg bg NA NU ME BA ct) = true ∧ (qt_v k s sg bg NA NU ME BA ct) = sizeV k s BA ct := by
  intro h
  obtain ⟨hM, hC⟩ := is_iff.1 h
  unfold qt_c qt_v
  rw [sizeC] at hC
  rw [sizeV]
  cases h3 : (k == 3) with
  | true =>
    simp only [h3, cond_true, decide_eq_true_eq] at hC
    exact ⟨andT (is_true (by constructor <;> omega)) rfl, rfl⟩
  | false =>
    cases h5 : (k == 5) with
    | true =>
      simp only [h3, h5, cond_true, cond_false] at hC ⊢
      split at hC
      · rename_i hb
        rw [dif_pos hb]
        have := pos_row hb 7
        exact ⟨andT (is_true (by constructor <;> omega)) (andT (is_true ⟨by omega, hC⟩) rfl), rfl⟩
      · cases hC
    | false => exact ⟨rfl, rfl⟩
theorem qt_nxr (k s : Int) (sg bg : Bool) (NA NU ME BA : LL) (ct : Int) : qt_rc (i_spec_l02Size := ⟨qt_O.n + 1⟩) k s sg bg NA NU ME BA ct = true → (qt_c k s sg bg NA NU ME BA ct) = true ∧ (qt_v k s sg bg NA NU ME BA ct) = (qt_rv k s sg bg NA NU ME BA ct) := fun h => qt_nx k s sg bg NA NU ME BA ct h
theorem qt_rs : ∀ xs r, qt_rS (i_spec_l02Size := ⟨qt_O.n + 1⟩) xs = some (true, r) → runF tab FT D13 live 69 noLoops xs = some r := by
  intro xs r h
  unfold qt_rS at h
  split at h
  · simp only [Option.some.injEq, Prod.mk.injEq] at h
    obtain ⟨h1, rfl⟩ := h
    have hx := qt_nxr _ _ _ _ _ _ _ _ _ h1
    have ht := fun_told (qt_e _ _ _ _ _ _ _ _ _) (qt_l _ _ _ _ _ _ _ _ _) hx.1
    rw [hx.2] at ht
    exact ht
  · cases h
theorem qt_step : qt_G (i_spec_l02Size := ⟨qt_O.n + 1⟩) := by
  have h := DOk.also2 (S := qt_rS (i_spec_l02Size := ⟨qt_O.n + 1⟩)) mixed_ok tab_ok names_ok d12 d13 noLoops_ok qt_rs
  refine qt_G.mk (i_spec_l02Size := ⟨qt_O.n + 1⟩) ?_
  exact h
section
class qi_O where n : Nat
variable [i_spec_l02Depth : qi_O]
noncomputable def qi_rc (k s : Int) (sg bg : Bool) (NA NU ME BA : LL) (ct : Int) : Bool := is (max (rowsDep ME) (rowsDep BA) < qi_O.n ∧ depthC k ME BA = true ∧ Typed tab (.slice 71) (.l ME) ∧ Typed tab (.slice 32) (.l BA))
noncomputable def qi_rv (k s : Int) (sg bg : Bool) (NA NU ME BA : LL) (ct : Int) : Int := depthV k ME BA
def qi_rmk (p : Int) : Res := [(false, [⟨.int .i64, .sh, TC.i p⟩])]
noncomputable def qi_rS : List Arg → Option (Bool × Res) := fun xs => match xs with
  | [(true, [(.int .i64, TC.i k), (.int .i64, TC.i s), (.bool, TC.b sg), (.bool, TC.b bg), (.slice 9, TC.l NA), (.slice 2, TC.l NU), (.slice 71, TC.l ME), (.slice 32, TC.l BA), (.int .i64, TC.i ct)])] => some ((qi_rc k s sg bg NA NU ME BA ct), qi_rmk (qi_rv k s sg bg NA NU ME BA ct))
  | _ => .none
noncomputable def D14 : Dt := also D13 70 qi_rS
class qi_G : Prop where ok : DOk Go.Proofs.Try.prog tab D14
variable [g_spec_l02Depth : qi_G]
theorem d14 : DOk Go.Proofs.Try.prog tab D14 := qi_G.ok
noncomputable def qco_t (a0 a1 : Int) : Tr (Int) := (.ite ((decide (a0 > a1)) = true) (.ok a0)
  (.ok a1))
def qco_mk (p : Int) : Res := [(false, [⟨.int .i64, .sh, TC.i p⟩])]
noncomputable def qco_c (a0 a1 : Int) : Bool := true
noncomputable def qco_v (a0 a1 : Int) : Int := (bif (decide (a0 > a1)) then a0 else a1)
theorem qco_l (a0 a1 : Int) : (qco_c a0 a1) = true → (qco_t a0 a1).val = some (qco_v a0 a1) := by
  intro h
  skip
  unfold qco_t qco_v
  exact (Tr.s rfl rfl)
noncomputable def qco_S : List Arg → Option (Bool × Res) := fun xs => match xs with
  | [(false, [(.int .i64, TC.i a0)]), (false, [(.int .i64, TC.i a1)])] => some (true, qco_mk (qco_v a0 a1))
  | _ => .none
theorem qco_e (a0 a1 : Int) : runF tab FT D14 live 87 noLoops [(false, [(.int .i64, TC.i a0)]), (false, [(.int .i64, TC.i a1)])] = (qco_t a0 a1).run fun p => some (qco_mk p) := by kernel_rfl
theorem qco_s : ∀ xs r, qco_S xs = some (true, r) → runF tab FT D14 live 87 noLoops xs = some r := by
  intro xs r h
  unfold qco_S at h
  split at h
  · simp only [Option.some.injEq, Prod.mk.injEq] at h
    obtain ⟨h1, rfl⟩ := h
    exact fun_told (qco_e _ _) (qco_l _ _) rfl
  · cases h
noncomputable def D15 : Dt := also D14 87 qco_S
theorem d15 : DOk Go.Proofs.Try.prog tab D15 := d14.also mixed_ok tab_ok names_ok noLoops_ok qco_s
noncomputable def qi_f5 (k s : Int) (sg bg : Bool) (NA NU ME BA : LL) (ct i d : Int) : (Int) ⊕ ((Int)) := (.inl (qco_v d (qi_rv ((nth (row ME i) 2).int) ((nth (row ME i) 3).int) ((nth (row ME i) 4).bool) ((nth (row ME i) 5).bool) ((nth (row ME i) 6).list) ((nth (row ME i) 7).list) ((nth (row ME i) 8).list) ((nth (row ME i) 9).list) ((nth (row ME i) 10).int))))
noncomputable def qi_e5 (k s : Int) (sg bg : Bool) (NA NU ME BA : LL) (ct d : Int) : (Int) := d
noncomputable def qi_R5 (k s : Int) (sg bg : Bool) (NA NU ME BA : LL) (ct d i : Int) : (Int) := iter (fun i a => (qi_f5 k s sg bg NA NU ME BA ct (i : Int) a)) (fun a => (qi_e5 k s sg bg NA NU ME BA ct a)) (ME.length) 0 d
abbrev qi_5_σ := Int × Int × Bool × Bool × LL × LL × LL × LL × Int × Int × Int
abbrev qi_5_ω := (Int)
noncomputable def qi_5_step (k s : Int) (sg bg : Bool) (NA NU ME BA : LL) (ct d i : Int) : Tr (qi_5_σ ⊕ qi_5_ω) := (.ite ((decide (i < (ME.length : Int))) = true) (.ite ((0 : Int) ≤ i ∧ i < (ME.length : Int)) (.ite ((qi_rc ((nth (row ME i) 2).int) ((nth (row ME i) 3).int) ((nth (row ME i) 4).bool) ((nth (row ME i) 5).bool) ((nth (row ME i) 6).list) ((nth (row ME i) 7).list) ((nth (row ME i) 8).list) ((nth (row ME i) 9).list) ((nth (row ME i) 10).int)) = true) (.ok (.inl (k, s, sg, bg, NA, NU, ME, BA, ct, (qco_v d (qi_rv ((nth (row ME i) 2).int) ((nth (row ME i) 3).int) ((nth (row ME i) 4).bool) ((nth (row ME i) 5).bool) ((nth (row ME i) 6).list) ((nth (row ME i) 7).list) ((nth (row ME i) 8).list) ((nth (row ME i) 9).list) ((nth (row ME i) 10).int))), (IntKind.wrap .i64 (i + (1 : Int))))))
    .no)
   .no)
  (.ok (.inr d)))
noncomputable def qi_5_st : qi_5_σ → Tr (qi_5_σ ⊕ qi_5_ω) := fun x => (qi_5_step (x.1) (x.2.1) (x.2.2.1) (x.2.2.2.1) (x.2.2.2.2.1) (x.2.2.2.2.2.1) (x.2.2.2.2.2.2.1) (x.2.2.2.2.2.2.2.1) (x.2.2.2.2.2.2.2.2.1) (x.2.2.2.2.2.2.2.2.2.1) (x.2.2.2.2.2.2.2.2.2.2))
noncomputable def qi_o5_1 (k s : Int) (sg bg : Bool) (NA NU ME BA : LL) (ct d i : Int) : Bool := is (i = 0 ∧ ME.length ≤ 140737488355328 ∧ (∀ x : List TC, x ∈ ME → qi_rc (nth x 2).int (nth x 3).int (nth x 4).bool (nth x 5).bool (nth x 6).list (nth x 7).list (nth x 8).list (nth x 9).list (nth x 10).int = true))
noncomputable def qi_u5_1 (k s : Int) (sg bg : Bool) (NA NU ME BA : LL) (ct d i : Int) : Int := (qi_R5 k s sg bg NA NU ME BA ct d i)
noncomputable def qi_5_fin (k s : Int) (sg bg : Bool) (NA NU ME BA : LL) (ct d i : Int) : Told qi_5_ω := (.leaf (qi_o5_1 k s sg bg NA NU ME BA ct d i) (qi_u5_1 k s sg bg NA NU ME BA ct d i))
def qi_5_sl (x : qi_5_σ) : List Slot := [⟨.bx 32 [⟨.int .i64, .sh, TC.i (x.1)⟩, ⟨.int .i64, .sh, TC.i (x.2.1)⟩, ⟨.bool, .sh, TC.b (x.2.2.1)⟩, ⟨.bool, .sh, TC.b (x.2.2.2.1)⟩, ⟨.slice 9, .sh, TC.l (x.2.2.2.2.1)⟩, ⟨.slice 2, .sh, TC.l (x.2.2.2.2.2.1)⟩, ⟨.slice 71, .sh, TC.l (x.2.2.2.2.2.2.1)⟩, ⟨.slice 32, .sh, TC.l (x.2.2.2.2.2.2.2.1)⟩, ⟨.int .i64, .sh, TC.i (x.2.2.2.2.2.2.2.2.1)⟩], ⟨0, 0⟩⟩, ⟨.val false [⟨.int .i64, .sh, TC.i (x.2.2.2.2.2.2.2.2.2.1)⟩], ⟨0, 0⟩⟩, ⟨.val false [⟨.int .i64, .sh, TC.i (x.2.2.2.2.2.2.2.2.2.2)⟩], ⟨0, 0⟩⟩]
def qi_5_out : qi_5_ω → Ex × List Slot := (fun x => (.exit 1, [Slot.none, ⟨.val false [⟨.int .i64, .sh, TC.i x⟩], ⟨0, 0⟩⟩]))
noncomputable def qi_lo5 : List Slot → Option (Told (Ex × List Slot)) := fun s => match s with
  | [⟨.bx 32 [⟨.int .i64, .sh, TC.i k⟩, ⟨.int .i64, .sh, TC.i s⟩, ⟨.bool, .sh, TC.b sg⟩, ⟨.bool, .sh, TC.b bg⟩, ⟨.slice 9, .sh, TC.l NA⟩, ⟨.slice 2, .sh, TC.l NU⟩, ⟨.slice 71, .sh, TC.l ME⟩, ⟨.slice 32, .sh, TC.l BA⟩, ⟨.int .i64, .sh, TC.i ct⟩], ⟨0, 0⟩⟩, ⟨.val false [⟨.int .i64, .sh, TC.i d⟩], ⟨0, 0⟩⟩, ⟨.val false [⟨.int .i64, .sh, TC.i i⟩], ⟨0, 0⟩⟩] => some (((qi_5_fin k s sg bg NA NU ME BA ct d i)).map qi_5_out)
  | _ => .none
noncomputable def qi_lo : LoopTeller := fun r s => bif Nat.beq r 5 then qi_lo5 s else .none
theorem qi_5_r (k s : Int) (sg bg : Bool) (NA NU ME BA : LL) (ct d i : Int) (fuel : Nat) : rounds (rnd tab FT D15 live 70 qi_lo 0 5) leave (fuel + 1) (qi_5_sl (k, s, sg, bg, NA, NU, ME, BA, ct, d, i)) = ((qi_5_step k s sg bg NA NU ME BA ct d i)).run (goOn (fun s => rounds (rnd tab FT D15 live 70 qi_lo 0 5) leave fuel (qi_5_sl s)) fun w => some (qi_5_out w)) := by kernel_rfl
theorem qi_R5_eq (k s : Int) (sg bg : Bool) (NA NU ME BA : LL) (ct d : Int) : qi_R5 k s sg bg NA NU ME BA ct d 0 = ME.foldl (fun d x => maxI d (depthV (nth x 2).int (nth x 8).list (nth x 9).list)) d := by
  unfold qi_R5
  rw [← foldI_rows (g := fun d x => maxI d (depthV (nth x 2).int (nth x 8).list (nth x 9).list))]
  exact iter_each (g := fun i d => maxI d (depthV (nth (row ME (i : Int)) 2).int (nth (row ME (i : Int)) 8).list (nth (row ME (i : Int)) 9).list)) (fin := fun a => qi_e5 k s sg bg NA NU ME BA ct a) fun j a hj => rfl
theorem qi_5_h (k s : Int) (sg bg : Bool) (NA NU ME BA : LL) (ct d i : Int) (ow : qi_5_ω) : ((qi_5_fin k s sg bg NA NU ME BA ct d i)).val = some ow → ∃ fuel, loopN qi_5_st fuel (k, s, sg, bg, NA, NU, ME, BA, ct, d, i) = some ow := by
  refine auto_leaf (R := (qi_R5 k s sg bg NA NU ME BA ct d i)) ?_
  intro ho
  have ho : is (i = 0 ∧ ME.length ≤ 140737488355328 ∧ (∀ x : List TC, x ∈ ME → qi_rc (nth x 2).int (nth x 3).int (nth x 4).bool (nth x 5).bool (nth x 6).list (nth x 7).list (nth x 8).list (nth x 9).list (nth x 10).int = true)) = true := ho
  obtain ⟨rfl, hl, hr⟩ := is_iff.1 ho
  skip
  refine ⟨(ME.length) + 1, ?_⟩
  refine iter_loop (step := qi_5_st) (ME.length) (fun i a => (qi_f5 k s sg bg NA NU ME BA ct (i : Int) a)) (fun a => (qi_e5 k s sg bg NA NU ME BA ct a)) (fun i a => (k, s, sg, bg, NA, NU, ME, BA, ct, a, (i : Int))) (fun _ _ => True) trivial (fun i a hi hI => ⟨?_, fun _ _ => trivial⟩) (fun a hI => ?_)
  · show (qi_5_step k s sg bg NA NU ME BA ct a (i : Int)).val = _
    unfold qi_5_step qi_f5
    skip
    refine Tr.t (by simp; omega) ?_
    exact (Tr.t (by first | omega | (constructor <;> omega) | (exact hr _ (mem_getD (by omega)))) (Tr.t (by first | omega | (constructor <;> omega) | (exact hr _ (mem_getD (by omega)))) (by rw [Tr.val_ok, wrap64 (i := (i : Int) + 1) (by omega) (by omega)]; rfl)))
  · show (qi_5_step k s sg bg NA NU ME BA ct a (ME.length : Int)).val = _
    refine Tr.n (by first | (simp; done) | (simp; omega) | omega) ?_
    rfl
theorem qi_is5 : LoopIs tab FT D15 live 70 qi_lo 0 5 := by
  refine loop_told (sl := qi_5_sl) (step := qi_5_st) (out := qi_5_out) (lor := qi_lo5) (fin := fun x => (qi_5_fin (x.1) (x.2.1) (x.2.2.1) (x.2.2.2.1) (x.2.2.2.2.1) (x.2.2.2.2.2.1) (x.2.2.2.2.2.2.1) (x.2.2.2.2.2.2.2.1) (x.2.2.2.2.2.2.2.2.1) (x.2.2.2.2.2.2.2.2.2.1) (x.2.2.2.2.2.2.2.2.2.2))) (fun _ => rfl) ?_ (fun x n => qi_5_r x.1 x.2.1 x.2.2.1 x.2.2.2.1 x.2.2.2.2.1 x.2.2.2.2.2.1 x.2.2.2.2.2.2.1 x.2.2.2.2.2.2.2.1 x.2.2.2.2.2.2.2.2.1 x.2.2.2.2.2.2.2.2.2.1 x.2.2.2.2.2.2.2.2.2.2 n) (fun x ow => qi_5_h x.1 x.2.1 x.2.2.1 x.2.2.2.1 x.2.2.2.2.1 x.2.2.2.2.2.1 x.2.2.2.2.2.2.1 x.2.2.2.2.2.2.2.1 x.2.2.2.2.2.2.2.2.1 x.2.2.2.2.2.2.2.2.2.1 x.2.2.2.2.2.2.2.2.2.2 ow)
  intro s t h
  unfold qi_lo5 at h
  split at h
  · cases h; exact ⟨(_, _, _, _, _, _, _, _, _, _, _), rfl, rfl⟩
  · cases h
noncomputable def qi_t (k s : Int) (sg bg : Bool) (NA NU ME BA : LL) (ct : Int) : Tr (Int) := (.ite ((k == (4 : Int)) = true) (.ite ((qi_o5_1 k s sg bg NA NU ME BA ct (0 : Int) (0 : Int)) = true) (.ok (IntKind.wrap .i64 ((qi_u5_1 k s sg bg NA NU ME BA ct (0 : Int) (0 : Int)) + (1 : Int))))
   .no)
  (.ite ((k == (5 : Int)) = true) (.ite ((0 : Int) ≤ (0 : Int) ∧ (0 : Int) < (BA.length : Int)) (.ite ((qi_rc ((nth (row BA (0 : Int)) 0).int) ((nth (row BA (0 : Int)) 1).int) ((nth (row BA (0 : Int)) 2).bool) ((nth (row BA (0 : Int)) 3).bool) ((nth (row BA (0 : Int)) 4).list) ((nth (row BA (0 : Int)) 5).list) ((nth (row BA (0 : Int)) 6).list) ((nth (row BA (0 : Int)) 7).list) ((nth (row BA (0 : Int)) 8).int)) = true) (.ok (IntKind.wrap .i64 ((qi_rv ((nth (row BA (0 : Int)) 0).int) ((nth (row BA (0 : Int)) 1).int) ((nth (row BA (0 : Int)) 2).bool) ((nth (row BA (0 : Int)) 3).bool) ((nth (row BA (0 : Int)) 4).list) ((nth (row BA (0 : Int)) 5).list) ((nth (row BA (0 : Int)) 6).list) ((nth (row BA (0 : Int)) 7).list) ((nth (row BA (0 : Int)) 8).int)) + (1 : Int))))
     .no)
    .no)
   (.ok (1 : Int))))
def qi_mk (p : Int) : Res := [(false, [⟨.int .i64, .sh, TC.i p⟩])]
noncomputable def qi_c (k s : Int) (sg bg : Bool) (NA NU ME BA : LL) (ct : Int) : Bool := (bif (k == (4 : Int)) then ((qi_o5_1 k s sg bg NA NU ME BA ct (0 : Int) (0 : Int)) && true) else (bif (k == (5 : Int)) then (is ((0 : Int) ≤ (0 : Int) ∧ (0 : Int) < (BA.length : Int)) && ((qi_rc ((nth (row BA (0 : Int)) 0).int) ((nth (row BA (0 : Int)) 1).int) ((nth (row BA (0 : Int)) 2).bool) ((nth (row BA (0 : Int)) 3).bool) ((nth (row BA (0 : Int)) 4).list) ((nth (row BA (0 : Int)) 5).list) ((nth (row BA (0 : Int)) 6).list) ((nth (row BA (0 : Int)) 7).list) ((nth (row BA (0 : Int)) 8).int)) && true)) else true))
noncomputable def qi_v (k s : Int) (sg bg : Bool) (NA NU ME BA : LL) (ct : Int) : Int := (bif (k == (4 : Int)) then (IntKind.wrap .i64 ((qi_u5_1 k s sg bg NA NU ME BA ct (0 : Int) (0 : Int)) + (1 : Int))) else (bif (k == (5 : Int)) then (IntKind.wrap .i64 ((qi_rv ((nth (row BA (0 : Int)) 0).int) ((nth (row BA (0 : Int)) 1).int) ((nth (row BA (0 : Int)) 2).bool) ((nth (row BA (0 : Int)) 3).bool) ((nth (row BA (0 : Int)) 4).list) ((nth (row BA (0 : Int)) 5).list) ((nth (row BA (0 : Int)) 6).list) ((nth (row BA (0 : Int)) 7).list) ((nth (row BA (0 : Int)) 8).int)) + (1 : Int))) else (1 : Int)))
theorem qi_l (k s : Int) (sg bg : Bool) (NA NU ME BA : LL) (ct : Int) : (qi_c k s sg bg NA NU ME BA ct) = true → (qi_t k s sg bg NA NU ME BA ct).val = some (qi_v k s sg bg NA NU ME BA ct) := by
  unfold qi_t qi_v qi_c
  exact fun h => (Tr.ss h (fun h => (Tr.gb h fun h => rfl)) (fun h => (Tr.ss h (fun h => (Tr.gs h fun h => (Tr.gb h fun h => rfl))) (fun h => rfl))))
theorem qi_e (k s : Int) (sg bg : Bool) (NA NU ME BA : LL) (ct : Int) : runF tab FT D15 live 70 qi_lo [(true, [(.int .i64, TC.i k), (.int .i64, TC.i s), (.bool, TC.b sg), (.bool, TC.b bg), (.slice 9, TC.l NA), (.slice 2, TC.l NU), (.slice 71, TC.l ME), (.slice 32, TC.l BA), (.int .i64, TC.i ct)])] = (qi_t k s sg bg NA NU ME BA ct).run fun p => some (qi_mk p) := by kernel_rfl
theorem qi_nx (k s : Int) (sg bg : Bool) (NA NU ME BA : LL) (ct : Int) : is (max (rowsDep ME) (rowsDep BA) < qi_O.n + 1 ∧ depthC k ME BA = true ∧ Typed tab (.slice 71) (.l ME) ∧ Typed tab (.slice 32) (.l BA)) = true → (qi_c k s sg bg NA NU ME BA ct) = true ∧ (qi_v k s sg bg NA NU ME BA ct) = depthV k ME BA := by
  intro h
  obtain ⟨hM, hC, tM, tB⟩ := is_iff.1 h
  unfold qi_c qi_v
  rw [depthC] at hC
  rw [depthV]
  cases h4 : (k == 4) with
  | true =>
    simp only [h4, cond_true] at hC ⊢
    rw [attach_all (p := fun x => depthC (nth x 2).int (nth x 8).list (nth x 9).list), List.all_eq_true] at hC
    have hlen : ME.length ≤ 140737488351232 := by have := typed_room tM; simp only [show (tab 71).bytes = 152 from rfl] at this; omega
    refine ⟨andT (is_true ⟨rfl, by omega, fun x hx => is_true ⟨Nat.lt_of_lt_of_le (dep_max (BA := BA) hx 8 9) (by omega), hC x hx, typed_list ((typed_elem tM hx).2 8 (by decide)), typed_list ((typed_elem tM hx).2 9 (by decide))⟩⟩) rfl, ?_⟩
    show IntKind.wrap .i64 (qi_R5 k s sg bg NA NU ME BA ct 0 0 + 1) = _
    rw [qi_R5_eq, attach_foldl (f := fun d x => maxI d (depthV (nth x 2).int (nth x 8).list (nth x 9).list))]
  | false =>
    cases h5 : (k == 5) with
    | true =>
      simp only [h4, h5, cond_true, cond_false] at hC ⊢
      split at hC
      · rename_i hb
        rw [dif_pos hb]
        have := dep_base (ME := ME) hb 6 7
        exact ⟨andT (is_true (by constructor <;> omega)) (andT (is_true ⟨by omega, hC, typed_list ((typed_elem tB (mem_getD (i := 0) hb)).2 6 (by decide)), typed_list ((typed_elem tB (mem_getD (i := 0) hb)).2 7 (by decide))⟩) rfl), rfl⟩
      · cases hC
    | false => exact ⟨rfl, rfl⟩
theorem qi_nxr (k s : Int) (sg bg : Bool) (NA NU ME BA : LL) (ct : Int) : qi_rc (i_spec_l02Depth := ⟨qi_O.n + 1⟩) k s sg bg NA NU ME BA ct = true → (qi_c k s sg bg NA NU ME BA ct) = true ∧ (qi_v k s sg bg NA NU ME BA ct) = (qi_rv k s sg bg NA NU ME BA ct) := fun h => qi_nx k s sg bg NA NU ME BA ct h
theorem qi_rs : ∀ xs r, qi_rS (i_spec_l02Depth := ⟨qi_O.n + 1⟩) xs = some (true, r) → runF tab FT D15 live 70 qi_lo xs = some r := by
  intro xs r h
  unfold qi_rS at h
  split at h
  · simp only [Option.some.injEq, Prod.mk.injEq] at h
    obtain ⟨h1, rfl⟩ := h
    have hx := qi_nxr _ _ _ _ _ _ _ _ _ h1
    have ht := fun_told (qi_e _ _ _ _ _ _ _ _ _) (qi_l _ _ _ _ _ _ _ _ _) hx.1
    rw [hx.2] at ht
    exact ht
  · cases h
theorem qi_step : qi_G (i_spec_l02Depth := ⟨qi_O.n + 1⟩) := by
  have h := DOk.also2 (S := qi_rS (i_spec_l02Depth := ⟨qi_O.n + 1⟩)) mixed_ok tab_ok names_ok d13 d15 (fnLoops_one (by kernel_rfl) qi_is5) qi_rs
  refine qi_G.mk (i_spec_l02Depth := ⟨qi_O.n + 1⟩) ?_
  exact h
abbrev qv_2_σ := LL × Int × Int
abbrev qv_2_ω := (Unit) ⊕ (Unit)
noncomputable def qv_2_step (A : LL) (v i : Int) : Tr (qv_2_σ ⊕ qv_2_ω) := (.ite ((decide (i < (A.length : Int))) = true) (.ite ((0 : Int) ≤ i ∧ i < (A.length : Int)) (.ite (((nth (row A i) 0).int == v) = true) (.ok (.inr (.inl ())))
    (.ok (.inl (A, v, (IntKind.wrap .i64 (i + (1 : Int)))))))
   .no)
  (.ok (.inr (.inr ()))))
noncomputable def qv_2_st : qv_2_σ → Tr (qv_2_σ ⊕ qv_2_ω) := fun x => (qv_2_step (x.1) (x.2.1) (x.2.2))
noncomputable def qv_k2_1 (A : LL) (v i : Int) : Bool := A.all (fun x => !((nth x 0).int == v))
noncomputable def qv_o2_2 (A : LL) (v i : Int) : Bool := is (i = 0 ∧ A.length ≤ 140737488351232)
noncomputable def qv_o2_3 (A : LL) (v i : Int) : Bool := is (i = 0 ∧ A.length ≤ 140737488351232)
noncomputable def qv_2_fin (A : LL) (v i : Int) : Told qv_2_ω := (.br (qv_k2_1 A v i) (.leaf (qv_o2_2 A v i) (.inr ())) (.leaf (qv_o2_3 A v i) (.inl ())))
def qv_2_sl (x : qv_2_σ) : List Slot := [⟨.val false [⟨.slice 2, .sh, TC.l (x.1)⟩], ⟨0, 0⟩⟩, ⟨.val false [⟨.int .i64, .sh, TC.i (x.2.1)⟩], ⟨0, 0⟩⟩, ⟨.val false [⟨.int .i64, .sh, TC.i (x.2.2)⟩], ⟨0, 0⟩⟩]
def qv_2_out : qv_2_ω → Ex × List Slot := (Sum.elim (fun x => (.ret, [⟨.val false [⟨.bool, .sh, TC.b true⟩], ⟨0, 0⟩⟩])) (fun x => (.exit 0, [Slot.none])))
noncomputable def qv_lo2 : List Slot → Option (Told (Ex × List Slot)) := fun s => match s with
  | [⟨.val false [⟨.slice 2, .sh, TC.l A⟩], ⟨0, 0⟩⟩, ⟨.val false [⟨.int .i64, .sh, TC.i v⟩], ⟨0, 0⟩⟩, ⟨.val false [⟨.int .i64, .sh, TC.i i⟩], ⟨0, 0⟩⟩] => some (((qv_2_fin A v i)).map qv_2_out)
  | _ => .none
noncomputable def qv_lo : LoopTeller := fun r s => bif Nat.beq r 2 then qv_lo2 s else .none
theorem qv_2_r (A : LL) (v i : Int) (fuel : Nat) : rounds (rnd tab FT D15 live 98 qv_lo 0 2) leave (fuel + 1) (qv_2_sl (A, v, i)) = ((qv_2_step A v i)).run (goOn (fun s => rounds (rnd tab FT D15 live 98 qv_lo 0 2) leave fuel (qv_2_sl s)) fun w => some (qv_2_out w)) := by kernel_rfl
theorem qv_2_h (A : LL) (v i : Int) (ow : qv_2_ω) : ((qv_2_fin A v i)).val = some ow → ∃ fuel, loopN qv_2_st fuel (A, v, i) = some ow := by
  intro h
  have key : A.length ≤ 140737488351232 → loopN qv_2_st (A.length + 1) (A, v, (0 : Int)) = some (if A.all (fun x => !((nth x 0).int == v)) = true then (.inr ()) else (.inl ())) := by
    intro ht
    have hlen : A.length ≤ 140737488351232 := ht
    have key := loopN_scan (step := qv_2_st) A [] (fun x => !((nth x 0).int == v)) (fun a _ => a) (fun i a => (A, v, (i : Int))) (fun a => (.inr ())) (fun i a => (.inl ())) (fun i a hi => ?_) (fun a => ?_) A.length 0 () (by omega)
    · first | (rw [Nat.zero_add] at key; exact key) | exact key
    · skip
      show (qv_2_step A v (i : Int)).val = _
      unfold qv_2_step
      refine Tr.t (by simp; omega) ?_
      skip
      refine Tr.t (by first | omega | (constructor <;> omega)) ?_
      refine Tr.b2 (fun hP => ?_) (fun _ => rfl)
      rw [Tr.val_ok, wrap64 (i := (i : Int) + 1) (by omega) (by omega)]; rfl
    · show (qv_2_step A v (A.length : Int)).val = _
      refine Tr.n (by simp) ?_
      rfl
  simp only [qv_2_fin, Told.val] at h
  cases hk : A.all (fun x => !((nth x 0).int == v)) with
  | true =>
    rw [if_pos (show qv_k2_1 A v i = true from hk)] at h
    split at h
    · rename_i ho
      obtain ⟨rfl, ht⟩ := is_iff.1 ho
      cases h
      refine ⟨_, (key ht).trans ?_⟩
      rw [hk]; rfl
    · cases h
  | false =>
    rw [if_neg (show ¬qv_k2_1 A v i = true from by rw [show qv_k2_1 A v i = (A.all (fun x => !((nth x 0).int == v))) from rfl, hk]; simp)] at h
    split at h
    · rename_i ho
      obtain ⟨rfl, ht⟩ := is_iff.1 ho
      cases h
      refine ⟨_, (key ht).trans ?_⟩
      rw [hk]; rfl
    · cases h
theorem qv_is2 : LoopIs tab FT D15 live 98 qv_lo 0 2 := by
  refine loop_told (sl := qv_2_sl) (step := qv_2_st) (out := qv_2_out) (lor := qv_lo2) (fin := fun x => (qv_2_fin (x.1) (x.2.1) (x.2.2))) (fun _ => rfl) ?_ (fun x n => qv_2_r x.1 x.2.1 x.2.2 n) (fun x ow => qv_2_h x.1 x.2.1 x.2.2 ow)
  intro s t h
  unfold qv_lo2 at h
  split at h
  · cases h; exact ⟨(_, _, _), rfl, rfl⟩
  · cases h
noncomputable def qv_t (A : LL) (v : Int) : Tr (Bool) := (.ite ((qv_k2_1 A v (0 : Int)) = true) (.ite ((qv_o2_2 A v (0 : Int)) = true) (.ok false)
   .no)
  (.ite ((qv_o2_3 A v (0 : Int)) = true) (.ok true)
   .no))
def qv_mk (p : Bool) : Res := [(false, [⟨.bool, .sh, TC.b p⟩])]
noncomputable def qv_c (A : LL) (v : Int) : Bool := (bif (qv_k2_1 A v (0 : Int)) then ((qv_o2_2 A v (0 : Int)) && true) else ((qv_o2_3 A v (0 : Int)) && true))
noncomputable def qv_v (A : LL) (v : Int) : Bool := (bif (qv_k2_1 A v (0 : Int)) then false else true)
theorem qv_l (A : LL) (v : Int) : (qv_c A v) = true → (qv_t A v).val = some (qv_v A v) := by
  unfold qv_t qv_v qv_c
  exact fun h => (Tr.ss h (fun h => (Tr.gb h fun h => rfl)) (fun h => (Tr.gb h fun h => rfl)))
noncomputable def qv_S : List Arg → Option (Bool × Res) := fun xs => match xs with
  | [(false, [(.slice 2, TC.l A)]), (false, [(.int .i64, TC.i v)])] => some ((qv_c A v), qv_mk (qv_v A v))
  | _ => .none
theorem qv_e (A : LL) (v : Int) : runF tab FT D15 live 98 qv_lo [(false, [(.slice 2, TC.l A)]), (false, [(.int .i64, TC.i v)])] = (qv_t A v).run fun p => some (qv_mk p) := by kernel_rfl
theorem qv_s : ∀ xs r, qv_S xs = some (true, r) → runF tab FT D15 live 98 qv_lo xs = some r := by
  intro xs r h
  unfold qv_S at h
  split at h
  · simp only [Option.some.injEq, Prod.mk.injEq] at h
    obtain ⟨h1, rfl⟩ := h
    exact fun_told (qv_e _ _) (qv_l _ _) h1
  · cases h
noncomputable def D16 : Dt := also D15 98 qv_S
theorem d16 : DOk Go.Proofs.Try.prog tab D16 := d15.also mixed_ok tab_ok names_ok (fnLoops_one (by kernel_rfl) qv_is2) qv_s
theorem qv_cc {A : LL} {v : Int} (hl : A.length ≤ 140737488351232) : (qv_c A v) = true := by
  unfold qv_c
  refine bifT (fun b1 => ?_) (fun b1 => ?_)
  · skip
    refine andT (by exact is_true ⟨rfl, hl⟩) ?_
    rfl
  · skip
    refine andT (by exact is_true ⟨rfl, hl⟩) ?_
    rfl
noncomputable def qcn_t (k s : Int) (sg bg : Bool) (NA NU ME BA : LL) (ct : Int) : Tr (Bool) := (.ite ((qv_c [[TC.i (1 : Int)], [TC.i (2 : Int)], [TC.i (4 : Int)], [TC.i (8 : Int)]] s) = true) (.ite ((!(qv_v [[TC.i (1 : Int)], [TC.i (2 : Int)], [TC.i (4 : Int)], [TC.i (8 : Int)]] s)) = true) (.ok false)
   (.ite ((s == (8 : Int)) = true) (.ite ((!sg) = true) (.ok false)
     (.ite ((s == (1 : Int)) = true) (.ite (bg = true) (.ok false)
       (.ite (((NA.length : Int) == (0 : Int)) = true) (.ite (((NU.length : Int) == (0 : Int)) = true) (.ite (((ME.length : Int) == (0 : Int)) = true) (.ite (((BA.length : Int) == (0 : Int)) = true) (.ok (ct == (0 : Int)))
           (.ok false))
          (.ok false))
         (.ok false))
        (.ok false)))
      (.ite (((NA.length : Int) == (0 : Int)) = true) (.ite (((NU.length : Int) == (0 : Int)) = true) (.ite (((ME.length : Int) == (0 : Int)) = true) (.ite (((BA.length : Int) == (0 : Int)) = true) (.ok (ct == (0 : Int)))
          (.ok false))
         (.ok false))
        (.ok false))
       (.ok false))))
    (.ite ((s == (1 : Int)) = true) (.ite (bg = true) (.ok false)
      (.ite (((NA.length : Int) == (0 : Int)) = true) (.ite (((NU.length : Int) == (0 : Int)) = true) (.ite (((ME.length : Int) == (0 : Int)) = true) (.ite (((BA.length : Int) == (0 : Int)) = true) (.ok (ct == (0 : Int)))
          (.ok false))
         (.ok false))
        (.ok false))
       (.ok false)))
     (.ite (((NA.length : Int) == (0 : Int)) = true) (.ite (((NU.length : Int) == (0 : Int)) = true) (.ite (((ME.length : Int) == (0 : Int)) = true) (.ite (((BA.length : Int) == (0 : Int)) = true) (.ok (ct == (0 : Int)))
         (.ok false))
        (.ok false))
       (.ok false))
      (.ok false)))))
  .no)
def qcn_mk (p : Bool) : Res := [(false, [⟨.bool, .sh, TC.b p⟩])]
noncomputable def qcn_c (k s : Int) (sg bg : Bool) (NA NU ME BA : LL) (ct : Int) : Bool := true
noncomputable def qcn_v (k s : Int) (sg bg : Bool) (NA NU ME BA : LL) (ct : Int) : Bool := intV s sg bg NA NU ME BA ct
theorem qcn_l (k s : Int) (sg bg : Bool) (NA NU ME BA : LL) (ct : Int) : (qcn_c k s sg bg NA NU ME BA ct) = true → (qcn_t k s sg bg NA NU ME BA ct).val = some (qcn_v k s sg bg NA NU ME BA ct) := by
  intro _
  unfold qcn_t
  refine Tr.t (qv_cc (by decide)) ?_
  rw [show qv_v [[TC.i (1 : Int)], [TC.i (2 : Int)], [TC.i (4 : Int)], [TC.i (8 : Int)]] s = has4 s from by
    show (bif [[TC.i (1 : Int)], [TC.i (2 : Int)], [TC.i (4 : Int)], [TC.i (8 : Int)]].all (fun x => !((nth x 0).int == s)) then false else true) = _
    rw [has4_eq]; cases has4 s <;> rfl]
  simp only [Tr.val_br, Tr.val_ok]
  simp only [ite_bif, somebif]
  refine congrArg some ?_
  unfold qcn_v intV empt
  generalize has4 s = p0, (s == 8) = p1, (s == 1) = p2, ((NA.length : Int) == 0) = p3, ((NU.length : Int) == 0) = p4, ((ME.length : Int) == 0) = p5, ((BA.length : Int) == 0) = p6, (ct == 0) = p7
  cases p0 <;> cases p1 <;> cases sg <;> cases p2 <;> cases bg <;> cases p3 <;> cases p4 <;> cases p5 <;> cases p6 <;> cases p7 <;> rfl
noncomputable def qcn_S : List Arg → Option (Bool × Res) := fun xs => match xs with
  | [(true, [(.int .i64, TC.i k), (.int .i64, TC.i s), (.bool, TC.b sg), (.bool, TC.b bg), (.slice 9, TC.l NA), (.slice 2, TC.l NU), (.slice 71, TC.l ME), (.slice 32, TC.l BA), (.int .i64, TC.i ct)])] => some (true, qcn_mk (qcn_v k s sg bg NA NU ME BA ct))
  | _ => .none
theorem qcn_e (k s : Int) (sg bg : Bool) (NA NU ME BA : LL) (ct : Int) : runF tab FT D16 live 63 noLoops [(true, [(.int .i64, TC.i k), (.int .i64, TC.i s), (.bool, TC.b sg), (.bool, TC.b bg), (.slice 9, TC.l NA), (.slice 2, TC.l NU), (.slice 71, TC.l ME), (.slice 32, TC.l BA), (.int .i64, TC.i ct)])] = (qcn_t k s sg bg NA NU ME BA ct).run fun p => some (qcn_mk p) := by kernel_rfl
theorem qcn_s : ∀ xs r, qcn_S xs = some (true, r) → runF tab FT D16 live 63 noLoops xs = some r := by
  intro xs r h
  unfold qcn_S at h
  split at h
  · simp only [Option.some.injEq, Prod.mk.injEq] at h
    obtain ⟨h1, rfl⟩ := h
    exact fun_told (qcn_e _ _ _ _ _ _ _ _ _) (qcn_l _ _ _ _ _ _ _ _ _) rfl
  · cases h
noncomputable def D17 : Dt := also D16 63 qcn_S
theorem d17 : DOk Go.Proofs.Try.prog tab D17 := d16.also mixed_ok tab_ok names_ok noLoops_ok qcn_s
noncomputable def qbu_t (a0 a1 : Int) (a2 a3 : Bool) (a4 a5 a6 a7 : LL) (a8 : Int) : Tr (Bool) := (.ite ((!a2) = true) (.ok (!a3))
  (.ok false))
def qbu_mk (p : Bool) : Res := [(false, [⟨.bool, .sh, TC.b p⟩])]
noncomputable def qbu_c (a0 a1 : Int) (a2 a3 : Bool) (a4 a5 a6 a7 : LL) (a8 : Int) : Bool := true
noncomputable def qbu_v (a0 a1 : Int) (a2 a3 : Bool) (a4 a5 a6 a7 : LL) (a8 : Int) : Bool := (bif (!a2) then (!a3) else false)
theorem qbu_l (a0 a1 : Int) (a2 a3 : Bool) (a4 a5 a6 a7 : LL) (a8 : Int) : (qbu_c a0 a1 a2 a3 a4 a5 a6 a7 a8) = true → (qbu_t a0 a1 a2 a3 a4 a5 a6 a7 a8).val = some (qbu_v a0 a1 a2 a3 a4 a5 a6 a7 a8) := by
  intro h
  skip
  unfold qbu_t qbu_v
  exact (Tr.s rfl rfl)
noncomputable def qbu_S : List Arg → Option (Bool × Res) := fun xs => match xs with
  | [(true, [(.int .i64, TC.i a0), (.int .i64, TC.i a1), (.bool, TC.b a2), (.bool, TC.b a3), (.slice 9, TC.l a4), (.slice 2, TC.l a5), (.slice 71, TC.l a6), (.slice 32, TC.l a7), (.int .i64, TC.i a8)])] => some (true, qbu_mk (qbu_v a0 a1 a2 a3 a4 a5 a6 a7 a8))
  | _ => .none
theorem qbu_e (a0 a1 : Int) (a2 a3 : Bool) (a4 a5 a6 a7 : LL) (a8 : Int) : runF tab FT D17 live 68 noLoops [(true, [(.int .i64, TC.i a0), (.int .i64, TC.i a1), (.bool, TC.b a2), (.bool, TC.b a3), (.slice 9, TC.l a4), (.slice 2, TC.l a5), (.slice 71, TC.l a6), (.slice 32, TC.l a7), (.int .i64, TC.i a8)])] = (qbu_t a0 a1 a2 a3 a4 a5 a6 a7 a8).run fun p => some (qbu_mk p) := by kernel_rfl
theorem qbu_s : ∀ xs r, qbu_S xs = some (true, r) → runF tab FT D17 live 68 noLoops xs = some r := by
  intro xs r h
  unfold qbu_S at h
  split at h
  · simp only [Option.some.injEq, Prod.mk.injEq] at h
    obtain ⟨h1, rfl⟩ := h
    exact fun_told (qbu_e _ _ _ _ _ _ _ _ _) (qbu_l _ _ _ _ _ _ _ _ _) rfl
  · cases h
noncomputable def D18 : Dt := also D17 68 qbu_S
theorem d18 : DOk Go.Proofs.Try.prog tab D18 := d17.also mixed_ok tab_ok names_ok noLoops_ok qbu_s
noncomputable def qcl_t (a0 a1 a2 : Int) : Tr (Bool) := (.ite ((decide (a0 ≥ a1)) = true) (.ok (decide (a0 ≤ a2)))
  (.ok false))
def qcl_mk (p : Bool) : Res := [(false, [⟨.bool, .sh, TC.b p⟩])]
noncomputable def qcl_c (a0 a1 a2 : Int) : Bool := true
noncomputable def qcl_v (a0 a1 a2 : Int) : Bool := (bif (decide (a0 ≥ a1)) then (decide (a0 ≤ a2)) else false)
theorem qcl_l (a0 a1 a2 : Int) : (qcl_c a0 a1 a2) = true → (qcl_t a0 a1 a2).val = some (qcl_v a0 a1 a2) := by
  intro h
  skip
  unfold qcl_t qcl_v
  exact (Tr.s rfl rfl)
noncomputable def qcl_S : List Arg → Option (Bool × Res) := fun xs => match xs with
  | [(false, [(.int .i64, TC.i a0)]), (false, [(.int .i64, TC.i a1)]), (false, [(.int .i64, TC.i a2)])] => some (true, qcl_mk (qcl_v a0 a1 a2))
  | _ => .none
theorem qcl_e (a0 a1 a2 : Int) : runF tab FT D18 live 64 noLoops [(false, [(.int .i64, TC.i a0)]), (false, [(.int .i64, TC.i a1)]), (false, [(.int .i64, TC.i a2)])] = (qcl_t a0 a1 a2).run fun p => some (qcl_mk p) := by kernel_rfl
theorem qcl_s : ∀ xs r, qcl_S xs = some (true, r) → runF tab FT D18 live 64 noLoops xs = some r := by
  intro xs r h
  unfold qcl_S at h
  split at h
  · simp only [Option.some.injEq, Prod.mk.injEq] at h
    obtain ⟨h1, rfl⟩ := h
    exact fun_told (qcl_e _ _ _) (qcl_l _ _ _) rfl
  · cases h
noncomputable def D19 : Dt := also D18 64 qcl_S
theorem d19 : DOk Go.Proofs.Try.prog tab D19 := d18.also mixed_ok tab_ok names_ok noLoops_ok qcl_s
noncomputable def qz_t (k s : Int) (sg bg : Bool) (NA NU ME BA : LL) (ct : Int) : Tr (Int × Int) := (.ite ((!sg) = true) (.ite (0 ≤ (IntKind.wrap .u64 (IntKind.wrap .i64 ((8 : Int) * s)))) (.ok ((0 : Int), (IntKind.wrap .i64 ((IntKind.wrap .i64 ((1 : Int) * (2 ^ (min ((IntKind.wrap .u64 (IntKind.wrap .i64 ((8 : Int) * s)))).toNat 64)))) - (1 : Int)))))
   .no)
  (.ite (0 ≤ (IntKind.wrap .u64 ((IntKind.wrap .u64 (IntKind.wrap .i64 ((8 : Int) * s))) - (1 : Int)))) (.ok ((IntKind.wrap .i64 ((IntKind.wrap .i64 ((0 : Int) - (IntKind.wrap .i64 ((IntKind.wrap .i64 ((1 : Int) * (2 ^ (min ((IntKind.wrap .u64 ((IntKind.wrap .u64 (IntKind.wrap .i64 ((8 : Int) * s))) - (1 : Int)))).toNat 64)))) - (1 : Int))))) - (1 : Int))), (IntKind.wrap .i64 ((IntKind.wrap .i64 ((1 : Int) * (2 ^ (min ((IntKind.wrap .u64 ((IntKind.wrap .u64 (IntKind.wrap .i64 ((8 : Int) * s))) - (1 : Int)))).toNat 64)))) - (1 : Int)))))
   .no))
def qz_mk (p : Int × Int) : Res := [(false, [⟨.int .i64, .sh, TC.i (p.1)⟩]), (false, [⟨.int .i64, .sh, TC.i (p.2)⟩])]
noncomputable def qz_c (k s : Int) (sg bg : Bool) (NA NU ME BA : LL) (ct : Int) : Bool := (bif (!sg) then (is (0 ≤ (IntKind.wrap .u64 (IntKind.wrap .i64 ((8 : Int) * s)))) && true) else (is (0 ≤ (IntKind.wrap .u64 ((IntKind.wrap .u64 (IntKind.wrap .i64 ((8 : Int) * s))) - (1 : Int)))) && true))
noncomputable def qz_v (k s : Int) (sg bg : Bool) (NA NU ME BA : LL) (ct : Int) : Int × Int := (bif (!sg) then ((0 : Int), (IntKind.wrap .i64 ((IntKind.wrap .i64 ((1 : Int) * (2 ^ (min ((IntKind.wrap .u64 (IntKind.wrap .i64 ((8 : Int) * s)))).toNat 64)))) - (1 : Int)))) else ((IntKind.wrap .i64 ((IntKind.wrap .i64 ((0 : Int) - (IntKind.wrap .i64 ((IntKind.wrap .i64 ((1 : Int) * (2 ^ (min ((IntKind.wrap .u64 ((IntKind.wrap .u64 (IntKind.wrap .i64 ((8 : Int) * s))) - (1 : Int)))).toNat 64)))) - (1 : Int))))) - (1 : Int))), (IntKind.wrap .i64 ((IntKind.wrap .i64 ((1 : Int) * (2 ^ (min ((IntKind.wrap .u64 ((IntKind.wrap .u64 (IntKind.wrap .i64 ((8 : Int) * s))) - (1 : Int)))).toNat 64)))) - (1 : Int)))))
theorem qz_l (k s : Int) (sg bg : Bool) (NA NU ME BA : LL) (ct : Int) : (qz_c k s sg bg NA NU ME BA ct) = true → (qz_t k s sg bg NA NU ME BA ct).val = some (qz_v k s sg bg NA NU ME BA ct) := by
  unfold qz_t qz_v qz_c
  exact fun h => (Tr.ss h (fun h => (Tr.gs h fun h => rfl)) (fun h => (Tr.gs h fun h => rfl)))
noncomputable def qz_S : List Arg → Option (Bool × Res) := fun xs => match xs with
  | [(true, [(.int .i64, TC.i k), (.int .i64, TC.i s), (.bool, TC.b sg), (.bool, TC.b bg), (.slice 9, TC.l NA), (.slice 2, TC.l NU), (.slice 71, TC.l ME), (.slice 32, TC.l BA), (.int .i64, TC.i ct)])] => some ((qz_c k s sg bg NA NU ME BA ct), qz_mk (qz_v k s sg bg NA NU ME BA ct))
  | _ => .none
theorem qz_e (k s : Int) (sg bg : Bool) (NA NU ME BA : LL) (ct : Int) : runF tab FT D19 live 99 noLoops [(true, [(.int .i64, TC.i k), (.int .i64, TC.i s), (.bool, TC.b sg), (.bool, TC.b bg), (.slice 9, TC.l NA), (.slice 2, TC.l NU), (.slice 71, TC.l ME), (.slice 32, TC.l BA), (.int .i64, TC.i ct)])] = (qz_t k s sg bg NA NU ME BA ct).run fun p => some (qz_mk p) := by kernel_rfl
theorem qz_s : ∀ xs r, qz_S xs = some (true, r) → runF tab FT D19 live 99 noLoops xs = some r := by
  intro xs r h
  unfold qz_S at h
  split at h
  · simp only [Option.some.injEq, Prod.mk.injEq] at h
    obtain ⟨h1, rfl⟩ := h
    exact fun_told (qz_e _ _ _ _ _ _ _ _ _) (qz_l _ _ _ _ _ _ _ _ _) h1
  · cases h
noncomputable def D20 : Dt := also D19 99 qz_S
theorem d20 : DOk Go.Proofs.Try.prog tab D20 := d19.also mixed_ok tab_ok names_ok noLoops_ok qz_s
theorem qz_cc {k : Int} {s : Int} {sg : Bool} {bg : Bool} {NA : LL} {NU : LL} {ME : LL} {BA : LL} {ct : Int}  : (qz_c k s sg bg NA NU ME BA ct) = true := by
  unfold qz_c
  refine bifT (fun b1 => ?_) (fun b1 => ?_)
  · skip
    refine andT (is_true (by rw [IntKind.wrap_u64]; omega)) ?_
    rfl
  · skip
    refine andT (is_true (by rw [IntKind.wrap_u64]; omega)) ?_
    rfl
noncomputable def qcm_t (a0 : Int) : Tr (Bool) := (.ite ((decide (a0 ≥ (65 : Int))) = true) (.ite ((decide (a0 ≤ (90 : Int))) = true) (.ok true)
   (.ite ((decide (a0 ≥ (97 : Int))) = true) (.ok (decide (a0 ≤ (122 : Int))))
    (.ok false)))
  (.ite ((decide (a0 ≥ (97 : Int))) = true) (.ok (decide (a0 ≤ (122 : Int))))
   (.ok false)))
def qcm_mk (p : Bool) : Res := [(false, [⟨.bool, .sh, TC.b p⟩])]
noncomputable def qcm_c (a0 : Int) : Bool := true
noncomputable def qcm_v (a0 : Int) : Bool := (bif (decide (a0 ≥ (65 : Int))) then (bif (decide (a0 ≤ (90 : Int))) then true else (bif (decide (a0 ≥ (97 : Int))) then (decide (a0 ≤ (122 : Int))) else false)) else (bif (decide (a0 ≥ (97 : Int))) then (decide (a0 ≤ (122 : Int))) else false))
theorem qcm_l (a0 : Int) : (qcm_c a0) = true → (qcm_t a0).val = some (qcm_v a0) := by
  intro h
  skip
  unfold qcm_t qcm_v
  exact (Tr.s (Tr.s rfl (Tr.s rfl rfl)) (Tr.s rfl rfl))
noncomputable def qcm_S : List Arg → Option (Bool × Res) := fun xs => match xs with
  | [(false, [(.int .u8, TC.i a0)])] => some (true, qcm_mk (qcm_v a0))
  | _ => .none
theorem qcm_e (a0 : Int) : runF tab FT D20 live 130 noLoops [(false, [(.int .u8, TC.i a0)])] = (qcm_t a0).run fun p => some (qcm_mk p) := by kernel_rfl
theorem qcm_s : ∀ xs r, qcm_S xs = some (true, r) → runF tab FT D20 live 130 noLoops xs = some r := by
  intro xs r h
  unfold qcm_S at h
  split at h
  · simp only [Option.some.injEq, Prod.mk.injEq] at h
    obtain ⟨h1, rfl⟩ := h
    exact fun_told (qcm_e _) (qcm_l _) rfl
  · cases h
noncomputable def D21 : Dt := also D20 130 qcm_S
theorem d21 : DOk Go.Proofs.Try.prog tab D21 := d20.also mixed_ok tab_ok names_ok noLoops_ok qcm_s
noncomputable def qr_f4 (s : BS) (i : Int) : (Unit) ⊕ ((Unit) ⊕ (Unit)) := (bif (!(qcm_v ((s.getD (i).toNat 0).toNat : Int))) then (bif (decide (((s.getD (i).toNat 0).toNat : Int) ≥ (48 : Int))) then (bif (!(decide (((s.getD (i).toNat 0).toNat : Int) ≤ (57 : Int)))) then (bif (!(((s.getD (i).toNat 0).toNat : Int) == (95 : Int))) then (.inr (.inl ())) else (.inl ())) else (.inl ())) else (bif (!(((s.getD (i).toNat 0).toNat : Int) == (95 : Int))) then (.inr (.inl ())) else (.inl ()))) else (.inl ()))
noncomputable def qr_e4 (s : BS) : (Unit) ⊕ (Unit) := .inr ()
noncomputable def qr_R4 (s : BS) (i : Int) : (Unit) ⊕ (Unit) := iter (fun i a => (qr_f4 s ((i + 1 : Nat) : Int))) (fun a => (qr_e4 s)) (s.length - 1) 0 ()
end
end
end
end
end Go.Proofs.Ytdcafhfnkblfkaa.V
