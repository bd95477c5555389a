/- What the functions of FnExactClampNumber answer. No condition. -/
import Derived.Test.YtdcafhfnkblfkaaVFacts
namespace Go.Proofs.Ytdcafhfnkblfkaa.V
open Go
set_option maxRecDepth 100000
set_option linter.unusedVariables false
set_option linter.unusedSectionVars false
set_option linter.unusedSimpArgs false
set_option maxHeartbeats 2000000
abbrev LL := List (List TC)
abbrev BS := List UInt8
def isoL : List (Nat × Nat) := [(27, 32), (67, 71), (32, 27), (71, 67)]
theorem iso_ok : isoOk tab isoL = true := by kernel_rfl
def has4 (s : Int) : Bool := s == 1 || s == 2 || s == 4 || s == 8
def empt (NA NU ME BA : LL) (ct : Int) : Bool := ((NA.length : Int) == 0) && ((NU.length : Int) == 0) && ((ME.length : Int) == 0) && ((BA.length : Int) == 0) && (ct == 0)
def intV (s : Int) (sg bg : Bool) (NA NU ME BA : LL) (ct : Int) : Bool := has4 s && !((s == 8) && !sg) && !((s == 1) && bg) && empt NA NU ME BA ct
theorem has4_eq (s : Int) : [[TC.i (1 : Int)], [TC.i (2 : Int)], [TC.i (4 : Int)], [TC.i (8 : Int)]].all (fun x => !((nth x 0).int == s)) = !(has4 s) := by
  show (!((1 : Int) == s) && (!((2 : Int) == s) && (!((4 : Int) == s) && (!((8 : Int) == s) && true)))) = _
  unfold has4
  rw [show ((1 : Int) == s) = (s == 1) from Bool.beq_comm, show ((2 : Int) == s) = (s == 2) from Bool.beq_comm, show ((4 : Int) == s) = (s == 4) from Bool.beq_comm, show ((8 : Int) == s) = (s == 8) from Bool.beq_comm]
  cases (s == 1) <;> cases (s == 2) <;> cases (s == 4) <;> cases (s == 8) <;> rfl

theorem pos_row {BA : LL} (h : 0 < BA.length) (j : Nat) : rowsDep (nth (row BA (0 : Int)) j).list < rowsDep BA := dep_row ⟨by omega, by omega⟩ j
def sizeV (k s : Int) (BA : LL) (ct : Int) : Int :=
  bif k == 3 then (nth (row BA (0 : Int)) 1).int
  else bif k == 5 then (if h : 0 < BA.length then IntKind.wrap .i64 (ct * sizeV (nth (row BA (0 : Int)) 0).int (nth (row BA (0 : Int)) 1).int (nth (row BA (0 : Int)) 7).list (nth (row BA (0 : Int)) 8).int) else 0)
  else s
termination_by rowsDep BA
decreasing_by exact pos_row h 7
def sizeC (k : Int) (BA : LL) : Bool :=
  bif k == 3 then decide (0 < BA.length)
  else bif k == 5 then (if h : 0 < BA.length then sizeC (nth (row BA (0 : Int)) 0).int (nth (row BA (0 : Int)) 7).list else false)
  else true
termination_by rowsDep BA
decreasing_by exact pos_row h 7
theorem dep_max {ME BA : LL} {x : List TC} (hx : x ∈ ME) (i j : Nat) : max (rowsDep (nth x i).list) (rowsDep (nth x j).list) < max (rowsDep ME) (rowsDep BA) := by
  have a := dep_cell hx i
  have b := dep_cell hx j
  omega
theorem dep_base {ME BA : LL} (h : 0 < BA.length) (i j : Nat) : max (rowsDep (nth (row BA (0 : Int)) i).list) (rowsDep (nth (row BA (0 : Int)) j).list) < max (rowsDep ME) (rowsDep BA) := by
  have a := pos_row h i
  have b := pos_row h j
  omega
def maxI (a b : Int) : Int := bif decide (a > b) then a else b
noncomputable def depthV (k : Int) (ME BA : LL) : Int :=
  bif k == 4 then IntKind.wrap .i64 (ME.attach.foldl (fun d x => maxI d (depthV (nth x.1 2).int (nth x.1 8).list (nth x.1 9).list)) 0 + 1)
  else bif k == 5 then (if h : 0 < BA.length then IntKind.wrap .i64 (depthV (nth (row BA (0 : Int)) 0).int (nth (row BA (0 : Int)) 6).list (nth (row BA (0 : Int)) 7).list + 1) else 0)
  else 1
termination_by max (rowsDep ME) (rowsDep BA)
decreasing_by
  · exact dep_max x.2 8 9
  · exact dep_base h 6 7
noncomputable def depthC (k : Int) (ME BA : LL) : Bool :=
  bif k == 4 then ME.attach.all (fun x => depthC (nth x.1 2).int (nth x.1 8).list (nth x.1 9).list)
  else bif k == 5 then (if h : 0 < BA.length then depthC (nth (row BA (0 : Int)) 0).int (nth (row BA (0 : Int)) 6).list (nth (row BA (0 : Int)) 7).list else false)
  else true
termination_by max (rowsDep ME) (rowsDep BA)
decreasing_by
  · exact dep_max x.2 8 9
  · exact dep_base h 6 7
def letterB (c : Int) : Bool := (decide (c ≥ 65) && decide (c ≤ 90)) || (decide (c ≥ 97) && decide (c ≤ 122))
def nameB (i c : Int) : Bool := letterB c || (!(i == 0) && ((decide (c ≥ 48) && decide (c ≤ 57)) || c == 95))
def nameOk (s : BS) : Bool := decide ((s.length : Int) ≥ 1) && decide ((s.length : Int) ≤ 12) && allI (fun i : Nat => nameB (i : Int) ((s.getD ((i : Int)).toNat 0).toNat : Int)) s.length
theorem dlt {a b : Int} : decide (a < b) = !decide (a ≥ b) := by rw [← decide_not]; simp
theorem dgt {a b : Int} : decide (a > b) = !decide (a ≤ b) := by rw [← decide_not]; simp
def strAt (A : LL) (i : Int) : BS := (nth (row A i) 0).str
def intAt (A : LL) (i : Int) : Int := (nth (row A i) 0).int
def noDupN (A : LL) (i : Int) : Bool := allI (fun j : Nat => !(strAt A (j : Int) == strAt A i)) i.toNat
def inB (n lo hi : Int) : Bool := bif decide (n ≥ lo) then decide (n ≤ hi) else false
def ascB (A : LL) (i : Int) : Bool := bif decide (i > 0) then !(decide (intAt A (IntKind.wrap .i64 (i - (1 : Int))) ≥ intAt A i)) else true
def enumP (NA NU : LL) (lo hi i : Int) : Bool := nameOk (strAt NA i) && inB (intAt NU i) lo hi && ascB NU i && noDupN NA i
noncomputable def loV (s : Int) (sg : Bool) : Int := bif !sg then 0 else bif s == 1 then -128 else bif s == 2 then -32768 else bif s == 4 then -2147483648 else -9223372036854775808
noncomputable def hiV (s : Int) (sg : Bool) : Int := bif !sg then (bif s == 1 then 255 else bif s == 2 then 65535 else 4294967295) else bif s == 1 then 127 else bif s == 2 then 32767 else bif s == 4 then 2147483647 else 9223372036854775807
def plain (sg bg : Bool) : Bool := !sg && !bg
noncomputable def enumV (s : Int) (sg bg : Bool) (NA NU ME BA : LL) (ct : Int) : Bool :=
  (s == 0) && (plain sg bg && (!decide ((ME.length : Int) > 0) && ((ct == 0) && (((BA.length : Int) == 1) && (((nth (row BA (0 : Int)) 0).int == 1) && (intV (nth (row BA (0 : Int)) 1).int (nth (row BA (0 : Int)) 2).bool (nth (row BA (0 : Int)) 3).bool (nth (row BA (0 : Int)) 4).list (nth (row BA (0 : Int)) 5).list (nth (row BA (0 : Int)) 6).list (nth (row BA (0 : Int)) 7).list (nth (row BA (0 : Int)) 8).int && (!decide ((NA.length : Int) < 1) && (!decide ((NA.length : Int) > 6) && (((NU.length : Int) == (NA.length : Int)) &&
    allI (fun i : Nat => enumP NA NU (loV (nth (row BA (0 : Int)) 1).int (nth (row BA (0 : Int)) 2).bool) (hiV (nth (row BA (0 : Int)) 1).int (nth (row BA (0 : Int)) 2).bool) (i : Int)) NA.length)))))))))
noncomputable def endAt (ME : LL) : Nat → Int
  | 0 => 0
  | i + 1 => IntKind.wrap .i64 ((nth (row ME (i : Int)) 1).int + sizeV (nth (row ME (i : Int)) 2).int (nth (row ME (i : Int)) 3).int (nth (row ME (i : Int)) 9).list (nth (row ME (i : Int)) 10).int)
noncomputable def memP (ME : LL) (i : Nat) : Bool := nameOk (strAt ME (i : Int)) && (!decide ((nth (row ME (i : Int)) 1).int < endAt ME i) && (!decide ((nth (row ME (i : Int)) 1).int > 24) && noDupN ME (i : Int)))
def compS (s : Int) (sg bg : Bool) (NA NU ME BA : LL) (ct : Int) : Bool :=
  inB s 1 24 && (plain sg bg && (!decide ((NA.length : Int) > 0) && (!decide ((NU.length : Int) > 0) && (!decide ((BA.length : Int) > 0) && ((ct == 0) && (!decide ((ME.length : Int) < 1) && !decide ((ME.length : Int) > 4)))))))
def arrS (s : Int) (sg bg : Bool) (NA NU ME BA : LL) (ct : Int) : Bool :=
  (s == 0) && (plain sg bg && (!decide ((NA.length : Int) > 0) && (!decide ((NU.length : Int) > 0) && (!decide ((ME.length : Int) > 0) && (((BA.length : Int) == 1) && inB ct 1 4)))))
def bareV (sg bg : Bool) (NA NU ME BA : LL) (ct : Int) : Bool := plain sg bg && empt NA NU ME BA ct
noncomputable def okV (k s : Int) (sg bg : Bool) (NA NU ME BA : LL) (ct : Int) : Bool :=
  (bif k == 1 then intV s sg bg NA NU ME BA ct
   else bif k == 2 then inB s 1 16 && bareV sg bg NA NU ME BA ct
   else bif k == 3 then enumV s sg bg NA NU ME BA ct
   else bif k == 4 then compS s sg bg NA NU ME BA ct && ((allI (memP ME) ME.length && ME.attach.all (fun x => okV (nth x.1 2).int (nth x.1 3).int (nth x.1 4).bool (nth x.1 5).bool (nth x.1 6).list (nth x.1 7).list (nth x.1 8).list (nth x.1 9).list (nth x.1 10).int)) && decide (endAt ME ME.length ≤ s))
   else bif k == 5 then arrS s sg bg NA NU ME BA ct && (if h : 0 < BA.length then okV (nth (row BA (0 : Int)) 0).int (nth (row BA (0 : Int)) 1).int (nth (row BA (0 : Int)) 2).bool (nth (row BA (0 : Int)) 3).bool (nth (row BA (0 : Int)) 4).list (nth (row BA (0 : Int)) 5).list (nth (row BA (0 : Int)) 6).list (nth (row BA (0 : Int)) 7).list (nth (row BA (0 : Int)) 8).int else false)
   else bif k == 6 then (s == 2) && bareV sg bg NA NU ME BA ct
   else false) && (decide (sizeV k s BA ct ≤ 24) && decide (depthV k ME BA ≤ 3))
termination_by max (rowsDep ME) (rowsDep BA)
decreasing_by
  · exact dep_max x.2 8 9
  · exact dep_base h 6 7
theorem attach_okV {ME : LL} : (ME.attach.all fun x => okV (nth x.1 2).int (nth x.1 3).int (nth x.1 4).bool (nth x.1 5).bool (nth x.1 6).list (nth x.1 7).list (nth x.1 8).list (nth x.1 9).list (nth x.1 10).int) = ME.all fun x => okV (nth x 2).int (nth x 3).int (nth x 4).bool (nth x 5).bool (nth x 6).list (nth x 7).list (nth x 8).list (nth x 9).list (nth x 10).int := attach_all (p := fun x => okV (nth x 2).int (nth x 3).int (nth x 4).bool (nth x 5).bool (nth x 6).list (nth x 7).list (nth x 8).list (nth x 9).list (nth x 10).int)
theorem okV_size : ∀ {BA : LL} {k s : Int} {sg bg : Bool} {NA NU ME : LL} {ct : Int}, okV k s sg bg NA NU ME BA ct = true → sizeC k BA = true := by
  intro BA
  induction h : rowsDep BA using Nat.strongRecOn generalizing BA with
  | _ n ih =>
    intro k s sg bg NA NU ME ct hk
    rw [okV, Bool.and_eq_true] at hk
    rw [sizeC]
    have hk := hk.1
    cases h3 : (k == 3) with
    | true =>
      have : k = 3 := by simpa using h3
      subst this
      have hk : enumV s sg bg NA NU ME BA ct = true := hk
      simp only [enumV, Bool.and_eq_true] at hk
      have h1 : (BA.length : Int) = 1 := by simpa using hk.2.2.2.2.1
      show decide (0 < BA.length) = true
      exact decide_eq_true (by omega)
    | false =>
      cases h5 : (k == 5) with
      | true =>
        have : k = 5 := by simpa using h5
        subst this
        have hk : (arrS s sg bg NA NU ME BA ct && (if h : 0 < BA.length then okV (nth (row BA (0 : Int)) 0).int (nth (row BA (0 : Int)) 1).int (nth (row BA (0 : Int)) 2).bool (nth (row BA (0 : Int)) 3).bool (nth (row BA (0 : Int)) 4).list (nth (row BA (0 : Int)) 5).list (nth (row BA (0 : Int)) 6).list (nth (row BA (0 : Int)) 7).list (nth (row BA (0 : Int)) 8).int else false)) = true := hk
        rw [Bool.and_eq_true] at hk
        have hk := hk.2
        split at hk
        · rename_i hb
          simp only [cond_true, cond_false, dif_pos hb]
          exact ih _ (by rw [← h]; exact pos_row hb 7) rfl hk
        · cases hk
      | false => rfl
theorem okV_depth : ∀ {ME BA : LL} {k s : Int} {sg bg : Bool} {NA NU : LL} {ct : Int}, okV k s sg bg NA NU ME BA ct = true → depthC k ME BA = true := by
  intro ME BA
  induction h : max (rowsDep ME) (rowsDep BA) using Nat.strongRecOn generalizing ME BA with
  | _ n ih =>
    intro k s sg bg NA NU ct hk
    rw [okV, Bool.and_eq_true] at hk
    rw [depthC]
    have hk := hk.1
    cases h4 : (k == 4) with
    | true =>
      have : k = 4 := by simpa using h4
      subst this
      have hk : (compS s sg bg NA NU ME BA ct && ((allI (memP ME) ME.length && ME.attach.all (fun x => okV (nth x.1 2).int (nth x.1 3).int (nth x.1 4).bool (nth x.1 5).bool (nth x.1 6).list (nth x.1 7).list (nth x.1 8).list (nth x.1 9).list (nth x.1 10).int)) && decide (endAt ME ME.length ≤ s))) = true := hk
      simp only [Bool.and_eq_true] at hk
      have hk := hk.2.1.2
      rw [List.all_eq_true] at hk
      simp only [cond_true, List.all_eq_true]
      exact fun x hx => ih _ (by rw [← h]; exact dep_max x.2 8 9) rfl (hk x hx)
    | false =>
      cases h5 : (k == 5) with
      | true =>
        have : k = 5 := by simpa using h5
        subst this
        have hk : (arrS s sg bg NA NU ME BA ct && (if h : 0 < BA.length then okV (nth (row BA (0 : Int)) 0).int (nth (row BA (0 : Int)) 1).int (nth (row BA (0 : Int)) 2).bool (nth (row BA (0 : Int)) 3).bool (nth (row BA (0 : Int)) 4).list (nth (row BA (0 : Int)) 5).list (nth (row BA (0 : Int)) 6).list (nth (row BA (0 : Int)) 7).list (nth (row BA (0 : Int)) 8).int else false)) = true := hk
        rw [Bool.and_eq_true] at hk
        have hk := hk.2
        split at hk
        · rename_i hb
          simp only [cond_true, cond_false, dif_pos hb]
          exact ih _ (by rw [← h]; exact dep_base hb 6 7) rfl hk
        · cases hk
      | false => rfl
noncomputable def sameV (k s : Int) (sg bg : Bool) (NA NU ME BA : LL) (ct : Int) (k2 s2 : Int) (sg2 bg2 : Bool) (NA2 NU2 ME2 BA2 : LL) (ct2 : Int) : Bool :=
  (k == k2) && ((s == s2) && ((sg == sg2) && ((bg == bg2) && ((ct == ct2) && (eqL NA NA2 && (eqL NU NU2 && (eqL ME ME2 && eqL BA BA2)))))))
def isizeV (k s : Int) (BA : LL) (ct : Int) : Int :=
  bif k == 3 then (if h : 0 < BA.length then isizeV (nth (row BA (0 : Int)) 0).int (nth (row BA (0 : Int)) 1).int (nth (row BA (0 : Int)) 7).list (nth (row BA (0 : Int)) 8).int else 0)
  else bif k == 5 then (if h : 0 < BA.length then IntKind.wrap .i64 (ct * isizeV (nth (row BA (0 : Int)) 0).int (nth (row BA (0 : Int)) 1).int (nth (row BA (0 : Int)) 7).list (nth (row BA (0 : Int)) 8).int) else 0)
  else s
termination_by rowsDep BA
decreasing_by
  · exact pos_row h 7
  · exact pos_row h 7
def isizeC (k : Int) (BA : LL) : Bool :=
  bif k == 3 || k == 5 then (if h : 0 < BA.length then isizeC (nth (row BA (0 : Int)) 0).int (nth (row BA (0 : Int)) 7).list else false) else true
termination_by rowsDep BA
decreasing_by exact pos_row h 7
noncomputable def validV (k s : Int) (sg bg : Bool) (NA NU ME BA : LL) (ct d : Int) : Bool := okV k s sg bg NA NU ME BA ct && decide (depthV k ME BA ≤ d)
theorem eqL_nil {A : LL} : eqL A [] = ((A.length : Int) == 0) := by
  rw [Bool.eq_iff_iff, eqL_iff, beq_iff_eq]
  cases A <;> simp
  omega
def slotNameOk (x : List TC) : Bool := (nth x 0).str == [] || nameOk (nth x 0).str
def lastEmpty (A : LL) : Bool := (nth (row A (IntKind.wrap .i64 ((A.length : Int) - (1 : Int)))) 0).str == []
def heapOk (A : LL) : Bool := decide ((A.length : Int) ≤ 30) && (((A.length : Int) == 0) || !(lastEmpty A)) && A.all slotNameOk
theorem lenPos (A : LL) : decide ((A.length : Int) > 0) = !((A.length : Int) == 0) := by
  rw [Bool.eq_iff_iff]
  simp only [decide_eq_true_eq, Bool.not_eq_true', beq_eq_false_iff_ne]
  omega
def slotIdx (A : LL) (s : BS) : Int := bif A.all (fun x => !((nth x 0).str == s)) then -1 else Int.ofNat (A.findIdx fun x => !(!((nth x 0).str == s)))
def dnP (A : LL) (i : Int) : Bool := nameOk (strAt A i) && noDupN A i
theorem slotIdx_in {A : LL} {s : BS} : decide (slotIdx A s ≥ 0) = !(A.all fun x => !((nth x 0).str == s)) := by
  unfold slotIdx
  cases A.all fun x => !((nth x 0).str == s) <;> simp
noncomputable def endI (ME : LL) : Nat → Int
  | 0 => 0
  | i + 1 => IntKind.wrap .i64 ((nth (row ME (i : Int)) 1).int + isizeV (nth (row ME (i : Int)) 2).int (nth (row ME (i : Int)) 3).int (nth (row ME (i : Int)) 9).list (nth (row ME (i : Int)) 10).int)
def nmAt (ME : LL) : Nat → LL
  | 0 => []
  | i + 1 => nmAt ME i ++ [[TC.s (nth (row ME (i : Int)) 0).str]]
theorem nmAt_eq {ME : LL} : ∀ {j : Nat}, j ≤ ME.length → nmAt ME j = (ME.take j).map fun x => [TC.s (nth x 0).str]
  | 0, _ => rfl
  | j + 1, h => by
    have hn : j < ME.length := by omega
    rw [nmAt, nmAt_eq (Nat.le_of_lt hn), List.take_add_one, List.getElem?_eq_getElem hn, List.map_append, row_nat, getD_at hn]
    rfl
theorem nmAt_all {ME : LL} : nmAt ME ME.length = ME.map fun x => [TC.s (nth x 0).str] := by rw [nmAt_eq (Nat.le_refl _), List.take_length]
theorem nmAt_len {ME : LL} : (nmAt ME ME.length).length = ME.length := by rw [nmAt_all, List.length_map]
theorem nm_str {ME : LL} {i : Nat} (h : i < ME.length) : strAt (nmAt ME ME.length) (i : Int) = strAt ME (i : Int) := by
  unfold strAt
  rw [nmAt_all, row_nat, row_nat, getD_at (by rw [List.length_map]; exact h), getD_at h, List.getElem_map]
  rfl
theorem nm_dup {ME : LL} {i : Nat} (h : i < ME.length) : noDupN (nmAt ME ME.length) (i : Int) = noDupN ME (i : Int) := by
  unfold noDupN
  rw [Int.toNat_natCast]
  refine allI_congr fun j hj => ?_
  rw [nm_str h, nm_str (by omega)]
noncomputable def memI (ME : LL) (i : Nat) : Bool := !decide ((nth (row ME (i : Int)) 1).int < endI ME i) && !decide ((nth (row ME (i : Int)) 1).int > 24)
theorem maxI_le {a b c : Int} : maxI a b ≤ c ↔ a ≤ c ∧ b ≤ c := by
  unfold maxI
  cases h : decide (a > b) with
  | true => have := of_decide_eq_true h; simp only [cond_true]; omega
  | false => have := of_decide_eq_false h; simp only [cond_false]; omega
theorem fold_max {f : List TC → Int} {c : Int} : ∀ {l : LL} {b : Int}, l.foldl (fun d x => maxI d (f x)) b ≤ c ↔ b ≤ c ∧ ∀ x, x ∈ l → f x ≤ c
  | [], b => by simp
  | x :: l, b => by
    rw [List.foldl_cons, fold_max, maxI_le]
    simp only [List.mem_cons, forall_eq_or_imp, and_assoc]
theorem fold_ge {f : List TC → Int} : ∀ {l : LL} {b : Int}, b ≤ l.foldl (fun d x => maxI d (f x)) b
  | [], b => Int.le_refl _
  | x :: l, b => by
    rw [List.foldl_cons]
    exact Int.le_trans (maxI_le.1 (Int.le_refl _)).1 fold_ge
theorem okV_top {k s : Int} {sg bg : Bool} {NA NU ME BA : LL} {ct : Int} (h : okV k s sg bg NA NU ME BA ct = true) : sizeV k s BA ct ≤ 24 ∧ depthV k ME BA ≤ 3 := by
  rw [okV, Bool.and_eq_true, Bool.and_eq_true] at h
  exact ⟨of_decide_eq_true h.2.1, of_decide_eq_true h.2.2⟩
theorem okV_4 {s : Int} {sg bg : Bool} {NA NU ME BA : LL} {ct : Int} : okV 4 s sg bg NA NU ME BA ct = ((compS s sg bg NA NU ME BA ct && ((allI (memP ME) ME.length && ME.all (fun x => okV (nth x 2).int (nth x 3).int (nth x 4).bool (nth x 5).bool (nth x 6).list (nth x 7).list (nth x 8).list (nth x 9).list (nth x 10).int)) && decide (endAt ME ME.length ≤ s))) && (decide (sizeV 4 s BA ct ≤ 24) && decide (depthV 4 ME BA ≤ 3))) := by
  rw [okV, attach_okV]; rfl
theorem okV_5 {s : Int} {sg bg : Bool} {NA NU ME BA : LL} {ct : Int} : okV 5 s sg bg NA NU ME BA ct = ((arrS s sg bg NA NU ME BA ct && (if h : 0 < BA.length then okV (nth (row BA (0 : Int)) 0).int (nth (row BA (0 : Int)) 1).int (nth (row BA (0 : Int)) 2).bool (nth (row BA (0 : Int)) 3).bool (nth (row BA (0 : Int)) 4).list (nth (row BA (0 : Int)) 5).list (nth (row BA (0 : Int)) 6).list (nth (row BA (0 : Int)) 7).list (nth (row BA (0 : Int)) 8).int else false)) && (decide (sizeV 5 s BA ct ≤ 24) && decide (depthV 5 ME BA ≤ 3))) := by
  rw [okV]; rfl
theorem okV_1 {s : Int} {sg bg : Bool} {NA NU ME BA : LL} {ct : Int} : okV 1 s sg bg NA NU ME BA ct = (intV s sg bg NA NU ME BA ct && (decide (sizeV 1 s BA ct ≤ 24) && decide (depthV 1 ME BA ≤ 3))) := by
  rw [okV]; rfl
theorem okV_2 {s : Int} {sg bg : Bool} {NA NU ME BA : LL} {ct : Int} : okV 2 s sg bg NA NU ME BA ct = ((inB s 1 16 && bareV sg bg NA NU ME BA ct) && (decide (sizeV 2 s BA ct ≤ 24) && decide (depthV 2 ME BA ≤ 3))) := by
  rw [okV]; rfl
theorem okV_3 {s : Int} {sg bg : Bool} {NA NU ME BA : LL} {ct : Int} : okV 3 s sg bg NA NU ME BA ct = (enumV s sg bg NA NU ME BA ct && (decide (sizeV 3 s BA ct ≤ 24) && decide (depthV 3 ME BA ≤ 3))) := by
  rw [okV]; rfl
theorem okV_6 {s : Int} {sg bg : Bool} {NA NU ME BA : LL} {ct : Int} : okV 6 s sg bg NA NU ME BA ct = (((s == 2) && bareV sg bg NA NU ME BA ct) && (decide (sizeV 6 s BA ct ≤ 24) && decide (depthV 6 ME BA ≤ 3))) := by
  rw [okV]; rfl
theorem okV_kind {k s : Int} {sg bg : Bool} {NA NU ME BA : LL} {ct : Int} (h : okV k s sg bg NA NU ME BA ct = true) : k = 1 ∨ k = 2 ∨ k = 3 ∨ k = 4 ∨ k = 5 ∨ k = 6 := by
  apply Classical.byContradiction
  intro hn
  simp only [not_or] at hn
  obtain ⟨k1, k2, k3, k4, k5, k6⟩ := hn
  have e1 : (k == 1) = false := by simpa using k1
  have e2 : (k == 2) = false := by simpa using k2
  have e3 : (k == 3) = false := by simpa using k3
  have e4 : (k == 4) = false := by simpa using k4
  have e5 : (k == 5) = false := by simpa using k5
  have e6 : (k == 6) = false := by simpa using k6
  rw [okV] at h
  simp only [e1, e2, e3, e4, e5, e6, cond_false, Bool.false_and] at h
  cases h
theorem depth4 {ME BA : LL} : depthV 4 ME BA = IntKind.wrap .i64 (ME.foldl (fun d x => maxI d (depthV (nth x 2).int (nth x 8).list (nth x 9).list)) 0 + 1) := by
  rw [depthV, attach_foldl (f := fun d x => maxI d (depthV (nth x 2).int (nth x 8).list (nth x 9).list))]; rfl
theorem depth5 {ME BA : LL} (h : 0 < BA.length) : depthV 5 ME BA = IntKind.wrap .i64 (depthV (nth (row BA (0 : Int)) 0).int (nth (row BA (0 : Int)) 6).list (nth (row BA (0 : Int)) 7).list + 1) := by
  rw [depthV]
  show (if h : 0 < BA.length then IntKind.wrap .i64 (depthV (nth (row BA (0 : Int)) 0).int (nth (row BA (0 : Int)) 6).list (nth (row BA (0 : Int)) 7).list + 1) else 0) = _
  rw [dif_pos h]
theorem depth_else {k : Int} {ME BA : LL} (h4 : k ≠ 4) (h5 : k ≠ 5) : depthV k ME BA = 1 := by
  have e4 : (k == 4) = false := by simpa using h4
  have e5 : (k == 5) = false := by simpa using h5
  rw [depthV]
  simp only [e4, e5, cond_false]
theorem fold4 {ME BA : LL} (h : ∀ x, x ∈ ME → depthV (nth x 2).int (nth x 8).list (nth x 9).list ≤ 3) : depthV 4 ME BA = ME.foldl (fun d x => maxI d (depthV (nth x 2).int (nth x 8).list (nth x 9).list)) 0 + 1 := by
  have h1 : ME.foldl (fun d x => maxI d (depthV (nth x 2).int (nth x 8).list (nth x 9).list)) 0 ≤ 3 := fold_max.2 ⟨by omega, h⟩
  have h2 := fold_ge (f := fun x => depthV (nth x 2).int (nth x 8).list (nth x 9).list) (l := ME) (b := 0)
  rw [depth4, wrap64 (by omega) (by omega)]
theorem okV_base {s : Int} {sg bg : Bool} {NA NU ME BA : LL} {ct : Int} (h : okV 5 s sg bg NA NU ME BA ct = true) : 0 < BA.length ∧ okV (nth (row BA (0 : Int)) 0).int (nth (row BA (0 : Int)) 1).int (nth (row BA (0 : Int)) 2).bool (nth (row BA (0 : Int)) 3).bool (nth (row BA (0 : Int)) 4).list (nth (row BA (0 : Int)) 5).list (nth (row BA (0 : Int)) 6).list (nth (row BA (0 : Int)) 7).list (nth (row BA (0 : Int)) 8).int = true := by
  rw [okV_5, Bool.and_eq_true, Bool.and_eq_true] at h
  have h := h.1.2
  split at h
  · rename_i hb; exact ⟨hb, h⟩
  · cases h
theorem okV_mem {s : Int} {sg bg : Bool} {NA NU ME BA : LL} {ct : Int} (h : okV 4 s sg bg NA NU ME BA ct = true) : ∀ x, x ∈ ME → okV (nth x 2).int (nth x 3).int (nth x 4).bool (nth x 5).bool (nth x 6).list (nth x 7).list (nth x 8).list (nth x 9).list (nth x 10).int = true := by
  rw [okV_4] at h
  simp only [Bool.and_eq_true, List.all_eq_true] at h
  exact h.1.2.1.2
theorem okV_pos : ∀ {BA : LL} {k s : Int} {sg bg : Bool} {NA NU ME : LL} {ct : Int}, okV k s sg bg NA NU ME BA ct = true → 1 ≤ depthV k ME BA := by
  intro BA
  induction h : rowsDep BA using Nat.strongRecOn generalizing BA with
  | _ n ih =>
    intro k s sg bg NA NU ME ct hk
    by_cases k4 : k = 4
    · subst k4
      rw [fold4 fun x hx => (okV_top (okV_mem hk x hx)).2]
      have := fold_ge (f := fun x => depthV (nth x 2).int (nth x 8).list (nth x 9).list) (l := ME) (b := 0)
      omega
    by_cases k5 : k = 5
    · subst k5
      obtain ⟨hb, ho⟩ := okV_base hk
      have h1 := ih _ (by rw [← h]; exact pos_row hb 7) rfl ho
      have h2 := (okV_top ho).2
      rw [depth5 hb, wrap64 (by omega) (by omega)]
      omega
    rw [depth_else k4 k5]
    omega
theorem okV_isize : ∀ {BA : LL} {k s : Int} {sg bg : Bool} {NA NU ME : LL} {ct : Int}, okV k s sg bg NA NU ME BA ct = true → isizeV k s BA ct = sizeV k s BA ct ∧ isizeC k BA = true := by
  intro BA
  induction h : rowsDep BA using Nat.strongRecOn generalizing BA with
  | _ n ih =>
    intro k s sg bg NA NU ME ct hk
    rw [isizeV, isizeC, sizeV]
    cases h3 : (k == 3) with
    | true =>
      have : k = 3 := by simpa using h3
      subst this
      rw [okV_3, Bool.and_eq_true] at hk
      have hk := hk.1
      simp only [enumV, Bool.and_eq_true, beq_iff_eq] at hk
      have hb : 0 < BA.length := by omega
      have h1 := hk.2.2.2.2.2.1
      simp only [Bool.true_or, cond_true, dif_pos hb]
      rw [h1, isizeV, isizeC]
      exact ⟨rfl, rfl⟩
    | false =>
      cases h5 : (k == 5) with
      | true =>
        have : k = 5 := by simpa using h5
        subst this
        obtain ⟨hb, ho⟩ := okV_base hk
        have h1 := ih _ (by rw [← h]; exact pos_row hb 7) rfl ho
        simp only [Bool.false_or, cond_true, cond_false, dif_pos hb]
        rw [h1.1, h1.2]
        exact ⟨rfl, rfl⟩
      | false => exact ⟨rfl, rfl⟩
theorem endI_eq {ME : LL} (h : ∀ x, x ∈ ME → okV (nth x 2).int (nth x 3).int (nth x 4).bool (nth x 5).bool (nth x 6).list (nth x 7).list (nth x 8).list (nth x 9).list (nth x 10).int = true) : ∀ {j : Nat}, j ≤ ME.length → endI ME j = endAt ME j
  | 0, _ => rfl
  | j + 1, hj => by
    rw [endI, endAt, (okV_isize (h (row ME (j : Int)) (by rw [row_nat]; exact mem_getD (by omega)))).1]
def numP (NU : LL) (lo hi i : Int) : Bool := inB (intAt NU i) lo hi && ascB NU i
theorem inB_iff {n lo hi : Int} : inB n lo hi = true ↔ lo ≤ n ∧ n ≤ hi := by
  unfold inB
  cases h : decide (n ≥ lo) with
  | true => have := of_decide_eq_true h; simp only [cond_true, decide_eq_true_eq]; omega
  | false => have := of_decide_eq_false h; simp only [cond_false]; constructor <;> intro h <;> first | (cases h; done) | omega
theorem size_else {k s : Int} {BA : LL} {ct : Int} (h3 : k ≠ 3) (h5 : k ≠ 5) : sizeV k s BA ct = s := by
  have e3 : (k == 3) = false := by simpa using h3
  have e5 : (k == 5) = false := by simpa using h5
  rw [sizeV]
  simp only [e3, e5, cond_false]
theorem size3 {s : Int} {BA : LL} {ct : Int} : sizeV 3 s BA ct = (nth (row BA (0 : Int)) 1).int := by rw [sizeV]; rfl
theorem has4_le {s : Int} (h : has4 s = true) : s ≤ 8 := by
  unfold has4 at h
  simp only [Bool.or_eq_true, beq_iff_eq] at h
  omega
theorem intV_le {s : Int} {sg bg : Bool} {NA NU ME BA : LL} {ct : Int} (h : intV s sg bg NA NU ME BA ct = true) : s ≤ 8 := by
  simp only [intV, Bool.and_eq_true] at h
  exact has4_le h.1.1.1
theorem valid_1 {s : Int} {sg bg : Bool} {NA NU ME BA : LL} {ct d : Int} (hd : 1 ≤ d) : validV 1 s sg bg NA NU ME BA ct d = intV s sg bg NA NU ME BA ct := by
  unfold validV
  rw [okV_1, depth_else (by decide) (by decide), size_else (by decide) (by decide), decide_eq_true hd]
  cases h : intV s sg bg NA NU ME BA ct with
  | false => rfl
  | true => have := intV_le h; rw [decide_eq_true (show s ≤ 24 by omega)]; rfl
theorem pure1 {s : Int} {sg bg : Bool} {NA NU ME BA : LL} {ct d : Int} (hd : 1 ≤ d) : (bif !(sameV 1 s sg bg NA NU ME BA ct 1 s sg bg [] [] [] [] 0) then false else (has4 s && (!((s == 8) && !sg) && !((s == 1) && bg)))) = validV 1 s sg bg NA NU ME BA ct d := by
  rw [valid_1 hd]
  unfold intV sameV empt
  simp only [eqL_nil, beq_self_eq_true, Bool.true_and, bif_nf]
  ac_rfl
theorem valid_2 {s : Int} {sg bg : Bool} {NA NU ME BA : LL} {ct d : Int} (hd : 1 ≤ d) : validV 2 s sg bg NA NU ME BA ct d = (inB s 1 16 && bareV sg bg NA NU ME BA ct) := by
  unfold validV
  rw [okV_2, depth_else (by decide) (by decide), size_else (by decide) (by decide), decide_eq_true hd]
  cases h : inB s 1 16 with
  | false => rfl
  | true => have := inB_iff.1 h; rw [decide_eq_true (show s ≤ 24 by omega)]; simp
theorem valid_6 {s : Int} {sg bg : Bool} {NA NU ME BA : LL} {ct d : Int} (hd : 1 ≤ d) : validV 6 s sg bg NA NU ME BA ct d = ((s == 2) && bareV sg bg NA NU ME BA ct) := by
  unfold validV
  rw [okV_6, depth_else (by decide) (by decide), size_else (by decide) (by decide), decide_eq_true hd]
  cases h : (s == 2) with
  | false => rfl
  | true => have := beq_iff_eq.1 h; rw [decide_eq_true (show s ≤ 24 by omega)]; simp
theorem pureB {k s : Int} {b sg bg : Bool} {NA NU ME BA : LL} {ct : Int} : (bif !(sameV k s sg bg NA NU ME BA ct k s false false [] [] [] [] 0) then false else b) = (b && bareV sg bg NA NU ME BA ct) := by
  unfold sameV bareV plain empt
  simp only [eqL_nil, beq_self_eq_true, Bool.true_and, bif_nf, beq_false]
  ac_rfl
theorem len0 {A : LL} : (!decide ((A.length : Int) > 0)) = ((A.length : Int) == 0) := by
  rw [Bool.eq_iff_iff]; simp
theorem pure3 {s : Int} {sg bg : Bool} {NA NU ME BA : LL} {ct d : Int} (hd : 1 ≤ d) : (bif !(sameV 3 s sg bg NA NU ME BA ct 3 0 false false NA NU [] BA 0) then false else (((BA.length : Int) == 1) && (((nth (row BA (0 : Int)) 0).int == 1) && (validV (nth (row BA (0 : Int)) 0).int (nth (row BA (0 : Int)) 1).int (nth (row BA (0 : Int)) 2).bool (nth (row BA (0 : Int)) 3).bool (nth (row BA (0 : Int)) 4).list (nth (row BA (0 : Int)) 5).list (nth (row BA (0 : Int)) 6).list (nth (row BA (0 : Int)) 7).list (nth (row BA (0 : Int)) 8).int 1 && (allI (fun i : Nat => numP NU (loV (nth (row BA (0 : Int)) 1).int (nth (row BA (0 : Int)) 2).bool) (hiV (nth (row BA (0 : Int)) 1).int (nth (row BA (0 : Int)) 2).bool) (i : Int)) NU.length && (inB (NU.length : Int) 1 6 && (((NA.length : Int) == (NU.length : Int)) && allI (fun i : Nat => dnP NA (i : Int)) NA.length))))))) = validV 3 s sg bg NA NU ME BA ct d := by
  show _ = (okV 3 s sg bg NA NU ME BA ct && decide (depthV 3 ME BA ≤ d))
  rw [okV_3, depth_else (k := 3) (by decide) (by decide), decide_eq_true hd, size3]
  unfold sameV enumV plain
  simp only [eqL_nil, eqL_refl, beq_self_eq_true, Bool.true_and, Bool.and_true, bif_nf, beq_false, len0]
  cases hk : ((nth (row BA (0 : Int)) 0).int == 1) with
  | false => simp only [Bool.false_and, Bool.and_false]
  | true =>
    rw [show validV (nth (row BA (0 : Int)) 0).int (nth (row BA (0 : Int)) 1).int (nth (row BA (0 : Int)) 2).bool (nth (row BA (0 : Int)) 3).bool (nth (row BA (0 : Int)) 4).list (nth (row BA (0 : Int)) 5).list (nth (row BA (0 : Int)) 6).list (nth (row BA (0 : Int)) 7).list (nth (row BA (0 : Int)) 8).int 1 = intV (nth (row BA (0 : Int)) 1).int (nth (row BA (0 : Int)) 2).bool (nth (row BA (0 : Int)) 3).bool (nth (row BA (0 : Int)) 4).list (nth (row BA (0 : Int)) 5).list (nth (row BA (0 : Int)) 6).list (nth (row BA (0 : Int)) 7).list (nth (row BA (0 : Int)) 8).int from by rw [beq_iff_eq.1 hk]; exact valid_1 (by omega)]
    cases hI : intV (nth (row BA (0 : Int)) 1).int (nth (row BA (0 : Int)) 2).bool (nth (row BA (0 : Int)) 3).bool (nth (row BA (0 : Int)) 4).list (nth (row BA (0 : Int)) 5).list (nth (row BA (0 : Int)) 6).list (nth (row BA (0 : Int)) 7).list (nth (row BA (0 : Int)) 8).int with
    | false => simp only [Bool.false_and, Bool.and_false]
    | true =>
      have hs := intV_le hI
      rw [decide_eq_true (show (nth (row BA (0 : Int)) 1).int ≤ 24 by omega)]
      rw [Bool.eq_iff_iff]
      simp only [Bool.true_and, Bool.and_true, Bool.and_eq_true, beq_iff_eq, inB_iff, allI_iff, Bool.not_eq_true', decide_eq_false_iff_not, show decide ((1 : Int) ≤ 3) = true from rfl]
      constructor
      · rintro ⟨⟨a1, a2, a3, a4, a5⟩, a6, a7, ⟨a8, a9⟩, a10, a11⟩
        refine ⟨a1, ⟨a2, a3⟩, a5, a4, a6, by omega, by omega, a10.symm, fun i hi => ?_⟩
        have n1 := a7 i (by omega)
        have n2 := a11 i hi
        simp only [numP, dnP, Bool.and_eq_true] at n1 n2
        simp only [enumP, Bool.and_eq_true]
        exact ⟨⟨⟨n2.1, n1.1⟩, n1.2⟩, n2.2⟩
      · rintro ⟨a1, ⟨a2, a3⟩, a5, a4, a6, a7, a8, a9, a10⟩
        refine ⟨⟨a1, a2, a3, a4, a5⟩, a6, fun i hi => ?_, ⟨by omega, by omega⟩, a9.symm, fun i hi => ?_⟩
        · have n := a10 i (by omega)
          simp only [enumP, Bool.and_eq_true] at n
          simp only [numP, Bool.and_eq_true]
          exact ⟨n.1.1.2, n.1.2⟩
        · have n := a10 i hi
          simp only [enumP, Bool.and_eq_true] at n
          simp only [dnP, Bool.and_eq_true]
          exact ⟨n.1.1.1, n.2⟩
theorem pure4 {s : Int} {sg bg : Bool} {NA NU ME BA : LL} {ct d : Int} (hd : 1 ≤ d) (hd3 : d ≤ 3) : (bif !(sameV 4 s sg bg NA NU ME BA ct 4 s false false [] [] ME [] 0) then false else (inB s 1 24 && (inB (ME.length : Int) 1 4 && ((allI (memI ME) ME.length && ME.all fun x => validV (nth x 2).int (nth x 3).int (nth x 4).bool (nth x 5).bool (nth x 6).list (nth x 7).list (nth x 8).list (nth x 9).list (nth x 10).int (d - 1)) && (decide (endI ME ME.length ≤ s) && allI (fun i : Nat => dnP ME (i : Int)) ME.length))))) = validV 4 s sg bg NA NU ME BA ct d := by
  unfold validV
  rw [okV_4, size_else (by decide) (by decide)]
  unfold sameV compS plain
  simp only [eqL_nil, eqL_refl, beq_self_eq_true, Bool.true_and, Bool.and_true, bif_nf, beq_false, len0]
  rw [Bool.eq_iff_iff]
  simp only [Bool.true_and, Bool.and_true, Bool.and_eq_true, beq_iff_eq, inB_iff, allI_iff, Bool.not_eq_true', decide_eq_false_iff_not, decide_eq_true_eq, List.all_eq_true]
  constructor
  · rintro ⟨⟨a1, a2, a3, a4, a5, a6⟩, ⟨a7, a8⟩, ⟨a9, a10⟩, ⟨a11, a12⟩, a13, a14⟩
    have hok : ∀ x, x ∈ ME → okV (nth x 2).int (nth x 3).int (nth x 4).bool (nth x 5).bool (nth x 6).list (nth x 7).list (nth x 8).list (nth x 9).list (nth x 10).int = true := fun x hx => (a12 x hx).1
    have hf : depthV 4 ME BA ≤ d := by
      rw [fold4 fun x hx => (okV_top (hok x hx)).2]
      have := (fold_max (f := fun x => depthV (nth x 2).int (nth x 8).list (nth x 9).list) (c := d - 1) (l := ME) (b := 0)).2 ⟨by omega, fun x hx => (a12 x hx).2⟩
      omega
    refine ⟨⟨⟨⟨⟨a7, a8⟩, ⟨a1, a2⟩, a4, a5, a6, a3, by omega, by omega⟩, ⟨fun i hi => ?_, hok⟩, by rw [← endI_eq hok (Nat.le_refl _)]; exact a13⟩, a8, by omega⟩, hf⟩
    have n1 := a11 i hi
    have n2 := a14 i hi
    simp only [memI, dnP, Bool.and_eq_true, endI_eq hok (Nat.le_of_lt hi)] at n1 n2
    simp only [memP, Bool.and_eq_true]
    exact ⟨n2.1, n1.1, n1.2, n2.2⟩
  · rintro ⟨⟨⟨⟨⟨a7, a8⟩, ⟨a1, a2⟩, a4, a5, a6, a3, a9, a10⟩, ⟨a11, hok⟩, a13⟩, a15, a16⟩, hf⟩
    have hd' : ∀ x, x ∈ ME → depthV (nth x 2).int (nth x 8).list (nth x 9).list ≤ d - 1 := by
      rw [fold4 fun x hx => (okV_top (hok x hx)).2] at hf
      exact ((fold_max (f := fun x => depthV (nth x 2).int (nth x 8).list (nth x 9).list) (c := d - 1) (l := ME) (b := 0)).1 (by omega)).2
    refine ⟨⟨a1, a2, a3, a4, a5, a6⟩, ⟨a7, a8⟩, ⟨by omega, by omega⟩, ⟨fun i hi => ?_, fun x hx => ⟨hok x hx, hd' x hx⟩⟩, by rw [endI_eq hok (Nat.le_refl _)]; exact a13, fun i hi => ?_⟩
    · have n := a11 i hi
      simp only [memP, Bool.and_eq_true] at n
      simp only [memI, Bool.and_eq_true, endI_eq hok (Nat.le_of_lt hi)]
      exact ⟨n.2.1, n.2.2.1⟩
    · have n := a11 i hi
      simp only [memP, Bool.and_eq_true] at n
      simp only [dnP, Bool.and_eq_true]
      exact ⟨n.1, n.2.2.2⟩
theorem pure5 {s : Int} {sg bg : Bool} {NA NU ME BA : LL} {ct d : Int} (hd : 1 ≤ d) (hd3 : d ≤ 3) : (bif !(sameV 5 s sg bg NA NU ME BA ct 5 0 false false [] [] [] BA ct) then false else (inB ct 1 4 && (((BA.length : Int) == 1) && (validV (nth (row BA (0 : Int)) 0).int (nth (row BA (0 : Int)) 1).int (nth (row BA (0 : Int)) 2).bool (nth (row BA (0 : Int)) 3).bool (nth (row BA (0 : Int)) 4).list (nth (row BA (0 : Int)) 5).list (nth (row BA (0 : Int)) 6).list (nth (row BA (0 : Int)) 7).list (nth (row BA (0 : Int)) 8).int (d - 1) && decide (isizeV 5 s BA ct ≤ 24))))) = validV 5 s sg bg NA NU ME BA ct d := by
  cases hb : ((BA.length : Int) == 1) with
  | false =>
    unfold validV
    rw [okV_5]
    unfold arrS
    rw [hb]
    simp only [Bool.false_and, Bool.and_false, bif_nf]
  | true =>
    have hb0 : 0 < BA.length := by have := beq_iff_eq.1 hb; omega
    cases ho : okV (nth (row BA (0 : Int)) 0).int (nth (row BA (0 : Int)) 1).int (nth (row BA (0 : Int)) 2).bool (nth (row BA (0 : Int)) 3).bool (nth (row BA (0 : Int)) 4).list (nth (row BA (0 : Int)) 5).list (nth (row BA (0 : Int)) 6).list (nth (row BA (0 : Int)) 7).list (nth (row BA (0 : Int)) 8).int with
    | false =>
      have e1 : validV (nth (row BA (0 : Int)) 0).int (nth (row BA (0 : Int)) 1).int (nth (row BA (0 : Int)) 2).bool (nth (row BA (0 : Int)) 3).bool (nth (row BA (0 : Int)) 4).list (nth (row BA (0 : Int)) 5).list (nth (row BA (0 : Int)) 6).list (nth (row BA (0 : Int)) 7).list (nth (row BA (0 : Int)) 8).int (d - 1) = false := by unfold validV; rw [ho]; rfl
      have e2 : validV 5 s sg bg NA NU ME BA ct d = false := by
        unfold validV
        rw [okV_5, dif_pos hb0, ho]
        simp only [Bool.and_false, Bool.false_and]
      rw [e1, e2]
      simp only [Bool.false_and, Bool.and_false, bif_nf]
    | true =>
      have hi := okV_isize ho
      have hsz : isizeV 5 s BA ct = sizeV 5 s BA ct := by
        rw [isizeV, sizeV]
        show (if h : 0 < BA.length then IntKind.wrap .i64 (ct * isizeV (nth (row BA (0 : Int)) 0).int (nth (row BA (0 : Int)) 1).int (nth (row BA (0 : Int)) 7).list (nth (row BA (0 : Int)) 8).int) else 0) = (if h : 0 < BA.length then IntKind.wrap .i64 (ct * sizeV (nth (row BA (0 : Int)) 0).int (nth (row BA (0 : Int)) 1).int (nth (row BA (0 : Int)) 7).list (nth (row BA (0 : Int)) 8).int) else 0)
        rw [dif_pos hb0, dif_pos hb0, hi.1]
      have ht := okV_top ho
      have hp := okV_pos ho
      unfold validV
      rw [okV_5, dif_pos hb0, ho, hsz, depth5 hb0, wrap64 (by omega) (by omega)]
      unfold sameV arrS plain
      simp only [eqL_nil, eqL_refl, beq_self_eq_true, Bool.true_and, Bool.and_true, bif_nf, beq_false, len0, hb]
      rw [show decide (depthV (nth (row BA (0 : Int)) 0).int (nth (row BA (0 : Int)) 6).list (nth (row BA (0 : Int)) 7).list + 1 ≤ d) = decide (depthV (nth (row BA (0 : Int)) 0).int (nth (row BA (0 : Int)) 6).list (nth (row BA (0 : Int)) 7).list ≤ d - 1) from by rw [Bool.eq_iff_iff]; simp only [decide_eq_true_eq]; omega]
      rw [Bool.eq_iff_iff]
      simp only [Bool.and_eq_true, decide_eq_true_eq]
      constructor
      · rintro ⟨⟨a1, a2, a3, a4, a5, a6⟩, a7, a8, a9⟩
        exact ⟨⟨⟨a1, ⟨a2, a3⟩, a4, a5, a6, a7⟩, a9, by omega⟩, a8⟩
      · rintro ⟨⟨⟨a1, ⟨a2, a3⟩, a4, a5, a6, a7⟩, a9, a10⟩, a8⟩
        exact ⟨⟨a1, a2, a3, a4, a5, a6⟩, a7, a8, a9⟩
def numK (k : Int) : Bool := bif k == 1 then true else bif k == 3 then true else k == 6
noncomputable def rangeT (k s : Int) (sg : Bool) (NU : LL) : Int × Int := bif k == 3 then (intAt NU 0, intAt NU (IntKind.wrap .i64 ((NU.length : Int) - (1 : Int)))) else bif k == 6 then (0, 65535) else (loV s sg, hiV s sg)
theorem okV_enum {s : Int} {sg bg : Bool} {NA NU ME BA : LL} {ct : Int} (h : okV 3 s sg bg NA NU ME BA ct = true) : 1 ≤ NU.length ∧ NU.length ≤ 6 ∧ NA.length = NU.length ∧ BA.length = 1 ∧ (nth (row BA (0 : Int)) 0).int = 1 ∧ intV (nth (row BA (0 : Int)) 1).int (nth (row BA (0 : Int)) 2).bool (nth (row BA (0 : Int)) 3).bool (nth (row BA (0 : Int)) 4).list (nth (row BA (0 : Int)) 5).list (nth (row BA (0 : Int)) 6).list (nth (row BA (0 : Int)) 7).list (nth (row BA (0 : Int)) 8).int = true ∧ ∀ i, i < NU.length → enumP NA NU (loV (nth (row BA (0 : Int)) 1).int (nth (row BA (0 : Int)) 2).bool) (hiV (nth (row BA (0 : Int)) 1).int (nth (row BA (0 : Int)) 2).bool) (i : Int) = true := by
  rw [okV_3] at h
  simp only [enumV, Bool.and_eq_true, beq_iff_eq, Bool.not_eq_true', decide_eq_false_iff_not, allI_iff] at h
  obtain ⟨⟨a1, a2, a3, a4, a5, a6, a7, a8, a9, a10, a11⟩, -⟩ := h
  exact ⟨by omega, by omega, by omega, by omega, a6, a7, fun i hi => a11 i (by omega)⟩
theorem okV_int {s : Int} {sg bg : Bool} {NA NU ME BA : LL} {ct : Int} (h : okV 1 s sg bg NA NU ME BA ct = true) : intV s sg bg NA NU ME BA ct = true := by
  rw [okV_1, Bool.and_eq_true] at h
  exact h.1
theorem idx_split (P : Nat → Bool) (N : Nat) : ∃ k, k ≤ N ∧ (∀ j, j < k → P j = true) ∧ (k < N → P k = false) ∧ idxI P N = k := by
  have ex : ∀ M, ∃ k, k ≤ M ∧ (∀ j, j < k → P j = true) ∧ (k < M → P k = false) := by
    intro M
    induction M with
    | zero => exact ⟨0, Nat.le_refl _, fun j hj => absurd hj (Nat.not_lt_zero _), fun h => absurd h (Nat.not_lt_zero _)⟩
    | succ M ih =>
      obtain ⟨k, h1, h2, h3⟩ := ih
      by_cases hk : k < M
      · exact ⟨k, by omega, h2, fun _ => h3 hk⟩
      · have hkM : k = M := by omega
        subst hkM
        cases hP : P k with
        | true => exact ⟨k + 1, Nat.le_refl _, fun j hj => by
            rcases Nat.lt_or_ge j k with h | h
            · exact h2 j h
            · rw [show j = k by omega]; exact hP, fun h => absurd h (Nat.lt_irrefl _)⟩
        | false => exact ⟨k, by omega, h2, fun _ => hP⟩
  obtain ⟨k, h1, h2, h3⟩ := ex N
  refine ⟨k, h1, h2, h3, ?_⟩
  by_cases hk : k < N
  · exact (allI_false_idx hk h2 (h3 hk)).2
  · have hkN : k = N := by omega
    subst hkN
    unfold idxI
    rw [List.findIdx_eq_length_of_false]
    · simp
    · intro j hj
      rw [h2 j (List.mem_range.1 hj)]; rfl
theorem iter_stop {α ω : Type} {f : Nat → α → α ⊕ ω} {fin : α → ω} (A : Nat → α) {w : ω} {N k : Nat} (h1 : ∀ j, j < k → f j (A j) = .inl (A (j + 1))) (hk : k ≤ N) (h2 : k < N → f k (A k) = .inr w) (h3 : k = N → fin (A N) = w) : iter f fin N 0 (A 0) = w := by
  have key : ∀ m i, i + m = N → i ≤ k → iter f fin m i (A i) = w := by
    intro m
    induction m with
    | zero =>
      intro i hi hik
      have : i = N := by omega
      subst this
      exact h3 (by omega)
    | succ m ih =>
      intro i hi hik
      unfold iter
      rcases Nat.lt_or_ge i k with h | h
      · rw [h1 i h]
        exact ih (i + 1) (by omega) (by omega)
      · have : i = k := by omega
        subst this
        rw [h2 (by omega)]
  exact key N 0 (by omega) (Nat.zero_le _)
noncomputable def nearE (A : LL) (n : Int) : Int := let m := idxI (fun i : Nat => decide (intAt A (i : Int) ≤ n)) A.length; if m = A.length then intAt A ((m - 1 : Nat) : Int) else if intAt A (m : Int) - n < n - intAt A ((m - 1 : Nat) : Int) then intAt A (m : Int) else intAt A ((m - 1 : Nat) : Int)
def ascU (A : LL) : Prop := ∀ p q : Nat, p < q → q < A.length → intAt A (p : Int) < intAt A (q : Int)
theorem asc_step {A : LL} (h : ∀ i : Nat, 0 < i → i < A.length → intAt A ((i - 1 : Nat) : Int) < intAt A (i : Int)) : ascU A := by
  intro p q hpq hq
  induction q with
  | zero => omega
  | succ q ih =>
    have h1 := h (q + 1) (by omega) hq
    rw [show q + 1 - 1 = q from rfl] at h1
    rcases Nat.lt_or_ge p q with h2 | h2
    · have := ih h2 (by omega); omega
    · rw [show p = q by omega]; exact h1
theorem near_eq {A : LL} {n : Int} {k : Nat} (hk : k ≤ A.length) (h1 : ∀ j : Nat, j < k → intAt A (j : Int) ≤ n) (h2 : k < A.length → n < intAt A (k : Int)) :
    nearE A n = if k = A.length then intAt A ((k - 1 : Nat) : Int) else if intAt A (k : Int) - n < n - intAt A ((k - 1 : Nat) : Int) then intAt A (k : Int) else intAt A ((k - 1 : Nat) : Int) := by
  obtain ⟨m, a1, a2, a3, a4⟩ := idx_split (fun i : Nat => decide (intAt A (i : Int) ≤ n)) A.length
  have hm : m = k := by
    rcases Nat.lt_trichotomy m k with h | h | h
    · have q := a3 (by omega)
      have := h1 m h
      simp only [decide_eq_false_iff_not] at q
      omega
    · exact h
    · have q := a2 k h
      have := h2 (by omega)
      simp only [decide_eq_true_eq] at q
      omega
  unfold nearE
  rw [a4, hm]
theorem u64_sub {x n : Int} (h0 : 0 ≤ x - n) (h1 : x - n < 18446744073709551616) : IntKind.wrap .u64 ((IntKind.wrap .u64 x) - (IntKind.wrap .u64 n)) = x - n := by
  rw [IntKind.wrap_u64, IntKind.wrap_u64, IntKind.wrap_u64]; omega
noncomputable def clampV (k s : Int) (sg : Bool) (NU : LL) (n : Int) : Int := if n ≤ (rangeT k s sg NU).1 then (rangeT k s sg NU).1 else if n ≥ (rangeT k s sg NU).2 then (rangeT k s sg NU).2 else bif k == 3 then nearE NU n else n
theorem lo_hi {s : Int} {sg bg : Bool} {NA NU ME BA : LL} {ct : Int} (h : intV s sg bg NA NU ME BA ct = true) : loV s sg ≤ hiV s sg ∧ -9223372036854775808 ≤ loV s sg ∧ hiV s sg ≤ 9223372036854775807 := by
  simp only [intV, has4, Bool.and_eq_true, Bool.or_eq_true, beq_iff_eq] at h
  have hs := h.1.1.1
  rcases hs with ((rfl | rfl) | rfl) | rfl <;> cases sg <;> (unfold loV hiV; decide)
theorem enum_asc {NA NU ME BA : LL} {s : Int} {sg bg : Bool} {ct : Int} (h : okV 3 s sg bg NA NU ME BA ct = true) : ascU NU ∧ ∀ i : Nat, i < NU.length → -9223372036854775808 ≤ intAt NU (i : Int) ∧ intAt NU (i : Int) ≤ 9223372036854775807 := by
  obtain ⟨e1, e2, e3, e4, e5, e6, e7⟩ := okV_enum h
  have hb : ∀ i : Nat, i < NU.length → -9223372036854775808 ≤ intAt NU (i : Int) ∧ intAt NU (i : Int) ≤ 9223372036854775807 := fun i hi => by
    have q := e7 i hi
    unfold enumP at q
    simp only [Bool.and_eq_true] at q
    have q2 := q.1.1.2
    have lh := lo_hi e6
    unfold inB at q2
    cases hd : decide (intAt NU (i : Int) ≥ loV (nth (row BA (0 : Int)) 1).int (nth (row BA (0 : Int)) 2).bool) with
    | true =>
      rw [hd] at q2
      have a := of_decide_eq_true hd
      have b : intAt NU (i : Int) ≤ hiV (nth (row BA (0 : Int)) 1).int (nth (row BA (0 : Int)) 2).bool := of_decide_eq_true q2
      omega
    | false => rw [hd] at q2; cases q2
  refine ⟨asc_step fun i h0 hi => ?_, hb⟩
  have q := e7 i hi
  unfold enumP at q
  simp only [Bool.and_eq_true] at q
  have q2 := q.1.2
  unfold ascB at q2
  rw [decide_eq_true (show (i : Int) > 0 by omega)] at q2
  rw [wrap64 (i := (i : Int) - 1) (by omega) (by omega)] at q2
  have q3 : ¬ (intAt NU ((i : Int) - 1) ≥ intAt NU (i : Int)) := by simpa using q2
  rw [show ((i - 1 : Nat) : Int) = (i : Int) - 1 by omega]
  omega
theorem len_9 {α : Type} {l : List α} (h : l.length = 9) : ∃ a0 a1 a2 a3 a4 a5 a6 a7 a8, l = [a0, a1, a2, a3, a4, a5, a6, a7, a8] := by
  match l, h with
  | [a0, a1, a2, a3, a4, a5, a6, a7, a8], _ => exact ⟨a0, a1, a2, a3, a4, a5, a6, a7, a8, rfl⟩
abbrev qk_5_σ := LL × Int × Int
abbrev qk_5_ω := (Int) ⊕ (Int)
noncomputable def qk_5_step (A : LL) (left i : Int) : Tr (qk_5_σ ⊕ qk_5_ω) := (.ite ((decide (i < (A.length : Int))) = true) (.ite ((0 : Int) ≤ i ∧ i < (A.length : Int)) (.ite ((decide ((IntKind.wrap .i64 (left - (((nth (row A i) 0).str).length : Int))) < (0 : Int))) = true) (.ok (.inr (.inl (IntKind.wrap .i64 (left - (((nth (row A i) 0).str).length : Int))))))
    (.ok (.inl (A, (IntKind.wrap .i64 (left - (((nth (row A i) 0).str).length : Int))), (IntKind.wrap .i64 (i + (1 : Int)))))))
   .no)
  (.ok (.inr (.inr left))))
noncomputable def qk_5_st : qk_5_σ → Tr (qk_5_σ ⊕ qk_5_ω) := fun x => (qk_5_step (x.1) (x.2.1) (x.2.2))
noncomputable def qk_k5_1 (A : LL) (left i : Int) : Bool := isL (loopN qk_5_st (A.length + 1) (A, left, i))
noncomputable def qk_o5_2 (A : LL) (left i : Int) : Bool := is (i = 0 ∧ Typed tab (.slice 9) (.l A))
noncomputable def qk_u5_2 (A : LL) (left i : Int) : Int := getL (loopN qk_5_st (A.length + 1) (A, left, i))
noncomputable def qk_o5_3 (A : LL) (left i : Int) : Bool := is (i = 0 ∧ Typed tab (.slice 9) (.l A))
noncomputable def qk_u5_3 (A : LL) (left i : Int) : Int := getR (loopN qk_5_st (A.length + 1) (A, left, i))
noncomputable def qk_5_fin (A : LL) (left i : Int) : Told qk_5_ω := (.br (qk_k5_1 A left i) (.leaf (qk_o5_2 A left i) (.inl (qk_u5_2 A left i))) (.leaf (qk_o5_3 A left i) (.inr (qk_u5_3 A left i))))
def qk_5_sl (x : qk_5_σ) : List Slot := [⟨.val false [⟨.slice 9, .sh, TC.l (x.1)⟩], ⟨0, 0⟩⟩, ⟨.val false [⟨.int .i64, .sh, TC.i (x.2.1)⟩], ⟨0, 0⟩⟩, ⟨.val false [⟨.int .i64, .sh, TC.i (x.2.2)⟩], ⟨0, 0⟩⟩]
def qk_5_out : qk_5_ω → Ex × List Slot := (Sum.elim (fun x => (.ret, [⟨.val false [⟨.int .i64, .sh, TC.i x⟩], ⟨0, 0⟩⟩, ⟨.val false [⟨.int .i64, .sh, TC.i (-1 : Int)⟩], ⟨0, 0⟩⟩])) (fun x => (.exit 0, [⟨.val false [⟨.int .i64, .sh, TC.i x⟩], ⟨0, 0⟩⟩, Slot.none])))
noncomputable def qk_lo5 : List Slot → Option (Told (Ex × List Slot)) := fun s => match s with
  | [⟨.val false [⟨.slice 9, .sh, TC.l A⟩], ⟨0, 0⟩⟩, ⟨.val false [⟨.int .i64, .sh, TC.i left⟩], ⟨0, 0⟩⟩, ⟨.val false [⟨.int .i64, .sh, TC.i i⟩], ⟨0, 0⟩⟩] => some (((qk_5_fin A left i)).map qk_5_out)
  | _ => .none
noncomputable def qk_lo : LoopTeller := fun r s => bif Nat.beq r 5 then qk_lo5 s else .none
theorem qk_5_r (A : LL) (left i : Int) (fuel : Nat) : rounds (rnd tab FT D0 live 26 qk_lo 0 5) leave (fuel + 1) (qk_5_sl (A, left, i)) = ((qk_5_step A left i)).run (goOn (fun s => rounds (rnd tab FT D0 live 26 qk_lo 0 5) leave fuel (qk_5_sl s)) fun w => some (qk_5_out w)) := by kernel_rfl
theorem qk_5_h (A : LL) (left i : Int) (ow : qk_5_ω) : ((qk_5_fin A left i)).val = some ow → ∃ fuel, loopN qk_5_st fuel (A, left, i) = some ow := by
  refine auto_two (N := A.length + 1) rfl rfl rfl ?_
  intro ho
  have ho : is (i = 0 ∧ Typed tab (.slice 9) (.l A)) = true := ho.elim id id
  obtain ⟨rfl, ht⟩ := is_iff.1 ho
  have hlen : A.length ≤ 140737488351232 := by have := typed_room ht; simp only [show (tab 9).bytes = 16 from rfl] at this; omega
  refine loopN_ends (step := qk_5_st) (N := A.length) (fun i a => (A, a, (i : Int))) (fun i a hi => ?_) (fun a => ?_) A.length 0 left (by omega)
  · show (∃ a', (qk_5_step A a (i : Int)).val = _) ∨ ∃ w, (qk_5_step A a (i : Int)).val = _
    have c0 : Typed tab (.str) (.s (nth (A.getD i []) 0).str) := typed_s (typed_cell ht (A.getD i []) (mem_getD hi) 0 (by decide))
    cases hneg : ((decide ((IntKind.wrap .i64 (a - (((nth (row A i) 0).str).length : Int))) < (0 : Int))))
    · apply Or.inl
      apply Exists.intro
      · unfold qk_5_step
        refine Tr.t (by simp; omega) ?_
        refine Tr.t (by first | omega | (constructor <;> omega)) ?_
        refine Tr.n (by rw [hneg]; simp) ?_
        rw [Tr.val_ok, wrap64 (i := (i : Int) + 1) (by omega) (by omega)]; rfl
    · apply Or.inr
      apply Exists.intro
      · unfold qk_5_step
        refine Tr.t (by simp; omega) ?_
        refine Tr.t (by first | omega | (constructor <;> omega)) ?_
        refine Tr.t hneg ?_
        rfl
  · apply Exists.intro
    · show (qk_5_step A a (A.length : Int)).val = _
      refine Tr.n (by simp) ?_
      rfl
theorem qk_is5 : LoopIs tab FT D0 live 26 qk_lo 0 5 := by
  refine loop_told (sl := qk_5_sl) (step := qk_5_st) (out := qk_5_out) (lor := qk_lo5) (fin := fun x => (qk_5_fin (x.1) (x.2.1) (x.2.2))) (fun _ => rfl) ?_ (fun x n => qk_5_r x.1 x.2.1 x.2.2 n) (fun x ow => qk_5_h x.1 x.2.1 x.2.2 ow)
  intro s t h
  unfold qk_lo5 at h
  split at h
  · cases h; exact ⟨(_, _, _), rfl, rfl⟩
  · cases h
noncomputable def qk_t (A : LL) (left : Int) : Tr (Int) := (.ite ((decide ((IntKind.wrap .i64 (left - (A.length : Int))) < (0 : Int))) = true) (.ok (-1 : Int))
  (.ite ((qk_k5_1 A (IntKind.wrap .i64 (left - (A.length : Int))) (0 : Int)) = true) (.ite ((qk_o5_2 A (IntKind.wrap .i64 (left - (A.length : Int))) (0 : Int)) = true) (.ok (-1 : Int))
    .no)
   (.ite ((qk_o5_3 A (IntKind.wrap .i64 (left - (A.length : Int))) (0 : Int)) = true) (.ok (qk_u5_3 A (IntKind.wrap .i64 (left - (A.length : Int))) (0 : Int)))
    .no)))
def qk_mk (p : Int) : Res := [(false, [⟨.int .i64, .sh, TC.i p⟩])]
noncomputable def qk_c (A : LL) (left : Int) : Bool := (bif (decide ((IntKind.wrap .i64 (left - (A.length : Int))) < (0 : Int))) then true else (bif (qk_k5_1 A (IntKind.wrap .i64 (left - (A.length : Int))) (0 : Int)) then ((qk_o5_2 A (IntKind.wrap .i64 (left - (A.length : Int))) (0 : Int)) && true) else ((qk_o5_3 A (IntKind.wrap .i64 (left - (A.length : Int))) (0 : Int)) && true)))
noncomputable def qk_v (A : LL) (left : Int) : Int := (bif (decide ((IntKind.wrap .i64 (left - (A.length : Int))) < (0 : Int))) then (-1 : Int) else (bif (qk_k5_1 A (IntKind.wrap .i64 (left - (A.length : Int))) (0 : Int)) then (-1 : Int) else (qk_u5_3 A (IntKind.wrap .i64 (left - (A.length : Int))) (0 : Int))))
theorem qk_l (A : LL) (left : Int) : (qk_c A left) = true → (qk_t A left).val = some (qk_v A left) := by
  unfold qk_t qk_v qk_c
  exact fun h => (Tr.ss h (fun h => rfl) (fun h => (Tr.ss h (fun h => (Tr.gb h fun h => rfl)) (fun h => (Tr.gb h fun h => rfl)))))
noncomputable def qk_S : List Arg → Option (Bool × Res) := fun xs => match xs with
  | [(false, [(.slice 9, TC.l A)]), (false, [(.int .i64, TC.i left)])] => some ((qk_c A left), qk_mk (qk_v A left))
  | _ => .none
theorem qk_e (A : LL) (left : Int) : runF tab FT D0 live 26 qk_lo [(false, [(.slice 9, TC.l A)]), (false, [(.int .i64, TC.i left)])] = (qk_t A left).run fun p => some (qk_mk p) := by kernel_rfl
theorem qk_s : ∀ xs r, qk_S xs = some (true, r) → runF tab FT D0 live 26 qk_lo xs = some r := by
  intro xs r h
  unfold qk_S at h
  split at h
  · simp only [Option.some.injEq, Prod.mk.injEq] at h
    obtain ⟨h1, rfl⟩ := h
    exact fun_told (qk_e _ _) (qk_l _ _) h1
  · cases h
noncomputable def D1 : Dt := also D0 26 qk_S
theorem d1 : DOk Go.Proofs.Try.prog tab D1 := d0.also mixed_ok tab_ok names_ok (fnLoops_one (by kernel_rfl) qk_is5) qk_s
theorem qk_cc {A : LL} {left : Int} (ht : Typed tab (.slice 9) (.l A)) : (qk_c A left) = true := by
  unfold qk_c
  refine bifT (fun b1 => ?_) (fun b1 => ?_)
  · skip
    rfl
  · skip
    refine bifT (fun b2 => ?_) (fun b2 => ?_)
    · skip
      refine andT (by exact is_true ⟨rfl, ht⟩) ?_
      rfl
    · skip
      refine andT (by exact is_true ⟨rfl, ht⟩) ?_
      rfl
noncomputable def qcd_t (a0 : LL) (a1 : Int) : Tr (Int) := (.ite ((decide ((IntKind.wrap .i64 (a1 - (a0.length : Int))) < (0 : Int))) = true) (.ok (-1 : Int))
  (.ok (IntKind.wrap .i64 (a1 - (a0.length : Int)))))
def qcd_mk (p : Int) : Res := [(false, [⟨.int .i64, .sh, TC.i p⟩])]
noncomputable def qcd_c (a0 : LL) (a1 : Int) : Bool := true
noncomputable def qcd_v (a0 : LL) (a1 : Int) : Int := (bif (decide ((IntKind.wrap .i64 (a1 - (a0.length : Int))) < (0 : Int))) then (-1 : Int) else (IntKind.wrap .i64 (a1 - (a0.length : Int))))
theorem qcd_l (a0 : LL) (a1 : Int) : (qcd_c a0 a1) = true → (qcd_t a0 a1).val = some (qcd_v a0 a1) := by
  intro h
  skip
  unfold qcd_t qcd_v
  exact (Tr.s rfl rfl)
noncomputable def qcd_S : List Arg → Option (Bool × Res) := fun xs => match xs with
  | [(false, [(.slice 2, TC.l a0)]), (false, [(.int .i64, TC.i a1)])] => some (true, qcd_mk (qcd_v a0 a1))
  | _ => .none
theorem qcd_e (a0 : LL) (a1 : Int) : runF tab FT D1 live 27 noLoops [(false, [(.slice 2, TC.l a0)]), (false, [(.int .i64, TC.i a1)])] = (qcd_t a0 a1).run fun p => some (qcd_mk p) := by kernel_rfl
theorem qcd_s : ∀ xs r, qcd_S xs = some (true, r) → runF tab FT D1 live 27 noLoops xs = some r := by
  intro xs r h
  unfold qcd_S at h
  split at h
  · simp only [Option.some.injEq, Prod.mk.injEq] at h
    obtain ⟨h1, rfl⟩ := h
    exact fun_told (qcd_e _ _) (qcd_l _ _) rfl
  · cases h
noncomputable def D2 : Dt := also D1 27 qcd_S
theorem d2 : DOk Go.Proofs.Try.prog tab D2 := d1.also mixed_ok tab_ok names_ok noLoops_ok qcd_s
section
class qba_O where R : (Int) → (Int) → (Bool) → (Bool) → (LL) → (LL) → (LL) → (LL) → (Int) → (Int) → Bool × (Int)
variable [i_laws_szType : qba_O]
def qba_rc (x0 x1 : Int) (x2 x3 : Bool) (x4 x5 x6 x7 : LL) (x8 x9 : Int) : Bool := ((qba_O.R x0 x1 x2 x3 x4 x5 x6 x7 x8 x9)).1
def qba_rv (x0 x1 : Int) (x2 x3 : Bool) (x4 x5 x6 x7 : LL) (x8 x9 : Int) : Int := ((qba_O.R x0 x1 x2 x3 x4 x5 x6 x7 x8 x9)).2
def qba_rmk (p : Int) : Res := [(false, [⟨.int .i64, .sh, TC.i p⟩])]
noncomputable def qba_rS : List Arg → Option (Bool × Res) := fun xs => match xs with
  | [(true, [(.int .i64, TC.i x0), (.int .i64, TC.i x1), (.bool, TC.b x2), (.bool, TC.b x3), (.slice 9, TC.l x4), (.slice 2, TC.l x5), (.slice 67, TC.l x6), (.slice 27, TC.l x7), (.int .i64, TC.i x8)]), (false, [(.int .i64, TC.i x9)])] => some ((qba_rc x0 x1 x2 x3 x4 x5 x6 x7 x8 x9), qba_rmk (qba_rv x0 x1 x2 x3 x4 x5 x6 x7 x8 x9))
  | _ => .none
noncomputable def D3 : Dt := also D2 9 qba_rS
class qba_G : Prop where ok : DOk Go.Proofs.Try.prog tab D3
variable [g_laws_szType : qba_G]
theorem d3 : DOk Go.Proofs.Try.prog tab D3 := qba_G.ok
noncomputable def qbd_t (x0 : BS) (x1 x2 x3 : Int) (x4 x5 : Bool) (x6 x7 x8 x9 : LL) (x10 x11 : Int) : Tr (Int) := (.ite ((decide ((IntKind.wrap .i64 (x11 - (x0.length : Int))) < (0 : Int))) = true) (.ok (-1 : Int))
  (.ite ((qba_rc x2 x3 x4 x5 x6 x7 x8 x9 x10 (IntKind.wrap .i64 (x11 - (x0.length : Int)))) = true) (.ite ((decide ((qba_rv x2 x3 x4 x5 x6 x7 x8 x9 x10 (IntKind.wrap .i64 (x11 - (x0.length : Int)))) < (0 : Int))) = true) (.ok (-1 : Int))
    (.ok (qba_rv x2 x3 x4 x5 x6 x7 x8 x9 x10 (IntKind.wrap .i64 (x11 - (x0.length : Int))))))
   .no))
def qbd_mk (p : Int) : Res := [(false, [⟨.int .i64, .sh, TC.i p⟩])]
noncomputable def qbd_c (x0 : BS) (x1 x2 x3 : Int) (x4 x5 : Bool) (x6 x7 x8 x9 : LL) (x10 x11 : Int) : Bool := (bif (decide ((IntKind.wrap .i64 (x11 - (x0.length : Int))) < (0 : Int))) then true else ((qba_rc x2 x3 x4 x5 x6 x7 x8 x9 x10 (IntKind.wrap .i64 (x11 - (x0.length : Int)))) && (bif (decide ((qba_rv x2 x3 x4 x5 x6 x7 x8 x9 x10 (IntKind.wrap .i64 (x11 - (x0.length : Int)))) < (0 : Int))) then true else true)))
noncomputable def qbd_v (x0 : BS) (x1 x2 x3 : Int) (x4 x5 : Bool) (x6 x7 x8 x9 : LL) (x10 x11 : Int) : Int := (bif (decide ((IntKind.wrap .i64 (x11 - (x0.length : Int))) < (0 : Int))) then (-1 : Int) else (bif (decide ((qba_rv x2 x3 x4 x5 x6 x7 x8 x9 x10 (IntKind.wrap .i64 (x11 - (x0.length : Int)))) < (0 : Int))) then (-1 : Int) else (qba_rv x2 x3 x4 x5 x6 x7 x8 x9 x10 (IntKind.wrap .i64 (x11 - (x0.length : Int))))))
theorem qbd_l (x0 : BS) (x1 x2 x3 : Int) (x4 x5 : Bool) (x6 x7 x8 x9 : LL) (x10 x11 : Int) : (qbd_c x0 x1 x2 x3 x4 x5 x6 x7 x8 x9 x10 x11) = true → (qbd_t x0 x1 x2 x3 x4 x5 x6 x7 x8 x9 x10 x11).val = some (qbd_v x0 x1 x2 x3 x4 x5 x6 x7 x8 x9 x10 x11) := by
  unfold qbd_t qbd_v qbd_c
  exact fun h => (Tr.ss h (fun h => rfl) (fun h => (Tr.gb h fun h => (Tr.ss h (fun h => rfl) (fun h => rfl)))))
noncomputable def qbd_S : List Arg → Option (Bool × Res) := fun xs => match xs with
  | [(true, [(.str, TC.s x0), (.int .i64, TC.i x1), (.int .i64, TC.i x2), (.int .i64, TC.i x3), (.bool, TC.b x4), (.bool, TC.b x5), (.slice 9, TC.l x6), (.slice 2, TC.l x7), (.slice 67, TC.l x8), (.slice 27, TC.l x9), (.int .i64, TC.i x10)]), (false, [(.int .i64, TC.i x11)])] => some ((qbd_c x0 x1 x2 x3 x4 x5 x6 x7 x8 x9 x10 x11), qbd_mk (qbd_v x0 x1 x2 x3 x4 x5 x6 x7 x8 x9 x10 x11))
  | _ => .none
theorem qbd_e (x0 : BS) (x1 x2 x3 : Int) (x4 x5 : Bool) (x6 x7 x8 x9 : LL) (x10 x11 : Int) : runF tab FT D3 live 62 noLoops [(true, [(.str, TC.s x0), (.int .i64, TC.i x1), (.int .i64, TC.i x2), (.int .i64, TC.i x3), (.bool, TC.b x4), (.bool, TC.b x5), (.slice 9, TC.l x6), (.slice 2, TC.l x7), (.slice 67, TC.l x8), (.slice 27, TC.l x9), (.int .i64, TC.i x10)]), (false, [(.int .i64, TC.i x11)])] = (qbd_t x0 x1 x2 x3 x4 x5 x6 x7 x8 x9 x10 x11).run fun p => some (qbd_mk p) := by kernel_rfl
theorem qbd_s : ∀ xs r, qbd_S xs = some (true, r) → runF tab FT D3 live 62 noLoops xs = some r := by
  intro xs r h
  unfold qbd_S at h
  split at h
  · simp only [Option.some.injEq, Prod.mk.injEq] at h
    obtain ⟨h1, rfl⟩ := h
    exact fun_told (qbd_e _ _ _ _ _ _ _ _ _ _ _ _) (qbd_l _ _ _ _ _ _ _ _ _ _ _ _) h1
  · cases h
noncomputable def D4 : Dt := also D3 62 qbd_S
theorem d4 : DOk Go.Proofs.Try.prog tab D4 := d3.also mixed_ok tab_ok names_ok noLoops_ok qbd_s
theorem qbd_cc {x0 : BS} {x1 : Int} {x2 : Int} {x3 : Int} {x4 : Bool} {x5 : Bool} {x6 : LL} {x7 : LL} {x8 : LL} {x9 : LL} {x10 : Int} {x11 : Int} (t6 : Typed tab (.slice 9) (.l x6)) (t7 : Typed tab (.slice 2) (.l x7)) (t8 : Typed tab (.slice 67) (.l x8)) (t9 : Typed tab (.slice 27) (.l x9)) (h0 : (∀ left : Int, qba_rc x2 x3 x4 x5 x6 x7 x8 x9 x10 left = true)) : (qbd_c x0 x1 x2 x3 x4 x5 x6 x7 x8 x9 x10 x11) = true := by
  unfold qbd_c
  refine bifT (fun b1 => ?_) (fun b1 => ?_)
  · skip
    rfl
  · skip
    refine andT (by exact h0 _) ?_
    refine bifT (fun b2 => ?_) (fun b2 => ?_)
    · skip
      rfl
    · skip
      rfl
abbrev qo_5_σ := LL × Int × Int
abbrev qo_5_ω := (Int) ⊕ (Int)
noncomputable def qo_5_step (A : LL) (left i : Int) : Tr (qo_5_σ ⊕ qo_5_ω) := (.ite ((decide (i < (A.length : Int))) = true) (.ite ((0 : Int) ≤ i ∧ i < (A.length : Int)) (.ite ((qbd_c ((nth (row A i) 0).str) ((nth (row A i) 1).int) ((nth (row A i) 2).int) ((nth (row A i) 3).int) ((nth (row A i) 4).bool) ((nth (row A i) 5).bool) ((nth (row A i) 6).list) ((nth (row A i) 7).list) ((nth (row A i) 8).list) ((nth (row A i) 9).list) ((nth (row A i) 10).int) left) = true) (.ite ((decide ((qbd_v ((nth (row A i) 0).str) ((nth (row A i) 1).int) ((nth (row A i) 2).int) ((nth (row A i) 3).int) ((nth (row A i) 4).bool) ((nth (row A i) 5).bool) ((nth (row A i) 6).list) ((nth (row A i) 7).list) ((nth (row A i) 8).list) ((nth (row A i) 9).list) ((nth (row A i) 10).int) left) < (0 : Int))) = true) (.ok (.inr (.inl (qbd_v ((nth (row A i) 0).str) ((nth (row A i) 1).int) ((nth (row A i) 2).int) ((nth (row A i) 3).int) ((nth (row A i) 4).bool) ((nth (row A i) 5).bool) ((nth (row A i) 6).list) ((nth (row A i) 7).list) ((nth (row A i) 8).list) ((nth (row A i) 9).list) ((nth (row A i) 10).int) left))))
     (.ok (.inl (A, (qbd_v ((nth (row A i) 0).str) ((nth (row A i) 1).int) ((nth (row A i) 2).int) ((nth (row A i) 3).int) ((nth (row A i) 4).bool) ((nth (row A i) 5).bool) ((nth (row A i) 6).list) ((nth (row A i) 7).list) ((nth (row A i) 8).list) ((nth (row A i) 9).list) ((nth (row A i) 10).int) left), (IntKind.wrap .i64 (i + (1 : Int)))))))
    .no)
   .no)
  (.ok (.inr (.inr left))))
noncomputable def qo_5_st : qo_5_σ → Tr (qo_5_σ ⊕ qo_5_ω) := fun x => (qo_5_step (x.1) (x.2.1) (x.2.2))
noncomputable def qo_k5_1 (A : LL) (left i : Int) : Bool := isL (loopN qo_5_st (A.length + 1) (A, left, i))
noncomputable def qo_o5_2 (A : LL) (left i : Int) : Bool := is (i = 0 ∧ Typed tab (.slice 67) (.l A) ∧ (∀ x : List TC, x ∈ A → ∀ left : Int, (qbd_c ((nth x 0).str) ((nth x 1).int) ((nth x 2).int) ((nth x 3).int) ((nth x 4).bool) ((nth x 5).bool) ((nth x 6).list) ((nth x 7).list) ((nth x 8).list) ((nth x 9).list) ((nth x 10).int) left) = true))
noncomputable def qo_u5_2 (A : LL) (left i : Int) : Int := getL (loopN qo_5_st (A.length + 1) (A, left, i))
noncomputable def qo_o5_3 (A : LL) (left i : Int) : Bool := is (i = 0 ∧ Typed tab (.slice 67) (.l A) ∧ (∀ x : List TC, x ∈ A → ∀ left : Int, (qbd_c ((nth x 0).str) ((nth x 1).int) ((nth x 2).int) ((nth x 3).int) ((nth x 4).bool) ((nth x 5).bool) ((nth x 6).list) ((nth x 7).list) ((nth x 8).list) ((nth x 9).list) ((nth x 10).int) left) = true))
noncomputable def qo_u5_3 (A : LL) (left i : Int) : Int := getR (loopN qo_5_st (A.length + 1) (A, left, i))
noncomputable def qo_5_fin (A : LL) (left i : Int) : Told qo_5_ω := (.br (qo_k5_1 A left i) (.leaf (qo_o5_2 A left i) (.inl (qo_u5_2 A left i))) (.leaf (qo_o5_3 A left i) (.inr (qo_u5_3 A left i))))
def qo_5_sl (x : qo_5_σ) : List Slot := [⟨.val false [⟨.slice 67, .sh, TC.l (x.1)⟩], ⟨0, 0⟩⟩, ⟨.val false [⟨.int .i64, .sh, TC.i (x.2.1)⟩], ⟨0, 0⟩⟩, ⟨.val false [⟨.int .i64, .sh, TC.i (x.2.2)⟩], ⟨0, 0⟩⟩]
def qo_5_out : qo_5_ω → Ex × List Slot := (Sum.elim (fun x => (.ret, [⟨.val false [⟨.int .i64, .sh, TC.i x⟩], ⟨0, 0⟩⟩, ⟨.val false [⟨.int .i64, .sh, TC.i (-1 : Int)⟩], ⟨0, 0⟩⟩])) (fun x => (.exit 0, [⟨.val false [⟨.int .i64, .sh, TC.i x⟩], ⟨0, 0⟩⟩, Slot.none])))
noncomputable def qo_lo5 : List Slot → Option (Told (Ex × List Slot)) := fun s => match s with
  | [⟨.val false [⟨.slice 67, .sh, TC.l A⟩], ⟨0, 0⟩⟩, ⟨.val false [⟨.int .i64, .sh, TC.i left⟩], ⟨0, 0⟩⟩, ⟨.val false [⟨.int .i64, .sh, TC.i i⟩], ⟨0, 0⟩⟩] => some (((qo_5_fin A left i)).map qo_5_out)
  | _ => .none
noncomputable def qo_lo : LoopTeller := fun r s => bif Nat.beq r 5 then qo_lo5 s else .none
theorem qo_5_r (A : LL) (left i : Int) (fuel : Nat) : rounds (rnd tab FT D4 live 28 qo_lo 0 5) leave (fuel + 1) (qo_5_sl (A, left, i)) = ((qo_5_step A left i)).run (goOn (fun s => rounds (rnd tab FT D4 live 28 qo_lo 0 5) leave fuel (qo_5_sl s)) fun w => some (qo_5_out w)) := by kernel_rfl
theorem qo_5_h (A : LL) (left i : Int) (ow : qo_5_ω) : ((qo_5_fin A left i)).val = some ow → ∃ fuel, loopN qo_5_st fuel (A, left, i) = some ow := by
  refine auto_two (N := A.length + 1) rfl rfl rfl ?_
  intro ho
  have ho : is (i = 0 ∧ Typed tab (.slice 67) (.l A) ∧ (∀ x : List TC, x ∈ A → ∀ left : Int, (qbd_c ((nth x 0).str) ((nth x 1).int) ((nth x 2).int) ((nth x 3).int) ((nth x 4).bool) ((nth x 5).bool) ((nth x 6).list) ((nth x 7).list) ((nth x 8).list) ((nth x 9).list) ((nth x 10).int) left) = true)) = true := ho.elim id id
  obtain ⟨rfl, ht, hr0⟩ := is_iff.1 ho
  have hlen : A.length ≤ 140737488351232 := by have := typed_room ht; simp only [show (tab 67).bytes = 152 from rfl] at this; omega
  refine loopN_ends (step := qo_5_st) (N := A.length) (fun i a => (A, a, (i : Int))) (fun i a hi => ?_) (fun a => ?_) A.length 0 left (by omega)
  · show (∃ a', (qo_5_step A a (i : Int)).val = _) ∨ ∃ w, (qo_5_step A a (i : Int)).val = _
    have c0 : Typed tab (.str) (.s (nth (A.getD i []) 0).str) := typed_s (typed_cell ht (A.getD i []) (mem_getD hi) 0 (by decide))
    have c6 : Typed tab (.slice 9) (.l (nth (A.getD i []) 6).list) := typed_list (typed_cell ht (A.getD i []) (mem_getD hi) 6 (by decide))
    have c7 : Typed tab (.slice 2) (.l (nth (A.getD i []) 7).list) := typed_list (typed_cell ht (A.getD i []) (mem_getD hi) 7 (by decide))
    have c8 : Typed tab (.slice 67) (.l (nth (A.getD i []) 8).list) := typed_list (typed_cell ht (A.getD i []) (mem_getD hi) 8 (by decide))
    have c9 : Typed tab (.slice 27) (.l (nth (A.getD i []) 9).list) := typed_list (typed_cell ht (A.getD i []) (mem_getD hi) 9 (by decide))
    cases hneg : ((decide ((qbd_v ((nth (row A i) 0).str) ((nth (row A i) 1).int) ((nth (row A i) 2).int) ((nth (row A i) 3).int) ((nth (row A i) 4).bool) ((nth (row A i) 5).bool) ((nth (row A i) 6).list) ((nth (row A i) 7).list) ((nth (row A i) 8).list) ((nth (row A i) 9).list) ((nth (row A i) 10).int) a) < (0 : Int))))
    · apply Or.inl
      apply Exists.intro
      · unfold qo_5_step
        refine Tr.t (by simp; omega) ?_
        refine Tr.t (by first | omega | (constructor <;> omega)) ?_
        refine Tr.t (hr0 (A.getD i []) (mem_getD hi) a) ?_
        refine Tr.n (by rw [hneg]; simp) ?_
        rw [Tr.val_ok, wrap64 (i := (i : Int) + 1) (by omega) (by omega)]; rfl
    · apply Or.inr
      apply Exists.intro
      · unfold qo_5_step
        refine Tr.t (by simp; omega) ?_
        refine Tr.t (by first | omega | (constructor <;> omega)) ?_
        refine Tr.t (hr0 (A.getD i []) (mem_getD hi) a) ?_
        refine Tr.t hneg ?_
        rfl
  · apply Exists.intro
    · show (qo_5_step A a (A.length : Int)).val = _
      refine Tr.n (by simp) ?_
      rfl
theorem qo_is5 : LoopIs tab FT D4 live 28 qo_lo 0 5 := by
  refine loop_told (sl := qo_5_sl) (step := qo_5_st) (out := qo_5_out) (lor := qo_lo5) (fin := fun x => (qo_5_fin (x.1) (x.2.1) (x.2.2))) (fun _ => rfl) ?_ (fun x n => qo_5_r x.1 x.2.1 x.2.2 n) (fun x ow => qo_5_h x.1 x.2.1 x.2.2 ow)
  intro s t h
  unfold qo_lo5 at h
  split at h
  · cases h; exact ⟨(_, _, _), rfl, rfl⟩
  · cases h
noncomputable def qo_t (A : LL) (left : Int) : Tr (Int) := (.ite ((decide ((IntKind.wrap .i64 (left - (A.length : Int))) < (0 : Int))) = true) (.ok (-1 : Int))
  (.ite ((qo_k5_1 A (IntKind.wrap .i64 (left - (A.length : Int))) (0 : Int)) = true) (.ite ((qo_o5_2 A (IntKind.wrap .i64 (left - (A.length : Int))) (0 : Int)) = true) (.ok (-1 : Int))
    .no)
   (.ite ((qo_o5_3 A (IntKind.wrap .i64 (left - (A.length : Int))) (0 : Int)) = true) (.ok (qo_u5_3 A (IntKind.wrap .i64 (left - (A.length : Int))) (0 : Int)))
    .no)))
def qo_mk (p : Int) : Res := [(false, [⟨.int .i64, .sh, TC.i p⟩])]
noncomputable def qo_c (A : LL) (left : Int) : Bool := (bif (decide ((IntKind.wrap .i64 (left - (A.length : Int))) < (0 : Int))) then true else (bif (qo_k5_1 A (IntKind.wrap .i64 (left - (A.length : Int))) (0 : Int)) then ((qo_o5_2 A (IntKind.wrap .i64 (left - (A.length : Int))) (0 : Int)) && true) else ((qo_o5_3 A (IntKind.wrap .i64 (left - (A.length : Int))) (0 : Int)) && true)))
noncomputable def qo_v (A : LL) (left : Int) : Int := (bif (decide ((IntKind.wrap .i64 (left - (A.length : Int))) < (0 : Int))) then (-1 : Int) else (bif (qo_k5_1 A (IntKind.wrap .i64 (left - (A.length : Int))) (0 : Int)) then (-1 : Int) else (qo_u5_3 A (IntKind.wrap .i64 (left - (A.length : Int))) (0 : Int))))
theorem qo_l (A : LL) (left : Int) : (qo_c A left) = true → (qo_t A left).val = some (qo_v A left) := by
  unfold qo_t qo_v qo_c
  exact fun h => (Tr.ss h (fun h => rfl) (fun h => (Tr.ss h (fun h => (Tr.gb h fun h => rfl)) (fun h => (Tr.gb h fun h => rfl)))))
noncomputable def qo_S : List Arg → Option (Bool × Res) := fun xs => match xs with
  | [(false, [(.slice 67, TC.l A)]), (false, [(.int .i64, TC.i left)])] => some ((qo_c A left), qo_mk (qo_v A left))
  | _ => .none
theorem qo_e (A : LL) (left : Int) : runF tab FT D4 live 28 qo_lo [(false, [(.slice 67, TC.l A)]), (false, [(.int .i64, TC.i left)])] = (qo_t A left).run fun p => some (qo_mk p) := by kernel_rfl
theorem qo_s : ∀ xs r, qo_S xs = some (true, r) → runF tab FT D4 live 28 qo_lo xs = some r := by
  intro xs r h
  unfold qo_S at h
  split at h
  · simp only [Option.some.injEq, Prod.mk.injEq] at h
    obtain ⟨h1, rfl⟩ := h
    exact fun_told (qo_e _ _) (qo_l _ _) h1
  · cases h
noncomputable def D5 : Dt := also D4 28 qo_S
theorem d5 : DOk Go.Proofs.Try.prog tab D5 := d4.also mixed_ok tab_ok names_ok (fnLoops_one (by kernel_rfl) qo_is5) qo_s
theorem qo_cc {A : LL} {left : Int} (ht : Typed tab (.slice 67) (.l A)) (hr0 : (∀ x : List TC, x ∈ A → ∀ left : Int, (qbd_c ((nth x 0).str) ((nth x 1).int) ((nth x 2).int) ((nth x 3).int) ((nth x 4).bool) ((nth x 5).bool) ((nth x 6).list) ((nth x 7).list) ((nth x 8).list) ((nth x 9).list) ((nth x 10).int) left) = true)) : (qo_c A left) = true := by
  unfold qo_c
  refine bifT (fun b1 => ?_) (fun b1 => ?_)
  · skip
    rfl
  · skip
    refine bifT (fun b2 => ?_) (fun b2 => ?_)
    · skip
      refine andT (by exact is_true ⟨rfl, ht, hr0⟩) ?_
      rfl
    · skip
      refine andT (by exact is_true ⟨rfl, ht, hr0⟩) ?_
      rfl
abbrev qr_5_σ := LL × Int × Int
abbrev qr_5_ω := (Int) ⊕ (Int)
noncomputable def qr_5_step (A : LL) (left i : Int) : Tr (qr_5_σ ⊕ qr_5_ω) := (.ite ((decide (i < (A.length : Int))) = true) (.ite ((0 : Int) ≤ i ∧ i < (A.length : Int)) (.ite ((qba_rc ((nth (row A i) 0).int) ((nth (row A i) 1).int) ((nth (row A i) 2).bool) ((nth (row A i) 3).bool) ((nth (row A i) 4).list) ((nth (row A i) 5).list) ((nth (row A i) 6).list) ((nth (row A i) 7).list) ((nth (row A i) 8).int) left) = true) (.ite ((decide ((qba_rv ((nth (row A i) 0).int) ((nth (row A i) 1).int) ((nth (row A i) 2).bool) ((nth (row A i) 3).bool) ((nth (row A i) 4).list) ((nth (row A i) 5).list) ((nth (row A i) 6).list) ((nth (row A i) 7).list) ((nth (row A i) 8).int) left) < (0 : Int))) = true) (.ok (.inr (.inl (qba_rv ((nth (row A i) 0).int) ((nth (row A i) 1).int) ((nth (row A i) 2).bool) ((nth (row A i) 3).bool) ((nth (row A i) 4).list) ((nth (row A i) 5).list) ((nth (row A i) 6).list) ((nth (row A i) 7).list) ((nth (row A i) 8).int) left))))
     (.ok (.inl (A, (qba_rv ((nth (row A i) 0).int) ((nth (row A i) 1).int) ((nth (row A i) 2).bool) ((nth (row A i) 3).bool) ((nth (row A i) 4).list) ((nth (row A i) 5).list) ((nth (row A i) 6).list) ((nth (row A i) 7).list) ((nth (row A i) 8).int) left), (IntKind.wrap .i64 (i + (1 : Int)))))))
    .no)
   .no)
  (.ok (.inr (.inr left))))
noncomputable def qr_5_st : qr_5_σ → Tr (qr_5_σ ⊕ qr_5_ω) := fun x => (qr_5_step (x.1) (x.2.1) (x.2.2))
noncomputable def qr_k5_1 (A : LL) (left i : Int) : Bool := isL (loopN qr_5_st (A.length + 1) (A, left, i))
noncomputable def qr_o5_2 (A : LL) (left i : Int) : Bool := is (i = 0 ∧ Typed tab (.slice 27) (.l A) ∧ (∀ x : List TC, x ∈ A → ∀ left : Int, (qba_rc ((nth x 0).int) ((nth x 1).int) ((nth x 2).bool) ((nth x 3).bool) ((nth x 4).list) ((nth x 5).list) ((nth x 6).list) ((nth x 7).list) ((nth x 8).int) left) = true))
noncomputable def qr_u5_2 (A : LL) (left i : Int) : Int := getL (loopN qr_5_st (A.length + 1) (A, left, i))
noncomputable def qr_o5_3 (A : LL) (left i : Int) : Bool := is (i = 0 ∧ Typed tab (.slice 27) (.l A) ∧ (∀ x : List TC, x ∈ A → ∀ left : Int, (qba_rc ((nth x 0).int) ((nth x 1).int) ((nth x 2).bool) ((nth x 3).bool) ((nth x 4).list) ((nth x 5).list) ((nth x 6).list) ((nth x 7).list) ((nth x 8).int) left) = true))
noncomputable def qr_u5_3 (A : LL) (left i : Int) : Int := getR (loopN qr_5_st (A.length + 1) (A, left, i))
noncomputable def qr_5_fin (A : LL) (left i : Int) : Told qr_5_ω := (.br (qr_k5_1 A left i) (.leaf (qr_o5_2 A left i) (.inl (qr_u5_2 A left i))) (.leaf (qr_o5_3 A left i) (.inr (qr_u5_3 A left i))))
def qr_5_sl (x : qr_5_σ) : List Slot := [⟨.val false [⟨.slice 27, .sh, TC.l (x.1)⟩], ⟨0, 0⟩⟩, ⟨.val false [⟨.int .i64, .sh, TC.i (x.2.1)⟩], ⟨0, 0⟩⟩, ⟨.val false [⟨.int .i64, .sh, TC.i (x.2.2)⟩], ⟨0, 0⟩⟩]
def qr_5_out : qr_5_ω → Ex × List Slot := (Sum.elim (fun x => (.ret, [⟨.val false [⟨.int .i64, .sh, TC.i x⟩], ⟨0, 0⟩⟩, ⟨.val false [⟨.int .i64, .sh, TC.i (-1 : Int)⟩], ⟨0, 0⟩⟩])) (fun x => (.exit 0, [⟨.val false [⟨.int .i64, .sh, TC.i x⟩], ⟨0, 0⟩⟩, Slot.none])))
noncomputable def qr_lo5 : List Slot → Option (Told (Ex × List Slot)) := fun s => match s with
  | [⟨.val false [⟨.slice 27, .sh, TC.l A⟩], ⟨0, 0⟩⟩, ⟨.val false [⟨.int .i64, .sh, TC.i left⟩], ⟨0, 0⟩⟩, ⟨.val false [⟨.int .i64, .sh, TC.i i⟩], ⟨0, 0⟩⟩] => some (((qr_5_fin A left i)).map qr_5_out)
  | _ => .none
noncomputable def qr_lo : LoopTeller := fun r s => bif Nat.beq r 5 then qr_lo5 s else .none
theorem qr_5_r (A : LL) (left i : Int) (fuel : Nat) : rounds (rnd tab FT D5 live 29 qr_lo 0 5) leave (fuel + 1) (qr_5_sl (A, left, i)) = ((qr_5_step A left i)).run (goOn (fun s => rounds (rnd tab FT D5 live 29 qr_lo 0 5) leave fuel (qr_5_sl s)) fun w => some (qr_5_out w)) := by kernel_rfl
theorem qr_5_h (A : LL) (left i : Int) (ow : qr_5_ω) : ((qr_5_fin A left i)).val = some ow → ∃ fuel, loopN qr_5_st fuel (A, left, i) = some ow := by
  refine auto_two (N := A.length + 1) rfl rfl rfl ?_
  intro ho
  have ho : is (i = 0 ∧ Typed tab (.slice 27) (.l A) ∧ (∀ x : List TC, x ∈ A → ∀ left : Int, (qba_rc ((nth x 0).int) ((nth x 1).int) ((nth x 2).bool) ((nth x 3).bool) ((nth x 4).list) ((nth x 5).list) ((nth x 6).list) ((nth x 7).list) ((nth x 8).int) left) = true)) = true := ho.elim id id
  obtain ⟨rfl, ht, hr0⟩ := is_iff.1 ho
  have hlen : A.length ≤ 140737488351232 := by have := typed_room ht; simp only [show (tab 27).bytes = 128 from rfl] at this; omega
  refine loopN_ends (step := qr_5_st) (N := A.length) (fun i a => (A, a, (i : Int))) (fun i a hi => ?_) (fun a => ?_) A.length 0 left (by omega)
  · show (∃ a', (qr_5_step A a (i : Int)).val = _) ∨ ∃ w, (qr_5_step A a (i : Int)).val = _
    have c4 : Typed tab (.slice 9) (.l (nth (A.getD i []) 4).list) := typed_list (typed_cell ht (A.getD i []) (mem_getD hi) 4 (by decide))
    have c5 : Typed tab (.slice 2) (.l (nth (A.getD i []) 5).list) := typed_list (typed_cell ht (A.getD i []) (mem_getD hi) 5 (by decide))
    have c6 : Typed tab (.slice 67) (.l (nth (A.getD i []) 6).list) := typed_list (typed_cell ht (A.getD i []) (mem_getD hi) 6 (by decide))
    have c7 : Typed tab (.slice 27) (.l (nth (A.getD i []) 7).list) := typed_list (typed_cell ht (A.getD i []) (mem_getD hi) 7 (by decide))
    cases hneg : ((decide ((qba_rv ((nth (row A i) 0).int) ((nth (row A i) 1).int) ((nth (row A i) 2).bool) ((nth (row A i) 3).bool) ((nth (row A i) 4).list) ((nth (row A i) 5).list) ((nth (row A i) 6).list) ((nth (row A i) 7).list) ((nth (row A i) 8).int) a) < (0 : Int))))
    · apply Or.inl
      apply Exists.intro
      · unfold qr_5_step
        refine Tr.t (by simp; omega) ?_
        refine Tr.t (by first | omega | (constructor <;> omega)) ?_
        refine Tr.t (hr0 (A.getD i []) (mem_getD hi) a) ?_
        refine Tr.n (by rw [hneg]; simp) ?_
        rw [Tr.val_ok, wrap64 (i := (i : Int) + 1) (by omega) (by omega)]; rfl
    · apply Or.inr
      apply Exists.intro
      · unfold qr_5_step
        refine Tr.t (by simp; omega) ?_
        refine Tr.t (by first | omega | (constructor <;> omega)) ?_
        refine Tr.t (hr0 (A.getD i []) (mem_getD hi) a) ?_
        refine Tr.t hneg ?_
        rfl
  · apply Exists.intro
    · show (qr_5_step A a (A.length : Int)).val = _
      refine Tr.n (by simp) ?_
      rfl
theorem qr_is5 : LoopIs tab FT D5 live 29 qr_lo 0 5 := by
  refine loop_told (sl := qr_5_sl) (step := qr_5_st) (out := qr_5_out) (lor := qr_lo5) (fin := fun x => (qr_5_fin (x.1) (x.2.1) (x.2.2))) (fun _ => rfl) ?_ (fun x n => qr_5_r x.1 x.2.1 x.2.2 n) (fun x ow => qr_5_h x.1 x.2.1 x.2.2 ow)
  intro s t h
  unfold qr_lo5 at h
  split at h
  · cases h; exact ⟨(_, _, _), rfl, rfl⟩
  · cases h
noncomputable def qr_t (A : LL) (left : Int) : Tr (Int) := (.ite ((decide ((IntKind.wrap .i64 (left - (A.length : Int))) < (0 : Int))) = true) (.ok (-1 : Int))
  (.ite ((qr_k5_1 A (IntKind.wrap .i64 (left - (A.length : Int))) (0 : Int)) = true) (.ite ((qr_o5_2 A (IntKind.wrap .i64 (left - (A.length : Int))) (0 : Int)) = true) (.ok (-1 : Int))
    .no)
   (.ite ((qr_o5_3 A (IntKind.wrap .i64 (left - (A.length : Int))) (0 : Int)) = true) (.ok (qr_u5_3 A (IntKind.wrap .i64 (left - (A.length : Int))) (0 : Int)))
    .no)))
def qr_mk (p : Int) : Res := [(false, [⟨.int .i64, .sh, TC.i p⟩])]
noncomputable def qr_c (A : LL) (left : Int) : Bool := (bif (decide ((IntKind.wrap .i64 (left - (A.length : Int))) < (0 : Int))) then true else (bif (qr_k5_1 A (IntKind.wrap .i64 (left - (A.length : Int))) (0 : Int)) then ((qr_o5_2 A (IntKind.wrap .i64 (left - (A.length : Int))) (0 : Int)) && true) else ((qr_o5_3 A (IntKind.wrap .i64 (left - (A.length : Int))) (0 : Int)) && true)))
noncomputable def qr_v (A : LL) (left : Int) : Int := (bif (decide ((IntKind.wrap .i64 (left - (A.length : Int))) < (0 : Int))) then (-1 : Int) else (bif (qr_k5_1 A (IntKind.wrap .i64 (left - (A.length : Int))) (0 : Int)) then (-1 : Int) else (qr_u5_3 A (IntKind.wrap .i64 (left - (A.length : Int))) (0 : Int))))
theorem qr_l (A : LL) (left : Int) : (qr_c A left) = true → (qr_t A left).val = some (qr_v A left) := by
  unfold qr_t qr_v qr_c
  exact fun h => (Tr.ss h (fun h => rfl) (fun h => (Tr.ss h (fun h => (Tr.gb h fun h => rfl)) (fun h => (Tr.gb h fun h => rfl)))))
noncomputable def qr_S : List Arg → Option (Bool × Res) := fun xs => match xs with
  | [(false, [(.slice 27, TC.l A)]), (false, [(.int .i64, TC.i left)])] => some ((qr_c A left), qr_mk (qr_v A left))
  | _ => .none
theorem qr_e (A : LL) (left : Int) : runF tab FT D5 live 29 qr_lo [(false, [(.slice 27, TC.l A)]), (false, [(.int .i64, TC.i left)])] = (qr_t A left).run fun p => some (qr_mk p) := by kernel_rfl
theorem qr_s : ∀ xs r, qr_S xs = some (true, r) → runF tab FT D5 live 29 qr_lo xs = some r := by
  intro xs r h
  unfold qr_S at h
  split at h
  · simp only [Option.some.injEq, Prod.mk.injEq] at h
    obtain ⟨h1, rfl⟩ := h
    exact fun_told (qr_e _ _) (qr_l _ _) h1
  · cases h
noncomputable def D6 : Dt := also D5 29 qr_S
theorem d6 : DOk Go.Proofs.Try.prog tab D6 := d5.also mixed_ok tab_ok names_ok (fnLoops_one (by kernel_rfl) qr_is5) qr_s
theorem qr_cc {A : LL} {left : Int} (ht : Typed tab (.slice 27) (.l A)) (hr0 : (∀ x : List TC, x ∈ A → ∀ left : Int, (qba_rc ((nth x 0).int) ((nth x 1).int) ((nth x 2).bool) ((nth x 3).bool) ((nth x 4).list) ((nth x 5).list) ((nth x 6).list) ((nth x 7).list) ((nth x 8).int) left) = true)) : (qr_c A left) = true := by
  unfold qr_c
  refine bifT (fun b1 => ?_) (fun b1 => ?_)
  · skip
    rfl
  · skip
    refine bifT (fun b2 => ?_) (fun b2 => ?_)
    · skip
      refine andT (by exact is_true ⟨rfl, ht, hr0⟩) ?_
      rfl
    · skip
      refine andT (by exact is_true ⟨rfl, ht, hr0⟩) ?_
      rfl
noncomputable def qba_t (x0 x1 : Int) (x2 x3 : Bool) (x4 x5 x6 x7 : LL) (x8 x9 : Int) : Tr (Int) := (.ite ((qk_c x4 x9) = true) (.ite ((decide ((qk_v x4 x9) < (0 : Int))) = true) (.ok (-1 : Int))
   (.ite ((decide ((qcd_v x5 (qk_v x4 x9)) < (0 : Int))) = true) (.ok (-1 : Int))
    (.ite ((qo_c x6 (qcd_v x5 (qk_v x4 x9))) = true) (.ite ((decide ((qo_v x6 (qcd_v x5 (qk_v x4 x9))) < (0 : Int))) = true) (.ok (-1 : Int))
      (.ite ((qr_c x7 (qo_v x6 (qcd_v x5 (qk_v x4 x9)))) = true) (.ite ((decide ((qr_v x7 (qo_v x6 (qcd_v x5 (qk_v x4 x9)))) < (0 : Int))) = true) (.ok (-1 : Int))
        (.ok (qr_v x7 (qo_v x6 (qcd_v x5 (qk_v x4 x9))))))
       .no))
     .no)))
  .no)
def qba_mk (p : Int) : Res := [(false, [⟨.int .i64, .sh, TC.i p⟩])]
noncomputable def qba_c (x0 x1 : Int) (x2 x3 : Bool) (x4 x5 x6 x7 : LL) (x8 x9 : Int) : Bool := ((qk_c x4 x9) && (bif (decide ((qk_v x4 x9) < (0 : Int))) then true else (bif (decide ((qcd_v x5 (qk_v x4 x9)) < (0 : Int))) then true else ((qo_c x6 (qcd_v x5 (qk_v x4 x9))) && (bif (decide ((qo_v x6 (qcd_v x5 (qk_v x4 x9))) < (0 : Int))) then true else ((qr_c x7 (qo_v x6 (qcd_v x5 (qk_v x4 x9)))) && (bif (decide ((qr_v x7 (qo_v x6 (qcd_v x5 (qk_v x4 x9)))) < (0 : Int))) then true else true)))))))
noncomputable def qba_v (x0 x1 : Int) (x2 x3 : Bool) (x4 x5 x6 x7 : LL) (x8 x9 : Int) : Int := (bif (decide ((qk_v x4 x9) < (0 : Int))) then (-1 : Int) else (bif (decide ((qcd_v x5 (qk_v x4 x9)) < (0 : Int))) then (-1 : Int) else (bif (decide ((qo_v x6 (qcd_v x5 (qk_v x4 x9))) < (0 : Int))) then (-1 : Int) else (bif (decide ((qr_v x7 (qo_v x6 (qcd_v x5 (qk_v x4 x9)))) < (0 : Int))) then (-1 : Int) else (qr_v x7 (qo_v x6 (qcd_v x5 (qk_v x4 x9))))))))
theorem qba_l (x0 x1 : Int) (x2 x3 : Bool) (x4 x5 x6 x7 : LL) (x8 x9 : Int) : (qba_c x0 x1 x2 x3 x4 x5 x6 x7 x8 x9) = true → (qba_t x0 x1 x2 x3 x4 x5 x6 x7 x8 x9).val = some (qba_v x0 x1 x2 x3 x4 x5 x6 x7 x8 x9) := by
  unfold qba_t qba_v qba_c
  exact fun h => (Tr.gb h fun h => (Tr.ss h (fun h => rfl) (fun h => (Tr.ss h (fun h => rfl) (fun h => (Tr.gb h fun h => (Tr.ss h (fun h => rfl) (fun h => (Tr.gb h fun h => (Tr.ss h (fun h => rfl) (fun h => rfl)))))))))))
noncomputable def qba_S : List Arg → Option (Bool × Res) := fun xs => match xs with
  | [(true, [(.int .i64, TC.i x0), (.int .i64, TC.i x1), (.bool, TC.b x2), (.bool, TC.b x3), (.slice 9, TC.l x4), (.slice 2, TC.l x5), (.slice 67, TC.l x6), (.slice 27, TC.l x7), (.int .i64, TC.i x8)]), (false, [(.int .i64, TC.i x9)])] => some ((qba_c x0 x1 x2 x3 x4 x5 x6 x7 x8 x9), qba_mk (qba_v x0 x1 x2 x3 x4 x5 x6 x7 x8 x9))
  | _ => .none
theorem qba_e (x0 x1 : Int) (x2 x3 : Bool) (x4 x5 x6 x7 : LL) (x8 x9 : Int) : runF tab FT D6 live 9 noLoops [(true, [(.int .i64, TC.i x0), (.int .i64, TC.i x1), (.bool, TC.b x2), (.bool, TC.b x3), (.slice 9, TC.l x4), (.slice 2, TC.l x5), (.slice 67, TC.l x6), (.slice 27, TC.l x7), (.int .i64, TC.i x8)]), (false, [(.int .i64, TC.i x9)])] = (qba_t x0 x1 x2 x3 x4 x5 x6 x7 x8 x9).run fun p => some (qba_mk p) := by kernel_rfl
theorem qba_s : ∀ xs r, qba_S xs = some (true, r) → runF tab FT D6 live 9 noLoops xs = some r := by
  intro xs r h
  unfold qba_S at h
  split at h
  · simp only [Option.some.injEq, Prod.mk.injEq] at h
    obtain ⟨h1, rfl⟩ := h
    exact fun_told (qba_e _ _ _ _ _ _ _ _ _ _) (qba_l _ _ _ _ _ _ _ _ _ _) h1
  · cases h
noncomputable def qba_next : (Int) → (Int) → (Bool) → (Bool) → (LL) → (LL) → (LL) → (LL) → (Int) → (Int) → Bool × (Int) := fun x0 x1 x2 x3 x4 x5 x6 x7 x8 x9 => ((qba_c x0 x1 x2 x3 x4 x5 x6 x7 x8 x9), (qba_v x0 x1 x2 x3 x4 x5 x6 x7 x8 x9))
theorem qba_nx (m : Nat) (hR : ∀ (x0 x1 : Int) (x2 x3 : Bool) (x4 x5 x6 x7 : LL) (x8 x9 : Int), max (rowsDep x6) (rowsDep x7) < m ∧ Typed tab (.slice 9) (.l x4) ∧ Typed tab (.slice 2) (.l x5) ∧ Typed tab (.slice 67) (.l x6) ∧ Typed tab (.slice 27) (.l x7) → (qba_rc x0 x1 x2 x3 x4 x5 x6 x7 x8 x9) = true) (x0 x1 : Int) (x2 x3 : Bool) (x4 x5 x6 x7 : LL) (x8 x9 : Int) : max (rowsDep x6) (rowsDep x7) < (m + 1) ∧ Typed tab (.slice 9) (.l x4) ∧ Typed tab (.slice 2) (.l x5) ∧ Typed tab (.slice 67) (.l x6) ∧ Typed tab (.slice 27) (.l x7) → (qba_c x0 x1 x2 x3 x4 x5 x6 x7 x8 x9) = true := by
  intro h
  obtain ⟨hM, t4, t5, t6, t7⟩ := h
  unfold qba_c
  refine andT (by exact qk_cc t4) ?_
  refine bifT (fun b1 => ?_) (fun b1 => ?_)
  · skip
    rfl
  · skip
    refine bifT (fun b2 => ?_) (fun b2 => ?_)
    · skip
      rfl
    · skip
      refine andT (by exact qo_cc t6 (fun x hx left => qbd_cc (typed_list ((typed_elem t6 hx).2 6 (by decide))) (typed_list ((typed_elem t6 hx).2 7 (by decide))) (typed_list ((typed_elem t6 hx).2 8 (by decide))) (typed_list ((typed_elem t6 hx).2 9 (by decide))) (fun left => hR _ _ _ _ _ _ _ _ _ _ ⟨by have a := dep_cell hx 8; have b := dep_cell hx 9; omega, typed_list ((typed_elem t6 hx).2 6 (by decide)), typed_list ((typed_elem t6 hx).2 7 (by decide)), typed_list ((typed_elem t6 hx).2 8 (by decide)), typed_list ((typed_elem t6 hx).2 9 (by decide))⟩))) ?_
      refine bifT (fun b3 => ?_) (fun b3 => ?_)
      · skip
        rfl
      · skip
        refine andT (by exact qr_cc t7 (fun x hx left => hR _ _ _ _ _ _ _ _ _ _ ⟨by have a := dep_cell hx 6; have b := dep_cell hx 7; omega, typed_list ((typed_elem t7 hx).2 4 (by decide)), typed_list ((typed_elem t7 hx).2 5 (by decide)), typed_list ((typed_elem t7 hx).2 6 (by decide)), typed_list ((typed_elem t7 hx).2 7 (by decide))⟩)) ?_
        refine bifT (fun b4 => ?_) (fun b4 => ?_)
        · skip
          rfl
        · skip
          rfl
theorem qba_rs : ∀ xs r, qba_rS (i_laws_szType := ⟨qba_next⟩) xs = some (true, r) → runF tab FT D6 live 9 noLoops xs = some r := by
  intro xs r h
  unfold qba_rS at h
  split at h
  · simp only [Option.some.injEq, Prod.mk.injEq] at h
    obtain ⟨h1, rfl⟩ := h
    exact fun_told (qba_e _ _ _ _ _ _ _ _ _ _) (qba_l _ _ _ _ _ _ _ _ _ _) h1
  · cases h
theorem qba_step : qba_G (i_laws_szType := ⟨qba_next⟩) := by
  have h := DOk.also2 (S := qba_rS (i_laws_szType := ⟨qba_next⟩)) mixed_ok tab_ok names_ok d2 d6 noLoops_ok qba_rs
  refine qba_G.mk (i_laws_szType := ⟨qba_next⟩) ?_
  exact h
noncomputable def qbb_g (x : List TC) : List TC := [TC.s ((nth x 0).str)]
def qbb_z : List TC := [TC.s []]
theorem qbb_id {A : LL} (h : Typed tab (.slice 9) (.l A)) : A.map qbb_g = A := map_same fun x hx => by
  obtain ⟨hl, hk⟩ := typed_elem h hx
  have e0 : TC.s ((nth x 0).str) = nth x 0 := typed_str_eq (hk 0 (by decide))
  show [TC.s ((nth x 0).str)] = _
  rw [e0]
  exact (row_eta hl).symm
abbrev qbb_3_σ := LL × LL × Int
abbrev qbb_3_ω := (LL)
noncomputable def qbb_3_step (A X : LL) (i : Int) : Tr (qbb_3_σ ⊕ qbb_3_ω) := (.ite ((decide (i < (A.length : Int))) = true) (.ite ((0 : Int) ≤ i ∧ i < (A.length : Int)) (.ite ((0 : Int) ≤ i ∧ i < (X.length : Int)) (.ok (.inl (A, (X.set (i).toNat (splice (row X i) 0 [TC.s ((nth (row A i) 0).str)])), (IntKind.wrap .i64 (i + (1 : Int))))))
    .no)
   .no)
  (.ok (.inr X)))
noncomputable def qbb_3_st : qbb_3_σ → Tr (qbb_3_σ ⊕ qbb_3_ω) := fun x => (qbb_3_step (x.1) (x.2.1) (x.2.2))
noncomputable def qbb_o3_1 (A X : LL) (i : Int) : Bool := is (Typed tab (.slice 9) (.l A) ∧ X = List.replicate A.length qbb_z ∧ i = 0)
noncomputable def qbb_3_fin (A X : LL) (i : Int) : Told qbb_3_ω := (.leaf (qbb_o3_1 A X i) A)
def qbb_3_sl (x : qbb_3_σ) : List Slot := [⟨.val false [⟨.slice 9, .sh, TC.l (x.1)⟩], ⟨0, 0⟩⟩, ⟨.val false [⟨.slice 9, .own true, TC.l (x.2.1)⟩], ⟨0, 0⟩⟩, ⟨.val false [⟨.int .i64, .sh, TC.i (x.2.2)⟩], ⟨0, 0⟩⟩]
def qbb_3_out : qbb_3_ω → Ex × List Slot := (fun x => (.exit 0, [Slot.none, ⟨.val false [⟨.slice 9, .own true, TC.l x⟩], ⟨0, 0⟩⟩]))
noncomputable def qbb_lo3 : List Slot → Option (Told (Ex × List Slot)) := fun s => match s with
  | [⟨.val false [⟨.slice 9, .sh, TC.l A⟩], ⟨0, 0⟩⟩, ⟨.val false [⟨.slice 9, .own true, TC.l X⟩], ⟨0, 0⟩⟩, ⟨.val false [⟨.int .i64, .sh, TC.i i⟩], ⟨0, 0⟩⟩] => some (((qbb_3_fin A X i)).map qbb_3_out)
  | _ => .none
noncomputable def qbb_lo : LoopTeller := fun r s => bif Nat.beq r 3 then qbb_lo3 s else .none
theorem qbb_3_r (A X : LL) (i : Int) (fuel : Nat) : rounds (rnd tab FT D6 live 32 qbb_lo 0 3) leave (fuel + 1) (qbb_3_sl (A, X, i)) = ((qbb_3_step A X i)).run (goOn (fun s => rounds (rnd tab FT D6 live 32 qbb_lo 0 3) leave fuel (qbb_3_sl s)) fun w => some (qbb_3_out w)) := by kernel_rfl
theorem qbb_3_h (A X : LL) (i : Int) (ow : qbb_3_ω) : ((qbb_3_fin A X i)).val = some ow → ∃ fuel, loopN qbb_3_st fuel (A, X, i) = some ow := by
  intro h
  refine auto_leaf (R := A) (fun ho => ?_) h
  obtain ⟨ht, rfl, rfl⟩ := is_iff.1 ho
  have hlen : A.length ≤ 140737488351232 := by have := typed_room ht; simp only [show (tab 9).bytes = 16 from rfl] at this; omega
  have key := loopN_copy (step := qbb_3_st) A (List.replicate A.length qbb_z) qbb_g (fun Y i => (A, Y, (i : Int))) (A.map qbb_g) (by simp) (fun x hx i _ => by rw [(List.mem_replicate.1 hx).2]; exact Nat.le_refl 1) (fun Y i hi hl => ?_) ?_ A.length 0 (by omega)
  · rw [copied_zero, qbb_id ht] at key
    exact ⟨_, key⟩
  · have c0 : Typed tab (.str) (.s (nth (A.getD i []) 0).str) := typed_s (typed_cell ht (A.getD i []) (mem_getD hi) 0 (by decide))
    show (qbb_3_step A Y (i : Int)).val = _
    unfold qbb_3_step
    refine Tr.t (by simp; omega) ?_
    refine Tr.t (by first | omega | (constructor <;> omega)) ?_
    refine Tr.t (by first | omega | (constructor <;> omega)) ?_
    rw [Tr.val_ok, wrap64 (i := (i : Int) + 1) (by omega) (by omega)]; rfl
  · show (qbb_3_step A (A.map qbb_g) (A.length : Int)).val = _
    refine Tr.n (by simp) ?_
    rfl
theorem qbb_is3 : LoopIs tab FT D6 live 32 qbb_lo 0 3 := by
  refine loop_told (sl := qbb_3_sl) (step := qbb_3_st) (out := qbb_3_out) (lor := qbb_lo3) (fin := fun x => (qbb_3_fin (x.1) (x.2.1) (x.2.2))) (fun _ => rfl) ?_ (fun x n => qbb_3_r x.1 x.2.1 x.2.2 n) (fun x ow => qbb_3_h x.1 x.2.1 x.2.2 ow)
  intro s t h
  unfold qbb_lo3 at h
  split at h
  · cases h; exact ⟨(_, _, _), rfl, rfl⟩
  · cases h
noncomputable def qbb_t (A : LL) : Tr (LL) := (.ite (0 ≤ (A.length : Int) ∧ (A.length : Int) ≤ (A.length : Int) ∧ (A.length : Int) * 16 ≤ 140737488355328 ∧ (A.length : Int) ≤ 140737488355328) (.ite ((qbb_o3_1 A (List.replicate ((A.length : Int)).toNat [TC.s []]) (0 : Int)) = true) (.ok A)
   .no)
  .no)
def qbb_mk (p : LL) : Res := [(false, [⟨.slice 9, .own true, TC.l p⟩])]
noncomputable def qbb_c (A : LL) : Bool := is (Typed tab (.slice 9) (.l A))
noncomputable def qbb_v (A : LL) : LL := A
theorem qbb_l (A : LL) : (qbb_c A) = true → (qbb_t A).val = some (qbb_v A) := by
  intro h
  have ht := is_iff.1 h
  have hb := typed_room ht
  simp only [show (tab 9).bytes = 16 from rfl] at hb
  unfold qbb_t
  refine Tr.t (by omega) ?_
  refine Tr.t (is_true ⟨ht, by rfl, rfl⟩) ?_
  rfl
noncomputable def qbb_S : List Arg → Option (Bool × Res) := fun xs => match xs with
  | [(false, [(.slice 9, TC.l A)])] => some ((qbb_c A), qbb_mk (qbb_v A))
  | _ => .none
theorem qbb_e (A : LL) : runF tab FT D6 live 32 qbb_lo [(false, [(.slice 9, TC.l A)])] = (qbb_t A).run fun p => some (qbb_mk p) := by kernel_rfl
theorem qbb_s : ∀ xs r, qbb_S xs = some (true, r) → runF tab FT D6 live 32 qbb_lo xs = some r := by
  intro xs r h
  unfold qbb_S at h
  split at h
  · simp only [Option.some.injEq, Prod.mk.injEq] at h
    obtain ⟨h1, rfl⟩ := h
    exact fun_told (qbb_e _) (qbb_l _) h1
  · cases h
noncomputable def D7 : Dt := also D6 32 qbb_S
theorem d7 : DOk Go.Proofs.Try.prog tab D7 := d6.also mixed_ok tab_ok names_ok (fnLoops_one (by kernel_rfl) qbb_is3) qbb_s
theorem qbb_ty {A : LL} (h : Typed tab (.slice 9) (.l A)) : Typed tab (.slice 9) (.l A) := typed_iso iso_ok h (by decide)
noncomputable def qbe_g (x : List TC) : List TC := [TC.i ((nth x 0).int)]
def qbe_z : List TC := [TC.i (0 : Int)]
theorem qbe_id {A : LL} (h : Typed tab (.slice 2) (.l A)) : A.map qbe_g = A := map_same fun x hx => by
  obtain ⟨hl, hk⟩ := typed_elem h hx
  have e0 : TC.i ((nth x 0).int) = nth x 0 := typed_int_eq (hk 0 (by decide))
  show [TC.i ((nth x 0).int)] = _
  rw [e0]
  exact (row_eta hl).symm
abbrev qbe_3_σ := LL × LL × Int
abbrev qbe_3_ω := (LL)
noncomputable def qbe_3_step (A X : LL) (i : Int) : Tr (qbe_3_σ ⊕ qbe_3_ω) := (.ite ((decide (i < (A.length : Int))) = true) (.ite ((0 : Int) ≤ i ∧ i < (A.length : Int)) (.ite ((0 : Int) ≤ i ∧ i < (X.length : Int)) (.ok (.inl (A, (X.set (i).toNat (splice (row X i) 0 [TC.i ((nth (row A i) 0).int)])), (IntKind.wrap .i64 (i + (1 : Int))))))
    .no)
   .no)
  (.ok (.inr X)))
noncomputable def qbe_3_st : qbe_3_σ → Tr (qbe_3_σ ⊕ qbe_3_ω) := fun x => (qbe_3_step (x.1) (x.2.1) (x.2.2))
noncomputable def qbe_o3_1 (A X : LL) (i : Int) : Bool := is (Typed tab (.slice 2) (.l A) ∧ X = List.replicate A.length qbe_z ∧ i = 0)
noncomputable def qbe_3_fin (A X : LL) (i : Int) : Told qbe_3_ω := (.leaf (qbe_o3_1 A X i) A)
def qbe_3_sl (x : qbe_3_σ) : List Slot := [⟨.val false [⟨.slice 2, .sh, TC.l (x.1)⟩], ⟨0, 0⟩⟩, ⟨.val false [⟨.slice 2, .own true, TC.l (x.2.1)⟩], ⟨0, 0⟩⟩, ⟨.val false [⟨.int .i64, .sh, TC.i (x.2.2)⟩], ⟨0, 0⟩⟩]
def qbe_3_out : qbe_3_ω → Ex × List Slot := (fun x => (.exit 0, [Slot.none, ⟨.val false [⟨.slice 2, .own true, TC.l x⟩], ⟨0, 0⟩⟩]))
noncomputable def qbe_lo3 : List Slot → Option (Told (Ex × List Slot)) := fun s => match s with
  | [⟨.val false [⟨.slice 2, .sh, TC.l A⟩], ⟨0, 0⟩⟩, ⟨.val false [⟨.slice 2, .own true, TC.l X⟩], ⟨0, 0⟩⟩, ⟨.val false [⟨.int .i64, .sh, TC.i i⟩], ⟨0, 0⟩⟩] => some (((qbe_3_fin A X i)).map qbe_3_out)
  | _ => .none
noncomputable def qbe_lo : LoopTeller := fun r s => bif Nat.beq r 3 then qbe_lo3 s else .none
theorem qbe_3_r (A X : LL) (i : Int) (fuel : Nat) : rounds (rnd tab FT D7 live 33 qbe_lo 0 3) leave (fuel + 1) (qbe_3_sl (A, X, i)) = ((qbe_3_step A X i)).run (goOn (fun s => rounds (rnd tab FT D7 live 33 qbe_lo 0 3) leave fuel (qbe_3_sl s)) fun w => some (qbe_3_out w)) := by kernel_rfl
theorem qbe_3_h (A X : LL) (i : Int) (ow : qbe_3_ω) : ((qbe_3_fin A X i)).val = some ow → ∃ fuel, loopN qbe_3_st fuel (A, X, i) = some ow := by
  intro h
  refine auto_leaf (R := A) (fun ho => ?_) h
  obtain ⟨ht, rfl, rfl⟩ := is_iff.1 ho
  have hlen : A.length ≤ 140737488351232 := by have := typed_room ht; simp only [show (tab 2).bytes = 8 from rfl] at this; omega
  have key := loopN_copy (step := qbe_3_st) A (List.replicate A.length qbe_z) qbe_g (fun Y i => (A, Y, (i : Int))) (A.map qbe_g) (by simp) (fun x hx i _ => by rw [(List.mem_replicate.1 hx).2]; exact Nat.le_refl 1) (fun Y i hi hl => ?_) ?_ A.length 0 (by omega)
  · rw [copied_zero, qbe_id ht] at key
    exact ⟨_, key⟩
  · skip
    show (qbe_3_step A Y (i : Int)).val = _
    unfold qbe_3_step
    refine Tr.t (by simp; omega) ?_
    refine Tr.t (by first | omega | (constructor <;> omega)) ?_
    refine Tr.t (by first | omega | (constructor <;> omega)) ?_
    rw [Tr.val_ok, wrap64 (i := (i : Int) + 1) (by omega) (by omega)]; rfl
  · show (qbe_3_step A (A.map qbe_g) (A.length : Int)).val = _
    refine Tr.n (by simp) ?_
    rfl
theorem qbe_is3 : LoopIs tab FT D7 live 33 qbe_lo 0 3 := by
  refine loop_told (sl := qbe_3_sl) (step := qbe_3_st) (out := qbe_3_out) (lor := qbe_lo3) (fin := fun x => (qbe_3_fin (x.1) (x.2.1) (x.2.2))) (fun _ => rfl) ?_ (fun x n => qbe_3_r x.1 x.2.1 x.2.2 n) (fun x ow => qbe_3_h x.1 x.2.1 x.2.2 ow)
  intro s t h
  unfold qbe_lo3 at h
  split at h
  · cases h; exact ⟨(_, _, _), rfl, rfl⟩
  · cases h
noncomputable def qbe_t (A : LL) : Tr (LL) := (.ite (0 ≤ (A.length : Int) ∧ (A.length : Int) ≤ (A.length : Int) ∧ (A.length : Int) * 8 ≤ 140737488355328 ∧ (A.length : Int) ≤ 140737488355328) (.ite ((qbe_o3_1 A (List.replicate ((A.length : Int)).toNat [TC.i (0 : Int)]) (0 : Int)) = true) (.ok A)
   .no)
  .no)
def qbe_mk (p : LL) : Res := [(false, [⟨.slice 2, .own true, TC.l p⟩])]
noncomputable def qbe_c (A : LL) : Bool := is (Typed tab (.slice 2) (.l A))
noncomputable def qbe_v (A : LL) : LL := A
theorem qbe_l (A : LL) : (qbe_c A) = true → (qbe_t A).val = some (qbe_v A) := by
  intro h
  have ht := is_iff.1 h
  have hb := typed_room ht
  simp only [show (tab 2).bytes = 8 from rfl] at hb
  unfold qbe_t
  refine Tr.t (by omega) ?_
  refine Tr.t (is_true ⟨ht, by rfl, rfl⟩) ?_
  rfl
noncomputable def qbe_S : List Arg → Option (Bool × Res) := fun xs => match xs with
  | [(false, [(.slice 2, TC.l A)])] => some ((qbe_c A), qbe_mk (qbe_v A))
  | _ => .none
theorem qbe_e (A : LL) : runF tab FT D7 live 33 qbe_lo [(false, [(.slice 2, TC.l A)])] = (qbe_t A).run fun p => some (qbe_mk p) := by kernel_rfl
theorem qbe_s : ∀ xs r, qbe_S xs = some (true, r) → runF tab FT D7 live 33 qbe_lo xs = some r := by
  intro xs r h
  unfold qbe_S at h
  split at h
  · simp only [Option.some.injEq, Prod.mk.injEq] at h
    obtain ⟨h1, rfl⟩ := h
    exact fun_told (qbe_e _) (qbe_l _) h1
  · cases h
noncomputable def D8 : Dt := also D7 33 qbe_S
theorem d8 : DOk Go.Proofs.Try.prog tab D8 := d7.also mixed_ok tab_ok names_ok (fnLoops_one (by kernel_rfl) qbe_is3) qbe_s
theorem qbe_ty {A : LL} (h : Typed tab (.slice 2) (.l A)) : Typed tab (.slice 2) (.l A) := typed_iso iso_ok h (by decide)
section
class qj_O where n : Nat
variable [i_laws_toType : qj_O]
noncomputable def qj_rc (x0 x1 : Int) (x2 x3 : Bool) (x4 x5 x6 x7 : LL) (x8 : Int) : Bool := is (max (rowsDep x6) (rowsDep x7) < qj_O.n ∧ Typed tab (.slice 9) (.l x4) ∧ Typed tab (.slice 2) (.l x5) ∧ Typed tab (.slice 67) (.l x6) ∧ Typed tab (.slice 27) (.l x7))
noncomputable def qj_rv (x0 x1 : Int) (x2 x3 : Bool) (x4 x5 x6 x7 : LL) (x8 : Int) : Int × Int × Bool × Bool × LL × LL × LL × LL × Int := (x0, x1, x2, x3, x4, x5, x6, x7, x8)
def qj_rmk (p : Int × Int × Bool × Bool × LL × LL × LL × LL × Int) : Res := [(true, [⟨.int .i64, .sh, TC.i (p.1)⟩, ⟨.int .i64, .sh, TC.i (p.2.1)⟩, ⟨.bool, .sh, TC.b (p.2.2.1)⟩, ⟨.bool, .sh, TC.b (p.2.2.2.1)⟩, ⟨.slice 9, .own true, TC.l (p.2.2.2.2.1)⟩, ⟨.slice 2, .own true, TC.l (p.2.2.2.2.2.1)⟩, ⟨.slice 71, .own true, TC.l (p.2.2.2.2.2.2.1)⟩, ⟨.slice 32, .own true, TC.l (p.2.2.2.2.2.2.2.1)⟩, ⟨.int .i64, .sh, TC.i (p.2.2.2.2.2.2.2.2)⟩])]
noncomputable def qj_rS : List Arg → Option (Bool × Res) := fun xs => match xs with
  | [(true, [(.int .i64, TC.i x0), (.int .i64, TC.i x1), (.bool, TC.b x2), (.bool, TC.b x3), (.slice 9, TC.l x4), (.slice 2, TC.l x5), (.slice 67, TC.l x6), (.slice 27, TC.l x7), (.int .i64, TC.i x8)])] => some ((qj_rc x0 x1 x2 x3 x4 x5 x6 x7 x8), qj_rmk (qj_rv x0 x1 x2 x3 x4 x5 x6 x7 x8))
  | _ => .none
noncomputable def D9 : Dt := also D8 11 qj_rS
class qj_G : Prop where ok : DOk Go.Proofs.Try.prog tab D9
variable [g_laws_toType : qj_G]
theorem d9 : DOk Go.Proofs.Try.prog tab D9 := qj_G.ok
noncomputable def qbv_t (a0 : BS) (a1 a2 a3 : Int) (a4 a5 : Bool) (a6 a7 a8 a9 : LL) (a10 : Int) : Tr (BS × Int × Int × Int × Bool × Bool × LL × LL × LL × LL × Int) := (.ite ((qj_rc a2 a3 a4 a5 a6 a7 a8 a9 a10) = true) (.ok (a0, a1, (qj_rv a2 a3 a4 a5 a6 a7 a8 a9 a10).1, (qj_rv a2 a3 a4 a5 a6 a7 a8 a9 a10).2.1, (qj_rv a2 a3 a4 a5 a6 a7 a8 a9 a10).2.2.1, (qj_rv a2 a3 a4 a5 a6 a7 a8 a9 a10).2.2.2.1, (qj_rv a2 a3 a4 a5 a6 a7 a8 a9 a10).2.2.2.2.1, (qj_rv a2 a3 a4 a5 a6 a7 a8 a9 a10).2.2.2.2.2.1, (qj_rv a2 a3 a4 a5 a6 a7 a8 a9 a10).2.2.2.2.2.2.1, (qj_rv a2 a3 a4 a5 a6 a7 a8 a9 a10).2.2.2.2.2.2.2.1, (qj_rv a2 a3 a4 a5 a6 a7 a8 a9 a10).2.2.2.2.2.2.2.2))
  .no)
def qbv_mk (p : BS × Int × Int × Int × Bool × Bool × LL × LL × LL × LL × Int) : Res := [(true, [⟨.str, .sh, TC.s (p.1)⟩, ⟨.int .i64, .sh, TC.i (p.2.1)⟩, ⟨.int .i64, .sh, TC.i (p.2.2.1)⟩, ⟨.int .i64, .sh, TC.i (p.2.2.2.1)⟩, ⟨.bool, .sh, TC.b (p.2.2.2.2.1)⟩, ⟨.bool, .sh, TC.b (p.2.2.2.2.2.1)⟩, ⟨.slice 9, .own true, TC.l (p.2.2.2.2.2.2.1)⟩, ⟨.slice 2, .own true, TC.l (p.2.2.2.2.2.2.2.1)⟩, ⟨.slice 71, .own true, TC.l (p.2.2.2.2.2.2.2.2.1)⟩, ⟨.slice 32, .own true, TC.l (p.2.2.2.2.2.2.2.2.2.1)⟩, ⟨.int .i64, .sh, TC.i (p.2.2.2.2.2.2.2.2.2.2)⟩])]
noncomputable def qbv_c (a0 : BS) (a1 a2 a3 : Int) (a4 a5 : Bool) (a6 a7 a8 a9 : LL) (a10 : Int) : Bool := (qj_rc a2 a3 a4 a5 a6 a7 a8 a9 a10)
noncomputable def qbv_v (a0 : BS) (a1 a2 a3 : Int) (a4 a5 : Bool) (a6 a7 a8 a9 : LL) (a10 : Int) : BS × Int × Int × Int × Bool × Bool × LL × LL × LL × LL × Int := (a0, a1, (qj_rv a2 a3 a4 a5 a6 a7 a8 a9 a10).1, (qj_rv a2 a3 a4 a5 a6 a7 a8 a9 a10).2.1, (qj_rv a2 a3 a4 a5 a6 a7 a8 a9 a10).2.2.1, (qj_rv a2 a3 a4 a5 a6 a7 a8 a9 a10).2.2.2.1, (qj_rv a2 a3 a4 a5 a6 a7 a8 a9 a10).2.2.2.2.1, (qj_rv a2 a3 a4 a5 a6 a7 a8 a9 a10).2.2.2.2.2.1, (qj_rv a2 a3 a4 a5 a6 a7 a8 a9 a10).2.2.2.2.2.2.1, (qj_rv a2 a3 a4 a5 a6 a7 a8 a9 a10).2.2.2.2.2.2.2.1, (qj_rv a2 a3 a4 a5 a6 a7 a8 a9 a10).2.2.2.2.2.2.2.2)
theorem qbv_l (a0 : BS) (a1 a2 a3 : Int) (a4 a5 : Bool) (a6 a7 a8 a9 : LL) (a10 : Int) : (qbv_c a0 a1 a2 a3 a4 a5 a6 a7 a8 a9 a10) = true → (qbv_t a0 a1 a2 a3 a4 a5 a6 a7 a8 a9 a10).val = some (qbv_v a0 a1 a2 a3 a4 a5 a6 a7 a8 a9 a10) := by
  intro h
  have hc0 : (qj_rc a2 a3 a4 a5 a6 a7 a8 a9 a10) = true := h
  unfold qbv_t
  exact (Tr.t hc0 rfl)
noncomputable def qbv_S : List Arg → Option (Bool × Res) := fun xs => match xs with
  | [(true, [(.str, TC.s a0), (.int .i64, TC.i a1), (.int .i64, TC.i a2), (.int .i64, TC.i a3), (.bool, TC.b a4), (.bool, TC.b a5), (.slice 9, TC.l a6), (.slice 2, TC.l a7), (.slice 67, TC.l a8), (.slice 27, TC.l a9), (.int .i64, TC.i a10)])] => some ((qbv_c a0 a1 a2 a3 a4 a5 a6 a7 a8 a9 a10), qbv_mk (qbv_v a0 a1 a2 a3 a4 a5 a6 a7 a8 a9 a10))
  | _ => .none
theorem qbv_e (a0 : BS) (a1 a2 a3 : Int) (a4 a5 : Bool) (a6 a7 a8 a9 : LL) (a10 : Int) : runF tab FT D9 live 72 noLoops [(true, [(.str, TC.s a0), (.int .i64, TC.i a1), (.int .i64, TC.i a2), (.int .i64, TC.i a3), (.bool, TC.b a4), (.bool, TC.b a5), (.slice 9, TC.l a6), (.slice 2, TC.l a7), (.slice 67, TC.l a8), (.slice 27, TC.l a9), (.int .i64, TC.i a10)])] = (qbv_t a0 a1 a2 a3 a4 a5 a6 a7 a8 a9 a10).run fun p => some (qbv_mk p) := by kernel_rfl
theorem qbv_s : ∀ xs r, qbv_S xs = some (true, r) → runF tab FT D9 live 72 noLoops xs = some r := by
  intro xs r h
  unfold qbv_S at h
  split at h
  · simp only [Option.some.injEq, Prod.mk.injEq] at h
    obtain ⟨h1, rfl⟩ := h
    exact fun_told (qbv_e _ _ _ _ _ _ _ _ _ _ _) (qbv_l _ _ _ _ _ _ _ _ _ _ _) h1
  · cases h
noncomputable def D10 : Dt := also D9 72 qbv_S
theorem d10 : DOk Go.Proofs.Try.prog tab D10 := d9.also mixed_ok tab_ok names_ok noLoops_ok qbv_s
noncomputable def qbc_g (x : List TC) : List TC := [TC.s ((qbv_v ((nth x 0).str) ((nth x 1).int) ((nth x 2).int) ((nth x 3).int) ((nth x 4).bool) ((nth x 5).bool) ((nth x 6).list) ((nth x 7).list) ((nth x 8).list) ((nth x 9).list) ((nth x 10).int)).1), TC.i ((qbv_v ((nth x 0).str) ((nth x 1).int) ((nth x 2).int) ((nth x 3).int) ((nth x 4).bool) ((nth x 5).bool) ((nth x 6).list) ((nth x 7).list) ((nth x 8).list) ((nth x 9).list) ((nth x 10).int)).2.1), TC.i ((qbv_v ((nth x 0).str) ((nth x 1).int) ((nth x 2).int) ((nth x 3).int) ((nth x 4).bool) ((nth x 5).bool) ((nth x 6).list) ((nth x 7).list) ((nth x 8).list) ((nth x 9).list) ((nth x 10).int)).2.2.1), TC.i ((qbv_v ((nth x 0).str) ((nth x 1).int) ((nth x 2).int) ((nth x 3).int) ((nth x 4).bool) ((nth x 5).bool) ((nth x 6).list) ((nth x 7).list) ((nth x 8).list) ((nth x 9).list) ((nth x 10).int)).2.2.2.1), TC.b ((qbv_v ((nth x 0).str) ((nth x 1).int) ((nth x 2).int) ((nth x 3).int) ((nth x 4).bool) ((nth x 5).bool) ((nth x 6).list) ((nth x 7).list) ((nth x 8).list) ((nth x 9).list) ((nth x 10).int)).2.2.2.2.1), TC.b ((qbv_v ((nth x 0).str) ((nth x 1).int) ((nth x 2).int) ((nth x 3).int) ((nth x 4).bool) ((nth x 5).bool) ((nth x 6).list) ((nth x 7).list) ((nth x 8).list) ((nth x 9).list) ((nth x 10).int)).2.2.2.2.2.1), TC.l ((qbv_v ((nth x 0).str) ((nth x 1).int) ((nth x 2).int) ((nth x 3).int) ((nth x 4).bool) ((nth x 5).bool) ((nth x 6).list) ((nth x 7).list) ((nth x 8).list) ((nth x 9).list) ((nth x 10).int)).2.2.2.2.2.2.1), TC.l ((qbv_v ((nth x 0).str) ((nth x 1).int) ((nth x 2).int) ((nth x 3).int) ((nth x 4).bool) ((nth x 5).bool) ((nth x 6).list) ((nth x 7).list) ((nth x 8).list) ((nth x 9).list) ((nth x 10).int)).2.2.2.2.2.2.2.1), TC.l ((qbv_v ((nth x 0).str) ((nth x 1).int) ((nth x 2).int) ((nth x 3).int) ((nth x 4).bool) ((nth x 5).bool) ((nth x 6).list) ((nth x 7).list) ((nth x 8).list) ((nth x 9).list) ((nth x 10).int)).2.2.2.2.2.2.2.2.1), TC.l ((qbv_v ((nth x 0).str) ((nth x 1).int) ((nth x 2).int) ((nth x 3).int) ((nth x 4).bool) ((nth x 5).bool) ((nth x 6).list) ((nth x 7).list) ((nth x 8).list) ((nth x 9).list) ((nth x 10).int)).2.2.2.2.2.2.2.2.2.1), TC.i ((qbv_v ((nth x 0).str) ((nth x 1).int) ((nth x 2).int) ((nth x 3).int) ((nth x 4).bool) ((nth x 5).bool) ((nth x 6).list) ((nth x 7).list) ((nth x 8).list) ((nth x 9).list) ((nth x 10).int)).2.2.2.2.2.2.2.2.2.2)]
def qbc_z : List TC := [TC.s [], TC.i (0 : Int), TC.i (0 : Int), TC.i (0 : Int), TC.b false, TC.b false, TC.l [], TC.l [], TC.l [], TC.l [], TC.i (0 : Int)]
theorem qbc_id {A : LL} (h : Typed tab (.slice 67) (.l A)) : A.map qbc_g = A := map_same fun x hx => by
  obtain ⟨hl, hk⟩ := typed_elem h hx
  have e0 : TC.s ((nth x 0).str) = nth x 0 := typed_str_eq (hk 0 (by decide))
  have e1 : TC.i ((nth x 1).int) = nth x 1 := typed_int_eq (hk 1 (by decide))
  have e2 : TC.i ((nth x 2).int) = nth x 2 := typed_int_eq (hk 2 (by decide))
  have e3 : TC.i ((nth x 3).int) = nth x 3 := typed_int_eq (hk 3 (by decide))
  have e4 : TC.b ((nth x 4).bool) = nth x 4 := typed_bool_eq (hk 4 (by decide))
  have e5 : TC.b ((nth x 5).bool) = nth x 5 := typed_bool_eq (hk 5 (by decide))
  have e6 : TC.l ((nth x 6).list) = nth x 6 := typed_list_eq (hk 6 (by decide))
  have e7 : TC.l ((nth x 7).list) = nth x 7 := typed_list_eq (hk 7 (by decide))
  have e8 : TC.l ((nth x 8).list) = nth x 8 := typed_list_eq (hk 8 (by decide))
  have e9 : TC.l ((nth x 9).list) = nth x 9 := typed_list_eq (hk 9 (by decide))
  have e10 : TC.i ((nth x 10).int) = nth x 10 := typed_int_eq (hk 10 (by decide))
  show [TC.s ((nth x 0).str), TC.i ((nth x 1).int), TC.i ((nth x 2).int), TC.i ((nth x 3).int), TC.b ((nth x 4).bool), TC.b ((nth x 5).bool), TC.l ((nth x 6).list), TC.l ((nth x 7).list), TC.l ((nth x 8).list), TC.l ((nth x 9).list), TC.i ((nth x 10).int)] = _
  rw [e0, e1, e2, e3, e4, e5, e6, e7, e8, e9, e10]
  exact (row_eta hl).symm
abbrev qbc_3_σ := LL × LL × Int
abbrev qbc_3_ω := (LL)
noncomputable def qbc_3_step (A X : LL) (i : Int) : Tr (qbc_3_σ ⊕ qbc_3_ω) := (.ite ((decide (i < (A.length : Int))) = true) (.ite ((0 : Int) ≤ i ∧ i < (A.length : Int)) (.ite ((qbv_c ((nth (row A i) 0).str) ((nth (row A i) 1).int) ((nth (row A i) 2).int) ((nth (row A i) 3).int) ((nth (row A i) 4).bool) ((nth (row A i) 5).bool) ((nth (row A i) 6).list) ((nth (row A i) 7).list) ((nth (row A i) 8).list) ((nth (row A i) 9).list) ((nth (row A i) 10).int)) = true) (.ite ((0 : Int) ≤ i ∧ i < (X.length : Int)) (.ok (.inl (A, (X.set (i).toNat (splice (row X i) 0 [TC.s ((qbv_v ((nth (row A i) 0).str) ((nth (row A i) 1).int) ((nth (row A i) 2).int) ((nth (row A i) 3).int) ((nth (row A i) 4).bool) ((nth (row A i) 5).bool) ((nth (row A i) 6).list) ((nth (row A i) 7).list) ((nth (row A i) 8).list) ((nth (row A i) 9).list) ((nth (row A i) 10).int)).1), TC.i ((qbv_v ((nth (row A i) 0).str) ((nth (row A i) 1).int) ((nth (row A i) 2).int) ((nth (row A i) 3).int) ((nth (row A i) 4).bool) ((nth (row A i) 5).bool) ((nth (row A i) 6).list) ((nth (row A i) 7).list) ((nth (row A i) 8).list) ((nth (row A i) 9).list) ((nth (row A i) 10).int)).2.1), TC.i ((qbv_v ((nth (row A i) 0).str) ((nth (row A i) 1).int) ((nth (row A i) 2).int) ((nth (row A i) 3).int) ((nth (row A i) 4).bool) ((nth (row A i) 5).bool) ((nth (row A i) 6).list) ((nth (row A i) 7).list) ((nth (row A i) 8).list) ((nth (row A i) 9).list) ((nth (row A i) 10).int)).2.2.1), TC.i ((qbv_v ((nth (row A i) 0).str) ((nth (row A i) 1).int) ((nth (row A i) 2).int) ((nth (row A i) 3).int) ((nth (row A i) 4).bool) ((nth (row A i) 5).bool) ((nth (row A i) 6).list) ((nth (row A i) 7).list) ((nth (row A i) 8).list) ((nth (row A i) 9).list) ((nth (row A i) 10).int)).2.2.2.1), TC.b ((qbv_v ((nth (row A i) 0).str) ((nth (row A i) 1).int) ((nth (row A i) 2).int) ((nth (row A i) 3).int) ((nth (row A i) 4).bool) ((nth (row A i) 5).bool) ((nth (row A i) 6).list) ((nth (row A i) 7).list) ((nth (row A i) 8).list) ((nth (row A i) 9).list) ((nth (row A i) 10).int)).2.2.2.2.1), TC.b ((qbv_v ((nth (row A i) 0).str) ((nth (row A i) 1).int) ((nth (row A i) 2).int) ((nth (row A i) 3).int) ((nth (row A i) 4).bool) ((nth (row A i) 5).bool) ((nth (row A i) 6).list) ((nth (row A i) 7).list) ((nth (row A i) 8).list) ((nth (row A i) 9).list) ((nth (row A i) 10).int)).2.2.2.2.2.1), TC.l ((qbv_v ((nth (row A i) 0).str) ((nth (row A i) 1).int) ((nth (row A i) 2).int) ((nth (row A i) 3).int) ((nth (row A i) 4).bool) ((nth (row A i) 5).bool) ((nth (row A i) 6).list) ((nth (row A i) 7).list) ((nth (row A i) 8).list) ((nth (row A i) 9).list) ((nth (row A i) 10).int)).2.2.2.2.2.2.1), TC.l ((qbv_v ((nth (row A i) 0).str) ((nth (row A i) 1).int) ((nth (row A i) 2).int) ((nth (row A i) 3).int) ((nth (row A i) 4).bool) ((nth (row A i) 5).bool) ((nth (row A i) 6).list) ((nth (row A i) 7).list) ((nth (row A i) 8).list) ((nth (row A i) 9).list) ((nth (row A i) 10).int)).2.2.2.2.2.2.2.1), TC.l ((qbv_v ((nth (row A i) 0).str) ((nth (row A i) 1).int) ((nth (row A i) 2).int) ((nth (row A i) 3).int) ((nth (row A i) 4).bool) ((nth (row A i) 5).bool) ((nth (row A i) 6).list) ((nth (row A i) 7).list) ((nth (row A i) 8).list) ((nth (row A i) 9).list) ((nth (row A i) 10).int)).2.2.2.2.2.2.2.2.1), TC.l ((qbv_v ((nth (row A i) 0).str) ((nth (row A i) 1).int) ((nth (row A i) 2).int) ((nth (row A i) 3).int) ((nth (row A i) 4).bool) ((nth (row A i) 5).bool) ((nth (row A i) 6).list) ((nth (row A i) 7).list) ((nth (row A i) 8).list) ((nth (row A i) 9).list) ((nth (row A i) 10).int)).2.2.2.2.2.2.2.2.2.1), TC.i ((qbv_v ((nth (row A i) 0).str) ((nth (row A i) 1).int) ((nth (row A i) 2).int) ((nth (row A i) 3).int) ((nth (row A i) 4).bool) ((nth (row A i) 5).bool) ((nth (row A i) 6).list) ((nth (row A i) 7).list) ((nth (row A i) 8).list) ((nth (row A i) 9).list) ((nth (row A i) 10).int)).2.2.2.2.2.2.2.2.2.2)])), (IntKind.wrap .i64 (i + (1 : Int))))))
     .no)
    .no)
   .no)
  (.ok (.inr X)))
noncomputable def qbc_3_st : qbc_3_σ → Tr (qbc_3_σ ⊕ qbc_3_ω) := fun x => (qbc_3_step (x.1) (x.2.1) (x.2.2))
noncomputable def qbc_o3_1 (A X : LL) (i : Int) : Bool := is (Typed tab (.slice 67) (.l A) ∧ (∀ x : List TC, x ∈ A → (qbv_c ((nth x 0).str) ((nth x 1).int) ((nth x 2).int) ((nth x 3).int) ((nth x 4).bool) ((nth x 5).bool) ((nth x 6).list) ((nth x 7).list) ((nth x 8).list) ((nth x 9).list) ((nth x 10).int)) = true) ∧ X = List.replicate A.length qbc_z ∧ i = 0)
noncomputable def qbc_3_fin (A X : LL) (i : Int) : Told qbc_3_ω := (.leaf (qbc_o3_1 A X i) A)
def qbc_3_sl (x : qbc_3_σ) : List Slot := [⟨.val false [⟨.slice 67, .sh, TC.l (x.1)⟩], ⟨0, 0⟩⟩, ⟨.val false [⟨.slice 71, .own true, TC.l (x.2.1)⟩], ⟨0, 0⟩⟩, ⟨.val false [⟨.int .i64, .sh, TC.i (x.2.2)⟩], ⟨0, 0⟩⟩]
def qbc_3_out : qbc_3_ω → Ex × List Slot := (fun x => (.exit 0, [Slot.none, ⟨.val false [⟨.slice 71, .own true, TC.l x⟩], ⟨0, 0⟩⟩]))
noncomputable def qbc_lo3 : List Slot → Option (Told (Ex × List Slot)) := fun s => match s with
  | [⟨.val false [⟨.slice 67, .sh, TC.l A⟩], ⟨0, 0⟩⟩, ⟨.val false [⟨.slice 71, .own true, TC.l X⟩], ⟨0, 0⟩⟩, ⟨.val false [⟨.int .i64, .sh, TC.i i⟩], ⟨0, 0⟩⟩] => some (((qbc_3_fin A X i)).map qbc_3_out)
  | _ => .none
noncomputable def qbc_lo : LoopTeller := fun r s => bif Nat.beq r 3 then qbc_lo3 s else .none
theorem qbc_3_r (A X : LL) (i : Int) (fuel : Nat) : rounds (rnd tab FT D10 live 34 qbc_lo 0 3) leave (fuel + 1) (qbc_3_sl (A, X, i)) = ((qbc_3_step A X i)).run (goOn (fun s => rounds (rnd tab FT D10 live 34 qbc_lo 0 3) leave fuel (qbc_3_sl s)) fun w => some (qbc_3_out w)) := by kernel_rfl
theorem qbc_3_h (A X : LL) (i : Int) (ow : qbc_3_ω) : ((qbc_3_fin A X i)).val = some ow → ∃ fuel, loopN qbc_3_st fuel (A, X, i) = some ow := by
  intro h
  refine auto_leaf (R := A) (fun ho => ?_) h
  obtain ⟨ht, hr0, rfl, rfl⟩ := is_iff.1 ho
  have hlen : A.length ≤ 140737488351232 := by have := typed_room ht; simp only [show (tab 67).bytes = 152 from rfl] at this; omega
  have key := loopN_copy (step := qbc_3_st) A (List.replicate A.length qbc_z) qbc_g (fun Y i => (A, Y, (i : Int))) (A.map qbc_g) (by simp) (fun x hx i _ => by rw [(List.mem_replicate.1 hx).2]; exact Nat.le_refl 11) (fun Y i hi hl => ?_) ?_ A.length 0 (by omega)
  · rw [copied_zero, qbc_id ht] at key
    exact ⟨_, key⟩
  · have c0 : Typed tab (.str) (.s (nth (A.getD i []) 0).str) := typed_s (typed_cell ht (A.getD i []) (mem_getD hi) 0 (by decide))
    have c6 : Typed tab (.slice 9) (.l (nth (A.getD i []) 6).list) := typed_list (typed_cell ht (A.getD i []) (mem_getD hi) 6 (by decide))
    have c7 : Typed tab (.slice 2) (.l (nth (A.getD i []) 7).list) := typed_list (typed_cell ht (A.getD i []) (mem_getD hi) 7 (by decide))
    have c8 : Typed tab (.slice 67) (.l (nth (A.getD i []) 8).list) := typed_list (typed_cell ht (A.getD i []) (mem_getD hi) 8 (by decide))
    have c9 : Typed tab (.slice 27) (.l (nth (A.getD i []) 9).list) := typed_list (typed_cell ht (A.getD i []) (mem_getD hi) 9 (by decide))
    show (qbc_3_step A Y (i : Int)).val = _
    unfold qbc_3_step
    refine Tr.t (by simp; omega) ?_
    refine Tr.t (by first | omega | (constructor <;> omega)) ?_
    refine Tr.t (hr0 (A.getD i []) (mem_getD hi)) ?_
    refine Tr.t (by first | omega | (constructor <;> omega)) ?_
    rw [Tr.val_ok, wrap64 (i := (i : Int) + 1) (by omega) (by omega)]; rfl
  · show (qbc_3_step A (A.map qbc_g) (A.length : Int)).val = _
    refine Tr.n (by simp) ?_
    rfl
theorem qbc_is3 : LoopIs tab FT D10 live 34 qbc_lo 0 3 := by
  refine loop_told (sl := qbc_3_sl) (step := qbc_3_st) (out := qbc_3_out) (lor := qbc_lo3) (fin := fun x => (qbc_3_fin (x.1) (x.2.1) (x.2.2))) (fun _ => rfl) ?_ (fun x n => qbc_3_r x.1 x.2.1 x.2.2 n) (fun x ow => qbc_3_h x.1 x.2.1 x.2.2 ow)
  intro s t h
  unfold qbc_lo3 at h
  split at h
  · cases h; exact ⟨(_, _, _), rfl, rfl⟩
  · cases h
noncomputable def qbc_t (A : LL) : Tr (LL) := (.ite (0 ≤ (A.length : Int) ∧ (A.length : Int) ≤ (A.length : Int) ∧ (A.length : Int) * 152 ≤ 140737488355328 ∧ (A.length : Int) ≤ 140737488355328) (.ite ((qbc_o3_1 A (List.replicate ((A.length : Int)).toNat [TC.s [], TC.i (0 : Int), TC.i (0 : Int), TC.i (0 : Int), TC.b false, TC.b false, TC.l [], TC.l [], TC.l [], TC.l [], TC.i (0 : Int)]) (0 : Int)) = true) (.ok A)
   .no)
  .no)
def qbc_mk (p : LL) : Res := [(false, [⟨.slice 71, .own true, TC.l p⟩])]
noncomputable def qbc_c (A : LL) : Bool := is (Typed tab (.slice 67) (.l A) ∧ (∀ x : List TC, x ∈ A → (qbv_c ((nth x 0).str) ((nth x 1).int) ((nth x 2).int) ((nth x 3).int) ((nth x 4).bool) ((nth x 5).bool) ((nth x 6).list) ((nth x 7).list) ((nth x 8).list) ((nth x 9).list) ((nth x 10).int)) = true))
noncomputable def qbc_v (A : LL) : LL := A
theorem qbc_l (A : LL) : (qbc_c A) = true → (qbc_t A).val = some (qbc_v A) := by
  intro h
  obtain ⟨ht, hr0⟩ := is_iff.1 h
  have hb := typed_room ht
  simp only [show (tab 67).bytes = 152 from rfl] at hb
  unfold qbc_t
  refine Tr.t (by omega) ?_
  refine Tr.t (is_true ⟨ht, hr0, by rfl, rfl⟩) ?_
  rfl
noncomputable def qbc_S : List Arg → Option (Bool × Res) := fun xs => match xs with
  | [(false, [(.slice 67, TC.l A)])] => some ((qbc_c A), qbc_mk (qbc_v A))
  | _ => .none
theorem qbc_e (A : LL) : runF tab FT D10 live 34 qbc_lo [(false, [(.slice 67, TC.l A)])] = (qbc_t A).run fun p => some (qbc_mk p) := by kernel_rfl
theorem qbc_s : ∀ xs r, qbc_S xs = some (true, r) → runF tab FT D10 live 34 qbc_lo xs = some r := by
  intro xs r h
  unfold qbc_S at h
  split at h
  · simp only [Option.some.injEq, Prod.mk.injEq] at h
    obtain ⟨h1, rfl⟩ := h
    exact fun_told (qbc_e _) (qbc_l _) h1
  · cases h
noncomputable def D11 : Dt := also D10 34 qbc_S
theorem d11 : DOk Go.Proofs.Try.prog tab D11 := d10.also mixed_ok tab_ok names_ok (fnLoops_one (by kernel_rfl) qbc_is3) qbc_s
theorem qbc_ty {A : LL} (h : Typed tab (.slice 67) (.l A)) : Typed tab (.slice 71) (.l A) := typed_iso iso_ok h (by decide)
noncomputable def qbi_g (x : List TC) : List TC := [TC.i ((qj_rv ((nth x 0).int) ((nth x 1).int) ((nth x 2).bool) ((nth x 3).bool) ((nth x 4).list) ((nth x 5).list) ((nth x 6).list) ((nth x 7).list) ((nth x 8).int)).1), TC.i ((qj_rv ((nth x 0).int) ((nth x 1).int) ((nth x 2).bool) ((nth x 3).bool) ((nth x 4).list) ((nth x 5).list) ((nth x 6).list) ((nth x 7).list) ((nth x 8).int)).2.1), TC.b ((qj_rv ((nth x 0).int) ((nth x 1).int) ((nth x 2).bool) ((nth x 3).bool) ((nth x 4).list) ((nth x 5).list) ((nth x 6).list) ((nth x 7).list) ((nth x 8).int)).2.2.1), TC.b ((qj_rv ((nth x 0).int) ((nth x 1).int) ((nth x 2).bool) ((nth x 3).bool) ((nth x 4).list) ((nth x 5).list) ((nth x 6).list) ((nth x 7).list) ((nth x 8).int)).2.2.2.1), TC.l ((qj_rv ((nth x 0).int) ((nth x 1).int) ((nth x 2).bool) ((nth x 3).bool) ((nth x 4).list) ((nth x 5).list) ((nth x 6).list) ((nth x 7).list) ((nth x 8).int)).2.2.2.2.1), TC.l ((qj_rv ((nth x 0).int) ((nth x 1).int) ((nth x 2).bool) ((nth x 3).bool) ((nth x 4).list) ((nth x 5).list) ((nth x 6).list) ((nth x 7).list) ((nth x 8).int)).2.2.2.2.2.1), TC.l ((qj_rv ((nth x 0).int) ((nth x 1).int) ((nth x 2).bool) ((nth x 3).bool) ((nth x 4).list) ((nth x 5).list) ((nth x 6).list) ((nth x 7).list) ((nth x 8).int)).2.2.2.2.2.2.1), TC.l ((qj_rv ((nth x 0).int) ((nth x 1).int) ((nth x 2).bool) ((nth x 3).bool) ((nth x 4).list) ((nth x 5).list) ((nth x 6).list) ((nth x 7).list) ((nth x 8).int)).2.2.2.2.2.2.2.1), TC.i ((qj_rv ((nth x 0).int) ((nth x 1).int) ((nth x 2).bool) ((nth x 3).bool) ((nth x 4).list) ((nth x 5).list) ((nth x 6).list) ((nth x 7).list) ((nth x 8).int)).2.2.2.2.2.2.2.2)]
def qbi_z : List TC := [TC.i (0 : Int), TC.i (0 : Int), TC.b false, TC.b false, TC.l [], TC.l [], TC.l [], TC.l [], TC.i (0 : Int)]
theorem qbi_id {A : LL} (h : Typed tab (.slice 27) (.l A)) : A.map qbi_g = A := map_same fun x hx => by
  obtain ⟨hl, hk⟩ := typed_elem h hx
  have e0 : TC.i ((nth x 0).int) = nth x 0 := typed_int_eq (hk 0 (by decide))
  have e1 : TC.i ((nth x 1).int) = nth x 1 := typed_int_eq (hk 1 (by decide))
  have e2 : TC.b ((nth x 2).bool) = nth x 2 := typed_bool_eq (hk 2 (by decide))
  have e3 : TC.b ((nth x 3).bool) = nth x 3 := typed_bool_eq (hk 3 (by decide))
  have e4 : TC.l ((nth x 4).list) = nth x 4 := typed_list_eq (hk 4 (by decide))
  have e5 : TC.l ((nth x 5).list) = nth x 5 := typed_list_eq (hk 5 (by decide))
  have e6 : TC.l ((nth x 6).list) = nth x 6 := typed_list_eq (hk 6 (by decide))
  have e7 : TC.l ((nth x 7).list) = nth x 7 := typed_list_eq (hk 7 (by decide))
  have e8 : TC.i ((nth x 8).int) = nth x 8 := typed_int_eq (hk 8 (by decide))
  show [TC.i ((nth x 0).int), TC.i ((nth x 1).int), TC.b ((nth x 2).bool), TC.b ((nth x 3).bool), TC.l ((nth x 4).list), TC.l ((nth x 5).list), TC.l ((nth x 6).list), TC.l ((nth x 7).list), TC.i ((nth x 8).int)] = _
  rw [e0, e1, e2, e3, e4, e5, e6, e7, e8]
  exact (row_eta hl).symm
abbrev qbi_3_σ := LL × LL × Int
abbrev qbi_3_ω := (LL)
noncomputable def qbi_3_step (A X : LL) (i : Int) : Tr (qbi_3_σ ⊕ qbi_3_ω) := (.ite ((decide (i < (A.length : Int))) = true) (.ite ((0 : Int) ≤ i ∧ i < (A.length : Int)) (.ite ((qj_rc ((nth (row A i) 0).int) ((nth (row A i) 1).int) ((nth (row A i) 2).bool) ((nth (row A i) 3).bool) ((nth (row A i) 4).list) ((nth (row A i) 5).list) ((nth (row A i) 6).list) ((nth (row A i) 7).list) ((nth (row A i) 8).int)) = true) (.ite ((0 : Int) ≤ i ∧ i < (X.length : Int)) (.ok (.inl (A, (X.set (i).toNat (splice (row X i) 0 [TC.i ((qj_rv ((nth (row A i) 0).int) ((nth (row A i) 1).int) ((nth (row A i) 2).bool) ((nth (row A i) 3).bool) ((nth (row A i) 4).list) ((nth (row A i) 5).list) ((nth (row A i) 6).list) ((nth (row A i) 7).list) ((nth (row A i) 8).int)).1), TC.i ((qj_rv ((nth (row A i) 0).int) ((nth (row A i) 1).int) ((nth (row A i) 2).bool) ((nth (row A i) 3).bool) ((nth (row A i) 4).list) ((nth (row A i) 5).list) ((nth (row A i) 6).list) ((nth (row A i) 7).list) ((nth (row A i) 8).int)).2.1), TC.b ((qj_rv ((nth (row A i) 0).int) ((nth (row A i) 1).int) ((nth (row A i) 2).bool) ((nth (row A i) 3).bool) ((nth (row A i) 4).list) ((nth (row A i) 5).list) ((nth (row A i) 6).list) ((nth (row A i) 7).list) ((nth (row A i) 8).int)).2.2.1), TC.b ((qj_rv ((nth (row A i) 0).int) ((nth (row A i) 1).int) ((nth (row A i) 2).bool) ((nth (row A i) 3).bool) ((nth (row A i) 4).list) ((nth (row A i) 5).list) ((nth (row A i) 6).list) ((nth (row A i) 7).list) ((nth (row A i) 8).int)).2.2.2.1), TC.l ((qj_rv ((nth (row A i) 0).int) ((nth (row A i) 1).int) ((nth (row A i) 2).bool) ((nth (row A i) 3).bool) ((nth (row A i) 4).list) ((nth (row A i) 5).list) ((nth (row A i) 6).list) ((nth (row A i) 7).list) ((nth (row A i) 8).int)).2.2.2.2.1), TC.l ((qj_rv ((nth (row A i) 0).int) ((nth (row A i) 1).int) ((nth (row A i) 2).bool) ((nth (row A i) 3).bool) ((nth (row A i) 4).list) ((nth (row A i) 5).list) ((nth (row A i) 6).list) ((nth (row A i) 7).list) ((nth (row A i) 8).int)).2.2.2.2.2.1), TC.l ((qj_rv ((nth (row A i) 0).int) ((nth (row A i) 1).int) ((nth (row A i) 2).bool) ((nth (row A i) 3).bool) ((nth (row A i) 4).list) ((nth (row A i) 5).list) ((nth (row A i) 6).list) ((nth (row A i) 7).list) ((nth (row A i) 8).int)).2.2.2.2.2.2.1), TC.l ((qj_rv ((nth (row A i) 0).int) ((nth (row A i) 1).int) ((nth (row A i) 2).bool) ((nth (row A i) 3).bool) ((nth (row A i) 4).list) ((nth (row A i) 5).list) ((nth (row A i) 6).list) ((nth (row A i) 7).list) ((nth (row A i) 8).int)).2.2.2.2.2.2.2.1), TC.i ((qj_rv ((nth (row A i) 0).int) ((nth (row A i) 1).int) ((nth (row A i) 2).bool) ((nth (row A i) 3).bool) ((nth (row A i) 4).list) ((nth (row A i) 5).list) ((nth (row A i) 6).list) ((nth (row A i) 7).list) ((nth (row A i) 8).int)).2.2.2.2.2.2.2.2)])), (IntKind.wrap .i64 (i + (1 : Int))))))
     .no)
    .no)
   .no)
  (.ok (.inr X)))
noncomputable def qbi_3_st : qbi_3_σ → Tr (qbi_3_σ ⊕ qbi_3_ω) := fun x => (qbi_3_step (x.1) (x.2.1) (x.2.2))
noncomputable def qbi_o3_1 (A X : LL) (i : Int) : Bool := is (Typed tab (.slice 27) (.l A) ∧ (∀ x : List TC, x ∈ A → (qj_rc ((nth x 0).int) ((nth x 1).int) ((nth x 2).bool) ((nth x 3).bool) ((nth x 4).list) ((nth x 5).list) ((nth x 6).list) ((nth x 7).list) ((nth x 8).int)) = true) ∧ X = List.replicate A.length qbi_z ∧ i = 0)
noncomputable def qbi_3_fin (A X : LL) (i : Int) : Told qbi_3_ω := (.leaf (qbi_o3_1 A X i) A)
def qbi_3_sl (x : qbi_3_σ) : List Slot := [⟨.val false [⟨.slice 27, .sh, TC.l (x.1)⟩], ⟨0, 0⟩⟩, ⟨.val false [⟨.slice 32, .own true, TC.l (x.2.1)⟩], ⟨0, 0⟩⟩, ⟨.val false [⟨.int .i64, .sh, TC.i (x.2.2)⟩], ⟨0, 0⟩⟩]
def qbi_3_out : qbi_3_ω → Ex × List Slot := (fun x => (.exit 0, [Slot.none, ⟨.val false [⟨.slice 32, .own true, TC.l x⟩], ⟨0, 0⟩⟩]))
noncomputable def qbi_lo3 : List Slot → Option (Told (Ex × List Slot)) := fun s => match s with
  | [⟨.val false [⟨.slice 27, .sh, TC.l A⟩], ⟨0, 0⟩⟩, ⟨.val false [⟨.slice 32, .own true, TC.l X⟩], ⟨0, 0⟩⟩, ⟨.val false [⟨.int .i64, .sh, TC.i i⟩], ⟨0, 0⟩⟩] => some (((qbi_3_fin A X i)).map qbi_3_out)
  | _ => .none
noncomputable def qbi_lo : LoopTeller := fun r s => bif Nat.beq r 3 then qbi_lo3 s else .none
theorem qbi_3_r (A X : LL) (i : Int) (fuel : Nat) : rounds (rnd tab FT D11 live 35 qbi_lo 0 3) leave (fuel + 1) (qbi_3_sl (A, X, i)) = ((qbi_3_step A X i)).run (goOn (fun s => rounds (rnd tab FT D11 live 35 qbi_lo 0 3) leave fuel (qbi_3_sl s)) fun w => some (qbi_3_out w)) := by kernel_rfl
theorem qbi_3_h (A X : LL) (i : Int) (ow : qbi_3_ω) : ((qbi_3_fin A X i)).val = some ow → ∃ fuel, loopN qbi_3_st fuel (A, X, i) = some ow := by
  intro h
  refine auto_leaf (R := A) (fun ho => ?_) h
  obtain ⟨ht, hr0, rfl, rfl⟩ := is_iff.1 ho
  have hlen : A.length ≤ 140737488351232 := by have := typed_room ht; simp only [show (tab 27).bytes = 128 from rfl] at this; omega
  have key := loopN_copy (step := qbi_3_st) A (List.replicate A.length qbi_z) qbi_g (fun Y i => (A, Y, (i : Int))) (A.map qbi_g) (by simp) (fun x hx i _ => by rw [(List.mem_replicate.1 hx).2]; exact Nat.le_refl 9) (fun Y i hi hl => ?_) ?_ A.length 0 (by omega)
  · rw [copied_zero, qbi_id ht] at key
    exact ⟨_, key⟩
  · have c4 : Typed tab (.slice 9) (.l (nth (A.getD i []) 4).list) := typed_list (typed_cell ht (A.getD i []) (mem_getD hi) 4 (by decide))
    have c5 : Typed tab (.slice 2) (.l (nth (A.getD i []) 5).list) := typed_list (typed_cell ht (A.getD i []) (mem_getD hi) 5 (by decide))
    have c6 : Typed tab (.slice 67) (.l (nth (A.getD i []) 6).list) := typed_list (typed_cell ht (A.getD i []) (mem_getD hi) 6 (by decide))
    have c7 : Typed tab (.slice 27) (.l (nth (A.getD i []) 7).list) := typed_list (typed_cell ht (A.getD i []) (mem_getD hi) 7 (by decide))
    show (qbi_3_step A Y (i : Int)).val = _
    unfold qbi_3_step
    refine Tr.t (by simp; omega) ?_
    refine Tr.t (by first | omega | (constructor <;> omega)) ?_
    refine Tr.t (hr0 (A.getD i []) (mem_getD hi)) ?_
    refine Tr.t (by first | omega | (constructor <;> omega)) ?_
    rw [Tr.val_ok, wrap64 (i := (i : Int) + 1) (by omega) (by omega)]; rfl
  · show (qbi_3_step A (A.map qbi_g) (A.length : Int)).val = _
    refine Tr.n (by simp) ?_
    rfl
theorem qbi_is3 : LoopIs tab FT D11 live 35 qbi_lo 0 3 := by
  refine loop_told (sl := qbi_3_sl) (step := qbi_3_st) (out := qbi_3_out) (lor := qbi_lo3) (fin := fun x => (qbi_3_fin (x.1) (x.2.1) (x.2.2))) (fun _ => rfl) ?_ (fun x n => qbi_3_r x.1 x.2.1 x.2.2 n) (fun x ow => qbi_3_h x.1 x.2.1 x.2.2 ow)
  intro s t h
  unfold qbi_lo3 at h
  split at h
  · cases h; exact ⟨(_, _, _), rfl, rfl⟩
  · cases h
noncomputable def qbi_t (A : LL) : Tr (LL) := (.ite (0 ≤ (A.length : Int) ∧ (A.length : Int) ≤ (A.length : Int) ∧ (A.length : Int) * 128 ≤ 140737488355328 ∧ (A.length : Int) ≤ 140737488355328) (.ite ((qbi_o3_1 A (List.replicate ((A.length : Int)).toNat [TC.i (0 : Int), TC.i (0 : Int), TC.b false, TC.b false, TC.l [], TC.l [], TC.l [], TC.l [], TC.i (0 : Int)]) (0 : Int)) = true) (.ok A)
   .no)
  .no)
def qbi_mk (p : LL) : Res := [(false, [⟨.slice 32, .own true, TC.l p⟩])]
noncomputable def qbi_c (A : LL) : Bool := is (Typed tab (.slice 27) (.l A) ∧ (∀ x : List TC, x ∈ A → (qj_rc ((nth x 0).int) ((nth x 1).int) ((nth x 2).bool) ((nth x 3).bool) ((nth x 4).list) ((nth x 5).list) ((nth x 6).list) ((nth x 7).list) ((nth x 8).int)) = true))
noncomputable def qbi_v (A : LL) : LL := A
theorem qbi_l (A : LL) : (qbi_c A) = true → (qbi_t A).val = some (qbi_v A) := by
  intro h
  obtain ⟨ht, hr0⟩ := is_iff.1 h
  have hb := typed_room ht
  simp only [show (tab 27).bytes = 128 from rfl] at hb
  unfold qbi_t
  refine Tr.t (by omega) ?_
  refine Tr.t (is_true ⟨ht, hr0, by rfl, rfl⟩) ?_
  rfl
noncomputable def qbi_S : List Arg → Option (Bool × Res) := fun xs => match xs with
  | [(false, [(.slice 27, TC.l A)])] => some ((qbi_c A), qbi_mk (qbi_v A))
  | _ => .none
theorem qbi_e (A : LL) : runF tab FT D11 live 35 qbi_lo [(false, [(.slice 27, TC.l A)])] = (qbi_t A).run fun p => some (qbi_mk p) := by kernel_rfl
theorem qbi_s : ∀ xs r, qbi_S xs = some (true, r) → runF tab FT D11 live 35 qbi_lo xs = some r := by
  intro xs r h
  unfold qbi_S at h
  split at h
  · simp only [Option.some.injEq, Prod.mk.injEq] at h
    obtain ⟨h1, rfl⟩ := h
    exact fun_told (qbi_e _) (qbi_l _) h1
  · cases h
noncomputable def D12 : Dt := also D11 35 qbi_S
theorem d12 : DOk Go.Proofs.Try.prog tab D12 := d11.also mixed_ok tab_ok names_ok (fnLoops_one (by kernel_rfl) qbi_is3) qbi_s
theorem qbi_ty {A : LL} (h : Typed tab (.slice 27) (.l A)) : Typed tab (.slice 32) (.l A) := typed_iso iso_ok h (by decide)
noncomputable def qj_t (x0 x1 : Int) (x2 x3 : Bool) (x4 x5 x6 x7 : LL) (x8 : Int) : Tr (Int × Int × Bool × Bool × LL × LL × LL × LL × Int) := (.ite ((qbb_c x4) = true) (.ite ((qbe_c x5) = true) (.ite ((qbc_c x6) = true) (.ite ((qbi_c x7) = true) (.ok (x0, x1, x2, x3, (qbb_v x4), (qbe_v x5), (qbc_v x6), (qbi_v x7), x8))
     .no)
    .no)
   .no)
  .no)
def qj_mk (p : Int × Int × Bool × Bool × LL × LL × LL × LL × Int) : Res := [(true, [⟨.int .i64, .sh, TC.i (p.1)⟩, ⟨.int .i64, .sh, TC.i (p.2.1)⟩, ⟨.bool, .sh, TC.b (p.2.2.1)⟩, ⟨.bool, .sh, TC.b (p.2.2.2.1)⟩, ⟨.slice 9, .own true, TC.l (p.2.2.2.2.1)⟩, ⟨.slice 2, .own true, TC.l (p.2.2.2.2.2.1)⟩, ⟨.slice 71, .own true, TC.l (p.2.2.2.2.2.2.1)⟩, ⟨.slice 32, .own true, TC.l (p.2.2.2.2.2.2.2.1)⟩, ⟨.int .i64, .sh, TC.i (p.2.2.2.2.2.2.2.2)⟩])]
noncomputable def qj_c (x0 x1 : Int) (x2 x3 : Bool) (x4 x5 x6 x7 : LL) (x8 : Int) : Bool := ((qbb_c x4) && ((qbe_c x5) && ((qbc_c x6) && ((qbi_c x7) && true))))
noncomputable def qj_v (x0 x1 : Int) (x2 x3 : Bool) (x4 x5 x6 x7 : LL) (x8 : Int) : Int × Int × Bool × Bool × LL × LL × LL × LL × Int := (x0, x1, x2, x3, (qbb_v x4), (qbe_v x5), (qbc_v x6), (qbi_v x7), x8)
theorem qj_l (x0 x1 : Int) (x2 x3 : Bool) (x4 x5 x6 x7 : LL) (x8 : Int) : (qj_c x0 x1 x2 x3 x4 x5 x6 x7 x8) = true → (qj_t x0 x1 x2 x3 x4 x5 x6 x7 x8).val = some (qj_v x0 x1 x2 x3 x4 x5 x6 x7 x8) := by
  unfold qj_t qj_v qj_c
  exact fun h => (Tr.gb h fun h => (Tr.gb h fun h => (Tr.gb h fun h => (Tr.gb h fun h => rfl))))
noncomputable def qj_S : List Arg → Option (Bool × Res) := fun xs => match xs with
  | [(true, [(.int .i64, TC.i x0), (.int .i64, TC.i x1), (.bool, TC.b x2), (.bool, TC.b x3), (.slice 9, TC.l x4), (.slice 2, TC.l x5), (.slice 67, TC.l x6), (.slice 27, TC.l x7), (.int .i64, TC.i x8)])] => some ((qj_c x0 x1 x2 x3 x4 x5 x6 x7 x8), qj_mk (qj_v x0 x1 x2 x3 x4 x5 x6 x7 x8))
  | _ => .none
theorem qj_e (x0 x1 : Int) (x2 x3 : Bool) (x4 x5 x6 x7 : LL) (x8 : Int) : runF tab FT D12 live 11 noLoops [(true, [(.int .i64, TC.i x0), (.int .i64, TC.i x1), (.bool, TC.b x2), (.bool, TC.b x3), (.slice 9, TC.l x4), (.slice 2, TC.l x5), (.slice 67, TC.l x6), (.slice 27, TC.l x7), (.int .i64, TC.i x8)])] = (qj_t x0 x1 x2 x3 x4 x5 x6 x7 x8).run fun p => some (qj_mk p) := by kernel_rfl
theorem qj_s : ∀ xs r, qj_S xs = some (true, r) → runF tab FT D12 live 11 noLoops xs = some r := by
  intro xs r h
  unfold qj_S at h
  split at h
  · simp only [Option.some.injEq, Prod.mk.injEq] at h
    obtain ⟨h1, rfl⟩ := h
    exact fun_told (qj_e _ _ _ _ _ _ _ _ _) (qj_l _ _ _ _ _ _ _ _ _) h1
  · cases h
theorem qj_nx (x0 x1 : Int) (x2 x3 : Bool) (x4 x5 x6 x7 : LL) (x8 : Int) : is (max (rowsDep x6) (rowsDep x7) < qj_O.n + 1 ∧ Typed tab (.slice 9) (.l x4) ∧ Typed tab (.slice 2) (.l x5) ∧ Typed tab (.slice 67) (.l x6) ∧ Typed tab (.slice 27) (.l x7)) = true → (qj_c x0 x1 x2 x3 x4 x5 x6 x7 x8) = true ∧ (qj_v x0 x1 x2 x3 x4 x5 x6 x7 x8) = (x0, x1, x2, x3, x4, x5, x6, x7, x8) := by
  intro h
  obtain ⟨hM, t4, t5, t6, t7⟩ := is_iff.1 h
  refine ⟨?_, rfl⟩
  unfold qj_c
  refine andT (by exact is_true t4) ?_
  refine andT (by exact is_true t5) ?_
  refine andT (by exact is_true ⟨t6, fun x hx => is_true ⟨by have a := dep_cell hx 8; have b := dep_cell hx 9; omega, typed_list ((typed_elem t6 hx).2 6 (by decide)), typed_list ((typed_elem t6 hx).2 7 (by decide)), typed_list ((typed_elem t6 hx).2 8 (by decide)), typed_list ((typed_elem t6 hx).2 9 (by decide))⟩⟩) ?_
  refine andT (by exact is_true ⟨t7, fun x hx => is_true ⟨by have a := dep_cell hx 6; have b := dep_cell hx 7; omega, typed_list ((typed_elem t7 hx).2 4 (by decide)), typed_list ((typed_elem t7 hx).2 5 (by decide)), typed_list ((typed_elem t7 hx).2 6 (by decide)), typed_list ((typed_elem t7 hx).2 7 (by decide))⟩⟩) ?_
  rfl
theorem qj_nxr (x0 x1 : Int) (x2 x3 : Bool) (x4 x5 x6 x7 : LL) (x8 : Int) : qj_rc (i_laws_toType := ⟨qj_O.n + 1⟩) x0 x1 x2 x3 x4 x5 x6 x7 x8 = true → (qj_c x0 x1 x2 x3 x4 x5 x6 x7 x8) = true ∧ (qj_v x0 x1 x2 x3 x4 x5 x6 x7 x8) = (qj_rv x0 x1 x2 x3 x4 x5 x6 x7 x8) := fun h => qj_nx x0 x1 x2 x3 x4 x5 x6 x7 x8 h
theorem qj_rs : ∀ xs r, qj_rS (i_laws_toType := ⟨qj_O.n + 1⟩) xs = some (true, r) → runF tab FT D12 live 11 noLoops xs = some r := by
  intro xs r h
  unfold qj_rS at h
  split at h
  · simp only [Option.some.injEq, Prod.mk.injEq] at h
    obtain ⟨h1, rfl⟩ := h
    have hx := qj_nxr _ _ _ _ _ _ _ _ _ h1
    have ht := fun_told (qj_e _ _ _ _ _ _ _ _ _) (qj_l _ _ _ _ _ _ _ _ _) hx.1
    rw [hx.2] at ht
    exact ht
  · cases h
theorem qj_step : qj_G (i_laws_toType := ⟨qj_O.n + 1⟩) := by
  have h := DOk.also2 (S := qj_rS (i_laws_toType := ⟨qj_O.n + 1⟩)) mixed_ok tab_ok names_ok d8 d12 noLoops_ok qj_rs
  refine qj_G.mk (i_laws_toType := ⟨qj_O.n + 1⟩) ?_
  exact h
section
class qn_O where n : Nat
variable [i_spec_l02Size : qn_O]
noncomputable def qn_rc (k s : Int) (sg bg : Bool) (NA NU ME BA : LL) (ct : Int) : Bool := is (rowsDep BA < qn_O.n ∧ sizeC k BA = true)
noncomputable def qn_rv (k s : Int) (sg bg : Bool) (NA NU ME BA : LL) (ct : Int) : Int := sizeV k s BA ct
def qn_rmk (p : Int) : Res := [(false, [⟨.int .i64, .sh, TC.i p⟩])]
noncomputable def qn_rS : List Arg → Option (Bool × Res) := fun xs => match xs with
  | [(true, [(.int .i64, TC.i k), (.int .i64, TC.i s), (.bool, TC.b sg), (.bool, TC.b bg), (.slice 9, TC.l NA), (.slice 2, TC.l NU), (.slice 71, TC.l ME), (.slice 32, TC.l BA), (.int .i64, TC.i ct)])] => some ((qn_rc k s sg bg NA NU ME BA ct), qn_rmk (qn_rv k s sg bg NA NU ME BA ct))
  | _ => .none
noncomputable def D13 : Dt := also D12 69 qn_rS
class qn_G : Prop where ok : DOk Go.Proofs.Try.prog tab D13
variable [g_spec_l02Size : qn_G]
theorem d13 : DOk Go.Proofs.Try.prog tab D13 := qn_G.ok
noncomputable def qn_t (k s : Int) (sg bg : Bool) (NA NU ME BA : LL) (ct : Int) : Tr (Int) := (.ite ((k == (3 : Int)) = true) (.ite ((0 : Int) ≤ (0 : Int) ∧ (0 : Int) < (BA.length : Int)) (.ok ((nth (row BA (0 : Int)) 1).int))
   .no)
  (.ite ((k == (5 : Int)) = true) (.ite ((0 : Int) ≤ (0 : Int) ∧ (0 : Int) < (BA.length : Int)) (.ite ((qn_rc ((nth (row BA (0 : Int)) 0).int) ((nth (row BA (0 : Int)) 1).int) ((nth (row BA (0 : Int)) 2).bool) ((nth (row BA (0 : Int)) 3).bool) ((nth (row BA (0 : Int)) 4).list) ((nth (row BA (0 : Int)) 5).list) ((nth (row BA (0 : Int)) 6).list) ((nth (row BA (0 : Int)) 7).list) ((nth (row BA (0 : Int)) 8).int)) = true) (.ok (IntKind.wrap .i64 (ct * (qn_rv ((nth (row BA (0 : Int)) 0).int) ((nth (row BA (0 : Int)) 1).int) ((nth (row BA (0 : Int)) 2).bool) ((nth (row BA (0 : Int)) 3).bool) ((nth (row BA (0 : Int)) 4).list) ((nth (row BA (0 : Int)) 5).list) ((nth (row BA (0 : Int)) 6).list) ((nth (row BA (0 : Int)) 7).list) ((nth (row BA (0 : Int)) 8).int)))))
     .no)
    .no)
   (.ok s)))
def qn_mk (p : Int) : Res := [(false, [⟨.int .i64, .sh, TC.i p⟩])]
noncomputable def qn_c (k s : Int) (sg bg : Bool) (NA NU ME BA : LL) (ct : Int) : Bool := (bif (k == (3 : Int)) then (is ((0 : Int) ≤ (0 : Int) ∧ (0 : Int) < (BA.length : Int)) && true) else (bif (k == (5 : Int)) then (is ((0 : Int) ≤ (0 : Int) ∧ (0 : Int) < (BA.length : Int)) && ((qn_rc ((nth (row BA (0 : Int)) 0).int) ((nth (row BA (0 : Int)) 1).int) ((nth (row BA (0 : Int)) 2).bool) ((nth (row BA (0 : Int)) 3).bool) ((nth (row BA (0 : Int)) 4).list) ((nth (row BA (0 : Int)) 5).list) ((nth (row BA (0 : Int)) 6).list) ((nth (row BA (0 : Int)) 7).list) ((nth (row BA (0 : Int)) 8).int)) && true)) else true))
noncomputable def qn_v (k s : Int) (sg bg : Bool) (NA NU ME BA : LL) (ct : Int) : Int := (bif (k == (3 : Int)) then (nth (row BA (0 : Int)) 1).int else (bif (k == (5 : Int)) then (IntKind.wrap .i64 (ct * (qn_rv ((nth (row BA (0 : Int)) 0).int) ((nth (row BA (0 : Int)) 1).int) ((nth (row BA (0 : Int)) 2).bool) ((nth (row BA (0 : Int)) 3).bool) ((nth (row BA (0 : Int)) 4).list) ((nth (row BA (0 : Int)) 5).list) ((nth (row BA (0 : Int)) 6).list) ((nth (row BA (0 : Int)) 7).list) ((nth (row BA (0 : Int)) 8).int)))) else s))
theorem qn_l (k s : Int) (sg bg : Bool) (NA NU ME BA : LL) (ct : Int) : (qn_c k s sg bg NA NU ME BA ct) = true → (qn_t k s sg bg NA NU ME BA ct).val = some (qn_v k s sg bg NA NU ME BA ct) := by
  unfold qn_t qn_v qn_c
  exact fun h => (Tr.ss h (fun h => (Tr.gs h fun h => rfl)) (fun h => (Tr.ss h (fun h => (Tr.gs h fun h => (Tr.gb h fun h => rfl))) (fun h => rfl))))
noncomputable def qn_S : List Arg → Option (Bool × Res) := fun xs => match xs with
  | [(true, [(.int .i64, TC.i k), (.int .i64, TC.i s), (.bool, TC.b sg), (.bool, TC.b bg), (.slice 9, TC.l NA), (.slice 2, TC.l NU), (.slice 71, TC.l ME), (.slice 32, TC.l BA), (.int .i64, TC.i ct)])] => some ((qn_c k s sg bg NA NU ME BA ct), qn_mk (qn_v k s sg bg NA NU ME BA ct))
  | _ => .none
theorem qn_e (k s : Int) (sg bg : Bool) (NA NU ME BA : LL) (ct : Int) : runF tab FT D13 live 69 noLoops [(true, [(.int .i64, TC.i k), (.int .i64, TC.i s), (.bool, TC.b sg), (.bool, TC.b bg), (.slice 9, TC.l NA), (.slice 2, TC.l NU), (.slice 71, TC.l ME), (.slice 32, TC.l BA), (.int .i64, TC.i ct)])] = (qn_t k s sg bg NA NU ME BA ct).run fun p => some (qn_mk p) := by kernel_rfl
theorem qn_s : ∀ xs r, qn_S xs = some (true, r) → runF tab FT D13 live 69 noLoops xs = some r := by
  intro xs r h
  unfold qn_S at h
  split at h
  · simp only [Option.some.injEq, Prod.mk.injEq] at h
    obtain ⟨h1, rfl⟩ := h
    exact fun_told (qn_e _ _ _ _ _ _ _ _ _) (qn_l _ _ _ _ _ _ _ _ _) h1
  · cases h
theorem qn_nx (k s : Int) (sg bg : Bool) (NA NU ME BA : LL) (ct : Int) : is (rowsDep BA < qn_O.n + 1 ∧ sizeC k BA = true) = true → (qn_c k s sg bg NA NU ME BA ct) = true ∧ (qn_v k s sg bg NA NU ME BA ct) = sizeV k s BA ct := by
  intro h
  obtain ⟨hM, hC⟩ := is_iff.1 h
  unfold qn_c qn_v
  rw [sizeC] at hC
  rw [sizeV]
  cases h3 : (k == 3) with
  | true =>
    simp only [h3, cond_true, decide_eq_true_eq] at hC
    exact ⟨andT (is_true (by constructor <;> omega)) rfl, rfl⟩
  | false =>
    cases h5 : (k == 5) with
    | true =>
      simp only [h3, h5, cond_true, cond_false] at hC ⊢
      split at hC
      · rename_i hb
        rw [dif_pos hb]
        have := pos_row hb 7
        exact ⟨andT (is_true (by constructor <;> omega)) (andT (is_true ⟨by omega, hC⟩) rfl), rfl⟩
      · cases hC
    | false => exact ⟨rfl, rfl⟩
theorem qn_nxr (k s : Int) (sg bg : Bool) (NA NU ME BA : LL) (ct : Int) : qn_rc (i_spec_l02Size := ⟨qn_O.n + 1⟩) k s sg bg NA NU ME BA ct = true → (qn_c k s sg bg NA NU ME BA ct) = true ∧ (qn_v k s sg bg NA NU ME BA ct) = (qn_rv k s sg bg NA NU ME BA ct) := fun h => qn_nx k s sg bg NA NU ME BA ct h
theorem qn_rs : ∀ xs r, qn_rS (i_spec_l02Size := ⟨qn_O.n + 1⟩) xs = some (true, r) → runF tab FT D13 live 69 noLoops xs = some r := by
  intro xs r h
  unfold qn_rS at h
  split at h
  · simp only [Option.some.injEq, Prod.mk.injEq] at h
    obtain ⟨h1, rfl⟩ := h
    have hx := qn_nxr _ _ _ _ _ _ _ _ _ h1
    have ht := fun_told (qn_e _ _ _ _ _ _ _ _ _) (qn_l _ _ _ _ _ _ _ _ _) hx.1
    rw [hx.2] at ht
    exact ht
  · cases h
theorem qn_step : qn_G (i_spec_l02Size := ⟨qn_O.n + 1⟩) := by
  have h := DOk.also2 (S := qn_rS (i_spec_l02Size := ⟨qn_O.n + 1⟩)) mixed_ok tab_ok names_ok d12 d13 noLoops_ok qn_rs
  refine qn_G.mk (i_spec_l02Size := ⟨qn_O.n + 1⟩) ?_
  exact h
section
class qf_O where n : Nat
variable [i_spec_l02Depth : qf_O]
noncomputable def qf_rc (k s : Int) (sg bg : Bool) (NA NU ME BA : LL) (ct : Int) : Bool := is (max (rowsDep ME) (rowsDep BA) < qf_O.n ∧ depthC k ME BA = true ∧ Typed tab (.slice 71) (.l ME) ∧ Typed tab (.slice 32) (.l BA))
noncomputable def qf_rv (k s : Int) (sg bg : Bool) (NA NU ME BA : LL) (ct : Int) : Int := depthV k ME BA
def qf_rmk (p : Int) : Res := [(false, [⟨.int .i64, .sh, TC.i p⟩])]
noncomputable def qf_rS : List Arg → Option (Bool × Res) := fun xs => match xs with
  | [(true, [(.int .i64, TC.i k), (.int .i64, TC.i s), (.bool, TC.b sg), (.bool, TC.b bg), (.slice 9, TC.l NA), (.slice 2, TC.l NU), (.slice 71, TC.l ME), (.slice 32, TC.l BA), (.int .i64, TC.i ct)])] => some ((qf_rc k s sg bg NA NU ME BA ct), qf_rmk (qf_rv k s sg bg NA NU ME BA ct))
  | _ => .none
noncomputable def D14 : Dt := also D13 70 qf_rS
class qf_G : Prop where ok : DOk Go.Proofs.Try.prog tab D14
variable [g_spec_l02Depth : qf_G]
theorem d14 : DOk Go.Proofs.Try.prog tab D14 := qf_G.ok
noncomputable def qcl_t (a0 a1 : Int) : Tr (Int) := (.ite ((decide (a0 > a1)) = true) (.ok a0)
  (.ok a1))
def qcl_mk (p : Int) : Res := [(false, [⟨.int .i64, .sh, TC.i p⟩])]
noncomputable def qcl_c (a0 a1 : Int) : Bool := true
noncomputable def qcl_v (a0 a1 : Int) : Int := (bif (decide (a0 > a1)) then a0 else a1)
theorem qcl_l (a0 a1 : Int) : (qcl_c a0 a1) = true → (qcl_t a0 a1).val = some (qcl_v a0 a1) := by
  intro h
  skip
  unfold qcl_t qcl_v
  exact (Tr.s rfl rfl)
noncomputable def qcl_S : List Arg → Option (Bool × Res) := fun xs => match xs with
  | [(false, [(.int .i64, TC.i a0)]), (false, [(.int .i64, TC.i a1)])] => some (true, qcl_mk (qcl_v a0 a1))
  | _ => .none
theorem qcl_e (a0 a1 : Int) : runF tab FT D14 live 87 noLoops [(false, [(.int .i64, TC.i a0)]), (false, [(.int .i64, TC.i a1)])] = (qcl_t a0 a1).run fun p => some (qcl_mk p) := by kernel_rfl
theorem qcl_s : ∀ xs r, qcl_S xs = some (true, r) → runF tab FT D14 live 87 noLoops xs = some r := by
  intro xs r h
  unfold qcl_S at h
  split at h
  · simp only [Option.some.injEq, Prod.mk.injEq] at h
    obtain ⟨h1, rfl⟩ := h
    exact fun_told (qcl_e _ _) (qcl_l _ _) rfl
  · cases h
noncomputable def D15 : Dt := also D14 87 qcl_S
theorem d15 : DOk Go.Proofs.Try.prog tab D15 := d14.also mixed_ok tab_ok names_ok noLoops_ok qcl_s
noncomputable def qf_f5 (k s : Int) (sg bg : Bool) (NA NU ME BA : LL) (ct i d : Int) : (Int) ⊕ ((Int)) := (.inl (qcl_v d (qf_rv ((nth (row ME i) 2).int) ((nth (row ME i) 3).int) ((nth (row ME i) 4).bool) ((nth (row ME i) 5).bool) ((nth (row ME i) 6).list) ((nth (row ME i) 7).list) ((nth (row ME i) 8).list) ((nth (row ME i) 9).list) ((nth (row ME i) 10).int))))
noncomputable def qf_e5 (k s : Int) (sg bg : Bool) (NA NU ME BA : LL) (ct d : Int) : (Int) := d
noncomputable def qf_R5 (k s : Int) (sg bg : Bool) (NA NU ME BA : LL) (ct d i : Int) : (Int) := iter (fun i a => (qf_f5 k s sg bg NA NU ME BA ct (i : Int) a)) (fun a => (qf_e5 k s sg bg NA NU ME BA ct a)) (ME.length) 0 d
abbrev qf_5_σ := Int × Int × Bool × Bool × LL × LL × LL × LL × Int × Int × Int
abbrev qf_5_ω := (Int)
noncomputable def qf_5_step (k s : Int) (sg bg : Bool) (NA NU ME BA : LL) (ct d i : Int) : Tr (qf_5_σ ⊕ qf_5_ω) := (.ite ((decide (i < (ME.length : Int))) = true) (.ite ((0 : Int) ≤ i ∧ i < (ME.length : Int)) (.ite ((qf_rc ((nth (row ME i) 2).int) ((nth (row ME i) 3).int) ((nth (row ME i) 4).bool) ((nth (row ME i) 5).bool) ((nth (row ME i) 6).list) ((nth (row ME i) 7).list) ((nth (row ME i) 8).list) ((nth (row ME i) 9).list) ((nth (row ME i) 10).int)) = true) (.ok (.inl (k, s, sg, bg, NA, NU, ME, BA, ct, (qcl_v d (qf_rv ((nth (row ME i) 2).int) ((nth (row ME i) 3).int) ((nth (row ME i) 4).bool) ((nth (row ME i) 5).bool) ((nth (row ME i) 6).list) ((nth (row ME i) 7).list) ((nth (row ME i) 8).list) ((nth (row ME i) 9).list) ((nth (row ME i) 10).int))), (IntKind.wrap .i64 (i + (1 : Int))))))
    .no)
   .no)
  (.ok (.inr d)))
noncomputable def qf_5_st : qf_5_σ → Tr (qf_5_σ ⊕ qf_5_ω) := fun x => (qf_5_step (x.1) (x.2.1) (x.2.2.1) (x.2.2.2.1) (x.2.2.2.2.1) (x.2.2.2.2.2.1) (x.2.2.2.2.2.2.1) (x.2.2.2.2.2.2.2.1) (x.2.2.2.2.2.2.2.2.1) (x.2.2.2.2.2.2.2.2.2.1) (x.2.2.2.2.2.2.2.2.2.2))
noncomputable def qf_o5_1 (k s : Int) (sg bg : Bool) (NA NU ME BA : LL) (ct d i : Int) : Bool := is (i = 0 ∧ ME.length ≤ 140737488355328 ∧ (∀ x : List TC, x ∈ ME → qf_rc (nth x 2).int (nth x 3).int (nth x 4).bool (nth x 5).bool (nth x 6).list (nth x 7).list (nth x 8).list (nth x 9).list (nth x 10).int = true))
noncomputable def qf_u5_1 (k s : Int) (sg bg : Bool) (NA NU ME BA : LL) (ct d i : Int) : Int := (qf_R5 k s sg bg NA NU ME BA ct d i)
noncomputable def qf_5_fin (k s : Int) (sg bg : Bool) (NA NU ME BA : LL) (ct d i : Int) : Told qf_5_ω := (.leaf (qf_o5_1 k s sg bg NA NU ME BA ct d i) (qf_u5_1 k s sg bg NA NU ME BA ct d i))
def qf_5_sl (x : qf_5_σ) : List Slot := [⟨.bx 32 [⟨.int .i64, .sh, TC.i (x.1)⟩, ⟨.int .i64, .sh, TC.i (x.2.1)⟩, ⟨.bool, .sh, TC.b (x.2.2.1)⟩, ⟨.bool, .sh, TC.b (x.2.2.2.1)⟩, ⟨.slice 9, .sh, TC.l (x.2.2.2.2.1)⟩, ⟨.slice 2, .sh, TC.l (x.2.2.2.2.2.1)⟩, ⟨.slice 71, .sh, TC.l (x.2.2.2.2.2.2.1)⟩, ⟨.slice 32, .sh, TC.l (x.2.2.2.2.2.2.2.1)⟩, ⟨.int .i64, .sh, TC.i (x.2.2.2.2.2.2.2.2.1)⟩], ⟨0, 0⟩⟩, ⟨.val false [⟨.int .i64, .sh, TC.i (x.2.2.2.2.2.2.2.2.2.1)⟩], ⟨0, 0⟩⟩, ⟨.val false [⟨.int .i64, .sh, TC.i (x.2.2.2.2.2.2.2.2.2.2)⟩], ⟨0, 0⟩⟩]
def qf_5_out : qf_5_ω → Ex × List Slot := (fun x => (.exit 1, [Slot.none, ⟨.val false [⟨.int .i64, .sh, TC.i x⟩], ⟨0, 0⟩⟩]))
noncomputable def qf_lo5 : List Slot → Option (Told (Ex × List Slot)) := fun s => match s with
  | [⟨.bx 32 [⟨.int .i64, .sh, TC.i k⟩, ⟨.int .i64, .sh, TC.i s⟩, ⟨.bool, .sh, TC.b sg⟩, ⟨.bool, .sh, TC.b bg⟩, ⟨.slice 9, .sh, TC.l NA⟩, ⟨.slice 2, .sh, TC.l NU⟩, ⟨.slice 71, .sh, TC.l ME⟩, ⟨.slice 32, .sh, TC.l BA⟩, ⟨.int .i64, .sh, TC.i ct⟩], ⟨0, 0⟩⟩, ⟨.val false [⟨.int .i64, .sh, TC.i d⟩], ⟨0, 0⟩⟩, ⟨.val false [⟨.int .i64, .sh, TC.i i⟩], ⟨0, 0⟩⟩] => some (((qf_5_fin k s sg bg NA NU ME BA ct d i)).map qf_5_out)
  | _ => .none
noncomputable def qf_lo : LoopTeller := fun r s => bif Nat.beq r 5 then qf_lo5 s else .none
theorem qf_5_r (k s : Int) (sg bg : Bool) (NA NU ME BA : LL) (ct d i : Int) (fuel : Nat) : rounds (rnd tab FT D15 live 70 qf_lo 0 5) leave (fuel + 1) (qf_5_sl (k, s, sg, bg, NA, NU, ME, BA, ct, d, i)) = ((qf_5_step k s sg bg NA NU ME BA ct d i)).run (goOn (fun s => rounds (rnd tab FT D15 live 70 qf_lo 0 5) leave fuel (qf_5_sl s)) fun w => some (qf_5_out w)) := by kernel_rfl
theorem qf_R5_eq (k s : Int) (sg bg : Bool) (NA NU ME BA : LL) (ct d : Int) : qf_R5 k s sg bg NA NU ME BA ct d 0 = ME.foldl (fun d x => maxI d (depthV (nth x 2).int (nth x 8).list (nth x 9).list)) d := by
  unfold qf_R5
  rw [← foldI_rows (g := fun d x => maxI d (depthV (nth x 2).int (nth x 8).list (nth x 9).list))]
  exact iter_each (g := fun i d => maxI d (depthV (nth (row ME (i : Int)) 2).int (nth (row ME (i : Int)) 8).list (nth (row ME (i : Int)) 9).list)) (fin := fun a => qf_e5 k s sg bg NA NU ME BA ct a) fun j a hj => rfl
theorem qf_5_h (k s : Int) (sg bg : Bool) (NA NU ME BA : LL) (ct d i : Int) (ow : qf_5_ω) : ((qf_5_fin k s sg bg NA NU ME BA ct d i)).val = some ow → ∃ fuel, loopN qf_5_st fuel (k, s, sg, bg, NA, NU, ME, BA, ct, d, i) = some ow := by
  refine auto_leaf (R := (qf_R5 k s sg bg NA NU ME BA ct d i)) ?_
  intro ho
  have ho : is (i = 0 ∧ ME.length ≤ 140737488355328 ∧ (∀ x : List TC, x ∈ ME → qf_rc (nth x 2).int (nth x 3).int (nth x 4).bool (nth x 5).bool (nth x 6).list (nth x 7).list (nth x 8).list (nth x 9).list (nth x 10).int = true)) = true := ho
  obtain ⟨rfl, hl, hr⟩ := is_iff.1 ho
  skip
  refine ⟨(ME.length) + 1, ?_⟩
  refine iter_loop (step := qf_5_st) (ME.length) (fun i a => (qf_f5 k s sg bg NA NU ME BA ct (i : Int) a)) (fun a => (qf_e5 k s sg bg NA NU ME BA ct a)) (fun i a => (k, s, sg, bg, NA, NU, ME, BA, ct, a, (i : Int))) (fun _ _ => True) trivial (fun i a hi hI => ⟨?_, fun _ _ => trivial⟩) (fun a hI => ?_)
  · show (qf_5_step k s sg bg NA NU ME BA ct a (i : Int)).val = _
    unfold qf_5_step qf_f5
    skip
    refine Tr.t (by simp; omega) ?_
    exact (Tr.t (by first | omega | (constructor <;> omega) | (exact hr _ (mem_getD (by omega)))) (Tr.t (by first | omega | (constructor <;> omega) | (exact hr _ (mem_getD (by omega)))) (by rw [Tr.val_ok, wrap64 (i := (i : Int) + 1) (by omega) (by omega)]; rfl)))
  · show (qf_5_step k s sg bg NA NU ME BA ct a (ME.length : Int)).val = _
    refine Tr.n (by first | (simp; done) | (simp; omega) | omega) ?_
    rfl
theorem qf_is5 : LoopIs tab FT D15 live 70 qf_lo 0 5 := by
  refine loop_told (sl := qf_5_sl) (step := qf_5_st) (out := qf_5_out) (lor := qf_lo5) (fin := fun x => (qf_5_fin (x.1) (x.2.1) (x.2.2.1) (x.2.2.2.1) (x.2.2.2.2.1) (x.2.2.2.2.2.1) (x.2.2.2.2.2.2.1) (x.2.2.2.2.2.2.2.1) (x.2.2.2.2.2.2.2.2.1) (x.2.2.2.2.2.2.2.2.2.1) (x.2.2.2.2.2.2.2.2.2.2))) (fun _ => rfl) ?_ (fun x n => qf_5_r x.1 x.2.1 x.2.2.1 x.2.2.2.1 x.2.2.2.2.1 x.2.2.2.2.2.1 x.2.2.2.2.2.2.1 x.2.2.2.2.2.2.2.1 x.2.2.2.2.2.2.2.2.1 x.2.2.2.2.2.2.2.2.2.1 x.2.2.2.2.2.2.2.2.2.2 n) (fun x ow => qf_5_h x.1 x.2.1 x.2.2.1 x.2.2.2.1 x.2.2.2.2.1 x.2.2.2.2.2.1 x.2.2.2.2.2.2.1 x.2.2.2.2.2.2.2.1 x.2.2.2.2.2.2.2.2.1 x.2.2.2.2.2.2.2.2.2.1 x.2.2.2.2.2.2.2.2.2.2 ow)
  intro s t h
  unfold qf_lo5 at h
  split at h
  · cases h; exact ⟨(_, _, _, _, _, _, _, _, _, _, _), rfl, rfl⟩
  · cases h
noncomputable def qf_t (k s : Int) (sg bg : Bool) (NA NU ME BA : LL) (ct : Int) : Tr (Int) := (.ite ((k == (4 : Int)) = true) (.ite ((qf_o5_1 k s sg bg NA NU ME BA ct (0 : Int) (0 : Int)) = true) (.ok (IntKind.wrap .i64 ((qf_u5_1 k s sg bg NA NU ME BA ct (0 : Int) (0 : Int)) + (1 : Int))))
   .no)
  (.ite ((k == (5 : Int)) = true) (.ite ((0 : Int) ≤ (0 : Int) ∧ (0 : Int) < (BA.length : Int)) (.ite ((qf_rc ((nth (row BA (0 : Int)) 0).int) ((nth (row BA (0 : Int)) 1).int) ((nth (row BA (0 : Int)) 2).bool) ((nth (row BA (0 : Int)) 3).bool) ((nth (row BA (0 : Int)) 4).list) ((nth (row BA (0 : Int)) 5).list) ((nth (row BA (0 : Int)) 6).list) ((nth (row BA (0 : Int)) 7).list) ((nth (row BA (0 : Int)) 8).int)) = true) (.ok (IntKind.wrap .i64 ((qf_rv ((nth (row BA (0 : Int)) 0).int) ((nth (row BA (0 : Int)) 1).int) ((nth (row BA (0 : Int)) 2).bool) ((nth (row BA (0 : Int)) 3).bool) ((nth (row BA (0 : Int)) 4).list) ((nth (row BA (0 : Int)) 5).list) ((nth (row BA (0 : Int)) 6).list) ((nth (row BA (0 : Int)) 7).list) ((nth (row BA (0 : Int)) 8).int)) + (1 : Int))))
     .no)
    .no)
   (.ok (1 : Int))))
def qf_mk (p : Int) : Res := [(false, [⟨.int .i64, .sh, TC.i p⟩])]
noncomputable def qf_c (k s : Int) (sg bg : Bool) (NA NU ME BA : LL) (ct : Int) : Bool := (bif (k == (4 : Int)) then ((qf_o5_1 k s sg bg NA NU ME BA ct (0 : Int) (0 : Int)) && true) else (bif (k == (5 : Int)) then (is ((0 : Int) ≤ (0 : Int) ∧ (0 : Int) < (BA.length : Int)) && ((qf_rc ((nth (row BA (0 : Int)) 0).int) ((nth (row BA (0 : Int)) 1).int) ((nth (row BA (0 : Int)) 2).bool) ((nth (row BA (0 : Int)) 3).bool) ((nth (row BA (0 : Int)) 4).list) ((nth (row BA (0 : Int)) 5).list) ((nth (row BA (0 : Int)) 6).list) ((nth (row BA (0 : Int)) 7).list) ((nth (row BA (0 : Int)) 8).int)) && true)) else true))
noncomputable def qf_v (k s : Int) (sg bg : Bool) (NA NU ME BA : LL) (ct : Int) : Int := (bif (k == (4 : Int)) then (IntKind.wrap .i64 ((qf_u5_1 k s sg bg NA NU ME BA ct (0 : Int) (0 : Int)) + (1 : Int))) else (bif (k == (5 : Int)) then (IntKind.wrap .i64 ((qf_rv ((nth (row BA (0 : Int)) 0).int) ((nth (row BA (0 : Int)) 1).int) ((nth (row BA (0 : Int)) 2).bool) ((nth (row BA (0 : Int)) 3).bool) ((nth (row BA (0 : Int)) 4).list) ((nth (row BA (0 : Int)) 5).list) ((nth (row BA (0 : Int)) 6).list) ((nth (row BA (0 : Int)) 7).list) ((nth (row BA (0 : Int)) 8).int)) + (1 : Int))) else (1 : Int)))
theorem qf_l (k s : Int) (sg bg : Bool) (NA NU ME BA : LL) (ct : Int) : (qf_c k s sg bg NA NU ME BA ct) = true → (qf_t k s sg bg NA NU ME BA ct).val = some (qf_v k s sg bg NA NU ME BA ct) := by
  unfold qf_t qf_v qf_c
  exact fun h => (Tr.ss h (fun h => (Tr.gb h fun h => rfl)) (fun h => (Tr.ss h (fun h => (Tr.gs h fun h => (Tr.gb h fun h => rfl))) (fun h => rfl))))
noncomputable def qf_S : List Arg → Option (Bool × Res) := fun xs => match xs with
  | [(true, [(.int .i64, TC.i k), (.int .i64, TC.i s), (.bool, TC.b sg), (.bool, TC.b bg), (.slice 9, TC.l NA), (.slice 2, TC.l NU), (.slice 71, TC.l ME), (.slice 32, TC.l BA), (.int .i64, TC.i ct)])] => some ((qf_c k s sg bg NA NU ME BA ct), qf_mk (qf_v k s sg bg NA NU ME BA ct))
  | _ => .none
theorem qf_e (k s : Int) (sg bg : Bool) (NA NU ME BA : LL) (ct : Int) : runF tab FT D15 live 70 qf_lo [(true, [(.int .i64, TC.i k), (.int .i64, TC.i s), (.bool, TC.b sg), (.bool, TC.b bg), (.slice 9, TC.l NA), (.slice 2, TC.l NU), (.slice 71, TC.l ME), (.slice 32, TC.l BA), (.int .i64, TC.i ct)])] = (qf_t k s sg bg NA NU ME BA ct).run fun p => some (qf_mk p) := by kernel_rfl
theorem qf_s : ∀ xs r, qf_S xs = some (true, r) → runF tab FT D15 live 70 qf_lo xs = some r := by
  intro xs r h
  unfold qf_S at h
  split at h
  · simp only [Option.some.injEq, Prod.mk.injEq] at h
    obtain ⟨h1, rfl⟩ := h
    exact fun_told (qf_e _ _ _ _ _ _ _ _ _) (qf_l _ _ _ _ _ _ _ _ _) h1
  · cases h
theorem qf_nx (k s : Int) (sg bg : Bool) (NA NU ME BA : LL) (ct : Int) : is (max (rowsDep ME) (rowsDep BA) < qf_O.n + 1 ∧ depthC k ME BA = true ∧ Typed tab (.slice 71) (.l ME) ∧ Typed tab (.slice 32) (.l BA)) = true → (qf_c k s sg bg NA NU ME BA ct) = true ∧ (qf_v k s sg bg NA NU ME BA ct) = depthV k ME BA := by
  intro h
  obtain ⟨hM, hC, tM, tB⟩ := is_iff.1 h
  unfold qf_c qf_v
  rw [depthC] at hC
  rw [depthV]
  cases h4 : (k == 4) with
  | true =>
    simp only [h4, cond_true] at hC ⊢
    rw [attach_all (p := fun x => depthC (nth x 2).int (nth x 8).list (nth x 9).list), List.all_eq_true] at hC
    have hlen : ME.length ≤ 140737488351232 := by have := typed_room tM; simp only [show (tab 71).bytes = 152 from rfl] at this; omega
    refine ⟨andT (is_true ⟨rfl, by omega, fun x hx => is_true ⟨Nat.lt_of_lt_of_le (dep_max (BA := BA) hx 8 9) (by omega), hC x hx, typed_list ((typed_elem tM hx).2 8 (by decide)), typed_list ((typed_elem tM hx).2 9 (by decide))⟩⟩) rfl, ?_⟩
    show IntKind.wrap .i64 (qf_R5 k s sg bg NA NU ME BA ct 0 0 + 1) = _
    rw [qf_R5_eq, attach_foldl (f := fun d x => maxI d (depthV (nth x 2).int (nth x 8).list (nth x 9).list))]
  | false =>
    cases h5 : (k == 5) with
    | true =>
      simp only [h4, h5, cond_true, cond_false] at hC ⊢
      split at hC
      · rename_i hb
        rw [dif_pos hb]
        have := dep_base (ME := ME) hb 6 7
        exact ⟨andT (is_true (by constructor <;> omega)) (andT (is_true ⟨by omega, hC, typed_list ((typed_elem tB (mem_getD (i := 0) hb)).2 6 (by decide)), typed_list ((typed_elem tB (mem_getD (i := 0) hb)).2 7 (by decide))⟩) rfl), rfl⟩
      · cases hC
    | false => exact ⟨rfl, rfl⟩
theorem qf_nxr (k s : Int) (sg bg : Bool) (NA NU ME BA : LL) (ct : Int) : qf_rc (i_spec_l02Depth := ⟨qf_O.n + 1⟩) k s sg bg NA NU ME BA ct = true → (qf_c k s sg bg NA NU ME BA ct) = true ∧ (qf_v k s sg bg NA NU ME BA ct) = (qf_rv k s sg bg NA NU ME BA ct) := fun h => qf_nx k s sg bg NA NU ME BA ct h
theorem qf_rs : ∀ xs r, qf_rS (i_spec_l02Depth := ⟨qf_O.n + 1⟩) xs = some (true, r) → runF tab FT D15 live 70 qf_lo xs = some r := by
  intro xs r h
  unfold qf_rS at h
  split at h
  · simp only [Option.some.injEq, Prod.mk.injEq] at h
    obtain ⟨h1, rfl⟩ := h
    have hx := qf_nxr _ _ _ _ _ _ _ _ _ h1
    have ht := fun_told (qf_e _ _ _ _ _ _ _ _ _) (qf_l _ _ _ _ _ _ _ _ _) hx.1
    rw [hx.2] at ht
    exact ht
  · cases h
theorem qf_step : qf_G (i_spec_l02Depth := ⟨qf_O.n + 1⟩) := by
  have h := DOk.also2 (S := qf_rS (i_spec_l02Depth := ⟨qf_O.n + 1⟩)) mixed_ok tab_ok names_ok d13 d15 (fnLoops_one (by kernel_rfl) qf_is5) qf_rs
  refine qf_G.mk (i_spec_l02Depth := ⟨qf_O.n + 1⟩) ?_
  exact h
abbrev qv_2_σ := LL × Int × Int
abbrev qv_2_ω := (Unit) ⊕ (Unit)
noncomputable def qv_2_step (A : LL) (v i : Int) : Tr (qv_2_σ ⊕ qv_2_ω) := (.ite ((decide (i < (A.length : Int))) = true) (.ite ((0 : Int) ≤ i ∧ i < (A.length : Int)) (.ite (((nth (row A i) 0).int == v) = true) (.ok (.inr (.inl ())))
    (.ok (.inl (A, v, (IntKind.wrap .i64 (i + (1 : Int)))))))
   .no)
  (.ok (.inr (.inr ()))))
noncomputable def qv_2_st : qv_2_σ → Tr (qv_2_σ ⊕ qv_2_ω) := fun x => (qv_2_step (x.1) (x.2.1) (x.2.2))
noncomputable def qv_k2_1 (A : LL) (v i : Int) : Bool := A.all (fun x => !((nth x 0).int == v))
noncomputable def qv_o2_2 (A : LL) (v i : Int) : Bool := is (i = 0 ∧ A.length ≤ 140737488351232)
noncomputable def qv_o2_3 (A : LL) (v i : Int) : Bool := is (i = 0 ∧ A.length ≤ 140737488351232)
noncomputable def qv_2_fin (A : LL) (v i : Int) : Told qv_2_ω := (.br (qv_k2_1 A v i) (.leaf (qv_o2_2 A v i) (.inr ())) (.leaf (qv_o2_3 A v i) (.inl ())))
def qv_2_sl (x : qv_2_σ) : List Slot := [⟨.val false [⟨.slice 2, .sh, TC.l (x.1)⟩], ⟨0, 0⟩⟩, ⟨.val false [⟨.int .i64, .sh, TC.i (x.2.1)⟩], ⟨0, 0⟩⟩, ⟨.val false [⟨.int .i64, .sh, TC.i (x.2.2)⟩], ⟨0, 0⟩⟩]
def qv_2_out : qv_2_ω → Ex × List Slot := (Sum.elim (fun x => (.ret, [⟨.val false [⟨.bool, .sh, TC.b true⟩], ⟨0, 0⟩⟩])) (fun x => (.exit 0, [Slot.none])))
noncomputable def qv_lo2 : List Slot → Option (Told (Ex × List Slot)) := fun s => match s with
  | [⟨.val false [⟨.slice 2, .sh, TC.l A⟩], ⟨0, 0⟩⟩, ⟨.val false [⟨.int .i64, .sh, TC.i v⟩], ⟨0, 0⟩⟩, ⟨.val false [⟨.int .i64, .sh, TC.i i⟩], ⟨0, 0⟩⟩] => some (((qv_2_fin A v i)).map qv_2_out)
  | _ => .none
noncomputable def qv_lo : LoopTeller := fun r s => bif Nat.beq r 2 then qv_lo2 s else .none
theorem qv_2_r (A : LL) (v i : Int) (fuel : Nat) : rounds (rnd tab FT D15 live 98 qv_lo 0 2) leave (fuel + 1) (qv_2_sl (A, v, i)) = ((qv_2_step A v i)).run (goOn (fun s => rounds (rnd tab FT D15 live 98 qv_lo 0 2) leave fuel (qv_2_sl s)) fun w => some (qv_2_out w)) := by kernel_rfl
theorem qv_2_h (A : LL) (v i : Int) (ow : qv_2_ω) : ((qv_2_fin A v i)).val = some ow → ∃ fuel, loopN qv_2_st fuel (A, v, i) = some ow := by
  intro h
  have key : A.length ≤ 140737488351232 → loopN qv_2_st (A.length + 1) (A, v, (0 : Int)) = some (if A.all (fun x => !((nth x 0).int == v)) = true then (.inr ()) else (.inl ())) := by
    intro ht
    have hlen : A.length ≤ 140737488351232 := ht
    have key := loopN_scan (step := qv_2_st) A [] (fun x => !((nth x 0).int == v)) (fun a _ => a) (fun i a => (A, v, (i : Int))) (fun a => (.inr ())) (fun i a => (.inl ())) (fun i a hi => ?_) (fun a => ?_) A.length 0 () (by omega)
    · first | (rw [Nat.zero_add] at key; exact key) | exact key
    · skip
      show (qv_2_step A v (i : Int)).val = _
      unfold qv_2_step
      refine Tr.t (by simp; omega) ?_
      skip
      refine Tr.t (by first | omega | (constructor <;> omega)) ?_
      refine Tr.b2 (fun hP => ?_) (fun _ => rfl)
      rw [Tr.val_ok, wrap64 (i := (i : Int) + 1) (by omega) (by omega)]; rfl
    · show (qv_2_step A v (A.length : Int)).val = _
      refine Tr.n (by simp) ?_
      rfl
  simp only [qv_2_fin, Told.val] at h
  cases hk : A.all (fun x => !((nth x 0).int == v)) with
  | true =>
    rw [if_pos (show qv_k2_1 A v i = true from hk)] at h
    split at h
    · rename_i ho
      obtain ⟨rfl, ht⟩ := is_iff.1 ho
      cases h
      refine ⟨_, (key ht).trans ?_⟩
      rw [hk]; rfl
    · cases h
  | false =>
    rw [if_neg (show ¬qv_k2_1 A v i = true from by rw [show qv_k2_1 A v i = (A.all (fun x => !((nth x 0).int == v))) from rfl, hk]; simp)] at h
    split at h
    · rename_i ho
      obtain ⟨rfl, ht⟩ := is_iff.1 ho
      cases h
      refine ⟨_, (key ht).trans ?_⟩
      rw [hk]; rfl
    · cases h
theorem qv_is2 : LoopIs tab FT D15 live 98 qv_lo 0 2 := by
  refine loop_told (sl := qv_2_sl) (step := qv_2_st) (out := qv_2_out) (lor := qv_lo2) (fin := fun x => (qv_2_fin (x.1) (x.2.1) (x.2.2))) (fun _ => rfl) ?_ (fun x n => qv_2_r x.1 x.2.1 x.2.2 n) (fun x ow => qv_2_h x.1 x.2.1 x.2.2 ow)
  intro s t h
  unfold qv_lo2 at h
  split at h
  · cases h; exact ⟨(_, _, _), rfl, rfl⟩
  · cases h
noncomputable def qv_t (A : LL) (v : Int) : Tr (Bool) := (.ite ((qv_k2_1 A v (0 : Int)) = true) (.ite ((qv_o2_2 A v (0 : Int)) = true) (.ok false)
   .no)
  (.ite ((qv_o2_3 A v (0 : Int)) = true) (.ok true)
   .no))
def qv_mk (p : Bool) : Res := [(false, [⟨.bool, .sh, TC.b p⟩])]
noncomputable def qv_c (A : LL) (v : Int) : Bool := (bif (qv_k2_1 A v (0 : Int)) then ((qv_o2_2 A v (0 : Int)) && true) else ((qv_o2_3 A v (0 : Int)) && true))
noncomputable def qv_v (A : LL) (v : Int) : Bool := (bif (qv_k2_1 A v (0 : Int)) then false else true)
theorem qv_l (A : LL) (v : Int) : (qv_c A v) = true → (qv_t A v).val = some (qv_v A v) := by
  unfold qv_t qv_v qv_c
  exact fun h => (Tr.ss h (fun h => (Tr.gb h fun h => rfl)) (fun h => (Tr.gb h fun h => rfl)))
noncomputable def qv_S : List Arg → Option (Bool × Res) := fun xs => match xs with
  | [(false, [(.slice 2, TC.l A)]), (false, [(.int .i64, TC.i v)])] => some ((qv_c A v), qv_mk (qv_v A v))
  | _ => .none
theorem qv_e (A : LL) (v : Int) : runF tab FT D15 live 98 qv_lo [(false, [(.slice 2, TC.l A)]), (false, [(.int .i64, TC.i v)])] = (qv_t A v).run fun p => some (qv_mk p) := by kernel_rfl
theorem qv_s : ∀ xs r, qv_S xs = some (true, r) → runF tab FT D15 live 98 qv_lo xs = some r := by
  intro xs r h
  unfold qv_S at h
  split at h
  · simp only [Option.some.injEq, Prod.mk.injEq] at h
    obtain ⟨h1, rfl⟩ := h
    exact fun_told (qv_e _ _) (qv_l _ _) h1
  · cases h
noncomputable def D16 : Dt := also D15 98 qv_S
theorem d16 : DOk Go.Proofs.Try.prog tab D16 := d15.also mixed_ok tab_ok names_ok (fnLoops_one (by kernel_rfl) qv_is2) qv_s
theorem qv_cc {A : LL} {v : Int} (hl : A.length ≤ 140737488351232) : (qv_c A v) = true := by
  unfold qv_c
  refine bifT (fun b1 => ?_) (fun b1 => ?_)
  · skip
    refine andT (by exact is_true ⟨rfl, hl⟩) ?_
    rfl
  · skip
    refine andT (by exact is_true ⟨rfl, hl⟩) ?_
    rfl
noncomputable def qcj_t (k s : Int) (sg bg : Bool) (NA NU ME BA : LL) (ct : Int) : Tr (Bool) := (.ite ((qv_c [[TC.i (1 : Int)], [TC.i (2 : Int)], [TC.i (4 : Int)], [TC.i (8 : Int)]] s) = true) (.ite ((!(qv_v [[TC.i (1 : Int)], [TC.i (2 : Int)], [TC.i (4 : Int)], [TC.i (8 : Int)]] s)) = true) (.ok false)
   (.ite ((s == (8 : Int)) = true) (.ite ((!sg) = true) (.ok false)
     (.ite ((s == (1 : Int)) = true) (.ite (bg = true) (.ok false)
       (.ite (((NA.length : Int) == (0 : Int)) = true) (.ite (((NU.length : Int) == (0 : Int)) = true) (.ite (((ME.length : Int) == (0 : Int)) = true) (.ite (((BA.length : Int) == (0 : Int)) = true) (.ok (ct == (0 : Int)))
           (.ok false))
          (.ok false))
         (.ok false))
        (.ok false)))
      (.ite (((NA.length : Int) == (0 : Int)) = true) (.ite (((NU.length : Int) == (0 : Int)) = true) (.ite (((ME.length : Int) == (0 : Int)) = true) (.ite (((BA.length : Int) == (0 : Int)) = true) (.ok (ct == (0 : Int)))
          (.ok false))
         (.ok false))
        (.ok false))
       (.ok false))))
    (.ite ((s == (1 : Int)) = true) (.ite (bg = true) (.ok false)
      (.ite (((NA.length : Int) == (0 : Int)) = true) (.ite (((NU.length : Int) == (0 : Int)) = true) (.ite (((ME.length : Int) == (0 : Int)) = true) (.ite (((BA.length : Int) == (0 : Int)) = true) (.ok (ct == (0 : Int)))
          (.ok false))
         (.ok false))
        (.ok false))
       (.ok false)))
     (.ite (((NA.length : Int) == (0 : Int)) = true) (.ite (((NU.length : Int) == (0 : Int)) = true) (.ite (((ME.length : Int) == (0 : Int)) = true) (.ite (((BA.length : Int) == (0 : Int)) = true) (.ok (ct == (0 : Int)))
         (.ok false))
        (.ok false))
       (.ok false))
      (.ok false)))))
  .no)
def qcj_mk (p : Bool) : Res := [(false, [⟨.bool, .sh, TC.b p⟩])]
noncomputable def qcj_c (k s : Int) (sg bg : Bool) (NA NU ME BA : LL) (ct : Int) : Bool := true
noncomputable def qcj_v (k s : Int) (sg bg : Bool) (NA NU ME BA : LL) (ct : Int) : Bool := intV s sg bg NA NU ME BA ct
theorem qcj_l (k s : Int) (sg bg : Bool) (NA NU ME BA : LL) (ct : Int) : (qcj_c k s sg bg NA NU ME BA ct) = true → (qcj_t k s sg bg NA NU ME BA ct).val = some (qcj_v k s sg bg NA NU ME BA ct) := by
  intro _
  unfold qcj_t
  refine Tr.t (qv_cc (by decide)) ?_
  rw [show qv_v [[TC.i (1 : Int)], [TC.i (2 : Int)], [TC.i (4 : Int)], [TC.i (8 : Int)]] s = has4 s from by
    show (bif [[TC.i (1 : Int)], [TC.i (2 : Int)], [TC.i (4 : Int)], [TC.i (8 : Int)]].all (fun x => !((nth x 0).int == s)) then false else true) = _
    rw [has4_eq]; cases has4 s <;> rfl]
  simp only [Tr.val_br, Tr.val_ok]
  simp only [ite_bif, somebif]
  refine congrArg some ?_
  unfold qcj_v intV empt
  generalize has4 s = p0, (s == 8) = p1, (s == 1) = p2, ((NA.length : Int) == 0) = p3, ((NU.length : Int) == 0) = p4, ((ME.length : Int) == 0) = p5, ((BA.length : Int) == 0) = p6, (ct == 0) = p7
  cases p0 <;> cases p1 <;> cases sg <;> cases p2 <;> cases bg <;> cases p3 <;> cases p4 <;> cases p5 <;> cases p6 <;> cases p7 <;> rfl
noncomputable def qcj_S : List Arg → Option (Bool × Res) := fun xs => match xs with
  | [(true, [(.int .i64, TC.i k), (.int .i64, TC.i s), (.bool, TC.b sg), (.bool, TC.b bg), (.slice 9, TC.l NA), (.slice 2, TC.l NU), (.slice 71, TC.l ME), (.slice 32, TC.l BA), (.int .i64, TC.i ct)])] => some (true, qcj_mk (qcj_v k s sg bg NA NU ME BA ct))
  | _ => .none
theorem qcj_e (k s : Int) (sg bg : Bool) (NA NU ME BA : LL) (ct : Int) : runF tab FT D16 live 63 noLoops [(true, [(.int .i64, TC.i k), (.int .i64, TC.i s), (.bool, TC.b sg), (.bool, TC.b bg), (.slice 9, TC.l NA), (.slice 2, TC.l NU), (.slice 71, TC.l ME), (.slice 32, TC.l BA), (.int .i64, TC.i ct)])] = (qcj_t k s sg bg NA NU ME BA ct).run fun p => some (qcj_mk p) := by kernel_rfl
theorem qcj_s : ∀ xs r, qcj_S xs = some (true, r) → runF tab FT D16 live 63 noLoops xs = some r := by
  intro xs r h
  unfold qcj_S at h
  split at h
  · simp only [Option.some.injEq, Prod.mk.injEq] at h
    obtain ⟨h1, rfl⟩ := h
    exact fun_told (qcj_e _ _ _ _ _ _ _ _ _) (qcj_l _ _ _ _ _ _ _ _ _) rfl
  · cases h
noncomputable def D17 : Dt := also D16 63 qcj_S
theorem d17 : DOk Go.Proofs.Try.prog tab D17 := d16.also mixed_ok tab_ok names_ok noLoops_ok qcj_s
noncomputable def qbo_t (a0 a1 : Int) (a2 a3 : Bool) (a4 a5 a6 a7 : LL) (a8 : Int) : Tr (Bool) := (.ite ((!a2) = true) (.ok (!a3))
  (.ok false))
def qbo_mk (p : Bool) : Res := [(false, [⟨.bool, .sh, TC.b p⟩])]
noncomputable def qbo_c (a0 a1 : Int) (a2 a3 : Bool) (a4 a5 a6 a7 : LL) (a8 : Int) : Bool := true
noncomputable def qbo_v (a0 a1 : Int) (a2 a3 : Bool) (a4 a5 a6 a7 : LL) (a8 : Int) : Bool := (bif (!a2) then (!a3) else false)
theorem qbo_l (a0 a1 : Int) (a2 a3 : Bool) (a4 a5 a6 a7 : LL) (a8 : Int) : (qbo_c a0 a1 a2 a3 a4 a5 a6 a7 a8) = true → (qbo_t a0 a1 a2 a3 a4 a5 a6 a7 a8).val = some (qbo_v a0 a1 a2 a3 a4 a5 a6 a7 a8) := by
  intro h
  skip
  unfold qbo_t qbo_v
  exact (Tr.s rfl rfl)
noncomputable def qbo_S : List Arg → Option (Bool × Res) := fun xs => match xs with
  | [(true, [(.int .i64, TC.i a0), (.int .i64, TC.i a1), (.bool, TC.b a2), (.bool, TC.b a3), (.slice 9, TC.l a4), (.slice 2, TC.l a5), (.slice 71, TC.l a6), (.slice 32, TC.l a7), (.int .i64, TC.i a8)])] => some (true, qbo_mk (qbo_v a0 a1 a2 a3 a4 a5 a6 a7 a8))
  | _ => .none
theorem qbo_e (a0 a1 : Int) (a2 a3 : Bool) (a4 a5 a6 a7 : LL) (a8 : Int) : runF tab FT D17 live 68 noLoops [(true, [(.int .i64, TC.i a0), (.int .i64, TC.i a1), (.bool, TC.b a2), (.bool, TC.b a3), (.slice 9, TC.l a4), (.slice 2, TC.l a5), (.slice 71, TC.l a6), (.slice 32, TC.l a7), (.int .i64, TC.i a8)])] = (qbo_t a0 a1 a2 a3 a4 a5 a6 a7 a8).run fun p => some (qbo_mk p) := by kernel_rfl
theorem qbo_s : ∀ xs r, qbo_S xs = some (true, r) → runF tab FT D17 live 68 noLoops xs = some r := by
  intro xs r h
  unfold qbo_S at h
  split at h
  · simp only [Option.some.injEq, Prod.mk.injEq] at h
    obtain ⟨h1, rfl⟩ := h
    exact fun_told (qbo_e _ _ _ _ _ _ _ _ _) (qbo_l _ _ _ _ _ _ _ _ _) rfl
  · cases h
noncomputable def D18 : Dt := also D17 68 qbo_S
theorem d18 : DOk Go.Proofs.Try.prog tab D18 := d17.also mixed_ok tab_ok names_ok noLoops_ok qbo_s
noncomputable def qcg_t (a0 a1 a2 : Int) : Tr (Bool) := (.ite ((decide (a0 ≥ a1)) = true) (.ok (decide (a0 ≤ a2)))
  (.ok false))
def qcg_mk (p : Bool) : Res := [(false, [⟨.bool, .sh, TC.b p⟩])]
noncomputable def qcg_c (a0 a1 a2 : Int) : Bool := true
noncomputable def qcg_v (a0 a1 a2 : Int) : Bool := (bif (decide (a0 ≥ a1)) then (decide (a0 ≤ a2)) else false)
theorem qcg_l (a0 a1 a2 : Int) : (qcg_c a0 a1 a2) = true → (qcg_t a0 a1 a2).val = some (qcg_v a0 a1 a2) := by
  intro h
  skip
  unfold qcg_t qcg_v
  exact (Tr.s rfl rfl)
noncomputable def qcg_S : List Arg → Option (Bool × Res) := fun xs => match xs with
  | [(false, [(.int .i64, TC.i a0)]), (false, [(.int .i64, TC.i a1)]), (false, [(.int .i64, TC.i a2)])] => some (true, qcg_mk (qcg_v a0 a1 a2))
  | _ => .none
theorem qcg_e (a0 a1 a2 : Int) : runF tab FT D18 live 64 noLoops [(false, [(.int .i64, TC.i a0)]), (false, [(.int .i64, TC.i a1)]), (false, [(.int .i64, TC.i a2)])] = (qcg_t a0 a1 a2).run fun p => some (qcg_mk p) := by kernel_rfl
theorem qcg_s : ∀ xs r, qcg_S xs = some (true, r) → runF tab FT D18 live 64 noLoops xs = some r := by
  intro xs r h
  unfold qcg_S at h
  split at h
  · simp only [Option.some.injEq, Prod.mk.injEq] at h
    obtain ⟨h1, rfl⟩ := h
    exact fun_told (qcg_e _ _ _) (qcg_l _ _ _) rfl
  · cases h
noncomputable def D19 : Dt := also D18 64 qcg_S
theorem d19 : DOk Go.Proofs.Try.prog tab D19 := d18.also mixed_ok tab_ok names_ok noLoops_ok qcg_s
noncomputable def qw_t (k s : Int) (sg bg : Bool) (NA NU ME BA : LL) (ct : Int) : Tr (Int × Int) := (.ite ((!sg) = true) (.ite (0 ≤ (IntKind.wrap .u64 (IntKind.wrap .i64 ((8 : Int) * s)))) (.ok ((0 : Int), (IntKind.wrap .i64 ((IntKind.wrap .i64 ((1 : Int) * (2 ^ (min ((IntKind.wrap .u64 (IntKind.wrap .i64 ((8 : Int) * s)))).toNat 64)))) - (1 : Int)))))
   .no)
  (.ite (0 ≤ (IntKind.wrap .u64 ((IntKind.wrap .u64 (IntKind.wrap .i64 ((8 : Int) * s))) - (1 : Int)))) (.ok ((IntKind.wrap .i64 ((IntKind.wrap .i64 ((0 : Int) - (IntKind.wrap .i64 ((IntKind.wrap .i64 ((1 : Int) * (2 ^ (min ((IntKind.wrap .u64 ((IntKind.wrap .u64 (IntKind.wrap .i64 ((8 : Int) * s))) - (1 : Int)))).toNat 64)))) - (1 : Int))))) - (1 : Int))), (IntKind.wrap .i64 ((IntKind.wrap .i64 ((1 : Int) * (2 ^ (min ((IntKind.wrap .u64 ((IntKind.wrap .u64 (IntKind.wrap .i64 ((8 : Int) * s))) - (1 : Int)))).toNat 64)))) - (1 : Int)))))
   .no))
def qw_mk (p : Int × Int) : Res := [(false, [⟨.int .i64, .sh, TC.i (p.1)⟩]), (false, [⟨.int .i64, .sh, TC.i (p.2)⟩])]
noncomputable def qw_c (k s : Int) (sg bg : Bool) (NA NU ME BA : LL) (ct : Int) : Bool := (bif (!sg) then (is (0 ≤ (IntKind.wrap .u64 (IntKind.wrap .i64 ((8 : Int) * s)))) && true) else (is (0 ≤ (IntKind.wrap .u64 ((IntKind.wrap .u64 (IntKind.wrap .i64 ((8 : Int) * s))) - (1 : Int)))) && true))
noncomputable def qw_v (k s : Int) (sg bg : Bool) (NA NU ME BA : LL) (ct : Int) : Int × Int := (bif (!sg) then ((0 : Int), (IntKind.wrap .i64 ((IntKind.wrap .i64 ((1 : Int) * (2 ^ (min ((IntKind.wrap .u64 (IntKind.wrap .i64 ((8 : Int) * s)))).toNat 64)))) - (1 : Int)))) else ((IntKind.wrap .i64 ((IntKind.wrap .i64 ((0 : Int) - (IntKind.wrap .i64 ((IntKind.wrap .i64 ((1 : Int) * (2 ^ (min ((IntKind.wrap .u64 ((IntKind.wrap .u64 (IntKind.wrap .i64 ((8 : Int) * s))) - (1 : Int)))).toNat 64)))) - (1 : Int))))) - (1 : Int))), (IntKind.wrap .i64 ((IntKind.wrap .i64 ((1 : Int) * (2 ^ (min ((IntKind.wrap .u64 ((IntKind.wrap .u64 (IntKind.wrap .i64 ((8 : Int) * s))) - (1 : Int)))).toNat 64)))) - (1 : Int)))))
theorem qw_l (k s : Int) (sg bg : Bool) (NA NU ME BA : LL) (ct : Int) : (qw_c k s sg bg NA NU ME BA ct) = true → (qw_t k s sg bg NA NU ME BA ct).val = some (qw_v k s sg bg NA NU ME BA ct) := by
  unfold qw_t qw_v qw_c
  exact fun h => (Tr.ss h (fun h => (Tr.gs h fun h => rfl)) (fun h => (Tr.gs h fun h => rfl)))
noncomputable def qw_S : List Arg → Option (Bool × Res) := fun xs => match xs with
  | [(true, [(.int .i64, TC.i k), (.int .i64, TC.i s), (.bool, TC.b sg), (.bool, TC.b bg), (.slice 9, TC.l NA), (.slice 2, TC.l NU), (.slice 71, TC.l ME), (.slice 32, TC.l BA), (.int .i64, TC.i ct)])] => some ((qw_c k s sg bg NA NU ME BA ct), qw_mk (qw_v k s sg bg NA NU ME BA ct))
  | _ => .none
theorem qw_e (k s : Int) (sg bg : Bool) (NA NU ME BA : LL) (ct : Int) : runF tab FT D19 live 99 noLoops [(true, [(.int .i64, TC.i k), (.int .i64, TC.i s), (.bool, TC.b sg), (.bool, TC.b bg), (.slice 9, TC.l NA), (.slice 2, TC.l NU), (.slice 71, TC.l ME), (.slice 32, TC.l BA), (.int .i64, TC.i ct)])] = (qw_t k s sg bg NA NU ME BA ct).run fun p => some (qw_mk p) := by kernel_rfl
theorem qw_s : ∀ xs r, qw_S xs = some (true, r) → runF tab FT D19 live 99 noLoops xs = some r := by
  intro xs r h
  unfold qw_S at h
  split at h
  · simp only [Option.some.injEq, Prod.mk.injEq] at h
    obtain ⟨h1, rfl⟩ := h
    exact fun_told (qw_e _ _ _ _ _ _ _ _ _) (qw_l _ _ _ _ _ _ _ _ _) h1
  · cases h
noncomputable def D20 : Dt := also D19 99 qw_S
theorem d20 : DOk Go.Proofs.Try.prog tab D20 := d19.also mixed_ok tab_ok names_ok noLoops_ok qw_s
theorem qw_cc {k : Int} {s : Int} {sg : Bool} {bg : Bool} {NA : LL} {NU : LL} {ME : LL} {BA : LL} {ct : Int}  : (qw_c k s sg bg NA NU ME BA ct) = true := by
  unfold qw_c
  refine bifT (fun b1 => ?_) (fun b1 => ?_)
  · skip
    refine andT (is_true (by rw [IntKind.wrap_u64]; omega)) ?_
    rfl
  · skip
    refine andT (is_true (by rw [IntKind.wrap_u64]; omega)) ?_
    rfl
noncomputable def qch_t (a0 : Int) : Tr (Bool) := (.ite ((decide (a0 ≥ (65 : Int))) = true) (.ite ((decide (a0 ≤ (90 : Int))) = true) (.ok true)
   (.ite ((decide (a0 ≥ (97 : Int))) = true) (.ok (decide (a0 ≤ (122 : Int))))
    (.ok false)))
  (.ite ((decide (a0 ≥ (97 : Int))) = true) (.ok (decide (a0 ≤ (122 : Int))))
   (.ok false)))
def qch_mk (p : Bool) : Res := [(false, [⟨.bool, .sh, TC.b p⟩])]
noncomputable def qch_c (a0 : Int) : Bool := true
noncomputable def qch_v (a0 : Int) : Bool := (bif (decide (a0 ≥ (65 : Int))) then (bif (decide (a0 ≤ (90 : Int))) then true else (bif (decide (a0 ≥ (97 : Int))) then (decide (a0 ≤ (122 : Int))) else false)) else (bif (decide (a0 ≥ (97 : Int))) then (decide (a0 ≤ (122 : Int))) else false))
theorem qch_l (a0 : Int) : (qch_c a0) = true → (qch_t a0).val = some (qch_v a0) := by
  intro h
  skip
  unfold qch_t qch_v
  exact (Tr.s (Tr.s rfl (Tr.s rfl rfl)) (Tr.s rfl rfl))
end
end
end
end
end Go.Proofs.Ytdcafhfnkblfkaa.V
