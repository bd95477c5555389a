/- What the functions of FnExactEncodeType answer. No condition. -/
import Derived.Test.YtdcafhfnkblfkaaVFacts
namespace Go.Proofs.Ytdcafhfnkblfkaa.V
open Go
set_option maxRecDepth 100000
set_option linter.unusedVariables false
set_option linter.unusedSectionVars false
set_option linter.unusedSimpArgs false
set_option maxHeartbeats 2000000
abbrev LL := List (List TC)
abbrev BS := List UInt8
def isoL : List (Nat × Nat) := [(27, 32), (67, 71), (32, 27), (71, 67)]
theorem iso_ok : isoOk tab isoL = true := by kernel_rfl
def has4 (s : Int) : Bool := s == 1 || s == 2 || s == 4 || s == 8
def empt (NA NU ME BA : LL) (ct : Int) : Bool := ((NA.length : Int) == 0) && ((NU.length : Int) == 0) && ((ME.length : Int) == 0) && ((BA.length : Int) == 0) && (ct == 0)
def intV (s : Int) (sg bg : Bool) (NA NU ME BA : LL) (ct : Int) : Bool := has4 s && !((s == 8) && !sg) && !((s == 1) && bg) && empt NA NU ME BA ct
theorem has4_eq (s : Int) : [[TC.i (1 : Int)], [TC.i (2 : Int)], [TC.i (4 : Int)], [TC.i (8 : Int)]].all (fun x => !((nth x 0).int == s)) = !(has4 s) := by
  show (!((1 : Int) == s) && (!((2 : Int) == s) && (!((4 : Int) == s) && (!((8 : Int) == s) && true)))) = _
  unfold has4
  rw [show ((1 : Int) == s) = (s == 1) from Bool.beq_comm, show ((2 : Int) == s) = (s == 2) from Bool.beq_comm, show ((4 : Int) == s) = (s == 4) from Bool.beq_comm, show ((8 : Int) == s) = (s == 8) from Bool.beq_comm]
  cases (s == 1) <;> cases (s == 2) <;> cases (s == 4) <;> cases (s == 8) <;> rfl

theorem pos_row {BA : LL} (h : 0 < BA.length) (j : Nat) : rowsDep (nth (row BA (0 : Int)) j).list < rowsDep BA := dep_row ⟨by omega, by omega⟩ j
def sizeV (k s : Int) (BA : LL) (ct : Int) : Int :=
  bif k == 3 then (nth (row BA (0 : Int)) 1).int
  else bif k == 5 then (if h : 0 < BA.length then IntKind.wrap .i64 (ct * sizeV (nth (row BA (0 : Int)) 0).int (nth (row BA (0 : Int)) 1).int (nth (row BA (0 : Int)) 7).list (nth (row BA (0 : Int)) 8).int) else 0)
  else s
termination_by rowsDep BA
decreasing_by exact pos_row h 7
def sizeC (k : Int) (BA : LL) : Bool :=
  bif k == 3 then decide (0 < BA.length)
  else bif k == 5 then (if h : 0 < BA.length then sizeC (nth (row BA (0 : Int)) 0).int (nth (row BA (0 : Int)) 7).list else false)
  else true
termination_by rowsDep BA
decreasing_by exact pos_row h 7
theorem dep_max {ME BA : LL} {x : List TC} (hx : x ∈ ME) (i j : Nat) : max (rowsDep (nth x i).list) (rowsDep (nth x j).list) < max (rowsDep ME) (rowsDep BA) := by
  have a := dep_cell hx i
  have b := dep_cell hx j
  omega
theorem dep_base {ME BA : LL} (h : 0 < BA.length) (i j : Nat) : max (rowsDep (nth (row BA (0 : Int)) i).list) (rowsDep (nth (row BA (0 : Int)) j).list) < max (rowsDep ME) (rowsDep BA) := by
  have a := pos_row h i
  have b := pos_row h j
  omega
def maxI (a b : Int) : Int := bif decide (a > b) then a else b
noncomputable def depthV (k : Int) (ME BA : LL) : Int :=
  bif k == 4 then IntKind.wrap .i64 (ME.attach.foldl (fun d x => maxI d (depthV (nth x.1 2).int (nth x.1 8).list (nth x.1 9).list)) 0 + 1)
  else bif k == 5 then (if h : 0 < BA.length then IntKind.wrap .i64 (depthV (nth (row BA (0 : Int)) 0).int (nth (row BA (0 : Int)) 6).list (nth (row BA (0 : Int)) 7).list + 1) else 0)
  else 1
termination_by max (rowsDep ME) (rowsDep BA)
decreasing_by
  · exact dep_max x.2 8 9
  · exact dep_base h 6 7
noncomputable def depthC (k : Int) (ME BA : LL) : Bool :=
  bif k == 4 then ME.attach.all (fun x => depthC (nth x.1 2).int (nth x.1 8).list (nth x.1 9).list)
  else bif k == 5 then (if h : 0 < BA.length then depthC (nth (row BA (0 : Int)) 0).int (nth (row BA (0 : Int)) 6).list (nth (row BA (0 : Int)) 7).list else false)
  else true
termination_by max (rowsDep ME) (rowsDep BA)
decreasing_by
  · exact dep_max x.2 8 9
  · exact dep_base h 6 7
def letterB (c : Int) : Bool := (decide (c ≥ 65) && decide (c ≤ 90)) || (decide (c ≥ 97) && decide (c ≤ 122))
def nameB (i c : Int) : Bool := letterB c || (!(i == 0) && ((decide (c ≥ 48) && decide (c ≤ 57)) || c == 95))
def nameOk (s : BS) : Bool := decide ((s.length : Int) ≥ 1) && decide ((s.length : Int) ≤ 12) && allI (fun i : Nat => nameB (i : Int) ((s.getD ((i : Int)).toNat 0).toNat : Int)) s.length
theorem dlt {a b : Int} : decide (a < b) = !decide (a ≥ b) := by rw [← decide_not]; simp
theorem dgt {a b : Int} : decide (a > b) = !decide (a ≤ b) := by rw [← decide_not]; simp
def strAt (A : LL) (i : Int) : BS := (nth (row A i) 0).str
def intAt (A : LL) (i : Int) : Int := (nth (row A i) 0).int
def noDupN (A : LL) (i : Int) : Bool := allI (fun j : Nat => !(strAt A (j : Int) == strAt A i)) i.toNat
def inB (n lo hi : Int) : Bool := bif decide (n ≥ lo) then decide (n ≤ hi) else false
def ascB (A : LL) (i : Int) : Bool := bif decide (i > 0) then !(decide (intAt A (IntKind.wrap .i64 (i - (1 : Int))) ≥ intAt A i)) else true
def enumP (NA NU : LL) (lo hi i : Int) : Bool := nameOk (strAt NA i) && inB (intAt NU i) lo hi && ascB NU i && noDupN NA i
noncomputable def loV (s : Int) (sg : Bool) : Int := bif !sg then 0 else bif s == 1 then -128 else bif s == 2 then -32768 else bif s == 4 then -2147483648 else -9223372036854775808
noncomputable def hiV (s : Int) (sg : Bool) : Int := bif !sg then (bif s == 1 then 255 else bif s == 2 then 65535 else 4294967295) else bif s == 1 then 127 else bif s == 2 then 32767 else bif s == 4 then 2147483647 else 9223372036854775807
def plain (sg bg : Bool) : Bool := !sg && !bg
noncomputable def enumV (s : Int) (sg bg : Bool) (NA NU ME BA : LL) (ct : Int) : Bool :=
  (s == 0) && (plain sg bg && (!decide ((ME.length : Int) > 0) && ((ct == 0) && (((BA.length : Int) == 1) && (((nth (row BA (0 : Int)) 0).int == 1) && (intV (nth (row BA (0 : Int)) 1).int (nth (row BA (0 : Int)) 2).bool (nth (row BA (0 : Int)) 3).bool (nth (row BA (0 : Int)) 4).list (nth (row BA (0 : Int)) 5).list (nth (row BA (0 : Int)) 6).list (nth (row BA (0 : Int)) 7).list (nth (row BA (0 : Int)) 8).int && (!decide ((NA.length : Int) < 1) && (!decide ((NA.length : Int) > 6) && (((NU.length : Int) == (NA.length : Int)) &&
    allI (fun i : Nat => enumP NA NU (loV (nth (row BA (0 : Int)) 1).int (nth (row BA (0 : Int)) 2).bool) (hiV (nth (row BA (0 : Int)) 1).int (nth (row BA (0 : Int)) 2).bool) (i : Int)) NA.length)))))))))
noncomputable def endAt (ME : LL) : Nat → Int
  | 0 => 0
  | i + 1 => IntKind.wrap .i64 ((nth (row ME (i : Int)) 1).int + sizeV (nth (row ME (i : Int)) 2).int (nth (row ME (i : Int)) 3).int (nth (row ME (i : Int)) 9).list (nth (row ME (i : Int)) 10).int)
noncomputable def memP (ME : LL) (i : Nat) : Bool := nameOk (strAt ME (i : Int)) && (!decide ((nth (row ME (i : Int)) 1).int < endAt ME i) && (!decide ((nth (row ME (i : Int)) 1).int > 24) && noDupN ME (i : Int)))
def compS (s : Int) (sg bg : Bool) (NA NU ME BA : LL) (ct : Int) : Bool :=
  inB s 1 24 && (plain sg bg && (!decide ((NA.length : Int) > 0) && (!decide ((NU.length : Int) > 0) && (!decide ((BA.length : Int) > 0) && ((ct == 0) && (!decide ((ME.length : Int) < 1) && !decide ((ME.length : Int) > 4)))))))
def arrS (s : Int) (sg bg : Bool) (NA NU ME BA : LL) (ct : Int) : Bool :=
  (s == 0) && (plain sg bg && (!decide ((NA.length : Int) > 0) && (!decide ((NU.length : Int) > 0) && (!decide ((ME.length : Int) > 0) && (((BA.length : Int) == 1) && inB ct 1 4)))))
def bareV (sg bg : Bool) (NA NU ME BA : LL) (ct : Int) : Bool := plain sg bg && empt NA NU ME BA ct
noncomputable def okV (k s : Int) (sg bg : Bool) (NA NU ME BA : LL) (ct : Int) : Bool :=
  (bif k == 1 then intV s sg bg NA NU ME BA ct
   else bif k == 2 then inB s 1 16 && bareV sg bg NA NU ME BA ct
   else bif k == 3 then enumV s sg bg NA NU ME BA ct
   else bif k == 4 then compS s sg bg NA NU ME BA ct && ((allI (memP ME) ME.length && ME.attach.all (fun x => okV (nth x.1 2).int (nth x.1 3).int (nth x.1 4).bool (nth x.1 5).bool (nth x.1 6).list (nth x.1 7).list (nth x.1 8).list (nth x.1 9).list (nth x.1 10).int)) && decide (endAt ME ME.length ≤ s))
   else bif k == 5 then arrS s sg bg NA NU ME BA ct && (if h : 0 < BA.length then okV (nth (row BA (0 : Int)) 0).int (nth (row BA (0 : Int)) 1).int (nth (row BA (0 : Int)) 2).bool (nth (row BA (0 : Int)) 3).bool (nth (row BA (0 : Int)) 4).list (nth (row BA (0 : Int)) 5).list (nth (row BA (0 : Int)) 6).list (nth (row BA (0 : Int)) 7).list (nth (row BA (0 : Int)) 8).int else false)
   else bif k == 6 then (s == 2) && bareV sg bg NA NU ME BA ct
   else false) && (decide (sizeV k s BA ct ≤ 24) && decide (depthV k ME BA ≤ 3))
termination_by max (rowsDep ME) (rowsDep BA)
decreasing_by
  · exact dep_max x.2 8 9
  · exact dep_base h 6 7
theorem attach_okV {ME : LL} : (ME.attach.all fun x => okV (nth x.1 2).int (nth x.1 3).int (nth x.1 4).bool (nth x.1 5).bool (nth x.1 6).list (nth x.1 7).list (nth x.1 8).list (nth x.1 9).list (nth x.1 10).int) = ME.all fun x => okV (nth x 2).int (nth x 3).int (nth x 4).bool (nth x 5).bool (nth x 6).list (nth x 7).list (nth x 8).list (nth x 9).list (nth x 10).int := attach_all (p := fun x => okV (nth x 2).int (nth x 3).int (nth x 4).bool (nth x 5).bool (nth x 6).list (nth x 7).list (nth x 8).list (nth x 9).list (nth x 10).int)
theorem okV_size : ∀ {BA : LL} {k s : Int} {sg bg : Bool} {NA NU ME : LL} {ct : Int}, okV k s sg bg NA NU ME BA ct = true → sizeC k BA = true := by
  intro BA
  induction h : rowsDep BA using Nat.strongRecOn generalizing BA with
  | _ n ih =>
    intro k s sg bg NA NU ME ct hk
    rw [okV, Bool.and_eq_true] at hk
    rw [sizeC]
    have hk := hk.1
    cases h3 : (k == 3) with
    | true =>
      have : k = 3 := by simpa using h3
      subst this
      have hk : enumV s sg bg NA NU ME BA ct = true := hk
      simp only [enumV, Bool.and_eq_true] at hk
      have h1 : (BA.length : Int) = 1 := by simpa using hk.2.2.2.2.1
      show decide (0 < BA.length) = true
      exact decide_eq_true (by omega)
    | false =>
      cases h5 : (k == 5) with
      | true =>
        have : k = 5 := by simpa using h5
        subst this
        have hk : (arrS s sg bg NA NU ME BA ct && (if h : 0 < BA.length then okV (nth (row BA (0 : Int)) 0).int (nth (row BA (0 : Int)) 1).int (nth (row BA (0 : Int)) 2).bool (nth (row BA (0 : Int)) 3).bool (nth (row BA (0 : Int)) 4).list (nth (row BA (0 : Int)) 5).list (nth (row BA (0 : Int)) 6).list (nth (row BA (0 : Int)) 7).list (nth (row BA (0 : Int)) 8).int else false)) = true := hk
        rw [Bool.and_eq_true] at hk
        have hk := hk.2
        split at hk
        · rename_i hb
          simp only [cond_true, cond_false, dif_pos hb]
          exact ih _ (by rw [← h]; exact pos_row hb 7) rfl hk
        · cases hk
      | false => rfl
theorem okV_depth : ∀ {ME BA : LL} {k s : Int} {sg bg : Bool} {NA NU : LL} {ct : Int}, okV k s sg bg NA NU ME BA ct = true → depthC k ME BA = true := by
  intro ME BA
  induction h : max (rowsDep ME) (rowsDep BA) using Nat.strongRecOn generalizing ME BA with
  | _ n ih =>
    intro k s sg bg NA NU ct hk
    rw [okV, Bool.and_eq_true] at hk
    rw [depthC]
    have hk := hk.1
    cases h4 : (k == 4) with
    | true =>
      have : k = 4 := by simpa using h4
      subst this
      have hk : (compS s sg bg NA NU ME BA ct && ((allI (memP ME) ME.length && ME.attach.all (fun x => okV (nth x.1 2).int (nth x.1 3).int (nth x.1 4).bool (nth x.1 5).bool (nth x.1 6).list (nth x.1 7).list (nth x.1 8).list (nth x.1 9).list (nth x.1 10).int)) && decide (endAt ME ME.length ≤ s))) = true := hk
      simp only [Bool.and_eq_true] at hk
      have hk := hk.2.1.2
      rw [List.all_eq_true] at hk
      simp only [cond_true, List.all_eq_true]
      exact fun x hx => ih _ (by rw [← h]; exact dep_max x.2 8 9) rfl (hk x hx)
    | false =>
      cases h5 : (k == 5) with
      | true =>
        have : k = 5 := by simpa using h5
        subst this
        have hk : (arrS s sg bg NA NU ME BA ct && (if h : 0 < BA.length then okV (nth (row BA (0 : Int)) 0).int (nth (row BA (0 : Int)) 1).int (nth (row BA (0 : Int)) 2).bool (nth (row BA (0 : Int)) 3).bool (nth (row BA (0 : Int)) 4).list (nth (row BA (0 : Int)) 5).list (nth (row BA (0 : Int)) 6).list (nth (row BA (0 : Int)) 7).list (nth (row BA (0 : Int)) 8).int else false)) = true := hk
        rw [Bool.and_eq_true] at hk
        have hk := hk.2
        split at hk
        · rename_i hb
          simp only [cond_true, cond_false, dif_pos hb]
          exact ih _ (by rw [← h]; exact dep_base hb 6 7) rfl hk
        · cases hk
      | false => rfl
theorem byte1 (n : Int) : [[TC.i (IntKind.wrap .u8 n)]].map byteOf = bytesL n 1 := by
  show _ = [byteOf (bAt n 0)]
  unfold bAt
  rw [show Int.fdiv n (2 ^ (8 * 0)) = n from by simp]
  rfl
noncomputable def sameV (k s : Int) (sg bg : Bool) (NA NU ME BA : LL) (ct : Int) (k2 s2 : Int) (sg2 bg2 : Bool) (NA2 NU2 ME2 BA2 : LL) (ct2 : Int) : Bool :=
  (k == k2) && ((s == s2) && ((sg == sg2) && ((bg == bg2) && ((ct == ct2) && (eqL NA NA2 && (eqL NU NU2 && (eqL ME ME2 && eqL BA BA2)))))))
def isizeV (k s : Int) (BA : LL) (ct : Int) : Int :=
  bif k == 3 then (if h : 0 < BA.length then isizeV (nth (row BA (0 : Int)) 0).int (nth (row BA (0 : Int)) 1).int (nth (row BA (0 : Int)) 7).list (nth (row BA (0 : Int)) 8).int else 0)
  else bif k == 5 then (if h : 0 < BA.length then IntKind.wrap .i64 (ct * isizeV (nth (row BA (0 : Int)) 0).int (nth (row BA (0 : Int)) 1).int (nth (row BA (0 : Int)) 7).list (nth (row BA (0 : Int)) 8).int) else 0)
  else s
termination_by rowsDep BA
decreasing_by
  · exact pos_row h 7
  · exact pos_row h 7
def isizeC (k : Int) (BA : LL) : Bool :=
  bif k == 3 || k == 5 then (if h : 0 < BA.length then isizeC (nth (row BA (0 : Int)) 0).int (nth (row BA (0 : Int)) 7).list else false) else true
termination_by rowsDep BA
decreasing_by exact pos_row h 7
noncomputable def validV (k s : Int) (sg bg : Bool) (NA NU ME BA : LL) (ct d : Int) : Bool := okV k s sg bg NA NU ME BA ct && decide (depthV k ME BA ≤ d)
theorem eqL_nil {A : LL} : eqL A [] = ((A.length : Int) == 0) := by
  rw [Bool.eq_iff_iff, eqL_iff, beq_iff_eq]
  cases A <;> simp
  omega
def slotNameOk (x : List TC) : Bool := (nth x 0).str == [] || nameOk (nth x 0).str
def lastEmpty (A : LL) : Bool := (nth (row A (IntKind.wrap .i64 ((A.length : Int) - (1 : Int)))) 0).str == []
def heapOk (A : LL) : Bool := decide ((A.length : Int) ≤ 30) && (((A.length : Int) == 0) || !(lastEmpty A)) && A.all slotNameOk
theorem lenPos (A : LL) : decide ((A.length : Int) > 0) = !((A.length : Int) == 0) := by
  rw [Bool.eq_iff_iff]
  simp only [decide_eq_true_eq, Bool.not_eq_true', beq_eq_false_iff_ne]
  omega
def slotIdx (A : LL) (s : BS) : Int := bif A.all (fun x => !((nth x 0).str == s)) then -1 else Int.ofNat (A.findIdx fun x => !(!((nth x 0).str == s)))
def dnP (A : LL) (i : Int) : Bool := nameOk (strAt A i) && noDupN A i
theorem slotIdx_in {A : LL} {s : BS} : decide (slotIdx A s ≥ 0) = !(A.all fun x => !((nth x 0).str == s)) := by
  unfold slotIdx
  cases A.all fun x => !((nth x 0).str == s) <;> simp
noncomputable def endI (ME : LL) : Nat → Int
  | 0 => 0
  | i + 1 => IntKind.wrap .i64 ((nth (row ME (i : Int)) 1).int + isizeV (nth (row ME (i : Int)) 2).int (nth (row ME (i : Int)) 3).int (nth (row ME (i : Int)) 9).list (nth (row ME (i : Int)) 10).int)
def nmAt (ME : LL) : Nat → LL
  | 0 => []
  | i + 1 => nmAt ME i ++ [[TC.s (nth (row ME (i : Int)) 0).str]]
theorem nmAt_eq {ME : LL} : ∀ {j : Nat}, j ≤ ME.length → nmAt ME j = (ME.take j).map fun x => [TC.s (nth x 0).str]
  | 0, _ => rfl
  | j + 1, h => by
    have hn : j < ME.length := by omega
    rw [nmAt, nmAt_eq (Nat.le_of_lt hn), List.take_add_one, List.getElem?_eq_getElem hn, List.map_append, row_nat, getD_at hn]
    rfl
theorem nmAt_all {ME : LL} : nmAt ME ME.length = ME.map fun x => [TC.s (nth x 0).str] := by rw [nmAt_eq (Nat.le_refl _), List.take_length]
theorem nmAt_len {ME : LL} : (nmAt ME ME.length).length = ME.length := by rw [nmAt_all, List.length_map]
theorem nm_str {ME : LL} {i : Nat} (h : i < ME.length) : strAt (nmAt ME ME.length) (i : Int) = strAt ME (i : Int) := by
  unfold strAt
  rw [nmAt_all, row_nat, row_nat, getD_at (by rw [List.length_map]; exact h), getD_at h, List.getElem_map]
  rfl
theorem nm_dup {ME : LL} {i : Nat} (h : i < ME.length) : noDupN (nmAt ME ME.length) (i : Int) = noDupN ME (i : Int) := by
  unfold noDupN
  rw [Int.toNat_natCast]
  refine allI_congr fun j hj => ?_
  rw [nm_str h, nm_str (by omega)]
noncomputable def memI (ME : LL) (i : Nat) : Bool := !decide ((nth (row ME (i : Int)) 1).int < endI ME i) && !decide ((nth (row ME (i : Int)) 1).int > 24)
theorem maxI_le {a b c : Int} : maxI a b ≤ c ↔ a ≤ c ∧ b ≤ c := by
  unfold maxI
  cases h : decide (a > b) with
  | true => have := of_decide_eq_true h; simp only [cond_true]; omega
  | false => have := of_decide_eq_false h; simp only [cond_false]; omega
theorem fold_max {f : List TC → Int} {c : Int} : ∀ {l : LL} {b : Int}, l.foldl (fun d x => maxI d (f x)) b ≤ c ↔ b ≤ c ∧ ∀ x, x ∈ l → f x ≤ c
  | [], b => by simp
  | x :: l, b => by
    rw [List.foldl_cons, fold_max, maxI_le]
    simp only [List.mem_cons, forall_eq_or_imp, and_assoc]
theorem fold_ge {f : List TC → Int} : ∀ {l : LL} {b : Int}, b ≤ l.foldl (fun d x => maxI d (f x)) b
  | [], b => Int.le_refl _
  | x :: l, b => by
    rw [List.foldl_cons]
    exact Int.le_trans (maxI_le.1 (Int.le_refl _)).1 fold_ge
theorem okV_top {k s : Int} {sg bg : Bool} {NA NU ME BA : LL} {ct : Int} (h : okV k s sg bg NA NU ME BA ct = true) : sizeV k s BA ct ≤ 24 ∧ depthV k ME BA ≤ 3 := by
  rw [okV, Bool.and_eq_true, Bool.and_eq_true] at h
  exact ⟨of_decide_eq_true h.2.1, of_decide_eq_true h.2.2⟩
theorem okV_4 {s : Int} {sg bg : Bool} {NA NU ME BA : LL} {ct : Int} : okV 4 s sg bg NA NU ME BA ct = ((compS s sg bg NA NU ME BA ct && ((allI (memP ME) ME.length && ME.all (fun x => okV (nth x 2).int (nth x 3).int (nth x 4).bool (nth x 5).bool (nth x 6).list (nth x 7).list (nth x 8).list (nth x 9).list (nth x 10).int)) && decide (endAt ME ME.length ≤ s))) && (decide (sizeV 4 s BA ct ≤ 24) && decide (depthV 4 ME BA ≤ 3))) := by
  rw [okV, attach_okV]; rfl
theorem okV_5 {s : Int} {sg bg : Bool} {NA NU ME BA : LL} {ct : Int} : okV 5 s sg bg NA NU ME BA ct = ((arrS s sg bg NA NU ME BA ct && (if h : 0 < BA.length then okV (nth (row BA (0 : Int)) 0).int (nth (row BA (0 : Int)) 1).int (nth (row BA (0 : Int)) 2).bool (nth (row BA (0 : Int)) 3).bool (nth (row BA (0 : Int)) 4).list (nth (row BA (0 : Int)) 5).list (nth (row BA (0 : Int)) 6).list (nth (row BA (0 : Int)) 7).list (nth (row BA (0 : Int)) 8).int else false)) && (decide (sizeV 5 s BA ct ≤ 24) && decide (depthV 5 ME BA ≤ 3))) := by
  rw [okV]; rfl
theorem okV_1 {s : Int} {sg bg : Bool} {NA NU ME BA : LL} {ct : Int} : okV 1 s sg bg NA NU ME BA ct = (intV s sg bg NA NU ME BA ct && (decide (sizeV 1 s BA ct ≤ 24) && decide (depthV 1 ME BA ≤ 3))) := by
  rw [okV]; rfl
theorem okV_2 {s : Int} {sg bg : Bool} {NA NU ME BA : LL} {ct : Int} : okV 2 s sg bg NA NU ME BA ct = ((inB s 1 16 && bareV sg bg NA NU ME BA ct) && (decide (sizeV 2 s BA ct ≤ 24) && decide (depthV 2 ME BA ≤ 3))) := by
  rw [okV]; rfl
theorem okV_3 {s : Int} {sg bg : Bool} {NA NU ME BA : LL} {ct : Int} : okV 3 s sg bg NA NU ME BA ct = (enumV s sg bg NA NU ME BA ct && (decide (sizeV 3 s BA ct ≤ 24) && decide (depthV 3 ME BA ≤ 3))) := by
  rw [okV]; rfl
theorem okV_6 {s : Int} {sg bg : Bool} {NA NU ME BA : LL} {ct : Int} : okV 6 s sg bg NA NU ME BA ct = (((s == 2) && bareV sg bg NA NU ME BA ct) && (decide (sizeV 6 s BA ct ≤ 24) && decide (depthV 6 ME BA ≤ 3))) := by
  rw [okV]; rfl
theorem okV_kind {k s : Int} {sg bg : Bool} {NA NU ME BA : LL} {ct : Int} (h : okV k s sg bg NA NU ME BA ct = true) : k = 1 ∨ k = 2 ∨ k = 3 ∨ k = 4 ∨ k = 5 ∨ k = 6 := by
  apply Classical.byContradiction
  intro hn
  simp only [not_or] at hn
  obtain ⟨k1, k2, k3, k4, k5, k6⟩ := hn
  have e1 : (k == 1) = false := by simpa using k1
  have e2 : (k == 2) = false := by simpa using k2
  have e3 : (k == 3) = false := by simpa using k3
  have e4 : (k == 4) = false := by simpa using k4
  have e5 : (k == 5) = false := by simpa using k5
  have e6 : (k == 6) = false := by simpa using k6
  rw [okV] at h
  simp only [e1, e2, e3, e4, e5, e6, cond_false, Bool.false_and] at h
  cases h
theorem depth4 {ME BA : LL} : depthV 4 ME BA = IntKind.wrap .i64 (ME.foldl (fun d x => maxI d (depthV (nth x 2).int (nth x 8).list (nth x 9).list)) 0 + 1) := by
  rw [depthV, attach_foldl (f := fun d x => maxI d (depthV (nth x 2).int (nth x 8).list (nth x 9).list))]; rfl
theorem depth5 {ME BA : LL} (h : 0 < BA.length) : depthV 5 ME BA = IntKind.wrap .i64 (depthV (nth (row BA (0 : Int)) 0).int (nth (row BA (0 : Int)) 6).list (nth (row BA (0 : Int)) 7).list + 1) := by
  rw [depthV]
  show (if h : 0 < BA.length then IntKind.wrap .i64 (depthV (nth (row BA (0 : Int)) 0).int (nth (row BA (0 : Int)) 6).list (nth (row BA (0 : Int)) 7).list + 1) else 0) = _
  rw [dif_pos h]
theorem depth_else {k : Int} {ME BA : LL} (h4 : k ≠ 4) (h5 : k ≠ 5) : depthV k ME BA = 1 := by
  have e4 : (k == 4) = false := by simpa using h4
  have e5 : (k == 5) = false := by simpa using h5
  rw [depthV]
  simp only [e4, e5, cond_false]
theorem fold4 {ME BA : LL} (h : ∀ x, x ∈ ME → depthV (nth x 2).int (nth x 8).list (nth x 9).list ≤ 3) : depthV 4 ME BA = ME.foldl (fun d x => maxI d (depthV (nth x 2).int (nth x 8).list (nth x 9).list)) 0 + 1 := by
  have h1 : ME.foldl (fun d x => maxI d (depthV (nth x 2).int (nth x 8).list (nth x 9).list)) 0 ≤ 3 := fold_max.2 ⟨by omega, h⟩
  have h2 := fold_ge (f := fun x => depthV (nth x 2).int (nth x 8).list (nth x 9).list) (l := ME) (b := 0)
  rw [depth4, wrap64 (by omega) (by omega)]
theorem okV_base {s : Int} {sg bg : Bool} {NA NU ME BA : LL} {ct : Int} (h : okV 5 s sg bg NA NU ME BA ct = true) : 0 < BA.length ∧ okV (nth (row BA (0 : Int)) 0).int (nth (row BA (0 : Int)) 1).int (nth (row BA (0 : Int)) 2).bool (nth (row BA (0 : Int)) 3).bool (nth (row BA (0 : Int)) 4).list (nth (row BA (0 : Int)) 5).list (nth (row BA (0 : Int)) 6).list (nth (row BA (0 : Int)) 7).list (nth (row BA (0 : Int)) 8).int = true := by
  rw [okV_5, Bool.and_eq_true, Bool.and_eq_true] at h
  have h := h.1.2
  split at h
  · rename_i hb; exact ⟨hb, h⟩
  · cases h
theorem okV_mem {s : Int} {sg bg : Bool} {NA NU ME BA : LL} {ct : Int} (h : okV 4 s sg bg NA NU ME BA ct = true) : ∀ x, x ∈ ME → okV (nth x 2).int (nth x 3).int (nth x 4).bool (nth x 5).bool (nth x 6).list (nth x 7).list (nth x 8).list (nth x 9).list (nth x 10).int = true := by
  rw [okV_4] at h
  simp only [Bool.and_eq_true, List.all_eq_true] at h
  exact h.1.2.1.2
theorem okV_pos : ∀ {BA : LL} {k s : Int} {sg bg : Bool} {NA NU ME : LL} {ct : Int}, okV k s sg bg NA NU ME BA ct = true → 1 ≤ depthV k ME BA := by
  intro BA
  induction h : rowsDep BA using Nat.strongRecOn generalizing BA with
  | _ n ih =>
    intro k s sg bg NA NU ME ct hk
    by_cases k4 : k = 4
    · subst k4
      rw [fold4 fun x hx => (okV_top (okV_mem hk x hx)).2]
      have := fold_ge (f := fun x => depthV (nth x 2).int (nth x 8).list (nth x 9).list) (l := ME) (b := 0)
      omega
    by_cases k5 : k = 5
    · subst k5
      obtain ⟨hb, ho⟩ := okV_base hk
      have h1 := ih _ (by rw [← h]; exact pos_row hb 7) rfl ho
      have h2 := (okV_top ho).2
      rw [depth5 hb, wrap64 (by omega) (by omega)]
      omega
    rw [depth_else k4 k5]
    omega
theorem okV_isize : ∀ {BA : LL} {k s : Int} {sg bg : Bool} {NA NU ME : LL} {ct : Int}, okV k s sg bg NA NU ME BA ct = true → isizeV k s BA ct = sizeV k s BA ct ∧ isizeC k BA = true := by
  intro BA
  induction h : rowsDep BA using Nat.strongRecOn generalizing BA with
  | _ n ih =>
    intro k s sg bg NA NU ME ct hk
    rw [isizeV, isizeC, sizeV]
    cases h3 : (k == 3) with
    | true =>
      have : k = 3 := by simpa using h3
      subst this
      rw [okV_3, Bool.and_eq_true] at hk
      have hk := hk.1
      simp only [enumV, Bool.and_eq_true, beq_iff_eq] at hk
      have hb : 0 < BA.length := by omega
      have h1 := hk.2.2.2.2.2.1
      simp only [Bool.true_or, cond_true, dif_pos hb]
      rw [h1, isizeV, isizeC]
      exact ⟨rfl, rfl⟩
    | false =>
      cases h5 : (k == 5) with
      | true =>
        have : k = 5 := by simpa using h5
        subst this
        obtain ⟨hb, ho⟩ := okV_base hk
        have h1 := ih _ (by rw [← h]; exact pos_row hb 7) rfl ho
        simp only [Bool.false_or, cond_true, cond_false, dif_pos hb]
        rw [h1.1, h1.2]
        exact ⟨rfl, rfl⟩
      | false => exact ⟨rfl, rfl⟩
theorem endI_eq {ME : LL} (h : ∀ x, x ∈ ME → okV (nth x 2).int (nth x 3).int (nth x 4).bool (nth x 5).bool (nth x 6).list (nth x 7).list (nth x 8).list (nth x 9).list (nth x 10).int = true) : ∀ {j : Nat}, j ≤ ME.length → endI ME j = endAt ME j
  | 0, _ => rfl
  | j + 1, hj => by
    rw [endI, endAt, (okV_isize (h (row ME (j : Int)) (by rw [row_nat]; exact mem_getD (by omega)))).1]
def numP (NU : LL) (lo hi i : Int) : Bool := inB (intAt NU i) lo hi && ascB NU i
theorem inB_iff {n lo hi : Int} : inB n lo hi = true ↔ lo ≤ n ∧ n ≤ hi := by
  unfold inB
  cases h : decide (n ≥ lo) with
  | true => have := of_decide_eq_true h; simp only [cond_true, decide_eq_true_eq]; omega
  | false => have := of_decide_eq_false h; simp only [cond_false]; constructor <;> intro h <;> first | (cases h; done) | omega
theorem size_else {k s : Int} {BA : LL} {ct : Int} (h3 : k ≠ 3) (h5 : k ≠ 5) : sizeV k s BA ct = s := by
  have e3 : (k == 3) = false := by simpa using h3
  have e5 : (k == 5) = false := by simpa using h5
  rw [sizeV]
  simp only [e3, e5, cond_false]
theorem size3 {s : Int} {BA : LL} {ct : Int} : sizeV 3 s BA ct = (nth (row BA (0 : Int)) 1).int := by rw [sizeV]; rfl
theorem has4_le {s : Int} (h : has4 s = true) : s ≤ 8 := by
  unfold has4 at h
  simp only [Bool.or_eq_true, beq_iff_eq] at h
  omega
theorem intV_le {s : Int} {sg bg : Bool} {NA NU ME BA : LL} {ct : Int} (h : intV s sg bg NA NU ME BA ct = true) : s ≤ 8 := by
  simp only [intV, Bool.and_eq_true] at h
  exact has4_le h.1.1.1
theorem valid_1 {s : Int} {sg bg : Bool} {NA NU ME BA : LL} {ct d : Int} (hd : 1 ≤ d) : validV 1 s sg bg NA NU ME BA ct d = intV s sg bg NA NU ME BA ct := by
  unfold validV
  rw [okV_1, depth_else (by decide) (by decide), size_else (by decide) (by decide), decide_eq_true hd]
  cases h : intV s sg bg NA NU ME BA ct with
  | false => rfl
  | true => have := intV_le h; rw [decide_eq_true (show s ≤ 24 by omega)]; rfl
theorem pure1 {s : Int} {sg bg : Bool} {NA NU ME BA : LL} {ct d : Int} (hd : 1 ≤ d) : (bif !(sameV 1 s sg bg NA NU ME BA ct 1 s sg bg [] [] [] [] 0) then false else (has4 s && (!((s == 8) && !sg) && !((s == 1) && bg)))) = validV 1 s sg bg NA NU ME BA ct d := by
  rw [valid_1 hd]
  unfold intV sameV empt
  simp only [eqL_nil, beq_self_eq_true, Bool.true_and, bif_nf]
  ac_rfl
theorem valid_2 {s : Int} {sg bg : Bool} {NA NU ME BA : LL} {ct d : Int} (hd : 1 ≤ d) : validV 2 s sg bg NA NU ME BA ct d = (inB s 1 16 && bareV sg bg NA NU ME BA ct) := by
  unfold validV
  rw [okV_2, depth_else (by decide) (by decide), size_else (by decide) (by decide), decide_eq_true hd]
  cases h : inB s 1 16 with
  | false => rfl
  | true => have := inB_iff.1 h; rw [decide_eq_true (show s ≤ 24 by omega)]; simp
theorem valid_6 {s : Int} {sg bg : Bool} {NA NU ME BA : LL} {ct d : Int} (hd : 1 ≤ d) : validV 6 s sg bg NA NU ME BA ct d = ((s == 2) && bareV sg bg NA NU ME BA ct) := by
  unfold validV
  rw [okV_6, depth_else (by decide) (by decide), size_else (by decide) (by decide), decide_eq_true hd]
  cases h : (s == 2) with
  | false => rfl
  | true => have := beq_iff_eq.1 h; rw [decide_eq_true (show s ≤ 24 by omega)]; simp
theorem pureB {k s : Int} {b sg bg : Bool} {NA NU ME BA : LL} {ct : Int} : (bif !(sameV k s sg bg NA NU ME BA ct k s false false [] [] [] [] 0) then false else b) = (b && bareV sg bg NA NU ME BA ct) := by
  unfold sameV bareV plain empt
  simp only [eqL_nil, beq_self_eq_true, Bool.true_and, bif_nf, beq_false]
  ac_rfl
theorem len0 {A : LL} : (!decide ((A.length : Int) > 0)) = ((A.length : Int) == 0) := by
  rw [Bool.eq_iff_iff]; simp
theorem pure3 {s : Int} {sg bg : Bool} {NA NU ME BA : LL} {ct d : Int} (hd : 1 ≤ d) : (bif !(sameV 3 s sg bg NA NU ME BA ct 3 0 false false NA NU [] BA 0) then false else (((BA.length : Int) == 1) && (((nth (row BA (0 : Int)) 0).int == 1) && (validV (nth (row BA (0 : Int)) 0).int (nth (row BA (0 : Int)) 1).int (nth (row BA (0 : Int)) 2).bool (nth (row BA (0 : Int)) 3).bool (nth (row BA (0 : Int)) 4).list (nth (row BA (0 : Int)) 5).list (nth (row BA (0 : Int)) 6).list (nth (row BA (0 : Int)) 7).list (nth (row BA (0 : Int)) 8).int 1 && (allI (fun i : Nat => numP NU (loV (nth (row BA (0 : Int)) 1).int (nth (row BA (0 : Int)) 2).bool) (hiV (nth (row BA (0 : Int)) 1).int (nth (row BA (0 : Int)) 2).bool) (i : Int)) NU.length && (inB (NU.length : Int) 1 6 && (((NA.length : Int) == (NU.length : Int)) && allI (fun i : Nat => dnP NA (i : Int)) NA.length))))))) = validV 3 s sg bg NA NU ME BA ct d := by
  show _ = (okV 3 s sg bg NA NU ME BA ct && decide (depthV 3 ME BA ≤ d))
  rw [okV_3, depth_else (k := 3) (by decide) (by decide), decide_eq_true hd, size3]
  unfold sameV enumV plain
  simp only [eqL_nil, eqL_refl, beq_self_eq_true, Bool.true_and, Bool.and_true, bif_nf, beq_false, len0]
  cases hk : ((nth (row BA (0 : Int)) 0).int == 1) with
  | false => simp only [Bool.false_and, Bool.and_false]
  | true =>
    rw [show validV (nth (row BA (0 : Int)) 0).int (nth (row BA (0 : Int)) 1).int (nth (row BA (0 : Int)) 2).bool (nth (row BA (0 : Int)) 3).bool (nth (row BA (0 : Int)) 4).list (nth (row BA (0 : Int)) 5).list (nth (row BA (0 : Int)) 6).list (nth (row BA (0 : Int)) 7).list (nth (row BA (0 : Int)) 8).int 1 = intV (nth (row BA (0 : Int)) 1).int (nth (row BA (0 : Int)) 2).bool (nth (row BA (0 : Int)) 3).bool (nth (row BA (0 : Int)) 4).list (nth (row BA (0 : Int)) 5).list (nth (row BA (0 : Int)) 6).list (nth (row BA (0 : Int)) 7).list (nth (row BA (0 : Int)) 8).int from by rw [beq_iff_eq.1 hk]; exact valid_1 (by omega)]
    cases hI : intV (nth (row BA (0 : Int)) 1).int (nth (row BA (0 : Int)) 2).bool (nth (row BA (0 : Int)) 3).bool (nth (row BA (0 : Int)) 4).list (nth (row BA (0 : Int)) 5).list (nth (row BA (0 : Int)) 6).list (nth (row BA (0 : Int)) 7).list (nth (row BA (0 : Int)) 8).int with
    | false => simp only [Bool.false_and, Bool.and_false]
    | true =>
      have hs := intV_le hI
      rw [decide_eq_true (show (nth (row BA (0 : Int)) 1).int ≤ 24 by omega)]
      rw [Bool.eq_iff_iff]
      simp only [Bool.true_and, Bool.and_true, Bool.and_eq_true, beq_iff_eq, inB_iff, allI_iff, Bool.not_eq_true', decide_eq_false_iff_not, show decide ((1 : Int) ≤ 3) = true from rfl]
      constructor
      · rintro ⟨⟨a1, a2, a3, a4, a5⟩, a6, a7, ⟨a8, a9⟩, a10, a11⟩
        refine ⟨a1, ⟨a2, a3⟩, a5, a4, a6, by omega, by omega, a10.symm, fun i hi => ?_⟩
        have n1 := a7 i (by omega)
        have n2 := a11 i hi
        simp only [numP, dnP, Bool.and_eq_true] at n1 n2
        simp only [enumP, Bool.and_eq_true]
        exact ⟨⟨⟨n2.1, n1.1⟩, n1.2⟩, n2.2⟩
      · rintro ⟨a1, ⟨a2, a3⟩, a5, a4, a6, a7, a8, a9, a10⟩
        refine ⟨⟨a1, a2, a3, a4, a5⟩, a6, fun i hi => ?_, ⟨by omega, by omega⟩, a9.symm, fun i hi => ?_⟩
        · have n := a10 i (by omega)
          simp only [enumP, Bool.and_eq_true] at n
          simp only [numP, Bool.and_eq_true]
          exact ⟨n.1.1.2, n.1.2⟩
        · have n := a10 i hi
          simp only [enumP, Bool.and_eq_true] at n
          simp only [dnP, Bool.and_eq_true]
          exact ⟨n.1.1.1, n.2⟩
theorem pure4 {s : Int} {sg bg : Bool} {NA NU ME BA : LL} {ct d : Int} (hd : 1 ≤ d) (hd3 : d ≤ 3) : (bif !(sameV 4 s sg bg NA NU ME BA ct 4 s false false [] [] ME [] 0) then false else (inB s 1 24 && (inB (ME.length : Int) 1 4 && ((allI (memI ME) ME.length && ME.all fun x => validV (nth x 2).int (nth x 3).int (nth x 4).bool (nth x 5).bool (nth x 6).list (nth x 7).list (nth x 8).list (nth x 9).list (nth x 10).int (d - 1)) && (decide (endI ME ME.length ≤ s) && allI (fun i : Nat => dnP ME (i : Int)) ME.length))))) = validV 4 s sg bg NA NU ME BA ct d := by
  unfold validV
  rw [okV_4, size_else (by decide) (by decide)]
  unfold sameV compS plain
  simp only [eqL_nil, eqL_refl, beq_self_eq_true, Bool.true_and, Bool.and_true, bif_nf, beq_false, len0]
  rw [Bool.eq_iff_iff]
  simp only [Bool.true_and, Bool.and_true, Bool.and_eq_true, beq_iff_eq, inB_iff, allI_iff, Bool.not_eq_true', decide_eq_false_iff_not, decide_eq_true_eq, List.all_eq_true]
  constructor
  · rintro ⟨⟨a1, a2, a3, a4, a5, a6⟩, ⟨a7, a8⟩, ⟨a9, a10⟩, ⟨a11, a12⟩, a13, a14⟩
    have hok : ∀ x, x ∈ ME → okV (nth x 2).int (nth x 3).int (nth x 4).bool (nth x 5).bool (nth x 6).list (nth x 7).list (nth x 8).list (nth x 9).list (nth x 10).int = true := fun x hx => (a12 x hx).1
    have hf : depthV 4 ME BA ≤ d := by
      rw [fold4 fun x hx => (okV_top (hok x hx)).2]
      have := (fold_max (f := fun x => depthV (nth x 2).int (nth x 8).list (nth x 9).list) (c := d - 1) (l := ME) (b := 0)).2 ⟨by omega, fun x hx => (a12 x hx).2⟩
      omega
    refine ⟨⟨⟨⟨⟨a7, a8⟩, ⟨a1, a2⟩, a4, a5, a6, a3, by omega, by omega⟩, ⟨fun i hi => ?_, hok⟩, by rw [← endI_eq hok (Nat.le_refl _)]; exact a13⟩, a8, by omega⟩, hf⟩
    have n1 := a11 i hi
    have n2 := a14 i hi
    simp only [memI, dnP, Bool.and_eq_true, endI_eq hok (Nat.le_of_lt hi)] at n1 n2
    simp only [memP, Bool.and_eq_true]
    exact ⟨n2.1, n1.1, n1.2, n2.2⟩
  · rintro ⟨⟨⟨⟨⟨a7, a8⟩, ⟨a1, a2⟩, a4, a5, a6, a3, a9, a10⟩, ⟨a11, hok⟩, a13⟩, a15, a16⟩, hf⟩
    have hd' : ∀ x, x ∈ ME → depthV (nth x 2).int (nth x 8).list (nth x 9).list ≤ d - 1 := by
      rw [fold4 fun x hx => (okV_top (hok x hx)).2] at hf
      exact ((fold_max (f := fun x => depthV (nth x 2).int (nth x 8).list (nth x 9).list) (c := d - 1) (l := ME) (b := 0)).1 (by omega)).2
    refine ⟨⟨a1, a2, a3, a4, a5, a6⟩, ⟨a7, a8⟩, ⟨by omega, by omega⟩, ⟨fun i hi => ?_, fun x hx => ⟨hok x hx, hd' x hx⟩⟩, by rw [endI_eq hok (Nat.le_refl _)]; exact a13, fun i hi => ?_⟩
    · have n := a11 i hi
      simp only [memP, Bool.and_eq_true] at n
      simp only [memI, Bool.and_eq_true, endI_eq hok (Nat.le_of_lt hi)]
      exact ⟨n.2.1, n.2.2.1⟩
    · have n := a11 i hi
      simp only [memP, Bool.and_eq_true] at n
      simp only [dnP, Bool.and_eq_true]
      exact ⟨n.1, n.2.2.2⟩
theorem pure5 {s : Int} {sg bg : Bool} {NA NU ME BA : LL} {ct d : Int} (hd : 1 ≤ d) (hd3 : d ≤ 3) : (bif !(sameV 5 s sg bg NA NU ME BA ct 5 0 false false [] [] [] BA ct) then false else (inB ct 1 4 && (((BA.length : Int) == 1) && (validV (nth (row BA (0 : Int)) 0).int (nth (row BA (0 : Int)) 1).int (nth (row BA (0 : Int)) 2).bool (nth (row BA (0 : Int)) 3).bool (nth (row BA (0 : Int)) 4).list (nth (row BA (0 : Int)) 5).list (nth (row BA (0 : Int)) 6).list (nth (row BA (0 : Int)) 7).list (nth (row BA (0 : Int)) 8).int (d - 1) && decide (isizeV 5 s BA ct ≤ 24))))) = validV 5 s sg bg NA NU ME BA ct d := by
  cases hb : ((BA.length : Int) == 1) with
  | false =>
    unfold validV
    rw [okV_5]
    unfold arrS
    rw [hb]
    simp only [Bool.false_and, Bool.and_false, bif_nf]
  | true =>
    have hb0 : 0 < BA.length := by have := beq_iff_eq.1 hb; omega
    cases ho : okV (nth (row BA (0 : Int)) 0).int (nth (row BA (0 : Int)) 1).int (nth (row BA (0 : Int)) 2).bool (nth (row BA (0 : Int)) 3).bool (nth (row BA (0 : Int)) 4).list (nth (row BA (0 : Int)) 5).list (nth (row BA (0 : Int)) 6).list (nth (row BA (0 : Int)) 7).list (nth (row BA (0 : Int)) 8).int with
    | false =>
      have e1 : validV (nth (row BA (0 : Int)) 0).int (nth (row BA (0 : Int)) 1).int (nth (row BA (0 : Int)) 2).bool (nth (row BA (0 : Int)) 3).bool (nth (row BA (0 : Int)) 4).list (nth (row BA (0 : Int)) 5).list (nth (row BA (0 : Int)) 6).list (nth (row BA (0 : Int)) 7).list (nth (row BA (0 : Int)) 8).int (d - 1) = false := by unfold validV; rw [ho]; rfl
      have e2 : validV 5 s sg bg NA NU ME BA ct d = false := by
        unfold validV
        rw [okV_5, dif_pos hb0, ho]
        simp only [Bool.and_false, Bool.false_and]
      rw [e1, e2]
      simp only [Bool.false_and, Bool.and_false, bif_nf]
    | true =>
      have hi := okV_isize ho
      have hsz : isizeV 5 s BA ct = sizeV 5 s BA ct := by
        rw [isizeV, sizeV]
        show (if h : 0 < BA.length then IntKind.wrap .i64 (ct * isizeV (nth (row BA (0 : Int)) 0).int (nth (row BA (0 : Int)) 1).int (nth (row BA (0 : Int)) 7).list (nth (row BA (0 : Int)) 8).int) else 0) = (if h : 0 < BA.length then IntKind.wrap .i64 (ct * sizeV (nth (row BA (0 : Int)) 0).int (nth (row BA (0 : Int)) 1).int (nth (row BA (0 : Int)) 7).list (nth (row BA (0 : Int)) 8).int) else 0)
        rw [dif_pos hb0, dif_pos hb0, hi.1]
      have ht := okV_top ho
      have hp := okV_pos ho
      unfold validV
      rw [okV_5, dif_pos hb0, ho, hsz, depth5 hb0, wrap64 (by omega) (by omega)]
      unfold sameV arrS plain
      simp only [eqL_nil, eqL_refl, beq_self_eq_true, Bool.true_and, Bool.and_true, bif_nf, beq_false, len0, hb]
      rw [show decide (depthV (nth (row BA (0 : Int)) 0).int (nth (row BA (0 : Int)) 6).list (nth (row BA (0 : Int)) 7).list + 1 ≤ d) = decide (depthV (nth (row BA (0 : Int)) 0).int (nth (row BA (0 : Int)) 6).list (nth (row BA (0 : Int)) 7).list ≤ d - 1) from by rw [Bool.eq_iff_iff]; simp only [decide_eq_true_eq]; omega]
      rw [Bool.eq_iff_iff]
      simp only [Bool.and_eq_true, decide_eq_true_eq]
      constructor
      · rintro ⟨⟨a1, a2, a3, a4, a5, a6⟩, a7, a8, a9⟩
        exact ⟨⟨⟨a1, ⟨a2, a3⟩, a4, a5, a6, a7⟩, a9, by omega⟩, a8⟩
      · rintro ⟨⟨⟨a1, ⟨a2, a3⟩, a4, a5, a6, a7⟩, a9, a10⟩, a8⟩
        exact ⟨⟨a1, a2, a3, a4, a5, a6⟩, a7, a8, a9⟩
def numK (k : Int) : Bool := bif k == 1 then true else bif k == 3 then true else k == 6
noncomputable def rangeT (k s : Int) (sg : Bool) (NU : LL) : Int × Int := bif k == 3 then (intAt NU 0, intAt NU (IntKind.wrap .i64 ((NU.length : Int) - (1 : Int)))) else bif k == 6 then (0, 65535) else (loV s sg, hiV s sg)
theorem okV_enum {s : Int} {sg bg : Bool} {NA NU ME BA : LL} {ct : Int} (h : okV 3 s sg bg NA NU ME BA ct = true) : 1 ≤ NU.length ∧ NU.length ≤ 6 ∧ NA.length = NU.length ∧ BA.length = 1 ∧ (nth (row BA (0 : Int)) 0).int = 1 ∧ intV (nth (row BA (0 : Int)) 1).int (nth (row BA (0 : Int)) 2).bool (nth (row BA (0 : Int)) 3).bool (nth (row BA (0 : Int)) 4).list (nth (row BA (0 : Int)) 5).list (nth (row BA (0 : Int)) 6).list (nth (row BA (0 : Int)) 7).list (nth (row BA (0 : Int)) 8).int = true ∧ ∀ i, i < NU.length → enumP NA NU (loV (nth (row BA (0 : Int)) 1).int (nth (row BA (0 : Int)) 2).bool) (hiV (nth (row BA (0 : Int)) 1).int (nth (row BA (0 : Int)) 2).bool) (i : Int) = true := by
  rw [okV_3] at h
  simp only [enumV, Bool.and_eq_true, beq_iff_eq, Bool.not_eq_true', decide_eq_false_iff_not, allI_iff] at h
  obtain ⟨⟨a1, a2, a3, a4, a5, a6, a7, a8, a9, a10, a11⟩, -⟩ := h
  exact ⟨by omega, by omega, by omega, by omega, a6, a7, fun i hi => a11 i (by omega)⟩
theorem okV_int {s : Int} {sg bg : Bool} {NA NU ME BA : LL} {ct : Int} (h : okV 1 s sg bg NA NU ME BA ct = true) : intV s sg bg NA NU ME BA ct = true := by
  rw [okV_1, Bool.and_eq_true] at h
  exact h.1
def putB (n : Int) (sz : Nat) (bg : Bool) : BS := bif bg then (bytesL n sz).reverse else bytesL n sz
theorem bytesL_succ {n : Int} {j : Nat} : bytesL n (j + 1) = bytesL n j ++ [byteOf (bAt n j)] := by
  unfold bytesL
  rw [← bRows_succ, List.map_append]; rfl
theorem putB_len {n : Int} {sz : Nat} {bg : Bool} : (putB n sz bg).length = sz := by
  unfold putB
  cases bg
  · exact bytesL_len
  · rw [show (bif true then (bytesL n sz).reverse else bytesL n sz) = (bytesL n sz).reverse from rfl, List.length_reverse, bytesL_len]
def nmB (x y : List TC) : BS := bytesL ((nth x 0).str.length : Int) 1 ++ (nth x 0).str ++ bytesL (nth y 0).int 8
def enumB (NA NU : LL) : Nat → BS
  | 0 => []
  | j + 1 => enumB NA NU j ++ nmB (row NA (j : Int)) (row NU (j : Int))
def memB (x : List TC) : BS := bytesL ((nth x 0).str.length : Int) 1 ++ (nth x 0).str ++ bytesL (nth x 1).int 1
def flg (sg bg : Bool) : Int := bif sg then (bif bg then 3 else 1) else bif bg then 2 else 0
noncomputable def encV (k s : Int) (sg bg : Bool) (NA NU ME BA : LL) (ct : Int) : BS :=
  bif k == 1 then bytesL k 1 ++ bytesL s 1 ++ bytesL (flg sg bg) 1
  else bif k == 2 then bytesL k 1 ++ bytesL s 1
  else bif k == 3 then (if h : 0 < BA.length then bytesL k 1 ++ (encV (nth (row BA (0 : Int)) 0).int (nth (row BA (0 : Int)) 1).int (nth (row BA (0 : Int)) 2).bool (nth (row BA (0 : Int)) 3).bool (nth (row BA (0 : Int)) 4).list (nth (row BA (0 : Int)) 5).list (nth (row BA (0 : Int)) 6).list (nth (row BA (0 : Int)) 7).list (nth (row BA (0 : Int)) 8).int ++ bytesL (NA.length : Int) 1) ++ enumB NA NU NA.length else [])
  else bif k == 4 then ME.attach.foldl (fun o x => o ++ (memB x.1 ++ encV (nth x.1 2).int (nth x.1 3).int (nth x.1 4).bool (nth x.1 5).bool (nth x.1 6).list (nth x.1 7).list (nth x.1 8).list (nth x.1 9).list (nth x.1 10).int)) (bytesL k 1 ++ (bytesL s 1 ++ bytesL (ME.length : Int) 1))
  else bif k == 5 then (if h : 0 < BA.length then bytesL k 1 ++ (bytesL ct 1 ++ encV (nth (row BA (0 : Int)) 0).int (nth (row BA (0 : Int)) 1).int (nth (row BA (0 : Int)) 2).bool (nth (row BA (0 : Int)) 3).bool (nth (row BA (0 : Int)) 4).list (nth (row BA (0 : Int)) 5).list (nth (row BA (0 : Int)) 6).list (nth (row BA (0 : Int)) 7).list (nth (row BA (0 : Int)) 8).int) else [])
  else bytesL k 1
termination_by max (rowsDep ME) (rowsDep BA)
decreasing_by
  · exact dep_base h 6 7
  · exact dep_max x.2 8 9
  · exact dep_base h 6 7
theorem encV_1 {s : Int} {sg bg : Bool} {NA NU ME BA : LL} {ct : Int} : encV 1 s sg bg NA NU ME BA ct = bytesL 1 1 ++ bytesL s 1 ++ bytesL (flg sg bg) 1 := by rw [encV]; rfl
theorem encV_2 {s : Int} {sg bg : Bool} {NA NU ME BA : LL} {ct : Int} : encV 2 s sg bg NA NU ME BA ct = bytesL 2 1 ++ bytesL s 1 := by rw [encV]; rfl
theorem encV_6 {s : Int} {sg bg : Bool} {NA NU ME BA : LL} {ct : Int} : encV 6 s sg bg NA NU ME BA ct = bytesL 6 1 := by rw [encV]; rfl
theorem encV_3 {s : Int} {sg bg : Bool} {NA NU ME BA : LL} {ct : Int} (h : 0 < BA.length) : encV 3 s sg bg NA NU ME BA ct = bytesL 3 1 ++ (encV (nth (row BA (0 : Int)) 0).int (nth (row BA (0 : Int)) 1).int (nth (row BA (0 : Int)) 2).bool (nth (row BA (0 : Int)) 3).bool (nth (row BA (0 : Int)) 4).list (nth (row BA (0 : Int)) 5).list (nth (row BA (0 : Int)) 6).list (nth (row BA (0 : Int)) 7).list (nth (row BA (0 : Int)) 8).int ++ bytesL (NA.length : Int) 1) ++ enumB NA NU NA.length := by
  rw [encV]
  show (if h : 0 < BA.length then _ else _) = _
  rw [dif_pos h]
theorem encV_4 {s : Int} {sg bg : Bool} {NA NU ME BA : LL} {ct : Int} : encV 4 s sg bg NA NU ME BA ct = ME.foldl (fun o x => o ++ (memB x ++ encV (nth x 2).int (nth x 3).int (nth x 4).bool (nth x 5).bool (nth x 6).list (nth x 7).list (nth x 8).list (nth x 9).list (nth x 10).int)) (bytesL 4 1 ++ (bytesL s 1 ++ bytesL (ME.length : Int) 1)) := by
  rw [encV, attach_foldl (f := fun o x => o ++ (memB x ++ encV (nth x 2).int (nth x 3).int (nth x 4).bool (nth x 5).bool (nth x 6).list (nth x 7).list (nth x 8).list (nth x 9).list (nth x 10).int))]; rfl
theorem encV_5 {s : Int} {sg bg : Bool} {NA NU ME BA : LL} {ct : Int} (h : 0 < BA.length) : encV 5 s sg bg NA NU ME BA ct = bytesL 5 1 ++ (bytesL ct 1 ++ encV (nth (row BA (0 : Int)) 0).int (nth (row BA (0 : Int)) 1).int (nth (row BA (0 : Int)) 2).bool (nth (row BA (0 : Int)) 3).bool (nth (row BA (0 : Int)) 4).list (nth (row BA (0 : Int)) 5).list (nth (row BA (0 : Int)) 6).list (nth (row BA (0 : Int)) 7).list (nth (row BA (0 : Int)) 8).int) := by
  rw [encV]
  show (if h : 0 < BA.length then _ else _) = _
  rw [dif_pos h]
theorem fold_len {f : List TC → BS} {c : Nat} : ∀ {l : LL} {o : BS}, (∀ x, x ∈ l → (f x).length ≤ c) → (l.foldl (fun o x => o ++ f x) o).length ≤ o.length + l.length * c
  | [], o, _ => by simp
  | x :: l, o, h => by
    rw [List.foldl_cons]
    have h1 := fold_len (l := l) (o := o ++ f x) fun y hy => h y (List.mem_cons_of_mem _ hy)
    have h2 := h x List.mem_cons_self
    rw [List.length_append] at h1
    rw [List.length_cons, Nat.succ_mul]
    omega
theorem name_len {s : BS} (h : nameOk s = true) : s.length ≤ 12 := by
  unfold nameOk at h
  simp only [Bool.and_eq_true, decide_eq_true_eq] at h
  omega
theorem enumB_len {NA NU : LL} (h : ∀ i, i < NA.length → (nth (row NA (i : Int)) 0).str.length ≤ 12) : ∀ j, j ≤ NA.length → (enumB NA NU j).length ≤ 21 * j
  | 0, _ => by simp [enumB]
  | j + 1, hj => by
    have ih := enumB_len (NU := NU) h j (by omega)
    have h1 := h j (by omega)
    unfold enumB nmB
    simp only [List.length_append, bytesL_len]
    omega
theorem okV_names {s : Int} {sg bg : Bool} {NA NU ME BA : LL} {ct : Int} (h : okV 3 s sg bg NA NU ME BA ct = true) : ∀ i, i < NA.length → (nth (row NA (i : Int)) 0).str.length ≤ 12 := by
  obtain ⟨-, -, e, -, -, -, e7⟩ := okV_enum h
  intro i hi
  have := e7 i (by omega)
  simp only [enumP, Bool.and_eq_true] at this
  exact name_len this.1.1.1
theorem okV_comp {s : Int} {sg bg : Bool} {NA NU ME BA : LL} {ct : Int} (h : okV 4 s sg bg NA NU ME BA ct = true) : ME.length ≤ 4 ∧ (∀ x, x ∈ ME → okV (nth x 2).int (nth x 3).int (nth x 4).bool (nth x 5).bool (nth x 6).list (nth x 7).list (nth x 8).list (nth x 9).list (nth x 10).int = true) ∧ (∀ x, x ∈ ME → (nth x 0).str.length ≤ 12) := by
  have hm := okV_mem h
  rw [okV_4] at h
  simp only [Bool.and_eq_true, compS, allI_iff, Bool.not_eq_true', decide_eq_false_iff_not] at h
  refine ⟨by omega, hm, fun x hx => ?_⟩
  obtain ⟨i, hi, rfl⟩ := List.getElem_of_mem hx
  have h1 := h.1.2.1.1 i hi
  simp only [memP, Bool.and_eq_true, strAt, row_nat, getD_at hi] at h1
  exact name_len h1.1
theorem encV_len (d : Nat) : ∀ {k s : Int} {sg bg : Bool} {NA NU ME BA : LL} {ct : Int}, okV k s sg bg NA NU ME BA ct = true → depthV k ME BA ≤ (d : Int) → (encV k s sg bg NA NU ME BA ct).length ≤ 200 * 5 ^ d := by
  induction d with
  | zero => intro k s sg bg NA NU ME BA ct h hd; have := okV_pos h; omega
  | succ d ih =>
    intro k s sg bg NA NU ME BA ct h hd
    have hp : 1 ≤ 5 ^ d := Nat.one_le_pow _ _ (by omega)
    rw [Nat.pow_succ]
    generalize hq : 5 ^ d = q at hp
    rcases okV_kind h with rfl | rfl | rfl | rfl | rfl | rfl
    · rw [encV_1]; simp only [List.length_append, bytesL_len]; omega
    · rw [encV_2]; simp only [List.length_append, bytesL_len]; omega
    · obtain ⟨e1, e2, e3, e4, e5, -⟩ := okV_enum h
      rw [encV_3 (by omega), e5, encV_1]
      have := enumB_len (NU := NU) (okV_names h) NA.length (Nat.le_refl _)
      simp only [List.length_append, bytesL_len]
      omega
    · obtain ⟨e1, e2, e3⟩ := okV_comp h
      rw [encV_4]
      have hf := fun x hx => (okV_top (e2 x hx)).2
      have hd' : ∀ x, x ∈ ME → depthV (nth x 2).int (nth x 8).list (nth x 9).list ≤ (d : Int) := by
        rw [fold4 hf] at hd
        exact ((fold_max (f := fun x => depthV (nth x 2).int (nth x 8).list (nth x 9).list) (c := (d : Int)) (l := ME) (b := 0)).1 (by omega)).2
      have := fold_len (f := fun x => memB x ++ encV (nth x 2).int (nth x 3).int (nth x 4).bool (nth x 5).bool (nth x 6).list (nth x 7).list (nth x 8).list (nth x 9).list (nth x 10).int) (c := 14 + 200 * q) (l := ME) (o := bytesL 4 1 ++ (bytesL s 1 ++ bytesL (ME.length : Int) 1)) (fun x hx => by
        have h1 := ih (e2 x hx) (hd' x hx)
        have h2 := e3 x hx
        rw [hq] at h1
        unfold memB
        simp only [List.length_append, bytesL_len]
        omega)
      simp only [List.length_append, bytesL_len] at this ⊢
      have h4 : ME.length * (14 + 200 * q) ≤ 4 * (14 + 200 * q) := Nat.mul_le_mul_right _ e1
      omega
    · obtain ⟨hb, ho⟩ := okV_base h
      rw [depth5 hb, wrap64 (by have := okV_pos ho; omega) (by have := (okV_top ho).2; omega)] at hd
      have h1 := ih ho (by omega)
      rw [hq] at h1
      rw [encV_5 hb]
      simp only [List.length_append, bytesL_len]
      omega
    · rw [encV_6]; simp only [bytesL_len]; omega
theorem encV_big {k s : Int} {sg bg : Bool} {NA NU ME BA : LL} {ct : Int} (h : okV k s sg bg NA NU ME BA ct = true) : (encV k s sg bg NA NU ME BA ct).length ≤ 25000 := encV_len 3 h (okV_top h).2
theorem okV_ebase {s : Int} {sg bg : Bool} {NA NU ME BA : LL} {ct : Int} (h : okV 3 s sg bg NA NU ME BA ct = true) : 0 < BA.length ∧ okV (nth (row BA (0 : Int)) 0).int (nth (row BA (0 : Int)) 1).int (nth (row BA (0 : Int)) 2).bool (nth (row BA (0 : Int)) 3).bool (nth (row BA (0 : Int)) 4).list (nth (row BA (0 : Int)) 5).list (nth (row BA (0 : Int)) 6).list (nth (row BA (0 : Int)) 7).list (nth (row BA (0 : Int)) 8).int = true ∧ (encV (nth (row BA (0 : Int)) 0).int (nth (row BA (0 : Int)) 1).int (nth (row BA (0 : Int)) 2).bool (nth (row BA (0 : Int)) 3).bool (nth (row BA (0 : Int)) 4).list (nth (row BA (0 : Int)) 5).list (nth (row BA (0 : Int)) 6).list (nth (row BA (0 : Int)) 7).list (nth (row BA (0 : Int)) 8).int).length = 3 := by
  obtain ⟨e1, e2, e3, e4, e5, e6, -⟩ := okV_enum h
  refine ⟨by omega, ?_, by rw [e5, encV_1]; simp [bytesL_len]⟩
  rw [e5, okV_1, e6, size_else (by decide) (by decide), depth_else (by decide) (by decide), decide_eq_true (by have := intV_le e6; omega)]
  rfl
theorem len_9 {α : Type} {l : List α} (h : l.length = 9) : ∃ a0 a1 a2 a3 a4 a5 a6 a7 a8, l = [a0, a1, a2, a3, a4, a5, a6, a7, a8] := by
  match l, h with
  | [a0, a1, a2, a3, a4, a5, a6, a7, a8], _ => exact ⟨a0, a1, a2, a3, a4, a5, a6, a7, a8, rfl⟩
abbrev ql_5_σ := LL × Int × Int
abbrev ql_5_ω := (Int) ⊕ (Int)
noncomputable def ql_5_step (A : LL) (left i : Int) : Tr (ql_5_σ ⊕ ql_5_ω) := (.ite ((decide (i < (A.length : Int))) = true) (.ite ((0 : Int) ≤ i ∧ i < (A.length : Int)) (.ite ((decide ((IntKind.wrap .i64 (left - (((nth (row A i) 0).str).length : Int))) < (0 : Int))) = true) (.ok (.inr (.inl (IntKind.wrap .i64 (left - (((nth (row A i) 0).str).length : Int))))))
    (.ok (.inl (A, (IntKind.wrap .i64 (left - (((nth (row A i) 0).str).length : Int))), (IntKind.wrap .i64 (i + (1 : Int)))))))
   .no)
  (.ok (.inr (.inr left))))
noncomputable def ql_5_st : ql_5_σ → Tr (ql_5_σ ⊕ ql_5_ω) := fun x => (ql_5_step (x.1) (x.2.1) (x.2.2))
noncomputable def ql_k5_1 (A : LL) (left i : Int) : Bool := isL (loopN ql_5_st (A.length + 1) (A, left, i))
noncomputable def ql_o5_2 (A : LL) (left i : Int) : Bool := is (i = 0 ∧ Typed tab (.slice 9) (.l A))
noncomputable def ql_u5_2 (A : LL) (left i : Int) : Int := getL (loopN ql_5_st (A.length + 1) (A, left, i))
noncomputable def ql_o5_3 (A : LL) (left i : Int) : Bool := is (i = 0 ∧ Typed tab (.slice 9) (.l A))
noncomputable def ql_u5_3 (A : LL) (left i : Int) : Int := getR (loopN ql_5_st (A.length + 1) (A, left, i))
noncomputable def ql_5_fin (A : LL) (left i : Int) : Told ql_5_ω := (.br (ql_k5_1 A left i) (.leaf (ql_o5_2 A left i) (.inl (ql_u5_2 A left i))) (.leaf (ql_o5_3 A left i) (.inr (ql_u5_3 A left i))))
def ql_5_sl (x : ql_5_σ) : List Slot := [⟨.val false [⟨.slice 9, .sh, TC.l (x.1)⟩], ⟨0, 0⟩⟩, ⟨.val false [⟨.int .i64, .sh, TC.i (x.2.1)⟩], ⟨0, 0⟩⟩, ⟨.val false [⟨.int .i64, .sh, TC.i (x.2.2)⟩], ⟨0, 0⟩⟩]
def ql_5_out : ql_5_ω → Ex × List Slot := (Sum.elim (fun x => (.ret, [⟨.val false [⟨.int .i64, .sh, TC.i x⟩], ⟨0, 0⟩⟩, ⟨.val false [⟨.int .i64, .sh, TC.i (-1 : Int)⟩], ⟨0, 0⟩⟩])) (fun x => (.exit 0, [⟨.val false [⟨.int .i64, .sh, TC.i x⟩], ⟨0, 0⟩⟩, Slot.none])))
noncomputable def ql_lo5 : List Slot → Option (Told (Ex × List Slot)) := fun s => match s with
  | [⟨.val false [⟨.slice 9, .sh, TC.l A⟩], ⟨0, 0⟩⟩, ⟨.val false [⟨.int .i64, .sh, TC.i left⟩], ⟨0, 0⟩⟩, ⟨.val false [⟨.int .i64, .sh, TC.i i⟩], ⟨0, 0⟩⟩] => some (((ql_5_fin A left i)).map ql_5_out)
  | _ => .none
noncomputable def ql_lo : LoopTeller := fun r s => bif Nat.beq r 5 then ql_lo5 s else .none
theorem ql_5_r (A : LL) (left i : Int) (fuel : Nat) : rounds (rnd tab FT D0 live 26 ql_lo 0 5) leave (fuel + 1) (ql_5_sl (A, left, i)) = ((ql_5_step A left i)).run (goOn (fun s => rounds (rnd tab FT D0 live 26 ql_lo 0 5) leave fuel (ql_5_sl s)) fun w => some (ql_5_out w)) := by kernel_rfl
theorem ql_5_h (A : LL) (left i : Int) (ow : ql_5_ω) : ((ql_5_fin A left i)).val = some ow → ∃ fuel, loopN ql_5_st fuel (A, left, i) = some ow := by
  refine auto_two (N := A.length + 1) rfl rfl rfl ?_
  intro ho
  have ho : is (i = 0 ∧ Typed tab (.slice 9) (.l A)) = true := ho.elim id id
  obtain ⟨rfl, ht⟩ := is_iff.1 ho
  have hlen : A.length ≤ 140737488351232 := by have := typed_room ht; simp only [show (tab 9).bytes = 16 from rfl] at this; omega
  refine loopN_ends (step := ql_5_st) (N := A.length) (fun i a => (A, a, (i : Int))) (fun i a hi => ?_) (fun a => ?_) A.length 0 left (by omega)
  · show (∃ a', (ql_5_step A a (i : Int)).val = _) ∨ ∃ w, (ql_5_step A a (i : Int)).val = _
    have c0 : Typed tab (.str) (.s (nth (A.getD i []) 0).str) := typed_s (typed_cell ht (A.getD i []) (mem_getD hi) 0 (by decide))
    cases hneg : ((decide ((IntKind.wrap .i64 (a - (((nth (row A i) 0).str).length : Int))) < (0 : Int))))
    · apply Or.inl
      apply Exists.intro
      · unfold ql_5_step
        refine Tr.t (by simp; omega) ?_
        refine Tr.t (by first | omega | (constructor <;> omega)) ?_
        refine Tr.n (by rw [hneg]; simp) ?_
        rw [Tr.val_ok, wrap64 (i := (i : Int) + 1) (by omega) (by omega)]; rfl
    · apply Or.inr
      apply Exists.intro
      · unfold ql_5_step
        refine Tr.t (by simp; omega) ?_
        refine Tr.t (by first | omega | (constructor <;> omega)) ?_
        refine Tr.t hneg ?_
        rfl
  · apply Exists.intro
    · show (ql_5_step A a (A.length : Int)).val = _
      refine Tr.n (by simp) ?_
      rfl
theorem ql_is5 : LoopIs tab FT D0 live 26 ql_lo 0 5 := by
  refine loop_told (sl := ql_5_sl) (step := ql_5_st) (out := ql_5_out) (lor := ql_lo5) (fin := fun x => (ql_5_fin (x.1) (x.2.1) (x.2.2))) (fun _ => rfl) ?_ (fun x n => ql_5_r x.1 x.2.1 x.2.2 n) (fun x ow => ql_5_h x.1 x.2.1 x.2.2 ow)
  intro s t h
  unfold ql_lo5 at h
  split at h
  · cases h; exact ⟨(_, _, _), rfl, rfl⟩
  · cases h
noncomputable def ql_t (A : LL) (left : Int) : Tr (Int) := (.ite ((decide ((IntKind.wrap .i64 (left - (A.length : Int))) < (0 : Int))) = true) (.ok (-1 : Int))
  (.ite ((ql_k5_1 A (IntKind.wrap .i64 (left - (A.length : Int))) (0 : Int)) = true) (.ite ((ql_o5_2 A (IntKind.wrap .i64 (left - (A.length : Int))) (0 : Int)) = true) (.ok (-1 : Int))
    .no)
   (.ite ((ql_o5_3 A (IntKind.wrap .i64 (left - (A.length : Int))) (0 : Int)) = true) (.ok (ql_u5_3 A (IntKind.wrap .i64 (left - (A.length : Int))) (0 : Int)))
    .no)))
def ql_mk (p : Int) : Res := [(false, [⟨.int .i64, .sh, TC.i p⟩])]
noncomputable def ql_c (A : LL) (left : Int) : Bool := (bif (decide ((IntKind.wrap .i64 (left - (A.length : Int))) < (0 : Int))) then true else (bif (ql_k5_1 A (IntKind.wrap .i64 (left - (A.length : Int))) (0 : Int)) then ((ql_o5_2 A (IntKind.wrap .i64 (left - (A.length : Int))) (0 : Int)) && true) else ((ql_o5_3 A (IntKind.wrap .i64 (left - (A.length : Int))) (0 : Int)) && true)))
noncomputable def ql_v (A : LL) (left : Int) : Int := (bif (decide ((IntKind.wrap .i64 (left - (A.length : Int))) < (0 : Int))) then (-1 : Int) else (bif (ql_k5_1 A (IntKind.wrap .i64 (left - (A.length : Int))) (0 : Int)) then (-1 : Int) else (ql_u5_3 A (IntKind.wrap .i64 (left - (A.length : Int))) (0 : Int))))
theorem ql_l (A : LL) (left : Int) : (ql_c A left) = true → (ql_t A left).val = some (ql_v A left) := by
  unfold ql_t ql_v ql_c
  exact fun h => (Tr.ss h (fun h => rfl) (fun h => (Tr.ss h (fun h => (Tr.gb h fun h => rfl)) (fun h => (Tr.gb h fun h => rfl)))))
noncomputable def ql_S : List Arg → Option (Bool × Res) := fun xs => match xs with
  | [(false, [(.slice 9, TC.l A)]), (false, [(.int .i64, TC.i left)])] => some ((ql_c A left), ql_mk (ql_v A left))
  | _ => .none
theorem ql_e (A : LL) (left : Int) : runF tab FT D0 live 26 ql_lo [(false, [(.slice 9, TC.l A)]), (false, [(.int .i64, TC.i left)])] = (ql_t A left).run fun p => some (ql_mk p) := by kernel_rfl
theorem ql_s : ∀ xs r, ql_S xs = some (true, r) → runF tab FT D0 live 26 ql_lo xs = some r := by
  intro xs r h
  unfold ql_S at h
  split at h
  · simp only [Option.some.injEq, Prod.mk.injEq] at h
    obtain ⟨h1, rfl⟩ := h
    exact fun_told (ql_e _ _) (ql_l _ _) h1
  · cases h
noncomputable def D1 : Dt := also D0 26 ql_S
theorem d1 : DOk Go.Proofs.Try.prog tab D1 := d0.also mixed_ok tab_ok names_ok (fnLoops_one (by kernel_rfl) ql_is5) ql_s
theorem ql_cc {A : LL} {left : Int} (ht : Typed tab (.slice 9) (.l A)) : (ql_c A left) = true := by
  unfold ql_c
  refine bifT (fun b1 => ?_) (fun b1 => ?_)
  · skip
    rfl
  · skip
    refine bifT (fun b2 => ?_) (fun b2 => ?_)
    · skip
      refine andT (by exact is_true ⟨rfl, ht⟩) ?_
      rfl
    · skip
      refine andT (by exact is_true ⟨rfl, ht⟩) ?_
      rfl
noncomputable def qcb_t (a0 : LL) (a1 : Int) : Tr (Int) := (.ite ((decide ((IntKind.wrap .i64 (a1 - (a0.length : Int))) < (0 : Int))) = true) (.ok (-1 : Int))
  (.ok (IntKind.wrap .i64 (a1 - (a0.length : Int)))))
def qcb_mk (p : Int) : Res := [(false, [⟨.int .i64, .sh, TC.i p⟩])]
noncomputable def qcb_c (a0 : LL) (a1 : Int) : Bool := true
noncomputable def qcb_v (a0 : LL) (a1 : Int) : Int := (bif (decide ((IntKind.wrap .i64 (a1 - (a0.length : Int))) < (0 : Int))) then (-1 : Int) else (IntKind.wrap .i64 (a1 - (a0.length : Int))))
theorem qcb_l (a0 : LL) (a1 : Int) : (qcb_c a0 a1) = true → (qcb_t a0 a1).val = some (qcb_v a0 a1) := by
  intro h
  skip
  unfold qcb_t qcb_v
  exact (Tr.s rfl rfl)
noncomputable def qcb_S : List Arg → Option (Bool × Res) := fun xs => match xs with
  | [(false, [(.slice 2, TC.l a0)]), (false, [(.int .i64, TC.i a1)])] => some (true, qcb_mk (qcb_v a0 a1))
  | _ => .none
theorem qcb_e (a0 : LL) (a1 : Int) : runF tab FT D1 live 27 noLoops [(false, [(.slice 2, TC.l a0)]), (false, [(.int .i64, TC.i a1)])] = (qcb_t a0 a1).run fun p => some (qcb_mk p) := by kernel_rfl
theorem qcb_s : ∀ xs r, qcb_S xs = some (true, r) → runF tab FT D1 live 27 noLoops xs = some r := by
  intro xs r h
  unfold qcb_S at h
  split at h
  · simp only [Option.some.injEq, Prod.mk.injEq] at h
    obtain ⟨h1, rfl⟩ := h
    exact fun_told (qcb_e _ _) (qcb_l _ _) rfl
  · cases h
noncomputable def D2 : Dt := also D1 27 qcb_S
theorem d2 : DOk Go.Proofs.Try.prog tab D2 := d1.also mixed_ok tab_ok names_ok noLoops_ok qcb_s
section
class qbc_O where R : (Int) → (Int) → (Bool) → (Bool) → (LL) → (LL) → (LL) → (LL) → (Int) → (Int) → Bool × (Int)
variable [i_laws_szType : qbc_O]
def qbc_rc (x0 x1 : Int) (x2 x3 : Bool) (x4 x5 x6 x7 : LL) (x8 x9 : Int) : Bool := ((qbc_O.R x0 x1 x2 x3 x4 x5 x6 x7 x8 x9)).1
def qbc_rv (x0 x1 : Int) (x2 x3 : Bool) (x4 x5 x6 x7 : LL) (x8 x9 : Int) : Int := ((qbc_O.R x0 x1 x2 x3 x4 x5 x6 x7 x8 x9)).2
def qbc_rmk (p : Int) : Res := [(false, [⟨.int .i64, .sh, TC.i p⟩])]
noncomputable def qbc_rS : List Arg → Option (Bool × Res) := fun xs => match xs with
  | [(true, [(.int .i64, TC.i x0), (.int .i64, TC.i x1), (.bool, TC.b x2), (.bool, TC.b x3), (.slice 9, TC.l x4), (.slice 2, TC.l x5), (.slice 67, TC.l x6), (.slice 27, TC.l x7), (.int .i64, TC.i x8)]), (false, [(.int .i64, TC.i x9)])] => some ((qbc_rc x0 x1 x2 x3 x4 x5 x6 x7 x8 x9), qbc_rmk (qbc_rv x0 x1 x2 x3 x4 x5 x6 x7 x8 x9))
  | _ => .none
noncomputable def D3 : Dt := also D2 9 qbc_rS
class qbc_G : Prop where ok : DOk Go.Proofs.Try.prog tab D3
variable [g_laws_szType : qbc_G]
theorem d3 : DOk Go.Proofs.Try.prog tab D3 := qbc_G.ok
noncomputable def qbf_t (x0 : BS) (x1 x2 x3 : Int) (x4 x5 : Bool) (x6 x7 x8 x9 : LL) (x10 x11 : Int) : Tr (Int) := (.ite ((decide ((IntKind.wrap .i64 (x11 - (x0.length : Int))) < (0 : Int))) = true) (.ok (-1 : Int))
  (.ite ((qbc_rc x2 x3 x4 x5 x6 x7 x8 x9 x10 (IntKind.wrap .i64 (x11 - (x0.length : Int)))) = true) (.ite ((decide ((qbc_rv x2 x3 x4 x5 x6 x7 x8 x9 x10 (IntKind.wrap .i64 (x11 - (x0.length : Int)))) < (0 : Int))) = true) (.ok (-1 : Int))
    (.ok (qbc_rv x2 x3 x4 x5 x6 x7 x8 x9 x10 (IntKind.wrap .i64 (x11 - (x0.length : Int))))))
   .no))
def qbf_mk (p : Int) : Res := [(false, [⟨.int .i64, .sh, TC.i p⟩])]
noncomputable def qbf_c (x0 : BS) (x1 x2 x3 : Int) (x4 x5 : Bool) (x6 x7 x8 x9 : LL) (x10 x11 : Int) : Bool := (bif (decide ((IntKind.wrap .i64 (x11 - (x0.length : Int))) < (0 : Int))) then true else ((qbc_rc x2 x3 x4 x5 x6 x7 x8 x9 x10 (IntKind.wrap .i64 (x11 - (x0.length : Int)))) && (bif (decide ((qbc_rv x2 x3 x4 x5 x6 x7 x8 x9 x10 (IntKind.wrap .i64 (x11 - (x0.length : Int)))) < (0 : Int))) then true else true)))
noncomputable def qbf_v (x0 : BS) (x1 x2 x3 : Int) (x4 x5 : Bool) (x6 x7 x8 x9 : LL) (x10 x11 : Int) : Int := (bif (decide ((IntKind.wrap .i64 (x11 - (x0.length : Int))) < (0 : Int))) then (-1 : Int) else (bif (decide ((qbc_rv x2 x3 x4 x5 x6 x7 x8 x9 x10 (IntKind.wrap .i64 (x11 - (x0.length : Int)))) < (0 : Int))) then (-1 : Int) else (qbc_rv x2 x3 x4 x5 x6 x7 x8 x9 x10 (IntKind.wrap .i64 (x11 - (x0.length : Int))))))
theorem qbf_l (x0 : BS) (x1 x2 x3 : Int) (x4 x5 : Bool) (x6 x7 x8 x9 : LL) (x10 x11 : Int) : (qbf_c x0 x1 x2 x3 x4 x5 x6 x7 x8 x9 x10 x11) = true → (qbf_t x0 x1 x2 x3 x4 x5 x6 x7 x8 x9 x10 x11).val = some (qbf_v x0 x1 x2 x3 x4 x5 x6 x7 x8 x9 x10 x11) := by
  unfold qbf_t qbf_v qbf_c
  exact fun h => (Tr.ss h (fun h => rfl) (fun h => (Tr.gb h fun h => (Tr.ss h (fun h => rfl) (fun h => rfl)))))
noncomputable def qbf_S : List Arg → Option (Bool × Res) := fun xs => match xs with
  | [(true, [(.str, TC.s x0), (.int .i64, TC.i x1), (.int .i64, TC.i x2), (.int .i64, TC.i x3), (.bool, TC.b x4), (.bool, TC.b x5), (.slice 9, TC.l x6), (.slice 2, TC.l x7), (.slice 67, TC.l x8), (.slice 27, TC.l x9), (.int .i64, TC.i x10)]), (false, [(.int .i64, TC.i x11)])] => some ((qbf_c x0 x1 x2 x3 x4 x5 x6 x7 x8 x9 x10 x11), qbf_mk (qbf_v x0 x1 x2 x3 x4 x5 x6 x7 x8 x9 x10 x11))
  | _ => .none
theorem qbf_e (x0 : BS) (x1 x2 x3 : Int) (x4 x5 : Bool) (x6 x7 x8 x9 : LL) (x10 x11 : Int) : runF tab FT D3 live 62 noLoops [(true, [(.str, TC.s x0), (.int .i64, TC.i x1), (.int .i64, TC.i x2), (.int .i64, TC.i x3), (.bool, TC.b x4), (.bool, TC.b x5), (.slice 9, TC.l x6), (.slice 2, TC.l x7), (.slice 67, TC.l x8), (.slice 27, TC.l x9), (.int .i64, TC.i x10)]), (false, [(.int .i64, TC.i x11)])] = (qbf_t x0 x1 x2 x3 x4 x5 x6 x7 x8 x9 x10 x11).run fun p => some (qbf_mk p) := by kernel_rfl
theorem qbf_s : ∀ xs r, qbf_S xs = some (true, r) → runF tab FT D3 live 62 noLoops xs = some r := by
  intro xs r h
  unfold qbf_S at h
  split at h
  · simp only [Option.some.injEq, Prod.mk.injEq] at h
    obtain ⟨h1, rfl⟩ := h
    exact fun_told (qbf_e _ _ _ _ _ _ _ _ _ _ _ _) (qbf_l _ _ _ _ _ _ _ _ _ _ _ _) h1
  · cases h
noncomputable def D4 : Dt := also D3 62 qbf_S
theorem d4 : DOk Go.Proofs.Try.prog tab D4 := d3.also mixed_ok tab_ok names_ok noLoops_ok qbf_s
theorem qbf_cc {x0 : BS} {x1 : Int} {x2 : Int} {x3 : Int} {x4 : Bool} {x5 : Bool} {x6 : LL} {x7 : LL} {x8 : LL} {x9 : LL} {x10 : Int} {x11 : Int} (t6 : Typed tab (.slice 9) (.l x6)) (t7 : Typed tab (.slice 2) (.l x7)) (t8 : Typed tab (.slice 67) (.l x8)) (t9 : Typed tab (.slice 27) (.l x9)) (h0 : (∀ left : Int, qbc_rc x2 x3 x4 x5 x6 x7 x8 x9 x10 left = true)) : (qbf_c x0 x1 x2 x3 x4 x5 x6 x7 x8 x9 x10 x11) = true := by
  unfold qbf_c
  refine bifT (fun b1 => ?_) (fun b1 => ?_)
  · skip
    rfl
  · skip
    refine andT (by exact h0 _) ?_
    refine bifT (fun b2 => ?_) (fun b2 => ?_)
    · skip
      rfl
    · skip
      rfl
abbrev qp_5_σ := LL × Int × Int
abbrev qp_5_ω := (Int) ⊕ (Int)
noncomputable def qp_5_step (A : LL) (left i : Int) : Tr (qp_5_σ ⊕ qp_5_ω) := (.ite ((decide (i < (A.length : Int))) = true) (.ite ((0 : Int) ≤ i ∧ i < (A.length : Int)) (.ite ((qbf_c ((nth (row A i) 0).str) ((nth (row A i) 1).int) ((nth (row A i) 2).int) ((nth (row A i) 3).int) ((nth (row A i) 4).bool) ((nth (row A i) 5).bool) ((nth (row A i) 6).list) ((nth (row A i) 7).list) ((nth (row A i) 8).list) ((nth (row A i) 9).list) ((nth (row A i) 10).int) left) = true) (.ite ((decide ((qbf_v ((nth (row A i) 0).str) ((nth (row A i) 1).int) ((nth (row A i) 2).int) ((nth (row A i) 3).int) ((nth (row A i) 4).bool) ((nth (row A i) 5).bool) ((nth (row A i) 6).list) ((nth (row A i) 7).list) ((nth (row A i) 8).list) ((nth (row A i) 9).list) ((nth (row A i) 10).int) left) < (0 : Int))) = true) (.ok (.inr (.inl (qbf_v ((nth (row A i) 0).str) ((nth (row A i) 1).int) ((nth (row A i) 2).int) ((nth (row A i) 3).int) ((nth (row A i) 4).bool) ((nth (row A i) 5).bool) ((nth (row A i) 6).list) ((nth (row A i) 7).list) ((nth (row A i) 8).list) ((nth (row A i) 9).list) ((nth (row A i) 10).int) left))))
     (.ok (.inl (A, (qbf_v ((nth (row A i) 0).str) ((nth (row A i) 1).int) ((nth (row A i) 2).int) ((nth (row A i) 3).int) ((nth (row A i) 4).bool) ((nth (row A i) 5).bool) ((nth (row A i) 6).list) ((nth (row A i) 7).list) ((nth (row A i) 8).list) ((nth (row A i) 9).list) ((nth (row A i) 10).int) left), (IntKind.wrap .i64 (i + (1 : Int)))))))
    .no)
   .no)
  (.ok (.inr (.inr left))))
noncomputable def qp_5_st : qp_5_σ → Tr (qp_5_σ ⊕ qp_5_ω) := fun x => (qp_5_step (x.1) (x.2.1) (x.2.2))
noncomputable def qp_k5_1 (A : LL) (left i : Int) : Bool := isL (loopN qp_5_st (A.length + 1) (A, left, i))
noncomputable def qp_o5_2 (A : LL) (left i : Int) : Bool := is (i = 0 ∧ Typed tab (.slice 67) (.l A) ∧ (∀ x : List TC, x ∈ A → ∀ left : Int, (qbf_c ((nth x 0).str) ((nth x 1).int) ((nth x 2).int) ((nth x 3).int) ((nth x 4).bool) ((nth x 5).bool) ((nth x 6).list) ((nth x 7).list) ((nth x 8).list) ((nth x 9).list) ((nth x 10).int) left) = true))
noncomputable def qp_u5_2 (A : LL) (left i : Int) : Int := getL (loopN qp_5_st (A.length + 1) (A, left, i))
noncomputable def qp_o5_3 (A : LL) (left i : Int) : Bool := is (i = 0 ∧ Typed tab (.slice 67) (.l A) ∧ (∀ x : List TC, x ∈ A → ∀ left : Int, (qbf_c ((nth x 0).str) ((nth x 1).int) ((nth x 2).int) ((nth x 3).int) ((nth x 4).bool) ((nth x 5).bool) ((nth x 6).list) ((nth x 7).list) ((nth x 8).list) ((nth x 9).list) ((nth x 10).int) left) = true))
noncomputable def qp_u5_3 (A : LL) (left i : Int) : Int := getR (loopN qp_5_st (A.length + 1) (A, left, i))
noncomputable def qp_5_fin (A : LL) (left i : Int) : Told qp_5_ω := (.br (qp_k5_1 A left i) (.leaf (qp_o5_2 A left i) (.inl (qp_u5_2 A left i))) (.leaf (qp_o5_3 A left i) (.inr (qp_u5_3 A left i))))
def qp_5_sl (x : qp_5_σ) : List Slot := [⟨.val false [⟨.slice 67, .sh, TC.l (x.1)⟩], ⟨0, 0⟩⟩, ⟨.val false [⟨.int .i64, .sh, TC.i (x.2.1)⟩], ⟨0, 0⟩⟩, ⟨.val false [⟨.int .i64, .sh, TC.i (x.2.2)⟩], ⟨0, 0⟩⟩]
def qp_5_out : qp_5_ω → Ex × List Slot := (Sum.elim (fun x => (.ret, [⟨.val false [⟨.int .i64, .sh, TC.i x⟩], ⟨0, 0⟩⟩, ⟨.val false [⟨.int .i64, .sh, TC.i (-1 : Int)⟩], ⟨0, 0⟩⟩])) (fun x => (.exit 0, [⟨.val false [⟨.int .i64, .sh, TC.i x⟩], ⟨0, 0⟩⟩, Slot.none])))
noncomputable def qp_lo5 : List Slot → Option (Told (Ex × List Slot)) := fun s => match s with
  | [⟨.val false [⟨.slice 67, .sh, TC.l A⟩], ⟨0, 0⟩⟩, ⟨.val false [⟨.int .i64, .sh, TC.i left⟩], ⟨0, 0⟩⟩, ⟨.val false [⟨.int .i64, .sh, TC.i i⟩], ⟨0, 0⟩⟩] => some (((qp_5_fin A left i)).map qp_5_out)
  | _ => .none
noncomputable def qp_lo : LoopTeller := fun r s => bif Nat.beq r 5 then qp_lo5 s else .none
theorem qp_5_r (A : LL) (left i : Int) (fuel : Nat) : rounds (rnd tab FT D4 live 28 qp_lo 0 5) leave (fuel + 1) (qp_5_sl (A, left, i)) = ((qp_5_step A left i)).run (goOn (fun s => rounds (rnd tab FT D4 live 28 qp_lo 0 5) leave fuel (qp_5_sl s)) fun w => some (qp_5_out w)) := by kernel_rfl
theorem qp_5_h (A : LL) (left i : Int) (ow : qp_5_ω) : ((qp_5_fin A left i)).val = some ow → ∃ fuel, loopN qp_5_st fuel (A, left, i) = some ow := by
  refine auto_two (N := A.length + 1) rfl rfl rfl ?_
  intro ho
  have ho : is (i = 0 ∧ Typed tab (.slice 67) (.l A) ∧ (∀ x : List TC, x ∈ A → ∀ left : Int, (qbf_c ((nth x 0).str) ((nth x 1).int) ((nth x 2).int) ((nth x 3).int) ((nth x 4).bool) ((nth x 5).bool) ((nth x 6).list) ((nth x 7).list) ((nth x 8).list) ((nth x 9).list) ((nth x 10).int) left) = true)) = true := ho.elim id id
  obtain ⟨rfl, ht, hr0⟩ := is_iff.1 ho
  have hlen : A.length ≤ 140737488351232 := by have := typed_room ht; simp only [show (tab 67).bytes = 152 from rfl] at this; omega
  refine loopN_ends (step := qp_5_st) (N := A.length) (fun i a => (A, a, (i : Int))) (fun i a hi => ?_) (fun a => ?_) A.length 0 left (by omega)
  · show (∃ a', (qp_5_step A a (i : Int)).val = _) ∨ ∃ w, (qp_5_step A a (i : Int)).val = _
    have c0 : Typed tab (.str) (.s (nth (A.getD i []) 0).str) := typed_s (typed_cell ht (A.getD i []) (mem_getD hi) 0 (by decide))
    have c6 : Typed tab (.slice 9) (.l (nth (A.getD i []) 6).list) := typed_list (typed_cell ht (A.getD i []) (mem_getD hi) 6 (by decide))
    have c7 : Typed tab (.slice 2) (.l (nth (A.getD i []) 7).list) := typed_list (typed_cell ht (A.getD i []) (mem_getD hi) 7 (by decide))
    have c8 : Typed tab (.slice 67) (.l (nth (A.getD i []) 8).list) := typed_list (typed_cell ht (A.getD i []) (mem_getD hi) 8 (by decide))
    have c9 : Typed tab (.slice 27) (.l (nth (A.getD i []) 9).list) := typed_list (typed_cell ht (A.getD i []) (mem_getD hi) 9 (by decide))
    cases hneg : ((decide ((qbf_v ((nth (row A i) 0).str) ((nth (row A i) 1).int) ((nth (row A i) 2).int) ((nth (row A i) 3).int) ((nth (row A i) 4).bool) ((nth (row A i) 5).bool) ((nth (row A i) 6).list) ((nth (row A i) 7).list) ((nth (row A i) 8).list) ((nth (row A i) 9).list) ((nth (row A i) 10).int) a) < (0 : Int))))
    · apply Or.inl
      apply Exists.intro
      · unfold qp_5_step
        refine Tr.t (by simp; omega) ?_
        refine Tr.t (by first | omega | (constructor <;> omega)) ?_
        refine Tr.t (hr0 (A.getD i []) (mem_getD hi) a) ?_
        refine Tr.n (by rw [hneg]; simp) ?_
        rw [Tr.val_ok, wrap64 (i := (i : Int) + 1) (by omega) (by omega)]; rfl
    · apply Or.inr
      apply Exists.intro
      · unfold qp_5_step
        refine Tr.t (by simp; omega) ?_
        refine Tr.t (by first | omega | (constructor <;> omega)) ?_
        refine Tr.t (hr0 (A.getD i []) (mem_getD hi) a) ?_
        refine Tr.t hneg ?_
        rfl
  · apply Exists.intro
    · show (qp_5_step A a (A.length : Int)).val = _
      refine Tr.n (by simp) ?_
      rfl
theorem qp_is5 : LoopIs tab FT D4 live 28 qp_lo 0 5 := by
  refine loop_told (sl := qp_5_sl) (step := qp_5_st) (out := qp_5_out) (lor := qp_lo5) (fin := fun x => (qp_5_fin (x.1) (x.2.1) (x.2.2))) (fun _ => rfl) ?_ (fun x n => qp_5_r x.1 x.2.1 x.2.2 n) (fun x ow => qp_5_h x.1 x.2.1 x.2.2 ow)
  intro s t h
  unfold qp_lo5 at h
  split at h
  · cases h; exact ⟨(_, _, _), rfl, rfl⟩
  · cases h
noncomputable def qp_t (A : LL) (left : Int) : Tr (Int) := (.ite ((decide ((IntKind.wrap .i64 (left - (A.length : Int))) < (0 : Int))) = true) (.ok (-1 : Int))
  (.ite ((qp_k5_1 A (IntKind.wrap .i64 (left - (A.length : Int))) (0 : Int)) = true) (.ite ((qp_o5_2 A (IntKind.wrap .i64 (left - (A.length : Int))) (0 : Int)) = true) (.ok (-1 : Int))
    .no)
   (.ite ((qp_o5_3 A (IntKind.wrap .i64 (left - (A.length : Int))) (0 : Int)) = true) (.ok (qp_u5_3 A (IntKind.wrap .i64 (left - (A.length : Int))) (0 : Int)))
    .no)))
def qp_mk (p : Int) : Res := [(false, [⟨.int .i64, .sh, TC.i p⟩])]
noncomputable def qp_c (A : LL) (left : Int) : Bool := (bif (decide ((IntKind.wrap .i64 (left - (A.length : Int))) < (0 : Int))) then true else (bif (qp_k5_1 A (IntKind.wrap .i64 (left - (A.length : Int))) (0 : Int)) then ((qp_o5_2 A (IntKind.wrap .i64 (left - (A.length : Int))) (0 : Int)) && true) else ((qp_o5_3 A (IntKind.wrap .i64 (left - (A.length : Int))) (0 : Int)) && true)))
noncomputable def qp_v (A : LL) (left : Int) : Int := (bif (decide ((IntKind.wrap .i64 (left - (A.length : Int))) < (0 : Int))) then (-1 : Int) else (bif (qp_k5_1 A (IntKind.wrap .i64 (left - (A.length : Int))) (0 : Int)) then (-1 : Int) else (qp_u5_3 A (IntKind.wrap .i64 (left - (A.length : Int))) (0 : Int))))
theorem qp_l (A : LL) (left : Int) : (qp_c A left) = true → (qp_t A left).val = some (qp_v A left) := by
  unfold qp_t qp_v qp_c
  exact fun h => (Tr.ss h (fun h => rfl) (fun h => (Tr.ss h (fun h => (Tr.gb h fun h => rfl)) (fun h => (Tr.gb h fun h => rfl)))))
noncomputable def qp_S : List Arg → Option (Bool × Res) := fun xs => match xs with
  | [(false, [(.slice 67, TC.l A)]), (false, [(.int .i64, TC.i left)])] => some ((qp_c A left), qp_mk (qp_v A left))
  | _ => .none
theorem qp_e (A : LL) (left : Int) : runF tab FT D4 live 28 qp_lo [(false, [(.slice 67, TC.l A)]), (false, [(.int .i64, TC.i left)])] = (qp_t A left).run fun p => some (qp_mk p) := by kernel_rfl
theorem qp_s : ∀ xs r, qp_S xs = some (true, r) → runF tab FT D4 live 28 qp_lo xs = some r := by
  intro xs r h
  unfold qp_S at h
  split at h
  · simp only [Option.some.injEq, Prod.mk.injEq] at h
    obtain ⟨h1, rfl⟩ := h
    exact fun_told (qp_e _ _) (qp_l _ _) h1
  · cases h
noncomputable def D5 : Dt := also D4 28 qp_S
theorem d5 : DOk Go.Proofs.Try.prog tab D5 := d4.also mixed_ok tab_ok names_ok (fnLoops_one (by kernel_rfl) qp_is5) qp_s
theorem qp_cc {A : LL} {left : Int} (ht : Typed tab (.slice 67) (.l A)) (hr0 : (∀ x : List TC, x ∈ A → ∀ left : Int, (qbf_c ((nth x 0).str) ((nth x 1).int) ((nth x 2).int) ((nth x 3).int) ((nth x 4).bool) ((nth x 5).bool) ((nth x 6).list) ((nth x 7).list) ((nth x 8).list) ((nth x 9).list) ((nth x 10).int) left) = true)) : (qp_c A left) = true := by
  unfold qp_c
  refine bifT (fun b1 => ?_) (fun b1 => ?_)
  · skip
    rfl
  · skip
    refine bifT (fun b2 => ?_) (fun b2 => ?_)
    · skip
      refine andT (by exact is_true ⟨rfl, ht, hr0⟩) ?_
      rfl
    · skip
      refine andT (by exact is_true ⟨rfl, ht, hr0⟩) ?_
      rfl
abbrev qu_5_σ := LL × Int × Int
abbrev qu_5_ω := (Int) ⊕ (Int)
noncomputable def qu_5_step (A : LL) (left i : Int) : Tr (qu_5_σ ⊕ qu_5_ω) := (.ite ((decide (i < (A.length : Int))) = true) (.ite ((0 : Int) ≤ i ∧ i < (A.length : Int)) (.ite ((qbc_rc ((nth (row A i) 0).int) ((nth (row A i) 1).int) ((nth (row A i) 2).bool) ((nth (row A i) 3).bool) ((nth (row A i) 4).list) ((nth (row A i) 5).list) ((nth (row A i) 6).list) ((nth (row A i) 7).list) ((nth (row A i) 8).int) left) = true) (.ite ((decide ((qbc_rv ((nth (row A i) 0).int) ((nth (row A i) 1).int) ((nth (row A i) 2).bool) ((nth (row A i) 3).bool) ((nth (row A i) 4).list) ((nth (row A i) 5).list) ((nth (row A i) 6).list) ((nth (row A i) 7).list) ((nth (row A i) 8).int) left) < (0 : Int))) = true) (.ok (.inr (.inl (qbc_rv ((nth (row A i) 0).int) ((nth (row A i) 1).int) ((nth (row A i) 2).bool) ((nth (row A i) 3).bool) ((nth (row A i) 4).list) ((nth (row A i) 5).list) ((nth (row A i) 6).list) ((nth (row A i) 7).list) ((nth (row A i) 8).int) left))))
     (.ok (.inl (A, (qbc_rv ((nth (row A i) 0).int) ((nth (row A i) 1).int) ((nth (row A i) 2).bool) ((nth (row A i) 3).bool) ((nth (row A i) 4).list) ((nth (row A i) 5).list) ((nth (row A i) 6).list) ((nth (row A i) 7).list) ((nth (row A i) 8).int) left), (IntKind.wrap .i64 (i + (1 : Int)))))))
    .no)
   .no)
  (.ok (.inr (.inr left))))
noncomputable def qu_5_st : qu_5_σ → Tr (qu_5_σ ⊕ qu_5_ω) := fun x => (qu_5_step (x.1) (x.2.1) (x.2.2))
noncomputable def qu_k5_1 (A : LL) (left i : Int) : Bool := isL (loopN qu_5_st (A.length + 1) (A, left, i))
noncomputable def qu_o5_2 (A : LL) (left i : Int) : Bool := is (i = 0 ∧ Typed tab (.slice 27) (.l A) ∧ (∀ x : List TC, x ∈ A → ∀ left : Int, (qbc_rc ((nth x 0).int) ((nth x 1).int) ((nth x 2).bool) ((nth x 3).bool) ((nth x 4).list) ((nth x 5).list) ((nth x 6).list) ((nth x 7).list) ((nth x 8).int) left) = true))
noncomputable def qu_u5_2 (A : LL) (left i : Int) : Int := getL (loopN qu_5_st (A.length + 1) (A, left, i))
noncomputable def qu_o5_3 (A : LL) (left i : Int) : Bool := is (i = 0 ∧ Typed tab (.slice 27) (.l A) ∧ (∀ x : List TC, x ∈ A → ∀ left : Int, (qbc_rc ((nth x 0).int) ((nth x 1).int) ((nth x 2).bool) ((nth x 3).bool) ((nth x 4).list) ((nth x 5).list) ((nth x 6).list) ((nth x 7).list) ((nth x 8).int) left) = true))
noncomputable def qu_u5_3 (A : LL) (left i : Int) : Int := getR (loopN qu_5_st (A.length + 1) (A, left, i))
noncomputable def qu_5_fin (A : LL) (left i : Int) : Told qu_5_ω := (.br (qu_k5_1 A left i) (.leaf (qu_o5_2 A left i) (.inl (qu_u5_2 A left i))) (.leaf (qu_o5_3 A left i) (.inr (qu_u5_3 A left i))))
def qu_5_sl (x : qu_5_σ) : List Slot := [⟨.val false [⟨.slice 27, .sh, TC.l (x.1)⟩], ⟨0, 0⟩⟩, ⟨.val false [⟨.int .i64, .sh, TC.i (x.2.1)⟩], ⟨0, 0⟩⟩, ⟨.val false [⟨.int .i64, .sh, TC.i (x.2.2)⟩], ⟨0, 0⟩⟩]
def qu_5_out : qu_5_ω → Ex × List Slot := (Sum.elim (fun x => (.ret, [⟨.val false [⟨.int .i64, .sh, TC.i x⟩], ⟨0, 0⟩⟩, ⟨.val false [⟨.int .i64, .sh, TC.i (-1 : Int)⟩], ⟨0, 0⟩⟩])) (fun x => (.exit 0, [⟨.val false [⟨.int .i64, .sh, TC.i x⟩], ⟨0, 0⟩⟩, Slot.none])))
noncomputable def qu_lo5 : List Slot → Option (Told (Ex × List Slot)) := fun s => match s with
  | [⟨.val false [⟨.slice 27, .sh, TC.l A⟩], ⟨0, 0⟩⟩, ⟨.val false [⟨.int .i64, .sh, TC.i left⟩], ⟨0, 0⟩⟩, ⟨.val false [⟨.int .i64, .sh, TC.i i⟩], ⟨0, 0⟩⟩] => some (((qu_5_fin A left i)).map qu_5_out)
  | _ => .none
noncomputable def qu_lo : LoopTeller := fun r s => bif Nat.beq r 5 then qu_lo5 s else .none
theorem qu_5_r (A : LL) (left i : Int) (fuel : Nat) : rounds (rnd tab FT D5 live 29 qu_lo 0 5) leave (fuel + 1) (qu_5_sl (A, left, i)) = ((qu_5_step A left i)).run (goOn (fun s => rounds (rnd tab FT D5 live 29 qu_lo 0 5) leave fuel (qu_5_sl s)) fun w => some (qu_5_out w)) := by kernel_rfl
theorem qu_5_h (A : LL) (left i : Int) (ow : qu_5_ω) : ((qu_5_fin A left i)).val = some ow → ∃ fuel, loopN qu_5_st fuel (A, left, i) = some ow := by
  refine auto_two (N := A.length + 1) rfl rfl rfl ?_
  intro ho
  have ho : is (i = 0 ∧ Typed tab (.slice 27) (.l A) ∧ (∀ x : List TC, x ∈ A → ∀ left : Int, (qbc_rc ((nth x 0).int) ((nth x 1).int) ((nth x 2).bool) ((nth x 3).bool) ((nth x 4).list) ((nth x 5).list) ((nth x 6).list) ((nth x 7).list) ((nth x 8).int) left) = true)) = true := ho.elim id id
  obtain ⟨rfl, ht, hr0⟩ := is_iff.1 ho
  have hlen : A.length ≤ 140737488351232 := by have := typed_room ht; simp only [show (tab 27).bytes = 128 from rfl] at this; omega
  refine loopN_ends (step := qu_5_st) (N := A.length) (fun i a => (A, a, (i : Int))) (fun i a hi => ?_) (fun a => ?_) A.length 0 left (by omega)
  · show (∃ a', (qu_5_step A a (i : Int)).val = _) ∨ ∃ w, (qu_5_step A a (i : Int)).val = _
    have c4 : Typed tab (.slice 9) (.l (nth (A.getD i []) 4).list) := typed_list (typed_cell ht (A.getD i []) (mem_getD hi) 4 (by decide))
    have c5 : Typed tab (.slice 2) (.l (nth (A.getD i []) 5).list) := typed_list (typed_cell ht (A.getD i []) (mem_getD hi) 5 (by decide))
    have c6 : Typed tab (.slice 67) (.l (nth (A.getD i []) 6).list) := typed_list (typed_cell ht (A.getD i []) (mem_getD hi) 6 (by decide))
    have c7 : Typed tab (.slice 27) (.l (nth (A.getD i []) 7).list) := typed_list (typed_cell ht (A.getD i []) (mem_getD hi) 7 (by decide))
    cases hneg : ((decide ((qbc_rv ((nth (row A i) 0).int) ((nth (row A i) 1).int) ((nth (row A i) 2).bool) ((nth (row A i) 3).bool) ((nth (row A i) 4).list) ((nth (row A i) 5).list) ((nth (row A i) 6).list) ((nth (row A i) 7).list) ((nth (row A i) 8).int) a) < (0 : Int))))
    · apply Or.inl
      apply Exists.intro
      · unfold qu_5_step
        refine Tr.t (by simp; omega) ?_
        refine Tr.t (by first | omega | (constructor <;> omega)) ?_
        refine Tr.t (hr0 (A.getD i []) (mem_getD hi) a) ?_
        refine Tr.n (by rw [hneg]; simp) ?_
        rw [Tr.val_ok, wrap64 (i := (i : Int) + 1) (by omega) (by omega)]; rfl
    · apply Or.inr
      apply Exists.intro
      · unfold qu_5_step
        refine Tr.t (by simp; omega) ?_
        refine Tr.t (by first | omega | (constructor <;> omega)) ?_
        refine Tr.t (hr0 (A.getD i []) (mem_getD hi) a) ?_
        refine Tr.t hneg ?_
        rfl
  · apply Exists.intro
    · show (qu_5_step A a (A.length : Int)).val = _
      refine Tr.n (by simp) ?_
      rfl
theorem qu_is5 : LoopIs tab FT D5 live 29 qu_lo 0 5 := by
  refine loop_told (sl := qu_5_sl) (step := qu_5_st) (out := qu_5_out) (lor := qu_lo5) (fin := fun x => (qu_5_fin (x.1) (x.2.1) (x.2.2))) (fun _ => rfl) ?_ (fun x n => qu_5_r x.1 x.2.1 x.2.2 n) (fun x ow => qu_5_h x.1 x.2.1 x.2.2 ow)
  intro s t h
  unfold qu_lo5 at h
  split at h
  · cases h; exact ⟨(_, _, _), rfl, rfl⟩
  · cases h
noncomputable def qu_t (A : LL) (left : Int) : Tr (Int) := (.ite ((decide ((IntKind.wrap .i64 (left - (A.length : Int))) < (0 : Int))) = true) (.ok (-1 : Int))
  (.ite ((qu_k5_1 A (IntKind.wrap .i64 (left - (A.length : Int))) (0 : Int)) = true) (.ite ((qu_o5_2 A (IntKind.wrap .i64 (left - (A.length : Int))) (0 : Int)) = true) (.ok (-1 : Int))
    .no)
   (.ite ((qu_o5_3 A (IntKind.wrap .i64 (left - (A.length : Int))) (0 : Int)) = true) (.ok (qu_u5_3 A (IntKind.wrap .i64 (left - (A.length : Int))) (0 : Int)))
    .no)))
def qu_mk (p : Int) : Res := [(false, [⟨.int .i64, .sh, TC.i p⟩])]
noncomputable def qu_c (A : LL) (left : Int) : Bool := (bif (decide ((IntKind.wrap .i64 (left - (A.length : Int))) < (0 : Int))) then true else (bif (qu_k5_1 A (IntKind.wrap .i64 (left - (A.length : Int))) (0 : Int)) then ((qu_o5_2 A (IntKind.wrap .i64 (left - (A.length : Int))) (0 : Int)) && true) else ((qu_o5_3 A (IntKind.wrap .i64 (left - (A.length : Int))) (0 : Int)) && true)))
noncomputable def qu_v (A : LL) (left : Int) : Int := (bif (decide ((IntKind.wrap .i64 (left - (A.length : Int))) < (0 : Int))) then (-1 : Int) else (bif (qu_k5_1 A (IntKind.wrap .i64 (left - (A.length : Int))) (0 : Int)) then (-1 : Int) else (qu_u5_3 A (IntKind.wrap .i64 (left - (A.length : Int))) (0 : Int))))
theorem qu_l (A : LL) (left : Int) : (qu_c A left) = true → (qu_t A left).val = some (qu_v A left) := by
  unfold qu_t qu_v qu_c
  exact fun h => (Tr.ss h (fun h => rfl) (fun h => (Tr.ss h (fun h => (Tr.gb h fun h => rfl)) (fun h => (Tr.gb h fun h => rfl)))))
noncomputable def qu_S : List Arg → Option (Bool × Res) := fun xs => match xs with
  | [(false, [(.slice 27, TC.l A)]), (false, [(.int .i64, TC.i left)])] => some ((qu_c A left), qu_mk (qu_v A left))
  | _ => .none
theorem qu_e (A : LL) (left : Int) : runF tab FT D5 live 29 qu_lo [(false, [(.slice 27, TC.l A)]), (false, [(.int .i64, TC.i left)])] = (qu_t A left).run fun p => some (qu_mk p) := by kernel_rfl
theorem qu_s : ∀ xs r, qu_S xs = some (true, r) → runF tab FT D5 live 29 qu_lo xs = some r := by
  intro xs r h
  unfold qu_S at h
  split at h
  · simp only [Option.some.injEq, Prod.mk.injEq] at h
    obtain ⟨h1, rfl⟩ := h
    exact fun_told (qu_e _ _) (qu_l _ _) h1
  · cases h
noncomputable def D6 : Dt := also D5 29 qu_S
theorem d6 : DOk Go.Proofs.Try.prog tab D6 := d5.also mixed_ok tab_ok names_ok (fnLoops_one (by kernel_rfl) qu_is5) qu_s
theorem qu_cc {A : LL} {left : Int} (ht : Typed tab (.slice 27) (.l A)) (hr0 : (∀ x : List TC, x ∈ A → ∀ left : Int, (qbc_rc ((nth x 0).int) ((nth x 1).int) ((nth x 2).bool) ((nth x 3).bool) ((nth x 4).list) ((nth x 5).list) ((nth x 6).list) ((nth x 7).list) ((nth x 8).int) left) = true)) : (qu_c A left) = true := by
  unfold qu_c
  refine bifT (fun b1 => ?_) (fun b1 => ?_)
  · skip
    rfl
  · skip
    refine bifT (fun b2 => ?_) (fun b2 => ?_)
    · skip
      refine andT (by exact is_true ⟨rfl, ht, hr0⟩) ?_
      rfl
    · skip
      refine andT (by exact is_true ⟨rfl, ht, hr0⟩) ?_
      rfl
noncomputable def qbc_t (x0 x1 : Int) (x2 x3 : Bool) (x4 x5 x6 x7 : LL) (x8 x9 : Int) : Tr (Int) := (.ite ((ql_c x4 x9) = true) (.ite ((decide ((ql_v x4 x9) < (0 : Int))) = true) (.ok (-1 : Int))
   (.ite ((decide ((qcb_v x5 (ql_v x4 x9)) < (0 : Int))) = true) (.ok (-1 : Int))
    (.ite ((qp_c x6 (qcb_v x5 (ql_v x4 x9))) = true) (.ite ((decide ((qp_v x6 (qcb_v x5 (ql_v x4 x9))) < (0 : Int))) = true) (.ok (-1 : Int))
      (.ite ((qu_c x7 (qp_v x6 (qcb_v x5 (ql_v x4 x9)))) = true) (.ite ((decide ((qu_v x7 (qp_v x6 (qcb_v x5 (ql_v x4 x9)))) < (0 : Int))) = true) (.ok (-1 : Int))
        (.ok (qu_v x7 (qp_v x6 (qcb_v x5 (ql_v x4 x9))))))
       .no))
     .no)))
  .no)
def qbc_mk (p : Int) : Res := [(false, [⟨.int .i64, .sh, TC.i p⟩])]
noncomputable def qbc_c (x0 x1 : Int) (x2 x3 : Bool) (x4 x5 x6 x7 : LL) (x8 x9 : Int) : Bool := ((ql_c x4 x9) && (bif (decide ((ql_v x4 x9) < (0 : Int))) then true else (bif (decide ((qcb_v x5 (ql_v x4 x9)) < (0 : Int))) then true else ((qp_c x6 (qcb_v x5 (ql_v x4 x9))) && (bif (decide ((qp_v x6 (qcb_v x5 (ql_v x4 x9))) < (0 : Int))) then true else ((qu_c x7 (qp_v x6 (qcb_v x5 (ql_v x4 x9)))) && (bif (decide ((qu_v x7 (qp_v x6 (qcb_v x5 (ql_v x4 x9)))) < (0 : Int))) then true else true)))))))
noncomputable def qbc_v (x0 x1 : Int) (x2 x3 : Bool) (x4 x5 x6 x7 : LL) (x8 x9 : Int) : Int := (bif (decide ((ql_v x4 x9) < (0 : Int))) then (-1 : Int) else (bif (decide ((qcb_v x5 (ql_v x4 x9)) < (0 : Int))) then (-1 : Int) else (bif (decide ((qp_v x6 (qcb_v x5 (ql_v x4 x9))) < (0 : Int))) then (-1 : Int) else (bif (decide ((qu_v x7 (qp_v x6 (qcb_v x5 (ql_v x4 x9)))) < (0 : Int))) then (-1 : Int) else (qu_v x7 (qp_v x6 (qcb_v x5 (ql_v x4 x9))))))))
theorem qbc_l (x0 x1 : Int) (x2 x3 : Bool) (x4 x5 x6 x7 : LL) (x8 x9 : Int) : (qbc_c x0 x1 x2 x3 x4 x5 x6 x7 x8 x9) = true → (qbc_t x0 x1 x2 x3 x4 x5 x6 x7 x8 x9).val = some (qbc_v x0 x1 x2 x3 x4 x5 x6 x7 x8 x9) := by
  unfold qbc_t qbc_v qbc_c
  exact fun h => (Tr.gb h fun h => (Tr.ss h (fun h => rfl) (fun h => (Tr.ss h (fun h => rfl) (fun h => (Tr.gb h fun h => (Tr.ss h (fun h => rfl) (fun h => (Tr.gb h fun h => (Tr.ss h (fun h => rfl) (fun h => rfl)))))))))))
noncomputable def qbc_S : List Arg → Option (Bool × Res) := fun xs => match xs with
  | [(true, [(.int .i64, TC.i x0), (.int .i64, TC.i x1), (.bool, TC.b x2), (.bool, TC.b x3), (.slice 9, TC.l x4), (.slice 2, TC.l x5), (.slice 67, TC.l x6), (.slice 27, TC.l x7), (.int .i64, TC.i x8)]), (false, [(.int .i64, TC.i x9)])] => some ((qbc_c x0 x1 x2 x3 x4 x5 x6 x7 x8 x9), qbc_mk (qbc_v x0 x1 x2 x3 x4 x5 x6 x7 x8 x9))
  | _ => .none
theorem qbc_e (x0 x1 : Int) (x2 x3 : Bool) (x4 x5 x6 x7 : LL) (x8 x9 : Int) : runF tab FT D6 live 9 noLoops [(true, [(.int .i64, TC.i x0), (.int .i64, TC.i x1), (.bool, TC.b x2), (.bool, TC.b x3), (.slice 9, TC.l x4), (.slice 2, TC.l x5), (.slice 67, TC.l x6), (.slice 27, TC.l x7), (.int .i64, TC.i x8)]), (false, [(.int .i64, TC.i x9)])] = (qbc_t x0 x1 x2 x3 x4 x5 x6 x7 x8 x9).run fun p => some (qbc_mk p) := by kernel_rfl
theorem qbc_s : ∀ xs r, qbc_S xs = some (true, r) → runF tab FT D6 live 9 noLoops xs = some r := by
  intro xs r h
  unfold qbc_S at h
  split at h
  · simp only [Option.some.injEq, Prod.mk.injEq] at h
    obtain ⟨h1, rfl⟩ := h
    exact fun_told (qbc_e _ _ _ _ _ _ _ _ _ _) (qbc_l _ _ _ _ _ _ _ _ _ _) h1
  · cases h
noncomputable def qbc_next : (Int) → (Int) → (Bool) → (Bool) → (LL) → (LL) → (LL) → (LL) → (Int) → (Int) → Bool × (Int) := fun x0 x1 x2 x3 x4 x5 x6 x7 x8 x9 => ((qbc_c x0 x1 x2 x3 x4 x5 x6 x7 x8 x9), (qbc_v x0 x1 x2 x3 x4 x5 x6 x7 x8 x9))
theorem qbc_nx (m : Nat) (hR : ∀ (x0 x1 : Int) (x2 x3 : Bool) (x4 x5 x6 x7 : LL) (x8 x9 : Int), max (rowsDep x6) (rowsDep x7) < m ∧ Typed tab (.slice 9) (.l x4) ∧ Typed tab (.slice 2) (.l x5) ∧ Typed tab (.slice 67) (.l x6) ∧ Typed tab (.slice 27) (.l x7) → (qbc_rc x0 x1 x2 x3 x4 x5 x6 x7 x8 x9) = true) (x0 x1 : Int) (x2 x3 : Bool) (x4 x5 x6 x7 : LL) (x8 x9 : Int) : max (rowsDep x6) (rowsDep x7) < (m + 1) ∧ Typed tab (.slice 9) (.l x4) ∧ Typed tab (.slice 2) (.l x5) ∧ Typed tab (.slice 67) (.l x6) ∧ Typed tab (.slice 27) (.l x7) → (qbc_c x0 x1 x2 x3 x4 x5 x6 x7 x8 x9) = true := by
  intro h
  obtain ⟨hM, t4, t5, t6, t7⟩ := h
  unfold qbc_c
  refine andT (by exact ql_cc t4) ?_
  refine bifT (fun b1 => ?_) (fun b1 => ?_)
  · skip
    rfl
  · skip
    refine bifT (fun b2 => ?_) (fun b2 => ?_)
    · skip
      rfl
    · skip
      refine andT (by exact qp_cc t6 (fun x hx left => qbf_cc (typed_list ((typed_elem t6 hx).2 6 (by decide))) (typed_list ((typed_elem t6 hx).2 7 (by decide))) (typed_list ((typed_elem t6 hx).2 8 (by decide))) (typed_list ((typed_elem t6 hx).2 9 (by decide))) (fun left => hR _ _ _ _ _ _ _ _ _ _ ⟨by have a := dep_cell hx 8; have b := dep_cell hx 9; omega, typed_list ((typed_elem t6 hx).2 6 (by decide)), typed_list ((typed_elem t6 hx).2 7 (by decide)), typed_list ((typed_elem t6 hx).2 8 (by decide)), typed_list ((typed_elem t6 hx).2 9 (by decide))⟩))) ?_
      refine bifT (fun b3 => ?_) (fun b3 => ?_)
      · skip
        rfl
      · skip
        refine andT (by exact qu_cc t7 (fun x hx left => hR _ _ _ _ _ _ _ _ _ _ ⟨by have a := dep_cell hx 6; have b := dep_cell hx 7; omega, typed_list ((typed_elem t7 hx).2 4 (by decide)), typed_list ((typed_elem t7 hx).2 5 (by decide)), typed_list ((typed_elem t7 hx).2 6 (by decide)), typed_list ((typed_elem t7 hx).2 7 (by decide))⟩)) ?_
        refine bifT (fun b4 => ?_) (fun b4 => ?_)
        · skip
          rfl
        · skip
          rfl
theorem qbc_rs : ∀ xs r, qbc_rS (i_laws_szType := ⟨qbc_next⟩) xs = some (true, r) → runF tab FT D6 live 9 noLoops xs = some r := by
  intro xs r h
  unfold qbc_rS at h
  split at h
  · simp only [Option.some.injEq, Prod.mk.injEq] at h
    obtain ⟨h1, rfl⟩ := h
    exact fun_told (qbc_e _ _ _ _ _ _ _ _ _ _) (qbc_l _ _ _ _ _ _ _ _ _ _) h1
  · cases h
theorem qbc_step : qbc_G (i_laws_szType := ⟨qbc_next⟩) := by
  have h := DOk.also2 (S := qbc_rS (i_laws_szType := ⟨qbc_next⟩)) mixed_ok tab_ok names_ok d2 d6 noLoops_ok qbc_rs
  refine qbc_G.mk (i_laws_szType := ⟨qbc_next⟩) ?_
  exact h
noncomputable def qbd_g (x : List TC) : List TC := [TC.s ((nth x 0).str)]
def qbd_z : List TC := [TC.s []]
theorem qbd_id {A : LL} (h : Typed tab (.slice 9) (.l A)) : A.map qbd_g = A := map_same fun x hx => by
  obtain ⟨hl, hk⟩ := typed_elem h hx
  have e0 : TC.s ((nth x 0).str) = nth x 0 := typed_str_eq (hk 0 (by decide))
  show [TC.s ((nth x 0).str)] = _
  rw [e0]
  exact (row_eta hl).symm
abbrev qbd_3_σ := LL × LL × Int
abbrev qbd_3_ω := (LL)
noncomputable def qbd_3_step (A X : LL) (i : Int) : Tr (qbd_3_σ ⊕ qbd_3_ω) := (.ite ((decide (i < (A.length : Int))) = true) (.ite ((0 : Int) ≤ i ∧ i < (A.length : Int)) (.ite ((0 : Int) ≤ i ∧ i < (X.length : Int)) (.ok (.inl (A, (X.set (i).toNat (splice (row X i) 0 [TC.s ((nth (row A i) 0).str)])), (IntKind.wrap .i64 (i + (1 : Int))))))
    .no)
   .no)
  (.ok (.inr X)))
noncomputable def qbd_3_st : qbd_3_σ → Tr (qbd_3_σ ⊕ qbd_3_ω) := fun x => (qbd_3_step (x.1) (x.2.1) (x.2.2))
noncomputable def qbd_o3_1 (A X : LL) (i : Int) : Bool := is (Typed tab (.slice 9) (.l A) ∧ X = List.replicate A.length qbd_z ∧ i = 0)
noncomputable def qbd_3_fin (A X : LL) (i : Int) : Told qbd_3_ω := (.leaf (qbd_o3_1 A X i) A)
def qbd_3_sl (x : qbd_3_σ) : List Slot := [⟨.val false [⟨.slice 9, .sh, TC.l (x.1)⟩], ⟨0, 0⟩⟩, ⟨.val false [⟨.slice 9, .own true, TC.l (x.2.1)⟩], ⟨0, 0⟩⟩, ⟨.val false [⟨.int .i64, .sh, TC.i (x.2.2)⟩], ⟨0, 0⟩⟩]
def qbd_3_out : qbd_3_ω → Ex × List Slot := (fun x => (.exit 0, [Slot.none, ⟨.val false [⟨.slice 9, .own true, TC.l x⟩], ⟨0, 0⟩⟩]))
noncomputable def qbd_lo3 : List Slot → Option (Told (Ex × List Slot)) := fun s => match s with
  | [⟨.val false [⟨.slice 9, .sh, TC.l A⟩], ⟨0, 0⟩⟩, ⟨.val false [⟨.slice 9, .own true, TC.l X⟩], ⟨0, 0⟩⟩, ⟨.val false [⟨.int .i64, .sh, TC.i i⟩], ⟨0, 0⟩⟩] => some (((qbd_3_fin A X i)).map qbd_3_out)
  | _ => .none
noncomputable def qbd_lo : LoopTeller := fun r s => bif Nat.beq r 3 then qbd_lo3 s else .none
theorem qbd_3_r (A X : LL) (i : Int) (fuel : Nat) : rounds (rnd tab FT D6 live 32 qbd_lo 0 3) leave (fuel + 1) (qbd_3_sl (A, X, i)) = ((qbd_3_step A X i)).run (goOn (fun s => rounds (rnd tab FT D6 live 32 qbd_lo 0 3) leave fuel (qbd_3_sl s)) fun w => some (qbd_3_out w)) := by kernel_rfl
theorem qbd_3_h (A X : LL) (i : Int) (ow : qbd_3_ω) : ((qbd_3_fin A X i)).val = some ow → ∃ fuel, loopN qbd_3_st fuel (A, X, i) = some ow := by
  intro h
  refine auto_leaf (R := A) (fun ho => ?_) h
  obtain ⟨ht, rfl, rfl⟩ := is_iff.1 ho
  have hlen : A.length ≤ 140737488351232 := by have := typed_room ht; simp only [show (tab 9).bytes = 16 from rfl] at this; omega
  have key := loopN_copy (step := qbd_3_st) A (List.replicate A.length qbd_z) qbd_g (fun Y i => (A, Y, (i : Int))) (A.map qbd_g) (by simp) (fun x hx i _ => by rw [(List.mem_replicate.1 hx).2]; exact Nat.le_refl 1) (fun Y i hi hl => ?_) ?_ A.length 0 (by omega)
  · rw [copied_zero, qbd_id ht] at key
    exact ⟨_, key⟩
  · have c0 : Typed tab (.str) (.s (nth (A.getD i []) 0).str) := typed_s (typed_cell ht (A.getD i []) (mem_getD hi) 0 (by decide))
    show (qbd_3_step A Y (i : Int)).val = _
    unfold qbd_3_step
    refine Tr.t (by simp; omega) ?_
    refine Tr.t (by first | omega | (constructor <;> omega)) ?_
    refine Tr.t (by first | omega | (constructor <;> omega)) ?_
    rw [Tr.val_ok, wrap64 (i := (i : Int) + 1) (by omega) (by omega)]; rfl
  · show (qbd_3_step A (A.map qbd_g) (A.length : Int)).val = _
    refine Tr.n (by simp) ?_
    rfl
theorem qbd_is3 : LoopIs tab FT D6 live 32 qbd_lo 0 3 := by
  refine loop_told (sl := qbd_3_sl) (step := qbd_3_st) (out := qbd_3_out) (lor := qbd_lo3) (fin := fun x => (qbd_3_fin (x.1) (x.2.1) (x.2.2))) (fun _ => rfl) ?_ (fun x n => qbd_3_r x.1 x.2.1 x.2.2 n) (fun x ow => qbd_3_h x.1 x.2.1 x.2.2 ow)
  intro s t h
  unfold qbd_lo3 at h
  split at h
  · cases h; exact ⟨(_, _, _), rfl, rfl⟩
  · cases h
noncomputable def qbd_t (A : LL) : Tr (LL) := (.ite (0 ≤ (A.length : Int) ∧ (A.length : Int) ≤ (A.length : Int) ∧ (A.length : Int) * 16 ≤ 140737488355328 ∧ (A.length : Int) ≤ 140737488355328) (.ite ((qbd_o3_1 A (List.replicate ((A.length : Int)).toNat [TC.s []]) (0 : Int)) = true) (.ok A)
   .no)
  .no)
def qbd_mk (p : LL) : Res := [(false, [⟨.slice 9, .own true, TC.l p⟩])]
noncomputable def qbd_c (A : LL) : Bool := is (Typed tab (.slice 9) (.l A))
noncomputable def qbd_v (A : LL) : LL := A
theorem qbd_l (A : LL) : (qbd_c A) = true → (qbd_t A).val = some (qbd_v A) := by
  intro h
  have ht := is_iff.1 h
  have hb := typed_room ht
  simp only [show (tab 9).bytes = 16 from rfl] at hb
  unfold qbd_t
  refine Tr.t (by omega) ?_
  refine Tr.t (is_true ⟨ht, by rfl, rfl⟩) ?_
  rfl
noncomputable def qbd_S : List Arg → Option (Bool × Res) := fun xs => match xs with
  | [(false, [(.slice 9, TC.l A)])] => some ((qbd_c A), qbd_mk (qbd_v A))
  | _ => .none
theorem qbd_e (A : LL) : runF tab FT D6 live 32 qbd_lo [(false, [(.slice 9, TC.l A)])] = (qbd_t A).run fun p => some (qbd_mk p) := by kernel_rfl
theorem qbd_s : ∀ xs r, qbd_S xs = some (true, r) → runF tab FT D6 live 32 qbd_lo xs = some r := by
  intro xs r h
  unfold qbd_S at h
  split at h
  · simp only [Option.some.injEq, Prod.mk.injEq] at h
    obtain ⟨h1, rfl⟩ := h
    exact fun_told (qbd_e _) (qbd_l _) h1
  · cases h
noncomputable def D7 : Dt := also D6 32 qbd_S
theorem d7 : DOk Go.Proofs.Try.prog tab D7 := d6.also mixed_ok tab_ok names_ok (fnLoops_one (by kernel_rfl) qbd_is3) qbd_s
theorem qbd_ty {A : LL} (h : Typed tab (.slice 9) (.l A)) : Typed tab (.slice 9) (.l A) := typed_iso iso_ok h (by decide)
noncomputable def qbg_g (x : List TC) : List TC := [TC.i ((nth x 0).int)]
def qbg_z : List TC := [TC.i (0 : Int)]
theorem qbg_id {A : LL} (h : Typed tab (.slice 2) (.l A)) : A.map qbg_g = A := map_same fun x hx => by
  obtain ⟨hl, hk⟩ := typed_elem h hx
  have e0 : TC.i ((nth x 0).int) = nth x 0 := typed_int_eq (hk 0 (by decide))
  show [TC.i ((nth x 0).int)] = _
  rw [e0]
  exact (row_eta hl).symm
abbrev qbg_3_σ := LL × LL × Int
abbrev qbg_3_ω := (LL)
noncomputable def qbg_3_step (A X : LL) (i : Int) : Tr (qbg_3_σ ⊕ qbg_3_ω) := (.ite ((decide (i < (A.length : Int))) = true) (.ite ((0 : Int) ≤ i ∧ i < (A.length : Int)) (.ite ((0 : Int) ≤ i ∧ i < (X.length : Int)) (.ok (.inl (A, (X.set (i).toNat (splice (row X i) 0 [TC.i ((nth (row A i) 0).int)])), (IntKind.wrap .i64 (i + (1 : Int))))))
    .no)
   .no)
  (.ok (.inr X)))
noncomputable def qbg_3_st : qbg_3_σ → Tr (qbg_3_σ ⊕ qbg_3_ω) := fun x => (qbg_3_step (x.1) (x.2.1) (x.2.2))
noncomputable def qbg_o3_1 (A X : LL) (i : Int) : Bool := is (Typed tab (.slice 2) (.l A) ∧ X = List.replicate A.length qbg_z ∧ i = 0)
noncomputable def qbg_3_fin (A X : LL) (i : Int) : Told qbg_3_ω := (.leaf (qbg_o3_1 A X i) A)
def qbg_3_sl (x : qbg_3_σ) : List Slot := [⟨.val false [⟨.slice 2, .sh, TC.l (x.1)⟩], ⟨0, 0⟩⟩, ⟨.val false [⟨.slice 2, .own true, TC.l (x.2.1)⟩], ⟨0, 0⟩⟩, ⟨.val false [⟨.int .i64, .sh, TC.i (x.2.2)⟩], ⟨0, 0⟩⟩]
def qbg_3_out : qbg_3_ω → Ex × List Slot := (fun x => (.exit 0, [Slot.none, ⟨.val false [⟨.slice 2, .own true, TC.l x⟩], ⟨0, 0⟩⟩]))
noncomputable def qbg_lo3 : List Slot → Option (Told (Ex × List Slot)) := fun s => match s with
  | [⟨.val false [⟨.slice 2, .sh, TC.l A⟩], ⟨0, 0⟩⟩, ⟨.val false [⟨.slice 2, .own true, TC.l X⟩], ⟨0, 0⟩⟩, ⟨.val false [⟨.int .i64, .sh, TC.i i⟩], ⟨0, 0⟩⟩] => some (((qbg_3_fin A X i)).map qbg_3_out)
  | _ => .none
noncomputable def qbg_lo : LoopTeller := fun r s => bif Nat.beq r 3 then qbg_lo3 s else .none
theorem qbg_3_r (A X : LL) (i : Int) (fuel : Nat) : rounds (rnd tab FT D7 live 33 qbg_lo 0 3) leave (fuel + 1) (qbg_3_sl (A, X, i)) = ((qbg_3_step A X i)).run (goOn (fun s => rounds (rnd tab FT D7 live 33 qbg_lo 0 3) leave fuel (qbg_3_sl s)) fun w => some (qbg_3_out w)) := by kernel_rfl
theorem qbg_3_h (A X : LL) (i : Int) (ow : qbg_3_ω) : ((qbg_3_fin A X i)).val = some ow → ∃ fuel, loopN qbg_3_st fuel (A, X, i) = some ow := by
  intro h
  refine auto_leaf (R := A) (fun ho => ?_) h
  obtain ⟨ht, rfl, rfl⟩ := is_iff.1 ho
  have hlen : A.length ≤ 140737488351232 := by have := typed_room ht; simp only [show (tab 2).bytes = 8 from rfl] at this; omega
  have key := loopN_copy (step := qbg_3_st) A (List.replicate A.length qbg_z) qbg_g (fun Y i => (A, Y, (i : Int))) (A.map qbg_g) (by simp) (fun x hx i _ => by rw [(List.mem_replicate.1 hx).2]; exact Nat.le_refl 1) (fun Y i hi hl => ?_) ?_ A.length 0 (by omega)
  · rw [copied_zero, qbg_id ht] at key
    exact ⟨_, key⟩
  · skip
    show (qbg_3_step A Y (i : Int)).val = _
    unfold qbg_3_step
    refine Tr.t (by simp; omega) ?_
    refine Tr.t (by first | omega | (constructor <;> omega)) ?_
    refine Tr.t (by first | omega | (constructor <;> omega)) ?_
    rw [Tr.val_ok, wrap64 (i := (i : Int) + 1) (by omega) (by omega)]; rfl
  · show (qbg_3_step A (A.map qbg_g) (A.length : Int)).val = _
    refine Tr.n (by simp) ?_
    rfl
theorem qbg_is3 : LoopIs tab FT D7 live 33 qbg_lo 0 3 := by
  refine loop_told (sl := qbg_3_sl) (step := qbg_3_st) (out := qbg_3_out) (lor := qbg_lo3) (fin := fun x => (qbg_3_fin (x.1) (x.2.1) (x.2.2))) (fun _ => rfl) ?_ (fun x n => qbg_3_r x.1 x.2.1 x.2.2 n) (fun x ow => qbg_3_h x.1 x.2.1 x.2.2 ow)
  intro s t h
  unfold qbg_lo3 at h
  split at h
  · cases h; exact ⟨(_, _, _), rfl, rfl⟩
  · cases h
noncomputable def qbg_t (A : LL) : Tr (LL) := (.ite (0 ≤ (A.length : Int) ∧ (A.length : Int) ≤ (A.length : Int) ∧ (A.length : Int) * 8 ≤ 140737488355328 ∧ (A.length : Int) ≤ 140737488355328) (.ite ((qbg_o3_1 A (List.replicate ((A.length : Int)).toNat [TC.i (0 : Int)]) (0 : Int)) = true) (.ok A)
   .no)
  .no)
def qbg_mk (p : LL) : Res := [(false, [⟨.slice 2, .own true, TC.l p⟩])]
noncomputable def qbg_c (A : LL) : Bool := is (Typed tab (.slice 2) (.l A))
noncomputable def qbg_v (A : LL) : LL := A
theorem qbg_l (A : LL) : (qbg_c A) = true → (qbg_t A).val = some (qbg_v A) := by
  intro h
  have ht := is_iff.1 h
  have hb := typed_room ht
  simp only [show (tab 2).bytes = 8 from rfl] at hb
  unfold qbg_t
  refine Tr.t (by omega) ?_
  refine Tr.t (is_true ⟨ht, by rfl, rfl⟩) ?_
  rfl
noncomputable def qbg_S : List Arg → Option (Bool × Res) := fun xs => match xs with
  | [(false, [(.slice 2, TC.l A)])] => some ((qbg_c A), qbg_mk (qbg_v A))
  | _ => .none
theorem qbg_e (A : LL) : runF tab FT D7 live 33 qbg_lo [(false, [(.slice 2, TC.l A)])] = (qbg_t A).run fun p => some (qbg_mk p) := by kernel_rfl
theorem qbg_s : ∀ xs r, qbg_S xs = some (true, r) → runF tab FT D7 live 33 qbg_lo xs = some r := by
  intro xs r h
  unfold qbg_S at h
  split at h
  · simp only [Option.some.injEq, Prod.mk.injEq] at h
    obtain ⟨h1, rfl⟩ := h
    exact fun_told (qbg_e _) (qbg_l _) h1
  · cases h
noncomputable def D8 : Dt := also D7 33 qbg_S
theorem d8 : DOk Go.Proofs.Try.prog tab D8 := d7.also mixed_ok tab_ok names_ok (fnLoops_one (by kernel_rfl) qbg_is3) qbg_s
theorem qbg_ty {A : LL} (h : Typed tab (.slice 2) (.l A)) : Typed tab (.slice 2) (.l A) := typed_iso iso_ok h (by decide)
section
class qq_O where n : Nat
variable [i_laws_toType : qq_O]
noncomputable def qq_rc (x0 x1 : Int) (x2 x3 : Bool) (x4 x5 x6 x7 : LL) (x8 : Int) : Bool := is (max (rowsDep x6) (rowsDep x7) < qq_O.n ∧ Typed tab (.slice 9) (.l x4) ∧ Typed tab (.slice 2) (.l x5) ∧ Typed tab (.slice 67) (.l x6) ∧ Typed tab (.slice 27) (.l x7))
noncomputable def qq_rv (x0 x1 : Int) (x2 x3 : Bool) (x4 x5 x6 x7 : LL) (x8 : Int) : Int × Int × Bool × Bool × LL × LL × LL × LL × Int := (x0, x1, x2, x3, x4, x5, x6, x7, x8)
def qq_rmk (p : Int × Int × Bool × Bool × LL × LL × LL × LL × Int) : Res := [(true, [⟨.int .i64, .sh, TC.i (p.1)⟩, ⟨.int .i64, .sh, TC.i (p.2.1)⟩, ⟨.bool, .sh, TC.b (p.2.2.1)⟩, ⟨.bool, .sh, TC.b (p.2.2.2.1)⟩, ⟨.slice 9, .own true, TC.l (p.2.2.2.2.1)⟩, ⟨.slice 2, .own true, TC.l (p.2.2.2.2.2.1)⟩, ⟨.slice 71, .own true, TC.l (p.2.2.2.2.2.2.1)⟩, ⟨.slice 32, .own true, TC.l (p.2.2.2.2.2.2.2.1)⟩, ⟨.int .i64, .sh, TC.i (p.2.2.2.2.2.2.2.2)⟩])]
noncomputable def qq_rS : List Arg → Option (Bool × Res) := fun xs => match xs with
  | [(true, [(.int .i64, TC.i x0), (.int .i64, TC.i x1), (.bool, TC.b x2), (.bool, TC.b x3), (.slice 9, TC.l x4), (.slice 2, TC.l x5), (.slice 67, TC.l x6), (.slice 27, TC.l x7), (.int .i64, TC.i x8)])] => some ((qq_rc x0 x1 x2 x3 x4 x5 x6 x7 x8), qq_rmk (qq_rv x0 x1 x2 x3 x4 x5 x6 x7 x8))
  | _ => .none
noncomputable def D9 : Dt := also D8 11 qq_rS
class qq_G : Prop where ok : DOk Go.Proofs.Try.prog tab D9
variable [g_laws_toType : qq_G]
theorem d9 : DOk Go.Proofs.Try.prog tab D9 := qq_G.ok
noncomputable def qbw_t (a0 : BS) (a1 a2 a3 : Int) (a4 a5 : Bool) (a6 a7 a8 a9 : LL) (a10 : Int) : Tr (BS × Int × Int × Int × Bool × Bool × LL × LL × LL × LL × Int) := (.ite ((qq_rc a2 a3 a4 a5 a6 a7 a8 a9 a10) = true) (.ok (a0, a1, (qq_rv a2 a3 a4 a5 a6 a7 a8 a9 a10).1, (qq_rv a2 a3 a4 a5 a6 a7 a8 a9 a10).2.1, (qq_rv a2 a3 a4 a5 a6 a7 a8 a9 a10).2.2.1, (qq_rv a2 a3 a4 a5 a6 a7 a8 a9 a10).2.2.2.1, (qq_rv a2 a3 a4 a5 a6 a7 a8 a9 a10).2.2.2.2.1, (qq_rv a2 a3 a4 a5 a6 a7 a8 a9 a10).2.2.2.2.2.1, (qq_rv a2 a3 a4 a5 a6 a7 a8 a9 a10).2.2.2.2.2.2.1, (qq_rv a2 a3 a4 a5 a6 a7 a8 a9 a10).2.2.2.2.2.2.2.1, (qq_rv a2 a3 a4 a5 a6 a7 a8 a9 a10).2.2.2.2.2.2.2.2))
  .no)
def qbw_mk (p : BS × Int × Int × Int × Bool × Bool × LL × LL × LL × LL × Int) : Res := [(true, [⟨.str, .sh, TC.s (p.1)⟩, ⟨.int .i64, .sh, TC.i (p.2.1)⟩, ⟨.int .i64, .sh, TC.i (p.2.2.1)⟩, ⟨.int .i64, .sh, TC.i (p.2.2.2.1)⟩, ⟨.bool, .sh, TC.b (p.2.2.2.2.1)⟩, ⟨.bool, .sh, TC.b (p.2.2.2.2.2.1)⟩, ⟨.slice 9, .own true, TC.l (p.2.2.2.2.2.2.1)⟩, ⟨.slice 2, .own true, TC.l (p.2.2.2.2.2.2.2.1)⟩, ⟨.slice 71, .own true, TC.l (p.2.2.2.2.2.2.2.2.1)⟩, ⟨.slice 32, .own true, TC.l (p.2.2.2.2.2.2.2.2.2.1)⟩, ⟨.int .i64, .sh, TC.i (p.2.2.2.2.2.2.2.2.2.2)⟩])]
noncomputable def qbw_c (a0 : BS) (a1 a2 a3 : Int) (a4 a5 : Bool) (a6 a7 a8 a9 : LL) (a10 : Int) : Bool := (qq_rc a2 a3 a4 a5 a6 a7 a8 a9 a10)
noncomputable def qbw_v (a0 : BS) (a1 a2 a3 : Int) (a4 a5 : Bool) (a6 a7 a8 a9 : LL) (a10 : Int) : BS × Int × Int × Int × Bool × Bool × LL × LL × LL × LL × Int := (a0, a1, (qq_rv a2 a3 a4 a5 a6 a7 a8 a9 a10).1, (qq_rv a2 a3 a4 a5 a6 a7 a8 a9 a10).2.1, (qq_rv a2 a3 a4 a5 a6 a7 a8 a9 a10).2.2.1, (qq_rv a2 a3 a4 a5 a6 a7 a8 a9 a10).2.2.2.1, (qq_rv a2 a3 a4 a5 a6 a7 a8 a9 a10).2.2.2.2.1, (qq_rv a2 a3 a4 a5 a6 a7 a8 a9 a10).2.2.2.2.2.1, (qq_rv a2 a3 a4 a5 a6 a7 a8 a9 a10).2.2.2.2.2.2.1, (qq_rv a2 a3 a4 a5 a6 a7 a8 a9 a10).2.2.2.2.2.2.2.1, (qq_rv a2 a3 a4 a5 a6 a7 a8 a9 a10).2.2.2.2.2.2.2.2)
theorem qbw_l (a0 : BS) (a1 a2 a3 : Int) (a4 a5 : Bool) (a6 a7 a8 a9 : LL) (a10 : Int) : (qbw_c a0 a1 a2 a3 a4 a5 a6 a7 a8 a9 a10) = true → (qbw_t a0 a1 a2 a3 a4 a5 a6 a7 a8 a9 a10).val = some (qbw_v a0 a1 a2 a3 a4 a5 a6 a7 a8 a9 a10) := by
  intro h
  have hc0 : (qq_rc a2 a3 a4 a5 a6 a7 a8 a9 a10) = true := h
  unfold qbw_t
  exact (Tr.t hc0 rfl)
noncomputable def qbw_S : List Arg → Option (Bool × Res) := fun xs => match xs with
  | [(true, [(.str, TC.s a0), (.int .i64, TC.i a1), (.int .i64, TC.i a2), (.int .i64, TC.i a3), (.bool, TC.b a4), (.bool, TC.b a5), (.slice 9, TC.l a6), (.slice 2, TC.l a7), (.slice 67, TC.l a8), (.slice 27, TC.l a9), (.int .i64, TC.i a10)])] => some ((qbw_c a0 a1 a2 a3 a4 a5 a6 a7 a8 a9 a10), qbw_mk (qbw_v a0 a1 a2 a3 a4 a5 a6 a7 a8 a9 a10))
  | _ => .none
theorem qbw_e (a0 : BS) (a1 a2 a3 : Int) (a4 a5 : Bool) (a6 a7 a8 a9 : LL) (a10 : Int) : runF tab FT D9 live 72 noLoops [(true, [(.str, TC.s a0), (.int .i64, TC.i a1), (.int .i64, TC.i a2), (.int .i64, TC.i a3), (.bool, TC.b a4), (.bool, TC.b a5), (.slice 9, TC.l a6), (.slice 2, TC.l a7), (.slice 67, TC.l a8), (.slice 27, TC.l a9), (.int .i64, TC.i a10)])] = (qbw_t a0 a1 a2 a3 a4 a5 a6 a7 a8 a9 a10).run fun p => some (qbw_mk p) := by kernel_rfl
theorem qbw_s : ∀ xs r, qbw_S xs = some (true, r) → runF tab FT D9 live 72 noLoops xs = some r := by
  intro xs r h
  unfold qbw_S at h
  split at h
  · simp only [Option.some.injEq, Prod.mk.injEq] at h
    obtain ⟨h1, rfl⟩ := h
    exact fun_told (qbw_e _ _ _ _ _ _ _ _ _ _ _) (qbw_l _ _ _ _ _ _ _ _ _ _ _) h1
  · cases h
noncomputable def D10 : Dt := also D9 72 qbw_S
theorem d10 : DOk Go.Proofs.Try.prog tab D10 := d9.also mixed_ok tab_ok names_ok noLoops_ok qbw_s
noncomputable def qbe_g (x : List TC) : List TC := [TC.s ((qbw_v ((nth x 0).str) ((nth x 1).int) ((nth x 2).int) ((nth x 3).int) ((nth x 4).bool) ((nth x 5).bool) ((nth x 6).list) ((nth x 7).list) ((nth x 8).list) ((nth x 9).list) ((nth x 10).int)).1), TC.i ((qbw_v ((nth x 0).str) ((nth x 1).int) ((nth x 2).int) ((nth x 3).int) ((nth x 4).bool) ((nth x 5).bool) ((nth x 6).list) ((nth x 7).list) ((nth x 8).list) ((nth x 9).list) ((nth x 10).int)).2.1), TC.i ((qbw_v ((nth x 0).str) ((nth x 1).int) ((nth x 2).int) ((nth x 3).int) ((nth x 4).bool) ((nth x 5).bool) ((nth x 6).list) ((nth x 7).list) ((nth x 8).list) ((nth x 9).list) ((nth x 10).int)).2.2.1), TC.i ((qbw_v ((nth x 0).str) ((nth x 1).int) ((nth x 2).int) ((nth x 3).int) ((nth x 4).bool) ((nth x 5).bool) ((nth x 6).list) ((nth x 7).list) ((nth x 8).list) ((nth x 9).list) ((nth x 10).int)).2.2.2.1), TC.b ((qbw_v ((nth x 0).str) ((nth x 1).int) ((nth x 2).int) ((nth x 3).int) ((nth x 4).bool) ((nth x 5).bool) ((nth x 6).list) ((nth x 7).list) ((nth x 8).list) ((nth x 9).list) ((nth x 10).int)).2.2.2.2.1), TC.b ((qbw_v ((nth x 0).str) ((nth x 1).int) ((nth x 2).int) ((nth x 3).int) ((nth x 4).bool) ((nth x 5).bool) ((nth x 6).list) ((nth x 7).list) ((nth x 8).list) ((nth x 9).list) ((nth x 10).int)).2.2.2.2.2.1), TC.l ((qbw_v ((nth x 0).str) ((nth x 1).int) ((nth x 2).int) ((nth x 3).int) ((nth x 4).bool) ((nth x 5).bool) ((nth x 6).list) ((nth x 7).list) ((nth x 8).list) ((nth x 9).list) ((nth x 10).int)).2.2.2.2.2.2.1), TC.l ((qbw_v ((nth x 0).str) ((nth x 1).int) ((nth x 2).int) ((nth x 3).int) ((nth x 4).bool) ((nth x 5).bool) ((nth x 6).list) ((nth x 7).list) ((nth x 8).list) ((nth x 9).list) ((nth x 10).int)).2.2.2.2.2.2.2.1), TC.l ((qbw_v ((nth x 0).str) ((nth x 1).int) ((nth x 2).int) ((nth x 3).int) ((nth x 4).bool) ((nth x 5).bool) ((nth x 6).list) ((nth x 7).list) ((nth x 8).list) ((nth x 9).list) ((nth x 10).int)).2.2.2.2.2.2.2.2.1), TC.l ((qbw_v ((nth x 0).str) ((nth x 1).int) ((nth x 2).int) ((nth x 3).int) ((nth x 4).bool) ((nth x 5).bool) ((nth x 6).list) ((nth x 7).list) ((nth x 8).list) ((nth x 9).list) ((nth x 10).int)).2.2.2.2.2.2.2.2.2.1), TC.i ((qbw_v ((nth x 0).str) ((nth x 1).int) ((nth x 2).int) ((nth x 3).int) ((nth x 4).bool) ((nth x 5).bool) ((nth x 6).list) ((nth x 7).list) ((nth x 8).list) ((nth x 9).list) ((nth x 10).int)).2.2.2.2.2.2.2.2.2.2)]
def qbe_z : List TC := [TC.s [], TC.i (0 : Int), TC.i (0 : Int), TC.i (0 : Int), TC.b false, TC.b false, TC.l [], TC.l [], TC.l [], TC.l [], TC.i (0 : Int)]
theorem qbe_id {A : LL} (h : Typed tab (.slice 67) (.l A)) : A.map qbe_g = A := map_same fun x hx => by
  obtain ⟨hl, hk⟩ := typed_elem h hx
  have e0 : TC.s ((nth x 0).str) = nth x 0 := typed_str_eq (hk 0 (by decide))
  have e1 : TC.i ((nth x 1).int) = nth x 1 := typed_int_eq (hk 1 (by decide))
  have e2 : TC.i ((nth x 2).int) = nth x 2 := typed_int_eq (hk 2 (by decide))
  have e3 : TC.i ((nth x 3).int) = nth x 3 := typed_int_eq (hk 3 (by decide))
  have e4 : TC.b ((nth x 4).bool) = nth x 4 := typed_bool_eq (hk 4 (by decide))
  have e5 : TC.b ((nth x 5).bool) = nth x 5 := typed_bool_eq (hk 5 (by decide))
  have e6 : TC.l ((nth x 6).list) = nth x 6 := typed_list_eq (hk 6 (by decide))
  have e7 : TC.l ((nth x 7).list) = nth x 7 := typed_list_eq (hk 7 (by decide))
  have e8 : TC.l ((nth x 8).list) = nth x 8 := typed_list_eq (hk 8 (by decide))
  have e9 : TC.l ((nth x 9).list) = nth x 9 := typed_list_eq (hk 9 (by decide))
  have e10 : TC.i ((nth x 10).int) = nth x 10 := typed_int_eq (hk 10 (by decide))
  show [TC.s ((nth x 0).str), TC.i ((nth x 1).int), TC.i ((nth x 2).int), TC.i ((nth x 3).int), TC.b ((nth x 4).bool), TC.b ((nth x 5).bool), TC.l ((nth x 6).list), TC.l ((nth x 7).list), TC.l ((nth x 8).list), TC.l ((nth x 9).list), TC.i ((nth x 10).int)] = _
  rw [e0, e1, e2, e3, e4, e5, e6, e7, e8, e9, e10]
  exact (row_eta hl).symm
abbrev qbe_3_σ := LL × LL × Int
abbrev qbe_3_ω := (LL)
noncomputable def qbe_3_step (A X : LL) (i : Int) : Tr (qbe_3_σ ⊕ qbe_3_ω) := (.ite ((decide (i < (A.length : Int))) = true) (.ite ((0 : Int) ≤ i ∧ i < (A.length : Int)) (.ite ((qbw_c ((nth (row A i) 0).str) ((nth (row A i) 1).int) ((nth (row A i) 2).int) ((nth (row A i) 3).int) ((nth (row A i) 4).bool) ((nth (row A i) 5).bool) ((nth (row A i) 6).list) ((nth (row A i) 7).list) ((nth (row A i) 8).list) ((nth (row A i) 9).list) ((nth (row A i) 10).int)) = true) (.ite ((0 : Int) ≤ i ∧ i < (X.length : Int)) (.ok (.inl (A, (X.set (i).toNat (splice (row X i) 0 [TC.s ((qbw_v ((nth (row A i) 0).str) ((nth (row A i) 1).int) ((nth (row A i) 2).int) ((nth (row A i) 3).int) ((nth (row A i) 4).bool) ((nth (row A i) 5).bool) ((nth (row A i) 6).list) ((nth (row A i) 7).list) ((nth (row A i) 8).list) ((nth (row A i) 9).list) ((nth (row A i) 10).int)).1), TC.i ((qbw_v ((nth (row A i) 0).str) ((nth (row A i) 1).int) ((nth (row A i) 2).int) ((nth (row A i) 3).int) ((nth (row A i) 4).bool) ((nth (row A i) 5).bool) ((nth (row A i) 6).list) ((nth (row A i) 7).list) ((nth (row A i) 8).list) ((nth (row A i) 9).list) ((nth (row A i) 10).int)).2.1), TC.i ((qbw_v ((nth (row A i) 0).str) ((nth (row A i) 1).int) ((nth (row A i) 2).int) ((nth (row A i) 3).int) ((nth (row A i) 4).bool) ((nth (row A i) 5).bool) ((nth (row A i) 6).list) ((nth (row A i) 7).list) ((nth (row A i) 8).list) ((nth (row A i) 9).list) ((nth (row A i) 10).int)).2.2.1), TC.i ((qbw_v ((nth (row A i) 0).str) ((nth (row A i) 1).int) ((nth (row A i) 2).int) ((nth (row A i) 3).int) ((nth (row A i) 4).bool) ((nth (row A i) 5).bool) ((nth (row A i) 6).list) ((nth (row A i) 7).list) ((nth (row A i) 8).list) ((nth (row A i) 9).list) ((nth (row A i) 10).int)).2.2.2.1), TC.b ((qbw_v ((nth (row A i) 0).str) ((nth (row A i) 1).int) ((nth (row A i) 2).int) ((nth (row A i) 3).int) ((nth (row A i) 4).bool) ((nth (row A i) 5).bool) ((nth (row A i) 6).list) ((nth (row A i) 7).list) ((nth (row A i) 8).list) ((nth (row A i) 9).list) ((nth (row A i) 10).int)).2.2.2.2.1), TC.b ((qbw_v ((nth (row A i) 0).str) ((nth (row A i) 1).int) ((nth (row A i) 2).int) ((nth (row A i) 3).int) ((nth (row A i) 4).bool) ((nth (row A i) 5).bool) ((nth (row A i) 6).list) ((nth (row A i) 7).list) ((nth (row A i) 8).list) ((nth (row A i) 9).list) ((nth (row A i) 10).int)).2.2.2.2.2.1), TC.l ((qbw_v ((nth (row A i) 0).str) ((nth (row A i) 1).int) ((nth (row A i) 2).int) ((nth (row A i) 3).int) ((nth (row A i) 4).bool) ((nth (row A i) 5).bool) ((nth (row A i) 6).list) ((nth (row A i) 7).list) ((nth (row A i) 8).list) ((nth (row A i) 9).list) ((nth (row A i) 10).int)).2.2.2.2.2.2.1), TC.l ((qbw_v ((nth (row A i) 0).str) ((nth (row A i) 1).int) ((nth (row A i) 2).int) ((nth (row A i) 3).int) ((nth (row A i) 4).bool) ((nth (row A i) 5).bool) ((nth (row A i) 6).list) ((nth (row A i) 7).list) ((nth (row A i) 8).list) ((nth (row A i) 9).list) ((nth (row A i) 10).int)).2.2.2.2.2.2.2.1), TC.l ((qbw_v ((nth (row A i) 0).str) ((nth (row A i) 1).int) ((nth (row A i) 2).int) ((nth (row A i) 3).int) ((nth (row A i) 4).bool) ((nth (row A i) 5).bool) ((nth (row A i) 6).list) ((nth (row A i) 7).list) ((nth (row A i) 8).list) ((nth (row A i) 9).list) ((nth (row A i) 10).int)).2.2.2.2.2.2.2.2.1), TC.l ((qbw_v ((nth (row A i) 0).str) ((nth (row A i) 1).int) ((nth (row A i) 2).int) ((nth (row A i) 3).int) ((nth (row A i) 4).bool) ((nth (row A i) 5).bool) ((nth (row A i) 6).list) ((nth (row A i) 7).list) ((nth (row A i) 8).list) ((nth (row A i) 9).list) ((nth (row A i) 10).int)).2.2.2.2.2.2.2.2.2.1), TC.i ((qbw_v ((nth (row A i) 0).str) ((nth (row A i) 1).int) ((nth (row A i) 2).int) ((nth (row A i) 3).int) ((nth (row A i) 4).bool) ((nth (row A i) 5).bool) ((nth (row A i) 6).list) ((nth (row A i) 7).list) ((nth (row A i) 8).list) ((nth (row A i) 9).list) ((nth (row A i) 10).int)).2.2.2.2.2.2.2.2.2.2)])), (IntKind.wrap .i64 (i + (1 : Int))))))
     .no)
    .no)
   .no)
  (.ok (.inr X)))
noncomputable def qbe_3_st : qbe_3_σ → Tr (qbe_3_σ ⊕ qbe_3_ω) := fun x => (qbe_3_step (x.1) (x.2.1) (x.2.2))
noncomputable def qbe_o3_1 (A X : LL) (i : Int) : Bool := is (Typed tab (.slice 67) (.l A) ∧ (∀ x : List TC, x ∈ A → (qbw_c ((nth x 0).str) ((nth x 1).int) ((nth x 2).int) ((nth x 3).int) ((nth x 4).bool) ((nth x 5).bool) ((nth x 6).list) ((nth x 7).list) ((nth x 8).list) ((nth x 9).list) ((nth x 10).int)) = true) ∧ X = List.replicate A.length qbe_z ∧ i = 0)
noncomputable def qbe_3_fin (A X : LL) (i : Int) : Told qbe_3_ω := (.leaf (qbe_o3_1 A X i) A)
def qbe_3_sl (x : qbe_3_σ) : List Slot := [⟨.val false [⟨.slice 67, .sh, TC.l (x.1)⟩], ⟨0, 0⟩⟩, ⟨.val false [⟨.slice 71, .own true, TC.l (x.2.1)⟩], ⟨0, 0⟩⟩, ⟨.val false [⟨.int .i64, .sh, TC.i (x.2.2)⟩], ⟨0, 0⟩⟩]
def qbe_3_out : qbe_3_ω → Ex × List Slot := (fun x => (.exit 0, [Slot.none, ⟨.val false [⟨.slice 71, .own true, TC.l x⟩], ⟨0, 0⟩⟩]))
noncomputable def qbe_lo3 : List Slot → Option (Told (Ex × List Slot)) := fun s => match s with
  | [⟨.val false [⟨.slice 67, .sh, TC.l A⟩], ⟨0, 0⟩⟩, ⟨.val false [⟨.slice 71, .own true, TC.l X⟩], ⟨0, 0⟩⟩, ⟨.val false [⟨.int .i64, .sh, TC.i i⟩], ⟨0, 0⟩⟩] => some (((qbe_3_fin A X i)).map qbe_3_out)
  | _ => .none
noncomputable def qbe_lo : LoopTeller := fun r s => bif Nat.beq r 3 then qbe_lo3 s else .none
theorem qbe_3_r (A X : LL) (i : Int) (fuel : Nat) : rounds (rnd tab FT D10 live 34 qbe_lo 0 3) leave (fuel + 1) (qbe_3_sl (A, X, i)) = ((qbe_3_step A X i)).run (goOn (fun s => rounds (rnd tab FT D10 live 34 qbe_lo 0 3) leave fuel (qbe_3_sl s)) fun w => some (qbe_3_out w)) := by kernel_rfl
theorem qbe_3_h (A X : LL) (i : Int) (ow : qbe_3_ω) : ((qbe_3_fin A X i)).val = some ow → ∃ fuel, loopN qbe_3_st fuel (A, X, i) = some ow := by
  intro h
  refine auto_leaf (R := A) (fun ho => ?_) h
  obtain ⟨ht, hr0, rfl, rfl⟩ := is_iff.1 ho
  have hlen : A.length ≤ 140737488351232 := by have := typed_room ht; simp only [show (tab 67).bytes = 152 from rfl] at this; omega
  have key := loopN_copy (step := qbe_3_st) A (List.replicate A.length qbe_z) qbe_g (fun Y i => (A, Y, (i : Int))) (A.map qbe_g) (by simp) (fun x hx i _ => by rw [(List.mem_replicate.1 hx).2]; exact Nat.le_refl 11) (fun Y i hi hl => ?_) ?_ A.length 0 (by omega)
  · rw [copied_zero, qbe_id ht] at key
    exact ⟨_, key⟩
  · have c0 : Typed tab (.str) (.s (nth (A.getD i []) 0).str) := typed_s (typed_cell ht (A.getD i []) (mem_getD hi) 0 (by decide))
    have c6 : Typed tab (.slice 9) (.l (nth (A.getD i []) 6).list) := typed_list (typed_cell ht (A.getD i []) (mem_getD hi) 6 (by decide))
    have c7 : Typed tab (.slice 2) (.l (nth (A.getD i []) 7).list) := typed_list (typed_cell ht (A.getD i []) (mem_getD hi) 7 (by decide))
    have c8 : Typed tab (.slice 67) (.l (nth (A.getD i []) 8).list) := typed_list (typed_cell ht (A.getD i []) (mem_getD hi) 8 (by decide))
    have c9 : Typed tab (.slice 27) (.l (nth (A.getD i []) 9).list) := typed_list (typed_cell ht (A.getD i []) (mem_getD hi) 9 (by decide))
    show (qbe_3_step A Y (i : Int)).val = _
    unfold qbe_3_step
    refine Tr.t (by simp; omega) ?_
    refine Tr.t (by first | omega | (constructor <;> omega)) ?_
    refine Tr.t (hr0 (A.getD i []) (mem_getD hi)) ?_
    refine Tr.t (by first | omega | (constructor <;> omega)) ?_
    rw [Tr.val_ok, wrap64 (i := (i : Int) + 1) (by omega) (by omega)]; rfl
  · show (qbe_3_step A (A.map qbe_g) (A.length : Int)).val = _
    refine Tr.n (by simp) ?_
    rfl
theorem qbe_is3 : LoopIs tab FT D10 live 34 qbe_lo 0 3 := by
  refine loop_told (sl := qbe_3_sl) (step := qbe_3_st) (out := qbe_3_out) (lor := qbe_lo3) (fin := fun x => (qbe_3_fin (x.1) (x.2.1) (x.2.2))) (fun _ => rfl) ?_ (fun x n => qbe_3_r x.1 x.2.1 x.2.2 n) (fun x ow => qbe_3_h x.1 x.2.1 x.2.2 ow)
  intro s t h
  unfold qbe_lo3 at h
  split at h
  · cases h; exact ⟨(_, _, _), rfl, rfl⟩
  · cases h
noncomputable def qbe_t (A : LL) : Tr (LL) := (.ite (0 ≤ (A.length : Int) ∧ (A.length : Int) ≤ (A.length : Int) ∧ (A.length : Int) * 152 ≤ 140737488355328 ∧ (A.length : Int) ≤ 140737488355328) (.ite ((qbe_o3_1 A (List.replicate ((A.length : Int)).toNat [TC.s [], TC.i (0 : Int), TC.i (0 : Int), TC.i (0 : Int), TC.b false, TC.b false, TC.l [], TC.l [], TC.l [], TC.l [], TC.i (0 : Int)]) (0 : Int)) = true) (.ok A)
   .no)
  .no)
def qbe_mk (p : LL) : Res := [(false, [⟨.slice 71, .own true, TC.l p⟩])]
noncomputable def qbe_c (A : LL) : Bool := is (Typed tab (.slice 67) (.l A) ∧ (∀ x : List TC, x ∈ A → (qbw_c ((nth x 0).str) ((nth x 1).int) ((nth x 2).int) ((nth x 3).int) ((nth x 4).bool) ((nth x 5).bool) ((nth x 6).list) ((nth x 7).list) ((nth x 8).list) ((nth x 9).list) ((nth x 10).int)) = true))
noncomputable def qbe_v (A : LL) : LL := A
theorem qbe_l (A : LL) : (qbe_c A) = true → (qbe_t A).val = some (qbe_v A) := by
  intro h
  obtain ⟨ht, hr0⟩ := is_iff.1 h
  have hb := typed_room ht
  simp only [show (tab 67).bytes = 152 from rfl] at hb
  unfold qbe_t
  refine Tr.t (by omega) ?_
  refine Tr.t (is_true ⟨ht, hr0, by rfl, rfl⟩) ?_
  rfl
noncomputable def qbe_S : List Arg → Option (Bool × Res) := fun xs => match xs with
  | [(false, [(.slice 67, TC.l A)])] => some ((qbe_c A), qbe_mk (qbe_v A))
  | _ => .none
theorem qbe_e (A : LL) : runF tab FT D10 live 34 qbe_lo [(false, [(.slice 67, TC.l A)])] = (qbe_t A).run fun p => some (qbe_mk p) := by kernel_rfl
theorem qbe_s : ∀ xs r, qbe_S xs = some (true, r) → runF tab FT D10 live 34 qbe_lo xs = some r := by
  intro xs r h
  unfold qbe_S at h
  split at h
  · simp only [Option.some.injEq, Prod.mk.injEq] at h
    obtain ⟨h1, rfl⟩ := h
    exact fun_told (qbe_e _) (qbe_l _) h1
  · cases h
noncomputable def D11 : Dt := also D10 34 qbe_S
theorem d11 : DOk Go.Proofs.Try.prog tab D11 := d10.also mixed_ok tab_ok names_ok (fnLoops_one (by kernel_rfl) qbe_is3) qbe_s
theorem qbe_ty {A : LL} (h : Typed tab (.slice 67) (.l A)) : Typed tab (.slice 71) (.l A) := typed_iso iso_ok h (by decide)
noncomputable def qbk_g (x : List TC) : List TC := [TC.i ((qq_rv ((nth x 0).int) ((nth x 1).int) ((nth x 2).bool) ((nth x 3).bool) ((nth x 4).list) ((nth x 5).list) ((nth x 6).list) ((nth x 7).list) ((nth x 8).int)).1), TC.i ((qq_rv ((nth x 0).int) ((nth x 1).int) ((nth x 2).bool) ((nth x 3).bool) ((nth x 4).list) ((nth x 5).list) ((nth x 6).list) ((nth x 7).list) ((nth x 8).int)).2.1), TC.b ((qq_rv ((nth x 0).int) ((nth x 1).int) ((nth x 2).bool) ((nth x 3).bool) ((nth x 4).list) ((nth x 5).list) ((nth x 6).list) ((nth x 7).list) ((nth x 8).int)).2.2.1), TC.b ((qq_rv ((nth x 0).int) ((nth x 1).int) ((nth x 2).bool) ((nth x 3).bool) ((nth x 4).list) ((nth x 5).list) ((nth x 6).list) ((nth x 7).list) ((nth x 8).int)).2.2.2.1), TC.l ((qq_rv ((nth x 0).int) ((nth x 1).int) ((nth x 2).bool) ((nth x 3).bool) ((nth x 4).list) ((nth x 5).list) ((nth x 6).list) ((nth x 7).list) ((nth x 8).int)).2.2.2.2.1), TC.l ((qq_rv ((nth x 0).int) ((nth x 1).int) ((nth x 2).bool) ((nth x 3).bool) ((nth x 4).list) ((nth x 5).list) ((nth x 6).list) ((nth x 7).list) ((nth x 8).int)).2.2.2.2.2.1), TC.l ((qq_rv ((nth x 0).int) ((nth x 1).int) ((nth x 2).bool) ((nth x 3).bool) ((nth x 4).list) ((nth x 5).list) ((nth x 6).list) ((nth x 7).list) ((nth x 8).int)).2.2.2.2.2.2.1), TC.l ((qq_rv ((nth x 0).int) ((nth x 1).int) ((nth x 2).bool) ((nth x 3).bool) ((nth x 4).list) ((nth x 5).list) ((nth x 6).list) ((nth x 7).list) ((nth x 8).int)).2.2.2.2.2.2.2.1), TC.i ((qq_rv ((nth x 0).int) ((nth x 1).int) ((nth x 2).bool) ((nth x 3).bool) ((nth x 4).list) ((nth x 5).list) ((nth x 6).list) ((nth x 7).list) ((nth x 8).int)).2.2.2.2.2.2.2.2)]
def qbk_z : List TC := [TC.i (0 : Int), TC.i (0 : Int), TC.b false, TC.b false, TC.l [], TC.l [], TC.l [], TC.l [], TC.i (0 : Int)]
theorem qbk_id {A : LL} (h : Typed tab (.slice 27) (.l A)) : A.map qbk_g = A := map_same fun x hx => by
  obtain ⟨hl, hk⟩ := typed_elem h hx
  have e0 : TC.i ((nth x 0).int) = nth x 0 := typed_int_eq (hk 0 (by decide))
  have e1 : TC.i ((nth x 1).int) = nth x 1 := typed_int_eq (hk 1 (by decide))
  have e2 : TC.b ((nth x 2).bool) = nth x 2 := typed_bool_eq (hk 2 (by decide))
  have e3 : TC.b ((nth x 3).bool) = nth x 3 := typed_bool_eq (hk 3 (by decide))
  have e4 : TC.l ((nth x 4).list) = nth x 4 := typed_list_eq (hk 4 (by decide))
  have e5 : TC.l ((nth x 5).list) = nth x 5 := typed_list_eq (hk 5 (by decide))
  have e6 : TC.l ((nth x 6).list) = nth x 6 := typed_list_eq (hk 6 (by decide))
  have e7 : TC.l ((nth x 7).list) = nth x 7 := typed_list_eq (hk 7 (by decide))
  have e8 : TC.i ((nth x 8).int) = nth x 8 := typed_int_eq (hk 8 (by decide))
  show [TC.i ((nth x 0).int), TC.i ((nth x 1).int), TC.b ((nth x 2).bool), TC.b ((nth x 3).bool), TC.l ((nth x 4).list), TC.l ((nth x 5).list), TC.l ((nth x 6).list), TC.l ((nth x 7).list), TC.i ((nth x 8).int)] = _
  rw [e0, e1, e2, e3, e4, e5, e6, e7, e8]
  exact (row_eta hl).symm
abbrev qbk_3_σ := LL × LL × Int
abbrev qbk_3_ω := (LL)
noncomputable def qbk_3_step (A X : LL) (i : Int) : Tr (qbk_3_σ ⊕ qbk_3_ω) := (.ite ((decide (i < (A.length : Int))) = true) (.ite ((0 : Int) ≤ i ∧ i < (A.length : Int)) (.ite ((qq_rc ((nth (row A i) 0).int) ((nth (row A i) 1).int) ((nth (row A i) 2).bool) ((nth (row A i) 3).bool) ((nth (row A i) 4).list) ((nth (row A i) 5).list) ((nth (row A i) 6).list) ((nth (row A i) 7).list) ((nth (row A i) 8).int)) = true) (.ite ((0 : Int) ≤ i ∧ i < (X.length : Int)) (.ok (.inl (A, (X.set (i).toNat (splice (row X i) 0 [TC.i ((qq_rv ((nth (row A i) 0).int) ((nth (row A i) 1).int) ((nth (row A i) 2).bool) ((nth (row A i) 3).bool) ((nth (row A i) 4).list) ((nth (row A i) 5).list) ((nth (row A i) 6).list) ((nth (row A i) 7).list) ((nth (row A i) 8).int)).1), TC.i ((qq_rv ((nth (row A i) 0).int) ((nth (row A i) 1).int) ((nth (row A i) 2).bool) ((nth (row A i) 3).bool) ((nth (row A i) 4).list) ((nth (row A i) 5).list) ((nth (row A i) 6).list) ((nth (row A i) 7).list) ((nth (row A i) 8).int)).2.1), TC.b ((qq_rv ((nth (row A i) 0).int) ((nth (row A i) 1).int) ((nth (row A i) 2).bool) ((nth (row A i) 3).bool) ((nth (row A i) 4).list) ((nth (row A i) 5).list) ((nth (row A i) 6).list) ((nth (row A i) 7).list) ((nth (row A i) 8).int)).2.2.1), TC.b ((qq_rv ((nth (row A i) 0).int) ((nth (row A i) 1).int) ((nth (row A i) 2).bool) ((nth (row A i) 3).bool) ((nth (row A i) 4).list) ((nth (row A i) 5).list) ((nth (row A i) 6).list) ((nth (row A i) 7).list) ((nth (row A i) 8).int)).2.2.2.1), TC.l ((qq_rv ((nth (row A i) 0).int) ((nth (row A i) 1).int) ((nth (row A i) 2).bool) ((nth (row A i) 3).bool) ((nth (row A i) 4).list) ((nth (row A i) 5).list) ((nth (row A i) 6).list) ((nth (row A i) 7).list) ((nth (row A i) 8).int)).2.2.2.2.1), TC.l ((qq_rv ((nth (row A i) 0).int) ((nth (row A i) 1).int) ((nth (row A i) 2).bool) ((nth (row A i) 3).bool) ((nth (row A i) 4).list) ((nth (row A i) 5).list) ((nth (row A i) 6).list) ((nth (row A i) 7).list) ((nth (row A i) 8).int)).2.2.2.2.2.1), TC.l ((qq_rv ((nth (row A i) 0).int) ((nth (row A i) 1).int) ((nth (row A i) 2).bool) ((nth (row A i) 3).bool) ((nth (row A i) 4).list) ((nth (row A i) 5).list) ((nth (row A i) 6).list) ((nth (row A i) 7).list) ((nth (row A i) 8).int)).2.2.2.2.2.2.1), TC.l ((qq_rv ((nth (row A i) 0).int) ((nth (row A i) 1).int) ((nth (row A i) 2).bool) ((nth (row A i) 3).bool) ((nth (row A i) 4).list) ((nth (row A i) 5).list) ((nth (row A i) 6).list) ((nth (row A i) 7).list) ((nth (row A i) 8).int)).2.2.2.2.2.2.2.1), TC.i ((qq_rv ((nth (row A i) 0).int) ((nth (row A i) 1).int) ((nth (row A i) 2).bool) ((nth (row A i) 3).bool) ((nth (row A i) 4).list) ((nth (row A i) 5).list) ((nth (row A i) 6).list) ((nth (row A i) 7).list) ((nth (row A i) 8).int)).2.2.2.2.2.2.2.2)])), (IntKind.wrap .i64 (i + (1 : Int))))))
     .no)
    .no)
   .no)
  (.ok (.inr X)))
noncomputable def qbk_3_st : qbk_3_σ → Tr (qbk_3_σ ⊕ qbk_3_ω) := fun x => (qbk_3_step (x.1) (x.2.1) (x.2.2))
noncomputable def qbk_o3_1 (A X : LL) (i : Int) : Bool := is (Typed tab (.slice 27) (.l A) ∧ (∀ x : List TC, x ∈ A → (qq_rc ((nth x 0).int) ((nth x 1).int) ((nth x 2).bool) ((nth x 3).bool) ((nth x 4).list) ((nth x 5).list) ((nth x 6).list) ((nth x 7).list) ((nth x 8).int)) = true) ∧ X = List.replicate A.length qbk_z ∧ i = 0)
noncomputable def qbk_3_fin (A X : LL) (i : Int) : Told qbk_3_ω := (.leaf (qbk_o3_1 A X i) A)
def qbk_3_sl (x : qbk_3_σ) : List Slot := [⟨.val false [⟨.slice 27, .sh, TC.l (x.1)⟩], ⟨0, 0⟩⟩, ⟨.val false [⟨.slice 32, .own true, TC.l (x.2.1)⟩], ⟨0, 0⟩⟩, ⟨.val false [⟨.int .i64, .sh, TC.i (x.2.2)⟩], ⟨0, 0⟩⟩]
def qbk_3_out : qbk_3_ω → Ex × List Slot := (fun x => (.exit 0, [Slot.none, ⟨.val false [⟨.slice 32, .own true, TC.l x⟩], ⟨0, 0⟩⟩]))
noncomputable def qbk_lo3 : List Slot → Option (Told (Ex × List Slot)) := fun s => match s with
  | [⟨.val false [⟨.slice 27, .sh, TC.l A⟩], ⟨0, 0⟩⟩, ⟨.val false [⟨.slice 32, .own true, TC.l X⟩], ⟨0, 0⟩⟩, ⟨.val false [⟨.int .i64, .sh, TC.i i⟩], ⟨0, 0⟩⟩] => some (((qbk_3_fin A X i)).map qbk_3_out)
  | _ => .none
noncomputable def qbk_lo : LoopTeller := fun r s => bif Nat.beq r 3 then qbk_lo3 s else .none
theorem qbk_3_r (A X : LL) (i : Int) (fuel : Nat) : rounds (rnd tab FT D11 live 35 qbk_lo 0 3) leave (fuel + 1) (qbk_3_sl (A, X, i)) = ((qbk_3_step A X i)).run (goOn (fun s => rounds (rnd tab FT D11 live 35 qbk_lo 0 3) leave fuel (qbk_3_sl s)) fun w => some (qbk_3_out w)) := by kernel_rfl
theorem qbk_3_h (A X : LL) (i : Int) (ow : qbk_3_ω) : ((qbk_3_fin A X i)).val = some ow → ∃ fuel, loopN qbk_3_st fuel (A, X, i) = some ow := by
  intro h
  refine auto_leaf (R := A) (fun ho => ?_) h
  obtain ⟨ht, hr0, rfl, rfl⟩ := is_iff.1 ho
  have hlen : A.length ≤ 140737488351232 := by have := typed_room ht; simp only [show (tab 27).bytes = 128 from rfl] at this; omega
  have key := loopN_copy (step := qbk_3_st) A (List.replicate A.length qbk_z) qbk_g (fun Y i => (A, Y, (i : Int))) (A.map qbk_g) (by simp) (fun x hx i _ => by rw [(List.mem_replicate.1 hx).2]; exact Nat.le_refl 9) (fun Y i hi hl => ?_) ?_ A.length 0 (by omega)
  · rw [copied_zero, qbk_id ht] at key
    exact ⟨_, key⟩
  · have c4 : Typed tab (.slice 9) (.l (nth (A.getD i []) 4).list) := typed_list (typed_cell ht (A.getD i []) (mem_getD hi) 4 (by decide))
    have c5 : Typed tab (.slice 2) (.l (nth (A.getD i []) 5).list) := typed_list (typed_cell ht (A.getD i []) (mem_getD hi) 5 (by decide))
    have c6 : Typed tab (.slice 67) (.l (nth (A.getD i []) 6).list) := typed_list (typed_cell ht (A.getD i []) (mem_getD hi) 6 (by decide))
    have c7 : Typed tab (.slice 27) (.l (nth (A.getD i []) 7).list) := typed_list (typed_cell ht (A.getD i []) (mem_getD hi) 7 (by decide))
    show (qbk_3_step A Y (i : Int)).val = _
    unfold qbk_3_step
    refine Tr.t (by simp; omega) ?_
    refine Tr.t (by first | omega | (constructor <;> omega)) ?_
    refine Tr.t (hr0 (A.getD i []) (mem_getD hi)) ?_
    refine Tr.t (by first | omega | (constructor <;> omega)) ?_
    rw [Tr.val_ok, wrap64 (i := (i : Int) + 1) (by omega) (by omega)]; rfl
  · show (qbk_3_step A (A.map qbk_g) (A.length : Int)).val = _
    refine Tr.n (by simp) ?_
    rfl
theorem qbk_is3 : LoopIs tab FT D11 live 35 qbk_lo 0 3 := by
  refine loop_told (sl := qbk_3_sl) (step := qbk_3_st) (out := qbk_3_out) (lor := qbk_lo3) (fin := fun x => (qbk_3_fin (x.1) (x.2.1) (x.2.2))) (fun _ => rfl) ?_ (fun x n => qbk_3_r x.1 x.2.1 x.2.2 n) (fun x ow => qbk_3_h x.1 x.2.1 x.2.2 ow)
  intro s t h
  unfold qbk_lo3 at h
  split at h
  · cases h; exact ⟨(_, _, _), rfl, rfl⟩
  · cases h
noncomputable def qbk_t (A : LL) : Tr (LL) := (.ite (0 ≤ (A.length : Int) ∧ (A.length : Int) ≤ (A.length : Int) ∧ (A.length : Int) * 128 ≤ 140737488355328 ∧ (A.length : Int) ≤ 140737488355328) (.ite ((qbk_o3_1 A (List.replicate ((A.length : Int)).toNat [TC.i (0 : Int), TC.i (0 : Int), TC.b false, TC.b false, TC.l [], TC.l [], TC.l [], TC.l [], TC.i (0 : Int)]) (0 : Int)) = true) (.ok A)
   .no)
  .no)
def qbk_mk (p : LL) : Res := [(false, [⟨.slice 32, .own true, TC.l p⟩])]
noncomputable def qbk_c (A : LL) : Bool := is (Typed tab (.slice 27) (.l A) ∧ (∀ x : List TC, x ∈ A → (qq_rc ((nth x 0).int) ((nth x 1).int) ((nth x 2).bool) ((nth x 3).bool) ((nth x 4).list) ((nth x 5).list) ((nth x 6).list) ((nth x 7).list) ((nth x 8).int)) = true))
noncomputable def qbk_v (A : LL) : LL := A
theorem qbk_l (A : LL) : (qbk_c A) = true → (qbk_t A).val = some (qbk_v A) := by
  intro h
  obtain ⟨ht, hr0⟩ := is_iff.1 h
  have hb := typed_room ht
  simp only [show (tab 27).bytes = 128 from rfl] at hb
  unfold qbk_t
  refine Tr.t (by omega) ?_
  refine Tr.t (is_true ⟨ht, hr0, by rfl, rfl⟩) ?_
  rfl
noncomputable def qbk_S : List Arg → Option (Bool × Res) := fun xs => match xs with
  | [(false, [(.slice 27, TC.l A)])] => some ((qbk_c A), qbk_mk (qbk_v A))
  | _ => .none
theorem qbk_e (A : LL) : runF tab FT D11 live 35 qbk_lo [(false, [(.slice 27, TC.l A)])] = (qbk_t A).run fun p => some (qbk_mk p) := by kernel_rfl
theorem qbk_s : ∀ xs r, qbk_S xs = some (true, r) → runF tab FT D11 live 35 qbk_lo xs = some r := by
  intro xs r h
  unfold qbk_S at h
  split at h
  · simp only [Option.some.injEq, Prod.mk.injEq] at h
    obtain ⟨h1, rfl⟩ := h
    exact fun_told (qbk_e _) (qbk_l _) h1
  · cases h
noncomputable def D12 : Dt := also D11 35 qbk_S
theorem d12 : DOk Go.Proofs.Try.prog tab D12 := d11.also mixed_ok tab_ok names_ok (fnLoops_one (by kernel_rfl) qbk_is3) qbk_s
theorem qbk_ty {A : LL} (h : Typed tab (.slice 27) (.l A)) : Typed tab (.slice 32) (.l A) := typed_iso iso_ok h (by decide)
noncomputable def qq_t (x0 x1 : Int) (x2 x3 : Bool) (x4 x5 x6 x7 : LL) (x8 : Int) : Tr (Int × Int × Bool × Bool × LL × LL × LL × LL × Int) := (.ite ((qbd_c x4) = true) (.ite ((qbg_c x5) = true) (.ite ((qbe_c x6) = true) (.ite ((qbk_c x7) = true) (.ok (x0, x1, x2, x3, (qbd_v x4), (qbg_v x5), (qbe_v x6), (qbk_v x7), x8))
     .no)
    .no)
   .no)
  .no)
def qq_mk (p : Int × Int × Bool × Bool × LL × LL × LL × LL × Int) : Res := [(true, [⟨.int .i64, .sh, TC.i (p.1)⟩, ⟨.int .i64, .sh, TC.i (p.2.1)⟩, ⟨.bool, .sh, TC.b (p.2.2.1)⟩, ⟨.bool, .sh, TC.b (p.2.2.2.1)⟩, ⟨.slice 9, .own true, TC.l (p.2.2.2.2.1)⟩, ⟨.slice 2, .own true, TC.l (p.2.2.2.2.2.1)⟩, ⟨.slice 71, .own true, TC.l (p.2.2.2.2.2.2.1)⟩, ⟨.slice 32, .own true, TC.l (p.2.2.2.2.2.2.2.1)⟩, ⟨.int .i64, .sh, TC.i (p.2.2.2.2.2.2.2.2)⟩])]
noncomputable def qq_c (x0 x1 : Int) (x2 x3 : Bool) (x4 x5 x6 x7 : LL) (x8 : Int) : Bool := ((qbd_c x4) && ((qbg_c x5) && ((qbe_c x6) && ((qbk_c x7) && true))))
noncomputable def qq_v (x0 x1 : Int) (x2 x3 : Bool) (x4 x5 x6 x7 : LL) (x8 : Int) : Int × Int × Bool × Bool × LL × LL × LL × LL × Int := (x0, x1, x2, x3, (qbd_v x4), (qbg_v x5), (qbe_v x6), (qbk_v x7), x8)
theorem qq_l (x0 x1 : Int) (x2 x3 : Bool) (x4 x5 x6 x7 : LL) (x8 : Int) : (qq_c x0 x1 x2 x3 x4 x5 x6 x7 x8) = true → (qq_t x0 x1 x2 x3 x4 x5 x6 x7 x8).val = some (qq_v x0 x1 x2 x3 x4 x5 x6 x7 x8) := by
  unfold qq_t qq_v qq_c
  exact fun h => (Tr.gb h fun h => (Tr.gb h fun h => (Tr.gb h fun h => (Tr.gb h fun h => rfl))))
noncomputable def qq_S : List Arg → Option (Bool × Res) := fun xs => match xs with
  | [(true, [(.int .i64, TC.i x0), (.int .i64, TC.i x1), (.bool, TC.b x2), (.bool, TC.b x3), (.slice 9, TC.l x4), (.slice 2, TC.l x5), (.slice 67, TC.l x6), (.slice 27, TC.l x7), (.int .i64, TC.i x8)])] => some ((qq_c x0 x1 x2 x3 x4 x5 x6 x7 x8), qq_mk (qq_v x0 x1 x2 x3 x4 x5 x6 x7 x8))
  | _ => .none
theorem qq_e (x0 x1 : Int) (x2 x3 : Bool) (x4 x5 x6 x7 : LL) (x8 : Int) : runF tab FT D12 live 11 noLoops [(true, [(.int .i64, TC.i x0), (.int .i64, TC.i x1), (.bool, TC.b x2), (.bool, TC.b x3), (.slice 9, TC.l x4), (.slice 2, TC.l x5), (.slice 67, TC.l x6), (.slice 27, TC.l x7), (.int .i64, TC.i x8)])] = (qq_t x0 x1 x2 x3 x4 x5 x6 x7 x8).run fun p => some (qq_mk p) := by kernel_rfl
theorem qq_s : ∀ xs r, qq_S xs = some (true, r) → runF tab FT D12 live 11 noLoops xs = some r := by
  intro xs r h
  unfold qq_S at h
  split at h
  · simp only [Option.some.injEq, Prod.mk.injEq] at h
    obtain ⟨h1, rfl⟩ := h
    exact fun_told (qq_e _ _ _ _ _ _ _ _ _) (qq_l _ _ _ _ _ _ _ _ _) h1
  · cases h
theorem qq_nx (x0 x1 : Int) (x2 x3 : Bool) (x4 x5 x6 x7 : LL) (x8 : Int) : is (max (rowsDep x6) (rowsDep x7) < qq_O.n + 1 ∧ Typed tab (.slice 9) (.l x4) ∧ Typed tab (.slice 2) (.l x5) ∧ Typed tab (.slice 67) (.l x6) ∧ Typed tab (.slice 27) (.l x7)) = true → (qq_c x0 x1 x2 x3 x4 x5 x6 x7 x8) = true ∧ (qq_v x0 x1 x2 x3 x4 x5 x6 x7 x8) = (x0, x1, x2, x3, x4, x5, x6, x7, x8) := by
  intro h
  obtain ⟨hM, t4, t5, t6, t7⟩ := is_iff.1 h
  refine ⟨?_, rfl⟩
  unfold qq_c
  refine andT (by exact is_true t4) ?_
  refine andT (by exact is_true t5) ?_
  refine andT (by exact is_true ⟨t6, fun x hx => is_true ⟨by have a := dep_cell hx 8; have b := dep_cell hx 9; omega, typed_list ((typed_elem t6 hx).2 6 (by decide)), typed_list ((typed_elem t6 hx).2 7 (by decide)), typed_list ((typed_elem t6 hx).2 8 (by decide)), typed_list ((typed_elem t6 hx).2 9 (by decide))⟩⟩) ?_
  refine andT (by exact is_true ⟨t7, fun x hx => is_true ⟨by have a := dep_cell hx 6; have b := dep_cell hx 7; omega, typed_list ((typed_elem t7 hx).2 4 (by decide)), typed_list ((typed_elem t7 hx).2 5 (by decide)), typed_list ((typed_elem t7 hx).2 6 (by decide)), typed_list ((typed_elem t7 hx).2 7 (by decide))⟩⟩) ?_
  rfl
theorem qq_nxr (x0 x1 : Int) (x2 x3 : Bool) (x4 x5 x6 x7 : LL) (x8 : Int) : qq_rc (i_laws_toType := ⟨qq_O.n + 1⟩) x0 x1 x2 x3 x4 x5 x6 x7 x8 = true → (qq_c x0 x1 x2 x3 x4 x5 x6 x7 x8) = true ∧ (qq_v x0 x1 x2 x3 x4 x5 x6 x7 x8) = (qq_rv x0 x1 x2 x3 x4 x5 x6 x7 x8) := fun h => qq_nx x0 x1 x2 x3 x4 x5 x6 x7 x8 h
theorem qq_rs : ∀ xs r, qq_rS (i_laws_toType := ⟨qq_O.n + 1⟩) xs = some (true, r) → runF tab FT D12 live 11 noLoops xs = some r := by
  intro xs r h
  unfold qq_rS at h
  split at h
  · simp only [Option.some.injEq, Prod.mk.injEq] at h
    obtain ⟨h1, rfl⟩ := h
    have hx := qq_nxr _ _ _ _ _ _ _ _ _ h1
    have ht := fun_told (qq_e _ _ _ _ _ _ _ _ _) (qq_l _ _ _ _ _ _ _ _ _) hx.1
    rw [hx.2] at ht
    exact ht
  · cases h
theorem qq_step : qq_G (i_laws_toType := ⟨qq_O.n + 1⟩) := by
  have h := DOk.also2 (S := qq_rS (i_laws_toType := ⟨qq_O.n + 1⟩)) mixed_ok tab_ok names_ok d8 d12 noLoops_ok qq_rs
  refine qq_G.mk (i_laws_toType := ⟨qq_O.n + 1⟩) ?_
  exact h
section
class qo_O where n : Nat
variable [i_spec_l02Size : qo_O]
noncomputable def qo_rc (k s : Int) (sg bg : Bool) (NA NU ME BA : LL) (ct : Int) : Bool := is (rowsDep BA < qo_O.n ∧ sizeC k BA = true)
noncomputable def qo_rv (k s : Int) (sg bg : Bool) (NA NU ME BA : LL) (ct : Int) : Int := sizeV k s BA ct
def qo_rmk (p : Int) : Res := [(false, [⟨.int .i64, .sh, TC.i p⟩])]
noncomputable def qo_rS : List Arg → Option (Bool × Res) := fun xs => match xs with
  | [(true, [(.int .i64, TC.i k), (.int .i64, TC.i s), (.bool, TC.b sg), (.bool, TC.b bg), (.slice 9, TC.l NA), (.slice 2, TC.l NU), (.slice 71, TC.l ME), (.slice 32, TC.l BA), (.int .i64, TC.i ct)])] => some ((qo_rc k s sg bg NA NU ME BA ct), qo_rmk (qo_rv k s sg bg NA NU ME BA ct))
  | _ => .none
noncomputable def D13 : Dt := also D12 69 qo_rS
class qo_G : Prop where ok : DOk Go.Proofs.Try.prog tab D13
variable [g_spec_l02Size : qo_G]
theorem d13 : DOk Go.Proofs.Try.prog tab D13 := qo_G.ok
noncomputable def qo_t (k s : Int) (sg bg : Bool) (NA NU ME BA : LL) (ct : Int) : Tr (Int) := (.ite ((k == (3 : Int)) = true) (.ite ((0 : Int) ≤ (0 : Int) ∧ (0 : Int) < (BA.length : Int)) (.ok ((nth (row BA (0 : Int)) 1).int))
   .no)
  (.ite ((k == (5 : Int)) = true) (.ite ((0 : Int) ≤ (0 : Int) ∧ (0 : Int) < (BA.length : Int)) (.ite ((qo_rc ((nth (row BA (0 : Int)) 0).int) ((nth (row BA (0 : Int)) 1).int) ((nth (row BA (0 : Int)) 2).bool) ((nth (row BA (0 : Int)) 3).bool) ((nth (row BA (0 : Int)) 4).list) ((nth (row BA (0 : Int)) 5).list) ((nth (row BA (0 : Int)) 6).list) ((nth (row BA (0 : Int)) 7).list) ((nth (row BA (0 : Int)) 8).int)) = true) (.ok (IntKind.wrap .i64 (ct * (qo_rv ((nth (row BA (0 : Int)) 0).int) ((nth (row BA (0 : Int)) 1).int) ((nth (row BA (0 : Int)) 2).bool) ((nth (row BA (0 : Int)) 3).bool) ((nth (row BA (0 : Int)) 4).list) ((nth (row BA (0 : Int)) 5).list) ((nth (row BA (0 : Int)) 6).list) ((nth (row BA (0 : Int)) 7).list) ((nth (row BA (0 : Int)) 8).int)))))
     .no)
    .no)
   (.ok s)))
def qo_mk (p : Int) : Res := [(false, [⟨.int .i64, .sh, TC.i p⟩])]
noncomputable def qo_c (k s : Int) (sg bg : Bool) (NA NU ME BA : LL) (ct : Int) : Bool := (bif (k == (3 : Int)) then (is ((0 : Int) ≤ (0 : Int) ∧ (0 : Int) < (BA.length : Int)) && true) else (bif (k == (5 : Int)) then (is ((0 : Int) ≤ (0 : Int) ∧ (0 : Int) < (BA.length : Int)) && ((qo_rc ((nth (row BA (0 : Int)) 0).int) ((nth (row BA (0 : Int)) 1).int) ((nth (row BA (0 : Int)) 2).bool) ((nth (row BA (0 : Int)) 3).bool) ((nth (row BA (0 : Int)) 4).list) ((nth (row BA (0 : Int)) 5).list) ((nth (row BA (0 : Int)) 6).list) ((nth (row BA (0 : Int)) 7).list) ((nth (row BA (0 : Int)) 8).int)) && true)) else true))
noncomputable def qo_v (k s : Int) (sg bg : Bool) (NA NU ME BA : LL) (ct : Int) : Int := (bif (k == (3 : Int)) then (nth (row BA (0 : Int)) 1).int else (bif (k == (5 : Int)) then (IntKind.wrap .i64 (ct * (qo_rv ((nth (row BA (0 : Int)) 0).int) ((nth (row BA (0 : Int)) 1).int) ((nth (row BA (0 : Int)) 2).bool) ((nth (row BA (0 : Int)) 3).bool) ((nth (row BA (0 : Int)) 4).list) ((nth (row BA (0 : Int)) 5).list) ((nth (row BA (0 : Int)) 6).list) ((nth (row BA (0 : Int)) 7).list) ((nth (row BA (0 : Int)) 8).int)))) else s))
theorem qo_l (k s : Int) (sg bg : Bool) (NA NU ME BA : LL) (ct : Int) : (qo_c k s sg bg NA NU ME BA ct) = true → (qo_t k s sg bg NA NU ME BA ct).val = some (qo_v k s sg bg NA NU ME BA ct) := by
  unfold qo_t qo_v qo_c
  exact fun h => (Tr.ss h (fun h => (Tr.gs h fun h => rfl)) (fun h => (Tr.ss h (fun h => (Tr.gs h fun h => (Tr.gb h fun h => rfl))) (fun h => rfl))))
noncomputable def qo_S : List Arg → Option (Bool × Res) := fun xs => match xs with
  | [(true, [(.int .i64, TC.i k), (.int .i64, TC.i s), (.bool, TC.b sg), (.bool, TC.b bg), (.slice 9, TC.l NA), (.slice 2, TC.l NU), (.slice 71, TC.l ME), (.slice 32, TC.l BA), (.int .i64, TC.i ct)])] => some ((qo_c k s sg bg NA NU ME BA ct), qo_mk (qo_v k s sg bg NA NU ME BA ct))
  | _ => .none
theorem qo_e (k s : Int) (sg bg : Bool) (NA NU ME BA : LL) (ct : Int) : runF tab FT D13 live 69 noLoops [(true, [(.int .i64, TC.i k), (.int .i64, TC.i s), (.bool, TC.b sg), (.bool, TC.b bg), (.slice 9, TC.l NA), (.slice 2, TC.l NU), (.slice 71, TC.l ME), (.slice 32, TC.l BA), (.int .i64, TC.i ct)])] = (qo_t k s sg bg NA NU ME BA ct).run fun p => some (qo_mk p) := by kernel_rfl
theorem qo_s : ∀ xs r, qo_S xs = some (true, r) → runF tab FT D13 live 69 noLoops xs = some r := by
  intro xs r h
  unfold qo_S at h
  split at h
  · simp only [Option.some.injEq, Prod.mk.injEq] at h
    obtain ⟨h1, rfl⟩ := h
    exact fun_told (qo_e _ _ _ _ _ _ _ _ _) (qo_l _ _ _ _ _ _ _ _ _) h1
  · cases h
theorem qo_nx (k s : Int) (sg bg : Bool) (NA NU ME BA : LL) (ct : Int) : is (rowsDep BA < qo_O.n + 1 ∧ sizeC k BA = true) = true → (qo_c k s sg bg NA NU ME BA ct) = true ∧ (qo_v k s sg bg NA NU ME BA ct) = sizeV k s BA ct := by
  intro h
  obtain ⟨hM, hC⟩ := is_iff.1 h
  unfold qo_c qo_v
  rw [sizeC] at hC
  rw [sizeV]
  cases h3 : (k == 3) with
  | true =>
    simp only [h3, cond_true, decide_eq_true_eq] at hC
    exact ⟨andT (is_true (by constructor <;> omega)) rfl, rfl⟩
  | false =>
    cases h5 : (k == 5) with
    | true =>
      simp only [h3, h5, cond_true, cond_false] at hC ⊢
      split at hC
      · rename_i hb
        rw [dif_pos hb]
        have := pos_row hb 7
        exact ⟨andT (is_true (by constructor <;> omega)) (andT (is_true ⟨by omega, hC⟩) rfl), rfl⟩
      · cases hC
    | false => exact ⟨rfl, rfl⟩
theorem qo_nxr (k s : Int) (sg bg : Bool) (NA NU ME BA : LL) (ct : Int) : qo_rc (i_spec_l02Size := ⟨qo_O.n + 1⟩) k s sg bg NA NU ME BA ct = true → (qo_c k s sg bg NA NU ME BA ct) = true ∧ (qo_v k s sg bg NA NU ME BA ct) = (qo_rv k s sg bg NA NU ME BA ct) := fun h => qo_nx k s sg bg NA NU ME BA ct h
theorem qo_rs : ∀ xs r, qo_rS (i_spec_l02Size := ⟨qo_O.n + 1⟩) xs = some (true, r) → runF tab FT D13 live 69 noLoops xs = some r := by
  intro xs r h
  unfold qo_rS at h
  split at h
  · simp only [Option.some.injEq, Prod.mk.injEq] at h
    obtain ⟨h1, rfl⟩ := h
    have hx := qo_nxr _ _ _ _ _ _ _ _ _ h1
    have ht := fun_told (qo_e _ _ _ _ _ _ _ _ _) (qo_l _ _ _ _ _ _ _ _ _) hx.1
    rw [hx.2] at ht
    exact ht
  · cases h
theorem qo_step : qo_G (i_spec_l02Size := ⟨qo_O.n + 1⟩) := by
  have h := DOk.also2 (S := qo_rS (i_spec_l02Size := ⟨qo_O.n + 1⟩)) mixed_ok tab_ok names_ok d12 d13 noLoops_ok qo_rs
  refine qo_G.mk (i_spec_l02Size := ⟨qo_O.n + 1⟩) ?_
  exact h
section
class qg_O where n : Nat
variable [i_spec_l02Depth : qg_O]
noncomputable def qg_rc (k s : Int) (sg bg : Bool) (NA NU ME BA : LL) (ct : Int) : Bool := is (max (rowsDep ME) (rowsDep BA) < qg_O.n ∧ depthC k ME BA = true ∧ Typed tab (.slice 71) (.l ME) ∧ Typed tab (.slice 32) (.l BA))
noncomputable def qg_rv (k s : Int) (sg bg : Bool) (NA NU ME BA : LL) (ct : Int) : Int := depthV k ME BA
def qg_rmk (p : Int) : Res := [(false, [⟨.int .i64, .sh, TC.i p⟩])]
noncomputable def qg_rS : List Arg → Option (Bool × Res) := fun xs => match xs with
  | [(true, [(.int .i64, TC.i k), (.int .i64, TC.i s), (.bool, TC.b sg), (.bool, TC.b bg), (.slice 9, TC.l NA), (.slice 2, TC.l NU), (.slice 71, TC.l ME), (.slice 32, TC.l BA), (.int .i64, TC.i ct)])] => some ((qg_rc k s sg bg NA NU ME BA ct), qg_rmk (qg_rv k s sg bg NA NU ME BA ct))
  | _ => .none
noncomputable def D14 : Dt := also D13 70 qg_rS
class qg_G : Prop where ok : DOk Go.Proofs.Try.prog tab D14
variable [g_spec_l02Depth : qg_G]
theorem d14 : DOk Go.Proofs.Try.prog tab D14 := qg_G.ok
noncomputable def qcj_t (a0 a1 : Int) : Tr (Int) := (.ite ((decide (a0 > a1)) = true) (.ok a0)
  (.ok a1))
def qcj_mk (p : Int) : Res := [(false, [⟨.int .i64, .sh, TC.i p⟩])]
noncomputable def qcj_c (a0 a1 : Int) : Bool := true
noncomputable def qcj_v (a0 a1 : Int) : Int := (bif (decide (a0 > a1)) then a0 else a1)
theorem qcj_l (a0 a1 : Int) : (qcj_c a0 a1) = true → (qcj_t a0 a1).val = some (qcj_v a0 a1) := by
  intro h
  skip
  unfold qcj_t qcj_v
  exact (Tr.s rfl rfl)
noncomputable def qcj_S : List Arg → Option (Bool × Res) := fun xs => match xs with
  | [(false, [(.int .i64, TC.i a0)]), (false, [(.int .i64, TC.i a1)])] => some (true, qcj_mk (qcj_v a0 a1))
  | _ => .none
theorem qcj_e (a0 a1 : Int) : runF tab FT D14 live 87 noLoops [(false, [(.int .i64, TC.i a0)]), (false, [(.int .i64, TC.i a1)])] = (qcj_t a0 a1).run fun p => some (qcj_mk p) := by kernel_rfl
theorem qcj_s : ∀ xs r, qcj_S xs = some (true, r) → runF tab FT D14 live 87 noLoops xs = some r := by
  intro xs r h
  unfold qcj_S at h
  split at h
  · simp only [Option.some.injEq, Prod.mk.injEq] at h
    obtain ⟨h1, rfl⟩ := h
    exact fun_told (qcj_e _ _) (qcj_l _ _) rfl
  · cases h
noncomputable def D15 : Dt := also D14 87 qcj_S
theorem d15 : DOk Go.Proofs.Try.prog tab D15 := d14.also mixed_ok tab_ok names_ok noLoops_ok qcj_s
noncomputable def qg_f5 (k s : Int) (sg bg : Bool) (NA NU ME BA : LL) (ct i d : Int) : (Int) ⊕ ((Int)) := (.inl (qcj_v d (qg_rv ((nth (row ME i) 2).int) ((nth (row ME i) 3).int) ((nth (row ME i) 4).bool) ((nth (row ME i) 5).bool) ((nth (row ME i) 6).list) ((nth (row ME i) 7).list) ((nth (row ME i) 8).list) ((nth (row ME i) 9).list) ((nth (row ME i) 10).int))))
noncomputable def qg_e5 (k s : Int) (sg bg : Bool) (NA NU ME BA : LL) (ct d : Int) : (Int) := d
noncomputable def qg_R5 (k s : Int) (sg bg : Bool) (NA NU ME BA : LL) (ct d i : Int) : (Int) := iter (fun i a => (qg_f5 k s sg bg NA NU ME BA ct (i : Int) a)) (fun a => (qg_e5 k s sg bg NA NU ME BA ct a)) (ME.length) 0 d
abbrev qg_5_σ := Int × Int × Bool × Bool × LL × LL × LL × LL × Int × Int × Int
abbrev qg_5_ω := (Int)
noncomputable def qg_5_step (k s : Int) (sg bg : Bool) (NA NU ME BA : LL) (ct d i : Int) : Tr (qg_5_σ ⊕ qg_5_ω) := (.ite ((decide (i < (ME.length : Int))) = true) (.ite ((0 : Int) ≤ i ∧ i < (ME.length : Int)) (.ite ((qg_rc ((nth (row ME i) 2).int) ((nth (row ME i) 3).int) ((nth (row ME i) 4).bool) ((nth (row ME i) 5).bool) ((nth (row ME i) 6).list) ((nth (row ME i) 7).list) ((nth (row ME i) 8).list) ((nth (row ME i) 9).list) ((nth (row ME i) 10).int)) = true) (.ok (.inl (k, s, sg, bg, NA, NU, ME, BA, ct, (qcj_v d (qg_rv ((nth (row ME i) 2).int) ((nth (row ME i) 3).int) ((nth (row ME i) 4).bool) ((nth (row ME i) 5).bool) ((nth (row ME i) 6).list) ((nth (row ME i) 7).list) ((nth (row ME i) 8).list) ((nth (row ME i) 9).list) ((nth (row ME i) 10).int))), (IntKind.wrap .i64 (i + (1 : Int))))))
    .no)
   .no)
  (.ok (.inr d)))
noncomputable def qg_5_st : qg_5_σ → Tr (qg_5_σ ⊕ qg_5_ω) := fun x => (qg_5_step (x.1) (x.2.1) (x.2.2.1) (x.2.2.2.1) (x.2.2.2.2.1) (x.2.2.2.2.2.1) (x.2.2.2.2.2.2.1) (x.2.2.2.2.2.2.2.1) (x.2.2.2.2.2.2.2.2.1) (x.2.2.2.2.2.2.2.2.2.1) (x.2.2.2.2.2.2.2.2.2.2))
noncomputable def qg_o5_1 (k s : Int) (sg bg : Bool) (NA NU ME BA : LL) (ct d i : Int) : Bool := is (i = 0 ∧ ME.length ≤ 140737488355328 ∧ (∀ x : List TC, x ∈ ME → qg_rc (nth x 2).int (nth x 3).int (nth x 4).bool (nth x 5).bool (nth x 6).list (nth x 7).list (nth x 8).list (nth x 9).list (nth x 10).int = true))
noncomputable def qg_u5_1 (k s : Int) (sg bg : Bool) (NA NU ME BA : LL) (ct d i : Int) : Int := (qg_R5 k s sg bg NA NU ME BA ct d i)
noncomputable def qg_5_fin (k s : Int) (sg bg : Bool) (NA NU ME BA : LL) (ct d i : Int) : Told qg_5_ω := (.leaf (qg_o5_1 k s sg bg NA NU ME BA ct d i) (qg_u5_1 k s sg bg NA NU ME BA ct d i))
def qg_5_sl (x : qg_5_σ) : List Slot := [⟨.bx 32 [⟨.int .i64, .sh, TC.i (x.1)⟩, ⟨.int .i64, .sh, TC.i (x.2.1)⟩, ⟨.bool, .sh, TC.b (x.2.2.1)⟩, ⟨.bool, .sh, TC.b (x.2.2.2.1)⟩, ⟨.slice 9, .sh, TC.l (x.2.2.2.2.1)⟩, ⟨.slice 2, .sh, TC.l (x.2.2.2.2.2.1)⟩, ⟨.slice 71, .sh, TC.l (x.2.2.2.2.2.2.1)⟩, ⟨.slice 32, .sh, TC.l (x.2.2.2.2.2.2.2.1)⟩, ⟨.int .i64, .sh, TC.i (x.2.2.2.2.2.2.2.2.1)⟩], ⟨0, 0⟩⟩, ⟨.val false [⟨.int .i64, .sh, TC.i (x.2.2.2.2.2.2.2.2.2.1)⟩], ⟨0, 0⟩⟩, ⟨.val false [⟨.int .i64, .sh, TC.i (x.2.2.2.2.2.2.2.2.2.2)⟩], ⟨0, 0⟩⟩]
def qg_5_out : qg_5_ω → Ex × List Slot := (fun x => (.exit 1, [Slot.none, ⟨.val false [⟨.int .i64, .sh, TC.i x⟩], ⟨0, 0⟩⟩]))
noncomputable def qg_lo5 : List Slot → Option (Told (Ex × List Slot)) := fun s => match s with
  | [⟨.bx 32 [⟨.int .i64, .sh, TC.i k⟩, ⟨.int .i64, .sh, TC.i s⟩, ⟨.bool, .sh, TC.b sg⟩, ⟨.bool, .sh, TC.b bg⟩, ⟨.slice 9, .sh, TC.l NA⟩, ⟨.slice 2, .sh, TC.l NU⟩, ⟨.slice 71, .sh, TC.l ME⟩, ⟨.slice 32, .sh, TC.l BA⟩, ⟨.int .i64, .sh, TC.i ct⟩], ⟨0, 0⟩⟩, ⟨.val false [⟨.int .i64, .sh, TC.i d⟩], ⟨0, 0⟩⟩, ⟨.val false [⟨.int .i64, .sh, TC.i i⟩], ⟨0, 0⟩⟩] => some (((qg_5_fin k s sg bg NA NU ME BA ct d i)).map qg_5_out)
  | _ => .none
noncomputable def qg_lo : LoopTeller := fun r s => bif Nat.beq r 5 then qg_lo5 s else .none
theorem qg_5_r (k s : Int) (sg bg : Bool) (NA NU ME BA : LL) (ct d i : Int) (fuel : Nat) : rounds (rnd tab FT D15 live 70 qg_lo 0 5) leave (fuel + 1) (qg_5_sl (k, s, sg, bg, NA, NU, ME, BA, ct, d, i)) = ((qg_5_step k s sg bg NA NU ME BA ct d i)).run (goOn (fun s => rounds (rnd tab FT D15 live 70 qg_lo 0 5) leave fuel (qg_5_sl s)) fun w => some (qg_5_out w)) := by kernel_rfl
theorem qg_R5_eq (k s : Int) (sg bg : Bool) (NA NU ME BA : LL) (ct d : Int) : qg_R5 k s sg bg NA NU ME BA ct d 0 = ME.foldl (fun d x => maxI d (depthV (nth x 2).int (nth x 8).list (nth x 9).list)) d := by
  unfold qg_R5
  rw [← foldI_rows (g := fun d x => maxI d (depthV (nth x 2).int (nth x 8).list (nth x 9).list))]
  exact iter_each (g := fun i d => maxI d (depthV (nth (row ME (i : Int)) 2).int (nth (row ME (i : Int)) 8).list (nth (row ME (i : Int)) 9).list)) (fin := fun a => qg_e5 k s sg bg NA NU ME BA ct a) fun j a hj => rfl
theorem qg_5_h (k s : Int) (sg bg : Bool) (NA NU ME BA : LL) (ct d i : Int) (ow : qg_5_ω) : ((qg_5_fin k s sg bg NA NU ME BA ct d i)).val = some ow → ∃ fuel, loopN qg_5_st fuel (k, s, sg, bg, NA, NU, ME, BA, ct, d, i) = some ow := by
  refine auto_leaf (R := (qg_R5 k s sg bg NA NU ME BA ct d i)) ?_
  intro ho
  have ho : is (i = 0 ∧ ME.length ≤ 140737488355328 ∧ (∀ x : List TC, x ∈ ME → qg_rc (nth x 2).int (nth x 3).int (nth x 4).bool (nth x 5).bool (nth x 6).list (nth x 7).list (nth x 8).list (nth x 9).list (nth x 10).int = true)) = true := ho
  obtain ⟨rfl, hl, hr⟩ := is_iff.1 ho
  skip
  refine ⟨(ME.length) + 1, ?_⟩
  refine iter_loop (step := qg_5_st) (ME.length) (fun i a => (qg_f5 k s sg bg NA NU ME BA ct (i : Int) a)) (fun a => (qg_e5 k s sg bg NA NU ME BA ct a)) (fun i a => (k, s, sg, bg, NA, NU, ME, BA, ct, a, (i : Int))) (fun _ _ => True) trivial (fun i a hi hI => ⟨?_, fun _ _ => trivial⟩) (fun a hI => ?_)
  · show (qg_5_step k s sg bg NA NU ME BA ct a (i : Int)).val = _
    unfold qg_5_step qg_f5
    skip
    refine Tr.t (by simp; omega) ?_
    exact (Tr.t (by first | omega | (constructor <;> omega) | (exact hr _ (mem_getD (by omega)))) (Tr.t (by first | omega | (constructor <;> omega) | (exact hr _ (mem_getD (by omega)))) (by rw [Tr.val_ok, wrap64 (i := (i : Int) + 1) (by omega) (by omega)]; rfl)))
  · show (qg_5_step k s sg bg NA NU ME BA ct a (ME.length : Int)).val = _
    refine Tr.n (by first | (simp; done) | (simp; omega) | omega) ?_
    rfl
theorem qg_is5 : LoopIs tab FT D15 live 70 qg_lo 0 5 := by
  refine loop_told (sl := qg_5_sl) (step := qg_5_st) (out := qg_5_out) (lor := qg_lo5) (fin := fun x => (qg_5_fin (x.1) (x.2.1) (x.2.2.1) (x.2.2.2.1) (x.2.2.2.2.1) (x.2.2.2.2.2.1) (x.2.2.2.2.2.2.1) (x.2.2.2.2.2.2.2.1) (x.2.2.2.2.2.2.2.2.1) (x.2.2.2.2.2.2.2.2.2.1) (x.2.2.2.2.2.2.2.2.2.2))) (fun _ => rfl) ?_ (fun x n => qg_5_r x.1 x.2.1 x.2.2.1 x.2.2.2.1 x.2.2.2.2.1 x.2.2.2.2.2.1 x.2.2.2.2.2.2.1 x.2.2.2.2.2.2.2.1 x.2.2.2.2.2.2.2.2.1 x.2.2.2.2.2.2.2.2.2.1 x.2.2.2.2.2.2.2.2.2.2 n) (fun x ow => qg_5_h x.1 x.2.1 x.2.2.1 x.2.2.2.1 x.2.2.2.2.1 x.2.2.2.2.2.1 x.2.2.2.2.2.2.1 x.2.2.2.2.2.2.2.1 x.2.2.2.2.2.2.2.2.1 x.2.2.2.2.2.2.2.2.2.1 x.2.2.2.2.2.2.2.2.2.2 ow)
  intro s t h
  unfold qg_lo5 at h
  split at h
  · cases h; exact ⟨(_, _, _, _, _, _, _, _, _, _, _), rfl, rfl⟩
  · cases h
noncomputable def qg_t (k s : Int) (sg bg : Bool) (NA NU ME BA : LL) (ct : Int) : Tr (Int) := (.ite ((k == (4 : Int)) = true) (.ite ((qg_o5_1 k s sg bg NA NU ME BA ct (0 : Int) (0 : Int)) = true) (.ok (IntKind.wrap .i64 ((qg_u5_1 k s sg bg NA NU ME BA ct (0 : Int) (0 : Int)) + (1 : Int))))
   .no)
  (.ite ((k == (5 : Int)) = true) (.ite ((0 : Int) ≤ (0 : Int) ∧ (0 : Int) < (BA.length : Int)) (.ite ((qg_rc ((nth (row BA (0 : Int)) 0).int) ((nth (row BA (0 : Int)) 1).int) ((nth (row BA (0 : Int)) 2).bool) ((nth (row BA (0 : Int)) 3).bool) ((nth (row BA (0 : Int)) 4).list) ((nth (row BA (0 : Int)) 5).list) ((nth (row BA (0 : Int)) 6).list) ((nth (row BA (0 : Int)) 7).list) ((nth (row BA (0 : Int)) 8).int)) = true) (.ok (IntKind.wrap .i64 ((qg_rv ((nth (row BA (0 : Int)) 0).int) ((nth (row BA (0 : Int)) 1).int) ((nth (row BA (0 : Int)) 2).bool) ((nth (row BA (0 : Int)) 3).bool) ((nth (row BA (0 : Int)) 4).list) ((nth (row BA (0 : Int)) 5).list) ((nth (row BA (0 : Int)) 6).list) ((nth (row BA (0 : Int)) 7).list) ((nth (row BA (0 : Int)) 8).int)) + (1 : Int))))
     .no)
    .no)
   (.ok (1 : Int))))
def qg_mk (p : Int) : Res := [(false, [⟨.int .i64, .sh, TC.i p⟩])]
noncomputable def qg_c (k s : Int) (sg bg : Bool) (NA NU ME BA : LL) (ct : Int) : Bool := (bif (k == (4 : Int)) then ((qg_o5_1 k s sg bg NA NU ME BA ct (0 : Int) (0 : Int)) && true) else (bif (k == (5 : Int)) then (is ((0 : Int) ≤ (0 : Int) ∧ (0 : Int) < (BA.length : Int)) && ((qg_rc ((nth (row BA (0 : Int)) 0).int) ((nth (row BA (0 : Int)) 1).int) ((nth (row BA (0 : Int)) 2).bool) ((nth (row BA (0 : Int)) 3).bool) ((nth (row BA (0 : Int)) 4).list) ((nth (row BA (0 : Int)) 5).list) ((nth (row BA (0 : Int)) 6).list) ((nth (row BA (0 : Int)) 7).list) ((nth (row BA (0 : Int)) 8).int)) && true)) else true))
noncomputable def qg_v (k s : Int) (sg bg : Bool) (NA NU ME BA : LL) (ct : Int) : Int := (bif (k == (4 : Int)) then (IntKind.wrap .i64 ((qg_u5_1 k s sg bg NA NU ME BA ct (0 : Int) (0 : Int)) + (1 : Int))) else (bif (k == (5 : Int)) then (IntKind.wrap .i64 ((qg_rv ((nth (row BA (0 : Int)) 0).int) ((nth (row BA (0 : Int)) 1).int) ((nth (row BA (0 : Int)) 2).bool) ((nth (row BA (0 : Int)) 3).bool) ((nth (row BA (0 : Int)) 4).list) ((nth (row BA (0 : Int)) 5).list) ((nth (row BA (0 : Int)) 6).list) ((nth (row BA (0 : Int)) 7).list) ((nth (row BA (0 : Int)) 8).int)) + (1 : Int))) else (1 : Int)))
theorem qg_l (k s : Int) (sg bg : Bool) (NA NU ME BA : LL) (ct : Int) : (qg_c k s sg bg NA NU ME BA ct) = true → (qg_t k s sg bg NA NU ME BA ct).val = some (qg_v k s sg bg NA NU ME BA ct) := by
  unfold qg_t qg_v qg_c
  exact fun h => (Tr.ss h (fun h => (Tr.gb h fun h => rfl)) (fun h => (Tr.ss h (fun h => (Tr.gs h fun h => (Tr.gb h fun h => rfl))) (fun h => rfl))))
noncomputable def qg_S : List Arg → Option (Bool × Res) := fun xs => match xs with
  | [(true, [(.int .i64, TC.i k), (.int .i64, TC.i s), (.bool, TC.b sg), (.bool, TC.b bg), (.slice 9, TC.l NA), (.slice 2, TC.l NU), (.slice 71, TC.l ME), (.slice 32, TC.l BA), (.int .i64, TC.i ct)])] => some ((qg_c k s sg bg NA NU ME BA ct), qg_mk (qg_v k s sg bg NA NU ME BA ct))
  | _ => .none
theorem qg_e (k s : Int) (sg bg : Bool) (NA NU ME BA : LL) (ct : Int) : runF tab FT D15 live 70 qg_lo [(true, [(.int .i64, TC.i k), (.int .i64, TC.i s), (.bool, TC.b sg), (.bool, TC.b bg), (.slice 9, TC.l NA), (.slice 2, TC.l NU), (.slice 71, TC.l ME), (.slice 32, TC.l BA), (.int .i64, TC.i ct)])] = (qg_t k s sg bg NA NU ME BA ct).run fun p => some (qg_mk p) := by kernel_rfl
theorem qg_s : ∀ xs r, qg_S xs = some (true, r) → runF tab FT D15 live 70 qg_lo xs = some r := by
  intro xs r h
  unfold qg_S at h
  split at h
  · simp only [Option.some.injEq, Prod.mk.injEq] at h
    obtain ⟨h1, rfl⟩ := h
    exact fun_told (qg_e _ _ _ _ _ _ _ _ _) (qg_l _ _ _ _ _ _ _ _ _) h1
  · cases h
theorem qg_nx (k s : Int) (sg bg : Bool) (NA NU ME BA : LL) (ct : Int) : is (max (rowsDep ME) (rowsDep BA) < qg_O.n + 1 ∧ depthC k ME BA = true ∧ Typed tab (.slice 71) (.l ME) ∧ Typed tab (.slice 32) (.l BA)) = true → (qg_c k s sg bg NA NU ME BA ct) = true ∧ (qg_v k s sg bg NA NU ME BA ct) = depthV k ME BA := by
  intro h
  obtain ⟨hM, hC, tM, tB⟩ := is_iff.1 h
  unfold qg_c qg_v
  rw [depthC] at hC
  rw [depthV]
  cases h4 : (k == 4) with
  | true =>
    simp only [h4, cond_true] at hC ⊢
    rw [attach_all (p := fun x => depthC (nth x 2).int (nth x 8).list (nth x 9).list), List.all_eq_true] at hC
    have hlen : ME.length ≤ 140737488351232 := by have := typed_room tM; simp only [show (tab 71).bytes = 152 from rfl] at this; omega
    refine ⟨andT (is_true ⟨rfl, by omega, fun x hx => is_true ⟨Nat.lt_of_lt_of_le (dep_max (BA := BA) hx 8 9) (by omega), hC x hx, typed_list ((typed_elem tM hx).2 8 (by decide)), typed_list ((typed_elem tM hx).2 9 (by decide))⟩⟩) rfl, ?_⟩
    show IntKind.wrap .i64 (qg_R5 k s sg bg NA NU ME BA ct 0 0 + 1) = _
    rw [qg_R5_eq, attach_foldl (f := fun d x => maxI d (depthV (nth x 2).int (nth x 8).list (nth x 9).list))]
  | false =>
    cases h5 : (k == 5) with
    | true =>
      simp only [h4, h5, cond_true, cond_false] at hC ⊢
      split at hC
      · rename_i hb
        rw [dif_pos hb]
        have := dep_base (ME := ME) hb 6 7
        exact ⟨andT (is_true (by constructor <;> omega)) (andT (is_true ⟨by omega, hC, typed_list ((typed_elem tB (mem_getD (i := 0) hb)).2 6 (by decide)), typed_list ((typed_elem tB (mem_getD (i := 0) hb)).2 7 (by decide))⟩) rfl), rfl⟩
      · cases hC
    | false => exact ⟨rfl, rfl⟩
theorem qg_nxr (k s : Int) (sg bg : Bool) (NA NU ME BA : LL) (ct : Int) : qg_rc (i_spec_l02Depth := ⟨qg_O.n + 1⟩) k s sg bg NA NU ME BA ct = true → (qg_c k s sg bg NA NU ME BA ct) = true ∧ (qg_v k s sg bg NA NU ME BA ct) = (qg_rv k s sg bg NA NU ME BA ct) := fun h => qg_nx k s sg bg NA NU ME BA ct h
theorem qg_rs : ∀ xs r, qg_rS (i_spec_l02Depth := ⟨qg_O.n + 1⟩) xs = some (true, r) → runF tab FT D15 live 70 qg_lo xs = some r := by
  intro xs r h
  unfold qg_rS at h
  split at h
  · simp only [Option.some.injEq, Prod.mk.injEq] at h
    obtain ⟨h1, rfl⟩ := h
    have hx := qg_nxr _ _ _ _ _ _ _ _ _ h1
    have ht := fun_told (qg_e _ _ _ _ _ _ _ _ _) (qg_l _ _ _ _ _ _ _ _ _) hx.1
    rw [hx.2] at ht
    exact ht
  · cases h
theorem qg_step : qg_G (i_spec_l02Depth := ⟨qg_O.n + 1⟩) := by
  have h := DOk.also2 (S := qg_rS (i_spec_l02Depth := ⟨qg_O.n + 1⟩)) mixed_ok tab_ok names_ok d13 d15 (fnLoops_one (by kernel_rfl) qg_is5) qg_rs
  refine qg_G.mk (i_spec_l02Depth := ⟨qg_O.n + 1⟩) ?_
  exact h
abbrev qx_2_σ := LL × Int × Int
abbrev qx_2_ω := (Unit) ⊕ (Unit)
noncomputable def qx_2_step (A : LL) (v i : Int) : Tr (qx_2_σ ⊕ qx_2_ω) := (.ite ((decide (i < (A.length : Int))) = true) (.ite ((0 : Int) ≤ i ∧ i < (A.length : Int)) (.ite (((nth (row A i) 0).int == v) = true) (.ok (.inr (.inl ())))
    (.ok (.inl (A, v, (IntKind.wrap .i64 (i + (1 : Int)))))))
   .no)
  (.ok (.inr (.inr ()))))
noncomputable def qx_2_st : qx_2_σ → Tr (qx_2_σ ⊕ qx_2_ω) := fun x => (qx_2_step (x.1) (x.2.1) (x.2.2))
noncomputable def qx_k2_1 (A : LL) (v i : Int) : Bool := A.all (fun x => !((nth x 0).int == v))
noncomputable def qx_o2_2 (A : LL) (v i : Int) : Bool := is (i = 0 ∧ A.length ≤ 140737488351232)
noncomputable def qx_o2_3 (A : LL) (v i : Int) : Bool := is (i = 0 ∧ A.length ≤ 140737488351232)
noncomputable def qx_2_fin (A : LL) (v i : Int) : Told qx_2_ω := (.br (qx_k2_1 A v i) (.leaf (qx_o2_2 A v i) (.inr ())) (.leaf (qx_o2_3 A v i) (.inl ())))
def qx_2_sl (x : qx_2_σ) : List Slot := [⟨.val false [⟨.slice 2, .sh, TC.l (x.1)⟩], ⟨0, 0⟩⟩, ⟨.val false [⟨.int .i64, .sh, TC.i (x.2.1)⟩], ⟨0, 0⟩⟩, ⟨.val false [⟨.int .i64, .sh, TC.i (x.2.2)⟩], ⟨0, 0⟩⟩]
def qx_2_out : qx_2_ω → Ex × List Slot := (Sum.elim (fun x => (.ret, [⟨.val false [⟨.bool, .sh, TC.b true⟩], ⟨0, 0⟩⟩])) (fun x => (.exit 0, [Slot.none])))
noncomputable def qx_lo2 : List Slot → Option (Told (Ex × List Slot)) := fun s => match s with
  | [⟨.val false [⟨.slice 2, .sh, TC.l A⟩], ⟨0, 0⟩⟩, ⟨.val false [⟨.int .i64, .sh, TC.i v⟩], ⟨0, 0⟩⟩, ⟨.val false [⟨.int .i64, .sh, TC.i i⟩], ⟨0, 0⟩⟩] => some (((qx_2_fin A v i)).map qx_2_out)
  | _ => .none
noncomputable def qx_lo : LoopTeller := fun r s => bif Nat.beq r 2 then qx_lo2 s else .none
theorem qx_2_r (A : LL) (v i : Int) (fuel : Nat) : rounds (rnd tab FT D15 live 98 qx_lo 0 2) leave (fuel + 1) (qx_2_sl (A, v, i)) = ((qx_2_step A v i)).run (goOn (fun s => rounds (rnd tab FT D15 live 98 qx_lo 0 2) leave fuel (qx_2_sl s)) fun w => some (qx_2_out w)) := by kernel_rfl
theorem qx_2_h (A : LL) (v i : Int) (ow : qx_2_ω) : ((qx_2_fin A v i)).val = some ow → ∃ fuel, loopN qx_2_st fuel (A, v, i) = some ow := by
  intro h
  have key : A.length ≤ 140737488351232 → loopN qx_2_st (A.length + 1) (A, v, (0 : Int)) = some (if A.all (fun x => !((nth x 0).int == v)) = true then (.inr ()) else (.inl ())) := by
    intro ht
    have hlen : A.length ≤ 140737488351232 := ht
    have key := loopN_scan (step := qx_2_st) A [] (fun x => !((nth x 0).int == v)) (fun a _ => a) (fun i a => (A, v, (i : Int))) (fun a => (.inr ())) (fun i a => (.inl ())) (fun i a hi => ?_) (fun a => ?_) A.length 0 () (by omega)
    · first | (rw [Nat.zero_add] at key; exact key) | exact key
    · skip
      show (qx_2_step A v (i : Int)).val = _
      unfold qx_2_step
      refine Tr.t (by simp; omega) ?_
      skip
      refine Tr.t (by first | omega | (constructor <;> omega)) ?_
      refine Tr.b2 (fun hP => ?_) (fun _ => rfl)
      rw [Tr.val_ok, wrap64 (i := (i : Int) + 1) (by omega) (by omega)]; rfl
    · show (qx_2_step A v (A.length : Int)).val = _
      refine Tr.n (by simp) ?_
      rfl
  simp only [qx_2_fin, Told.val] at h
  cases hk : A.all (fun x => !((nth x 0).int == v)) with
  | true =>
    rw [if_pos (show qx_k2_1 A v i = true from hk)] at h
    split at h
    · rename_i ho
      obtain ⟨rfl, ht⟩ := is_iff.1 ho
      cases h
      refine ⟨_, (key ht).trans ?_⟩
      rw [hk]; rfl
    · cases h
  | false =>
    rw [if_neg (show ¬qx_k2_1 A v i = true from by rw [show qx_k2_1 A v i = (A.all (fun x => !((nth x 0).int == v))) from rfl, hk]; simp)] at h
    split at h
    · rename_i ho
      obtain ⟨rfl, ht⟩ := is_iff.1 ho
      cases h
      refine ⟨_, (key ht).trans ?_⟩
      rw [hk]; rfl
    · cases h
theorem qx_is2 : LoopIs tab FT D15 live 98 qx_lo 0 2 := by
  refine loop_told (sl := qx_2_sl) (step := qx_2_st) (out := qx_2_out) (lor := qx_lo2) (fin := fun x => (qx_2_fin (x.1) (x.2.1) (x.2.2))) (fun _ => rfl) ?_ (fun x n => qx_2_r x.1 x.2.1 x.2.2 n) (fun x ow => qx_2_h x.1 x.2.1 x.2.2 ow)
  intro s t h
  unfold qx_lo2 at h
  split at h
  · cases h; exact ⟨(_, _, _), rfl, rfl⟩
  · cases h
noncomputable def qx_t (A : LL) (v : Int) : Tr (Bool) := (.ite ((qx_k2_1 A v (0 : Int)) = true) (.ite ((qx_o2_2 A v (0 : Int)) = true) (.ok false)
   .no)
  (.ite ((qx_o2_3 A v (0 : Int)) = true) (.ok true)
   .no))
def qx_mk (p : Bool) : Res := [(false, [⟨.bool, .sh, TC.b p⟩])]
noncomputable def qx_c (A : LL) (v : Int) : Bool := (bif (qx_k2_1 A v (0 : Int)) then ((qx_o2_2 A v (0 : Int)) && true) else ((qx_o2_3 A v (0 : Int)) && true))
noncomputable def qx_v (A : LL) (v : Int) : Bool := (bif (qx_k2_1 A v (0 : Int)) then false else true)
theorem qx_l (A : LL) (v : Int) : (qx_c A v) = true → (qx_t A v).val = some (qx_v A v) := by
  unfold qx_t qx_v qx_c
  exact fun h => (Tr.ss h (fun h => (Tr.gb h fun h => rfl)) (fun h => (Tr.gb h fun h => rfl)))
noncomputable def qx_S : List Arg → Option (Bool × Res) := fun xs => match xs with
  | [(false, [(.slice 2, TC.l A)]), (false, [(.int .i64, TC.i v)])] => some ((qx_c A v), qx_mk (qx_v A v))
  | _ => .none
theorem qx_e (A : LL) (v : Int) : runF tab FT D15 live 98 qx_lo [(false, [(.slice 2, TC.l A)]), (false, [(.int .i64, TC.i v)])] = (qx_t A v).run fun p => some (qx_mk p) := by kernel_rfl
theorem qx_s : ∀ xs r, qx_S xs = some (true, r) → runF tab FT D15 live 98 qx_lo xs = some r := by
  intro xs r h
  unfold qx_S at h
  split at h
  · simp only [Option.some.injEq, Prod.mk.injEq] at h
    obtain ⟨h1, rfl⟩ := h
    exact fun_told (qx_e _ _) (qx_l _ _) h1
  · cases h
noncomputable def D16 : Dt := also D15 98 qx_S
theorem d16 : DOk Go.Proofs.Try.prog tab D16 := d15.also mixed_ok tab_ok names_ok (fnLoops_one (by kernel_rfl) qx_is2) qx_s
theorem qx_cc {A : LL} {v : Int} (hl : A.length ≤ 140737488351232) : (qx_c A v) = true := by
  unfold qx_c
  refine bifT (fun b1 => ?_) (fun b1 => ?_)
  · skip
    refine andT (by exact is_true ⟨rfl, hl⟩) ?_
    rfl
  · skip
    refine andT (by exact is_true ⟨rfl, hl⟩) ?_
    rfl
noncomputable def qch_t (k s : Int) (sg bg : Bool) (NA NU ME BA : LL) (ct : Int) : Tr (Bool) := (.ite ((qx_c [[TC.i (1 : Int)], [TC.i (2 : Int)], [TC.i (4 : Int)], [TC.i (8 : Int)]] s) = true) (.ite ((!(qx_v [[TC.i (1 : Int)], [TC.i (2 : Int)], [TC.i (4 : Int)], [TC.i (8 : Int)]] s)) = true) (.ok false)
   (.ite ((s == (8 : Int)) = true) (.ite ((!sg) = true) (.ok false)
     (.ite ((s == (1 : Int)) = true) (.ite (bg = true) (.ok false)
       (.ite (((NA.length : Int) == (0 : Int)) = true) (.ite (((NU.length : Int) == (0 : Int)) = true) (.ite (((ME.length : Int) == (0 : Int)) = true) (.ite (((BA.length : Int) == (0 : Int)) = true) (.ok (ct == (0 : Int)))
           (.ok false))
          (.ok false))
         (.ok false))
        (.ok false)))
      (.ite (((NA.length : Int) == (0 : Int)) = true) (.ite (((NU.length : Int) == (0 : Int)) = true) (.ite (((ME.length : Int) == (0 : Int)) = true) (.ite (((BA.length : Int) == (0 : Int)) = true) (.ok (ct == (0 : Int)))
          (.ok false))
         (.ok false))
        (.ok false))
       (.ok false))))
    (.ite ((s == (1 : Int)) = true) (.ite (bg = true) (.ok false)
      (.ite (((NA.length : Int) == (0 : Int)) = true) (.ite (((NU.length : Int) == (0 : Int)) = true) (.ite (((ME.length : Int) == (0 : Int)) = true) (.ite (((BA.length : Int) == (0 : Int)) = true) (.ok (ct == (0 : Int)))
          (.ok false))
         (.ok false))
        (.ok false))
       (.ok false)))
     (.ite (((NA.length : Int) == (0 : Int)) = true) (.ite (((NU.length : Int) == (0 : Int)) = true) (.ite (((ME.length : Int) == (0 : Int)) = true) (.ite (((BA.length : Int) == (0 : Int)) = true) (.ok (ct == (0 : Int)))
         (.ok false))
        (.ok false))
       (.ok false))
      (.ok false)))))
  .no)
def qch_mk (p : Bool) : Res := [(false, [⟨.bool, .sh, TC.b p⟩])]
noncomputable def qch_c (k s : Int) (sg bg : Bool) (NA NU ME BA : LL) (ct : Int) : Bool := true
noncomputable def qch_v (k s : Int) (sg bg : Bool) (NA NU ME BA : LL) (ct : Int) : Bool := intV s sg bg NA NU ME BA ct
theorem qch_l (k s : Int) (sg bg : Bool) (NA NU ME BA : LL) (ct : Int) : (qch_c k s sg bg NA NU ME BA ct) = true → (qch_t k s sg bg NA NU ME BA ct).val = some (qch_v k s sg bg NA NU ME BA ct) := by
  intro _
  unfold qch_t
  refine Tr.t (qx_cc (by decide)) ?_
  rw [show qx_v [[TC.i (1 : Int)], [TC.i (2 : Int)], [TC.i (4 : Int)], [TC.i (8 : Int)]] s = has4 s from by
    show (bif [[TC.i (1 : Int)], [TC.i (2 : Int)], [TC.i (4 : Int)], [TC.i (8 : Int)]].all (fun x => !((nth x 0).int == s)) then false else true) = _
    rw [has4_eq]; cases has4 s <;> rfl]
  simp only [Tr.val_br, Tr.val_ok]
  simp only [ite_bif, somebif]
  refine congrArg some ?_
  unfold qch_v intV empt
  generalize has4 s = p0, (s == 8) = p1, (s == 1) = p2, ((NA.length : Int) == 0) = p3, ((NU.length : Int) == 0) = p4, ((ME.length : Int) == 0) = p5, ((BA.length : Int) == 0) = p6, (ct == 0) = p7
  cases p0 <;> cases p1 <;> cases sg <;> cases p2 <;> cases bg <;> cases p3 <;> cases p4 <;> cases p5 <;> cases p6 <;> cases p7 <;> rfl
noncomputable def qch_S : List Arg → Option (Bool × Res) := fun xs => match xs with
  | [(true, [(.int .i64, TC.i k), (.int .i64, TC.i s), (.bool, TC.b sg), (.bool, TC.b bg), (.slice 9, TC.l NA), (.slice 2, TC.l NU), (.slice 71, TC.l ME), (.slice 32, TC.l BA), (.int .i64, TC.i ct)])] => some (true, qch_mk (qch_v k s sg bg NA NU ME BA ct))
  | _ => .none
theorem qch_e (k s : Int) (sg bg : Bool) (NA NU ME BA : LL) (ct : Int) : runF tab FT D16 live 63 noLoops [(true, [(.int .i64, TC.i k), (.int .i64, TC.i s), (.bool, TC.b sg), (.bool, TC.b bg), (.slice 9, TC.l NA), (.slice 2, TC.l NU), (.slice 71, TC.l ME), (.slice 32, TC.l BA), (.int .i64, TC.i ct)])] = (qch_t k s sg bg NA NU ME BA ct).run fun p => some (qch_mk p) := by kernel_rfl
theorem qch_s : ∀ xs r, qch_S xs = some (true, r) → runF tab FT D16 live 63 noLoops xs = some r := by
  intro xs r h
  unfold qch_S at h
  split at h
  · simp only [Option.some.injEq, Prod.mk.injEq] at h
    obtain ⟨h1, rfl⟩ := h
    exact fun_told (qch_e _ _ _ _ _ _ _ _ _) (qch_l _ _ _ _ _ _ _ _ _) rfl
  · cases h
noncomputable def D17 : Dt := also D16 63 qch_S
theorem d17 : DOk Go.Proofs.Try.prog tab D17 := d16.also mixed_ok tab_ok names_ok noLoops_ok qch_s
noncomputable def qbo_t (a0 a1 : Int) (a2 a3 : Bool) (a4 a5 a6 a7 : LL) (a8 : Int) : Tr (Bool) := (.ite ((!a2) = true) (.ok (!a3))
  (.ok false))
def qbo_mk (p : Bool) : Res := [(false, [⟨.bool, .sh, TC.b p⟩])]
noncomputable def qbo_c (a0 a1 : Int) (a2 a3 : Bool) (a4 a5 a6 a7 : LL) (a8 : Int) : Bool := true
noncomputable def qbo_v (a0 a1 : Int) (a2 a3 : Bool) (a4 a5 a6 a7 : LL) (a8 : Int) : Bool := (bif (!a2) then (!a3) else false)
theorem qbo_l (a0 a1 : Int) (a2 a3 : Bool) (a4 a5 a6 a7 : LL) (a8 : Int) : (qbo_c a0 a1 a2 a3 a4 a5 a6 a7 a8) = true → (qbo_t a0 a1 a2 a3 a4 a5 a6 a7 a8).val = some (qbo_v a0 a1 a2 a3 a4 a5 a6 a7 a8) := by
  intro h
  skip
  unfold qbo_t qbo_v
  exact (Tr.s rfl rfl)
noncomputable def qbo_S : List Arg → Option (Bool × Res) := fun xs => match xs with
  | [(true, [(.int .i64, TC.i a0), (.int .i64, TC.i a1), (.bool, TC.b a2), (.bool, TC.b a3), (.slice 9, TC.l a4), (.slice 2, TC.l a5), (.slice 71, TC.l a6), (.slice 32, TC.l a7), (.int .i64, TC.i a8)])] => some (true, qbo_mk (qbo_v a0 a1 a2 a3 a4 a5 a6 a7 a8))
  | _ => .none
theorem qbo_e (a0 a1 : Int) (a2 a3 : Bool) (a4 a5 a6 a7 : LL) (a8 : Int) : runF tab FT D17 live 68 noLoops [(true, [(.int .i64, TC.i a0), (.int .i64, TC.i a1), (.bool, TC.b a2), (.bool, TC.b a3), (.slice 9, TC.l a4), (.slice 2, TC.l a5), (.slice 71, TC.l a6), (.slice 32, TC.l a7), (.int .i64, TC.i a8)])] = (qbo_t a0 a1 a2 a3 a4 a5 a6 a7 a8).run fun p => some (qbo_mk p) := by kernel_rfl
theorem qbo_s : ∀ xs r, qbo_S xs = some (true, r) → runF tab FT D17 live 68 noLoops xs = some r := by
  intro xs r h
  unfold qbo_S at h
  split at h
  · simp only [Option.some.injEq, Prod.mk.injEq] at h
    obtain ⟨h1, rfl⟩ := h
    exact fun_told (qbo_e _ _ _ _ _ _ _ _ _) (qbo_l _ _ _ _ _ _ _ _ _) rfl
  · cases h
noncomputable def D18 : Dt := also D17 68 qbo_S
theorem d18 : DOk Go.Proofs.Try.prog tab D18 := d17.also mixed_ok tab_ok names_ok noLoops_ok qbo_s
noncomputable def qcf_t (a0 a1 a2 : Int) : Tr (Bool) := (.ite ((decide (a0 ≥ a1)) = true) (.ok (decide (a0 ≤ a2)))
  (.ok false))
def qcf_mk (p : Bool) : Res := [(false, [⟨.bool, .sh, TC.b p⟩])]
noncomputable def qcf_c (a0 a1 a2 : Int) : Bool := true
noncomputable def qcf_v (a0 a1 a2 : Int) : Bool := (bif (decide (a0 ≥ a1)) then (decide (a0 ≤ a2)) else false)
theorem qcf_l (a0 a1 a2 : Int) : (qcf_c a0 a1 a2) = true → (qcf_t a0 a1 a2).val = some (qcf_v a0 a1 a2) := by
  intro h
  skip
  unfold qcf_t qcf_v
  exact (Tr.s rfl rfl)
noncomputable def qcf_S : List Arg → Option (Bool × Res) := fun xs => match xs with
  | [(false, [(.int .i64, TC.i a0)]), (false, [(.int .i64, TC.i a1)]), (false, [(.int .i64, TC.i a2)])] => some (true, qcf_mk (qcf_v a0 a1 a2))
  | _ => .none
theorem qcf_e (a0 a1 a2 : Int) : runF tab FT D18 live 64 noLoops [(false, [(.int .i64, TC.i a0)]), (false, [(.int .i64, TC.i a1)]), (false, [(.int .i64, TC.i a2)])] = (qcf_t a0 a1 a2).run fun p => some (qcf_mk p) := by kernel_rfl
theorem qcf_s : ∀ xs r, qcf_S xs = some (true, r) → runF tab FT D18 live 64 noLoops xs = some r := by
  intro xs r h
  unfold qcf_S at h
  split at h
  · simp only [Option.some.injEq, Prod.mk.injEq] at h
    obtain ⟨h1, rfl⟩ := h
    exact fun_told (qcf_e _ _ _) (qcf_l _ _ _) rfl
  · cases h
noncomputable def D19 : Dt := also D18 64 qcf_S
theorem d19 : DOk Go.Proofs.Try.prog tab D19 := d18.also mixed_ok tab_ok names_ok noLoops_ok qcf_s
noncomputable def qbb_t (k s : Int) (sg bg : Bool) (NA NU ME BA : LL) (ct : Int) : Tr (Int × Int) := (.ite ((!sg) = true) (.ite (0 ≤ (IntKind.wrap .u64 (IntKind.wrap .i64 ((8 : Int) * s)))) (.ok ((0 : Int), (IntKind.wrap .i64 ((IntKind.wrap .i64 ((1 : Int) * (2 ^ (min ((IntKind.wrap .u64 (IntKind.wrap .i64 ((8 : Int) * s)))).toNat 64)))) - (1 : Int)))))
   .no)
  (.ite (0 ≤ (IntKind.wrap .u64 ((IntKind.wrap .u64 (IntKind.wrap .i64 ((8 : Int) * s))) - (1 : Int)))) (.ok ((IntKind.wrap .i64 ((IntKind.wrap .i64 ((0 : Int) - (IntKind.wrap .i64 ((IntKind.wrap .i64 ((1 : Int) * (2 ^ (min ((IntKind.wrap .u64 ((IntKind.wrap .u64 (IntKind.wrap .i64 ((8 : Int) * s))) - (1 : Int)))).toNat 64)))) - (1 : Int))))) - (1 : Int))), (IntKind.wrap .i64 ((IntKind.wrap .i64 ((1 : Int) * (2 ^ (min ((IntKind.wrap .u64 ((IntKind.wrap .u64 (IntKind.wrap .i64 ((8 : Int) * s))) - (1 : Int)))).toNat 64)))) - (1 : Int)))))
   .no))
def qbb_mk (p : Int × Int) : Res := [(false, [⟨.int .i64, .sh, TC.i (p.1)⟩]), (false, [⟨.int .i64, .sh, TC.i (p.2)⟩])]
noncomputable def qbb_c (k s : Int) (sg bg : Bool) (NA NU ME BA : LL) (ct : Int) : Bool := (bif (!sg) then (is (0 ≤ (IntKind.wrap .u64 (IntKind.wrap .i64 ((8 : Int) * s)))) && true) else (is (0 ≤ (IntKind.wrap .u64 ((IntKind.wrap .u64 (IntKind.wrap .i64 ((8 : Int) * s))) - (1 : Int)))) && true))
end
end
end
end
end Go.Proofs.Ytdcafhfnkblfkaa.V
