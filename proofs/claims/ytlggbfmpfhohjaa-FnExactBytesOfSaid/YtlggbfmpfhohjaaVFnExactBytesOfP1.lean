/- What the functions of FnExactBytesOf answer. No condition. -/
import Derived.Test.YtlggbfmpfhohjaaVFacts
namespace Go.Proofs.Ytlggbfmpfhohjaa.V
open Go
set_option maxRecDepth 100000
set_option linter.unusedVariables false
set_option linter.unusedSectionVars false
set_option linter.unusedSimpArgs false
set_option maxHeartbeats 2000000
def isoL : List (Nat × Nat) := [(27, 32), (73, 77), (32, 27), (77, 73)]
theorem iso_ok : isoOk tab isoL = true := by kernel_rfl
def has4 (s : Int) : Bool := s == 1 || s == 2 || s == 4 || s == 8
def empt (NA NU ME BA : List (List TC)) (ct : Int) : Bool := ((NA.length : Int) == 0) && ((NU.length : Int) == 0) && ((ME.length : Int) == 0) && ((BA.length : Int) == 0) && (ct == 0)
def intV (s : Int) (sg bg : Bool) (NA NU ME BA : List (List TC)) (ct : Int) : Bool := has4 s && !((s == 8) && !sg) && !((s == 1) && bg) && empt NA NU ME BA ct
theorem has4_eq (s : Int) : [[TC.i (1 : Int)], [TC.i (2 : Int)], [TC.i (4 : Int)], [TC.i (8 : Int)]].all (fun x => !((nth x 0).int == s)) = !(has4 s) := by
  show (!((1 : Int) == s) && (!((2 : Int) == s) && (!((4 : Int) == s) && (!((8 : Int) == s) && true)))) = _
  unfold has4
  rw [show ((1 : Int) == s) = (s == 1) from Bool.beq_comm, show ((2 : Int) == s) = (s == 2) from Bool.beq_comm, show ((4 : Int) == s) = (s == 4) from Bool.beq_comm, show ((8 : Int) == s) = (s == 8) from Bool.beq_comm]
  cases (s == 1) <;> cases (s == 2) <;> cases (s == 4) <;> cases (s == 8) <;> rfl

theorem pos_row {BA : List (List TC)} (h : 0 < BA.length) (j : Nat) : rowsDep (nth (row BA (0 : Int)) j).list < rowsDep BA := dep_row ⟨by omega, by omega⟩ j
def sizeV (k s : Int) (BA : List (List TC)) (ct : Int) : Int :=
  bif k == 3 then (nth (row BA (0 : Int)) 1).int
  else bif k == 5 then (if h : 0 < BA.length then IntKind.wrap .i64 (ct * sizeV (nth (row BA (0 : Int)) 0).int (nth (row BA (0 : Int)) 1).int (nth (row BA (0 : Int)) 7).list (nth (row BA (0 : Int)) 8).int) else 0)
  else s
termination_by rowsDep BA
decreasing_by exact pos_row h 7
def sizeC (k : Int) (BA : List (List TC)) : Bool :=
  bif k == 3 then decide (0 < BA.length)
  else bif k == 5 then (if h : 0 < BA.length then sizeC (nth (row BA (0 : Int)) 0).int (nth (row BA (0 : Int)) 7).list else false)
  else true
termination_by rowsDep BA
decreasing_by exact pos_row h 7
theorem dep_max {ME BA : List (List TC)} {x : List TC} (hx : x ∈ ME) (i j : Nat) : max (rowsDep (nth x i).list) (rowsDep (nth x j).list) < max (rowsDep ME) (rowsDep BA) := by
  have a := dep_cell hx i
  have b := dep_cell hx j
  omega
theorem dep_base {ME BA : List (List TC)} (h : 0 < BA.length) (i j : Nat) : max (rowsDep (nth (row BA (0 : Int)) i).list) (rowsDep (nth (row BA (0 : Int)) j).list) < max (rowsDep ME) (rowsDep BA) := by
  have a := pos_row h i
  have b := pos_row h j
  omega
def maxI (a b : Int) : Int := bif decide (a > b) then a else b
noncomputable def depthV (k : Int) (ME BA : List (List TC)) : Int :=
  bif k == 4 then IntKind.wrap .i64 (ME.attach.foldl (fun d x => maxI d (depthV (nth x.1 2).int (nth x.1 8).list (nth x.1 9).list)) 0 + 1)
  else bif k == 5 then (if h : 0 < BA.length then IntKind.wrap .i64 (depthV (nth (row BA (0 : Int)) 0).int (nth (row BA (0 : Int)) 6).list (nth (row BA (0 : Int)) 7).list + 1) else 0)
  else 1
termination_by max (rowsDep ME) (rowsDep BA)
decreasing_by
  · exact dep_max x.2 8 9
  · exact dep_base h 6 7
noncomputable def depthC (k : Int) (ME BA : List (List TC)) : Bool :=
  bif k == 4 then ME.attach.all (fun x => depthC (nth x.1 2).int (nth x.1 8).list (nth x.1 9).list)
  else bif k == 5 then (if h : 0 < BA.length then depthC (nth (row BA (0 : Int)) 0).int (nth (row BA (0 : Int)) 6).list (nth (row BA (0 : Int)) 7).list else false)
  else true
termination_by max (rowsDep ME) (rowsDep BA)
decreasing_by
  · exact dep_max x.2 8 9
  · exact dep_base h 6 7
def letterB (c : Int) : Bool := (decide (c ≥ 65) && decide (c ≤ 90)) || (decide (c ≥ 97) && decide (c ≤ 122))
def nameB (i c : Int) : Bool := letterB c || (!(i == 0) && ((decide (c ≥ 48) && decide (c ≤ 57)) || c == 95))
def nameOk (s : List UInt8) : Bool := decide ((s.length : Int) ≥ 1) && decide ((s.length : Int) ≤ 12) && allI (fun i : Nat => nameB (i : Int) ((s.getD ((i : Int)).toNat 0).toNat : Int)) s.length
theorem dlt {a b : Int} : decide (a < b) = !decide (a ≥ b) := by rw [← decide_not]; simp
theorem dgt {a b : Int} : decide (a > b) = !decide (a ≤ b) := by rw [← decide_not]; simp
def strAt (A : List (List TC)) (i : Int) : List UInt8 := (nth (row A i) 0).str
def intAt (A : List (List TC)) (i : Int) : Int := (nth (row A i) 0).int
def noDupN (A : List (List TC)) (i : Int) : Bool := allI (fun j : Nat => !(strAt A (j : Int) == strAt A i)) i.toNat
def inB (n lo hi : Int) : Bool := bif decide (n ≥ lo) then decide (n ≤ hi) else false
def ascB (A : List (List TC)) (i : Int) : Bool := bif decide (i > 0) then !(decide (intAt A (IntKind.wrap .i64 (i - (1 : Int))) ≥ intAt A i)) else true
def enumP (NA NU : List (List TC)) (lo hi i : Int) : Bool := nameOk (strAt NA i) && inB (intAt NU i) lo hi && ascB NU i && noDupN NA i
noncomputable def loV (s : Int) (sg : Bool) : Int := bif !sg then 0 else bif s == 1 then -128 else bif s == 2 then -32768 else bif s == 4 then -2147483648 else -9223372036854775808
noncomputable def hiV (s : Int) (sg : Bool) : Int := bif !sg then (bif s == 1 then 255 else bif s == 2 then 65535 else 4294967295) else bif s == 1 then 127 else bif s == 2 then 32767 else bif s == 4 then 2147483647 else 9223372036854775807
def plain (sg bg : Bool) : Bool := !sg && !bg
noncomputable def enumV (s : Int) (sg bg : Bool) (NA NU ME BA : List (List TC)) (ct : Int) : Bool :=
  (s == 0) && (plain sg bg && (!decide ((ME.length : Int) > 0) && ((ct == 0) && (((BA.length : Int) == 1) && (((nth (row BA (0 : Int)) 0).int == 1) && (intV (nth (row BA (0 : Int)) 1).int (nth (row BA (0 : Int)) 2).bool (nth (row BA (0 : Int)) 3).bool (nth (row BA (0 : Int)) 4).list (nth (row BA (0 : Int)) 5).list (nth (row BA (0 : Int)) 6).list (nth (row BA (0 : Int)) 7).list (nth (row BA (0 : Int)) 8).int && (!decide ((NA.length : Int) < 1) && (!decide ((NA.length : Int) > 6) && (((NU.length : Int) == (NA.length : Int)) &&
    allI (fun i : Nat => enumP NA NU (loV (nth (row BA (0 : Int)) 1).int (nth (row BA (0 : Int)) 2).bool) (hiV (nth (row BA (0 : Int)) 1).int (nth (row BA (0 : Int)) 2).bool) (i : Int)) NA.length)))))))))
noncomputable def endAt (ME : List (List TC)) : Nat → Int
  | 0 => 0
  | i + 1 => IntKind.wrap .i64 ((nth (row ME (i : Int)) 1).int + sizeV (nth (row ME (i : Int)) 2).int (nth (row ME (i : Int)) 3).int (nth (row ME (i : Int)) 9).list (nth (row ME (i : Int)) 10).int)
noncomputable def memP (ME : List (List TC)) (i : Nat) : Bool := nameOk (strAt ME (i : Int)) && (!decide ((nth (row ME (i : Int)) 1).int < endAt ME i) && (!decide ((nth (row ME (i : Int)) 1).int > 24) && noDupN ME (i : Int)))
def compS (s : Int) (sg bg : Bool) (NA NU ME BA : List (List TC)) (ct : Int) : Bool :=
  inB s 1 24 && (plain sg bg && (!decide ((NA.length : Int) > 0) && (!decide ((NU.length : Int) > 0) && (!decide ((BA.length : Int) > 0) && ((ct == 0) && (!decide ((ME.length : Int) < 1) && !decide ((ME.length : Int) > 4)))))))
def arrS (s : Int) (sg bg : Bool) (NA NU ME BA : List (List TC)) (ct : Int) : Bool :=
  (s == 0) && (plain sg bg && (!decide ((NA.length : Int) > 0) && (!decide ((NU.length : Int) > 0) && (!decide ((ME.length : Int) > 0) && (((BA.length : Int) == 1) && inB ct 1 4)))))
def bareV (sg bg : Bool) (NA NU ME BA : List (List TC)) (ct : Int) : Bool := plain sg bg && empt NA NU ME BA ct
noncomputable def okV (k s : Int) (sg bg : Bool) (NA NU ME BA : List (List TC)) (ct : Int) : Bool :=
  (bif k == 1 then intV s sg bg NA NU ME BA ct
   else bif k == 2 then inB s 1 16 && bareV sg bg NA NU ME BA ct
   else bif k == 3 then enumV s sg bg NA NU ME BA ct
   else bif k == 4 then compS s sg bg NA NU ME BA ct && ((allI (memP ME) ME.length && ME.attach.all (fun x => okV (nth x.1 2).int (nth x.1 3).int (nth x.1 4).bool (nth x.1 5).bool (nth x.1 6).list (nth x.1 7).list (nth x.1 8).list (nth x.1 9).list (nth x.1 10).int)) && decide (endAt ME ME.length ≤ s))
   else bif k == 5 then arrS s sg bg NA NU ME BA ct && (if h : 0 < BA.length then okV (nth (row BA (0 : Int)) 0).int (nth (row BA (0 : Int)) 1).int (nth (row BA (0 : Int)) 2).bool (nth (row BA (0 : Int)) 3).bool (nth (row BA (0 : Int)) 4).list (nth (row BA (0 : Int)) 5).list (nth (row BA (0 : Int)) 6).list (nth (row BA (0 : Int)) 7).list (nth (row BA (0 : Int)) 8).int else false)
   else bif k == 6 then (s == 2) && bareV sg bg NA NU ME BA ct
   else false) && (decide (sizeV k s BA ct ≤ 24) && decide (depthV k ME BA ≤ 3))
termination_by max (rowsDep ME) (rowsDep BA)
decreasing_by
  · exact dep_max x.2 8 9
  · exact dep_base h 6 7
theorem attach_okV {ME : List (List TC)} : (ME.attach.all fun x => okV (nth x.1 2).int (nth x.1 3).int (nth x.1 4).bool (nth x.1 5).bool (nth x.1 6).list (nth x.1 7).list (nth x.1 8).list (nth x.1 9).list (nth x.1 10).int) = ME.all fun x => okV (nth x 2).int (nth x 3).int (nth x 4).bool (nth x 5).bool (nth x 6).list (nth x 7).list (nth x 8).list (nth x 9).list (nth x 10).int := attach_all (p := fun x => okV (nth x 2).int (nth x 3).int (nth x 4).bool (nth x 5).bool (nth x 6).list (nth x 7).list (nth x 8).list (nth x 9).list (nth x 10).int)
theorem okV_size : ∀ {BA : List (List TC)} {k s : Int} {sg bg : Bool} {NA NU ME : List (List TC)} {ct : Int}, okV k s sg bg NA NU ME BA ct = true → sizeC k BA = true := by
  intro BA
  induction h : rowsDep BA using Nat.strongRecOn generalizing BA with
  | _ n ih =>
    intro k s sg bg NA NU ME ct hk
    rw [okV, Bool.and_eq_true] at hk
    rw [sizeC]
    have hk := hk.1
    cases h3 : (k == 3) with
    | true =>
      have : k = 3 := by simpa using h3
      subst this
      have hk : enumV s sg bg NA NU ME BA ct = true := hk
      simp only [enumV, Bool.and_eq_true] at hk
      have h1 : (BA.length : Int) = 1 := by simpa using hk.2.2.2.2.1
      show decide (0 < BA.length) = true
      exact decide_eq_true (by omega)
    | false =>
      cases h5 : (k == 5) with
      | true =>
        have : k = 5 := by simpa using h5
        subst this
        have hk : (arrS s sg bg NA NU ME BA ct && (if h : 0 < BA.length then okV (nth (row BA (0 : Int)) 0).int (nth (row BA (0 : Int)) 1).int (nth (row BA (0 : Int)) 2).bool (nth (row BA (0 : Int)) 3).bool (nth (row BA (0 : Int)) 4).list (nth (row BA (0 : Int)) 5).list (nth (row BA (0 : Int)) 6).list (nth (row BA (0 : Int)) 7).list (nth (row BA (0 : Int)) 8).int else false)) = true := hk
        rw [Bool.and_eq_true] at hk
        have hk := hk.2
        split at hk
        · rename_i hb
          simp only [cond_true, cond_false, dif_pos hb]
          exact ih _ (by rw [← h]; exact pos_row hb 7) rfl hk
        · cases hk
      | false => rfl
theorem okV_depth : ∀ {ME BA : List (List TC)} {k s : Int} {sg bg : Bool} {NA NU : List (List TC)} {ct : Int}, okV k s sg bg NA NU ME BA ct = true → depthC k ME BA = true := by
  intro ME BA
  induction h : max (rowsDep ME) (rowsDep BA) using Nat.strongRecOn generalizing ME BA with
  | _ n ih =>
    intro k s sg bg NA NU ct hk
    rw [okV, Bool.and_eq_true] at hk
    rw [depthC]
    have hk := hk.1
    cases h4 : (k == 4) with
    | true =>
      have : k = 4 := by simpa using h4
      subst this
      have hk : (compS s sg bg NA NU ME BA ct && ((allI (memP ME) ME.length && ME.attach.all (fun x => okV (nth x.1 2).int (nth x.1 3).int (nth x.1 4).bool (nth x.1 5).bool (nth x.1 6).list (nth x.1 7).list (nth x.1 8).list (nth x.1 9).list (nth x.1 10).int)) && decide (endAt ME ME.length ≤ s))) = true := hk
      simp only [Bool.and_eq_true] at hk
      have hk := hk.2.1.2
      rw [List.all_eq_true] at hk
      simp only [cond_true, List.all_eq_true]
      exact fun x hx => ih _ (by rw [← h]; exact dep_max x.2 8 9) rfl (hk x hx)
    | false =>
      cases h5 : (k == 5) with
      | true =>
        have : k = 5 := by simpa using h5
        subst this
        have hk : (arrS s sg bg NA NU ME BA ct && (if h : 0 < BA.length then okV (nth (row BA (0 : Int)) 0).int (nth (row BA (0 : Int)) 1).int (nth (row BA (0 : Int)) 2).bool (nth (row BA (0 : Int)) 3).bool (nth (row BA (0 : Int)) 4).list (nth (row BA (0 : Int)) 5).list (nth (row BA (0 : Int)) 6).list (nth (row BA (0 : Int)) 7).list (nth (row BA (0 : Int)) 8).int else false)) = true := hk
        rw [Bool.and_eq_true] at hk
        have hk := hk.2
        split at hk
        · rename_i hb
          simp only [cond_true, cond_false, dif_pos hb]
          exact ih _ (by rw [← h]; exact dep_base hb 6 7) rfl hk
        · cases hk
      | false => rfl
theorem byte1 (n : Int) : [[TC.i (IntKind.wrap .u8 n)]].map byteOf = bytesL n 1 := by
  show _ = [byteOf (bAt n 0)]
  unfold bAt
  rw [show Int.fdiv n (2 ^ (8 * 0)) = n from by simp]
  rfl
def putB (n : Int) (sz : Nat) (bg : Bool) : List UInt8 := bif bg then (bytesL n sz).reverse else bytesL n sz
theorem bytesL_succ {n : Int} {j : Nat} : bytesL n (j + 1) = bytesL n j ++ [byteOf (bAt n j)] := by
  unfold bytesL
  rw [← bRows_succ, List.map_append]; rfl
theorem putB_len {n : Int} {sz : Nat} {bg : Bool} : (putB n sz bg).length = sz := by
  unfold putB
  cases bg
  · exact bytesL_len
  · rw [show (bif true then (bytesL n sz).reverse else bytesL n sz) = (bytesL n sz).reverse from rfl, List.length_reverse, bytesL_len]
noncomputable def sameV (k s : Int) (sg bg : Bool) (NA NU ME BA : List (List TC)) (ct : Int) (k2 s2 : Int) (sg2 bg2 : Bool) (NA2 NU2 ME2 BA2 : List (List TC)) (ct2 : Int) : Bool :=
  (k == k2) && ((s == s2) && ((sg == sg2) && ((bg == bg2) && ((ct == ct2) && (eqL NA NA2 && (eqL NU NU2 && (eqL ME ME2 && eqL BA BA2)))))))
def isizeV (k s : Int) (BA : List (List TC)) (ct : Int) : Int :=
  bif k == 3 then (if h : 0 < BA.length then isizeV (nth (row BA (0 : Int)) 0).int (nth (row BA (0 : Int)) 1).int (nth (row BA (0 : Int)) 7).list (nth (row BA (0 : Int)) 8).int else 0)
  else bif k == 5 then (if h : 0 < BA.length then IntKind.wrap .i64 (ct * isizeV (nth (row BA (0 : Int)) 0).int (nth (row BA (0 : Int)) 1).int (nth (row BA (0 : Int)) 7).list (nth (row BA (0 : Int)) 8).int) else 0)
  else s
termination_by rowsDep BA
decreasing_by
  · exact pos_row h 7
  · exact pos_row h 7
def isizeC (k : Int) (BA : List (List TC)) : Bool :=
  bif k == 3 || k == 5 then (if h : 0 < BA.length then isizeC (nth (row BA (0 : Int)) 0).int (nth (row BA (0 : Int)) 7).list else false) else true
termination_by rowsDep BA
decreasing_by exact pos_row h 7
noncomputable def validV (k s : Int) (sg bg : Bool) (NA NU ME BA : List (List TC)) (ct d : Int) : Bool := okV k s sg bg NA NU ME BA ct && decide (depthV k ME BA ≤ d)
theorem eqL_nil {A : List (List TC)} : eqL A [] = ((A.length : Int) == 0) := by
  rw [Bool.eq_iff_iff, eqL_iff, beq_iff_eq]
  cases A <;> simp
  omega
def slotNameOk (x : List TC) : Bool := (nth x 0).str == [] || nameOk (nth x 0).str
def lastEmpty (A : List (List TC)) : Bool := (nth (row A (IntKind.wrap .i64 ((A.length : Int) - (1 : Int)))) 0).str == []
def heapOk (A : List (List TC)) : Bool := decide ((A.length : Int) ≤ 30) && (((A.length : Int) == 0) || !(lastEmpty A)) && A.all slotNameOk
theorem lenPos (A : List (List TC)) : decide ((A.length : Int) > 0) = !((A.length : Int) == 0) := by
  rw [Bool.eq_iff_iff]
  simp only [decide_eq_true_eq, Bool.not_eq_true', beq_eq_false_iff_ne]
  omega
def slotIdx (A : List (List TC)) (s : List UInt8) : Int := bif A.all (fun x => !((nth x 0).str == s)) then -1 else Int.ofNat (A.findIdx fun x => !(!((nth x 0).str == s)))
def dnP (A : List (List TC)) (i : Int) : Bool := nameOk (strAt A i) && noDupN A i
theorem slotIdx_in {A : List (List TC)} {s : List UInt8} : decide (slotIdx A s ≥ 0) = !(A.all fun x => !((nth x 0).str == s)) := by
  unfold slotIdx
  cases A.all fun x => !((nth x 0).str == s) <;> simp
noncomputable def endI (ME : List (List TC)) : Nat → Int
  | 0 => 0
  | i + 1 => IntKind.wrap .i64 ((nth (row ME (i : Int)) 1).int + isizeV (nth (row ME (i : Int)) 2).int (nth (row ME (i : Int)) 3).int (nth (row ME (i : Int)) 9).list (nth (row ME (i : Int)) 10).int)
def nmAt (ME : List (List TC)) : Nat → List (List TC)
  | 0 => []
  | i + 1 => nmAt ME i ++ [[TC.s (nth (row ME (i : Int)) 0).str]]
theorem nmAt_eq {ME : List (List TC)} : ∀ {j : Nat}, j ≤ ME.length → nmAt ME j = (ME.take j).map fun x => [TC.s (nth x 0).str]
  | 0, _ => rfl
  | j + 1, h => by
    have hn : j < ME.length := by omega
    rw [nmAt, nmAt_eq (Nat.le_of_lt hn), List.take_add_one, List.getElem?_eq_getElem hn, List.map_append, row_nat, getD_at hn]
    rfl
theorem nmAt_all {ME : List (List TC)} : nmAt ME ME.length = ME.map fun x => [TC.s (nth x 0).str] := by rw [nmAt_eq (Nat.le_refl _), List.take_length]
theorem nmAt_len {ME : List (List TC)} : (nmAt ME ME.length).length = ME.length := by rw [nmAt_all, List.length_map]
theorem nm_str {ME : List (List TC)} {i : Nat} (h : i < ME.length) : strAt (nmAt ME ME.length) (i : Int) = strAt ME (i : Int) := by
  unfold strAt
  rw [nmAt_all, row_nat, row_nat, getD_at (by rw [List.length_map]; exact h), getD_at h, List.getElem_map]
  rfl
theorem nm_dup {ME : List (List TC)} {i : Nat} (h : i < ME.length) : noDupN (nmAt ME ME.length) (i : Int) = noDupN ME (i : Int) := by
  unfold noDupN
  rw [Int.toNat_natCast]
  refine allI_congr fun j hj => ?_
  rw [nm_str h, nm_str (by omega)]
noncomputable def memI (ME : List (List TC)) (i : Nat) : Bool := !decide ((nth (row ME (i : Int)) 1).int < endI ME i) && !decide ((nth (row ME (i : Int)) 1).int > 24)
theorem maxI_le {a b c : Int} : maxI a b ≤ c ↔ a ≤ c ∧ b ≤ c := by
  unfold maxI
  cases h : decide (a > b) with
  | true => have := of_decide_eq_true h; simp only [cond_true]; omega
  | false => have := of_decide_eq_false h; simp only [cond_false]; omega
theorem fold_max {f : List TC → Int} {c : Int} : ∀ {l : List (List TC)} {b : Int}, l.foldl (fun d x => maxI d (f x)) b ≤ c ↔ b ≤ c ∧ ∀ x, x ∈ l → f x ≤ c
  | [], b => by simp
  | x :: l, b => by
    rw [List.foldl_cons, fold_max, maxI_le]
    simp only [List.mem_cons, forall_eq_or_imp, and_assoc]
theorem fold_ge {f : List TC → Int} : ∀ {l : List (List TC)} {b : Int}, b ≤ l.foldl (fun d x => maxI d (f x)) b
  | [], b => Int.le_refl _
  | x :: l, b => by
    rw [List.foldl_cons]
    exact Int.le_trans (maxI_le.1 (Int.le_refl _)).1 fold_ge
theorem okV_top {k s : Int} {sg bg : Bool} {NA NU ME BA : List (List TC)} {ct : Int} (h : okV k s sg bg NA NU ME BA ct = true) : sizeV k s BA ct ≤ 24 ∧ depthV k ME BA ≤ 3 := by
  rw [okV, Bool.and_eq_true, Bool.and_eq_true] at h
  exact ⟨of_decide_eq_true h.2.1, of_decide_eq_true h.2.2⟩
theorem okV_4 {s : Int} {sg bg : Bool} {NA NU ME BA : List (List TC)} {ct : Int} : okV 4 s sg bg NA NU ME BA ct = ((compS s sg bg NA NU ME BA ct && ((allI (memP ME) ME.length && ME.all (fun x => okV (nth x 2).int (nth x 3).int (nth x 4).bool (nth x 5).bool (nth x 6).list (nth x 7).list (nth x 8).list (nth x 9).list (nth x 10).int)) && decide (endAt ME ME.length ≤ s))) && (decide (sizeV 4 s BA ct ≤ 24) && decide (depthV 4 ME BA ≤ 3))) := by
  rw [okV, attach_okV]; rfl
theorem okV_5 {s : Int} {sg bg : Bool} {NA NU ME BA : List (List TC)} {ct : Int} : okV 5 s sg bg NA NU ME BA ct = ((arrS s sg bg NA NU ME BA ct && (if h : 0 < BA.length then okV (nth (row BA (0 : Int)) 0).int (nth (row BA (0 : Int)) 1).int (nth (row BA (0 : Int)) 2).bool (nth (row BA (0 : Int)) 3).bool (nth (row BA (0 : Int)) 4).list (nth (row BA (0 : Int)) 5).list (nth (row BA (0 : Int)) 6).list (nth (row BA (0 : Int)) 7).list (nth (row BA (0 : Int)) 8).int else false)) && (decide (sizeV 5 s BA ct ≤ 24) && decide (depthV 5 ME BA ≤ 3))) := by
  rw [okV]; rfl
theorem okV_1 {s : Int} {sg bg : Bool} {NA NU ME BA : List (List TC)} {ct : Int} : okV 1 s sg bg NA NU ME BA ct = (intV s sg bg NA NU ME BA ct && (decide (sizeV 1 s BA ct ≤ 24) && decide (depthV 1 ME BA ≤ 3))) := by
  rw [okV]; rfl
theorem okV_2 {s : Int} {sg bg : Bool} {NA NU ME BA : List (List TC)} {ct : Int} : okV 2 s sg bg NA NU ME BA ct = ((inB s 1 16 && bareV sg bg NA NU ME BA ct) && (decide (sizeV 2 s BA ct ≤ 24) && decide (depthV 2 ME BA ≤ 3))) := by
  rw [okV]; rfl
theorem okV_3 {s : Int} {sg bg : Bool} {NA NU ME BA : List (List TC)} {ct : Int} : okV 3 s sg bg NA NU ME BA ct = (enumV s sg bg NA NU ME BA ct && (decide (sizeV 3 s BA ct ≤ 24) && decide (depthV 3 ME BA ≤ 3))) := by
  rw [okV]; rfl
theorem okV_6 {s : Int} {sg bg : Bool} {NA NU ME BA : List (List TC)} {ct : Int} : okV 6 s sg bg NA NU ME BA ct = (((s == 2) && bareV sg bg NA NU ME BA ct) && (decide (sizeV 6 s BA ct ≤ 24) && decide (depthV 6 ME BA ≤ 3))) := by
  rw [okV]; rfl
theorem okV_kind {k s : Int} {sg bg : Bool} {NA NU ME BA : List (List TC)} {ct : Int} (h : okV k s sg bg NA NU ME BA ct = true) : k = 1 ∨ k = 2 ∨ k = 3 ∨ k = 4 ∨ k = 5 ∨ k = 6 := by
  apply Classical.byContradiction
  intro hn
  simp only [not_or] at hn
  obtain ⟨k1, k2, k3, k4, k5, k6⟩ := hn
  have e1 : (k == 1) = false := by simpa using k1
  have e2 : (k == 2) = false := by simpa using k2
  have e3 : (k == 3) = false := by simpa using k3
  have e4 : (k == 4) = false := by simpa using k4
  have e5 : (k == 5) = false := by simpa using k5
  have e6 : (k == 6) = false := by simpa using k6
  rw [okV] at h
  simp only [e1, e2, e3, e4, e5, e6, cond_false, Bool.false_and] at h
  cases h
theorem depth4 {ME BA : List (List TC)} : depthV 4 ME BA = IntKind.wrap .i64 (ME.foldl (fun d x => maxI d (depthV (nth x 2).int (nth x 8).list (nth x 9).list)) 0 + 1) := by
  rw [depthV, attach_foldl (f := fun d x => maxI d (depthV (nth x 2).int (nth x 8).list (nth x 9).list))]; rfl
theorem depth5 {ME BA : List (List TC)} (h : 0 < BA.length) : depthV 5 ME BA = IntKind.wrap .i64 (depthV (nth (row BA (0 : Int)) 0).int (nth (row BA (0 : Int)) 6).list (nth (row BA (0 : Int)) 7).list + 1) := by
  rw [depthV]
  show (if h : 0 < BA.length then IntKind.wrap .i64 (depthV (nth (row BA (0 : Int)) 0).int (nth (row BA (0 : Int)) 6).list (nth (row BA (0 : Int)) 7).list + 1) else 0) = _
  rw [dif_pos h]
theorem depth_else {k : Int} {ME BA : List (List TC)} (h4 : k ≠ 4) (h5 : k ≠ 5) : depthV k ME BA = 1 := by
  have e4 : (k == 4) = false := by simpa using h4
  have e5 : (k == 5) = false := by simpa using h5
  rw [depthV]
  simp only [e4, e5, cond_false]
theorem fold4 {ME BA : List (List TC)} (h : ∀ x, x ∈ ME → depthV (nth x 2).int (nth x 8).list (nth x 9).list ≤ 3) : depthV 4 ME BA = ME.foldl (fun d x => maxI d (depthV (nth x 2).int (nth x 8).list (nth x 9).list)) 0 + 1 := by
  have h1 : ME.foldl (fun d x => maxI d (depthV (nth x 2).int (nth x 8).list (nth x 9).list)) 0 ≤ 3 := fold_max.2 ⟨by omega, h⟩
  have h2 := fold_ge (f := fun x => depthV (nth x 2).int (nth x 8).list (nth x 9).list) (l := ME) (b := 0)
  rw [depth4, wrap64 (by omega) (by omega)]
theorem okV_base {s : Int} {sg bg : Bool} {NA NU ME BA : List (List TC)} {ct : Int} (h : okV 5 s sg bg NA NU ME BA ct = true) : 0 < BA.length ∧ okV (nth (row BA (0 : Int)) 0).int (nth (row BA (0 : Int)) 1).int (nth (row BA (0 : Int)) 2).bool (nth (row BA (0 : Int)) 3).bool (nth (row BA (0 : Int)) 4).list (nth (row BA (0 : Int)) 5).list (nth (row BA (0 : Int)) 6).list (nth (row BA (0 : Int)) 7).list (nth (row BA (0 : Int)) 8).int = true := by
  rw [okV_5, Bool.and_eq_true, Bool.and_eq_true] at h
  have h := h.1.2
  split at h
  · rename_i hb; exact ⟨hb, h⟩
  · cases h
theorem okV_mem {s : Int} {sg bg : Bool} {NA NU ME BA : List (List TC)} {ct : Int} (h : okV 4 s sg bg NA NU ME BA ct = true) : ∀ x, x ∈ ME → okV (nth x 2).int (nth x 3).int (nth x 4).bool (nth x 5).bool (nth x 6).list (nth x 7).list (nth x 8).list (nth x 9).list (nth x 10).int = true := by
  rw [okV_4] at h
  simp only [Bool.and_eq_true, List.all_eq_true] at h
  exact h.1.2.1.2
theorem okV_pos : ∀ {BA : List (List TC)} {k s : Int} {sg bg : Bool} {NA NU ME : List (List TC)} {ct : Int}, okV k s sg bg NA NU ME BA ct = true → 1 ≤ depthV k ME BA := by
  intro BA
  induction h : rowsDep BA using Nat.strongRecOn generalizing BA with
  | _ n ih =>
    intro k s sg bg NA NU ME ct hk
    by_cases k4 : k = 4
    · subst k4
      rw [fold4 fun x hx => (okV_top (okV_mem hk x hx)).2]
      have := fold_ge (f := fun x => depthV (nth x 2).int (nth x 8).list (nth x 9).list) (l := ME) (b := 0)
      omega
    by_cases k5 : k = 5
    · subst k5
      obtain ⟨hb, ho⟩ := okV_base hk
      have h1 := ih _ (by rw [← h]; exact pos_row hb 7) rfl ho
      have h2 := (okV_top ho).2
      rw [depth5 hb, wrap64 (by omega) (by omega)]
      omega
    rw [depth_else k4 k5]
    omega
theorem okV_isize : ∀ {BA : List (List TC)} {k s : Int} {sg bg : Bool} {NA NU ME : List (List TC)} {ct : Int}, okV k s sg bg NA NU ME BA ct = true → isizeV k s BA ct = sizeV k s BA ct ∧ isizeC k BA = true := by
  intro BA
  induction h : rowsDep BA using Nat.strongRecOn generalizing BA with
  | _ n ih =>
    intro k s sg bg NA NU ME ct hk
    rw [isizeV, isizeC, sizeV]
    cases h3 : (k == 3) with
    | true =>
      have : k = 3 := by simpa using h3
      subst this
      rw [okV_3, Bool.and_eq_true] at hk
      have hk := hk.1
      simp only [enumV, Bool.and_eq_true, beq_iff_eq] at hk
      have hb : 0 < BA.length := by omega
      have h1 := hk.2.2.2.2.2.1
      simp only [Bool.true_or, cond_true, dif_pos hb]
      rw [h1, isizeV, isizeC]
      exact ⟨rfl, rfl⟩
    | false =>
      cases h5 : (k == 5) with
      | true =>
        have : k = 5 := by simpa using h5
        subst this
        obtain ⟨hb, ho⟩ := okV_base hk
        have h1 := ih _ (by rw [← h]; exact pos_row hb 7) rfl ho
        simp only [Bool.false_or, cond_true, cond_false, dif_pos hb]
        rw [h1.1, h1.2]
        exact ⟨rfl, rfl⟩
      | false => exact ⟨rfl, rfl⟩
theorem endI_eq {ME : List (List TC)} (h : ∀ x, x ∈ ME → okV (nth x 2).int (nth x 3).int (nth x 4).bool (nth x 5).bool (nth x 6).list (nth x 7).list (nth x 8).list (nth x 9).list (nth x 10).int = true) : ∀ {j : Nat}, j ≤ ME.length → endI ME j = endAt ME j
  | 0, _ => rfl
  | j + 1, hj => by
    rw [endI, endAt, (okV_isize (h (row ME (j : Int)) (by rw [row_nat]; exact mem_getD (by omega)))).1]
def numP (NU : List (List TC)) (lo hi i : Int) : Bool := inB (intAt NU i) lo hi && ascB NU i
theorem inB_iff {n lo hi : Int} : inB n lo hi = true ↔ lo ≤ n ∧ n ≤ hi := by
  unfold inB
  cases h : decide (n ≥ lo) with
  | true => have := of_decide_eq_true h; simp only [cond_true, decide_eq_true_eq]; omega
  | false => have := of_decide_eq_false h; simp only [cond_false]; constructor <;> intro h <;> first | (cases h; done) | omega
theorem size_else {k s : Int} {BA : List (List TC)} {ct : Int} (h3 : k ≠ 3) (h5 : k ≠ 5) : sizeV k s BA ct = s := by
  have e3 : (k == 3) = false := by simpa using h3
  have e5 : (k == 5) = false := by simpa using h5
  rw [sizeV]
  simp only [e3, e5, cond_false]
theorem size3 {s : Int} {BA : List (List TC)} {ct : Int} : sizeV 3 s BA ct = (nth (row BA (0 : Int)) 1).int := by rw [sizeV]; rfl
theorem has4_le {s : Int} (h : has4 s = true) : s ≤ 8 := by
  unfold has4 at h
  simp only [Bool.or_eq_true, beq_iff_eq] at h
  omega
theorem intV_le {s : Int} {sg bg : Bool} {NA NU ME BA : List (List TC)} {ct : Int} (h : intV s sg bg NA NU ME BA ct = true) : s ≤ 8 := by
  simp only [intV, Bool.and_eq_true] at h
  exact has4_le h.1.1.1
theorem valid_1 {s : Int} {sg bg : Bool} {NA NU ME BA : List (List TC)} {ct d : Int} (hd : 1 ≤ d) : validV 1 s sg bg NA NU ME BA ct d = intV s sg bg NA NU ME BA ct := by
  unfold validV
  rw [okV_1, depth_else (by decide) (by decide), size_else (by decide) (by decide), decide_eq_true hd]
  cases h : intV s sg bg NA NU ME BA ct with
  | false => rfl
  | true => have := intV_le h; rw [decide_eq_true (show s ≤ 24 by omega)]; rfl
theorem pure1 {s : Int} {sg bg : Bool} {NA NU ME BA : List (List TC)} {ct d : Int} (hd : 1 ≤ d) : (bif !(sameV 1 s sg bg NA NU ME BA ct 1 s sg bg [] [] [] [] 0) then false else (has4 s && (!((s == 8) && !sg) && !((s == 1) && bg)))) = validV 1 s sg bg NA NU ME BA ct d := by
  rw [valid_1 hd]
  unfold intV sameV empt
  simp only [eqL_nil, beq_self_eq_true, Bool.true_and, bif_nf]
  ac_rfl
theorem valid_2 {s : Int} {sg bg : Bool} {NA NU ME BA : List (List TC)} {ct d : Int} (hd : 1 ≤ d) : validV 2 s sg bg NA NU ME BA ct d = (inB s 1 16 && bareV sg bg NA NU ME BA ct) := by
  unfold validV
  rw [okV_2, depth_else (by decide) (by decide), size_else (by decide) (by decide), decide_eq_true hd]
  cases h : inB s 1 16 with
  | false => rfl
  | true => have := inB_iff.1 h; rw [decide_eq_true (show s ≤ 24 by omega)]; simp
theorem valid_6 {s : Int} {sg bg : Bool} {NA NU ME BA : List (List TC)} {ct d : Int} (hd : 1 ≤ d) : validV 6 s sg bg NA NU ME BA ct d = ((s == 2) && bareV sg bg NA NU ME BA ct) := by
  unfold validV
  rw [okV_6, depth_else (by decide) (by decide), size_else (by decide) (by decide), decide_eq_true hd]
  cases h : (s == 2) with
  | false => rfl
  | true => have := beq_iff_eq.1 h; rw [decide_eq_true (show s ≤ 24 by omega)]; simp
theorem pureB {k s : Int} {b sg bg : Bool} {NA NU ME BA : List (List TC)} {ct : Int} : (bif !(sameV k s sg bg NA NU ME BA ct k s false false [] [] [] [] 0) then false else b) = (b && bareV sg bg NA NU ME BA ct) := by
  unfold sameV bareV plain empt
  simp only [eqL_nil, beq_self_eq_true, Bool.true_and, bif_nf, beq_false]
  ac_rfl
theorem len0 {A : List (List TC)} : (!decide ((A.length : Int) > 0)) = ((A.length : Int) == 0) := by
  rw [Bool.eq_iff_iff]; simp
theorem pure3 {s : Int} {sg bg : Bool} {NA NU ME BA : List (List TC)} {ct d : Int} (hd : 1 ≤ d) : (bif !(sameV 3 s sg bg NA NU ME BA ct 3 0 false false NA NU [] BA 0) then false else (((BA.length : Int) == 1) && (((nth (row BA (0 : Int)) 0).int == 1) && (validV (nth (row BA (0 : Int)) 0).int (nth (row BA (0 : Int)) 1).int (nth (row BA (0 : Int)) 2).bool (nth (row BA (0 : Int)) 3).bool (nth (row BA (0 : Int)) 4).list (nth (row BA (0 : Int)) 5).list (nth (row BA (0 : Int)) 6).list (nth (row BA (0 : Int)) 7).list (nth (row BA (0 : Int)) 8).int 1 && (allI (fun i : Nat => numP NU (loV (nth (row BA (0 : Int)) 1).int (nth (row BA (0 : Int)) 2).bool) (hiV (nth (row BA (0 : Int)) 1).int (nth (row BA (0 : Int)) 2).bool) (i : Int)) NU.length && (inB (NU.length : Int) 1 6 && (((NA.length : Int) == (NU.length : Int)) && allI (fun i : Nat => dnP NA (i : Int)) NA.length))))))) = validV 3 s sg bg NA NU ME BA ct d := by
  show _ = (okV 3 s sg bg NA NU ME BA ct && decide (depthV 3 ME BA ≤ d))
  rw [okV_3, depth_else (k := 3) (by decide) (by decide), decide_eq_true hd, size3]
  unfold sameV enumV plain
  simp only [eqL_nil, eqL_refl, beq_self_eq_true, Bool.true_and, Bool.and_true, bif_nf, beq_false, len0]
  cases hk : ((nth (row BA (0 : Int)) 0).int == 1) with
  | false => simp only [Bool.false_and, Bool.and_false]
  | true =>
    rw [show validV (nth (row BA (0 : Int)) 0).int (nth (row BA (0 : Int)) 1).int (nth (row BA (0 : Int)) 2).bool (nth (row BA (0 : Int)) 3).bool (nth (row BA (0 : Int)) 4).list (nth (row BA (0 : Int)) 5).list (nth (row BA (0 : Int)) 6).list (nth (row BA (0 : Int)) 7).list (nth (row BA (0 : Int)) 8).int 1 = intV (nth (row BA (0 : Int)) 1).int (nth (row BA (0 : Int)) 2).bool (nth (row BA (0 : Int)) 3).bool (nth (row BA (0 : Int)) 4).list (nth (row BA (0 : Int)) 5).list (nth (row BA (0 : Int)) 6).list (nth (row BA (0 : Int)) 7).list (nth (row BA (0 : Int)) 8).int from by rw [beq_iff_eq.1 hk]; exact valid_1 (by omega)]
    cases hI : intV (nth (row BA (0 : Int)) 1).int (nth (row BA (0 : Int)) 2).bool (nth (row BA (0 : Int)) 3).bool (nth (row BA (0 : Int)) 4).list (nth (row BA (0 : Int)) 5).list (nth (row BA (0 : Int)) 6).list (nth (row BA (0 : Int)) 7).list (nth (row BA (0 : Int)) 8).int with
    | false => simp only [Bool.false_and, Bool.and_false]
    | true =>
      have hs := intV_le hI
      rw [decide_eq_true (show (nth (row BA (0 : Int)) 1).int ≤ 24 by omega)]
      rw [Bool.eq_iff_iff]
      simp only [Bool.true_and, Bool.and_true, Bool.and_eq_true, beq_iff_eq, inB_iff, allI_iff, Bool.not_eq_true', decide_eq_false_iff_not, show decide ((1 : Int) ≤ 3) = true from rfl]
      constructor
      · rintro ⟨⟨a1, a2, a3, a4, a5⟩, a6, a7, ⟨a8, a9⟩, a10, a11⟩
        refine ⟨a1, ⟨a2, a3⟩, a5, a4, a6, by omega, by omega, a10.symm, fun i hi => ?_⟩
        have n1 := a7 i (by omega)
        have n2 := a11 i hi
        simp only [numP, dnP, Bool.and_eq_true] at n1 n2
        simp only [enumP, Bool.and_eq_true]
        exact ⟨⟨⟨n2.1, n1.1⟩, n1.2⟩, n2.2⟩
      · rintro ⟨a1, ⟨a2, a3⟩, a5, a4, a6, a7, a8, a9, a10⟩
        refine ⟨⟨a1, a2, a3, a4, a5⟩, a6, fun i hi => ?_, ⟨by omega, by omega⟩, a9.symm, fun i hi => ?_⟩
        · have n := a10 i (by omega)
          simp only [enumP, Bool.and_eq_true] at n
          simp only [numP, Bool.and_eq_true]
          exact ⟨n.1.1.2, n.1.2⟩
        · have n := a10 i hi
          simp only [enumP, Bool.and_eq_true] at n
          simp only [dnP, Bool.and_eq_true]
          exact ⟨n.1.1.1, n.2⟩
theorem pure4 {s : Int} {sg bg : Bool} {NA NU ME BA : List (List TC)} {ct d : Int} (hd : 1 ≤ d) (hd3 : d ≤ 3) : (bif !(sameV 4 s sg bg NA NU ME BA ct 4 s false false [] [] ME [] 0) then false else (inB s 1 24 && (inB (ME.length : Int) 1 4 && ((allI (memI ME) ME.length && ME.all fun x => validV (nth x 2).int (nth x 3).int (nth x 4).bool (nth x 5).bool (nth x 6).list (nth x 7).list (nth x 8).list (nth x 9).list (nth x 10).int (d - 1)) && (decide (endI ME ME.length ≤ s) && allI (fun i : Nat => dnP ME (i : Int)) ME.length))))) = validV 4 s sg bg NA NU ME BA ct d := by
  unfold validV
  rw [okV_4, size_else (by decide) (by decide)]
  unfold sameV compS plain
  simp only [eqL_nil, eqL_refl, beq_self_eq_true, Bool.true_and, Bool.and_true, bif_nf, beq_false, len0]
  rw [Bool.eq_iff_iff]
  simp only [Bool.true_and, Bool.and_true, Bool.and_eq_true, beq_iff_eq, inB_iff, allI_iff, Bool.not_eq_true', decide_eq_false_iff_not, decide_eq_true_eq, List.all_eq_true]
  constructor
  · rintro ⟨⟨a1, a2, a3, a4, a5, a6⟩, ⟨a7, a8⟩, ⟨a9, a10⟩, ⟨a11, a12⟩, a13, a14⟩
    have hok : ∀ x, x ∈ ME → okV (nth x 2).int (nth x 3).int (nth x 4).bool (nth x 5).bool (nth x 6).list (nth x 7).list (nth x 8).list (nth x 9).list (nth x 10).int = true := fun x hx => (a12 x hx).1
    have hf : depthV 4 ME BA ≤ d := by
      rw [fold4 fun x hx => (okV_top (hok x hx)).2]
      have := (fold_max (f := fun x => depthV (nth x 2).int (nth x 8).list (nth x 9).list) (c := d - 1) (l := ME) (b := 0)).2 ⟨by omega, fun x hx => (a12 x hx).2⟩
      omega
    refine ⟨⟨⟨⟨⟨a7, a8⟩, ⟨a1, a2⟩, a4, a5, a6, a3, by omega, by omega⟩, ⟨fun i hi => ?_, hok⟩, by rw [← endI_eq hok (Nat.le_refl _)]; exact a13⟩, a8, by omega⟩, hf⟩
    have n1 := a11 i hi
    have n2 := a14 i hi
    simp only [memI, dnP, Bool.and_eq_true, endI_eq hok (Nat.le_of_lt hi)] at n1 n2
    simp only [memP, Bool.and_eq_true]
    exact ⟨n2.1, n1.1, n1.2, n2.2⟩
  · rintro ⟨⟨⟨⟨⟨a7, a8⟩, ⟨a1, a2⟩, a4, a5, a6, a3, a9, a10⟩, ⟨a11, hok⟩, a13⟩, a15, a16⟩, hf⟩
    have hd' : ∀ x, x ∈ ME → depthV (nth x 2).int (nth x 8).list (nth x 9).list ≤ d - 1 := by
      rw [fold4 fun x hx => (okV_top (hok x hx)).2] at hf
      exact ((fold_max (f := fun x => depthV (nth x 2).int (nth x 8).list (nth x 9).list) (c := d - 1) (l := ME) (b := 0)).1 (by omega)).2
    refine ⟨⟨a1, a2, a3, a4, a5, a6⟩, ⟨a7, a8⟩, ⟨by omega, by omega⟩, ⟨fun i hi => ?_, fun x hx => ⟨hok x hx, hd' x hx⟩⟩, by rw [endI_eq hok (Nat.le_refl _)]; exact a13, fun i hi => ?_⟩
    · have n := a11 i hi
      simp only [memP, Bool.and_eq_true] at n
      simp only [memI, Bool.and_eq_true, endI_eq hok (Nat.le_of_lt hi)]
      exact ⟨n.2.1, n.2.2.1⟩
    · have n := a11 i hi
      simp only [memP, Bool.and_eq_true] at n
      simp only [dnP, Bool.and_eq_true]
      exact ⟨n.1, n.2.2.2⟩
theorem pure5 {s : Int} {sg bg : Bool} {NA NU ME BA : List (List TC)} {ct d : Int} (hd : 1 ≤ d) (hd3 : d ≤ 3) : (bif !(sameV 5 s sg bg NA NU ME BA ct 5 0 false false [] [] [] BA ct) then false else (inB ct 1 4 && (((BA.length : Int) == 1) && (validV (nth (row BA (0 : Int)) 0).int (nth (row BA (0 : Int)) 1).int (nth (row BA (0 : Int)) 2).bool (nth (row BA (0 : Int)) 3).bool (nth (row BA (0 : Int)) 4).list (nth (row BA (0 : Int)) 5).list (nth (row BA (0 : Int)) 6).list (nth (row BA (0 : Int)) 7).list (nth (row BA (0 : Int)) 8).int (d - 1) && decide (isizeV 5 s BA ct ≤ 24))))) = validV 5 s sg bg NA NU ME BA ct d := by
  cases hb : ((BA.length : Int) == 1) with
  | false =>
    unfold validV
    rw [okV_5]
    unfold arrS
    rw [hb]
    simp only [Bool.false_and, Bool.and_false, bif_nf]
  | true =>
    have hb0 : 0 < BA.length := by have := beq_iff_eq.1 hb; omega
    cases ho : okV (nth (row BA (0 : Int)) 0).int (nth (row BA (0 : Int)) 1).int (nth (row BA (0 : Int)) 2).bool (nth (row BA (0 : Int)) 3).bool (nth (row BA (0 : Int)) 4).list (nth (row BA (0 : Int)) 5).list (nth (row BA (0 : Int)) 6).list (nth (row BA (0 : Int)) 7).list (nth (row BA (0 : Int)) 8).int with
    | false =>
      have e1 : validV (nth (row BA (0 : Int)) 0).int (nth (row BA (0 : Int)) 1).int (nth (row BA (0 : Int)) 2).bool (nth (row BA (0 : Int)) 3).bool (nth (row BA (0 : Int)) 4).list (nth (row BA (0 : Int)) 5).list (nth (row BA (0 : Int)) 6).list (nth (row BA (0 : Int)) 7).list (nth (row BA (0 : Int)) 8).int (d - 1) = false := by unfold validV; rw [ho]; rfl
      have e2 : validV 5 s sg bg NA NU ME BA ct d = false := by
        unfold validV
        rw [okV_5, dif_pos hb0, ho]
        simp only [Bool.and_false, Bool.false_and]
      rw [e1, e2]
      simp only [Bool.false_and, Bool.and_false, bif_nf]
    | true =>
      have hi := okV_isize ho
      have hsz : isizeV 5 s BA ct = sizeV 5 s BA ct := by
        rw [isizeV, sizeV]
        show (if h : 0 < BA.length then IntKind.wrap .i64 (ct * isizeV (nth (row BA (0 : Int)) 0).int (nth (row BA (0 : Int)) 1).int (nth (row BA (0 : Int)) 7).list (nth (row BA (0 : Int)) 8).int) else 0) = (if h : 0 < BA.length then IntKind.wrap .i64 (ct * sizeV (nth (row BA (0 : Int)) 0).int (nth (row BA (0 : Int)) 1).int (nth (row BA (0 : Int)) 7).list (nth (row BA (0 : Int)) 8).int) else 0)
        rw [dif_pos hb0, dif_pos hb0, hi.1]
      have ht := okV_top ho
      have hp := okV_pos ho
      unfold validV
      rw [okV_5, dif_pos hb0, ho, hsz, depth5 hb0, wrap64 (by omega) (by omega)]
      unfold sameV arrS plain
      simp only [eqL_nil, eqL_refl, beq_self_eq_true, Bool.true_and, Bool.and_true, bif_nf, beq_false, len0, hb]
      rw [show decide (depthV (nth (row BA (0 : Int)) 0).int (nth (row BA (0 : Int)) 6).list (nth (row BA (0 : Int)) 7).list + 1 ≤ d) = decide (depthV (nth (row BA (0 : Int)) 0).int (nth (row BA (0 : Int)) 6).list (nth (row BA (0 : Int)) 7).list ≤ d - 1) from by rw [Bool.eq_iff_iff]; simp only [decide_eq_true_eq]; omega]
      rw [Bool.eq_iff_iff]
      simp only [Bool.and_eq_true, decide_eq_true_eq]
      constructor
      · rintro ⟨⟨a1, a2, a3, a4, a5, a6⟩, a7, a8, a9⟩
        exact ⟨⟨⟨a1, ⟨a2, a3⟩, a4, a5, a6, a7⟩, a9, by omega⟩, a8⟩
      · rintro ⟨⟨⟨a1, ⟨a2, a3⟩, a4, a5, a6, a7⟩, a9, a10⟩, a8⟩
        exact ⟨⟨a1, a2, a3, a4, a5, a6⟩, a7, a8, a9⟩
def numK (k : Int) : Bool := bif k == 1 then true else bif k == 3 then true else k == 6
noncomputable def rangeT (k s : Int) (sg : Bool) (NU : List (List TC)) : Int × Int := bif k == 3 then (intAt NU 0, intAt NU (IntKind.wrap .i64 ((NU.length : Int) - (1 : Int)))) else bif k == 6 then (0, 65535) else (loV s sg, hiV s sg)
theorem okV_enum {s : Int} {sg bg : Bool} {NA NU ME BA : List (List TC)} {ct : Int} (h : okV 3 s sg bg NA NU ME BA ct = true) : 1 ≤ NU.length ∧ NU.length ≤ 6 ∧ NA.length = NU.length ∧ BA.length = 1 ∧ (nth (row BA (0 : Int)) 0).int = 1 ∧ intV (nth (row BA (0 : Int)) 1).int (nth (row BA (0 : Int)) 2).bool (nth (row BA (0 : Int)) 3).bool (nth (row BA (0 : Int)) 4).list (nth (row BA (0 : Int)) 5).list (nth (row BA (0 : Int)) 6).list (nth (row BA (0 : Int)) 7).list (nth (row BA (0 : Int)) 8).int = true ∧ ∀ i, i < NU.length → enumP NA NU (loV (nth (row BA (0 : Int)) 1).int (nth (row BA (0 : Int)) 2).bool) (hiV (nth (row BA (0 : Int)) 1).int (nth (row BA (0 : Int)) 2).bool) (i : Int) = true := by
  rw [okV_3] at h
  simp only [enumV, Bool.and_eq_true, beq_iff_eq, Bool.not_eq_true', decide_eq_false_iff_not, allI_iff] at h
  obtain ⟨⟨a1, a2, a3, a4, a5, a6, a7, a8, a9, a10, a11⟩, -⟩ := h
  exact ⟨by omega, by omega, by omega, by omega, a6, a7, fun i hi => a11 i (by omega)⟩
theorem okV_int {s : Int} {sg bg : Bool} {NA NU ME BA : List (List TC)} {ct : Int} (h : okV 1 s sg bg NA NU ME BA ct = true) : intV s sg bg NA NU ME BA ct = true := by
  rw [okV_1, Bool.and_eq_true] at h
  exact h.1
def szOk (s : Int) : Bool := decide (0 ≤ s) && decide (s ≤ 8)
def numC (k s : Int) (BA : List (List TC)) : Bool := bif k == 3 then decide (0 < BA.length) && ((nth (row BA (0 : Int)) 0).int == 1) && szOk (nth (row BA (0 : Int)) 1).int else szOk s
noncomputable def numB (k s : Int) (bg : Bool) (BA : List (List TC)) (n : Int) : List UInt8 := bif k == 3 then putB n (nth (row BA (0 : Int)) 1).int.toNat (nth (row BA (0 : Int)) 3).bool else putB n s.toNat bg
theorem byteOf_byte (b : UInt8) : byteOf [TC.i b.toNat] = b := by
  unfold byteOf
  simp [nth, TC.int]
theorem bytesRow_of (l : List UInt8) : (bytesRow l).map byteOf = l := by
  unfold bytesRow
  rw [List.map_map]
  exact (List.map_congr_left fun b _ => byteOf_byte b).trans (List.map_id l)
theorem repL_one (b : UInt8) : ∀ n, Lib.repeatL [b] n = List.replicate n b
  | 0 => rfl
  | n + 1 => by rw [Lib.repeatL, repL_one b n]; rfl
def padL (s : List UInt8) (n : Nat) : List UInt8 := s ++ List.replicate (n - s.length) 0
theorem padL_len {s : List UInt8} {n : Nat} (h : s.length ≤ n) : (padL s n).length = n := by
  unfold padL
  rw [List.length_append, List.length_replicate]
  omega
theorem zeros_of {k : Nat} : (List.replicate k [TC.i (0 : Int)]).map byteOf = List.replicate k 0 := by
  rw [List.map_replicate]
  rfl
def inI (a b c : Int) : Bool := bif decide (a ≥ b) then decide (a ≤ c) else false
def msgOk (x : List TC) : Bool := inI (nth x 0).int 1 9 && inI (nth x 1).int 0 255 && !decide (((nth x 2).str.length : Int) > 200)
def hdrOk (k r : Int) (A : List (List TC)) : Bool := inI k 1 3 && inI r 0 1000 && !decide ((A.length : Int) > 24) && A.all msgOk
def msgB (x : List TC) : List UInt8 := bytesL (nth x 0).int 1 ++ bytesL (nth x 1).int 1 ++ bytesL ((nth x 2).str.length : Int) 1 ++ (nth x 2).str
def hdrL (A : List (List TC)) : Nat → List UInt8
  | 0 => []
  | j + 1 => hdrL A j ++ msgB (row A (j : Int))
theorem msgB_len {x : List TC} (h : msgOk x = true) : (msgB x).length ≤ 203 := by
  unfold msgOk at h
  rw [Bool.and_eq_true] at h
  have h2 : ¬ ((nth x 2).str.length : Int) > 200 := by simpa using h.2
  unfold msgB
  simp only [List.length_append, bytesL_len]
  omega
theorem hdrL_len {A : List (List TC)} (h : A.all msgOk = true) : ∀ j, j ≤ A.length → (hdrL A j).length ≤ 203 * j
  | 0, _ => by simp [hdrL]
  | j + 1, hj => by
    have ih := hdrL_len h j (by omega)
    have := msgB_len (x := row A (j : Int)) (List.all_eq_true.1 h _ (mem_getD (by omega)))
    unfold hdrL
    rw [List.length_append]
    omega
noncomputable def hdrV (k r : Int) (A : List (List TC)) : List UInt8 := (bytesL k 1 ++ bytesL r 2 ++ bytesL (A.length : Int) 1) ++ hdrL A A.length
theorem hdrOk_i {k r : Int} {A : List (List TC)} (h : hdrOk k r A = true) : A.length ≤ 24 ∧ A.all msgOk = true := by
  unfold hdrOk at h
  rw [Bool.and_eq_true, Bool.and_eq_true] at h
  have : ¬ (A.length : Int) > 24 := by simpa using h.1.2
  exact ⟨by omega, h.2⟩
theorem has4_sz {s : Int} (h : has4 s = true) : szOk s = true := by
  simp only [has4, Bool.or_eq_true, beq_iff_eq] at h
  unfold szOk
  rw [decide_eq_true (by omega), decide_eq_true (by omega)]; rfl
theorem szOk_nat {s : Int} (h : szOk s = true) : ∃ m : Nat, s = (m : Int) ∧ m ≤ 8 := by
  unfold szOk at h
  rw [Bool.and_eq_true] at h
  have h0 := of_decide_eq_true h.1
  have h8 := of_decide_eq_true h.2
  exact ⟨s.toNat, by omega, by omega⟩
theorem intV_sz {s : Int} {sg bg : Bool} {NA NU ME BA : List (List TC)} {ct : Int} (h : intV s sg bg NA NU ME BA ct = true) : szOk s = true := by
  simp only [intV, Bool.and_eq_true] at h
  exact has4_sz h.1.1.1
theorem okV_ref {s : Int} {sg bg : Bool} {NA NU ME BA : List (List TC)} {ct : Int} (h : okV 6 s sg bg NA NU ME BA ct = true) : s = 2 ∧ bg = false := by
  rw [okV_6, Bool.and_eq_true, Bool.and_eq_true] at h
  refine ⟨eq_of_beq h.1.1, ?_⟩
  have h2 := h.1.2
  unfold bareV plain at h2
  cases bg with
  | false => rfl
  | true => cases sg <;> cases h2
theorem okV_numC {k s : Int} {sg bg : Bool} {NA NU ME BA : List (List TC)} {ct : Int} (h : okV k s sg bg NA NU ME BA ct = true) (hn : numK k = true) : numC k s BA = true := by
  rcases okV_kind h with rfl | rfl | rfl | rfl | rfl | rfl
  · exact intV_sz (okV_int h)
  · cases hn
  · obtain ⟨e1, e2, -, e3, e4, e5, -⟩ := okV_enum h
    show (decide (0 < BA.length) && ((nth (row BA (0 : Int)) 0).int == 1) && szOk (nth (row BA (0 : Int)) 1).int) = true
    rw [decide_eq_true (by omega), e4, intV_sz e5]; rfl
  · cases hn
  · cases hn
  · rw [(okV_ref h).1]
    show szOk 2 = true
    decide
noncomputable def elemV (k s : Int) (sg : Bool) (NU : List (List TC)) (n : Int) : Bool := bif k == 3 then !(NU.all (fun x => !((nth x 0).int == n))) else bif k == 1 then inI n (loV s sg) (hiV s sg) else bif k == 6 then inI n 0 65535 else false
theorem elem_num {k s : Int} {sg : Bool} {NU : List (List TC)} {n : Int} (h : elemV k s sg NU n = true) : numK k = true := by
  unfold elemV at h
  unfold numK
  cases h1 : (k == 1) <;> cases h3 : (k == 3) <;> cases h6 : (k == 6) <;> rw [h1, h3, h6] at h <;> first | rfl | cases h
noncomputable def bytesV (k s : Int) (sg bg : Bool) (NA NU ME BA : List (List TC)) (ct n : Int) : List UInt8 × Bool := bif okV k s sg bg NA NU ME BA ct then bif elemV k s sg NU n then (numB k s bg BA n, true) else ([], false) else ([], false)
def revI (n m p : Nat) : Nat := bif decide (p < m) || decide (n ≤ p + m) then n - 1 - p else p
def revS (A : List (List TC)) (m : Nat) : List (List TC) := (List.range A.length).map fun p => row A ((revI A.length m p : Nat) : Int)
theorem revS_len {A : List (List TC)} {m : Nat} : (revS A m).length = A.length := by simp [revS]
theorem revS_row {A : List (List TC)} {m p : Nat} (h : p < A.length) : row (revS A m) (p : Int) = row A ((revI A.length m p : Nat) : Int) := by
  show (revS A m).getD (p : Int).toNat [] = _
  rw [Int.toNat_natCast, getD_at (by rw [revS_len]; exact h)]
  simp [revS]
theorem revS_zero {A : List (List TC)} : revS A 0 = A := by
  refine List.ext_getElem revS_len fun p h1 h2 => ?_
  have e : revI A.length 0 p = p := by
    unfold revI
    rw [decide_eq_false (by omega), decide_eq_false (by omega)]; rfl
  have : row A (p : Int) = A[p] := by unfold row; rw [Int.toNat_natCast, getD_at h2]
  simp [revS, e, this]
theorem revS_end {A : List (List TC)} : revS A (A.length / 2) = A.reverse := by
  refine List.ext_getElem (by rw [revS_len, List.length_reverse]) fun p h1 h2 => ?_
  have h3 : p < A.length := by rw [revS_len] at h1; exact h1
  have e : revI A.length (A.length / 2) p = A.length - 1 - p := by
    unfold revI
    by_cases h : p < A.length / 2
    · rw [decide_eq_true h]; rfl
    · by_cases h' : A.length ≤ p + A.length / 2
      · rw [decide_eq_true h', Bool.or_true]; rfl
      · rw [decide_eq_false h, decide_eq_false h']
        show p = _
        omega
  have h4 : A.length - 1 - p < A.length := by omega
  have : row A ((A.length - 1 - p : Nat) : Int) = A[A.length - 1 - p] := by unfold row; rw [Int.toNat_natCast, getD_at h4]
  rw [List.getElem_reverse]
  simp [revS, e, this]
theorem revS_set {A : List (List TC)} {m : Nat} (h : m < A.length / 2) : ((revS A m).set m (row A ((A.length - 1 - m : Nat) : Int))).set (A.length - 1 - m) (row A (m : Int)) = revS A (m + 1) := by
  refine List.ext_getElem (by simp [revS_len]) fun p h1 h2 => ?_
  have h3 : p < A.length := by rw [revS_len] at h2; exact h2
  have e2 : (revS A (m + 1))[p] = row A ((revI A.length (m + 1) p : Nat) : Int) := by simp [revS]
  rw [e2, List.getElem_set]
  by_cases hp : A.length - 1 - m = p
  · rw [if_pos hp]
    subst hp
    have e : revI A.length (m + 1) (A.length - 1 - m) = m := by
      unfold revI
      rw [decide_eq_true (show A.length ≤ A.length - 1 - m + (m + 1) by omega), Bool.or_true]
      show A.length - 1 - (A.length - 1 - m) = m
      omega
    rw [e]
  · rw [if_neg hp, List.getElem_set]
    by_cases hm : m = p
    · rw [if_pos hm]
      subst hm
      have e : revI A.length (m + 1) m = A.length - 1 - m := by
        unfold revI
        rw [decide_eq_true (show m < m + 1 by omega)]; rfl
      rw [e]
    · rw [if_neg hm]
      have e1 : (revS A m)[p]'(by rw [revS_len]; exact h3) = row A ((revI A.length m p : Nat) : Int) := by simp [revS]
      rw [e1]
      have e : revI A.length (m + 1) p = revI A.length m p := by
        unfold revI
        rw [show decide (p < m + 1) = decide (p < m) from by rw [Bool.eq_iff_iff]; simp; omega, show decide (A.length ≤ p + (m + 1)) = decide (A.length ≤ p + m) from by rw [Bool.eq_iff_iff]; simp; omega]
      rw [e]
theorem one_at {A : List (List TC)} (h : ∀ x, x ∈ A → ∃ n, x = [TC.i n]) {p : Nat} (hp : p < A.length) : ∃ n, row A (p : Int) = [TC.i n] := by
  refine h _ ?_
  unfold row
  rw [Int.toNat_natCast]
  exact mem_getD hp
theorem one_row {x : List TC} {A : List (List TC)} (h : ∀ x, x ∈ A → ∃ n, x = [TC.i n]) {p : Nat} (hp : p < A.length) (hx : x.length = 1) : splice x 0 [TC.i (nth (row A (p : Int)) 0).int] = row A (p : Int) := by
  obtain ⟨n, hn⟩ := one_at h hp
  rw [hn]
  unfold splice
  rw [List.take_zero, List.nil_append, List.drop_of_length_le (by simp [hx])]
  rfl
theorem row_one {A : List (List TC)} (h : ∀ x, x ∈ A → ∃ n, x = [TC.i n]) {p : Nat} (hp : p < A.length) : (row A (p : Int)).length = 1 := by
  obtain ⟨n, hn⟩ := one_at h hp
  rw [hn]; rfl
theorem bytesRow_one {s : List UInt8} : ∀ x, x ∈ bytesRow s → ∃ n, x = [TC.i n] := by
  intro x hx
  unfold bytesRow at hx
  obtain ⟨b, -, rfl⟩ := List.mem_map.1 hx
  exact ⟨_, rfl⟩
theorem len_9 {α : Type} {l : List α} (h : l.length = 9) : ∃ a0 a1 a2 a3 a4 a5 a6 a7 a8, l = [a0, a1, a2, a3, a4, a5, a6, a7, a8] := by
  match l, h with
  | [a0, a1, a2, a3, a4, a5, a6, a7, a8], _ => exact ⟨a0, a1, a2, a3, a4, a5, a6, a7, a8, rfl⟩
/-! laws_szStringS -/
abbrev laws_szStringS_5_σ := List (List TC) × Int × Int
abbrev laws_szStringS_5_ω := (Int) ⊕ (Int)
noncomputable def laws_szStringS_5_step (A : List (List TC)) (left i : Int) : Tr (laws_szStringS_5_σ ⊕ laws_szStringS_5_ω) := (.ite ((decide (i < (A.length : Int))) = true) (.ite ((0 : Int) ≤ i ∧ i < (A.length : Int)) (.ite ((decide ((IntKind.wrap .i64 (left - (((nth (row A i) 0).str).length : Int))) < (0 : Int))) = true) (.ok (.inr (.inl (IntKind.wrap .i64 (left - (((nth (row A i) 0).str).length : Int))))))
    (.ok (.inl (A, (IntKind.wrap .i64 (left - (((nth (row A i) 0).str).length : Int))), (IntKind.wrap .i64 (i + (1 : Int)))))))
   .no)
  (.ok (.inr (.inr left))))
noncomputable def laws_szStringS_5_st : laws_szStringS_5_σ → Tr (laws_szStringS_5_σ ⊕ laws_szStringS_5_ω) := fun x => (laws_szStringS_5_step (x.1) (x.2.1) (x.2.2))
noncomputable def laws_szStringS_k5_1 (A : List (List TC)) (left i : Int) : Bool := isL (loopN laws_szStringS_5_st (A.length + 1) (A, left, i))
noncomputable def laws_szStringS_o5_2 (A : List (List TC)) (left i : Int) : Bool := is (i = 0 ∧ Typed tab (.slice 9) (.l A))
noncomputable def laws_szStringS_u5_2 (A : List (List TC)) (left i : Int) : Int := getL (loopN laws_szStringS_5_st (A.length + 1) (A, left, i))
noncomputable def laws_szStringS_o5_3 (A : List (List TC)) (left i : Int) : Bool := is (i = 0 ∧ Typed tab (.slice 9) (.l A))
noncomputable def laws_szStringS_u5_3 (A : List (List TC)) (left i : Int) : Int := getR (loopN laws_szStringS_5_st (A.length + 1) (A, left, i))
noncomputable def laws_szStringS_5_fin (A : List (List TC)) (left i : Int) : Told laws_szStringS_5_ω := (.br (laws_szStringS_k5_1 A left i) (.leaf (laws_szStringS_o5_2 A left i) (.inl (laws_szStringS_u5_2 A left i))) (.leaf (laws_szStringS_o5_3 A left i) (.inr (laws_szStringS_u5_3 A left i))))
def laws_szStringS_5_sl (x : laws_szStringS_5_σ) : List Slot := [⟨.val false [⟨.slice 9, .sh, TC.l (x.1)⟩], ⟨0, 0⟩⟩, ⟨.val false [⟨.int .i64, .sh, TC.i (x.2.1)⟩], ⟨0, 0⟩⟩, ⟨.val false [⟨.int .i64, .sh, TC.i (x.2.2)⟩], ⟨0, 0⟩⟩]
def laws_szStringS_5_out : laws_szStringS_5_ω → Ex × List Slot := (Sum.elim (fun x => (.ret, [⟨.val false [⟨.int .i64, .sh, TC.i x⟩], ⟨0, 0⟩⟩, ⟨.val false [⟨.int .i64, .sh, TC.i (-1 : Int)⟩], ⟨0, 0⟩⟩])) (fun x => (.exit 0, [⟨.val false [⟨.int .i64, .sh, TC.i x⟩], ⟨0, 0⟩⟩, Slot.none])))
noncomputable def laws_szStringS_lo5 : List Slot → Option (Told (Ex × List Slot)) := fun s => match s with
  | [⟨.val false [⟨.slice 9, .sh, TC.l A⟩], ⟨0, 0⟩⟩, ⟨.val false [⟨.int .i64, .sh, TC.i left⟩], ⟨0, 0⟩⟩, ⟨.val false [⟨.int .i64, .sh, TC.i i⟩], ⟨0, 0⟩⟩] => some (((laws_szStringS_5_fin A left i)).map laws_szStringS_5_out)
  | _ => .none
noncomputable def laws_szStringS_lo : LoopTeller := fun r s => bif Nat.beq r 5 then laws_szStringS_lo5 s else .none
theorem laws_szStringS_5_r (A : List (List TC)) (left i : Int) (fuel : Nat) : rounds (rnd tab FT D0 live 29 laws_szStringS_lo 0 5) leave (fuel + 1) (laws_szStringS_5_sl (A, left, i)) = ((laws_szStringS_5_step A left i)).run (goOn (fun s => rounds (rnd tab FT D0 live 29 laws_szStringS_lo 0 5) leave fuel (laws_szStringS_5_sl s)) fun w => some (laws_szStringS_5_out w)) := by kernel_rfl
theorem laws_szStringS_5_h (A : List (List TC)) (left i : Int) (ow : laws_szStringS_5_ω) : ((laws_szStringS_5_fin A left i)).val = some ow → ∃ fuel, loopN laws_szStringS_5_st fuel (A, left, i) = some ow := by
  refine auto_two (N := A.length + 1) rfl rfl rfl ?_
  intro ho
  have ho : is (i = 0 ∧ Typed tab (.slice 9) (.l A)) = true := ho.elim id id
  obtain ⟨rfl, ht⟩ := is_iff.1 ho
  have hlen : A.length ≤ 140737488351232 := by have := typed_room ht; simp only [show (tab 9).bytes = 16 from rfl] at this; omega
  refine loopN_ends (step := laws_szStringS_5_st) (N := A.length) (fun i a => (A, a, (i : Int))) (fun i a hi => ?_) (fun a => ?_) A.length 0 left (by omega)
  · show (∃ a', (laws_szStringS_5_step A a (i : Int)).val = _) ∨ ∃ w, (laws_szStringS_5_step A a (i : Int)).val = _
    have c0 : Typed tab (.str) (.s (nth (A.getD i []) 0).str) := typed_s (typed_cell ht (A.getD i []) (mem_getD hi) 0 (by decide))
    cases hneg : ((decide ((IntKind.wrap .i64 (a - (((nth (row A i) 0).str).length : Int))) < (0 : Int))))
    · apply Or.inl
      apply Exists.intro
      · unfold laws_szStringS_5_step
        refine Tr.t (by simp; omega) ?_
        refine Tr.t (by first | omega | (constructor <;> omega)) ?_
        refine Tr.n (by rw [hneg]; simp) ?_
        rw [Tr.val_ok, wrap64 (i := (i : Int) + 1) (by omega) (by omega)]; rfl
    · apply Or.inr
      apply Exists.intro
      · unfold laws_szStringS_5_step
        refine Tr.t (by simp; omega) ?_
        refine Tr.t (by first | omega | (constructor <;> omega)) ?_
        refine Tr.t hneg ?_
        rfl
  · apply Exists.intro
    · show (laws_szStringS_5_step A a (A.length : Int)).val = _
      refine Tr.n (by simp) ?_
      rfl
theorem laws_szStringS_is5 : LoopIs tab FT D0 live 29 laws_szStringS_lo 0 5 := by
  refine loop_told (sl := laws_szStringS_5_sl) (step := laws_szStringS_5_st) (out := laws_szStringS_5_out) (lor := laws_szStringS_lo5) (fin := fun x => (laws_szStringS_5_fin (x.1) (x.2.1) (x.2.2))) (fun _ => rfl) ?_ (fun x n => laws_szStringS_5_r x.1 x.2.1 x.2.2 n) (fun x ow => laws_szStringS_5_h x.1 x.2.1 x.2.2 ow)
  intro s t h
  unfold laws_szStringS_lo5 at h
  split at h
  · cases h; exact ⟨(_, _, _), rfl, rfl⟩
  · cases h
noncomputable def laws_szStringS_t (A : List (List TC)) (left : Int) : Tr (Int) := (.ite ((decide ((IntKind.wrap .i64 (left - (A.length : Int))) < (0 : Int))) = true) (.ok (-1 : Int))
  (.ite ((laws_szStringS_k5_1 A (IntKind.wrap .i64 (left - (A.length : Int))) (0 : Int)) = true) (.ite ((laws_szStringS_o5_2 A (IntKind.wrap .i64 (left - (A.length : Int))) (0 : Int)) = true) (.ok (-1 : Int))
    .no)
   (.ite ((laws_szStringS_o5_3 A (IntKind.wrap .i64 (left - (A.length : Int))) (0 : Int)) = true) (.ok (laws_szStringS_u5_3 A (IntKind.wrap .i64 (left - (A.length : Int))) (0 : Int)))
    .no)))
def laws_szStringS_mk (p : Int) : Res := [(false, [⟨.int .i64, .sh, TC.i p⟩])]
noncomputable def laws_szStringS_c (A : List (List TC)) (left : Int) : Bool := (bif (decide ((IntKind.wrap .i64 (left - (A.length : Int))) < (0 : Int))) then true else (bif (laws_szStringS_k5_1 A (IntKind.wrap .i64 (left - (A.length : Int))) (0 : Int)) then ((laws_szStringS_o5_2 A (IntKind.wrap .i64 (left - (A.length : Int))) (0 : Int)) && true) else ((laws_szStringS_o5_3 A (IntKind.wrap .i64 (left - (A.length : Int))) (0 : Int)) && true)))
noncomputable def laws_szStringS_v (A : List (List TC)) (left : Int) : Int := (bif (decide ((IntKind.wrap .i64 (left - (A.length : Int))) < (0 : Int))) then (-1 : Int) else (bif (laws_szStringS_k5_1 A (IntKind.wrap .i64 (left - (A.length : Int))) (0 : Int)) then (-1 : Int) else (laws_szStringS_u5_3 A (IntKind.wrap .i64 (left - (A.length : Int))) (0 : Int))))
theorem laws_szStringS_l (A : List (List TC)) (left : Int) : (laws_szStringS_c A left) = true → (laws_szStringS_t A left).val = some (laws_szStringS_v A left) := by
  unfold laws_szStringS_t laws_szStringS_v laws_szStringS_c
  exact fun h => (Tr.ss h (fun h => rfl) (fun h => (Tr.ss h (fun h => (Tr.gb h fun h => rfl)) (fun h => (Tr.gb h fun h => rfl)))))
noncomputable def laws_szStringS_S : List Arg → Option (Bool × Res) := fun xs => match xs with
  | [(false, [(.slice 9, TC.l A)]), (false, [(.int .i64, TC.i left)])] => some ((laws_szStringS_c A left), laws_szStringS_mk (laws_szStringS_v A left))
  | _ => .none
theorem laws_szStringS_e (A : List (List TC)) (left : Int) : runF tab FT D0 live 29 laws_szStringS_lo [(false, [(.slice 9, TC.l A)]), (false, [(.int .i64, TC.i left)])] = (laws_szStringS_t A left).run fun p => some (laws_szStringS_mk p) := by kernel_rfl
theorem laws_szStringS_s : ∀ xs r, laws_szStringS_S xs = some (true, r) → runF tab FT D0 live 29 laws_szStringS_lo xs = some r := by
  intro xs r h
  unfold laws_szStringS_S at h
  split at h
  · simp only [Option.some.injEq, Prod.mk.injEq] at h
    obtain ⟨h1, rfl⟩ := h
    exact fun_told (laws_szStringS_e _ _) (laws_szStringS_l _ _) h1
  · cases h
noncomputable def D1 : Dt := also D0 29 laws_szStringS_S
theorem d1 : DOk Go.Proofs.Try.prog tab D1 := d0.also mixed_ok tab_ok names_ok (fnLoops_one (by kernel_rfl) laws_szStringS_is5) laws_szStringS_s
theorem laws_szStringS_cc {A : List (List TC)} {left : Int} (ht : Typed tab (.slice 9) (.l A)) : (laws_szStringS_c A left) = true := by
  unfold laws_szStringS_c
  refine bifT (fun b1 => ?_) (fun b1 => ?_)
  · skip
    rfl
  · skip
    refine bifT (fun b2 => ?_) (fun b2 => ?_)
    · skip
      refine andT (by exact is_true ⟨rfl, ht⟩) ?_
      rfl
    · skip
      refine andT (by exact is_true ⟨rfl, ht⟩) ?_
      rfl
/-! laws_szInt64S -/
noncomputable def laws_szInt64S_t (a0 : List (List TC)) (a1 : Int) : Tr (Int) := (.ite ((decide ((IntKind.wrap .i64 (a1 - (a0.length : Int))) < (0 : Int))) = true) (.ok (-1 : Int))
  (.ok (IntKind.wrap .i64 (a1 - (a0.length : Int)))))
def laws_szInt64S_mk (p : Int) : Res := [(false, [⟨.int .i64, .sh, TC.i p⟩])]
noncomputable def laws_szInt64S_c (a0 : List (List TC)) (a1 : Int) : Bool := true
noncomputable def laws_szInt64S_v (a0 : List (List TC)) (a1 : Int) : Int := (bif (decide ((IntKind.wrap .i64 (a1 - (a0.length : Int))) < (0 : Int))) then (-1 : Int) else (IntKind.wrap .i64 (a1 - (a0.length : Int))))
theorem laws_szInt64S_l (a0 : List (List TC)) (a1 : Int) : (laws_szInt64S_c a0 a1) = true → (laws_szInt64S_t a0 a1).val = some (laws_szInt64S_v a0 a1) := by
  intro h
  skip
  unfold laws_szInt64S_t laws_szInt64S_v
  exact (Tr.s rfl rfl)
noncomputable def laws_szInt64S_S : List Arg → Option (Bool × Res) := fun xs => match xs with
  | [(false, [(.slice 2, TC.l a0)]), (false, [(.int .i64, TC.i a1)])] => some (true, laws_szInt64S_mk (laws_szInt64S_v a0 a1))
  | _ => .none
theorem laws_szInt64S_e (a0 : List (List TC)) (a1 : Int) : runF tab FT D1 live 30 noLoops [(false, [(.slice 2, TC.l a0)]), (false, [(.int .i64, TC.i a1)])] = (laws_szInt64S_t a0 a1).run fun p => some (laws_szInt64S_mk p) := by kernel_rfl
theorem laws_szInt64S_s : ∀ xs r, laws_szInt64S_S xs = some (true, r) → runF tab FT D1 live 30 noLoops xs = some r := by
  intro xs r h
  unfold laws_szInt64S_S at h
  split at h
  · simp only [Option.some.injEq, Prod.mk.injEq] at h
    obtain ⟨h1, rfl⟩ := h
    exact fun_told (laws_szInt64S_e _ _) (laws_szInt64S_l _ _) rfl
  · cases h
noncomputable def D2 : Dt := also D1 30 laws_szInt64S_S
theorem d2 : DOk Go.Proofs.Try.prog tab D2 := d1.also mixed_ok tab_ok names_ok noLoops_ok laws_szInt64S_s
/-! laws_szType calls itself -/
section
class laws_szType_O where R : (Int) → (Int) → (Bool) → (Bool) → (List (List TC)) → (List (List TC)) → (List (List TC)) → (List (List TC)) → (Int) → (Int) → Bool × (Int)
variable [i_laws_szType : laws_szType_O]
def laws_szType_rc (x0 x1 : Int) (x2 x3 : Bool) (x4 x5 x6 x7 : List (List TC)) (x8 x9 : Int) : Bool := ((laws_szType_O.R x0 x1 x2 x3 x4 x5 x6 x7 x8 x9)).1
def laws_szType_rv (x0 x1 : Int) (x2 x3 : Bool) (x4 x5 x6 x7 : List (List TC)) (x8 x9 : Int) : Int := ((laws_szType_O.R x0 x1 x2 x3 x4 x5 x6 x7 x8 x9)).2
def laws_szType_rmk (p : Int) : Res := [(false, [⟨.int .i64, .sh, TC.i p⟩])]
noncomputable def laws_szType_rS : List Arg → Option (Bool × Res) := fun xs => match xs with
  | [(true, [(.int .i64, TC.i x0), (.int .i64, TC.i x1), (.bool, TC.b x2), (.bool, TC.b x3), (.slice 9, TC.l x4), (.slice 2, TC.l x5), (.slice 73, TC.l x6), (.slice 27, TC.l x7), (.int .i64, TC.i x8)]), (false, [(.int .i64, TC.i x9)])] => some ((laws_szType_rc x0 x1 x2 x3 x4 x5 x6 x7 x8 x9), laws_szType_rmk (laws_szType_rv x0 x1 x2 x3 x4 x5 x6 x7 x8 x9))
  | _ => .none
noncomputable def D3 : Dt := also D2 10 laws_szType_rS
class laws_szType_G : Prop where ok : DOk Go.Proofs.Try.prog tab D3
variable [g_laws_szType : laws_szType_G]
theorem d3 : DOk Go.Proofs.Try.prog tab D3 := laws_szType_G.ok
/-! laws_szMember -/
noncomputable def laws_szMember_t (x0 : List UInt8) (x1 x2 x3 : Int) (x4 x5 : Bool) (x6 x7 x8 x9 : List (List TC)) (x10 x11 : Int) : Tr (Int) := (.ite ((decide ((IntKind.wrap .i64 (x11 - (x0.length : Int))) < (0 : Int))) = true) (.ok (-1 : Int))
  (.ite ((laws_szType_rc x2 x3 x4 x5 x6 x7 x8 x9 x10 (IntKind.wrap .i64 (x11 - (x0.length : Int)))) = true) (.ite ((decide ((laws_szType_rv x2 x3 x4 x5 x6 x7 x8 x9 x10 (IntKind.wrap .i64 (x11 - (x0.length : Int)))) < (0 : Int))) = true) (.ok (-1 : Int))
    (.ok (laws_szType_rv x2 x3 x4 x5 x6 x7 x8 x9 x10 (IntKind.wrap .i64 (x11 - (x0.length : Int))))))
   .no))
def laws_szMember_mk (p : Int) : Res := [(false, [⟨.int .i64, .sh, TC.i p⟩])]
noncomputable def laws_szMember_c (x0 : List UInt8) (x1 x2 x3 : Int) (x4 x5 : Bool) (x6 x7 x8 x9 : List (List TC)) (x10 x11 : Int) : Bool := (bif (decide ((IntKind.wrap .i64 (x11 - (x0.length : Int))) < (0 : Int))) then true else ((laws_szType_rc x2 x3 x4 x5 x6 x7 x8 x9 x10 (IntKind.wrap .i64 (x11 - (x0.length : Int)))) && (bif (decide ((laws_szType_rv x2 x3 x4 x5 x6 x7 x8 x9 x10 (IntKind.wrap .i64 (x11 - (x0.length : Int)))) < (0 : Int))) then true else true)))
noncomputable def laws_szMember_v (x0 : List UInt8) (x1 x2 x3 : Int) (x4 x5 : Bool) (x6 x7 x8 x9 : List (List TC)) (x10 x11 : Int) : Int := (bif (decide ((IntKind.wrap .i64 (x11 - (x0.length : Int))) < (0 : Int))) then (-1 : Int) else (bif (decide ((laws_szType_rv x2 x3 x4 x5 x6 x7 x8 x9 x10 (IntKind.wrap .i64 (x11 - (x0.length : Int)))) < (0 : Int))) then (-1 : Int) else (laws_szType_rv x2 x3 x4 x5 x6 x7 x8 x9 x10 (IntKind.wrap .i64 (x11 - (x0.length : Int))))))
theorem laws_szMember_l (x0 : List UInt8) (x1 x2 x3 : Int) (x4 x5 : Bool) (x6 x7 x8 x9 : List (List TC)) (x10 x11 : Int) : (laws_szMember_c x0 x1 x2 x3 x4 x5 x6 x7 x8 x9 x10 x11) = true → (laws_szMember_t x0 x1 x2 x3 x4 x5 x6 x7 x8 x9 x10 x11).val = some (laws_szMember_v x0 x1 x2 x3 x4 x5 x6 x7 x8 x9 x10 x11) := by
  unfold laws_szMember_t laws_szMember_v laws_szMember_c
  exact fun h => (Tr.ss h (fun h => rfl) (fun h => (Tr.gb h fun h => (Tr.ss h (fun h => rfl) (fun h => rfl)))))
noncomputable def laws_szMember_S : List Arg → Option (Bool × Res) := fun xs => match xs with
  | [(true, [(.str, TC.s x0), (.int .i64, TC.i x1), (.int .i64, TC.i x2), (.int .i64, TC.i x3), (.bool, TC.b x4), (.bool, TC.b x5), (.slice 9, TC.l x6), (.slice 2, TC.l x7), (.slice 73, TC.l x8), (.slice 27, TC.l x9), (.int .i64, TC.i x10)]), (false, [(.int .i64, TC.i x11)])] => some ((laws_szMember_c x0 x1 x2 x3 x4 x5 x6 x7 x8 x9 x10 x11), laws_szMember_mk (laws_szMember_v x0 x1 x2 x3 x4 x5 x6 x7 x8 x9 x10 x11))
  | _ => .none
theorem laws_szMember_e (x0 : List UInt8) (x1 x2 x3 : Int) (x4 x5 : Bool) (x6 x7 x8 x9 : List (List TC)) (x10 x11 : Int) : runF tab FT D3 live 69 noLoops [(true, [(.str, TC.s x0), (.int .i64, TC.i x1), (.int .i64, TC.i x2), (.int .i64, TC.i x3), (.bool, TC.b x4), (.bool, TC.b x5), (.slice 9, TC.l x6), (.slice 2, TC.l x7), (.slice 73, TC.l x8), (.slice 27, TC.l x9), (.int .i64, TC.i x10)]), (false, [(.int .i64, TC.i x11)])] = (laws_szMember_t x0 x1 x2 x3 x4 x5 x6 x7 x8 x9 x10 x11).run fun p => some (laws_szMember_mk p) := by kernel_rfl
theorem laws_szMember_s : ∀ xs r, laws_szMember_S xs = some (true, r) → runF tab FT D3 live 69 noLoops xs = some r := by
  intro xs r h
  unfold laws_szMember_S at h
  split at h
  · simp only [Option.some.injEq, Prod.mk.injEq] at h
    obtain ⟨h1, rfl⟩ := h
    exact fun_told (laws_szMember_e _ _ _ _ _ _ _ _ _ _ _ _) (laws_szMember_l _ _ _ _ _ _ _ _ _ _ _ _) h1
  · cases h
noncomputable def D4 : Dt := also D3 69 laws_szMember_S
theorem d4 : DOk Go.Proofs.Try.prog tab D4 := d3.also mixed_ok tab_ok names_ok noLoops_ok laws_szMember_s
theorem laws_szMember_cc {x0 : List UInt8} {x1 : Int} {x2 : Int} {x3 : Int} {x4 : Bool} {x5 : Bool} {x6 : List (List TC)} {x7 : List (List TC)} {x8 : List (List TC)} {x9 : List (List TC)} {x10 : Int} {x11 : Int} (t6 : Typed tab (.slice 9) (.l x6)) (t7 : Typed tab (.slice 2) (.l x7)) (t8 : Typed tab (.slice 73) (.l x8)) (t9 : Typed tab (.slice 27) (.l x9)) (h0 : (∀ left : Int, laws_szType_rc x2 x3 x4 x5 x6 x7 x8 x9 x10 left = true)) : (laws_szMember_c x0 x1 x2 x3 x4 x5 x6 x7 x8 x9 x10 x11) = true := by
  unfold laws_szMember_c
  refine bifT (fun b1 => ?_) (fun b1 => ?_)
  · skip
    rfl
  · skip
    refine andT (by exact h0 _) ?_
    refine bifT (fun b2 => ?_) (fun b2 => ?_)
    · skip
      rfl
    · skip
      rfl
/-! laws_szMemberS -/
abbrev laws_szMemberS_5_σ := List (List TC) × Int × Int
abbrev laws_szMemberS_5_ω := (Int) ⊕ (Int)
noncomputable def laws_szMemberS_5_step (A : List (List TC)) (left i : Int) : Tr (laws_szMemberS_5_σ ⊕ laws_szMemberS_5_ω) := (.ite ((decide (i < (A.length : Int))) = true) (.ite ((0 : Int) ≤ i ∧ i < (A.length : Int)) (.ite ((laws_szMember_c ((nth (row A i) 0).str) ((nth (row A i) 1).int) ((nth (row A i) 2).int) ((nth (row A i) 3).int) ((nth (row A i) 4).bool) ((nth (row A i) 5).bool) ((nth (row A i) 6).list) ((nth (row A i) 7).list) ((nth (row A i) 8).list) ((nth (row A i) 9).list) ((nth (row A i) 10).int) left) = true) (.ite ((decide ((laws_szMember_v ((nth (row A i) 0).str) ((nth (row A i) 1).int) ((nth (row A i) 2).int) ((nth (row A i) 3).int) ((nth (row A i) 4).bool) ((nth (row A i) 5).bool) ((nth (row A i) 6).list) ((nth (row A i) 7).list) ((nth (row A i) 8).list) ((nth (row A i) 9).list) ((nth (row A i) 10).int) left) < (0 : Int))) = true) (.ok (.inr (.inl (laws_szMember_v ((nth (row A i) 0).str) ((nth (row A i) 1).int) ((nth (row A i) 2).int) ((nth (row A i) 3).int) ((nth (row A i) 4).bool) ((nth (row A i) 5).bool) ((nth (row A i) 6).list) ((nth (row A i) 7).list) ((nth (row A i) 8).list) ((nth (row A i) 9).list) ((nth (row A i) 10).int) left))))
     (.ok (.inl (A, (laws_szMember_v ((nth (row A i) 0).str) ((nth (row A i) 1).int) ((nth (row A i) 2).int) ((nth (row A i) 3).int) ((nth (row A i) 4).bool) ((nth (row A i) 5).bool) ((nth (row A i) 6).list) ((nth (row A i) 7).list) ((nth (row A i) 8).list) ((nth (row A i) 9).list) ((nth (row A i) 10).int) left), (IntKind.wrap .i64 (i + (1 : Int)))))))
    .no)
   .no)
  (.ok (.inr (.inr left))))
noncomputable def laws_szMemberS_5_st : laws_szMemberS_5_σ → Tr (laws_szMemberS_5_σ ⊕ laws_szMemberS_5_ω) := fun x => (laws_szMemberS_5_step (x.1) (x.2.1) (x.2.2))
noncomputable def laws_szMemberS_k5_1 (A : List (List TC)) (left i : Int) : Bool := isL (loopN laws_szMemberS_5_st (A.length + 1) (A, left, i))
noncomputable def laws_szMemberS_o5_2 (A : List (List TC)) (left i : Int) : Bool := is (i = 0 ∧ Typed tab (.slice 73) (.l A) ∧ (∀ x : List TC, x ∈ A → ∀ left : Int, (laws_szMember_c ((nth x 0).str) ((nth x 1).int) ((nth x 2).int) ((nth x 3).int) ((nth x 4).bool) ((nth x 5).bool) ((nth x 6).list) ((nth x 7).list) ((nth x 8).list) ((nth x 9).list) ((nth x 10).int) left) = true))
noncomputable def laws_szMemberS_u5_2 (A : List (List TC)) (left i : Int) : Int := getL (loopN laws_szMemberS_5_st (A.length + 1) (A, left, i))
noncomputable def laws_szMemberS_o5_3 (A : List (List TC)) (left i : Int) : Bool := is (i = 0 ∧ Typed tab (.slice 73) (.l A) ∧ (∀ x : List TC, x ∈ A → ∀ left : Int, (laws_szMember_c ((nth x 0).str) ((nth x 1).int) ((nth x 2).int) ((nth x 3).int) ((nth x 4).bool) ((nth x 5).bool) ((nth x 6).list) ((nth x 7).list) ((nth x 8).list) ((nth x 9).list) ((nth x 10).int) left) = true))
noncomputable def laws_szMemberS_u5_3 (A : List (List TC)) (left i : Int) : Int := getR (loopN laws_szMemberS_5_st (A.length + 1) (A, left, i))
noncomputable def laws_szMemberS_5_fin (A : List (List TC)) (left i : Int) : Told laws_szMemberS_5_ω := (.br (laws_szMemberS_k5_1 A left i) (.leaf (laws_szMemberS_o5_2 A left i) (.inl (laws_szMemberS_u5_2 A left i))) (.leaf (laws_szMemberS_o5_3 A left i) (.inr (laws_szMemberS_u5_3 A left i))))
def laws_szMemberS_5_sl (x : laws_szMemberS_5_σ) : List Slot := [⟨.val false [⟨.slice 73, .sh, TC.l (x.1)⟩], ⟨0, 0⟩⟩, ⟨.val false [⟨.int .i64, .sh, TC.i (x.2.1)⟩], ⟨0, 0⟩⟩, ⟨.val false [⟨.int .i64, .sh, TC.i (x.2.2)⟩], ⟨0, 0⟩⟩]
def laws_szMemberS_5_out : laws_szMemberS_5_ω → Ex × List Slot := (Sum.elim (fun x => (.ret, [⟨.val false [⟨.int .i64, .sh, TC.i x⟩], ⟨0, 0⟩⟩, ⟨.val false [⟨.int .i64, .sh, TC.i (-1 : Int)⟩], ⟨0, 0⟩⟩])) (fun x => (.exit 0, [⟨.val false [⟨.int .i64, .sh, TC.i x⟩], ⟨0, 0⟩⟩, Slot.none])))
noncomputable def laws_szMemberS_lo5 : List Slot → Option (Told (Ex × List Slot)) := fun s => match s with
  | [⟨.val false [⟨.slice 73, .sh, TC.l A⟩], ⟨0, 0⟩⟩, ⟨.val false [⟨.int .i64, .sh, TC.i left⟩], ⟨0, 0⟩⟩, ⟨.val false [⟨.int .i64, .sh, TC.i i⟩], ⟨0, 0⟩⟩] => some (((laws_szMemberS_5_fin A left i)).map laws_szMemberS_5_out)
  | _ => .none
noncomputable def laws_szMemberS_lo : LoopTeller := fun r s => bif Nat.beq r 5 then laws_szMemberS_lo5 s else .none
theorem laws_szMemberS_5_r (A : List (List TC)) (left i : Int) (fuel : Nat) : rounds (rnd tab FT D4 live 31 laws_szMemberS_lo 0 5) leave (fuel + 1) (laws_szMemberS_5_sl (A, left, i)) = ((laws_szMemberS_5_step A left i)).run (goOn (fun s => rounds (rnd tab FT D4 live 31 laws_szMemberS_lo 0 5) leave fuel (laws_szMemberS_5_sl s)) fun w => some (laws_szMemberS_5_out w)) := by kernel_rfl
theorem laws_szMemberS_5_h (A : List (List TC)) (left i : Int) (ow : laws_szMemberS_5_ω) : ((laws_szMemberS_5_fin A left i)).val = some ow → ∃ fuel, loopN laws_szMemberS_5_st fuel (A, left, i) = some ow := by
  refine auto_two (N := A.length + 1) rfl rfl rfl ?_
  intro ho
  have ho : is (i = 0 ∧ Typed tab (.slice 73) (.l A) ∧ (∀ x : List TC, x ∈ A → ∀ left : Int, (laws_szMember_c ((nth x 0).str) ((nth x 1).int) ((nth x 2).int) ((nth x 3).int) ((nth x 4).bool) ((nth x 5).bool) ((nth x 6).list) ((nth x 7).list) ((nth x 8).list) ((nth x 9).list) ((nth x 10).int) left) = true)) = true := ho.elim id id
  obtain ⟨rfl, ht, hr0⟩ := is_iff.1 ho
  have hlen : A.length ≤ 140737488351232 := by have := typed_room ht; simp only [show (tab 73).bytes = 152 from rfl] at this; omega
  refine loopN_ends (step := laws_szMemberS_5_st) (N := A.length) (fun i a => (A, a, (i : Int))) (fun i a hi => ?_) (fun a => ?_) A.length 0 left (by omega)
  · show (∃ a', (laws_szMemberS_5_step A a (i : Int)).val = _) ∨ ∃ w, (laws_szMemberS_5_step A a (i : Int)).val = _
    have c0 : Typed tab (.str) (.s (nth (A.getD i []) 0).str) := typed_s (typed_cell ht (A.getD i []) (mem_getD hi) 0 (by decide))
    have c6 : Typed tab (.slice 9) (.l (nth (A.getD i []) 6).list) := typed_list (typed_cell ht (A.getD i []) (mem_getD hi) 6 (by decide))
    have c7 : Typed tab (.slice 2) (.l (nth (A.getD i []) 7).list) := typed_list (typed_cell ht (A.getD i []) (mem_getD hi) 7 (by decide))
    have c8 : Typed tab (.slice 73) (.l (nth (A.getD i []) 8).list) := typed_list (typed_cell ht (A.getD i []) (mem_getD hi) 8 (by decide))
    have c9 : Typed tab (.slice 27) (.l (nth (A.getD i []) 9).list) := typed_list (typed_cell ht (A.getD i []) (mem_getD hi) 9 (by decide))
    cases hneg : ((decide ((laws_szMember_v ((nth (row A i) 0).str) ((nth (row A i) 1).int) ((nth (row A i) 2).int) ((nth (row A i) 3).int) ((nth (row A i) 4).bool) ((nth (row A i) 5).bool) ((nth (row A i) 6).list) ((nth (row A i) 7).list) ((nth (row A i) 8).list) ((nth (row A i) 9).list) ((nth (row A i) 10).int) a) < (0 : Int))))
    · apply Or.inl
      apply Exists.intro
      · unfold laws_szMemberS_5_step
        refine Tr.t (by simp; omega) ?_
        refine Tr.t (by first | omega | (constructor <;> omega)) ?_
        refine Tr.t (hr0 (A.getD i []) (mem_getD hi) a) ?_
        refine Tr.n (by rw [hneg]; simp) ?_
        rw [Tr.val_ok, wrap64 (i := (i : Int) + 1) (by omega) (by omega)]; rfl
    · apply Or.inr
      apply Exists.intro
      · unfold laws_szMemberS_5_step
        refine Tr.t (by simp; omega) ?_
        refine Tr.t (by first | omega | (constructor <;> omega)) ?_
        refine Tr.t (hr0 (A.getD i []) (mem_getD hi) a) ?_
        refine Tr.t hneg ?_
        rfl
  · apply Exists.intro
    · show (laws_szMemberS_5_step A a (A.length : Int)).val = _
      refine Tr.n (by simp) ?_
      rfl
theorem laws_szMemberS_is5 : LoopIs tab FT D4 live 31 laws_szMemberS_lo 0 5 := by
  refine loop_told (sl := laws_szMemberS_5_sl) (step := laws_szMemberS_5_st) (out := laws_szMemberS_5_out) (lor := laws_szMemberS_lo5) (fin := fun x => (laws_szMemberS_5_fin (x.1) (x.2.1) (x.2.2))) (fun _ => rfl) ?_ (fun x n => laws_szMemberS_5_r x.1 x.2.1 x.2.2 n) (fun x ow => laws_szMemberS_5_h x.1 x.2.1 x.2.2 ow)
  intro s t h
  unfold laws_szMemberS_lo5 at h
  split at h
  · cases h; exact ⟨(_, _, _), rfl, rfl⟩
  · cases h
noncomputable def laws_szMemberS_t (A : List (List TC)) (left : Int) : Tr (Int) := (.ite ((decide ((IntKind.wrap .i64 (left - (A.length : Int))) < (0 : Int))) = true) (.ok (-1 : Int))
  (.ite ((laws_szMemberS_k5_1 A (IntKind.wrap .i64 (left - (A.length : Int))) (0 : Int)) = true) (.ite ((laws_szMemberS_o5_2 A (IntKind.wrap .i64 (left - (A.length : Int))) (0 : Int)) = true) (.ok (-1 : Int))
    .no)
   (.ite ((laws_szMemberS_o5_3 A (IntKind.wrap .i64 (left - (A.length : Int))) (0 : Int)) = true) (.ok (laws_szMemberS_u5_3 A (IntKind.wrap .i64 (left - (A.length : Int))) (0 : Int)))
    .no)))
def laws_szMemberS_mk (p : Int) : Res := [(false, [⟨.int .i64, .sh, TC.i p⟩])]
noncomputable def laws_szMemberS_c (A : List (List TC)) (left : Int) : Bool := (bif (decide ((IntKind.wrap .i64 (left - (A.length : Int))) < (0 : Int))) then true else (bif (laws_szMemberS_k5_1 A (IntKind.wrap .i64 (left - (A.length : Int))) (0 : Int)) then ((laws_szMemberS_o5_2 A (IntKind.wrap .i64 (left - (A.length : Int))) (0 : Int)) && true) else ((laws_szMemberS_o5_3 A (IntKind.wrap .i64 (left - (A.length : Int))) (0 : Int)) && true)))
noncomputable def laws_szMemberS_v (A : List (List TC)) (left : Int) : Int := (bif (decide ((IntKind.wrap .i64 (left - (A.length : Int))) < (0 : Int))) then (-1 : Int) else (bif (laws_szMemberS_k5_1 A (IntKind.wrap .i64 (left - (A.length : Int))) (0 : Int)) then (-1 : Int) else (laws_szMemberS_u5_3 A (IntKind.wrap .i64 (left - (A.length : Int))) (0 : Int))))
theorem laws_szMemberS_l (A : List (List TC)) (left : Int) : (laws_szMemberS_c A left) = true → (laws_szMemberS_t A left).val = some (laws_szMemberS_v A left) := by
  unfold laws_szMemberS_t laws_szMemberS_v laws_szMemberS_c
  exact fun h => (Tr.ss h (fun h => rfl) (fun h => (Tr.ss h (fun h => (Tr.gb h fun h => rfl)) (fun h => (Tr.gb h fun h => rfl)))))
noncomputable def laws_szMemberS_S : List Arg → Option (Bool × Res) := fun xs => match xs with
  | [(false, [(.slice 73, TC.l A)]), (false, [(.int .i64, TC.i left)])] => some ((laws_szMemberS_c A left), laws_szMemberS_mk (laws_szMemberS_v A left))
  | _ => .none
theorem laws_szMemberS_e (A : List (List TC)) (left : Int) : runF tab FT D4 live 31 laws_szMemberS_lo [(false, [(.slice 73, TC.l A)]), (false, [(.int .i64, TC.i left)])] = (laws_szMemberS_t A left).run fun p => some (laws_szMemberS_mk p) := by kernel_rfl
theorem laws_szMemberS_s : ∀ xs r, laws_szMemberS_S xs = some (true, r) → runF tab FT D4 live 31 laws_szMemberS_lo xs = some r := by
  intro xs r h
  unfold laws_szMemberS_S at h
  split at h
  · simp only [Option.some.injEq, Prod.mk.injEq] at h
    obtain ⟨h1, rfl⟩ := h
    exact fun_told (laws_szMemberS_e _ _) (laws_szMemberS_l _ _) h1
  · cases h
noncomputable def D5 : Dt := also D4 31 laws_szMemberS_S
theorem d5 : DOk Go.Proofs.Try.prog tab D5 := d4.also mixed_ok tab_ok names_ok (fnLoops_one (by kernel_rfl) laws_szMemberS_is5) laws_szMemberS_s
theorem laws_szMemberS_cc {A : List (List TC)} {left : Int} (ht : Typed tab (.slice 73) (.l A)) (hr0 : (∀ x : List TC, x ∈ A → ∀ left : Int, (laws_szMember_c ((nth x 0).str) ((nth x 1).int) ((nth x 2).int) ((nth x 3).int) ((nth x 4).bool) ((nth x 5).bool) ((nth x 6).list) ((nth x 7).list) ((nth x 8).list) ((nth x 9).list) ((nth x 10).int) left) = true)) : (laws_szMemberS_c A left) = true := by
  unfold laws_szMemberS_c
  refine bifT (fun b1 => ?_) (fun b1 => ?_)
  · skip
    rfl
  · skip
    refine bifT (fun b2 => ?_) (fun b2 => ?_)
    · skip
      refine andT (by exact is_true ⟨rfl, ht, hr0⟩) ?_
      rfl
    · skip
      refine andT (by exact is_true ⟨rfl, ht, hr0⟩) ?_
      rfl
/-! laws_szTypeS -/
abbrev laws_szTypeS_5_σ := List (List TC) × Int × Int
abbrev laws_szTypeS_5_ω := (Int) ⊕ (Int)
noncomputable def laws_szTypeS_5_step (A : List (List TC)) (left i : Int) : Tr (laws_szTypeS_5_σ ⊕ laws_szTypeS_5_ω) := (.ite ((decide (i < (A.length : Int))) = true) (.ite ((0 : Int) ≤ i ∧ i < (A.length : Int)) (.ite ((laws_szType_rc ((nth (row A i) 0).int) ((nth (row A i) 1).int) ((nth (row A i) 2).bool) ((nth (row A i) 3).bool) ((nth (row A i) 4).list) ((nth (row A i) 5).list) ((nth (row A i) 6).list) ((nth (row A i) 7).list) ((nth (row A i) 8).int) left) = true) (.ite ((decide ((laws_szType_rv ((nth (row A i) 0).int) ((nth (row A i) 1).int) ((nth (row A i) 2).bool) ((nth (row A i) 3).bool) ((nth (row A i) 4).list) ((nth (row A i) 5).list) ((nth (row A i) 6).list) ((nth (row A i) 7).list) ((nth (row A i) 8).int) left) < (0 : Int))) = true) (.ok (.inr (.inl (laws_szType_rv ((nth (row A i) 0).int) ((nth (row A i) 1).int) ((nth (row A i) 2).bool) ((nth (row A i) 3).bool) ((nth (row A i) 4).list) ((nth (row A i) 5).list) ((nth (row A i) 6).list) ((nth (row A i) 7).list) ((nth (row A i) 8).int) left))))
     (.ok (.inl (A, (laws_szType_rv ((nth (row A i) 0).int) ((nth (row A i) 1).int) ((nth (row A i) 2).bool) ((nth (row A i) 3).bool) ((nth (row A i) 4).list) ((nth (row A i) 5).list) ((nth (row A i) 6).list) ((nth (row A i) 7).list) ((nth (row A i) 8).int) left), (IntKind.wrap .i64 (i + (1 : Int)))))))
    .no)
   .no)
  (.ok (.inr (.inr left))))
noncomputable def laws_szTypeS_5_st : laws_szTypeS_5_σ → Tr (laws_szTypeS_5_σ ⊕ laws_szTypeS_5_ω) := fun x => (laws_szTypeS_5_step (x.1) (x.2.1) (x.2.2))
noncomputable def laws_szTypeS_k5_1 (A : List (List TC)) (left i : Int) : Bool := isL (loopN laws_szTypeS_5_st (A.length + 1) (A, left, i))
noncomputable def laws_szTypeS_o5_2 (A : List (List TC)) (left i : Int) : Bool := is (i = 0 ∧ Typed tab (.slice 27) (.l A) ∧ (∀ x : List TC, x ∈ A → ∀ left : Int, (laws_szType_rc ((nth x 0).int) ((nth x 1).int) ((nth x 2).bool) ((nth x 3).bool) ((nth x 4).list) ((nth x 5).list) ((nth x 6).list) ((nth x 7).list) ((nth x 8).int) left) = true))
noncomputable def laws_szTypeS_u5_2 (A : List (List TC)) (left i : Int) : Int := getL (loopN laws_szTypeS_5_st (A.length + 1) (A, left, i))
noncomputable def laws_szTypeS_o5_3 (A : List (List TC)) (left i : Int) : Bool := is (i = 0 ∧ Typed tab (.slice 27) (.l A) ∧ (∀ x : List TC, x ∈ A → ∀ left : Int, (laws_szType_rc ((nth x 0).int) ((nth x 1).int) ((nth x 2).bool) ((nth x 3).bool) ((nth x 4).list) ((nth x 5).list) ((nth x 6).list) ((nth x 7).list) ((nth x 8).int) left) = true))
noncomputable def laws_szTypeS_u5_3 (A : List (List TC)) (left i : Int) : Int := getR (loopN laws_szTypeS_5_st (A.length + 1) (A, left, i))
noncomputable def laws_szTypeS_5_fin (A : List (List TC)) (left i : Int) : Told laws_szTypeS_5_ω := (.br (laws_szTypeS_k5_1 A left i) (.leaf (laws_szTypeS_o5_2 A left i) (.inl (laws_szTypeS_u5_2 A left i))) (.leaf (laws_szTypeS_o5_3 A left i) (.inr (laws_szTypeS_u5_3 A left i))))
def laws_szTypeS_5_sl (x : laws_szTypeS_5_σ) : List Slot := [⟨.val false [⟨.slice 27, .sh, TC.l (x.1)⟩], ⟨0, 0⟩⟩, ⟨.val false [⟨.int .i64, .sh, TC.i (x.2.1)⟩], ⟨0, 0⟩⟩, ⟨.val false [⟨.int .i64, .sh, TC.i (x.2.2)⟩], ⟨0, 0⟩⟩]
def laws_szTypeS_5_out : laws_szTypeS_5_ω → Ex × List Slot := (Sum.elim (fun x => (.ret, [⟨.val false [⟨.int .i64, .sh, TC.i x⟩], ⟨0, 0⟩⟩, ⟨.val false [⟨.int .i64, .sh, TC.i (-1 : Int)⟩], ⟨0, 0⟩⟩])) (fun x => (.exit 0, [⟨.val false [⟨.int .i64, .sh, TC.i x⟩], ⟨0, 0⟩⟩, Slot.none])))
noncomputable def laws_szTypeS_lo5 : List Slot → Option (Told (Ex × List Slot)) := fun s => match s with
  | [⟨.val false [⟨.slice 27, .sh, TC.l A⟩], ⟨0, 0⟩⟩, ⟨.val false [⟨.int .i64, .sh, TC.i left⟩], ⟨0, 0⟩⟩, ⟨.val false [⟨.int .i64, .sh, TC.i i⟩], ⟨0, 0⟩⟩] => some (((laws_szTypeS_5_fin A left i)).map laws_szTypeS_5_out)
  | _ => .none
noncomputable def laws_szTypeS_lo : LoopTeller := fun r s => bif Nat.beq r 5 then laws_szTypeS_lo5 s else .none
theorem laws_szTypeS_5_r (A : List (List TC)) (left i : Int) (fuel : Nat) : rounds (rnd tab FT D5 live 32 laws_szTypeS_lo 0 5) leave (fuel + 1) (laws_szTypeS_5_sl (A, left, i)) = ((laws_szTypeS_5_step A left i)).run (goOn (fun s => rounds (rnd tab FT D5 live 32 laws_szTypeS_lo 0 5) leave fuel (laws_szTypeS_5_sl s)) fun w => some (laws_szTypeS_5_out w)) := by kernel_rfl
theorem laws_szTypeS_5_h (A : List (List TC)) (left i : Int) (ow : laws_szTypeS_5_ω) : ((laws_szTypeS_5_fin A left i)).val = some ow → ∃ fuel, loopN laws_szTypeS_5_st fuel (A, left, i) = some ow := by
  refine auto_two (N := A.length + 1) rfl rfl rfl ?_
  intro ho
  have ho : is (i = 0 ∧ Typed tab (.slice 27) (.l A) ∧ (∀ x : List TC, x ∈ A → ∀ left : Int, (laws_szType_rc ((nth x 0).int) ((nth x 1).int) ((nth x 2).bool) ((nth x 3).bool) ((nth x 4).list) ((nth x 5).list) ((nth x 6).list) ((nth x 7).list) ((nth x 8).int) left) = true)) = true := ho.elim id id
  obtain ⟨rfl, ht, hr0⟩ := is_iff.1 ho
  have hlen : A.length ≤ 140737488351232 := by have := typed_room ht; simp only [show (tab 27).bytes = 128 from rfl] at this; omega
  refine loopN_ends (step := laws_szTypeS_5_st) (N := A.length) (fun i a => (A, a, (i : Int))) (fun i a hi => ?_) (fun a => ?_) A.length 0 left (by omega)
  · show (∃ a', (laws_szTypeS_5_step A a (i : Int)).val = _) ∨ ∃ w, (laws_szTypeS_5_step A a (i : Int)).val = _
    have c4 : Typed tab (.slice 9) (.l (nth (A.getD i []) 4).list) := typed_list (typed_cell ht (A.getD i []) (mem_getD hi) 4 (by decide))
    have c5 : Typed tab (.slice 2) (.l (nth (A.getD i []) 5).list) := typed_list (typed_cell ht (A.getD i []) (mem_getD hi) 5 (by decide))
    have c6 : Typed tab (.slice 73) (.l (nth (A.getD i []) 6).list) := typed_list (typed_cell ht (A.getD i []) (mem_getD hi) 6 (by decide))
    have c7 : Typed tab (.slice 27) (.l (nth (A.getD i []) 7).list) := typed_list (typed_cell ht (A.getD i []) (mem_getD hi) 7 (by decide))
    cases hneg : ((decide ((laws_szType_rv ((nth (row A i) 0).int) ((nth (row A i) 1).int) ((nth (row A i) 2).bool) ((nth (row A i) 3).bool) ((nth (row A i) 4).list) ((nth (row A i) 5).list) ((nth (row A i) 6).list) ((nth (row A i) 7).list) ((nth (row A i) 8).int) a) < (0 : Int))))
    · apply Or.inl
      apply Exists.intro
      · unfold laws_szTypeS_5_step
        refine Tr.t (by simp; omega) ?_
        refine Tr.t (by first | omega | (constructor <;> omega)) ?_
        refine Tr.t (hr0 (A.getD i []) (mem_getD hi) a) ?_
        refine Tr.n (by rw [hneg]; simp) ?_
        rw [Tr.val_ok, wrap64 (i := (i : Int) + 1) (by omega) (by omega)]; rfl
    · apply Or.inr
      apply Exists.intro
      · unfold laws_szTypeS_5_step
        refine Tr.t (by simp; omega) ?_
        refine Tr.t (by first | omega | (constructor <;> omega)) ?_
        refine Tr.t (hr0 (A.getD i []) (mem_getD hi) a) ?_
        refine Tr.t hneg ?_
        rfl
  · apply Exists.intro
    · show (laws_szTypeS_5_step A a (A.length : Int)).val = _
      refine Tr.n (by simp) ?_
      rfl
theorem laws_szTypeS_is5 : LoopIs tab FT D5 live 32 laws_szTypeS_lo 0 5 := by
  refine loop_told (sl := laws_szTypeS_5_sl) (step := laws_szTypeS_5_st) (out := laws_szTypeS_5_out) (lor := laws_szTypeS_lo5) (fin := fun x => (laws_szTypeS_5_fin (x.1) (x.2.1) (x.2.2))) (fun _ => rfl) ?_ (fun x n => laws_szTypeS_5_r x.1 x.2.1 x.2.2 n) (fun x ow => laws_szTypeS_5_h x.1 x.2.1 x.2.2 ow)
  intro s t h
  unfold laws_szTypeS_lo5 at h
  split at h
  · cases h; exact ⟨(_, _, _), rfl, rfl⟩
  · cases h
noncomputable def laws_szTypeS_t (A : List (List TC)) (left : Int) : Tr (Int) := (.ite ((decide ((IntKind.wrap .i64 (left - (A.length : Int))) < (0 : Int))) = true) (.ok (-1 : Int))
  (.ite ((laws_szTypeS_k5_1 A (IntKind.wrap .i64 (left - (A.length : Int))) (0 : Int)) = true) (.ite ((laws_szTypeS_o5_2 A (IntKind.wrap .i64 (left - (A.length : Int))) (0 : Int)) = true) (.ok (-1 : Int))
    .no)
   (.ite ((laws_szTypeS_o5_3 A (IntKind.wrap .i64 (left - (A.length : Int))) (0 : Int)) = true) (.ok (laws_szTypeS_u5_3 A (IntKind.wrap .i64 (left - (A.length : Int))) (0 : Int)))
    .no)))
def laws_szTypeS_mk (p : Int) : Res := [(false, [⟨.int .i64, .sh, TC.i p⟩])]
noncomputable def laws_szTypeS_c (A : List (List TC)) (left : Int) : Bool := (bif (decide ((IntKind.wrap .i64 (left - (A.length : Int))) < (0 : Int))) then true else (bif (laws_szTypeS_k5_1 A (IntKind.wrap .i64 (left - (A.length : Int))) (0 : Int)) then ((laws_szTypeS_o5_2 A (IntKind.wrap .i64 (left - (A.length : Int))) (0 : Int)) && true) else ((laws_szTypeS_o5_3 A (IntKind.wrap .i64 (left - (A.length : Int))) (0 : Int)) && true)))
noncomputable def laws_szTypeS_v (A : List (List TC)) (left : Int) : Int := (bif (decide ((IntKind.wrap .i64 (left - (A.length : Int))) < (0 : Int))) then (-1 : Int) else (bif (laws_szTypeS_k5_1 A (IntKind.wrap .i64 (left - (A.length : Int))) (0 : Int)) then (-1 : Int) else (laws_szTypeS_u5_3 A (IntKind.wrap .i64 (left - (A.length : Int))) (0 : Int))))
theorem laws_szTypeS_l (A : List (List TC)) (left : Int) : (laws_szTypeS_c A left) = true → (laws_szTypeS_t A left).val = some (laws_szTypeS_v A left) := by
  unfold laws_szTypeS_t laws_szTypeS_v laws_szTypeS_c
  exact fun h => (Tr.ss h (fun h => rfl) (fun h => (Tr.ss h (fun h => (Tr.gb h fun h => rfl)) (fun h => (Tr.gb h fun h => rfl)))))
noncomputable def laws_szTypeS_S : List Arg → Option (Bool × Res) := fun xs => match xs with
  | [(false, [(.slice 27, TC.l A)]), (false, [(.int .i64, TC.i left)])] => some ((laws_szTypeS_c A left), laws_szTypeS_mk (laws_szTypeS_v A left))
  | _ => .none
theorem laws_szTypeS_e (A : List (List TC)) (left : Int) : runF tab FT D5 live 32 laws_szTypeS_lo [(false, [(.slice 27, TC.l A)]), (false, [(.int .i64, TC.i left)])] = (laws_szTypeS_t A left).run fun p => some (laws_szTypeS_mk p) := by kernel_rfl
theorem laws_szTypeS_s : ∀ xs r, laws_szTypeS_S xs = some (true, r) → runF tab FT D5 live 32 laws_szTypeS_lo xs = some r := by
  intro xs r h
  unfold laws_szTypeS_S at h
  split at h
  · simp only [Option.some.injEq, Prod.mk.injEq] at h
    obtain ⟨h1, rfl⟩ := h
    exact fun_told (laws_szTypeS_e _ _) (laws_szTypeS_l _ _) h1
  · cases h
noncomputable def D6 : Dt := also D5 32 laws_szTypeS_S
theorem d6 : DOk Go.Proofs.Try.prog tab D6 := d5.also mixed_ok tab_ok names_ok (fnLoops_one (by kernel_rfl) laws_szTypeS_is5) laws_szTypeS_s
theorem laws_szTypeS_cc {A : List (List TC)} {left : Int} (ht : Typed tab (.slice 27) (.l A)) (hr0 : (∀ x : List TC, x ∈ A → ∀ left : Int, (laws_szType_rc ((nth x 0).int) ((nth x 1).int) ((nth x 2).bool) ((nth x 3).bool) ((nth x 4).list) ((nth x 5).list) ((nth x 6).list) ((nth x 7).list) ((nth x 8).int) left) = true)) : (laws_szTypeS_c A left) = true := by
  unfold laws_szTypeS_c
  refine bifT (fun b1 => ?_) (fun b1 => ?_)
  · skip
    rfl
  · skip
    refine bifT (fun b2 => ?_) (fun b2 => ?_)
    · skip
      refine andT (by exact is_true ⟨rfl, ht, hr0⟩) ?_
      rfl
    · skip
      refine andT (by exact is_true ⟨rfl, ht, hr0⟩) ?_
      rfl
/-! laws_szType -/
noncomputable def laws_szType_t (x0 x1 : Int) (x2 x3 : Bool) (x4 x5 x6 x7 : List (List TC)) (x8 x9 : Int) : Tr (Int) := (.ite ((laws_szStringS_c x4 x9) = true) (.ite ((decide ((laws_szStringS_v x4 x9) < (0 : Int))) = true) (.ok (-1 : Int))
   (.ite ((decide ((laws_szInt64S_v x5 (laws_szStringS_v x4 x9)) < (0 : Int))) = true) (.ok (-1 : Int))
    (.ite ((laws_szMemberS_c x6 (laws_szInt64S_v x5 (laws_szStringS_v x4 x9))) = true) (.ite ((decide ((laws_szMemberS_v x6 (laws_szInt64S_v x5 (laws_szStringS_v x4 x9))) < (0 : Int))) = true) (.ok (-1 : Int))
      (.ite ((laws_szTypeS_c x7 (laws_szMemberS_v x6 (laws_szInt64S_v x5 (laws_szStringS_v x4 x9)))) = true) (.ite ((decide ((laws_szTypeS_v x7 (laws_szMemberS_v x6 (laws_szInt64S_v x5 (laws_szStringS_v x4 x9)))) < (0 : Int))) = true) (.ok (-1 : Int))
        (.ok (laws_szTypeS_v x7 (laws_szMemberS_v x6 (laws_szInt64S_v x5 (laws_szStringS_v x4 x9))))))
       .no))
     .no)))
  .no)
def laws_szType_mk (p : Int) : Res := [(false, [⟨.int .i64, .sh, TC.i p⟩])]
noncomputable def laws_szType_c (x0 x1 : Int) (x2 x3 : Bool) (x4 x5 x6 x7 : List (List TC)) (x8 x9 : Int) : Bool := ((laws_szStringS_c x4 x9) && (bif (decide ((laws_szStringS_v x4 x9) < (0 : Int))) then true else (bif (decide ((laws_szInt64S_v x5 (laws_szStringS_v x4 x9)) < (0 : Int))) then true else ((laws_szMemberS_c x6 (laws_szInt64S_v x5 (laws_szStringS_v x4 x9))) && (bif (decide ((laws_szMemberS_v x6 (laws_szInt64S_v x5 (laws_szStringS_v x4 x9))) < (0 : Int))) then true else ((laws_szTypeS_c x7 (laws_szMemberS_v x6 (laws_szInt64S_v x5 (laws_szStringS_v x4 x9)))) && (bif (decide ((laws_szTypeS_v x7 (laws_szMemberS_v x6 (laws_szInt64S_v x5 (laws_szStringS_v x4 x9)))) < (0 : Int))) then true else true)))))))
noncomputable def laws_szType_v (x0 x1 : Int) (x2 x3 : Bool) (x4 x5 x6 x7 : List (List TC)) (x8 x9 : Int) : Int := (bif (decide ((laws_szStringS_v x4 x9) < (0 : Int))) then (-1 : Int) else (bif (decide ((laws_szInt64S_v x5 (laws_szStringS_v x4 x9)) < (0 : Int))) then (-1 : Int) else (bif (decide ((laws_szMemberS_v x6 (laws_szInt64S_v x5 (laws_szStringS_v x4 x9))) < (0 : Int))) then (-1 : Int) else (bif (decide ((laws_szTypeS_v x7 (laws_szMemberS_v x6 (laws_szInt64S_v x5 (laws_szStringS_v x4 x9)))) < (0 : Int))) then (-1 : Int) else (laws_szTypeS_v x7 (laws_szMemberS_v x6 (laws_szInt64S_v x5 (laws_szStringS_v x4 x9))))))))
theorem laws_szType_l (x0 x1 : Int) (x2 x3 : Bool) (x4 x5 x6 x7 : List (List TC)) (x8 x9 : Int) : (laws_szType_c x0 x1 x2 x3 x4 x5 x6 x7 x8 x9) = true → (laws_szType_t x0 x1 x2 x3 x4 x5 x6 x7 x8 x9).val = some (laws_szType_v x0 x1 x2 x3 x4 x5 x6 x7 x8 x9) := by
  unfold laws_szType_t laws_szType_v laws_szType_c
  exact fun h => (Tr.gb h fun h => (Tr.ss h (fun h => rfl) (fun h => (Tr.ss h (fun h => rfl) (fun h => (Tr.gb h fun h => (Tr.ss h (fun h => rfl) (fun h => (Tr.gb h fun h => (Tr.ss h (fun h => rfl) (fun h => rfl)))))))))))
noncomputable def laws_szType_S : List Arg → Option (Bool × Res) := fun xs => match xs with
  | [(true, [(.int .i64, TC.i x0), (.int .i64, TC.i x1), (.bool, TC.b x2), (.bool, TC.b x3), (.slice 9, TC.l x4), (.slice 2, TC.l x5), (.slice 73, TC.l x6), (.slice 27, TC.l x7), (.int .i64, TC.i x8)]), (false, [(.int .i64, TC.i x9)])] => some ((laws_szType_c x0 x1 x2 x3 x4 x5 x6 x7 x8 x9), laws_szType_mk (laws_szType_v x0 x1 x2 x3 x4 x5 x6 x7 x8 x9))
  | _ => .none
theorem laws_szType_e (x0 x1 : Int) (x2 x3 : Bool) (x4 x5 x6 x7 : List (List TC)) (x8 x9 : Int) : runF tab FT D6 live 10 noLoops [(true, [(.int .i64, TC.i x0), (.int .i64, TC.i x1), (.bool, TC.b x2), (.bool, TC.b x3), (.slice 9, TC.l x4), (.slice 2, TC.l x5), (.slice 73, TC.l x6), (.slice 27, TC.l x7), (.int .i64, TC.i x8)]), (false, [(.int .i64, TC.i x9)])] = (laws_szType_t x0 x1 x2 x3 x4 x5 x6 x7 x8 x9).run fun p => some (laws_szType_mk p) := by kernel_rfl
theorem laws_szType_s : ∀ xs r, laws_szType_S xs = some (true, r) → runF tab FT D6 live 10 noLoops xs = some r := by
  intro xs r h
  unfold laws_szType_S at h
  split at h
  · simp only [Option.some.injEq, Prod.mk.injEq] at h
    obtain ⟨h1, rfl⟩ := h
    exact fun_told (laws_szType_e _ _ _ _ _ _ _ _ _ _) (laws_szType_l _ _ _ _ _ _ _ _ _ _) h1
  · cases h
noncomputable def laws_szType_next : (Int) → (Int) → (Bool) → (Bool) → (List (List TC)) → (List (List TC)) → (List (List TC)) → (List (List TC)) → (Int) → (Int) → Bool × (Int) := fun x0 x1 x2 x3 x4 x5 x6 x7 x8 x9 => ((laws_szType_c x0 x1 x2 x3 x4 x5 x6 x7 x8 x9), (laws_szType_v x0 x1 x2 x3 x4 x5 x6 x7 x8 x9))
theorem laws_szType_nx (m : Nat) (hR : ∀ (x0 x1 : Int) (x2 x3 : Bool) (x4 x5 x6 x7 : List (List TC)) (x8 x9 : Int), max (rowsDep x6) (rowsDep x7) < m ∧ Typed tab (.slice 9) (.l x4) ∧ Typed tab (.slice 2) (.l x5) ∧ Typed tab (.slice 73) (.l x6) ∧ Typed tab (.slice 27) (.l x7) → (laws_szType_rc x0 x1 x2 x3 x4 x5 x6 x7 x8 x9) = true) (x0 x1 : Int) (x2 x3 : Bool) (x4 x5 x6 x7 : List (List TC)) (x8 x9 : Int) : max (rowsDep x6) (rowsDep x7) < (m + 1) ∧ Typed tab (.slice 9) (.l x4) ∧ Typed tab (.slice 2) (.l x5) ∧ Typed tab (.slice 73) (.l x6) ∧ Typed tab (.slice 27) (.l x7) → (laws_szType_c x0 x1 x2 x3 x4 x5 x6 x7 x8 x9) = true := by
  intro h
  obtain ⟨hM, t4, t5, t6, t7⟩ := h
  unfold laws_szType_c
  refine andT (by exact laws_szStringS_cc t4) ?_
  refine bifT (fun b1 => ?_) (fun b1 => ?_)
  · skip
    rfl
  · skip
    refine bifT (fun b2 => ?_) (fun b2 => ?_)
    · skip
      rfl
    · skip
      refine andT (by exact laws_szMemberS_cc t6 (fun x hx left => laws_szMember_cc (typed_list ((typed_elem t6 hx).2 6 (by decide))) (typed_list ((typed_elem t6 hx).2 7 (by decide))) (typed_list ((typed_elem t6 hx).2 8 (by decide))) (typed_list ((typed_elem t6 hx).2 9 (by decide))) (fun left => hR _ _ _ _ _ _ _ _ _ _ ⟨by have a := dep_cell hx 8; have b := dep_cell hx 9; omega, typed_list ((typed_elem t6 hx).2 6 (by decide)), typed_list ((typed_elem t6 hx).2 7 (by decide)), typed_list ((typed_elem t6 hx).2 8 (by decide)), typed_list ((typed_elem t6 hx).2 9 (by decide))⟩))) ?_
      refine bifT (fun b3 => ?_) (fun b3 => ?_)
      · skip
        rfl
      · skip
        refine andT (by exact laws_szTypeS_cc t7 (fun x hx left => hR _ _ _ _ _ _ _ _ _ _ ⟨by have a := dep_cell hx 6; have b := dep_cell hx 7; omega, typed_list ((typed_elem t7 hx).2 4 (by decide)), typed_list ((typed_elem t7 hx).2 5 (by decide)), typed_list ((typed_elem t7 hx).2 6 (by decide)), typed_list ((typed_elem t7 hx).2 7 (by decide))⟩)) ?_
        refine bifT (fun b4 => ?_) (fun b4 => ?_)
        · skip
          rfl
        · skip
          rfl
theorem laws_szType_rs : ∀ xs r, laws_szType_rS (i_laws_szType := ⟨laws_szType_next⟩) xs = some (true, r) → runF tab FT D6 live 10 noLoops xs = some r := by
  intro xs r h
  unfold laws_szType_rS at h
  split at h
  · simp only [Option.some.injEq, Prod.mk.injEq] at h
    obtain ⟨h1, rfl⟩ := h
    exact fun_told (laws_szType_e _ _ _ _ _ _ _ _ _ _) (laws_szType_l _ _ _ _ _ _ _ _ _ _) h1
  · cases h
theorem laws_szType_step : laws_szType_G (i_laws_szType := ⟨laws_szType_next⟩) := by
  have h := DOk.also2 (S := laws_szType_rS (i_laws_szType := ⟨laws_szType_next⟩)) mixed_ok tab_ok names_ok d2 d6 noLoops_ok laws_szType_rs
  refine laws_szType_G.mk (i_laws_szType := ⟨laws_szType_next⟩) ?_
  exact h
/-! laws_toStringS -/
noncomputable def laws_toStringS_g (x : List TC) : List TC := [TC.s ((nth x 0).str)]
def laws_toStringS_z : List TC := [TC.s []]
theorem laws_toStringS_id {A : List (List TC)} (h : Typed tab (.slice 9) (.l A)) : A.map laws_toStringS_g = A := map_same fun x hx => by
  obtain ⟨hl, hk⟩ := typed_elem h hx
  have e0 : TC.s ((nth x 0).str) = nth x 0 := typed_str_eq (hk 0 (by decide))
  show [TC.s ((nth x 0).str)] = _
  rw [e0]
  exact (row_eta hl).symm
abbrev laws_toStringS_3_σ := List (List TC) × List (List TC) × Int
abbrev laws_toStringS_3_ω := (List (List TC))
noncomputable def laws_toStringS_3_step (A X : List (List TC)) (i : Int) : Tr (laws_toStringS_3_σ ⊕ laws_toStringS_3_ω) := (.ite ((decide (i < (A.length : Int))) = true) (.ite ((0 : Int) ≤ i ∧ i < (A.length : Int)) (.ite ((0 : Int) ≤ i ∧ i < (X.length : Int)) (.ok (.inl (A, (X.set (i).toNat (splice (row X i) 0 [TC.s ((nth (row A i) 0).str)])), (IntKind.wrap .i64 (i + (1 : Int))))))
    .no)
   .no)
  (.ok (.inr X)))
noncomputable def laws_toStringS_3_st : laws_toStringS_3_σ → Tr (laws_toStringS_3_σ ⊕ laws_toStringS_3_ω) := fun x => (laws_toStringS_3_step (x.1) (x.2.1) (x.2.2))
noncomputable def laws_toStringS_o3_1 (A X : List (List TC)) (i : Int) : Bool := is (Typed tab (.slice 9) (.l A) ∧ X = List.replicate A.length laws_toStringS_z ∧ i = 0)
noncomputable def laws_toStringS_3_fin (A X : List (List TC)) (i : Int) : Told laws_toStringS_3_ω := (.leaf (laws_toStringS_o3_1 A X i) A)
def laws_toStringS_3_sl (x : laws_toStringS_3_σ) : List Slot := [⟨.val false [⟨.slice 9, .sh, TC.l (x.1)⟩], ⟨0, 0⟩⟩, ⟨.val false [⟨.slice 9, .own true, TC.l (x.2.1)⟩], ⟨0, 0⟩⟩, ⟨.val false [⟨.int .i64, .sh, TC.i (x.2.2)⟩], ⟨0, 0⟩⟩]
def laws_toStringS_3_out : laws_toStringS_3_ω → Ex × List Slot := (fun x => (.exit 0, [Slot.none, ⟨.val false [⟨.slice 9, .own true, TC.l x⟩], ⟨0, 0⟩⟩]))
noncomputable def laws_toStringS_lo3 : List Slot → Option (Told (Ex × List Slot)) := fun s => match s with
  | [⟨.val false [⟨.slice 9, .sh, TC.l A⟩], ⟨0, 0⟩⟩, ⟨.val false [⟨.slice 9, .own true, TC.l X⟩], ⟨0, 0⟩⟩, ⟨.val false [⟨.int .i64, .sh, TC.i i⟩], ⟨0, 0⟩⟩] => some (((laws_toStringS_3_fin A X i)).map laws_toStringS_3_out)
  | _ => .none
noncomputable def laws_toStringS_lo : LoopTeller := fun r s => bif Nat.beq r 3 then laws_toStringS_lo3 s else .none
theorem laws_toStringS_3_r (A X : List (List TC)) (i : Int) (fuel : Nat) : rounds (rnd tab FT D6 live 35 laws_toStringS_lo 0 3) leave (fuel + 1) (laws_toStringS_3_sl (A, X, i)) = ((laws_toStringS_3_step A X i)).run (goOn (fun s => rounds (rnd tab FT D6 live 35 laws_toStringS_lo 0 3) leave fuel (laws_toStringS_3_sl s)) fun w => some (laws_toStringS_3_out w)) := by kernel_rfl
theorem laws_toStringS_3_h (A X : List (List TC)) (i : Int) (ow : laws_toStringS_3_ω) : ((laws_toStringS_3_fin A X i)).val = some ow → ∃ fuel, loopN laws_toStringS_3_st fuel (A, X, i) = some ow := by
  intro h
  refine auto_leaf (R := A) (fun ho => ?_) h
  obtain ⟨ht, rfl, rfl⟩ := is_iff.1 ho
  have hlen : A.length ≤ 140737488351232 := by have := typed_room ht; simp only [show (tab 9).bytes = 16 from rfl] at this; omega
  have key := loopN_copy (step := laws_toStringS_3_st) A (List.replicate A.length laws_toStringS_z) laws_toStringS_g (fun Y i => (A, Y, (i : Int))) (A.map laws_toStringS_g) (by simp) (fun x hx i _ => by rw [(List.mem_replicate.1 hx).2]; exact Nat.le_refl 1) (fun Y i hi hl => ?_) ?_ A.length 0 (by omega)
  · rw [copied_zero, laws_toStringS_id ht] at key
    exact ⟨_, key⟩
  · have c0 : Typed tab (.str) (.s (nth (A.getD i []) 0).str) := typed_s (typed_cell ht (A.getD i []) (mem_getD hi) 0 (by decide))
    show (laws_toStringS_3_step A Y (i : Int)).val = _
    unfold laws_toStringS_3_step
    refine Tr.t (by simp; omega) ?_
    refine Tr.t (by first | omega | (constructor <;> omega)) ?_
    refine Tr.t (by first | omega | (constructor <;> omega)) ?_
    rw [Tr.val_ok, wrap64 (i := (i : Int) + 1) (by omega) (by omega)]; rfl
  · show (laws_toStringS_3_step A (A.map laws_toStringS_g) (A.length : Int)).val = _
    refine Tr.n (by simp) ?_
    rfl
theorem laws_toStringS_is3 : LoopIs tab FT D6 live 35 laws_toStringS_lo 0 3 := by
  refine loop_told (sl := laws_toStringS_3_sl) (step := laws_toStringS_3_st) (out := laws_toStringS_3_out) (lor := laws_toStringS_lo3) (fin := fun x => (laws_toStringS_3_fin (x.1) (x.2.1) (x.2.2))) (fun _ => rfl) ?_ (fun x n => laws_toStringS_3_r x.1 x.2.1 x.2.2 n) (fun x ow => laws_toStringS_3_h x.1 x.2.1 x.2.2 ow)
  intro s t h
  unfold laws_toStringS_lo3 at h
  split at h
  · cases h; exact ⟨(_, _, _), rfl, rfl⟩
  · cases h
noncomputable def laws_toStringS_t (A : List (List TC)) : Tr (List (List TC)) := (.ite (0 ≤ (A.length : Int) ∧ (A.length : Int) ≤ (A.length : Int) ∧ (A.length : Int) * 16 ≤ 140737488355328 ∧ (A.length : Int) ≤ 140737488355328) (.ite ((laws_toStringS_o3_1 A (List.replicate ((A.length : Int)).toNat [TC.s []]) (0 : Int)) = true) (.ok A)
   .no)
  .no)
def laws_toStringS_mk (p : List (List TC)) : Res := [(false, [⟨.slice 9, .own true, TC.l p⟩])]
noncomputable def laws_toStringS_c (A : List (List TC)) : Bool := is (Typed tab (.slice 9) (.l A))
noncomputable def laws_toStringS_v (A : List (List TC)) : List (List TC) := A
theorem laws_toStringS_l (A : List (List TC)) : (laws_toStringS_c A) = true → (laws_toStringS_t A).val = some (laws_toStringS_v A) := by
  intro h
  have ht := is_iff.1 h
  have hb := typed_room ht
  simp only [show (tab 9).bytes = 16 from rfl] at hb
  unfold laws_toStringS_t
  refine Tr.t (by omega) ?_
  refine Tr.t (is_true ⟨ht, by rfl, rfl⟩) ?_
  rfl
noncomputable def laws_toStringS_S : List Arg → Option (Bool × Res) := fun xs => match xs with
  | [(false, [(.slice 9, TC.l A)])] => some ((laws_toStringS_c A), laws_toStringS_mk (laws_toStringS_v A))
  | _ => .none
theorem laws_toStringS_e (A : List (List TC)) : runF tab FT D6 live 35 laws_toStringS_lo [(false, [(.slice 9, TC.l A)])] = (laws_toStringS_t A).run fun p => some (laws_toStringS_mk p) := by kernel_rfl
theorem laws_toStringS_s : ∀ xs r, laws_toStringS_S xs = some (true, r) → runF tab FT D6 live 35 laws_toStringS_lo xs = some r := by
  intro xs r h
  unfold laws_toStringS_S at h
  split at h
  · simp only [Option.some.injEq, Prod.mk.injEq] at h
    obtain ⟨h1, rfl⟩ := h
    exact fun_told (laws_toStringS_e _) (laws_toStringS_l _) h1
  · cases h
noncomputable def D7 : Dt := also D6 35 laws_toStringS_S
theorem d7 : DOk Go.Proofs.Try.prog tab D7 := d6.also mixed_ok tab_ok names_ok (fnLoops_one (by kernel_rfl) laws_toStringS_is3) laws_toStringS_s
theorem laws_toStringS_ty {A : List (List TC)} (h : Typed tab (.slice 9) (.l A)) : Typed tab (.slice 9) (.l A) := typed_iso iso_ok h (by decide)
/-! laws_toInt64S -/
noncomputable def laws_toInt64S_g (x : List TC) : List TC := [TC.i ((nth x 0).int)]
def laws_toInt64S_z : List TC := [TC.i (0 : Int)]
theorem laws_toInt64S_id {A : List (List TC)} (h : Typed tab (.slice 2) (.l A)) : A.map laws_toInt64S_g = A := map_same fun x hx => by
  obtain ⟨hl, hk⟩ := typed_elem h hx
  have e0 : TC.i ((nth x 0).int) = nth x 0 := typed_int_eq (hk 0 (by decide))
  show [TC.i ((nth x 0).int)] = _
  rw [e0]
  exact (row_eta hl).symm
abbrev laws_toInt64S_3_σ := List (List TC) × List (List TC) × Int
abbrev laws_toInt64S_3_ω := (List (List TC))
noncomputable def laws_toInt64S_3_step (A X : List (List TC)) (i : Int) : Tr (laws_toInt64S_3_σ ⊕ laws_toInt64S_3_ω) := (.ite ((decide (i < (A.length : Int))) = true) (.ite ((0 : Int) ≤ i ∧ i < (A.length : Int)) (.ite ((0 : Int) ≤ i ∧ i < (X.length : Int)) (.ok (.inl (A, (X.set (i).toNat (splice (row X i) 0 [TC.i ((nth (row A i) 0).int)])), (IntKind.wrap .i64 (i + (1 : Int))))))
    .no)
   .no)
  (.ok (.inr X)))
noncomputable def laws_toInt64S_3_st : laws_toInt64S_3_σ → Tr (laws_toInt64S_3_σ ⊕ laws_toInt64S_3_ω) := fun x => (laws_toInt64S_3_step (x.1) (x.2.1) (x.2.2))
noncomputable def laws_toInt64S_o3_1 (A X : List (List TC)) (i : Int) : Bool := is (Typed tab (.slice 2) (.l A) ∧ X = List.replicate A.length laws_toInt64S_z ∧ i = 0)
noncomputable def laws_toInt64S_3_fin (A X : List (List TC)) (i : Int) : Told laws_toInt64S_3_ω := (.leaf (laws_toInt64S_o3_1 A X i) A)
def laws_toInt64S_3_sl (x : laws_toInt64S_3_σ) : List Slot := [⟨.val false [⟨.slice 2, .sh, TC.l (x.1)⟩], ⟨0, 0⟩⟩, ⟨.val false [⟨.slice 2, .own true, TC.l (x.2.1)⟩], ⟨0, 0⟩⟩, ⟨.val false [⟨.int .i64, .sh, TC.i (x.2.2)⟩], ⟨0, 0⟩⟩]
def laws_toInt64S_3_out : laws_toInt64S_3_ω → Ex × List Slot := (fun x => (.exit 0, [Slot.none, ⟨.val false [⟨.slice 2, .own true, TC.l x⟩], ⟨0, 0⟩⟩]))
noncomputable def laws_toInt64S_lo3 : List Slot → Option (Told (Ex × List Slot)) := fun s => match s with
  | [⟨.val false [⟨.slice 2, .sh, TC.l A⟩], ⟨0, 0⟩⟩, ⟨.val false [⟨.slice 2, .own true, TC.l X⟩], ⟨0, 0⟩⟩, ⟨.val false [⟨.int .i64, .sh, TC.i i⟩], ⟨0, 0⟩⟩] => some (((laws_toInt64S_3_fin A X i)).map laws_toInt64S_3_out)
  | _ => .none
noncomputable def laws_toInt64S_lo : LoopTeller := fun r s => bif Nat.beq r 3 then laws_toInt64S_lo3 s else .none
theorem laws_toInt64S_3_r (A X : List (List TC)) (i : Int) (fuel : Nat) : rounds (rnd tab FT D7 live 36 laws_toInt64S_lo 0 3) leave (fuel + 1) (laws_toInt64S_3_sl (A, X, i)) = ((laws_toInt64S_3_step A X i)).run (goOn (fun s => rounds (rnd tab FT D7 live 36 laws_toInt64S_lo 0 3) leave fuel (laws_toInt64S_3_sl s)) fun w => some (laws_toInt64S_3_out w)) := by kernel_rfl
theorem laws_toInt64S_3_h (A X : List (List TC)) (i : Int) (ow : laws_toInt64S_3_ω) : ((laws_toInt64S_3_fin A X i)).val = some ow → ∃ fuel, loopN laws_toInt64S_3_st fuel (A, X, i) = some ow := by
  intro h
  refine auto_leaf (R := A) (fun ho => ?_) h
  obtain ⟨ht, rfl, rfl⟩ := is_iff.1 ho
  have hlen : A.length ≤ 140737488351232 := by have := typed_room ht; simp only [show (tab 2).bytes = 8 from rfl] at this; omega
  have key := loopN_copy (step := laws_toInt64S_3_st) A (List.replicate A.length laws_toInt64S_z) laws_toInt64S_g (fun Y i => (A, Y, (i : Int))) (A.map laws_toInt64S_g) (by simp) (fun x hx i _ => by rw [(List.mem_replicate.1 hx).2]; exact Nat.le_refl 1) (fun Y i hi hl => ?_) ?_ A.length 0 (by omega)
  · rw [copied_zero, laws_toInt64S_id ht] at key
    exact ⟨_, key⟩
  · skip
    show (laws_toInt64S_3_step A Y (i : Int)).val = _
    unfold laws_toInt64S_3_step
    refine Tr.t (by simp; omega) ?_
    refine Tr.t (by first | omega | (constructor <;> omega)) ?_
    refine Tr.t (by first | omega | (constructor <;> omega)) ?_
    rw [Tr.val_ok, wrap64 (i := (i : Int) + 1) (by omega) (by omega)]; rfl
  · show (laws_toInt64S_3_step A (A.map laws_toInt64S_g) (A.length : Int)).val = _
    refine Tr.n (by simp) ?_
    rfl
theorem laws_toInt64S_is3 : LoopIs tab FT D7 live 36 laws_toInt64S_lo 0 3 := by
  refine loop_told (sl := laws_toInt64S_3_sl) (step := laws_toInt64S_3_st) (out := laws_toInt64S_3_out) (lor := laws_toInt64S_lo3) (fin := fun x => (laws_toInt64S_3_fin (x.1) (x.2.1) (x.2.2))) (fun _ => rfl) ?_ (fun x n => laws_toInt64S_3_r x.1 x.2.1 x.2.2 n) (fun x ow => laws_toInt64S_3_h x.1 x.2.1 x.2.2 ow)
  intro s t h
  unfold laws_toInt64S_lo3 at h
  split at h
  · cases h; exact ⟨(_, _, _), rfl, rfl⟩
  · cases h
noncomputable def laws_toInt64S_t (A : List (List TC)) : Tr (List (List TC)) := (.ite (0 ≤ (A.length : Int) ∧ (A.length : Int) ≤ (A.length : Int) ∧ (A.length : Int) * 8 ≤ 140737488355328 ∧ (A.length : Int) ≤ 140737488355328) (.ite ((laws_toInt64S_o3_1 A (List.replicate ((A.length : Int)).toNat [TC.i (0 : Int)]) (0 : Int)) = true) (.ok A)
   .no)
  .no)
def laws_toInt64S_mk (p : List (List TC)) : Res := [(false, [⟨.slice 2, .own true, TC.l p⟩])]
noncomputable def laws_toInt64S_c (A : List (List TC)) : Bool := is (Typed tab (.slice 2) (.l A))
noncomputable def laws_toInt64S_v (A : List (List TC)) : List (List TC) := A
theorem laws_toInt64S_l (A : List (List TC)) : (laws_toInt64S_c A) = true → (laws_toInt64S_t A).val = some (laws_toInt64S_v A) := by
  intro h
  have ht := is_iff.1 h
  have hb := typed_room ht
  simp only [show (tab 2).bytes = 8 from rfl] at hb
  unfold laws_toInt64S_t
  refine Tr.t (by omega) ?_
  refine Tr.t (is_true ⟨ht, by rfl, rfl⟩) ?_
  rfl
noncomputable def laws_toInt64S_S : List Arg → Option (Bool × Res) := fun xs => match xs with
  | [(false, [(.slice 2, TC.l A)])] => some ((laws_toInt64S_c A), laws_toInt64S_mk (laws_toInt64S_v A))
  | _ => .none
theorem laws_toInt64S_e (A : List (List TC)) : runF tab FT D7 live 36 laws_toInt64S_lo [(false, [(.slice 2, TC.l A)])] = (laws_toInt64S_t A).run fun p => some (laws_toInt64S_mk p) := by kernel_rfl
theorem laws_toInt64S_s : ∀ xs r, laws_toInt64S_S xs = some (true, r) → runF tab FT D7 live 36 laws_toInt64S_lo xs = some r := by
  intro xs r h
  unfold laws_toInt64S_S at h
  split at h
  · simp only [Option.some.injEq, Prod.mk.injEq] at h
    obtain ⟨h1, rfl⟩ := h
    exact fun_told (laws_toInt64S_e _) (laws_toInt64S_l _) h1
  · cases h
noncomputable def D8 : Dt := also D7 36 laws_toInt64S_S
theorem d8 : DOk Go.Proofs.Try.prog tab D8 := d7.also mixed_ok tab_ok names_ok (fnLoops_one (by kernel_rfl) laws_toInt64S_is3) laws_toInt64S_s
theorem laws_toInt64S_ty {A : List (List TC)} (h : Typed tab (.slice 2) (.l A)) : Typed tab (.slice 2) (.l A) := typed_iso iso_ok h (by decide)
/-! laws_toType calls itself -/
section
class laws_toType_O where n : Nat
variable [i_laws_toType : laws_toType_O]
noncomputable def laws_toType_rc (x0 x1 : Int) (x2 x3 : Bool) (x4 x5 x6 x7 : List (List TC)) (x8 : Int) : Bool := is (max (rowsDep x6) (rowsDep x7) < laws_toType_O.n ∧ Typed tab (.slice 9) (.l x4) ∧ Typed tab (.slice 2) (.l x5) ∧ Typed tab (.slice 73) (.l x6) ∧ Typed tab (.slice 27) (.l x7))
noncomputable def laws_toType_rv (x0 x1 : Int) (x2 x3 : Bool) (x4 x5 x6 x7 : List (List TC)) (x8 : Int) : Int × Int × Bool × Bool × List (List TC) × List (List TC) × List (List TC) × List (List TC) × Int := (x0, x1, x2, x3, x4, x5, x6, x7, x8)
def laws_toType_rmk (p : Int × Int × Bool × Bool × List (List TC) × List (List TC) × List (List TC) × List (List TC) × Int) : Res := [(true, [⟨.int .i64, .sh, TC.i (p.1)⟩, ⟨.int .i64, .sh, TC.i (p.2.1)⟩, ⟨.bool, .sh, TC.b (p.2.2.1)⟩, ⟨.bool, .sh, TC.b (p.2.2.2.1)⟩, ⟨.slice 9, .own true, TC.l (p.2.2.2.2.1)⟩, ⟨.slice 2, .own true, TC.l (p.2.2.2.2.2.1)⟩, ⟨.slice 77, .own true, TC.l (p.2.2.2.2.2.2.1)⟩, ⟨.slice 32, .own true, TC.l (p.2.2.2.2.2.2.2.1)⟩, ⟨.int .i64, .sh, TC.i (p.2.2.2.2.2.2.2.2)⟩])]
noncomputable def laws_toType_rS : List Arg → Option (Bool × Res) := fun xs => match xs with
  | [(true, [(.int .i64, TC.i x0), (.int .i64, TC.i x1), (.bool, TC.b x2), (.bool, TC.b x3), (.slice 9, TC.l x4), (.slice 2, TC.l x5), (.slice 73, TC.l x6), (.slice 27, TC.l x7), (.int .i64, TC.i x8)])] => some ((laws_toType_rc x0 x1 x2 x3 x4 x5 x6 x7 x8), laws_toType_rmk (laws_toType_rv x0 x1 x2 x3 x4 x5 x6 x7 x8))
  | _ => .none
noncomputable def D9 : Dt := also D8 12 laws_toType_rS
class laws_toType_G : Prop where ok : DOk Go.Proofs.Try.prog tab D9
variable [g_laws_toType : laws_toType_G]
theorem d9 : DOk Go.Proofs.Try.prog tab D9 := laws_toType_G.ok
/-! laws_toMember -/
noncomputable def laws_toMember_t (a0 : List UInt8) (a1 a2 a3 : Int) (a4 a5 : Bool) (a6 a7 a8 a9 : List (List TC)) (a10 : Int) : Tr (List UInt8 × Int × Int × Int × Bool × Bool × List (List TC) × List (List TC) × List (List TC) × List (List TC) × Int) := (.ite ((laws_toType_rc a2 a3 a4 a5 a6 a7 a8 a9 a10) = true) (.ok (a0, a1, (laws_toType_rv a2 a3 a4 a5 a6 a7 a8 a9 a10).1, (laws_toType_rv a2 a3 a4 a5 a6 a7 a8 a9 a10).2.1, (laws_toType_rv a2 a3 a4 a5 a6 a7 a8 a9 a10).2.2.1, (laws_toType_rv a2 a3 a4 a5 a6 a7 a8 a9 a10).2.2.2.1, (laws_toType_rv a2 a3 a4 a5 a6 a7 a8 a9 a10).2.2.2.2.1, (laws_toType_rv a2 a3 a4 a5 a6 a7 a8 a9 a10).2.2.2.2.2.1, (laws_toType_rv a2 a3 a4 a5 a6 a7 a8 a9 a10).2.2.2.2.2.2.1, (laws_toType_rv a2 a3 a4 a5 a6 a7 a8 a9 a10).2.2.2.2.2.2.2.1, (laws_toType_rv a2 a3 a4 a5 a6 a7 a8 a9 a10).2.2.2.2.2.2.2.2))
  .no)
def laws_toMember_mk (p : List UInt8 × Int × Int × Int × Bool × Bool × List (List TC) × List (List TC) × List (List TC) × List (List TC) × Int) : Res := [(true, [⟨.str, .sh, TC.s (p.1)⟩, ⟨.int .i64, .sh, TC.i (p.2.1)⟩, ⟨.int .i64, .sh, TC.i (p.2.2.1)⟩, ⟨.int .i64, .sh, TC.i (p.2.2.2.1)⟩, ⟨.bool, .sh, TC.b (p.2.2.2.2.1)⟩, ⟨.bool, .sh, TC.b (p.2.2.2.2.2.1)⟩, ⟨.slice 9, .own true, TC.l (p.2.2.2.2.2.2.1)⟩, ⟨.slice 2, .own true, TC.l (p.2.2.2.2.2.2.2.1)⟩, ⟨.slice 77, .own true, TC.l (p.2.2.2.2.2.2.2.2.1)⟩, ⟨.slice 32, .own true, TC.l (p.2.2.2.2.2.2.2.2.2.1)⟩, ⟨.int .i64, .sh, TC.i (p.2.2.2.2.2.2.2.2.2.2)⟩])]
noncomputable def laws_toMember_c (a0 : List UInt8) (a1 a2 a3 : Int) (a4 a5 : Bool) (a6 a7 a8 a9 : List (List TC)) (a10 : Int) : Bool := (laws_toType_rc a2 a3 a4 a5 a6 a7 a8 a9 a10)
noncomputable def laws_toMember_v (a0 : List UInt8) (a1 a2 a3 : Int) (a4 a5 : Bool) (a6 a7 a8 a9 : List (List TC)) (a10 : Int) : List UInt8 × Int × Int × Int × Bool × Bool × List (List TC) × List (List TC) × List (List TC) × List (List TC) × Int := (a0, a1, (laws_toType_rv a2 a3 a4 a5 a6 a7 a8 a9 a10).1, (laws_toType_rv a2 a3 a4 a5 a6 a7 a8 a9 a10).2.1, (laws_toType_rv a2 a3 a4 a5 a6 a7 a8 a9 a10).2.2.1, (laws_toType_rv a2 a3 a4 a5 a6 a7 a8 a9 a10).2.2.2.1, (laws_toType_rv a2 a3 a4 a5 a6 a7 a8 a9 a10).2.2.2.2.1, (laws_toType_rv a2 a3 a4 a5 a6 a7 a8 a9 a10).2.2.2.2.2.1, (laws_toType_rv a2 a3 a4 a5 a6 a7 a8 a9 a10).2.2.2.2.2.2.1, (laws_toType_rv a2 a3 a4 a5 a6 a7 a8 a9 a10).2.2.2.2.2.2.2.1, (laws_toType_rv a2 a3 a4 a5 a6 a7 a8 a9 a10).2.2.2.2.2.2.2.2)
theorem laws_toMember_l (a0 : List UInt8) (a1 a2 a3 : Int) (a4 a5 : Bool) (a6 a7 a8 a9 : List (List TC)) (a10 : Int) : (laws_toMember_c a0 a1 a2 a3 a4 a5 a6 a7 a8 a9 a10) = true → (laws_toMember_t a0 a1 a2 a3 a4 a5 a6 a7 a8 a9 a10).val = some (laws_toMember_v a0 a1 a2 a3 a4 a5 a6 a7 a8 a9 a10) := by
  intro h
  have hc0 : (laws_toType_rc a2 a3 a4 a5 a6 a7 a8 a9 a10) = true := h
  unfold laws_toMember_t
  exact (Tr.t hc0 rfl)
noncomputable def laws_toMember_S : List Arg → Option (Bool × Res) := fun xs => match xs with
  | [(true, [(.str, TC.s a0), (.int .i64, TC.i a1), (.int .i64, TC.i a2), (.int .i64, TC.i a3), (.bool, TC.b a4), (.bool, TC.b a5), (.slice 9, TC.l a6), (.slice 2, TC.l a7), (.slice 73, TC.l a8), (.slice 27, TC.l a9), (.int .i64, TC.i a10)])] => some ((laws_toMember_c a0 a1 a2 a3 a4 a5 a6 a7 a8 a9 a10), laws_toMember_mk (laws_toMember_v a0 a1 a2 a3 a4 a5 a6 a7 a8 a9 a10))
  | _ => .none
theorem laws_toMember_e (a0 : List UInt8) (a1 a2 a3 : Int) (a4 a5 : Bool) (a6 a7 a8 a9 : List (List TC)) (a10 : Int) : runF tab FT D9 live 79 noLoops [(true, [(.str, TC.s a0), (.int .i64, TC.i a1), (.int .i64, TC.i a2), (.int .i64, TC.i a3), (.bool, TC.b a4), (.bool, TC.b a5), (.slice 9, TC.l a6), (.slice 2, TC.l a7), (.slice 73, TC.l a8), (.slice 27, TC.l a9), (.int .i64, TC.i a10)])] = (laws_toMember_t a0 a1 a2 a3 a4 a5 a6 a7 a8 a9 a10).run fun p => some (laws_toMember_mk p) := by kernel_rfl
theorem laws_toMember_s : ∀ xs r, laws_toMember_S xs = some (true, r) → runF tab FT D9 live 79 noLoops xs = some r := by
  intro xs r h
  unfold laws_toMember_S at h
  split at h
  · simp only [Option.some.injEq, Prod.mk.injEq] at h
    obtain ⟨h1, rfl⟩ := h
    exact fun_told (laws_toMember_e _ _ _ _ _ _ _ _ _ _ _) (laws_toMember_l _ _ _ _ _ _ _ _ _ _ _) h1
  · cases h
noncomputable def D10 : Dt := also D9 79 laws_toMember_S
theorem d10 : DOk Go.Proofs.Try.prog tab D10 := d9.also mixed_ok tab_ok names_ok noLoops_ok laws_toMember_s
/-! laws_toMemberS -/
noncomputable def laws_toMemberS_g (x : List TC) : List TC := [TC.s ((laws_toMember_v ((nth x 0).str) ((nth x 1).int) ((nth x 2).int) ((nth x 3).int) ((nth x 4).bool) ((nth x 5).bool) ((nth x 6).list) ((nth x 7).list) ((nth x 8).list) ((nth x 9).list) ((nth x 10).int)).1), TC.i ((laws_toMember_v ((nth x 0).str) ((nth x 1).int) ((nth x 2).int) ((nth x 3).int) ((nth x 4).bool) ((nth x 5).bool) ((nth x 6).list) ((nth x 7).list) ((nth x 8).list) ((nth x 9).list) ((nth x 10).int)).2.1), TC.i ((laws_toMember_v ((nth x 0).str) ((nth x 1).int) ((nth x 2).int) ((nth x 3).int) ((nth x 4).bool) ((nth x 5).bool) ((nth x 6).list) ((nth x 7).list) ((nth x 8).list) ((nth x 9).list) ((nth x 10).int)).2.2.1), TC.i ((laws_toMember_v ((nth x 0).str) ((nth x 1).int) ((nth x 2).int) ((nth x 3).int) ((nth x 4).bool) ((nth x 5).bool) ((nth x 6).list) ((nth x 7).list) ((nth x 8).list) ((nth x 9).list) ((nth x 10).int)).2.2.2.1), TC.b ((laws_toMember_v ((nth x 0).str) ((nth x 1).int) ((nth x 2).int) ((nth x 3).int) ((nth x 4).bool) ((nth x 5).bool) ((nth x 6).list) ((nth x 7).list) ((nth x 8).list) ((nth x 9).list) ((nth x 10).int)).2.2.2.2.1), TC.b ((laws_toMember_v ((nth x 0).str) ((nth x 1).int) ((nth x 2).int) ((nth x 3).int) ((nth x 4).bool) ((nth x 5).bool) ((nth x 6).list) ((nth x 7).list) ((nth x 8).list) ((nth x 9).list) ((nth x 10).int)).2.2.2.2.2.1), TC.l ((laws_toMember_v ((nth x 0).str) ((nth x 1).int) ((nth x 2).int) ((nth x 3).int) ((nth x 4).bool) ((nth x 5).bool) ((nth x 6).list) ((nth x 7).list) ((nth x 8).list) ((nth x 9).list) ((nth x 10).int)).2.2.2.2.2.2.1), TC.l ((laws_toMember_v ((nth x 0).str) ((nth x 1).int) ((nth x 2).int) ((nth x 3).int) ((nth x 4).bool) ((nth x 5).bool) ((nth x 6).list) ((nth x 7).list) ((nth x 8).list) ((nth x 9).list) ((nth x 10).int)).2.2.2.2.2.2.2.1), TC.l ((laws_toMember_v ((nth x 0).str) ((nth x 1).int) ((nth x 2).int) ((nth x 3).int) ((nth x 4).bool) ((nth x 5).bool) ((nth x 6).list) ((nth x 7).list) ((nth x 8).list) ((nth x 9).list) ((nth x 10).int)).2.2.2.2.2.2.2.2.1), TC.l ((laws_toMember_v ((nth x 0).str) ((nth x 1).int) ((nth x 2).int) ((nth x 3).int) ((nth x 4).bool) ((nth x 5).bool) ((nth x 6).list) ((nth x 7).list) ((nth x 8).list) ((nth x 9).list) ((nth x 10).int)).2.2.2.2.2.2.2.2.2.1), TC.i ((laws_toMember_v ((nth x 0).str) ((nth x 1).int) ((nth x 2).int) ((nth x 3).int) ((nth x 4).bool) ((nth x 5).bool) ((nth x 6).list) ((nth x 7).list) ((nth x 8).list) ((nth x 9).list) ((nth x 10).int)).2.2.2.2.2.2.2.2.2.2)]
def laws_toMemberS_z : List TC := [TC.s [], TC.i (0 : Int), TC.i (0 : Int), TC.i (0 : Int), TC.b false, TC.b false, TC.l [], TC.l [], TC.l [], TC.l [], TC.i (0 : Int)]
theorem laws_toMemberS_id {A : List (List TC)} (h : Typed tab (.slice 73) (.l A)) : A.map laws_toMemberS_g = A := map_same fun x hx => by
  obtain ⟨hl, hk⟩ := typed_elem h hx
  have e0 : TC.s ((nth x 0).str) = nth x 0 := typed_str_eq (hk 0 (by decide))
  have e1 : TC.i ((nth x 1).int) = nth x 1 := typed_int_eq (hk 1 (by decide))
  have e2 : TC.i ((nth x 2).int) = nth x 2 := typed_int_eq (hk 2 (by decide))
  have e3 : TC.i ((nth x 3).int) = nth x 3 := typed_int_eq (hk 3 (by decide))
  have e4 : TC.b ((nth x 4).bool) = nth x 4 := typed_bool_eq (hk 4 (by decide))
  have e5 : TC.b ((nth x 5).bool) = nth x 5 := typed_bool_eq (hk 5 (by decide))
  have e6 : TC.l ((nth x 6).list) = nth x 6 := typed_list_eq (hk 6 (by decide))
  have e7 : TC.l ((nth x 7).list) = nth x 7 := typed_list_eq (hk 7 (by decide))
  have e8 : TC.l ((nth x 8).list) = nth x 8 := typed_list_eq (hk 8 (by decide))
  have e9 : TC.l ((nth x 9).list) = nth x 9 := typed_list_eq (hk 9 (by decide))
  have e10 : TC.i ((nth x 10).int) = nth x 10 := typed_int_eq (hk 10 (by decide))
  show [TC.s ((nth x 0).str), TC.i ((nth x 1).int), TC.i ((nth x 2).int), TC.i ((nth x 3).int), TC.b ((nth x 4).bool), TC.b ((nth x 5).bool), TC.l ((nth x 6).list), TC.l ((nth x 7).list), TC.l ((nth x 8).list), TC.l ((nth x 9).list), TC.i ((nth x 10).int)] = _
  rw [e0, e1, e2, e3, e4, e5, e6, e7, e8, e9, e10]
  exact (row_eta hl).symm
abbrev laws_toMemberS_3_σ := List (List TC) × List (List TC) × Int
abbrev laws_toMemberS_3_ω := (List (List TC))
noncomputable def laws_toMemberS_3_step (A X : List (List TC)) (i : Int) : Tr (laws_toMemberS_3_σ ⊕ laws_toMemberS_3_ω) := (.ite ((decide (i < (A.length : Int))) = true) (.ite ((0 : Int) ≤ i ∧ i < (A.length : Int)) (.ite ((laws_toMember_c ((nth (row A i) 0).str) ((nth (row A i) 1).int) ((nth (row A i) 2).int) ((nth (row A i) 3).int) ((nth (row A i) 4).bool) ((nth (row A i) 5).bool) ((nth (row A i) 6).list) ((nth (row A i) 7).list) ((nth (row A i) 8).list) ((nth (row A i) 9).list) ((nth (row A i) 10).int)) = true) (.ite ((0 : Int) ≤ i ∧ i < (X.length : Int)) (.ok (.inl (A, (X.set (i).toNat (splice (row X i) 0 [TC.s ((laws_toMember_v ((nth (row A i) 0).str) ((nth (row A i) 1).int) ((nth (row A i) 2).int) ((nth (row A i) 3).int) ((nth (row A i) 4).bool) ((nth (row A i) 5).bool) ((nth (row A i) 6).list) ((nth (row A i) 7).list) ((nth (row A i) 8).list) ((nth (row A i) 9).list) ((nth (row A i) 10).int)).1), TC.i ((laws_toMember_v ((nth (row A i) 0).str) ((nth (row A i) 1).int) ((nth (row A i) 2).int) ((nth (row A i) 3).int) ((nth (row A i) 4).bool) ((nth (row A i) 5).bool) ((nth (row A i) 6).list) ((nth (row A i) 7).list) ((nth (row A i) 8).list) ((nth (row A i) 9).list) ((nth (row A i) 10).int)).2.1), TC.i ((laws_toMember_v ((nth (row A i) 0).str) ((nth (row A i) 1).int) ((nth (row A i) 2).int) ((nth (row A i) 3).int) ((nth (row A i) 4).bool) ((nth (row A i) 5).bool) ((nth (row A i) 6).list) ((nth (row A i) 7).list) ((nth (row A i) 8).list) ((nth (row A i) 9).list) ((nth (row A i) 10).int)).2.2.1), TC.i ((laws_toMember_v ((nth (row A i) 0).str) ((nth (row A i) 1).int) ((nth (row A i) 2).int) ((nth (row A i) 3).int) ((nth (row A i) 4).bool) ((nth (row A i) 5).bool) ((nth (row A i) 6).list) ((nth (row A i) 7).list) ((nth (row A i) 8).list) ((nth (row A i) 9).list) ((nth (row A i) 10).int)).2.2.2.1), TC.b ((laws_toMember_v ((nth (row A i) 0).str) ((nth (row A i) 1).int) ((nth (row A i) 2).int) ((nth (row A i) 3).int) ((nth (row A i) 4).bool) ((nth (row A i) 5).bool) ((nth (row A i) 6).list) ((nth (row A i) 7).list) ((nth (row A i) 8).list) ((nth (row A i) 9).list) ((nth (row A i) 10).int)).2.2.2.2.1), TC.b ((laws_toMember_v ((nth (row A i) 0).str) ((nth (row A i) 1).int) ((nth (row A i) 2).int) ((nth (row A i) 3).int) ((nth (row A i) 4).bool) ((nth (row A i) 5).bool) ((nth (row A i) 6).list) ((nth (row A i) 7).list) ((nth (row A i) 8).list) ((nth (row A i) 9).list) ((nth (row A i) 10).int)).2.2.2.2.2.1), TC.l ((laws_toMember_v ((nth (row A i) 0).str) ((nth (row A i) 1).int) ((nth (row A i) 2).int) ((nth (row A i) 3).int) ((nth (row A i) 4).bool) ((nth (row A i) 5).bool) ((nth (row A i) 6).list) ((nth (row A i) 7).list) ((nth (row A i) 8).list) ((nth (row A i) 9).list) ((nth (row A i) 10).int)).2.2.2.2.2.2.1), TC.l ((laws_toMember_v ((nth (row A i) 0).str) ((nth (row A i) 1).int) ((nth (row A i) 2).int) ((nth (row A i) 3).int) ((nth (row A i) 4).bool) ((nth (row A i) 5).bool) ((nth (row A i) 6).list) ((nth (row A i) 7).list) ((nth (row A i) 8).list) ((nth (row A i) 9).list) ((nth (row A i) 10).int)).2.2.2.2.2.2.2.1), TC.l ((laws_toMember_v ((nth (row A i) 0).str) ((nth (row A i) 1).int) ((nth (row A i) 2).int) ((nth (row A i) 3).int) ((nth (row A i) 4).bool) ((nth (row A i) 5).bool) ((nth (row A i) 6).list) ((nth (row A i) 7).list) ((nth (row A i) 8).list) ((nth (row A i) 9).list) ((nth (row A i) 10).int)).2.2.2.2.2.2.2.2.1), TC.l ((laws_toMember_v ((nth (row A i) 0).str) ((nth (row A i) 1).int) ((nth (row A i) 2).int) ((nth (row A i) 3).int) ((nth (row A i) 4).bool) ((nth (row A i) 5).bool) ((nth (row A i) 6).list) ((nth (row A i) 7).list) ((nth (row A i) 8).list) ((nth (row A i) 9).list) ((nth (row A i) 10).int)).2.2.2.2.2.2.2.2.2.1), TC.i ((laws_toMember_v ((nth (row A i) 0).str) ((nth (row A i) 1).int) ((nth (row A i) 2).int) ((nth (row A i) 3).int) ((nth (row A i) 4).bool) ((nth (row A i) 5).bool) ((nth (row A i) 6).list) ((nth (row A i) 7).list) ((nth (row A i) 8).list) ((nth (row A i) 9).list) ((nth (row A i) 10).int)).2.2.2.2.2.2.2.2.2.2)])), (IntKind.wrap .i64 (i + (1 : Int))))))
     .no)
    .no)
   .no)
  (.ok (.inr X)))
noncomputable def laws_toMemberS_3_st : laws_toMemberS_3_σ → Tr (laws_toMemberS_3_σ ⊕ laws_toMemberS_3_ω) := fun x => (laws_toMemberS_3_step (x.1) (x.2.1) (x.2.2))
noncomputable def laws_toMemberS_o3_1 (A X : List (List TC)) (i : Int) : Bool := is (Typed tab (.slice 73) (.l A) ∧ (∀ x : List TC, x ∈ A → (laws_toMember_c ((nth x 0).str) ((nth x 1).int) ((nth x 2).int) ((nth x 3).int) ((nth x 4).bool) ((nth x 5).bool) ((nth x 6).list) ((nth x 7).list) ((nth x 8).list) ((nth x 9).list) ((nth x 10).int)) = true) ∧ X = List.replicate A.length laws_toMemberS_z ∧ i = 0)
noncomputable def laws_toMemberS_3_fin (A X : List (List TC)) (i : Int) : Told laws_toMemberS_3_ω := (.leaf (laws_toMemberS_o3_1 A X i) A)
def laws_toMemberS_3_sl (x : laws_toMemberS_3_σ) : List Slot := [⟨.val false [⟨.slice 73, .sh, TC.l (x.1)⟩], ⟨0, 0⟩⟩, ⟨.val false [⟨.slice 77, .own true, TC.l (x.2.1)⟩], ⟨0, 0⟩⟩, ⟨.val false [⟨.int .i64, .sh, TC.i (x.2.2)⟩], ⟨0, 0⟩⟩]
def laws_toMemberS_3_out : laws_toMemberS_3_ω → Ex × List Slot := (fun x => (.exit 0, [Slot.none, ⟨.val false [⟨.slice 77, .own true, TC.l x⟩], ⟨0, 0⟩⟩]))
noncomputable def laws_toMemberS_lo3 : List Slot → Option (Told (Ex × List Slot)) := fun s => match s with
  | [⟨.val false [⟨.slice 73, .sh, TC.l A⟩], ⟨0, 0⟩⟩, ⟨.val false [⟨.slice 77, .own true, TC.l X⟩], ⟨0, 0⟩⟩, ⟨.val false [⟨.int .i64, .sh, TC.i i⟩], ⟨0, 0⟩⟩] => some (((laws_toMemberS_3_fin A X i)).map laws_toMemberS_3_out)
  | _ => .none
noncomputable def laws_toMemberS_lo : LoopTeller := fun r s => bif Nat.beq r 3 then laws_toMemberS_lo3 s else .none
theorem laws_toMemberS_3_r (A X : List (List TC)) (i : Int) (fuel : Nat) : rounds (rnd tab FT D10 live 37 laws_toMemberS_lo 0 3) leave (fuel + 1) (laws_toMemberS_3_sl (A, X, i)) = ((laws_toMemberS_3_step A X i)).run (goOn (fun s => rounds (rnd tab FT D10 live 37 laws_toMemberS_lo 0 3) leave fuel (laws_toMemberS_3_sl s)) fun w => some (laws_toMemberS_3_out w)) := by kernel_rfl
theorem laws_toMemberS_3_h (A X : List (List TC)) (i : Int) (ow : laws_toMemberS_3_ω) : ((laws_toMemberS_3_fin A X i)).val = some ow → ∃ fuel, loopN laws_toMemberS_3_st fuel (A, X, i) = some ow := by
  intro h
  refine auto_leaf (R := A) (fun ho => ?_) h
  obtain ⟨ht, hr0, rfl, rfl⟩ := is_iff.1 ho
  have hlen : A.length ≤ 140737488351232 := by have := typed_room ht; simp only [show (tab 73).bytes = 152 from rfl] at this; omega
  have key := loopN_copy (step := laws_toMemberS_3_st) A (List.replicate A.length laws_toMemberS_z) laws_toMemberS_g (fun Y i => (A, Y, (i : Int))) (A.map laws_toMemberS_g) (by simp) (fun x hx i _ => by rw [(List.mem_replicate.1 hx).2]; exact Nat.le_refl 11) (fun Y i hi hl => ?_) ?_ A.length 0 (by omega)
  · rw [copied_zero, laws_toMemberS_id ht] at key
    exact ⟨_, key⟩
  · have c0 : Typed tab (.str) (.s (nth (A.getD i []) 0).str) := typed_s (typed_cell ht (A.getD i []) (mem_getD hi) 0 (by decide))
    have c6 : Typed tab (.slice 9) (.l (nth (A.getD i []) 6).list) := typed_list (typed_cell ht (A.getD i []) (mem_getD hi) 6 (by decide))
    have c7 : Typed tab (.slice 2) (.l (nth (A.getD i []) 7).list) := typed_list (typed_cell ht (A.getD i []) (mem_getD hi) 7 (by decide))
    have c8 : Typed tab (.slice 73) (.l (nth (A.getD i []) 8).list) := typed_list (typed_cell ht (A.getD i []) (mem_getD hi) 8 (by decide))
    have c9 : Typed tab (.slice 27) (.l (nth (A.getD i []) 9).list) := typed_list (typed_cell ht (A.getD i []) (mem_getD hi) 9 (by decide))
    show (laws_toMemberS_3_step A Y (i : Int)).val = _
    unfold laws_toMemberS_3_step
    refine Tr.t (by simp; omega) ?_
    refine Tr.t (by first | omega | (constructor <;> omega)) ?_
    refine Tr.t (hr0 (A.getD i []) (mem_getD hi)) ?_
    refine Tr.t (by first | omega | (constructor <;> omega)) ?_
    rw [Tr.val_ok, wrap64 (i := (i : Int) + 1) (by omega) (by omega)]; rfl
  · show (laws_toMemberS_3_step A (A.map laws_toMemberS_g) (A.length : Int)).val = _
    refine Tr.n (by simp) ?_
    rfl
theorem laws_toMemberS_is3 : LoopIs tab FT D10 live 37 laws_toMemberS_lo 0 3 := by
  refine loop_told (sl := laws_toMemberS_3_sl) (step := laws_toMemberS_3_st) (out := laws_toMemberS_3_out) (lor := laws_toMemberS_lo3) (fin := fun x => (laws_toMemberS_3_fin (x.1) (x.2.1) (x.2.2))) (fun _ => rfl) ?_ (fun x n => laws_toMemberS_3_r x.1 x.2.1 x.2.2 n) (fun x ow => laws_toMemberS_3_h x.1 x.2.1 x.2.2 ow)
  intro s t h
  unfold laws_toMemberS_lo3 at h
  split at h
  · cases h; exact ⟨(_, _, _), rfl, rfl⟩
  · cases h
noncomputable def laws_toMemberS_t (A : List (List TC)) : Tr (List (List TC)) := (.ite (0 ≤ (A.length : Int) ∧ (A.length : Int) ≤ (A.length : Int) ∧ (A.length : Int) * 152 ≤ 140737488355328 ∧ (A.length : Int) ≤ 140737488355328) (.ite ((laws_toMemberS_o3_1 A (List.replicate ((A.length : Int)).toNat [TC.s [], TC.i (0 : Int), TC.i (0 : Int), TC.i (0 : Int), TC.b false, TC.b false, TC.l [], TC.l [], TC.l [], TC.l [], TC.i (0 : Int)]) (0 : Int)) = true) (.ok A)
   .no)
  .no)
def laws_toMemberS_mk (p : List (List TC)) : Res := [(false, [⟨.slice 77, .own true, TC.l p⟩])]
noncomputable def laws_toMemberS_c (A : List (List TC)) : Bool := is (Typed tab (.slice 73) (.l A) ∧ (∀ x : List TC, x ∈ A → (laws_toMember_c ((nth x 0).str) ((nth x 1).int) ((nth x 2).int) ((nth x 3).int) ((nth x 4).bool) ((nth x 5).bool) ((nth x 6).list) ((nth x 7).list) ((nth x 8).list) ((nth x 9).list) ((nth x 10).int)) = true))
noncomputable def laws_toMemberS_v (A : List (List TC)) : List (List TC) := A
theorem laws_toMemberS_l (A : List (List TC)) : (laws_toMemberS_c A) = true → (laws_toMemberS_t A).val = some (laws_toMemberS_v A) := by
  intro h
  obtain ⟨ht, hr0⟩ := is_iff.1 h
  have hb := typed_room ht
  simp only [show (tab 73).bytes = 152 from rfl] at hb
  unfold laws_toMemberS_t
  refine Tr.t (by omega) ?_
  refine Tr.t (is_true ⟨ht, hr0, by rfl, rfl⟩) ?_
  rfl
noncomputable def laws_toMemberS_S : List Arg → Option (Bool × Res) := fun xs => match xs with
  | [(false, [(.slice 73, TC.l A)])] => some ((laws_toMemberS_c A), laws_toMemberS_mk (laws_toMemberS_v A))
  | _ => .none
theorem laws_toMemberS_e (A : List (List TC)) : runF tab FT D10 live 37 laws_toMemberS_lo [(false, [(.slice 73, TC.l A)])] = (laws_toMemberS_t A).run fun p => some (laws_toMemberS_mk p) := by kernel_rfl
theorem laws_toMemberS_s : ∀ xs r, laws_toMemberS_S xs = some (true, r) → runF tab FT D10 live 37 laws_toMemberS_lo xs = some r := by
  intro xs r h
  unfold laws_toMemberS_S at h
  split at h
  · simp only [Option.some.injEq, Prod.mk.injEq] at h
    obtain ⟨h1, rfl⟩ := h
    exact fun_told (laws_toMemberS_e _) (laws_toMemberS_l _) h1
  · cases h
noncomputable def D11 : Dt := also D10 37 laws_toMemberS_S
theorem d11 : DOk Go.Proofs.Try.prog tab D11 := d10.also mixed_ok tab_ok names_ok (fnLoops_one (by kernel_rfl) laws_toMemberS_is3) laws_toMemberS_s
theorem laws_toMemberS_ty {A : List (List TC)} (h : Typed tab (.slice 73) (.l A)) : Typed tab (.slice 77) (.l A) := typed_iso iso_ok h (by decide)
/-! laws_toTypeS -/
noncomputable def laws_toTypeS_g (x : List TC) : List TC := [TC.i ((laws_toType_rv ((nth x 0).int) ((nth x 1).int) ((nth x 2).bool) ((nth x 3).bool) ((nth x 4).list) ((nth x 5).list) ((nth x 6).list) ((nth x 7).list) ((nth x 8).int)).1), TC.i ((laws_toType_rv ((nth x 0).int) ((nth x 1).int) ((nth x 2).bool) ((nth x 3).bool) ((nth x 4).list) ((nth x 5).list) ((nth x 6).list) ((nth x 7).list) ((nth x 8).int)).2.1), TC.b ((laws_toType_rv ((nth x 0).int) ((nth x 1).int) ((nth x 2).bool) ((nth x 3).bool) ((nth x 4).list) ((nth x 5).list) ((nth x 6).list) ((nth x 7).list) ((nth x 8).int)).2.2.1), TC.b ((laws_toType_rv ((nth x 0).int) ((nth x 1).int) ((nth x 2).bool) ((nth x 3).bool) ((nth x 4).list) ((nth x 5).list) ((nth x 6).list) ((nth x 7).list) ((nth x 8).int)).2.2.2.1), TC.l ((laws_toType_rv ((nth x 0).int) ((nth x 1).int) ((nth x 2).bool) ((nth x 3).bool) ((nth x 4).list) ((nth x 5).list) ((nth x 6).list) ((nth x 7).list) ((nth x 8).int)).2.2.2.2.1), TC.l ((laws_toType_rv ((nth x 0).int) ((nth x 1).int) ((nth x 2).bool) ((nth x 3).bool) ((nth x 4).list) ((nth x 5).list) ((nth x 6).list) ((nth x 7).list) ((nth x 8).int)).2.2.2.2.2.1), TC.l ((laws_toType_rv ((nth x 0).int) ((nth x 1).int) ((nth x 2).bool) ((nth x 3).bool) ((nth x 4).list) ((nth x 5).list) ((nth x 6).list) ((nth x 7).list) ((nth x 8).int)).2.2.2.2.2.2.1), TC.l ((laws_toType_rv ((nth x 0).int) ((nth x 1).int) ((nth x 2).bool) ((nth x 3).bool) ((nth x 4).list) ((nth x 5).list) ((nth x 6).list) ((nth x 7).list) ((nth x 8).int)).2.2.2.2.2.2.2.1), TC.i ((laws_toType_rv ((nth x 0).int) ((nth x 1).int) ((nth x 2).bool) ((nth x 3).bool) ((nth x 4).list) ((nth x 5).list) ((nth x 6).list) ((nth x 7).list) ((nth x 8).int)).2.2.2.2.2.2.2.2)]
def laws_toTypeS_z : List TC := [TC.i (0 : Int), TC.i (0 : Int), TC.b false, TC.b false, TC.l [], TC.l [], TC.l [], TC.l [], TC.i (0 : Int)]
theorem laws_toTypeS_id {A : List (List TC)} (h : Typed tab (.slice 27) (.l A)) : A.map laws_toTypeS_g = A := map_same fun x hx => by
  obtain ⟨hl, hk⟩ := typed_elem h hx
  have e0 : TC.i ((nth x 0).int) = nth x 0 := typed_int_eq (hk 0 (by decide))
  have e1 : TC.i ((nth x 1).int) = nth x 1 := typed_int_eq (hk 1 (by decide))
  have e2 : TC.b ((nth x 2).bool) = nth x 2 := typed_bool_eq (hk 2 (by decide))
  have e3 : TC.b ((nth x 3).bool) = nth x 3 := typed_bool_eq (hk 3 (by decide))
  have e4 : TC.l ((nth x 4).list) = nth x 4 := typed_list_eq (hk 4 (by decide))
  have e5 : TC.l ((nth x 5).list) = nth x 5 := typed_list_eq (hk 5 (by decide))
  have e6 : TC.l ((nth x 6).list) = nth x 6 := typed_list_eq (hk 6 (by decide))
  have e7 : TC.l ((nth x 7).list) = nth x 7 := typed_list_eq (hk 7 (by decide))
  have e8 : TC.i ((nth x 8).int) = nth x 8 := typed_int_eq (hk 8 (by decide))
  show [TC.i ((nth x 0).int), TC.i ((nth x 1).int), TC.b ((nth x 2).bool), TC.b ((nth x 3).bool), TC.l ((nth x 4).list), TC.l ((nth x 5).list), TC.l ((nth x 6).list), TC.l ((nth x 7).list), TC.i ((nth x 8).int)] = _
  rw [e0, e1, e2, e3, e4, e5, e6, e7, e8]
  exact (row_eta hl).symm
abbrev laws_toTypeS_3_σ := List (List TC) × List (List TC) × Int
abbrev laws_toTypeS_3_ω := (List (List TC))
noncomputable def laws_toTypeS_3_step (A X : List (List TC)) (i : Int) : Tr (laws_toTypeS_3_σ ⊕ laws_toTypeS_3_ω) := (.ite ((decide (i < (A.length : Int))) = true) (.ite ((0 : Int) ≤ i ∧ i < (A.length : Int)) (.ite ((laws_toType_rc ((nth (row A i) 0).int) ((nth (row A i) 1).int) ((nth (row A i) 2).bool) ((nth (row A i) 3).bool) ((nth (row A i) 4).list) ((nth (row A i) 5).list) ((nth (row A i) 6).list) ((nth (row A i) 7).list) ((nth (row A i) 8).int)) = true) (.ite ((0 : Int) ≤ i ∧ i < (X.length : Int)) (.ok (.inl (A, (X.set (i).toNat (splice (row X i) 0 [TC.i ((laws_toType_rv ((nth (row A i) 0).int) ((nth (row A i) 1).int) ((nth (row A i) 2).bool) ((nth (row A i) 3).bool) ((nth (row A i) 4).list) ((nth (row A i) 5).list) ((nth (row A i) 6).list) ((nth (row A i) 7).list) ((nth (row A i) 8).int)).1), TC.i ((laws_toType_rv ((nth (row A i) 0).int) ((nth (row A i) 1).int) ((nth (row A i) 2).bool) ((nth (row A i) 3).bool) ((nth (row A i) 4).list) ((nth (row A i) 5).list) ((nth (row A i) 6).list) ((nth (row A i) 7).list) ((nth (row A i) 8).int)).2.1), TC.b ((laws_toType_rv ((nth (row A i) 0).int) ((nth (row A i) 1).int) ((nth (row A i) 2).bool) ((nth (row A i) 3).bool) ((nth (row A i) 4).list) ((nth (row A i) 5).list) ((nth (row A i) 6).list) ((nth (row A i) 7).list) ((nth (row A i) 8).int)).2.2.1), TC.b ((laws_toType_rv ((nth (row A i) 0).int) ((nth (row A i) 1).int) ((nth (row A i) 2).bool) ((nth (row A i) 3).bool) ((nth (row A i) 4).list) ((nth (row A i) 5).list) ((nth (row A i) 6).list) ((nth (row A i) 7).list) ((nth (row A i) 8).int)).2.2.2.1), TC.l ((laws_toType_rv ((nth (row A i) 0).int) ((nth (row A i) 1).int) ((nth (row A i) 2).bool) ((nth (row A i) 3).bool) ((nth (row A i) 4).list) ((nth (row A i) 5).list) ((nth (row A i) 6).list) ((nth (row A i) 7).list) ((nth (row A i) 8).int)).2.2.2.2.1), TC.l ((laws_toType_rv ((nth (row A i) 0).int) ((nth (row A i) 1).int) ((nth (row A i) 2).bool) ((nth (row A i) 3).bool) ((nth (row A i) 4).list) ((nth (row A i) 5).list) ((nth (row A i) 6).list) ((nth (row A i) 7).list) ((nth (row A i) 8).int)).2.2.2.2.2.1), TC.l ((laws_toType_rv ((nth (row A i) 0).int) ((nth (row A i) 1).int) ((nth (row A i) 2).bool) ((nth (row A i) 3).bool) ((nth (row A i) 4).list) ((nth (row A i) 5).list) ((nth (row A i) 6).list) ((nth (row A i) 7).list) ((nth (row A i) 8).int)).2.2.2.2.2.2.1), TC.l ((laws_toType_rv ((nth (row A i) 0).int) ((nth (row A i) 1).int) ((nth (row A i) 2).bool) ((nth (row A i) 3).bool) ((nth (row A i) 4).list) ((nth (row A i) 5).list) ((nth (row A i) 6).list) ((nth (row A i) 7).list) ((nth (row A i) 8).int)).2.2.2.2.2.2.2.1), TC.i ((laws_toType_rv ((nth (row A i) 0).int) ((nth (row A i) 1).int) ((nth (row A i) 2).bool) ((nth (row A i) 3).bool) ((nth (row A i) 4).list) ((nth (row A i) 5).list) ((nth (row A i) 6).list) ((nth (row A i) 7).list) ((nth (row A i) 8).int)).2.2.2.2.2.2.2.2)])), (IntKind.wrap .i64 (i + (1 : Int))))))
     .no)
    .no)
   .no)
  (.ok (.inr X)))
noncomputable def laws_toTypeS_3_st : laws_toTypeS_3_σ → Tr (laws_toTypeS_3_σ ⊕ laws_toTypeS_3_ω) := fun x => (laws_toTypeS_3_step (x.1) (x.2.1) (x.2.2))
noncomputable def laws_toTypeS_o3_1 (A X : List (List TC)) (i : Int) : Bool := is (Typed tab (.slice 27) (.l A) ∧ (∀ x : List TC, x ∈ A → (laws_toType_rc ((nth x 0).int) ((nth x 1).int) ((nth x 2).bool) ((nth x 3).bool) ((nth x 4).list) ((nth x 5).list) ((nth x 6).list) ((nth x 7).list) ((nth x 8).int)) = true) ∧ X = List.replicate A.length laws_toTypeS_z ∧ i = 0)
noncomputable def laws_toTypeS_3_fin (A X : List (List TC)) (i : Int) : Told laws_toTypeS_3_ω := (.leaf (laws_toTypeS_o3_1 A X i) A)
def laws_toTypeS_3_sl (x : laws_toTypeS_3_σ) : List Slot := [⟨.val false [⟨.slice 27, .sh, TC.l (x.1)⟩], ⟨0, 0⟩⟩, ⟨.val false [⟨.slice 32, .own true, TC.l (x.2.1)⟩], ⟨0, 0⟩⟩, ⟨.val false [⟨.int .i64, .sh, TC.i (x.2.2)⟩], ⟨0, 0⟩⟩]
def laws_toTypeS_3_out : laws_toTypeS_3_ω → Ex × List Slot := (fun x => (.exit 0, [Slot.none, ⟨.val false [⟨.slice 32, .own true, TC.l x⟩], ⟨0, 0⟩⟩]))
noncomputable def laws_toTypeS_lo3 : List Slot → Option (Told (Ex × List Slot)) := fun s => match s with
  | [⟨.val false [⟨.slice 27, .sh, TC.l A⟩], ⟨0, 0⟩⟩, ⟨.val false [⟨.slice 32, .own true, TC.l X⟩], ⟨0, 0⟩⟩, ⟨.val false [⟨.int .i64, .sh, TC.i i⟩], ⟨0, 0⟩⟩] => some (((laws_toTypeS_3_fin A X i)).map laws_toTypeS_3_out)
  | _ => .none
noncomputable def laws_toTypeS_lo : LoopTeller := fun r s => bif Nat.beq r 3 then laws_toTypeS_lo3 s else .none
theorem laws_toTypeS_3_r (A X : List (List TC)) (i : Int) (fuel : Nat) : rounds (rnd tab FT D11 live 38 laws_toTypeS_lo 0 3) leave (fuel + 1) (laws_toTypeS_3_sl (A, X, i)) = ((laws_toTypeS_3_step A X i)).run (goOn (fun s => rounds (rnd tab FT D11 live 38 laws_toTypeS_lo 0 3) leave fuel (laws_toTypeS_3_sl s)) fun w => some (laws_toTypeS_3_out w)) := by kernel_rfl
theorem laws_toTypeS_3_h (A X : List (List TC)) (i : Int) (ow : laws_toTypeS_3_ω) : ((laws_toTypeS_3_fin A X i)).val = some ow → ∃ fuel, loopN laws_toTypeS_3_st fuel (A, X, i) = some ow := by
  intro h
  refine auto_leaf (R := A) (fun ho => ?_) h
  obtain ⟨ht, hr0, rfl, rfl⟩ := is_iff.1 ho
  have hlen : A.length ≤ 140737488351232 := by have := typed_room ht; simp only [show (tab 27).bytes = 128 from rfl] at this; omega
  have key := loopN_copy (step := laws_toTypeS_3_st) A (List.replicate A.length laws_toTypeS_z) laws_toTypeS_g (fun Y i => (A, Y, (i : Int))) (A.map laws_toTypeS_g) (by simp) (fun x hx i _ => by rw [(List.mem_replicate.1 hx).2]; exact Nat.le_refl 9) (fun Y i hi hl => ?_) ?_ A.length 0 (by omega)
  · rw [copied_zero, laws_toTypeS_id ht] at key
    exact ⟨_, key⟩
  · have c4 : Typed tab (.slice 9) (.l (nth (A.getD i []) 4).list) := typed_list (typed_cell ht (A.getD i []) (mem_getD hi) 4 (by decide))
    have c5 : Typed tab (.slice 2) (.l (nth (A.getD i []) 5).list) := typed_list (typed_cell ht (A.getD i []) (mem_getD hi) 5 (by decide))
    have c6 : Typed tab (.slice 73) (.l (nth (A.getD i []) 6).list) := typed_list (typed_cell ht (A.getD i []) (mem_getD hi) 6 (by decide))
    have c7 : Typed tab (.slice 27) (.l (nth (A.getD i []) 7).list) := typed_list (typed_cell ht (A.getD i []) (mem_getD hi) 7 (by decide))
    show (laws_toTypeS_3_step A Y (i : Int)).val = _
    unfold laws_toTypeS_3_step
    refine Tr.t (by simp; omega) ?_
    refine Tr.t (by first | omega | (constructor <;> omega)) ?_
    refine Tr.t (hr0 (A.getD i []) (mem_getD hi)) ?_
    refine Tr.t (by first | omega | (constructor <;> omega)) ?_
    rw [Tr.val_ok, wrap64 (i := (i : Int) + 1) (by omega) (by omega)]; rfl
  · show (laws_toTypeS_3_step A (A.map laws_toTypeS_g) (A.length : Int)).val = _
    refine Tr.n (by simp) ?_
    rfl
theorem laws_toTypeS_is3 : LoopIs tab FT D11 live 38 laws_toTypeS_lo 0 3 := by
  refine loop_told (sl := laws_toTypeS_3_sl) (step := laws_toTypeS_3_st) (out := laws_toTypeS_3_out) (lor := laws_toTypeS_lo3) (fin := fun x => (laws_toTypeS_3_fin (x.1) (x.2.1) (x.2.2))) (fun _ => rfl) ?_ (fun x n => laws_toTypeS_3_r x.1 x.2.1 x.2.2 n) (fun x ow => laws_toTypeS_3_h x.1 x.2.1 x.2.2 ow)
  intro s t h
  unfold laws_toTypeS_lo3 at h
  split at h
  · cases h; exact ⟨(_, _, _), rfl, rfl⟩
  · cases h
noncomputable def laws_toTypeS_t (A : List (List TC)) : Tr (List (List TC)) := (.ite (0 ≤ (A.length : Int) ∧ (A.length : Int) ≤ (A.length : Int) ∧ (A.length : Int) * 128 ≤ 140737488355328 ∧ (A.length : Int) ≤ 140737488355328) (.ite ((laws_toTypeS_o3_1 A (List.replicate ((A.length : Int)).toNat [TC.i (0 : Int), TC.i (0 : Int), TC.b false, TC.b false, TC.l [], TC.l [], TC.l [], TC.l [], TC.i (0 : Int)]) (0 : Int)) = true) (.ok A)
   .no)
  .no)
def laws_toTypeS_mk (p : List (List TC)) : Res := [(false, [⟨.slice 32, .own true, TC.l p⟩])]
noncomputable def laws_toTypeS_c (A : List (List TC)) : Bool := is (Typed tab (.slice 27) (.l A) ∧ (∀ x : List TC, x ∈ A → (laws_toType_rc ((nth x 0).int) ((nth x 1).int) ((nth x 2).bool) ((nth x 3).bool) ((nth x 4).list) ((nth x 5).list) ((nth x 6).list) ((nth x 7).list) ((nth x 8).int)) = true))
noncomputable def laws_toTypeS_v (A : List (List TC)) : List (List TC) := A
theorem laws_toTypeS_l (A : List (List TC)) : (laws_toTypeS_c A) = true → (laws_toTypeS_t A).val = some (laws_toTypeS_v A) := by
  intro h
  obtain ⟨ht, hr0⟩ := is_iff.1 h
  have hb := typed_room ht
  simp only [show (tab 27).bytes = 128 from rfl] at hb
  unfold laws_toTypeS_t
  refine Tr.t (by omega) ?_
  refine Tr.t (is_true ⟨ht, hr0, by rfl, rfl⟩) ?_
  rfl
noncomputable def laws_toTypeS_S : List Arg → Option (Bool × Res) := fun xs => match xs with
  | [(false, [(.slice 27, TC.l A)])] => some ((laws_toTypeS_c A), laws_toTypeS_mk (laws_toTypeS_v A))
  | _ => .none
theorem laws_toTypeS_e (A : List (List TC)) : runF tab FT D11 live 38 laws_toTypeS_lo [(false, [(.slice 27, TC.l A)])] = (laws_toTypeS_t A).run fun p => some (laws_toTypeS_mk p) := by kernel_rfl
theorem laws_toTypeS_s : ∀ xs r, laws_toTypeS_S xs = some (true, r) → runF tab FT D11 live 38 laws_toTypeS_lo xs = some r := by
  intro xs r h
  unfold laws_toTypeS_S at h
  split at h
  · simp only [Option.some.injEq, Prod.mk.injEq] at h
    obtain ⟨h1, rfl⟩ := h
    exact fun_told (laws_toTypeS_e _) (laws_toTypeS_l _) h1
  · cases h
noncomputable def D12 : Dt := also D11 38 laws_toTypeS_S
theorem d12 : DOk Go.Proofs.Try.prog tab D12 := d11.also mixed_ok tab_ok names_ok (fnLoops_one (by kernel_rfl) laws_toTypeS_is3) laws_toTypeS_s
theorem laws_toTypeS_ty {A : List (List TC)} (h : Typed tab (.slice 27) (.l A)) : Typed tab (.slice 32) (.l A) := typed_iso iso_ok h (by decide)
/-! laws_toType -/
noncomputable def laws_toType_t (x0 x1 : Int) (x2 x3 : Bool) (x4 x5 x6 x7 : List (List TC)) (x8 : Int) : Tr (Int × Int × Bool × Bool × List (List TC) × List (List TC) × List (List TC) × List (List TC) × Int) := (.ite ((laws_toStringS_c x4) = true) (.ite ((laws_toInt64S_c x5) = true) (.ite ((laws_toMemberS_c x6) = true) (.ite ((laws_toTypeS_c x7) = true) (.ok (x0, x1, x2, x3, (laws_toStringS_v x4), (laws_toInt64S_v x5), (laws_toMemberS_v x6), (laws_toTypeS_v x7), x8))
     .no)
    .no)
   .no)
  .no)
def laws_toType_mk (p : Int × Int × Bool × Bool × List (List TC) × List (List TC) × List (List TC) × List (List TC) × Int) : Res := [(true, [⟨.int .i64, .sh, TC.i (p.1)⟩, ⟨.int .i64, .sh, TC.i (p.2.1)⟩, ⟨.bool, .sh, TC.b (p.2.2.1)⟩, ⟨.bool, .sh, TC.b (p.2.2.2.1)⟩, ⟨.slice 9, .own true, TC.l (p.2.2.2.2.1)⟩, ⟨.slice 2, .own true, TC.l (p.2.2.2.2.2.1)⟩, ⟨.slice 77, .own true, TC.l (p.2.2.2.2.2.2.1)⟩, ⟨.slice 32, .own true, TC.l (p.2.2.2.2.2.2.2.1)⟩, ⟨.int .i64, .sh, TC.i (p.2.2.2.2.2.2.2.2)⟩])]
noncomputable def laws_toType_c (x0 x1 : Int) (x2 x3 : Bool) (x4 x5 x6 x7 : List (List TC)) (x8 : Int) : Bool := ((laws_toStringS_c x4) && ((laws_toInt64S_c x5) && ((laws_toMemberS_c x6) && ((laws_toTypeS_c x7) && true))))
noncomputable def laws_toType_v (x0 x1 : Int) (x2 x3 : Bool) (x4 x5 x6 x7 : List (List TC)) (x8 : Int) : Int × Int × Bool × Bool × List (List TC) × List (List TC) × List (List TC) × List (List TC) × Int := (x0, x1, x2, x3, (laws_toStringS_v x4), (laws_toInt64S_v x5), (laws_toMemberS_v x6), (laws_toTypeS_v x7), x8)
theorem laws_toType_l (x0 x1 : Int) (x2 x3 : Bool) (x4 x5 x6 x7 : List (List TC)) (x8 : Int) : (laws_toType_c x0 x1 x2 x3 x4 x5 x6 x7 x8) = true → (laws_toType_t x0 x1 x2 x3 x4 x5 x6 x7 x8).val = some (laws_toType_v x0 x1 x2 x3 x4 x5 x6 x7 x8) := by
  unfold laws_toType_t laws_toType_v laws_toType_c
  exact fun h => (Tr.gb h fun h => (Tr.gb h fun h => (Tr.gb h fun h => (Tr.gb h fun h => rfl))))
noncomputable def laws_toType_S : List Arg → Option (Bool × Res) := fun xs => match xs with
  | [(true, [(.int .i64, TC.i x0), (.int .i64, TC.i x1), (.bool, TC.b x2), (.bool, TC.b x3), (.slice 9, TC.l x4), (.slice 2, TC.l x5), (.slice 73, TC.l x6), (.slice 27, TC.l x7), (.int .i64, TC.i x8)])] => some ((laws_toType_c x0 x1 x2 x3 x4 x5 x6 x7 x8), laws_toType_mk (laws_toType_v x0 x1 x2 x3 x4 x5 x6 x7 x8))
  | _ => .none
theorem laws_toType_e (x0 x1 : Int) (x2 x3 : Bool) (x4 x5 x6 x7 : List (List TC)) (x8 : Int) : runF tab FT D12 live 12 noLoops [(true, [(.int .i64, TC.i x0), (.int .i64, TC.i x1), (.bool, TC.b x2), (.bool, TC.b x3), (.slice 9, TC.l x4), (.slice 2, TC.l x5), (.slice 73, TC.l x6), (.slice 27, TC.l x7), (.int .i64, TC.i x8)])] = (laws_toType_t x0 x1 x2 x3 x4 x5 x6 x7 x8).run fun p => some (laws_toType_mk p) := by kernel_rfl
theorem laws_toType_s : ∀ xs r, laws_toType_S xs = some (true, r) → runF tab FT D12 live 12 noLoops xs = some r := by
  intro xs r h
  unfold laws_toType_S at h
  split at h
  · simp only [Option.some.injEq, Prod.mk.injEq] at h
    obtain ⟨h1, rfl⟩ := h
    exact fun_told (laws_toType_e _ _ _ _ _ _ _ _ _) (laws_toType_l _ _ _ _ _ _ _ _ _) h1
  · cases h
theorem laws_toType_nx (x0 x1 : Int) (x2 x3 : Bool) (x4 x5 x6 x7 : List (List TC)) (x8 : Int) : is (max (rowsDep x6) (rowsDep x7) < laws_toType_O.n + 1 ∧ Typed tab (.slice 9) (.l x4) ∧ Typed tab (.slice 2) (.l x5) ∧ Typed tab (.slice 73) (.l x6) ∧ Typed tab (.slice 27) (.l x7)) = true → (laws_toType_c x0 x1 x2 x3 x4 x5 x6 x7 x8) = true ∧ (laws_toType_v x0 x1 x2 x3 x4 x5 x6 x7 x8) = (x0, x1, x2, x3, x4, x5, x6, x7, x8) := by
  intro h
  obtain ⟨hM, t4, t5, t6, t7⟩ := is_iff.1 h
  refine ⟨?_, rfl⟩
  unfold laws_toType_c
  refine andT (by exact is_true t4) ?_
  refine andT (by exact is_true t5) ?_
  refine andT (by exact is_true ⟨t6, fun x hx => is_true ⟨by have a := dep_cell hx 8; have b := dep_cell hx 9; omega, typed_list ((typed_elem t6 hx).2 6 (by decide)), typed_list ((typed_elem t6 hx).2 7 (by decide)), typed_list ((typed_elem t6 hx).2 8 (by decide)), typed_list ((typed_elem t6 hx).2 9 (by decide))⟩⟩) ?_
  refine andT (by exact is_true ⟨t7, fun x hx => is_true ⟨by have a := dep_cell hx 6; have b := dep_cell hx 7; omega, typed_list ((typed_elem t7 hx).2 4 (by decide)), typed_list ((typed_elem t7 hx).2 5 (by decide)), typed_list ((typed_elem t7 hx).2 6 (by decide)), typed_list ((typed_elem t7 hx).2 7 (by decide))⟩⟩) ?_
  rfl
theorem laws_toType_nxr (x0 x1 : Int) (x2 x3 : Bool) (x4 x5 x6 x7 : List (List TC)) (x8 : Int) : laws_toType_rc (i_laws_toType := ⟨laws_toType_O.n + 1⟩) x0 x1 x2 x3 x4 x5 x6 x7 x8 = true → (laws_toType_c x0 x1 x2 x3 x4 x5 x6 x7 x8) = true ∧ (laws_toType_v x0 x1 x2 x3 x4 x5 x6 x7 x8) = (laws_toType_rv x0 x1 x2 x3 x4 x5 x6 x7 x8) := fun h => laws_toType_nx x0 x1 x2 x3 x4 x5 x6 x7 x8 h
theorem laws_toType_rs : ∀ xs r, laws_toType_rS (i_laws_toType := ⟨laws_toType_O.n + 1⟩) xs = some (true, r) → runF tab FT D12 live 12 noLoops xs = some r := by
  intro xs r h
  unfold laws_toType_rS at h
  split at h
  · simp only [Option.some.injEq, Prod.mk.injEq] at h
    obtain ⟨h1, rfl⟩ := h
    have hx := laws_toType_nxr _ _ _ _ _ _ _ _ _ h1
    have ht := fun_told (laws_toType_e _ _ _ _ _ _ _ _ _) (laws_toType_l _ _ _ _ _ _ _ _ _) hx.1
    rw [hx.2] at ht
    exact ht
  · cases h
theorem laws_toType_step : laws_toType_G (i_laws_toType := ⟨laws_toType_O.n + 1⟩) := by
  have h := DOk.also2 (S := laws_toType_rS (i_laws_toType := ⟨laws_toType_O.n + 1⟩)) mixed_ok tab_ok names_ok d8 d12 noLoops_ok laws_toType_rs
  refine laws_toType_G.mk (i_laws_toType := ⟨laws_toType_O.n + 1⟩) ?_
  exact h
/-! spec_l02Size calls itself -/
section
class spec_l02Size_O where n : Nat
variable [i_spec_l02Size : spec_l02Size_O]
noncomputable def spec_l02Size_rc (k s : Int) (sg bg : Bool) (NA NU ME BA : List (List TC)) (ct : Int) : Bool := is (rowsDep BA < spec_l02Size_O.n ∧ sizeC k BA = true)
noncomputable def spec_l02Size_rv (k s : Int) (sg bg : Bool) (NA NU ME BA : List (List TC)) (ct : Int) : Int := sizeV k s BA ct
def spec_l02Size_rmk (p : Int) : Res := [(false, [⟨.int .i64, .sh, TC.i p⟩])]
noncomputable def spec_l02Size_rS : List Arg → Option (Bool × Res) := fun xs => match xs with
  | [(true, [(.int .i64, TC.i k), (.int .i64, TC.i s), (.bool, TC.b sg), (.bool, TC.b bg), (.slice 9, TC.l NA), (.slice 2, TC.l NU), (.slice 77, TC.l ME), (.slice 32, TC.l BA), (.int .i64, TC.i ct)])] => some ((spec_l02Size_rc k s sg bg NA NU ME BA ct), spec_l02Size_rmk (spec_l02Size_rv k s sg bg NA NU ME BA ct))
  | _ => .none
noncomputable def D13 : Dt := also D12 76 spec_l02Size_rS
class spec_l02Size_G : Prop where ok : DOk Go.Proofs.Try.prog tab D13
variable [g_spec_l02Size : spec_l02Size_G]
theorem d13 : DOk Go.Proofs.Try.prog tab D13 := spec_l02Size_G.ok
/-! spec_l02Size -/
noncomputable def spec_l02Size_t (k s : Int) (sg bg : Bool) (NA NU ME BA : List (List TC)) (ct : Int) : Tr (Int) := (.ite ((k == (3 : Int)) = true) (.ite ((0 : Int) ≤ (0 : Int) ∧ (0 : Int) < (BA.length : Int)) (.ok ((nth (row BA (0 : Int)) 1).int))
   .no)
  (.ite ((k == (5 : Int)) = true) (.ite ((0 : Int) ≤ (0 : Int) ∧ (0 : Int) < (BA.length : Int)) (.ite ((spec_l02Size_rc ((nth (row BA (0 : Int)) 0).int) ((nth (row BA (0 : Int)) 1).int) ((nth (row BA (0 : Int)) 2).bool) ((nth (row BA (0 : Int)) 3).bool) ((nth (row BA (0 : Int)) 4).list) ((nth (row BA (0 : Int)) 5).list) ((nth (row BA (0 : Int)) 6).list) ((nth (row BA (0 : Int)) 7).list) ((nth (row BA (0 : Int)) 8).int)) = true) (.ok (IntKind.wrap .i64 (ct * (spec_l02Size_rv ((nth (row BA (0 : Int)) 0).int) ((nth (row BA (0 : Int)) 1).int) ((nth (row BA (0 : Int)) 2).bool) ((nth (row BA (0 : Int)) 3).bool) ((nth (row BA (0 : Int)) 4).list) ((nth (row BA (0 : Int)) 5).list) ((nth (row BA (0 : Int)) 6).list) ((nth (row BA (0 : Int)) 7).list) ((nth (row BA (0 : Int)) 8).int)))))
     .no)
    .no)
   (.ok s)))
def spec_l02Size_mk (p : Int) : Res := [(false, [⟨.int .i64, .sh, TC.i p⟩])]
noncomputable def spec_l02Size_c (k s : Int) (sg bg : Bool) (NA NU ME BA : List (List TC)) (ct : Int) : Bool := (bif (k == (3 : Int)) then (is ((0 : Int) ≤ (0 : Int) ∧ (0 : Int) < (BA.length : Int)) && true) else (bif (k == (5 : Int)) then (is ((0 : Int) ≤ (0 : Int) ∧ (0 : Int) < (BA.length : Int)) && ((spec_l02Size_rc ((nth (row BA (0 : Int)) 0).int) ((nth (row BA (0 : Int)) 1).int) ((nth (row BA (0 : Int)) 2).bool) ((nth (row BA (0 : Int)) 3).bool) ((nth (row BA (0 : Int)) 4).list) ((nth (row BA (0 : Int)) 5).list) ((nth (row BA (0 : Int)) 6).list) ((nth (row BA (0 : Int)) 7).list) ((nth (row BA (0 : Int)) 8).int)) && true)) else true))
noncomputable def spec_l02Size_v (k s : Int) (sg bg : Bool) (NA NU ME BA : List (List TC)) (ct : Int) : Int := (bif (k == (3 : Int)) then (nth (row BA (0 : Int)) 1).int else (bif (k == (5 : Int)) then (IntKind.wrap .i64 (ct * (spec_l02Size_rv ((nth (row BA (0 : Int)) 0).int) ((nth (row BA (0 : Int)) 1).int) ((nth (row BA (0 : Int)) 2).bool) ((nth (row BA (0 : Int)) 3).bool) ((nth (row BA (0 : Int)) 4).list) ((nth (row BA (0 : Int)) 5).list) ((nth (row BA (0 : Int)) 6).list) ((nth (row BA (0 : Int)) 7).list) ((nth (row BA (0 : Int)) 8).int)))) else s))
theorem spec_l02Size_l (k s : Int) (sg bg : Bool) (NA NU ME BA : List (List TC)) (ct : Int) : (spec_l02Size_c k s sg bg NA NU ME BA ct) = true → (spec_l02Size_t k s sg bg NA NU ME BA ct).val = some (spec_l02Size_v k s sg bg NA NU ME BA ct) := by
  unfold spec_l02Size_t spec_l02Size_v spec_l02Size_c
  exact fun h => (Tr.ss h (fun h => (Tr.gs h fun h => rfl)) (fun h => (Tr.ss h (fun h => (Tr.gs h fun h => (Tr.gb h fun h => rfl))) (fun h => rfl))))
noncomputable def spec_l02Size_S : List Arg → Option (Bool × Res) := fun xs => match xs with
  | [(true, [(.int .i64, TC.i k), (.int .i64, TC.i s), (.bool, TC.b sg), (.bool, TC.b bg), (.slice 9, TC.l NA), (.slice 2, TC.l NU), (.slice 77, TC.l ME), (.slice 32, TC.l BA), (.int .i64, TC.i ct)])] => some ((spec_l02Size_c k s sg bg NA NU ME BA ct), spec_l02Size_mk (spec_l02Size_v k s sg bg NA NU ME BA ct))
  | _ => .none
theorem spec_l02Size_e (k s : Int) (sg bg : Bool) (NA NU ME BA : List (List TC)) (ct : Int) : runF tab FT D13 live 76 noLoops [(true, [(.int .i64, TC.i k), (.int .i64, TC.i s), (.bool, TC.b sg), (.bool, TC.b bg), (.slice 9, TC.l NA), (.slice 2, TC.l NU), (.slice 77, TC.l ME), (.slice 32, TC.l BA), (.int .i64, TC.i ct)])] = (spec_l02Size_t k s sg bg NA NU ME BA ct).run fun p => some (spec_l02Size_mk p) := by kernel_rfl
theorem spec_l02Size_s : ∀ xs r, spec_l02Size_S xs = some (true, r) → runF tab FT D13 live 76 noLoops xs = some r := by
  intro xs r h
  unfold spec_l02Size_S at h
  split at h
  · simp only [Option.some.injEq, Prod.mk.injEq] at h
    obtain ⟨h1, rfl⟩ := h
    exact fun_told (spec_l02Size_e _ _ _ _ _ _ _ _ _) (spec_l02Size_l _ _ _ _ _ _ _ _ _) h1
  · cases h
theorem spec_l02Size_nx (k s : Int) (sg bg : Bool) (NA NU ME BA : List (List TC)) (ct : Int) : is (rowsDep BA < spec_l02Size_O.n + 1 ∧ sizeC k BA = true) = true → (spec_l02Size_c k s sg bg NA NU ME BA ct) = true ∧ (spec_l02Size_v k s sg bg NA NU ME BA ct) = sizeV k s BA ct := by
  intro h
  obtain ⟨hM, hC⟩ := is_iff.1 h
  unfold spec_l02Size_c spec_l02Size_v
  rw [sizeC] at hC
  rw [sizeV]
  cases h3 : (k == 3) with
  | true =>
    simp only [h3, cond_true, decide_eq_true_eq] at hC
    exact ⟨andT (is_true (by constructor <;> omega)) rfl, rfl⟩
  | false =>
    cases h5 : (k == 5) with
    | true =>
      simp only [h3, h5, cond_true, cond_false] at hC ⊢
      split at hC
      · rename_i hb
        rw [dif_pos hb]
        have := pos_row hb 7
        exact ⟨andT (is_true (by constructor <;> omega)) (andT (is_true ⟨by omega, hC⟩) rfl), rfl⟩
      · cases hC
    | false => exact ⟨rfl, rfl⟩
theorem spec_l02Size_nxr (k s : Int) (sg bg : Bool) (NA NU ME BA : List (List TC)) (ct : Int) : spec_l02Size_rc (i_spec_l02Size := ⟨spec_l02Size_O.n + 1⟩) k s sg bg NA NU ME BA ct = true → (spec_l02Size_c k s sg bg NA NU ME BA ct) = true ∧ (spec_l02Size_v k s sg bg NA NU ME BA ct) = (spec_l02Size_rv k s sg bg NA NU ME BA ct) := fun h => spec_l02Size_nx k s sg bg NA NU ME BA ct h
theorem spec_l02Size_rs : ∀ xs r, spec_l02Size_rS (i_spec_l02Size := ⟨spec_l02Size_O.n + 1⟩) xs = some (true, r) → runF tab FT D13 live 76 noLoops xs = some r := by
  intro xs r h
  unfold spec_l02Size_rS at h
  split at h
  · simp only [Option.some.injEq, Prod.mk.injEq] at h
    obtain ⟨h1, rfl⟩ := h
    have hx := spec_l02Size_nxr _ _ _ _ _ _ _ _ _ h1
    have ht := fun_told (spec_l02Size_e _ _ _ _ _ _ _ _ _) (spec_l02Size_l _ _ _ _ _ _ _ _ _) hx.1
    rw [hx.2] at ht
    exact ht
  · cases h
theorem spec_l02Size_step : spec_l02Size_G (i_spec_l02Size := ⟨spec_l02Size_O.n + 1⟩) := by
  have h := DOk.also2 (S := spec_l02Size_rS (i_spec_l02Size := ⟨spec_l02Size_O.n + 1⟩)) mixed_ok tab_ok names_ok d12 d13 noLoops_ok spec_l02Size_rs
  refine spec_l02Size_G.mk (i_spec_l02Size := ⟨spec_l02Size_O.n + 1⟩) ?_
  exact h
/-! spec_l02Depth calls itself -/
section
class spec_l02Depth_O where n : Nat
variable [i_spec_l02Depth : spec_l02Depth_O]
noncomputable def spec_l02Depth_rc (k s : Int) (sg bg : Bool) (NA NU ME BA : List (List TC)) (ct : Int) : Bool := is (max (rowsDep ME) (rowsDep BA) < spec_l02Depth_O.n ∧ depthC k ME BA = true ∧ Typed tab (.slice 77) (.l ME) ∧ Typed tab (.slice 32) (.l BA))
noncomputable def spec_l02Depth_rv (k s : Int) (sg bg : Bool) (NA NU ME BA : List (List TC)) (ct : Int) : Int := depthV k ME BA
def spec_l02Depth_rmk (p : Int) : Res := [(false, [⟨.int .i64, .sh, TC.i p⟩])]
noncomputable def spec_l02Depth_rS : List Arg → Option (Bool × Res) := fun xs => match xs with
  | [(true, [(.int .i64, TC.i k), (.int .i64, TC.i s), (.bool, TC.b sg), (.bool, TC.b bg), (.slice 9, TC.l NA), (.slice 2, TC.l NU), (.slice 77, TC.l ME), (.slice 32, TC.l BA), (.int .i64, TC.i ct)])] => some ((spec_l02Depth_rc k s sg bg NA NU ME BA ct), spec_l02Depth_rmk (spec_l02Depth_rv k s sg bg NA NU ME BA ct))
  | _ => .none
noncomputable def D14 : Dt := also D13 77 spec_l02Depth_rS
class spec_l02Depth_G : Prop where ok : DOk Go.Proofs.Try.prog tab D14
variable [g_spec_l02Depth : spec_l02Depth_G]
theorem d14 : DOk Go.Proofs.Try.prog tab D14 := spec_l02Depth_G.ok
/-! spec_l00Max -/
noncomputable def spec_l00Max_t (a0 a1 : Int) : Tr (Int) := (.ite ((decide (a0 > a1)) = true) (.ok a0)
  (.ok a1))
def spec_l00Max_mk (p : Int) : Res := [(false, [⟨.int .i64, .sh, TC.i p⟩])]
noncomputable def spec_l00Max_c (a0 a1 : Int) : Bool := true
noncomputable def spec_l00Max_v (a0 a1 : Int) : Int := (bif (decide (a0 > a1)) then a0 else a1)
theorem spec_l00Max_l (a0 a1 : Int) : (spec_l00Max_c a0 a1) = true → (spec_l00Max_t a0 a1).val = some (spec_l00Max_v a0 a1) := by
  intro h
  skip
  unfold spec_l00Max_t spec_l00Max_v
  exact (Tr.s rfl rfl)
noncomputable def spec_l00Max_S : List Arg → Option (Bool × Res) := fun xs => match xs with
  | [(false, [(.int .i64, TC.i a0)]), (false, [(.int .i64, TC.i a1)])] => some (true, spec_l00Max_mk (spec_l00Max_v a0 a1))
  | _ => .none
theorem spec_l00Max_e (a0 a1 : Int) : runF tab FT D14 live 100 noLoops [(false, [(.int .i64, TC.i a0)]), (false, [(.int .i64, TC.i a1)])] = (spec_l00Max_t a0 a1).run fun p => some (spec_l00Max_mk p) := by kernel_rfl
theorem spec_l00Max_s : ∀ xs r, spec_l00Max_S xs = some (true, r) → runF tab FT D14 live 100 noLoops xs = some r := by
  intro xs r h
  unfold spec_l00Max_S at h
  split at h
  · simp only [Option.some.injEq, Prod.mk.injEq] at h
    obtain ⟨h1, rfl⟩ := h
    exact fun_told (spec_l00Max_e _ _) (spec_l00Max_l _ _) rfl
  · cases h
noncomputable def D15 : Dt := also D14 100 spec_l00Max_S
theorem d15 : DOk Go.Proofs.Try.prog tab D15 := d14.also mixed_ok tab_ok names_ok noLoops_ok spec_l00Max_s
/-! spec_l02Depth -/
noncomputable def spec_l02Depth_f5 (k s : Int) (sg bg : Bool) (NA NU ME BA : List (List TC)) (ct i d : Int) : (Int) ⊕ ((Int)) := (.inl (spec_l00Max_v d (spec_l02Depth_rv ((nth (row ME i) 2).int) ((nth (row ME i) 3).int) ((nth (row ME i) 4).bool) ((nth (row ME i) 5).bool) ((nth (row ME i) 6).list) ((nth (row ME i) 7).list) ((nth (row ME i) 8).list) ((nth (row ME i) 9).list) ((nth (row ME i) 10).int))))
noncomputable def spec_l02Depth_e5 (k s : Int) (sg bg : Bool) (NA NU ME BA : List (List TC)) (ct d : Int) : (Int) := d
noncomputable def spec_l02Depth_R5 (k s : Int) (sg bg : Bool) (NA NU ME BA : List (List TC)) (ct d i : Int) : (Int) := iter (fun i a => (spec_l02Depth_f5 k s sg bg NA NU ME BA ct (i : Int) a)) (fun a => (spec_l02Depth_e5 k s sg bg NA NU ME BA ct a)) (ME.length) 0 d
abbrev spec_l02Depth_5_σ := Int × Int × Bool × Bool × List (List TC) × List (List TC) × List (List TC) × List (List TC) × Int × Int × Int
abbrev spec_l02Depth_5_ω := (Int)
noncomputable def spec_l02Depth_5_step (k s : Int) (sg bg : Bool) (NA NU ME BA : List (List TC)) (ct d i : Int) : Tr (spec_l02Depth_5_σ ⊕ spec_l02Depth_5_ω) := (.ite ((decide (i < (ME.length : Int))) = true) (.ite ((0 : Int) ≤ i ∧ i < (ME.length : Int)) (.ite ((spec_l02Depth_rc ((nth (row ME i) 2).int) ((nth (row ME i) 3).int) ((nth (row ME i) 4).bool) ((nth (row ME i) 5).bool) ((nth (row ME i) 6).list) ((nth (row ME i) 7).list) ((nth (row ME i) 8).list) ((nth (row ME i) 9).list) ((nth (row ME i) 10).int)) = true) (.ok (.inl (k, s, sg, bg, NA, NU, ME, BA, ct, (spec_l00Max_v d (spec_l02Depth_rv ((nth (row ME i) 2).int) ((nth (row ME i) 3).int) ((nth (row ME i) 4).bool) ((nth (row ME i) 5).bool) ((nth (row ME i) 6).list) ((nth (row ME i) 7).list) ((nth (row ME i) 8).list) ((nth (row ME i) 9).list) ((nth (row ME i) 10).int))), (IntKind.wrap .i64 (i + (1 : Int))))))
    .no)
   .no)
  (.ok (.inr d)))
noncomputable def spec_l02Depth_5_st : spec_l02Depth_5_σ → Tr (spec_l02Depth_5_σ ⊕ spec_l02Depth_5_ω) := fun x => (spec_l02Depth_5_step (x.1) (x.2.1) (x.2.2.1) (x.2.2.2.1) (x.2.2.2.2.1) (x.2.2.2.2.2.1) (x.2.2.2.2.2.2.1) (x.2.2.2.2.2.2.2.1) (x.2.2.2.2.2.2.2.2.1) (x.2.2.2.2.2.2.2.2.2.1) (x.2.2.2.2.2.2.2.2.2.2))
noncomputable def spec_l02Depth_o5_1 (k s : Int) (sg bg : Bool) (NA NU ME BA : List (List TC)) (ct d i : Int) : Bool := is (i = 0 ∧ ME.length ≤ 140737488355328 ∧ (∀ x : List TC, x ∈ ME → spec_l02Depth_rc (nth x 2).int (nth x 3).int (nth x 4).bool (nth x 5).bool (nth x 6).list (nth x 7).list (nth x 8).list (nth x 9).list (nth x 10).int = true))
noncomputable def spec_l02Depth_u5_1 (k s : Int) (sg bg : Bool) (NA NU ME BA : List (List TC)) (ct d i : Int) : Int := (spec_l02Depth_R5 k s sg bg NA NU ME BA ct d i)
noncomputable def spec_l02Depth_5_fin (k s : Int) (sg bg : Bool) (NA NU ME BA : List (List TC)) (ct d i : Int) : Told spec_l02Depth_5_ω := (.leaf (spec_l02Depth_o5_1 k s sg bg NA NU ME BA ct d i) (spec_l02Depth_u5_1 k s sg bg NA NU ME BA ct d i))
def spec_l02Depth_5_sl (x : spec_l02Depth_5_σ) : List Slot := [⟨.bx 32 [⟨.int .i64, .sh, TC.i (x.1)⟩, ⟨.int .i64, .sh, TC.i (x.2.1)⟩, ⟨.bool, .sh, TC.b (x.2.2.1)⟩, ⟨.bool, .sh, TC.b (x.2.2.2.1)⟩, ⟨.slice 9, .sh, TC.l (x.2.2.2.2.1)⟩, ⟨.slice 2, .sh, TC.l (x.2.2.2.2.2.1)⟩, ⟨.slice 77, .sh, TC.l (x.2.2.2.2.2.2.1)⟩, ⟨.slice 32, .sh, TC.l (x.2.2.2.2.2.2.2.1)⟩, ⟨.int .i64, .sh, TC.i (x.2.2.2.2.2.2.2.2.1)⟩], ⟨0, 0⟩⟩, ⟨.val false [⟨.int .i64, .sh, TC.i (x.2.2.2.2.2.2.2.2.2.1)⟩], ⟨0, 0⟩⟩, ⟨.val false [⟨.int .i64, .sh, TC.i (x.2.2.2.2.2.2.2.2.2.2)⟩], ⟨0, 0⟩⟩]
def spec_l02Depth_5_out : spec_l02Depth_5_ω → Ex × List Slot := (fun x => (.exit 1, [Slot.none, ⟨.val false [⟨.int .i64, .sh, TC.i x⟩], ⟨0, 0⟩⟩]))
noncomputable def spec_l02Depth_lo5 : List Slot → Option (Told (Ex × List Slot)) := fun s => match s with
  | [⟨.bx 32 [⟨.int .i64, .sh, TC.i k⟩, ⟨.int .i64, .sh, TC.i s⟩, ⟨.bool, .sh, TC.b sg⟩, ⟨.bool, .sh, TC.b bg⟩, ⟨.slice 9, .sh, TC.l NA⟩, ⟨.slice 2, .sh, TC.l NU⟩, ⟨.slice 77, .sh, TC.l ME⟩, ⟨.slice 32, .sh, TC.l BA⟩, ⟨.int .i64, .sh, TC.i ct⟩], ⟨0, 0⟩⟩, ⟨.val false [⟨.int .i64, .sh, TC.i d⟩], ⟨0, 0⟩⟩, ⟨.val false [⟨.int .i64, .sh, TC.i i⟩], ⟨0, 0⟩⟩] => some (((spec_l02Depth_5_fin k s sg bg NA NU ME BA ct d i)).map spec_l02Depth_5_out)
  | _ => .none
noncomputable def spec_l02Depth_lo : LoopTeller := fun r s => bif Nat.beq r 5 then spec_l02Depth_lo5 s else .none
theorem spec_l02Depth_5_r (k s : Int) (sg bg : Bool) (NA NU ME BA : List (List TC)) (ct d i : Int) (fuel : Nat) : rounds (rnd tab FT D15 live 77 spec_l02Depth_lo 0 5) leave (fuel + 1) (spec_l02Depth_5_sl (k, s, sg, bg, NA, NU, ME, BA, ct, d, i)) = ((spec_l02Depth_5_step k s sg bg NA NU ME BA ct d i)).run (goOn (fun s => rounds (rnd tab FT D15 live 77 spec_l02Depth_lo 0 5) leave fuel (spec_l02Depth_5_sl s)) fun w => some (spec_l02Depth_5_out w)) := by kernel_rfl
theorem spec_l02Depth_R5_eq (k s : Int) (sg bg : Bool) (NA NU ME BA : List (List TC)) (ct d : Int) : spec_l02Depth_R5 k s sg bg NA NU ME BA ct d 0 = ME.foldl (fun d x => maxI d (depthV (nth x 2).int (nth x 8).list (nth x 9).list)) d := by
  unfold spec_l02Depth_R5
  rw [← foldI_rows (g := fun d x => maxI d (depthV (nth x 2).int (nth x 8).list (nth x 9).list))]
  exact iter_each (g := fun i d => maxI d (depthV (nth (row ME (i : Int)) 2).int (nth (row ME (i : Int)) 8).list (nth (row ME (i : Int)) 9).list)) (fin := fun a => spec_l02Depth_e5 k s sg bg NA NU ME BA ct a) fun j a hj => rfl
theorem spec_l02Depth_5_h (k s : Int) (sg bg : Bool) (NA NU ME BA : List (List TC)) (ct d i : Int) (ow : spec_l02Depth_5_ω) : ((spec_l02Depth_5_fin k s sg bg NA NU ME BA ct d i)).val = some ow → ∃ fuel, loopN spec_l02Depth_5_st fuel (k, s, sg, bg, NA, NU, ME, BA, ct, d, i) = some ow := by
  refine auto_leaf (R := (spec_l02Depth_R5 k s sg bg NA NU ME BA ct d i)) ?_
  intro ho
  have ho : is (i = 0 ∧ ME.length ≤ 140737488355328 ∧ (∀ x : List TC, x ∈ ME → spec_l02Depth_rc (nth x 2).int (nth x 3).int (nth x 4).bool (nth x 5).bool (nth x 6).list (nth x 7).list (nth x 8).list (nth x 9).list (nth x 10).int = true)) = true := ho
  obtain ⟨rfl, hl, hr⟩ := is_iff.1 ho
  skip
  refine ⟨(ME.length) + 1, ?_⟩
  refine iter_loop (step := spec_l02Depth_5_st) (ME.length) (fun i a => (spec_l02Depth_f5 k s sg bg NA NU ME BA ct (i : Int) a)) (fun a => (spec_l02Depth_e5 k s sg bg NA NU ME BA ct a)) (fun i a => (k, s, sg, bg, NA, NU, ME, BA, ct, a, (i : Int))) (fun _ _ => True) trivial (fun i a hi hI => ⟨?_, fun _ _ => trivial⟩) (fun a hI => ?_)
  · show (spec_l02Depth_5_step k s sg bg NA NU ME BA ct a (i : Int)).val = _
    unfold spec_l02Depth_5_step spec_l02Depth_f5
    skip
    refine Tr.t (by simp; omega) ?_
    exact (Tr.t (by first | omega | (constructor <;> omega) | (exact hr _ (mem_getD (by omega)))) (Tr.t (by first | omega | (constructor <;> omega) | (exact hr _ (mem_getD (by omega)))) (by rw [Tr.val_ok, wrap64 (i := (i : Int) + 1) (by omega) (by omega)]; rfl)))
  · show (spec_l02Depth_5_step k s sg bg NA NU ME BA ct a (ME.length : Int)).val = _
    refine Tr.n (by first | (simp; done) | (simp; omega) | omega) ?_
    rfl
theorem spec_l02Depth_is5 : LoopIs tab FT D15 live 77 spec_l02Depth_lo 0 5 := by
  refine loop_told (sl := spec_l02Depth_5_sl) (step := spec_l02Depth_5_st) (out := spec_l02Depth_5_out) (lor := spec_l02Depth_lo5) (fin := fun x => (spec_l02Depth_5_fin (x.1) (x.2.1) (x.2.2.1) (x.2.2.2.1) (x.2.2.2.2.1) (x.2.2.2.2.2.1) (x.2.2.2.2.2.2.1) (x.2.2.2.2.2.2.2.1) (x.2.2.2.2.2.2.2.2.1) (x.2.2.2.2.2.2.2.2.2.1) (x.2.2.2.2.2.2.2.2.2.2))) (fun _ => rfl) ?_ (fun x n => spec_l02Depth_5_r x.1 x.2.1 x.2.2.1 x.2.2.2.1 x.2.2.2.2.1 x.2.2.2.2.2.1 x.2.2.2.2.2.2.1 x.2.2.2.2.2.2.2.1 x.2.2.2.2.2.2.2.2.1 x.2.2.2.2.2.2.2.2.2.1 x.2.2.2.2.2.2.2.2.2.2 n) (fun x ow => spec_l02Depth_5_h x.1 x.2.1 x.2.2.1 x.2.2.2.1 x.2.2.2.2.1 x.2.2.2.2.2.1 x.2.2.2.2.2.2.1 x.2.2.2.2.2.2.2.1 x.2.2.2.2.2.2.2.2.1 x.2.2.2.2.2.2.2.2.2.1 x.2.2.2.2.2.2.2.2.2.2 ow)
  intro s t h
  unfold spec_l02Depth_lo5 at h
  split at h
  · cases h; exact ⟨(_, _, _, _, _, _, _, _, _, _, _), rfl, rfl⟩
  · cases h
noncomputable def spec_l02Depth_t (k s : Int) (sg bg : Bool) (NA NU ME BA : List (List TC)) (ct : Int) : Tr (Int) := (.ite ((k == (4 : Int)) = true) (.ite ((spec_l02Depth_o5_1 k s sg bg NA NU ME BA ct (0 : Int) (0 : Int)) = true) (.ok (IntKind.wrap .i64 ((spec_l02Depth_u5_1 k s sg bg NA NU ME BA ct (0 : Int) (0 : Int)) + (1 : Int))))
   .no)
  (.ite ((k == (5 : Int)) = true) (.ite ((0 : Int) ≤ (0 : Int) ∧ (0 : Int) < (BA.length : Int)) (.ite ((spec_l02Depth_rc ((nth (row BA (0 : Int)) 0).int) ((nth (row BA (0 : Int)) 1).int) ((nth (row BA (0 : Int)) 2).bool) ((nth (row BA (0 : Int)) 3).bool) ((nth (row BA (0 : Int)) 4).list) ((nth (row BA (0 : Int)) 5).list) ((nth (row BA (0 : Int)) 6).list) ((nth (row BA (0 : Int)) 7).list) ((nth (row BA (0 : Int)) 8).int)) = true) (.ok (IntKind.wrap .i64 ((spec_l02Depth_rv ((nth (row BA (0 : Int)) 0).int) ((nth (row BA (0 : Int)) 1).int) ((nth (row BA (0 : Int)) 2).bool) ((nth (row BA (0 : Int)) 3).bool) ((nth (row BA (0 : Int)) 4).list) ((nth (row BA (0 : Int)) 5).list) ((nth (row BA (0 : Int)) 6).list) ((nth (row BA (0 : Int)) 7).list) ((nth (row BA (0 : Int)) 8).int)) + (1 : Int))))
     .no)
    .no)
   (.ok (1 : Int))))
def spec_l02Depth_mk (p : Int) : Res := [(false, [⟨.int .i64, .sh, TC.i p⟩])]
noncomputable def spec_l02Depth_c (k s : Int) (sg bg : Bool) (NA NU ME BA : List (List TC)) (ct : Int) : Bool := (bif (k == (4 : Int)) then ((spec_l02Depth_o5_1 k s sg bg NA NU ME BA ct (0 : Int) (0 : Int)) && true) else (bif (k == (5 : Int)) then (is ((0 : Int) ≤ (0 : Int) ∧ (0 : Int) < (BA.length : Int)) && ((spec_l02Depth_rc ((nth (row BA (0 : Int)) 0).int) ((nth (row BA (0 : Int)) 1).int) ((nth (row BA (0 : Int)) 2).bool) ((nth (row BA (0 : Int)) 3).bool) ((nth (row BA (0 : Int)) 4).list) ((nth (row BA (0 : Int)) 5).list) ((nth (row BA (0 : Int)) 6).list) ((nth (row BA (0 : Int)) 7).list) ((nth (row BA (0 : Int)) 8).int)) && true)) else true))
noncomputable def spec_l02Depth_v (k s : Int) (sg bg : Bool) (NA NU ME BA : List (List TC)) (ct : Int) : Int := (bif (k == (4 : Int)) then (IntKind.wrap .i64 ((spec_l02Depth_u5_1 k s sg bg NA NU ME BA ct (0 : Int) (0 : Int)) + (1 : Int))) else (bif (k == (5 : Int)) then (IntKind.wrap .i64 ((spec_l02Depth_rv ((nth (row BA (0 : Int)) 0).int) ((nth (row BA (0 : Int)) 1).int) ((nth (row BA (0 : Int)) 2).bool) ((nth (row BA (0 : Int)) 3).bool) ((nth (row BA (0 : Int)) 4).list) ((nth (row BA (0 : Int)) 5).list) ((nth (row BA (0 : Int)) 6).list) ((nth (row BA (0 : Int)) 7).list) ((nth (row BA (0 : Int)) 8).int)) + (1 : Int))) else (1 : Int)))
theorem spec_l02Depth_l (k s : Int) (sg bg : Bool) (NA NU ME BA : List (List TC)) (ct : Int) : (spec_l02Depth_c k s sg bg NA NU ME BA ct) = true → (spec_l02Depth_t k s sg bg NA NU ME BA ct).val = some (spec_l02Depth_v k s sg bg NA NU ME BA ct) := by
  unfold spec_l02Depth_t spec_l02Depth_v spec_l02Depth_c
  exact fun h => (Tr.ss h (fun h => (Tr.gb h fun h => rfl)) (fun h => (Tr.ss h (fun h => (Tr.gs h fun h => (Tr.gb h fun h => rfl))) (fun h => rfl))))
noncomputable def spec_l02Depth_S : List Arg → Option (Bool × Res) := fun xs => match xs with
  | [(true, [(.int .i64, TC.i k), (.int .i64, TC.i s), (.bool, TC.b sg), (.bool, TC.b bg), (.slice 9, TC.l NA), (.slice 2, TC.l NU), (.slice 77, TC.l ME), (.slice 32, TC.l BA), (.int .i64, TC.i ct)])] => some ((spec_l02Depth_c k s sg bg NA NU ME BA ct), spec_l02Depth_mk (spec_l02Depth_v k s sg bg NA NU ME BA ct))
  | _ => .none
theorem spec_l02Depth_e (k s : Int) (sg bg : Bool) (NA NU ME BA : List (List TC)) (ct : Int) : runF tab FT D15 live 77 spec_l02Depth_lo [(true, [(.int .i64, TC.i k), (.int .i64, TC.i s), (.bool, TC.b sg), (.bool, TC.b bg), (.slice 9, TC.l NA), (.slice 2, TC.l NU), (.slice 77, TC.l ME), (.slice 32, TC.l BA), (.int .i64, TC.i ct)])] = (spec_l02Depth_t k s sg bg NA NU ME BA ct).run fun p => some (spec_l02Depth_mk p) := by kernel_rfl
theorem spec_l02Depth_s : ∀ xs r, spec_l02Depth_S xs = some (true, r) → runF tab FT D15 live 77 spec_l02Depth_lo xs = some r := by
  intro xs r h
  unfold spec_l02Depth_S at h
  split at h
  · simp only [Option.some.injEq, Prod.mk.injEq] at h
    obtain ⟨h1, rfl⟩ := h
    exact fun_told (spec_l02Depth_e _ _ _ _ _ _ _ _ _) (spec_l02Depth_l _ _ _ _ _ _ _ _ _) h1
  · cases h
theorem spec_l02Depth_nx (k s : Int) (sg bg : Bool) (NA NU ME BA : List (List TC)) (ct : Int) : is (max (rowsDep ME) (rowsDep BA) < spec_l02Depth_O.n + 1 ∧ depthC k ME BA = true ∧ Typed tab (.slice 77) (.l ME) ∧ Typed tab (.slice 32) (.l BA)) = true → (spec_l02Depth_c k s sg bg NA NU ME BA ct) = true ∧ (spec_l02Depth_v k s sg bg NA NU ME BA ct) = depthV k ME BA := by
  intro h
  obtain ⟨hM, hC, tM, tB⟩ := is_iff.1 h
  unfold spec_l02Depth_c spec_l02Depth_v
  rw [depthC] at hC
  rw [depthV]
  cases h4 : (k == 4) with
  | true =>
    simp only [h4, cond_true] at hC ⊢
    rw [attach_all (p := fun x => depthC (nth x 2).int (nth x 8).list (nth x 9).list), List.all_eq_true] at hC
    have hlen : ME.length ≤ 140737488351232 := by have := typed_room tM; simp only [show (tab 77).bytes = 152 from rfl] at this; omega
    refine ⟨andT (is_true ⟨rfl, by omega, fun x hx => is_true ⟨Nat.lt_of_lt_of_le (dep_max (BA := BA) hx 8 9) (by omega), hC x hx, typed_list ((typed_elem tM hx).2 8 (by decide)), typed_list ((typed_elem tM hx).2 9 (by decide))⟩⟩) rfl, ?_⟩
    show IntKind.wrap .i64 (spec_l02Depth_R5 k s sg bg NA NU ME BA ct 0 0 + 1) = _
    rw [spec_l02Depth_R5_eq, attach_foldl (f := fun d x => maxI d (depthV (nth x 2).int (nth x 8).list (nth x 9).list))]
  | false =>
    cases h5 : (k == 5) with
    | true =>
      simp only [h4, h5, cond_true, cond_false] at hC ⊢
      split at hC
      · rename_i hb
        rw [dif_pos hb]
        have := dep_base (ME := ME) hb 6 7
        exact ⟨andT (is_true (by constructor <;> omega)) (andT (is_true ⟨by omega, hC, typed_list ((typed_elem tB (mem_getD (i := 0) hb)).2 6 (by decide)), typed_list ((typed_elem tB (mem_getD (i := 0) hb)).2 7 (by decide))⟩) rfl), rfl⟩
      · cases hC
    | false => exact ⟨rfl, rfl⟩
theorem spec_l02Depth_nxr (k s : Int) (sg bg : Bool) (NA NU ME BA : List (List TC)) (ct : Int) : spec_l02Depth_rc (i_spec_l02Depth := ⟨spec_l02Depth_O.n + 1⟩) k s sg bg NA NU ME BA ct = true → (spec_l02Depth_c k s sg bg NA NU ME BA ct) = true ∧ (spec_l02Depth_v k s sg bg NA NU ME BA ct) = (spec_l02Depth_rv k s sg bg NA NU ME BA ct) := fun h => spec_l02Depth_nx k s sg bg NA NU ME BA ct h
theorem spec_l02Depth_rs : ∀ xs r, spec_l02Depth_rS (i_spec_l02Depth := ⟨spec_l02Depth_O.n + 1⟩) xs = some (true, r) → runF tab FT D15 live 77 spec_l02Depth_lo xs = some r := by
  intro xs r h
  unfold spec_l02Depth_rS at h
  split at h
  · simp only [Option.some.injEq, Prod.mk.injEq] at h
    obtain ⟨h1, rfl⟩ := h
    have hx := spec_l02Depth_nxr _ _ _ _ _ _ _ _ _ h1
    have ht := fun_told (spec_l02Depth_e _ _ _ _ _ _ _ _ _) (spec_l02Depth_l _ _ _ _ _ _ _ _ _) hx.1
    rw [hx.2] at ht
    exact ht
  · cases h
theorem spec_l02Depth_step : spec_l02Depth_G (i_spec_l02Depth := ⟨spec_l02Depth_O.n + 1⟩) := by
  have h := DOk.also2 (S := spec_l02Depth_rS (i_spec_l02Depth := ⟨spec_l02Depth_O.n + 1⟩)) mixed_ok tab_ok names_ok d13 d15 (fnLoops_one (by kernel_rfl) spec_l02Depth_is5) spec_l02Depth_rs
  refine spec_l02Depth_G.mk (i_spec_l02Depth := ⟨spec_l02Depth_O.n + 1⟩) ?_
  exact h
/-! spec_l00Has -/
abbrev spec_l00Has_2_σ := List (List TC) × Int × Int
abbrev spec_l00Has_2_ω := (Unit) ⊕ (Unit)
noncomputable def spec_l00Has_2_step (A : List (List TC)) (v i : Int) : Tr (spec_l00Has_2_σ ⊕ spec_l00Has_2_ω) := (.ite ((decide (i < (A.length : Int))) = true) (.ite ((0 : Int) ≤ i ∧ i < (A.length : Int)) (.ite (((nth (row A i) 0).int == v) = true) (.ok (.inr (.inl ())))
    (.ok (.inl (A, v, (IntKind.wrap .i64 (i + (1 : Int)))))))
   .no)
  (.ok (.inr (.inr ()))))
noncomputable def spec_l00Has_2_st : spec_l00Has_2_σ → Tr (spec_l00Has_2_σ ⊕ spec_l00Has_2_ω) := fun x => (spec_l00Has_2_step (x.1) (x.2.1) (x.2.2))
noncomputable def spec_l00Has_k2_1 (A : List (List TC)) (v i : Int) : Bool := A.all (fun x => !((nth x 0).int == v))
noncomputable def spec_l00Has_o2_2 (A : List (List TC)) (v i : Int) : Bool := is (i = 0 ∧ A.length ≤ 140737488351232)
noncomputable def spec_l00Has_o2_3 (A : List (List TC)) (v i : Int) : Bool := is (i = 0 ∧ A.length ≤ 140737488351232)
noncomputable def spec_l00Has_2_fin (A : List (List TC)) (v i : Int) : Told spec_l00Has_2_ω := (.br (spec_l00Has_k2_1 A v i) (.leaf (spec_l00Has_o2_2 A v i) (.inr ())) (.leaf (spec_l00Has_o2_3 A v i) (.inl ())))
def spec_l00Has_2_sl (x : spec_l00Has_2_σ) : List Slot := [⟨.val false [⟨.slice 2, .sh, TC.l (x.1)⟩], ⟨0, 0⟩⟩, ⟨.val false [⟨.int .i64, .sh, TC.i (x.2.1)⟩], ⟨0, 0⟩⟩, ⟨.val false [⟨.int .i64, .sh, TC.i (x.2.2)⟩], ⟨0, 0⟩⟩]
def spec_l00Has_2_out : spec_l00Has_2_ω → Ex × List Slot := (Sum.elim (fun x => (.ret, [⟨.val false [⟨.bool, .sh, TC.b true⟩], ⟨0, 0⟩⟩])) (fun x => (.exit 0, [Slot.none])))
noncomputable def spec_l00Has_lo2 : List Slot → Option (Told (Ex × List Slot)) := fun s => match s with
  | [⟨.val false [⟨.slice 2, .sh, TC.l A⟩], ⟨0, 0⟩⟩, ⟨.val false [⟨.int .i64, .sh, TC.i v⟩], ⟨0, 0⟩⟩, ⟨.val false [⟨.int .i64, .sh, TC.i i⟩], ⟨0, 0⟩⟩] => some (((spec_l00Has_2_fin A v i)).map spec_l00Has_2_out)
  | _ => .none
noncomputable def spec_l00Has_lo : LoopTeller := fun r s => bif Nat.beq r 2 then spec_l00Has_lo2 s else .none
theorem spec_l00Has_2_r (A : List (List TC)) (v i : Int) (fuel : Nat) : rounds (rnd tab FT D15 live 88 spec_l00Has_lo 0 2) leave (fuel + 1) (spec_l00Has_2_sl (A, v, i)) = ((spec_l00Has_2_step A v i)).run (goOn (fun s => rounds (rnd tab FT D15 live 88 spec_l00Has_lo 0 2) leave fuel (spec_l00Has_2_sl s)) fun w => some (spec_l00Has_2_out w)) := by kernel_rfl
theorem spec_l00Has_2_h (A : List (List TC)) (v i : Int) (ow : spec_l00Has_2_ω) : ((spec_l00Has_2_fin A v i)).val = some ow → ∃ fuel, loopN spec_l00Has_2_st fuel (A, v, i) = some ow := by
  intro h
  have key : A.length ≤ 140737488351232 → loopN spec_l00Has_2_st (A.length + 1) (A, v, (0 : Int)) = some (if A.all (fun x => !((nth x 0).int == v)) = true then (.inr ()) else (.inl ())) := by
    intro ht
    have hlen : A.length ≤ 140737488351232 := ht
    have key := loopN_scan (step := spec_l00Has_2_st) A [] (fun x => !((nth x 0).int == v)) (fun a _ => a) (fun i a => (A, v, (i : Int))) (fun a => (.inr ())) (fun i a => (.inl ())) (fun i a hi => ?_) (fun a => ?_) A.length 0 () (by omega)
    · first | (rw [Nat.zero_add] at key; exact key) | exact key
    · skip
      show (spec_l00Has_2_step A v (i : Int)).val = _
      unfold spec_l00Has_2_step
      refine Tr.t (by simp; omega) ?_
      skip
      refine Tr.t (by first | omega | (constructor <;> omega)) ?_
      refine Tr.b2 (fun hP => ?_) (fun _ => rfl)
      rw [Tr.val_ok, wrap64 (i := (i : Int) + 1) (by omega) (by omega)]; rfl
    · show (spec_l00Has_2_step A v (A.length : Int)).val = _
      refine Tr.n (by simp) ?_
      rfl
  simp only [spec_l00Has_2_fin, Told.val] at h
  cases hk : A.all (fun x => !((nth x 0).int == v)) with
  | true =>
    rw [if_pos (show spec_l00Has_k2_1 A v i = true from hk)] at h
    split at h
    · rename_i ho
      obtain ⟨rfl, ht⟩ := is_iff.1 ho
      cases h
      refine ⟨_, (key ht).trans ?_⟩
      rw [hk]; rfl
    · cases h
  | false =>
    rw [if_neg (show ¬spec_l00Has_k2_1 A v i = true from by rw [show spec_l00Has_k2_1 A v i = (A.all (fun x => !((nth x 0).int == v))) from rfl, hk]; simp)] at h
    split at h
    · rename_i ho
      obtain ⟨rfl, ht⟩ := is_iff.1 ho
      cases h
      refine ⟨_, (key ht).trans ?_⟩
      rw [hk]; rfl
    · cases h
theorem spec_l00Has_is2 : LoopIs tab FT D15 live 88 spec_l00Has_lo 0 2 := by
  refine loop_told (sl := spec_l00Has_2_sl) (step := spec_l00Has_2_st) (out := spec_l00Has_2_out) (lor := spec_l00Has_lo2) (fin := fun x => (spec_l00Has_2_fin (x.1) (x.2.1) (x.2.2))) (fun _ => rfl) ?_ (fun x n => spec_l00Has_2_r x.1 x.2.1 x.2.2 n) (fun x ow => spec_l00Has_2_h x.1 x.2.1 x.2.2 ow)
  intro s t h
  unfold spec_l00Has_lo2 at h
  split at h
  · cases h; exact ⟨(_, _, _), rfl, rfl⟩
  · cases h
noncomputable def spec_l00Has_t (A : List (List TC)) (v : Int) : Tr (Bool) := (.ite ((spec_l00Has_k2_1 A v (0 : Int)) = true) (.ite ((spec_l00Has_o2_2 A v (0 : Int)) = true) (.ok false)
   .no)
  (.ite ((spec_l00Has_o2_3 A v (0 : Int)) = true) (.ok true)
   .no))
def spec_l00Has_mk (p : Bool) : Res := [(false, [⟨.bool, .sh, TC.b p⟩])]
noncomputable def spec_l00Has_c (A : List (List TC)) (v : Int) : Bool := (bif (spec_l00Has_k2_1 A v (0 : Int)) then ((spec_l00Has_o2_2 A v (0 : Int)) && true) else ((spec_l00Has_o2_3 A v (0 : Int)) && true))
noncomputable def spec_l00Has_v (A : List (List TC)) (v : Int) : Bool := (bif (spec_l00Has_k2_1 A v (0 : Int)) then false else true)
theorem spec_l00Has_l (A : List (List TC)) (v : Int) : (spec_l00Has_c A v) = true → (spec_l00Has_t A v).val = some (spec_l00Has_v A v) := by
  unfold spec_l00Has_t spec_l00Has_v spec_l00Has_c
  exact fun h => (Tr.ss h (fun h => (Tr.gb h fun h => rfl)) (fun h => (Tr.gb h fun h => rfl)))
noncomputable def spec_l00Has_S : List Arg → Option (Bool × Res) := fun xs => match xs with
  | [(false, [(.slice 2, TC.l A)]), (false, [(.int .i64, TC.i v)])] => some ((spec_l00Has_c A v), spec_l00Has_mk (spec_l00Has_v A v))
  | _ => .none
theorem spec_l00Has_e (A : List (List TC)) (v : Int) : runF tab FT D15 live 88 spec_l00Has_lo [(false, [(.slice 2, TC.l A)]), (false, [(.int .i64, TC.i v)])] = (spec_l00Has_t A v).run fun p => some (spec_l00Has_mk p) := by kernel_rfl
theorem spec_l00Has_s : ∀ xs r, spec_l00Has_S xs = some (true, r) → runF tab FT D15 live 88 spec_l00Has_lo xs = some r := by
  intro xs r h
  unfold spec_l00Has_S at h
  split at h
  · simp only [Option.some.injEq, Prod.mk.injEq] at h
    obtain ⟨h1, rfl⟩ := h
    exact fun_told (spec_l00Has_e _ _) (spec_l00Has_l _ _) h1
  · cases h
noncomputable def D16 : Dt := also D15 88 spec_l00Has_S
theorem d16 : DOk Go.Proofs.Try.prog tab D16 := d15.also mixed_ok tab_ok names_ok (fnLoops_one (by kernel_rfl) spec_l00Has_is2) spec_l00Has_s
theorem spec_l00Has_cc {A : List (List TC)} {v : Int} (hl : A.length ≤ 140737488351232) : (spec_l00Has_c A v) = true := by
  unfold spec_l00Has_c
  refine bifT (fun b1 => ?_) (fun b1 => ?_)
  · skip
    refine andT (by exact is_true ⟨rfl, hl⟩) ?_
    rfl
  · skip
    refine andT (by exact is_true ⟨rfl, hl⟩) ?_
    rfl
/-! spec_l02Int -/
noncomputable def spec_l02Int_t (k s : Int) (sg bg : Bool) (NA NU ME BA : List (List TC)) (ct : Int) : Tr (Bool) := (.ite ((spec_l00Has_c [[TC.i (1 : Int)], [TC.i (2 : Int)], [TC.i (4 : Int)], [TC.i (8 : Int)]] s) = true) (.ite ((!(spec_l00Has_v [[TC.i (1 : Int)], [TC.i (2 : Int)], [TC.i (4 : Int)], [TC.i (8 : Int)]] s)) = true) (.ok false)
   (.ite ((s == (8 : Int)) = true) (.ite ((!sg) = true) (.ok false)
     (.ite ((s == (1 : Int)) = true) (.ite (bg = true) (.ok false)
       (.ite (((NA.length : Int) == (0 : Int)) = true) (.ite (((NU.length : Int) == (0 : Int)) = true) (.ite (((ME.length : Int) == (0 : Int)) = true) (.ite (((BA.length : Int) == (0 : Int)) = true) (.ok (ct == (0 : Int)))
           (.ok false))
          (.ok false))
         (.ok false))
        (.ok false)))
      (.ite (((NA.length : Int) == (0 : Int)) = true) (.ite (((NU.length : Int) == (0 : Int)) = true) (.ite (((ME.length : Int) == (0 : Int)) = true) (.ite (((BA.length : Int) == (0 : Int)) = true) (.ok (ct == (0 : Int)))
          (.ok false))
         (.ok false))
        (.ok false))
       (.ok false))))
    (.ite ((s == (1 : Int)) = true) (.ite (bg = true) (.ok false)
      (.ite (((NA.length : Int) == (0 : Int)) = true) (.ite (((NU.length : Int) == (0 : Int)) = true) (.ite (((ME.length : Int) == (0 : Int)) = true) (.ite (((BA.length : Int) == (0 : Int)) = true) (.ok (ct == (0 : Int)))
          (.ok false))
         (.ok false))
        (.ok false))
       (.ok false)))
     (.ite (((NA.length : Int) == (0 : Int)) = true) (.ite (((NU.length : Int) == (0 : Int)) = true) (.ite (((ME.length : Int) == (0 : Int)) = true) (.ite (((BA.length : Int) == (0 : Int)) = true) (.ok (ct == (0 : Int)))
         (.ok false))
        (.ok false))
       (.ok false))
      (.ok false)))))
  .no)
def spec_l02Int_mk (p : Bool) : Res := [(false, [⟨.bool, .sh, TC.b p⟩])]
noncomputable def spec_l02Int_c (k s : Int) (sg bg : Bool) (NA NU ME BA : List (List TC)) (ct : Int) : Bool := true
noncomputable def spec_l02Int_v (k s : Int) (sg bg : Bool) (NA NU ME BA : List (List TC)) (ct : Int) : Bool := intV s sg bg NA NU ME BA ct
theorem spec_l02Int_l (k s : Int) (sg bg : Bool) (NA NU ME BA : List (List TC)) (ct : Int) : (spec_l02Int_c k s sg bg NA NU ME BA ct) = true → (spec_l02Int_t k s sg bg NA NU ME BA ct).val = some (spec_l02Int_v k s sg bg NA NU ME BA ct) := by
  intro _
  unfold spec_l02Int_t
  refine Tr.t (spec_l00Has_cc (by decide)) ?_
  rw [show spec_l00Has_v [[TC.i (1 : Int)], [TC.i (2 : Int)], [TC.i (4 : Int)], [TC.i (8 : Int)]] s = has4 s from by
    show (bif [[TC.i (1 : Int)], [TC.i (2 : Int)], [TC.i (4 : Int)], [TC.i (8 : Int)]].all (fun x => !((nth x 0).int == s)) then false else true) = _
    rw [has4_eq]; cases has4 s <;> rfl]
  simp only [Tr.val_br, Tr.val_ok]
  simp only [ite_bif, somebif]
  refine congrArg some ?_
  unfold spec_l02Int_v intV empt
  generalize has4 s = p0, (s == 8) = p1, (s == 1) = p2, ((NA.length : Int) == 0) = p3, ((NU.length : Int) == 0) = p4, ((ME.length : Int) == 0) = p5, ((BA.length : Int) == 0) = p6, (ct == 0) = p7
  cases p0 <;> cases p1 <;> cases sg <;> cases p2 <;> cases bg <;> cases p3 <;> cases p4 <;> cases p5 <;> cases p6 <;> cases p7 <;> rfl
noncomputable def spec_l02Int_S : List Arg → Option (Bool × Res) := fun xs => match xs with
  | [(true, [(.int .i64, TC.i k), (.int .i64, TC.i s), (.bool, TC.b sg), (.bool, TC.b bg), (.slice 9, TC.l NA), (.slice 2, TC.l NU), (.slice 77, TC.l ME), (.slice 32, TC.l BA), (.int .i64, TC.i ct)])] => some (true, spec_l02Int_mk (spec_l02Int_v k s sg bg NA NU ME BA ct))
  | _ => .none
theorem spec_l02Int_e (k s : Int) (sg bg : Bool) (NA NU ME BA : List (List TC)) (ct : Int) : runF tab FT D16 live 70 noLoops [(true, [(.int .i64, TC.i k), (.int .i64, TC.i s), (.bool, TC.b sg), (.bool, TC.b bg), (.slice 9, TC.l NA), (.slice 2, TC.l NU), (.slice 77, TC.l ME), (.slice 32, TC.l BA), (.int .i64, TC.i ct)])] = (spec_l02Int_t k s sg bg NA NU ME BA ct).run fun p => some (spec_l02Int_mk p) := by kernel_rfl
theorem spec_l02Int_s : ∀ xs r, spec_l02Int_S xs = some (true, r) → runF tab FT D16 live 70 noLoops xs = some r := by
  intro xs r h
  unfold spec_l02Int_S at h
  split at h
  · simp only [Option.some.injEq, Prod.mk.injEq] at h
    obtain ⟨h1, rfl⟩ := h
    exact fun_told (spec_l02Int_e _ _ _ _ _ _ _ _ _) (spec_l02Int_l _ _ _ _ _ _ _ _ _) rfl
  · cases h
noncomputable def D17 : Dt := also D16 70 spec_l02Int_S
theorem d17 : DOk Go.Proofs.Try.prog tab D17 := d16.also mixed_ok tab_ok names_ok noLoops_ok spec_l02Int_s
/-! spec_l02Plain -/
noncomputable def spec_l02Plain_t (a0 a1 : Int) (a2 a3 : Bool) (a4 a5 a6 a7 : List (List TC)) (a8 : Int) : Tr (Bool) := (.ite ((!a2) = true) (.ok (!a3))
  (.ok false))
def spec_l02Plain_mk (p : Bool) : Res := [(false, [⟨.bool, .sh, TC.b p⟩])]
noncomputable def spec_l02Plain_c (a0 a1 : Int) (a2 a3 : Bool) (a4 a5 a6 a7 : List (List TC)) (a8 : Int) : Bool := true
noncomputable def spec_l02Plain_v (a0 a1 : Int) (a2 a3 : Bool) (a4 a5 a6 a7 : List (List TC)) (a8 : Int) : Bool := (bif (!a2) then (!a3) else false)
theorem spec_l02Plain_l (a0 a1 : Int) (a2 a3 : Bool) (a4 a5 a6 a7 : List (List TC)) (a8 : Int) : (spec_l02Plain_c a0 a1 a2 a3 a4 a5 a6 a7 a8) = true → (spec_l02Plain_t a0 a1 a2 a3 a4 a5 a6 a7 a8).val = some (spec_l02Plain_v a0 a1 a2 a3 a4 a5 a6 a7 a8) := by
  intro h
  skip
  unfold spec_l02Plain_t spec_l02Plain_v
  exact (Tr.s rfl rfl)
noncomputable def spec_l02Plain_S : List Arg → Option (Bool × Res) := fun xs => match xs with
  | [(true, [(.int .i64, TC.i a0), (.int .i64, TC.i a1), (.bool, TC.b a2), (.bool, TC.b a3), (.slice 9, TC.l a4), (.slice 2, TC.l a5), (.slice 77, TC.l a6), (.slice 32, TC.l a7), (.int .i64, TC.i a8)])] => some (true, spec_l02Plain_mk (spec_l02Plain_v a0 a1 a2 a3 a4 a5 a6 a7 a8))
  | _ => .none
theorem spec_l02Plain_e (a0 a1 : Int) (a2 a3 : Bool) (a4 a5 a6 a7 : List (List TC)) (a8 : Int) : runF tab FT D17 live 75 noLoops [(true, [(.int .i64, TC.i a0), (.int .i64, TC.i a1), (.bool, TC.b a2), (.bool, TC.b a3), (.slice 9, TC.l a4), (.slice 2, TC.l a5), (.slice 77, TC.l a6), (.slice 32, TC.l a7), (.int .i64, TC.i a8)])] = (spec_l02Plain_t a0 a1 a2 a3 a4 a5 a6 a7 a8).run fun p => some (spec_l02Plain_mk p) := by kernel_rfl
theorem spec_l02Plain_s : ∀ xs r, spec_l02Plain_S xs = some (true, r) → runF tab FT D17 live 75 noLoops xs = some r := by
  intro xs r h
  unfold spec_l02Plain_S at h
  split at h
  · simp only [Option.some.injEq, Prod.mk.injEq] at h
    obtain ⟨h1, rfl⟩ := h
    exact fun_told (spec_l02Plain_e _ _ _ _ _ _ _ _ _) (spec_l02Plain_l _ _ _ _ _ _ _ _ _) rfl
  · cases h
noncomputable def D18 : Dt := also D17 75 spec_l02Plain_S
theorem d18 : DOk Go.Proofs.Try.prog tab D18 := d17.also mixed_ok tab_ok names_ok noLoops_ok spec_l02Plain_s
/-! spec_l00In -/
noncomputable def spec_l00In_t (a0 a1 a2 : Int) : Tr (Bool) := (.ite ((decide (a0 ≥ a1)) = true) (.ok (decide (a0 ≤ a2)))
  (.ok false))
def spec_l00In_mk (p : Bool) : Res := [(false, [⟨.bool, .sh, TC.b p⟩])]
noncomputable def spec_l00In_c (a0 a1 a2 : Int) : Bool := true
noncomputable def spec_l00In_v (a0 a1 a2 : Int) : Bool := (bif (decide (a0 ≥ a1)) then (decide (a0 ≤ a2)) else false)
theorem spec_l00In_l (a0 a1 a2 : Int) : (spec_l00In_c a0 a1 a2) = true → (spec_l00In_t a0 a1 a2).val = some (spec_l00In_v a0 a1 a2) := by
  intro h
  skip
  unfold spec_l00In_t spec_l00In_v
  exact (Tr.s rfl rfl)
noncomputable def spec_l00In_S : List Arg → Option (Bool × Res) := fun xs => match xs with
  | [(false, [(.int .i64, TC.i a0)]), (false, [(.int .i64, TC.i a1)]), (false, [(.int .i64, TC.i a2)])] => some (true, spec_l00In_mk (spec_l00In_v a0 a1 a2))
  | _ => .none
theorem spec_l00In_e (a0 a1 a2 : Int) : runF tab FT D18 live 71 noLoops [(false, [(.int .i64, TC.i a0)]), (false, [(.int .i64, TC.i a1)]), (false, [(.int .i64, TC.i a2)])] = (spec_l00In_t a0 a1 a2).run fun p => some (spec_l00In_mk p) := by kernel_rfl
theorem spec_l00In_s : ∀ xs r, spec_l00In_S xs = some (true, r) → runF tab FT D18 live 71 noLoops xs = some r := by
  intro xs r h
  unfold spec_l00In_S at h
  split at h
  · simp only [Option.some.injEq, Prod.mk.injEq] at h
    obtain ⟨h1, rfl⟩ := h
    exact fun_told (spec_l00In_e _ _ _) (spec_l00In_l _ _ _) rfl
  · cases h
noncomputable def D19 : Dt := also D18 71 spec_l00In_S
theorem d19 : DOk Go.Proofs.Try.prog tab D19 := d18.also mixed_ok tab_ok names_ok noLoops_ok spec_l00In_s
/-! spec_l02Range -/
noncomputable def spec_l02Range_t (k s : Int) (sg bg : Bool) (NA NU ME BA : List (List TC)) (ct : Int) : Tr (Int × Int) := (.ite ((!sg) = true) (.ite (0 ≤ (IntKind.wrap .u64 (IntKind.wrap .i64 ((8 : Int) * s)))) (.ok ((0 : Int), (IntKind.wrap .i64 ((IntKind.wrap .i64 ((1 : Int) * (2 ^ (min ((IntKind.wrap .u64 (IntKind.wrap .i64 ((8 : Int) * s)))).toNat 64)))) - (1 : Int)))))
   .no)
  (.ite (0 ≤ (IntKind.wrap .u64 ((IntKind.wrap .u64 (IntKind.wrap .i64 ((8 : Int) * s))) - (1 : Int)))) (.ok ((IntKind.wrap .i64 ((IntKind.wrap .i64 ((0 : Int) - (IntKind.wrap .i64 ((IntKind.wrap .i64 ((1 : Int) * (2 ^ (min ((IntKind.wrap .u64 ((IntKind.wrap .u64 (IntKind.wrap .i64 ((8 : Int) * s))) - (1 : Int)))).toNat 64)))) - (1 : Int))))) - (1 : Int))), (IntKind.wrap .i64 ((IntKind.wrap .i64 ((1 : Int) * (2 ^ (min ((IntKind.wrap .u64 ((IntKind.wrap .u64 (IntKind.wrap .i64 ((8 : Int) * s))) - (1 : Int)))).toNat 64)))) - (1 : Int)))))
   .no))
def spec_l02Range_mk (p : Int × Int) : Res := [(false, [⟨.int .i64, .sh, TC.i (p.1)⟩]), (false, [⟨.int .i64, .sh, TC.i (p.2)⟩])]
noncomputable def spec_l02Range_c (k s : Int) (sg bg : Bool) (NA NU ME BA : List (List TC)) (ct : Int) : Bool := (bif (!sg) then (is (0 ≤ (IntKind.wrap .u64 (IntKind.wrap .i64 ((8 : Int) * s)))) && true) else (is (0 ≤ (IntKind.wrap .u64 ((IntKind.wrap .u64 (IntKind.wrap .i64 ((8 : Int) * s))) - (1 : Int)))) && true))
end
end
end
end
end Go.Proofs.Ytlggbfmpfhohjaa.V
