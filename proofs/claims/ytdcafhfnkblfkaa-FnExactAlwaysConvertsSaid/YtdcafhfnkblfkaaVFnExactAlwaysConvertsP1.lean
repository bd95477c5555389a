/- What the functions of FnExactAlwaysConverts answer. No condition. -/
import Derived.Test.YtdcafhfnkblfkaaVFacts
namespace Go.Proofs.Ytdcafhfnkblfkaa.V
open Go
set_option maxRecDepth 100000
set_option linter.unusedVariables false
set_option linter.unusedSectionVars false
set_option linter.unusedSimpArgs false
set_option maxHeartbeats 2000000
noncomputable section
abbrev LL := List (List TC)
abbrev BS := List UInt8
theorem sp {α β : Type} {a b : α} {c d : β} (h : some (a, c) = some (b, d)) : a = b ∧ c = d := by cases h; exact ⟨rfl, rfl⟩
def isoL : List (Nat × Nat) := [(27, 32), (67, 71), (32, 27), (71, 67)]
theorem iso_ok : isoOk tab isoL = true := by kernel_rfl
def has4 (s : Int) : Bool := s == 1 || s == 2 || s == 4 || s == 8
def empt (NA NU ME BA : LL) (ct : Int) : Bool := ((NA.length : Int) == 0) && ((NU.length : Int) == 0) && ((ME.length : Int) == 0) && ((BA.length : Int) == 0) && (ct == 0)
def intV (s : Int) (sg bg : Bool) (NA NU ME BA : LL) (ct : Int) : Bool := has4 s && !((s == 8) && !sg) && !((s == 1) && bg) && empt NA NU ME BA ct
theorem has4_eq (s : Int) : [[TC.i (1 : Int)], [TC.i (2 : Int)], [TC.i (4 : Int)], [TC.i (8 : Int)]].all (fun x => !((nth x 0).int == s)) = !(has4 s) := by
  show (!((1 : Int) == s) && (!((2 : Int) == s) && (!((4 : Int) == s) && (!((8 : Int) == s) && true)))) = _
  unfold has4
  rw [show ((1 : Int) == s) = (s == 1) from Bool.beq_comm, show ((2 : Int) == s) = (s == 2) from Bool.beq_comm, show ((4 : Int) == s) = (s == 4) from Bool.beq_comm, show ((8 : Int) == s) = (s == 8) from Bool.beq_comm]
  cases (s == 1) <;> cases (s == 2) <;> cases (s == 4) <;> cases (s == 8) <;> rfl

theorem pos_row {BA : LL} (h : 0 < BA.length) (j : Nat) : rowsDep (nth (row BA (0 : Int)) j).list < rowsDep BA := dep_row ⟨by omega, by omega⟩ j
def sizeV (k s : Int) (BA : LL) (ct : Int) : Int :=
  bif k == 3 then (nth (row BA (0 : Int)) 1).int
  else bif k == 5 then (if h : 0 < BA.length then IntKind.wrap .i64 (ct * sizeV (nth (row BA (0 : Int)) 0).int (nth (row BA (0 : Int)) 1).int (nth (row BA (0 : Int)) 7).list (nth (row BA (0 : Int)) 8).int) else 0)
  else s
termination_by rowsDep BA
decreasing_by exact pos_row h 7
def sizeC (k : Int) (BA : LL) : Bool :=
  bif k == 3 then decide (0 < BA.length)
  else bif k == 5 then (if h : 0 < BA.length then sizeC (nth (row BA (0 : Int)) 0).int (nth (row BA (0 : Int)) 7).list else false)
  else true
termination_by rowsDep BA
decreasing_by exact pos_row h 7
theorem dep_max {ME BA : LL} {x : List TC} (hx : x ∈ ME) (i j : Nat) : max (rowsDep (nth x i).list) (rowsDep (nth x j).list) < max (rowsDep ME) (rowsDep BA) := by
  have a := dep_cell hx i
  have b := dep_cell hx j
  omega
theorem dep_base {ME BA : LL} (h : 0 < BA.length) (i j : Nat) : max (rowsDep (nth (row BA (0 : Int)) i).list) (rowsDep (nth (row BA (0 : Int)) j).list) < max (rowsDep ME) (rowsDep BA) := by
  have a := pos_row h i
  have b := pos_row h j
  omega
def maxI (a b : Int) : Int := bif decide (a > b) then a else b
def depthV (k : Int) (ME BA : LL) : Int :=
  bif k == 4 then IntKind.wrap .i64 (ME.attach.foldl (fun d x => maxI d (depthV (nth x.1 2).int (nth x.1 8).list (nth x.1 9).list)) 0 + 1)
  else bif k == 5 then (if h : 0 < BA.length then IntKind.wrap .i64 (depthV (nth (row BA (0 : Int)) 0).int (nth (row BA (0 : Int)) 6).list (nth (row BA (0 : Int)) 7).list + 1) else 0)
  else 1
termination_by max (rowsDep ME) (rowsDep BA)
decreasing_by
  · exact dep_max x.2 8 9
  · exact dep_base h 6 7
def depthC (k : Int) (ME BA : LL) : Bool :=
  bif k == 4 then ME.attach.all (fun x => depthC (nth x.1 2).int (nth x.1 8).list (nth x.1 9).list)
  else bif k == 5 then (if h : 0 < BA.length then depthC (nth (row BA (0 : Int)) 0).int (nth (row BA (0 : Int)) 6).list (nth (row BA (0 : Int)) 7).list else false)
  else true
termination_by max (rowsDep ME) (rowsDep BA)
decreasing_by
  · exact dep_max x.2 8 9
  · exact dep_base h 6 7
def letterB (c : Int) : Bool := (decide (c ≥ 65) && decide (c ≤ 90)) || (decide (c ≥ 97) && decide (c ≤ 122))
def nameB (i c : Int) : Bool := letterB c || (!(i == 0) && ((decide (c ≥ 48) && decide (c ≤ 57)) || c == 95))
def nameOk (s : BS) : Bool := decide ((s.length : Int) ≥ 1) && decide ((s.length : Int) ≤ 12) && allI (fun i : Nat => nameB (i : Int) ((s.getD ((i : Int)).toNat 0).toNat : Int)) s.length
theorem dlt {a b : Int} : decide (a < b) = !decide (a ≥ b) := by rw [← decide_not]; simp
theorem dgt {a b : Int} : decide (a > b) = !decide (a ≤ b) := by rw [← decide_not]; simp
def strAt (A : LL) (i : Int) : BS := (nth (row A i) 0).str
def intAt (A : LL) (i : Int) : Int := (nth (row A i) 0).int
def noDupN (A : LL) (i : Int) : Bool := allI (fun j : Nat => !(strAt A (j : Int) == strAt A i)) i.toNat
def inB (n lo hi : Int) : Bool := bif decide (n ≥ lo) then decide (n ≤ hi) else false
def ascB (A : LL) (i : Int) : Bool := bif decide (i > 0) then !(decide (intAt A (IntKind.wrap .i64 (i - (1 : Int))) ≥ intAt A i)) else true
def enumP (NA NU : LL) (lo hi i : Int) : Bool := nameOk (strAt NA i) && inB (intAt NU i) lo hi && ascB NU i && noDupN NA i
def loV (s : Int) (sg : Bool) : Int := bif !sg then 0 else bif s == 1 then -128 else bif s == 2 then -32768 else bif s == 4 then -2147483648 else -9223372036854775808
def hiV (s : Int) (sg : Bool) : Int := bif !sg then (bif s == 1 then 255 else bif s == 2 then 65535 else 4294967295) else bif s == 1 then 127 else bif s == 2 then 32767 else bif s == 4 then 2147483647 else 9223372036854775807
def plain (sg bg : Bool) : Bool := !sg && !bg
def enumV (s : Int) (sg bg : Bool) (NA NU ME BA : LL) (ct : Int) : Bool :=
  (s == 0) && (plain sg bg && (!decide ((ME.length : Int) > 0) && ((ct == 0) && (((BA.length : Int) == 1) && (((nth (row BA (0 : Int)) 0).int == 1) && (intV (nth (row BA (0 : Int)) 1).int (nth (row BA (0 : Int)) 2).bool (nth (row BA (0 : Int)) 3).bool (nth (row BA (0 : Int)) 4).list (nth (row BA (0 : Int)) 5).list (nth (row BA (0 : Int)) 6).list (nth (row BA (0 : Int)) 7).list (nth (row BA (0 : Int)) 8).int && (!decide ((NA.length : Int) < 1) && (!decide ((NA.length : Int) > 6) && (((NU.length : Int) == (NA.length : Int)) &&
    allI (fun i : Nat => enumP NA NU (loV (nth (row BA (0 : Int)) 1).int (nth (row BA (0 : Int)) 2).bool) (hiV (nth (row BA (0 : Int)) 1).int (nth (row BA (0 : Int)) 2).bool) (i : Int)) NA.length)))))))))
def endAt (ME : LL) : Nat → Int
  | 0 => 0
  | i + 1 => IntKind.wrap .i64 ((nth (row ME (i : Int)) 1).int + sizeV (nth (row ME (i : Int)) 2).int (nth (row ME (i : Int)) 3).int (nth (row ME (i : Int)) 9).list (nth (row ME (i : Int)) 10).int)
def memP (ME : LL) (i : Nat) : Bool := nameOk (strAt ME (i : Int)) && (!decide ((nth (row ME (i : Int)) 1).int < endAt ME i) && (!decide ((nth (row ME (i : Int)) 1).int > 24) && noDupN ME (i : Int)))
def compS (s : Int) (sg bg : Bool) (NA NU ME BA : LL) (ct : Int) : Bool :=
  inB s 1 24 && (plain sg bg && (!decide ((NA.length : Int) > 0) && (!decide ((NU.length : Int) > 0) && (!decide ((BA.length : Int) > 0) && ((ct == 0) && (!decide ((ME.length : Int) < 1) && !decide ((ME.length : Int) > 4)))))))
def arrS (s : Int) (sg bg : Bool) (NA NU ME BA : LL) (ct : Int) : Bool :=
  (s == 0) && (plain sg bg && (!decide ((NA.length : Int) > 0) && (!decide ((NU.length : Int) > 0) && (!decide ((ME.length : Int) > 0) && (((BA.length : Int) == 1) && inB ct 1 4)))))
def bareV (sg bg : Bool) (NA NU ME BA : LL) (ct : Int) : Bool := plain sg bg && empt NA NU ME BA ct
def okV (k s : Int) (sg bg : Bool) (NA NU ME BA : LL) (ct : Int) : Bool :=
  (bif k == 1 then intV s sg bg NA NU ME BA ct
   else bif k == 2 then inB s 1 16 && bareV sg bg NA NU ME BA ct
   else bif k == 3 then enumV s sg bg NA NU ME BA ct
   else bif k == 4 then compS s sg bg NA NU ME BA ct && ((allI (memP ME) ME.length && ME.attach.all (fun x => okV (nth x.1 2).int (nth x.1 3).int (nth x.1 4).bool (nth x.1 5).bool (nth x.1 6).list (nth x.1 7).list (nth x.1 8).list (nth x.1 9).list (nth x.1 10).int)) && decide (endAt ME ME.length ≤ s))
   else bif k == 5 then arrS s sg bg NA NU ME BA ct && (if h : 0 < BA.length then okV (nth (row BA (0 : Int)) 0).int (nth (row BA (0 : Int)) 1).int (nth (row BA (0 : Int)) 2).bool (nth (row BA (0 : Int)) 3).bool (nth (row BA (0 : Int)) 4).list (nth (row BA (0 : Int)) 5).list (nth (row BA (0 : Int)) 6).list (nth (row BA (0 : Int)) 7).list (nth (row BA (0 : Int)) 8).int else false)
   else bif k == 6 then (s == 2) && bareV sg bg NA NU ME BA ct
   else false) && (decide (sizeV k s BA ct ≤ 24) && decide (depthV k ME BA ≤ 3))
termination_by max (rowsDep ME) (rowsDep BA)
decreasing_by
  · exact dep_max x.2 8 9
  · exact dep_base h 6 7
theorem attach_okV {ME : LL} : (ME.attach.all fun x => okV (nth x.1 2).int (nth x.1 3).int (nth x.1 4).bool (nth x.1 5).bool (nth x.1 6).list (nth x.1 7).list (nth x.1 8).list (nth x.1 9).list (nth x.1 10).int) = ME.all fun x => okV (nth x 2).int (nth x 3).int (nth x 4).bool (nth x 5).bool (nth x 6).list (nth x 7).list (nth x 8).list (nth x 9).list (nth x 10).int := attach_all (p := fun x => okV (nth x 2).int (nth x 3).int (nth x 4).bool (nth x 5).bool (nth x 6).list (nth x 7).list (nth x 8).list (nth x 9).list (nth x 10).int)
theorem okV_size : ∀ {BA : LL} {k s : Int} {sg bg : Bool} {NA NU ME : LL} {ct : Int}, okV k s sg bg NA NU ME BA ct = true → sizeC k BA = true := by
  intro BA
  induction h : rowsDep BA using Nat.strongRecOn generalizing BA with
  | _ n ih =>
    intro k s sg bg NA NU ME ct hk
    rw [okV, Bool.and_eq_true] at hk
    rw [sizeC]
    have hk := hk.1
    cases h3 : (k == 3) with
    | true =>
      have : k = 3 := by simpa using h3
      subst this
      have hk : enumV s sg bg NA NU ME BA ct = true := hk
      simp only [enumV, Bool.and_eq_true] at hk
      have h1 : (BA.length : Int) = 1 := by simpa using hk.2.2.2.2.1
      show decide (0 < BA.length) = true
      exact decide_eq_true (by omega)
    | false =>
      cases h5 : (k == 5) with
      | true =>
        have : k = 5 := by simpa using h5
        subst this
        have hk : (arrS s sg bg NA NU ME BA ct && (if h : 0 < BA.length then okV (nth (row BA (0 : Int)) 0).int (nth (row BA (0 : Int)) 1).int (nth (row BA (0 : Int)) 2).bool (nth (row BA (0 : Int)) 3).bool (nth (row BA (0 : Int)) 4).list (nth (row BA (0 : Int)) 5).list (nth (row BA (0 : Int)) 6).list (nth (row BA (0 : Int)) 7).list (nth (row BA (0 : Int)) 8).int else false)) = true := hk
        rw [Bool.and_eq_true] at hk
        have hk := hk.2
        split at hk
        · rename_i hb
          simp only [cond_true, cond_false, dif_pos hb]
          exact ih _ (by rw [← h]; exact pos_row hb 7) rfl hk
        · cases hk
      | false => rfl
theorem okV_depth : ∀ {ME BA : LL} {k s : Int} {sg bg : Bool} {NA NU : LL} {ct : Int}, okV k s sg bg NA NU ME BA ct = true → depthC k ME BA = true := by
  intro ME BA
  induction h : max (rowsDep ME) (rowsDep BA) using Nat.strongRecOn generalizing ME BA with
  | _ n ih =>
    intro k s sg bg NA NU ct hk
    rw [okV, Bool.and_eq_true] at hk
    rw [depthC]
    have hk := hk.1
    cases h4 : (k == 4) with
    | true =>
      have : k = 4 := by simpa using h4
      subst this
      have hk : (compS s sg bg NA NU ME BA ct && ((allI (memP ME) ME.length && ME.attach.all (fun x => okV (nth x.1 2).int (nth x.1 3).int (nth x.1 4).bool (nth x.1 5).bool (nth x.1 6).list (nth x.1 7).list (nth x.1 8).list (nth x.1 9).list (nth x.1 10).int)) && decide (endAt ME ME.length ≤ s))) = true := hk
      simp only [Bool.and_eq_true] at hk
      have hk := hk.2.1.2
      rw [List.all_eq_true] at hk
      simp only [cond_true, List.all_eq_true]
      exact fun x hx => ih _ (by rw [← h]; exact dep_max x.2 8 9) rfl (hk x hx)
    | false =>
      cases h5 : (k == 5) with
      | true =>
        have : k = 5 := by simpa using h5
        subst this
        have hk : (arrS s sg bg NA NU ME BA ct && (if h : 0 < BA.length then okV (nth (row BA (0 : Int)) 0).int (nth (row BA (0 : Int)) 1).int (nth (row BA (0 : Int)) 2).bool (nth (row BA (0 : Int)) 3).bool (nth (row BA (0 : Int)) 4).list (nth (row BA (0 : Int)) 5).list (nth (row BA (0 : Int)) 6).list (nth (row BA (0 : Int)) 7).list (nth (row BA (0 : Int)) 8).int else false)) = true := hk
        rw [Bool.and_eq_true] at hk
        have hk := hk.2
        split at hk
        · rename_i hb
          simp only [cond_true, cond_false, dif_pos hb]
          exact ih _ (by rw [← h]; exact dep_base hb 6 7) rfl hk
        · cases hk
      | false => rfl
def sameV (k s : Int) (sg bg : Bool) (NA NU ME BA : LL) (ct : Int) (k2 s2 : Int) (sg2 bg2 : Bool) (NA2 NU2 ME2 BA2 : LL) (ct2 : Int) : Bool :=
  (k == k2) && ((s == s2) && ((sg == sg2) && ((bg == bg2) && ((ct == ct2) && (eqL NA NA2 && (eqL NU NU2 && (eqL ME ME2 && eqL BA BA2)))))))
def isizeV (k s : Int) (BA : LL) (ct : Int) : Int :=
  bif k == 3 then (if h : 0 < BA.length then isizeV (nth (row BA (0 : Int)) 0).int (nth (row BA (0 : Int)) 1).int (nth (row BA (0 : Int)) 7).list (nth (row BA (0 : Int)) 8).int else 0)
  else bif k == 5 then (if h : 0 < BA.length then IntKind.wrap .i64 (ct * isizeV (nth (row BA (0 : Int)) 0).int (nth (row BA (0 : Int)) 1).int (nth (row BA (0 : Int)) 7).list (nth (row BA (0 : Int)) 8).int) else 0)
  else s
termination_by rowsDep BA
decreasing_by
  · exact pos_row h 7
  · exact pos_row h 7
def isizeC (k : Int) (BA : LL) : Bool :=
  bif k == 3 || k == 5 then (if h : 0 < BA.length then isizeC (nth (row BA (0 : Int)) 0).int (nth (row BA (0 : Int)) 7).list else false) else true
termination_by rowsDep BA
decreasing_by exact pos_row h 7
def validV (k s : Int) (sg bg : Bool) (NA NU ME BA : LL) (ct d : Int) : Bool := okV k s sg bg NA NU ME BA ct && decide (depthV k ME BA ≤ d)
theorem eqL_nil {A : LL} : eqL A [] = ((A.length : Int) == 0) := by
  rw [Bool.eq_iff_iff, eqL_iff, beq_iff_eq]
  cases A <;> simp
  omega
def slotIdx (A : LL) (s : BS) : Int := bif A.all (fun x => !((nth x 0).str == s)) then -1 else Int.ofNat (A.findIdx fun x => !(!((nth x 0).str == s)))
def dnP (A : LL) (i : Int) : Bool := nameOk (strAt A i) && noDupN A i
theorem slotIdx_in {A : LL} {s : BS} : decide (slotIdx A s ≥ 0) = !(A.all fun x => !((nth x 0).str == s)) := by
  unfold slotIdx
  cases A.all fun x => !((nth x 0).str == s) <;> simp
def endI (ME : LL) : Nat → Int
  | 0 => 0
  | i + 1 => IntKind.wrap .i64 ((nth (row ME (i : Int)) 1).int + isizeV (nth (row ME (i : Int)) 2).int (nth (row ME (i : Int)) 3).int (nth (row ME (i : Int)) 9).list (nth (row ME (i : Int)) 10).int)
def nmAt (ME : LL) : Nat → LL
  | 0 => []
  | i + 1 => nmAt ME i ++ [[TC.s (nth (row ME (i : Int)) 0).str]]
theorem nmAt_eq {ME : LL} : ∀ {j : Nat}, j ≤ ME.length → nmAt ME j = (ME.take j).map fun x => [TC.s (nth x 0).str]
  | 0, _ => rfl
  | j + 1, h => by
    have hn : j < ME.length := by omega
    rw [nmAt, nmAt_eq (Nat.le_of_lt hn), List.take_add_one, List.getElem?_eq_getElem hn, List.map_append, row_nat, getD_at hn]
    rfl
theorem nmAt_all {ME : LL} : nmAt ME ME.length = ME.map fun x => [TC.s (nth x 0).str] := by rw [nmAt_eq (Nat.le_refl _), List.take_length]
theorem nmAt_len {ME : LL} : (nmAt ME ME.length).length = ME.length := by rw [nmAt_all, List.length_map]
theorem nm_str {ME : LL} {i : Nat} (h : i < ME.length) : strAt (nmAt ME ME.length) (i : Int) = strAt ME (i : Int) := by
  unfold strAt
  rw [nmAt_all, row_nat, row_nat, getD_at (by rw [List.length_map]; exact h), getD_at h, List.getElem_map]
  rfl
theorem nm_dup {ME : LL} {i : Nat} (h : i < ME.length) : noDupN (nmAt ME ME.length) (i : Int) = noDupN ME (i : Int) := by
  unfold noDupN
  rw [Int.toNat_natCast]
  refine allI_congr fun j hj => ?_
  rw [nm_str h, nm_str (by omega)]
def memI (ME : LL) (i : Nat) : Bool := !decide ((nth (row ME (i : Int)) 1).int < endI ME i) && !decide ((nth (row ME (i : Int)) 1).int > 24)
theorem maxI_le {a b c : Int} : maxI a b ≤ c ↔ a ≤ c ∧ b ≤ c := by
  unfold maxI
  cases h : decide (a > b) with
  | true => have := of_decide_eq_true h; simp only [cond_true]; omega
  | false => have := of_decide_eq_false h; simp only [cond_false]; omega
theorem fold_max {f : List TC → Int} {c : Int} : ∀ {l : LL} {b : Int}, l.foldl (fun d x => maxI d (f x)) b ≤ c ↔ b ≤ c ∧ ∀ x, x ∈ l → f x ≤ c
  | [], b => by simp
  | x :: l, b => by
    rw [List.foldl_cons, fold_max, maxI_le]
    simp only [List.mem_cons, forall_eq_or_imp, and_assoc]
theorem fold_ge {f : List TC → Int} : ∀ {l : LL} {b : Int}, b ≤ l.foldl (fun d x => maxI d (f x)) b
  | [], b => Int.le_refl _
  | x :: l, b => by
    rw [List.foldl_cons]
    exact Int.le_trans (maxI_le.1 (Int.le_refl _)).1 fold_ge
theorem okV_top {k s : Int} {sg bg : Bool} {NA NU ME BA : LL} {ct : Int} (h : okV k s sg bg NA NU ME BA ct = true) : sizeV k s BA ct ≤ 24 ∧ depthV k ME BA ≤ 3 := by
  rw [okV, Bool.and_eq_true, Bool.and_eq_true] at h
  exact ⟨of_decide_eq_true h.2.1, of_decide_eq_true h.2.2⟩
theorem okV_4 {s : Int} {sg bg : Bool} {NA NU ME BA : LL} {ct : Int} : okV 4 s sg bg NA NU ME BA ct = ((compS s sg bg NA NU ME BA ct && ((allI (memP ME) ME.length && ME.all (fun x => okV (nth x 2).int (nth x 3).int (nth x 4).bool (nth x 5).bool (nth x 6).list (nth x 7).list (nth x 8).list (nth x 9).list (nth x 10).int)) && decide (endAt ME ME.length ≤ s))) && (decide (sizeV 4 s BA ct ≤ 24) && decide (depthV 4 ME BA ≤ 3))) := by
  rw [okV, attach_okV]; rfl
theorem okV_5 {s : Int} {sg bg : Bool} {NA NU ME BA : LL} {ct : Int} : okV 5 s sg bg NA NU ME BA ct = ((arrS s sg bg NA NU ME BA ct && (if h : 0 < BA.length then okV (nth (row BA (0 : Int)) 0).int (nth (row BA (0 : Int)) 1).int (nth (row BA (0 : Int)) 2).bool (nth (row BA (0 : Int)) 3).bool (nth (row BA (0 : Int)) 4).list (nth (row BA (0 : Int)) 5).list (nth (row BA (0 : Int)) 6).list (nth (row BA (0 : Int)) 7).list (nth (row BA (0 : Int)) 8).int else false)) && (decide (sizeV 5 s BA ct ≤ 24) && decide (depthV 5 ME BA ≤ 3))) := by
  rw [okV]; rfl
theorem okV_1 {s : Int} {sg bg : Bool} {NA NU ME BA : LL} {ct : Int} : okV 1 s sg bg NA NU ME BA ct = (intV s sg bg NA NU ME BA ct && (decide (sizeV 1 s BA ct ≤ 24) && decide (depthV 1 ME BA ≤ 3))) := by
  rw [okV]; rfl
theorem okV_2 {s : Int} {sg bg : Bool} {NA NU ME BA : LL} {ct : Int} : okV 2 s sg bg NA NU ME BA ct = ((inB s 1 16 && bareV sg bg NA NU ME BA ct) && (decide (sizeV 2 s BA ct ≤ 24) && decide (depthV 2 ME BA ≤ 3))) := by
  rw [okV]; rfl
theorem okV_3 {s : Int} {sg bg : Bool} {NA NU ME BA : LL} {ct : Int} : okV 3 s sg bg NA NU ME BA ct = (enumV s sg bg NA NU ME BA ct && (decide (sizeV 3 s BA ct ≤ 24) && decide (depthV 3 ME BA ≤ 3))) := by
  rw [okV]; rfl
theorem okV_6 {s : Int} {sg bg : Bool} {NA NU ME BA : LL} {ct : Int} : okV 6 s sg bg NA NU ME BA ct = (((s == 2) && bareV sg bg NA NU ME BA ct) && (decide (sizeV 6 s BA ct ≤ 24) && decide (depthV 6 ME BA ≤ 3))) := by
  rw [okV]; rfl
theorem okV_kind {k s : Int} {sg bg : Bool} {NA NU ME BA : LL} {ct : Int} (h : okV k s sg bg NA NU ME BA ct = true) : k = 1 ∨ k = 2 ∨ k = 3 ∨ k = 4 ∨ k = 5 ∨ k = 6 := by
  apply Classical.byContradiction
  intro hn
  simp only [not_or] at hn
  obtain ⟨k1, k2, k3, k4, k5, k6⟩ := hn
  have e1 : (k == 1) = false := by simpa using k1
  have e2 : (k == 2) = false := by simpa using k2
  have e3 : (k == 3) = false := by simpa using k3
  have e4 : (k == 4) = false := by simpa using k4
  have e5 : (k == 5) = false := by simpa using k5
  have e6 : (k == 6) = false := by simpa using k6
  rw [okV] at h
  simp only [e1, e2, e3, e4, e5, e6, cond_false, Bool.false_and] at h
  cases h
theorem depth4 {ME BA : LL} : depthV 4 ME BA = IntKind.wrap .i64 (ME.foldl (fun d x => maxI d (depthV (nth x 2).int (nth x 8).list (nth x 9).list)) 0 + 1) := by
  rw [depthV, attach_foldl (f := fun d x => maxI d (depthV (nth x 2).int (nth x 8).list (nth x 9).list))]; rfl
theorem depth5 {ME BA : LL} (h : 0 < BA.length) : depthV 5 ME BA = IntKind.wrap .i64 (depthV (nth (row BA (0 : Int)) 0).int (nth (row BA (0 : Int)) 6).list (nth (row BA (0 : Int)) 7).list + 1) := by
  rw [depthV]
  show (if h : 0 < BA.length then IntKind.wrap .i64 (depthV (nth (row BA (0 : Int)) 0).int (nth (row BA (0 : Int)) 6).list (nth (row BA (0 : Int)) 7).list + 1) else 0) = _
  rw [dif_pos h]
theorem depth_else {k : Int} {ME BA : LL} (h4 : k ≠ 4) (h5 : k ≠ 5) : depthV k ME BA = 1 := by
  have e4 : (k == 4) = false := by simpa using h4
  have e5 : (k == 5) = false := by simpa using h5
  rw [depthV]
  simp only [e4, e5, cond_false]
theorem fold4 {ME BA : LL} (h : ∀ x, x ∈ ME → depthV (nth x 2).int (nth x 8).list (nth x 9).list ≤ 3) : depthV 4 ME BA = ME.foldl (fun d x => maxI d (depthV (nth x 2).int (nth x 8).list (nth x 9).list)) 0 + 1 := by
  have h1 : ME.foldl (fun d x => maxI d (depthV (nth x 2).int (nth x 8).list (nth x 9).list)) 0 ≤ 3 := fold_max.2 ⟨by omega, h⟩
  have h2 := fold_ge (f := fun x => depthV (nth x 2).int (nth x 8).list (nth x 9).list) (l := ME) (b := 0)
  rw [depth4, wrap64 (by omega) (by omega)]
theorem okV_base {s : Int} {sg bg : Bool} {NA NU ME BA : LL} {ct : Int} (h : okV 5 s sg bg NA NU ME BA ct = true) : 0 < BA.length ∧ okV (nth (row BA (0 : Int)) 0).int (nth (row BA (0 : Int)) 1).int (nth (row BA (0 : Int)) 2).bool (nth (row BA (0 : Int)) 3).bool (nth (row BA (0 : Int)) 4).list (nth (row BA (0 : Int)) 5).list (nth (row BA (0 : Int)) 6).list (nth (row BA (0 : Int)) 7).list (nth (row BA (0 : Int)) 8).int = true := by
  rw [okV_5, Bool.and_eq_true, Bool.and_eq_true] at h
  have h := h.1.2
  split at h
  · rename_i hb; exact ⟨hb, h⟩
  · cases h
theorem okV_mem {s : Int} {sg bg : Bool} {NA NU ME BA : LL} {ct : Int} (h : okV 4 s sg bg NA NU ME BA ct = true) : ∀ x, x ∈ ME → okV (nth x 2).int (nth x 3).int (nth x 4).bool (nth x 5).bool (nth x 6).list (nth x 7).list (nth x 8).list (nth x 9).list (nth x 10).int = true := by
  rw [okV_4] at h
  simp only [Bool.and_eq_true, List.all_eq_true] at h
  exact h.1.2.1.2
theorem okV_pos : ∀ {BA : LL} {k s : Int} {sg bg : Bool} {NA NU ME : LL} {ct : Int}, okV k s sg bg NA NU ME BA ct = true → 1 ≤ depthV k ME BA := by
  intro BA
  induction h : rowsDep BA using Nat.strongRecOn generalizing BA with
  | _ n ih =>
    intro k s sg bg NA NU ME ct hk
    by_cases k4 : k = 4
    · subst k4
      rw [fold4 fun x hx => (okV_top (okV_mem hk x hx)).2]
      have := fold_ge (f := fun x => depthV (nth x 2).int (nth x 8).list (nth x 9).list) (l := ME) (b := 0)
      omega
    by_cases k5 : k = 5
    · subst k5
      obtain ⟨hb, ho⟩ := okV_base hk
      have h1 := ih _ (by rw [← h]; exact pos_row hb 7) rfl ho
      have h2 := (okV_top ho).2
      rw [depth5 hb, wrap64 (by omega) (by omega)]
      omega
    rw [depth_else k4 k5]
    omega
theorem okV_isize : ∀ {BA : LL} {k s : Int} {sg bg : Bool} {NA NU ME : LL} {ct : Int}, okV k s sg bg NA NU ME BA ct = true → isizeV k s BA ct = sizeV k s BA ct ∧ isizeC k BA = true := by
  intro BA
  induction h : rowsDep BA using Nat.strongRecOn generalizing BA with
  | _ n ih =>
    intro k s sg bg NA NU ME ct hk
    rw [isizeV, isizeC, sizeV]
    cases h3 : (k == 3) with
    | true =>
      have : k = 3 := by simpa using h3
      subst this
      rw [okV_3, Bool.and_eq_true] at hk
      have hk := hk.1
      simp only [enumV, Bool.and_eq_true, beq_iff_eq] at hk
      have hb : 0 < BA.length := by omega
      have h1 := hk.2.2.2.2.2.1
      simp only [Bool.true_or, cond_true, dif_pos hb]
      rw [h1, isizeV, isizeC]
      exact ⟨rfl, rfl⟩
    | false =>
      cases h5 : (k == 5) with
      | true =>
        have : k = 5 := by simpa using h5
        subst this
        obtain ⟨hb, ho⟩ := okV_base hk
        have h1 := ih _ (by rw [← h]; exact pos_row hb 7) rfl ho
        simp only [Bool.false_or, cond_true, cond_false, dif_pos hb]
        rw [h1.1, h1.2]
        exact ⟨rfl, rfl⟩
      | false => exact ⟨rfl, rfl⟩
theorem endI_eq {ME : LL} (h : ∀ x, x ∈ ME → okV (nth x 2).int (nth x 3).int (nth x 4).bool (nth x 5).bool (nth x 6).list (nth x 7).list (nth x 8).list (nth x 9).list (nth x 10).int = true) : ∀ {j : Nat}, j ≤ ME.length → endI ME j = endAt ME j
  | 0, _ => rfl
  | j + 1, hj => by
    rw [endI, endAt, (okV_isize (h (row ME (j : Int)) (by rw [row_nat]; exact mem_getD (by omega)))).1]
def numP (NU : LL) (lo hi i : Int) : Bool := inB (intAt NU i) lo hi && ascB NU i
theorem inB_iff {n lo hi : Int} : inB n lo hi = true ↔ lo ≤ n ∧ n ≤ hi := by
  unfold inB
  cases h : decide (n ≥ lo) with
  | true => have := of_decide_eq_true h; simp only [cond_true, decide_eq_true_eq]; omega
  | false => have := of_decide_eq_false h; simp only [cond_false]; constructor <;> intro h <;> first | (cases h; done) | omega
theorem size_else {k s : Int} {BA : LL} {ct : Int} (h3 : k ≠ 3) (h5 : k ≠ 5) : sizeV k s BA ct = s := by
  have e3 : (k == 3) = false := by simpa using h3
  have e5 : (k == 5) = false := by simpa using h5
  rw [sizeV]
  simp only [e3, e5, cond_false]
theorem size3 {s : Int} {BA : LL} {ct : Int} : sizeV 3 s BA ct = (nth (row BA (0 : Int)) 1).int := by rw [sizeV]; rfl
theorem has4_le {s : Int} (h : has4 s = true) : s ≤ 8 := by
  unfold has4 at h
  simp only [Bool.or_eq_true, beq_iff_eq] at h
  omega
theorem intV_le {s : Int} {sg bg : Bool} {NA NU ME BA : LL} {ct : Int} (h : intV s sg bg NA NU ME BA ct = true) : s ≤ 8 := by
  simp only [intV, Bool.and_eq_true] at h
  exact has4_le h.1.1.1
theorem valid_1 {s : Int} {sg bg : Bool} {NA NU ME BA : LL} {ct d : Int} (hd : 1 ≤ d) : validV 1 s sg bg NA NU ME BA ct d = intV s sg bg NA NU ME BA ct := by
  unfold validV
  rw [okV_1, depth_else (by decide) (by decide), size_else (by decide) (by decide), decide_eq_true hd]
  cases h : intV s sg bg NA NU ME BA ct with
  | false => rfl
  | true => have := intV_le h; rw [decide_eq_true (show s ≤ 24 by omega)]; rfl
theorem pure1 {s : Int} {sg bg : Bool} {NA NU ME BA : LL} {ct d : Int} (hd : 1 ≤ d) : (bif !(sameV 1 s sg bg NA NU ME BA ct 1 s sg bg [] [] [] [] 0) then false else (has4 s && (!((s == 8) && !sg) && !((s == 1) && bg)))) = validV 1 s sg bg NA NU ME BA ct d := by
  rw [valid_1 hd]
  unfold intV sameV empt
  simp only [eqL_nil, beq_self_eq_true, Bool.true_and, bif_nf]
  ac_rfl
theorem valid_2 {s : Int} {sg bg : Bool} {NA NU ME BA : LL} {ct d : Int} (hd : 1 ≤ d) : validV 2 s sg bg NA NU ME BA ct d = (inB s 1 16 && bareV sg bg NA NU ME BA ct) := by
  unfold validV
  rw [okV_2, depth_else (by decide) (by decide), size_else (by decide) (by decide), decide_eq_true hd]
  cases h : inB s 1 16 with
  | false => rfl
  | true => have := inB_iff.1 h; rw [decide_eq_true (show s ≤ 24 by omega)]; simp
theorem valid_6 {s : Int} {sg bg : Bool} {NA NU ME BA : LL} {ct d : Int} (hd : 1 ≤ d) : validV 6 s sg bg NA NU ME BA ct d = ((s == 2) && bareV sg bg NA NU ME BA ct) := by
  unfold validV
  rw [okV_6, depth_else (by decide) (by decide), size_else (by decide) (by decide), decide_eq_true hd]
  cases h : (s == 2) with
  | false => rfl
  | true => have := beq_iff_eq.1 h; rw [decide_eq_true (show s ≤ 24 by omega)]; simp
theorem pureB {k s : Int} {b sg bg : Bool} {NA NU ME BA : LL} {ct : Int} : (bif !(sameV k s sg bg NA NU ME BA ct k s false false [] [] [] [] 0) then false else b) = (b && bareV sg bg NA NU ME BA ct) := by
  unfold sameV bareV plain empt
  simp only [eqL_nil, beq_self_eq_true, Bool.true_and, bif_nf, beq_false]
  ac_rfl
theorem len0 {A : LL} : (!decide ((A.length : Int) > 0)) = ((A.length : Int) == 0) := by
  rw [Bool.eq_iff_iff]; simp
theorem pure3 {s : Int} {sg bg : Bool} {NA NU ME BA : LL} {ct d : Int} (hd : 1 ≤ d) : (bif !(sameV 3 s sg bg NA NU ME BA ct 3 0 false false NA NU [] BA 0) then false else (((BA.length : Int) == 1) && (((nth (row BA (0 : Int)) 0).int == 1) && (validV (nth (row BA (0 : Int)) 0).int (nth (row BA (0 : Int)) 1).int (nth (row BA (0 : Int)) 2).bool (nth (row BA (0 : Int)) 3).bool (nth (row BA (0 : Int)) 4).list (nth (row BA (0 : Int)) 5).list (nth (row BA (0 : Int)) 6).list (nth (row BA (0 : Int)) 7).list (nth (row BA (0 : Int)) 8).int 1 && (allI (fun i : Nat => numP NU (loV (nth (row BA (0 : Int)) 1).int (nth (row BA (0 : Int)) 2).bool) (hiV (nth (row BA (0 : Int)) 1).int (nth (row BA (0 : Int)) 2).bool) (i : Int)) NU.length && (inB (NU.length : Int) 1 6 && (((NA.length : Int) == (NU.length : Int)) && allI (fun i : Nat => dnP NA (i : Int)) NA.length))))))) = validV 3 s sg bg NA NU ME BA ct d := by
  show _ = (okV 3 s sg bg NA NU ME BA ct && decide (depthV 3 ME BA ≤ d))
  rw [okV_3, depth_else (k := 3) (by decide) (by decide), decide_eq_true hd, size3]
  unfold sameV enumV plain
  simp only [eqL_nil, eqL_refl, beq_self_eq_true, Bool.true_and, Bool.and_true, bif_nf, beq_false, len0]
  cases hk : ((nth (row BA (0 : Int)) 0).int == 1) with
  | false => simp only [Bool.false_and, Bool.and_false]
  | true =>
    rw [show validV (nth (row BA (0 : Int)) 0).int (nth (row BA (0 : Int)) 1).int (nth (row BA (0 : Int)) 2).bool (nth (row BA (0 : Int)) 3).bool (nth (row BA (0 : Int)) 4).list (nth (row BA (0 : Int)) 5).list (nth (row BA (0 : Int)) 6).list (nth (row BA (0 : Int)) 7).list (nth (row BA (0 : Int)) 8).int 1 = intV (nth (row BA (0 : Int)) 1).int (nth (row BA (0 : Int)) 2).bool (nth (row BA (0 : Int)) 3).bool (nth (row BA (0 : Int)) 4).list (nth (row BA (0 : Int)) 5).list (nth (row BA (0 : Int)) 6).list (nth (row BA (0 : Int)) 7).list (nth (row BA (0 : Int)) 8).int from by rw [beq_iff_eq.1 hk]; exact valid_1 (by omega)]
    cases hI : intV (nth (row BA (0 : Int)) 1).int (nth (row BA (0 : Int)) 2).bool (nth (row BA (0 : Int)) 3).bool (nth (row BA (0 : Int)) 4).list (nth (row BA (0 : Int)) 5).list (nth (row BA (0 : Int)) 6).list (nth (row BA (0 : Int)) 7).list (nth (row BA (0 : Int)) 8).int with
    | false => simp only [Bool.false_and, Bool.and_false]
    | true =>
      have hs := intV_le hI
      rw [decide_eq_true (show (nth (row BA (0 : Int)) 1).int ≤ 24 by omega)]
      rw [Bool.eq_iff_iff]
      simp only [Bool.true_and, Bool.and_true, Bool.and_eq_true, beq_iff_eq, inB_iff, allI_iff, Bool.not_eq_true', decide_eq_false_iff_not, show decide ((1 : Int) ≤ 3) = true from rfl]
      constructor
      · rintro ⟨⟨a1, a2, a3, a4, a5⟩, a6, a7, ⟨a8, a9⟩, a10, a11⟩
        refine ⟨a1, ⟨a2, a3⟩, a5, a4, a6, by omega, by omega, a10.symm, fun i hi => ?_⟩
        have n1 := a7 i (by omega)
        have n2 := a11 i hi
        simp only [numP, dnP, Bool.and_eq_true] at n1 n2
        simp only [enumP, Bool.and_eq_true]
        exact ⟨⟨⟨n2.1, n1.1⟩, n1.2⟩, n2.2⟩
      · rintro ⟨a1, ⟨a2, a3⟩, a5, a4, a6, a7, a8, a9, a10⟩
        refine ⟨⟨a1, a2, a3, a4, a5⟩, a6, fun i hi => ?_, ⟨by omega, by omega⟩, a9.symm, fun i hi => ?_⟩
        · have n := a10 i (by omega)
          simp only [enumP, Bool.and_eq_true] at n
          simp only [numP, Bool.and_eq_true]
          exact ⟨n.1.1.2, n.1.2⟩
        · have n := a10 i hi
          simp only [enumP, Bool.and_eq_true] at n
          simp only [dnP, Bool.and_eq_true]
          exact ⟨n.1.1.1, n.2⟩
theorem pure4 {s : Int} {sg bg : Bool} {NA NU ME BA : LL} {ct d : Int} (hd : 1 ≤ d) (hd3 : d ≤ 3) : (bif !(sameV 4 s sg bg NA NU ME BA ct 4 s false false [] [] ME [] 0) then false else (inB s 1 24 && (inB (ME.length : Int) 1 4 && ((allI (memI ME) ME.length && ME.all fun x => validV (nth x 2).int (nth x 3).int (nth x 4).bool (nth x 5).bool (nth x 6).list (nth x 7).list (nth x 8).list (nth x 9).list (nth x 10).int (d - 1)) && (decide (endI ME ME.length ≤ s) && allI (fun i : Nat => dnP ME (i : Int)) ME.length))))) = validV 4 s sg bg NA NU ME BA ct d := by
  unfold validV
  rw [okV_4, size_else (by decide) (by decide)]
  unfold sameV compS plain
  simp only [eqL_nil, eqL_refl, beq_self_eq_true, Bool.true_and, Bool.and_true, bif_nf, beq_false, len0]
  rw [Bool.eq_iff_iff]
  simp only [Bool.true_and, Bool.and_true, Bool.and_eq_true, beq_iff_eq, inB_iff, allI_iff, Bool.not_eq_true', decide_eq_false_iff_not, decide_eq_true_eq, List.all_eq_true]
  constructor
  · rintro ⟨⟨a1, a2, a3, a4, a5, a6⟩, ⟨a7, a8⟩, ⟨a9, a10⟩, ⟨a11, a12⟩, a13, a14⟩
    have hok : ∀ x, x ∈ ME → okV (nth x 2).int (nth x 3).int (nth x 4).bool (nth x 5).bool (nth x 6).list (nth x 7).list (nth x 8).list (nth x 9).list (nth x 10).int = true := fun x hx => (a12 x hx).1
    have hf : depthV 4 ME BA ≤ d := by
      rw [fold4 fun x hx => (okV_top (hok x hx)).2]
      have := (fold_max (f := fun x => depthV (nth x 2).int (nth x 8).list (nth x 9).list) (c := d - 1) (l := ME) (b := 0)).2 ⟨by omega, fun x hx => (a12 x hx).2⟩
      omega
    refine ⟨⟨⟨⟨⟨a7, a8⟩, ⟨a1, a2⟩, a4, a5, a6, a3, by omega, by omega⟩, ⟨fun i hi => ?_, hok⟩, by rw [← endI_eq hok (Nat.le_refl _)]; exact a13⟩, a8, by omega⟩, hf⟩
    have n1 := a11 i hi
    have n2 := a14 i hi
    simp only [memI, dnP, Bool.and_eq_true, endI_eq hok (Nat.le_of_lt hi)] at n1 n2
    simp only [memP, Bool.and_eq_true]
    exact ⟨n2.1, n1.1, n1.2, n2.2⟩
  · rintro ⟨⟨⟨⟨⟨a7, a8⟩, ⟨a1, a2⟩, a4, a5, a6, a3, a9, a10⟩, ⟨a11, hok⟩, a13⟩, a15, a16⟩, hf⟩
    have hd' : ∀ x, x ∈ ME → depthV (nth x 2).int (nth x 8).list (nth x 9).list ≤ d - 1 := by
      rw [fold4 fun x hx => (okV_top (hok x hx)).2] at hf
      exact ((fold_max (f := fun x => depthV (nth x 2).int (nth x 8).list (nth x 9).list) (c := d - 1) (l := ME) (b := 0)).1 (by omega)).2
    refine ⟨⟨a1, a2, a3, a4, a5, a6⟩, ⟨a7, a8⟩, ⟨by omega, by omega⟩, ⟨fun i hi => ?_, fun x hx => ⟨hok x hx, hd' x hx⟩⟩, by rw [endI_eq hok (Nat.le_refl _)]; exact a13, fun i hi => ?_⟩
    · have n := a11 i hi
      simp only [memP, Bool.and_eq_true] at n
      simp only [memI, Bool.and_eq_true, endI_eq hok (Nat.le_of_lt hi)]
      exact ⟨n.2.1, n.2.2.1⟩
    · have n := a11 i hi
      simp only [memP, Bool.and_eq_true] at n
      simp only [dnP, Bool.and_eq_true]
      exact ⟨n.1, n.2.2.2⟩
theorem pure5 {s : Int} {sg bg : Bool} {NA NU ME BA : LL} {ct d : Int} (hd : 1 ≤ d) (hd3 : d ≤ 3) : (bif !(sameV 5 s sg bg NA NU ME BA ct 5 0 false false [] [] [] BA ct) then false else (inB ct 1 4 && (((BA.length : Int) == 1) && (validV (nth (row BA (0 : Int)) 0).int (nth (row BA (0 : Int)) 1).int (nth (row BA (0 : Int)) 2).bool (nth (row BA (0 : Int)) 3).bool (nth (row BA (0 : Int)) 4).list (nth (row BA (0 : Int)) 5).list (nth (row BA (0 : Int)) 6).list (nth (row BA (0 : Int)) 7).list (nth (row BA (0 : Int)) 8).int (d - 1) && decide (isizeV 5 s BA ct ≤ 24))))) = validV 5 s sg bg NA NU ME BA ct d := by
  cases hb : ((BA.length : Int) == 1) with
  | false =>
    unfold validV
    rw [okV_5]
    unfold arrS
    rw [hb]
    simp only [Bool.false_and, Bool.and_false, bif_nf]
  | true =>
    have hb0 : 0 < BA.length := by have := beq_iff_eq.1 hb; omega
    cases ho : okV (nth (row BA (0 : Int)) 0).int (nth (row BA (0 : Int)) 1).int (nth (row BA (0 : Int)) 2).bool (nth (row BA (0 : Int)) 3).bool (nth (row BA (0 : Int)) 4).list (nth (row BA (0 : Int)) 5).list (nth (row BA (0 : Int)) 6).list (nth (row BA (0 : Int)) 7).list (nth (row BA (0 : Int)) 8).int with
    | false =>
      have e1 : validV (nth (row BA (0 : Int)) 0).int (nth (row BA (0 : Int)) 1).int (nth (row BA (0 : Int)) 2).bool (nth (row BA (0 : Int)) 3).bool (nth (row BA (0 : Int)) 4).list (nth (row BA (0 : Int)) 5).list (nth (row BA (0 : Int)) 6).list (nth (row BA (0 : Int)) 7).list (nth (row BA (0 : Int)) 8).int (d - 1) = false := by unfold validV; rw [ho]; rfl
      have e2 : validV 5 s sg bg NA NU ME BA ct d = false := by
        unfold validV
        rw [okV_5, dif_pos hb0, ho]
        simp only [Bool.and_false, Bool.false_and]
      rw [e1, e2]
      simp only [Bool.false_and, Bool.and_false, bif_nf]
    | true =>
      have hi := okV_isize ho
      have hsz : isizeV 5 s BA ct = sizeV 5 s BA ct := by
        rw [isizeV, sizeV]
        show (if h : 0 < BA.length then IntKind.wrap .i64 (ct * isizeV (nth (row BA (0 : Int)) 0).int (nth (row BA (0 : Int)) 1).int (nth (row BA (0 : Int)) 7).list (nth (row BA (0 : Int)) 8).int) else 0) = (if h : 0 < BA.length then IntKind.wrap .i64 (ct * sizeV (nth (row BA (0 : Int)) 0).int (nth (row BA (0 : Int)) 1).int (nth (row BA (0 : Int)) 7).list (nth (row BA (0 : Int)) 8).int) else 0)
        rw [dif_pos hb0, dif_pos hb0, hi.1]
      have ht := okV_top ho
      have hp := okV_pos ho
      unfold validV
      rw [okV_5, dif_pos hb0, ho, hsz, depth5 hb0, wrap64 (by omega) (by omega)]
      unfold sameV arrS plain
      simp only [eqL_nil, eqL_refl, beq_self_eq_true, Bool.true_and, Bool.and_true, bif_nf, beq_false, len0, hb]
      rw [show decide (depthV (nth (row BA (0 : Int)) 0).int (nth (row BA (0 : Int)) 6).list (nth (row BA (0 : Int)) 7).list + 1 ≤ d) = decide (depthV (nth (row BA (0 : Int)) 0).int (nth (row BA (0 : Int)) 6).list (nth (row BA (0 : Int)) 7).list ≤ d - 1) from by rw [Bool.eq_iff_iff]; simp only [decide_eq_true_eq]; omega]
      rw [Bool.eq_iff_iff]
      simp only [Bool.and_eq_true, decide_eq_true_eq]
      constructor
      · rintro ⟨⟨a1, a2, a3, a4, a5, a6⟩, a7, a8, a9⟩
        exact ⟨⟨⟨a1, ⟨a2, a3⟩, a4, a5, a6, a7⟩, a9, by omega⟩, a8⟩
      · rintro ⟨⟨⟨a1, ⟨a2, a3⟩, a4, a5, a6, a7⟩, a9, a10⟩, a8⟩
        exact ⟨⟨a1, a2, a3, a4, a5, a6⟩, a7, a8, a9⟩
def numK (k : Int) : Bool := bif k == 1 then true else bif k == 3 then true else k == 6
def rangeT (k s : Int) (sg : Bool) (NU : LL) : Int × Int := bif k == 3 then (intAt NU 0, intAt NU (IntKind.wrap .i64 ((NU.length : Int) - (1 : Int)))) else bif k == 6 then (0, 65535) else (loV s sg, hiV s sg)
theorem okV_enum {s : Int} {sg bg : Bool} {NA NU ME BA : LL} {ct : Int} (h : okV 3 s sg bg NA NU ME BA ct = true) : 1 ≤ NU.length ∧ NU.length ≤ 6 ∧ NA.length = NU.length ∧ BA.length = 1 ∧ (nth (row BA (0 : Int)) 0).int = 1 ∧ intV (nth (row BA (0 : Int)) 1).int (nth (row BA (0 : Int)) 2).bool (nth (row BA (0 : Int)) 3).bool (nth (row BA (0 : Int)) 4).list (nth (row BA (0 : Int)) 5).list (nth (row BA (0 : Int)) 6).list (nth (row BA (0 : Int)) 7).list (nth (row BA (0 : Int)) 8).int = true ∧ ∀ i, i < NU.length → enumP NA NU (loV (nth (row BA (0 : Int)) 1).int (nth (row BA (0 : Int)) 2).bool) (hiV (nth (row BA (0 : Int)) 1).int (nth (row BA (0 : Int)) 2).bool) (i : Int) = true := by
  rw [okV_3] at h
  simp only [enumV, Bool.and_eq_true, beq_iff_eq, Bool.not_eq_true', decide_eq_false_iff_not, allI_iff] at h
  obtain ⟨⟨a1, a2, a3, a4, a5, a6, a7, a8, a9, a10, a11⟩, -⟩ := h
  exact ⟨by omega, by omega, by omega, by omega, a6, a7, fun i hi => a11 i (by omega)⟩
theorem okV_int {s : Int} {sg bg : Bool} {NA NU ME BA : LL} {ct : Int} (h : okV 1 s sg bg NA NU ME BA ct = true) : intV s sg bg NA NU ME BA ct = true := by
  rw [okV_1, Bool.and_eq_true] at h
  exact h.1
def memNo (A : LL) (nm : BS) : Bool := A.all fun x => !((nth x 0).str == nm)
def memIx (A : LL) (nm : BS) : Nat := A.findIdx fun x => !(!((nth x 0).str == nm))
theorem memIx_lt {A : LL} {nm : BS} (h : memNo A nm = false) : memIx A nm < A.length := by
  unfold memNo at h
  unfold memIx
  rw [List.findIdx_lt_length]
  obtain ⟨x, hx, hp⟩ := List.all_eq_false.1 h
  exact ⟨x, hx, by simpa using hp⟩
def numE (k : Int) : Bool := bif k == 1 then true else k == 3
def canV (k : Int) (ME BA : LL) (ct k2 : Int) (ME2 BA2 : LL) (ct2 : Int) : Bool :=
  bif numE k || numE k2 then numE k && numE k2
  else bif !(k == k2) then false
  else bif k == 5 then (if h : 0 < BA2.length then (ct == ct2) && canV (nth (row BA (0 : Int)) 0).int (nth (row BA (0 : Int)) 6).list (nth (row BA (0 : Int)) 7).list (nth (row BA (0 : Int)) 8).int (nth (row BA2 (0 : Int)) 0).int (nth (row BA2 (0 : Int)) 6).list (nth (row BA2 (0 : Int)) 7).list (nth (row BA2 (0 : Int)) 8).int else false)
  else ME2.attach.all fun y => memNo ME (nth y.1 0).str || canV (nth (row ME ((memIx ME (nth y.1 0).str : Nat) : Int)) 2).int (nth (row ME ((memIx ME (nth y.1 0).str : Nat) : Int)) 8).list (nth (row ME ((memIx ME (nth y.1 0).str : Nat) : Int)) 9).list (nth (row ME ((memIx ME (nth y.1 0).str : Nat) : Int)) 10).int (nth y.1 2).int (nth y.1 8).list (nth y.1 9).list (nth y.1 10).int
termination_by max (rowsDep ME2) (rowsDep BA2)
decreasing_by
  · exact dep_base h 6 7
  · exact dep_max y.2 8 9
theorem attach_can {ME ME2 : LL} : (ME2.attach.all fun y => memNo ME (nth y.1 0).str || canV (nth (row ME ((memIx ME (nth y.1 0).str : Nat) : Int)) 2).int (nth (row ME ((memIx ME (nth y.1 0).str : Nat) : Int)) 8).list (nth (row ME ((memIx ME (nth y.1 0).str : Nat) : Int)) 9).list (nth (row ME ((memIx ME (nth y.1 0).str : Nat) : Int)) 10).int (nth y.1 2).int (nth y.1 8).list (nth y.1 9).list (nth y.1 10).int) = ME2.all fun y => memNo ME (nth y 0).str || canV (nth (row ME ((memIx ME (nth y 0).str : Nat) : Int)) 2).int (nth (row ME ((memIx ME (nth y 0).str : Nat) : Int)) 8).list (nth (row ME ((memIx ME (nth y 0).str : Nat) : Int)) 9).list (nth (row ME ((memIx ME (nth y 0).str : Nat) : Int)) 10).int (nth y 2).int (nth y 8).list (nth y 9).list (nth y 10).int := attach_all (p := fun y => memNo ME (nth y 0).str || canV (nth (row ME ((memIx ME (nth y 0).str : Nat) : Int)) 2).int (nth (row ME ((memIx ME (nth y 0).str : Nat) : Int)) 8).list (nth (row ME ((memIx ME (nth y 0).str : Nat) : Int)) 9).list (nth (row ME ((memIx ME (nth y 0).str : Nat) : Int)) 10).int (nth y 2).int (nth y 8).list (nth y 9).list (nth y 10).int)
theorem okV_me {k s : Int} {sg bg : Bool} {NA NU ME BA : LL} {ct : Int} (h : okV k s sg bg NA NU ME BA ct = true) : ME.length ≤ 4 ∧ ∀ x, x ∈ ME → okV (nth x 2).int (nth x 3).int (nth x 4).bool (nth x 5).bool (nth x 6).list (nth x 7).list (nth x 8).list (nth x 9).list (nth x 10).int = true := by
  have nil : ME.length = 0 → ME.length ≤ 4 ∧ ∀ x, x ∈ ME → okV (nth x 2).int (nth x 3).int (nth x 4).bool (nth x 5).bool (nth x 6).list (nth x 7).list (nth x 8).list (nth x 9).list (nth x 10).int = true := fun h => by
    have := List.eq_nil_of_length_eq_zero h
    subst this
    exact ⟨by simp, fun x hx => by cases hx⟩
  rcases okV_kind h with rfl | rfl | rfl | rfl | rfl | rfl
  · have := okV_int h
    simp only [intV, empt, Bool.and_eq_true, beq_iff_eq] at this
    exact nil (by omega)
  · rw [okV_2] at h
    simp only [bareV, empt, Bool.and_eq_true, beq_iff_eq] at h
    exact nil (by omega)
  · rw [okV_3] at h
    simp only [enumV, Bool.and_eq_true, beq_iff_eq, Bool.not_eq_true', decide_eq_false_iff_not] at h
    exact nil (by omega)
  · have h2 := okV_mem h
    rw [okV_4] at h
    simp only [Bool.and_eq_true, compS, Bool.not_eq_true', decide_eq_false_iff_not] at h
    exact ⟨by omega, h2⟩
  · rw [okV_5] at h
    simp only [arrS, Bool.and_eq_true, beq_iff_eq, Bool.not_eq_true', decide_eq_false_iff_not] at h
    exact nil (by omega)
  · rw [okV_6] at h
    simp only [bareV, empt, Bool.and_eq_true, beq_iff_eq] at h
    exact nil (by omega)
def ascU (A : LL) : Prop := ∀ p q : Nat, p < q → q < A.length → intAt A (p : Int) < intAt A (q : Int)
theorem asc_step {A : LL} (h : ∀ i : Nat, 0 < i → i < A.length → intAt A ((i - 1 : Nat) : Int) < intAt A (i : Int)) : ascU A := by
  intro p q hpq hq
  induction q with
  | zero => omega
  | succ q ih =>
    have h1 := h (q + 1) (by omega) hq
    rw [show q + 1 - 1 = q from rfl] at h1
    rcases Nat.lt_or_ge p q with h2 | h2
    · have := ih h2 (by omega); omega
    · rw [show p = q by omega]; exact h1
theorem lo_hi {s : Int} {sg bg : Bool} {NA NU ME BA : LL} {ct : Int} (h : intV s sg bg NA NU ME BA ct = true) : loV s sg ≤ hiV s sg ∧ -9223372036854775808 ≤ loV s sg ∧ hiV s sg ≤ 9223372036854775807 := by
  simp only [intV, has4, Bool.and_eq_true, Bool.or_eq_true, beq_iff_eq] at h
  have hs := h.1.1.1
  rcases hs with ((rfl | rfl) | rfl) | rfl <;> cases sg <;> (unfold loV hiV; decide)
theorem enum_asc {NA NU ME BA : LL} {s : Int} {sg bg : Bool} {ct : Int} (h : okV 3 s sg bg NA NU ME BA ct = true) : ascU NU ∧ ∀ i : Nat, i < NU.length → -9223372036854775808 ≤ intAt NU (i : Int) ∧ intAt NU (i : Int) ≤ 9223372036854775807 := by
  obtain ⟨e1, e2, e3, e4, e5, e6, e7⟩ := okV_enum h
  have hb : ∀ i : Nat, i < NU.length → -9223372036854775808 ≤ intAt NU (i : Int) ∧ intAt NU (i : Int) ≤ 9223372036854775807 := fun i hi => by
    have q := e7 i hi
    unfold enumP at q
    simp only [Bool.and_eq_true] at q
    have q2 := q.1.1.2
    have lh := lo_hi e6
    unfold inB at q2
    cases hd : decide (intAt NU (i : Int) ≥ loV (nth (row BA (0 : Int)) 1).int (nth (row BA (0 : Int)) 2).bool) with
    | true =>
      rw [hd] at q2
      have a := of_decide_eq_true hd
      have b : intAt NU (i : Int) ≤ hiV (nth (row BA (0 : Int)) 1).int (nth (row BA (0 : Int)) 2).bool := of_decide_eq_true q2
      omega
    | false => rw [hd] at q2; cases q2
  refine ⟨asc_step fun i h0 hi => ?_, hb⟩
  have q := e7 i hi
  unfold enumP at q
  simp only [Bool.and_eq_true] at q
  have q2 := q.1.2
  unfold ascB at q2
  rw [decide_eq_true (show (i : Int) > 0 by omega)] at q2
  rw [wrap64 (i := (i : Int) - 1) (by omega) (by omega)] at q2
  have q3 : ¬ (intAt NU ((i : Int) - 1) ≥ intAt NU (i : Int)) := by simpa using q2
  rw [show ((i - 1 : Nat) : Int) = (i : Int) - 1 by omega]
  omega
def inI (a b c : Int) : Bool := bif decide (a ≥ b) then decide (a ≤ c) else false
def elemV (k s : Int) (sg : Bool) (NU : LL) (n : Int) : Bool := bif k == 3 then !(NU.all (fun x => !((nth x 0).int == n))) else bif k == 1 then inI n (loV s sg) (hiV s sg) else bif k == 6 then inI n 0 65535 else false
def namesIn (A C : LL) : Bool := A.all fun x => !(memNo C (nth x 0).str)
def numA (k s : Int) (sg : Bool) (NA NU : LL) (k2 s2 : Int) (sg2 : Bool) (NA2 NU2 : LL) : Bool := bif (bif k == 3 then k2 == 3 else false) then namesIn NA NA2 else bif (bif k == 1 then k2 == 3 else false) then false else bif decide ((rangeT k s sg NU).1 ≥ (rangeT k2 s2 sg2 NU2).1) then decide ((rangeT k s sg NU).2 ≤ (rangeT k2 s2 sg2 NU2).2) else false
def alwV (k s : Int) (sg : Bool) (NA NU ME BA : LL) (k2 s2 : Int) (sg2 : Bool) (NA2 NU2 ME2 BA2 : LL) : Bool :=
  bif numE k then numA k s sg NA NU k2 s2 sg2 NA2 NU2
  else bif k == 2 then decide (s ≤ s2)
  else bif k == 5 then (if h : 0 < BA2.length then alwV (nth (row BA (0 : Int)) 0).int (nth (row BA (0 : Int)) 1).int (nth (row BA (0 : Int)) 2).bool (nth (row BA (0 : Int)) 4).list (nth (row BA (0 : Int)) 5).list (nth (row BA (0 : Int)) 6).list (nth (row BA (0 : Int)) 7).list (nth (row BA2 (0 : Int)) 0).int (nth (row BA2 (0 : Int)) 1).int (nth (row BA2 (0 : Int)) 2).bool (nth (row BA2 (0 : Int)) 4).list (nth (row BA2 (0 : Int)) 5).list (nth (row BA2 (0 : Int)) 6).list (nth (row BA2 (0 : Int)) 7).list else false)
  else ME2.attach.all fun y => memNo ME (nth y.1 0).str || alwV (nth (row ME ((memIx ME (nth y.1 0).str : Nat) : Int)) 2).int (nth (row ME ((memIx ME (nth y.1 0).str : Nat) : Int)) 3).int (nth (row ME ((memIx ME (nth y.1 0).str : Nat) : Int)) 4).bool (nth (row ME ((memIx ME (nth y.1 0).str : Nat) : Int)) 6).list (nth (row ME ((memIx ME (nth y.1 0).str : Nat) : Int)) 7).list (nth (row ME ((memIx ME (nth y.1 0).str : Nat) : Int)) 8).list (nth (row ME ((memIx ME (nth y.1 0).str : Nat) : Int)) 9).list (nth y.1 2).int (nth y.1 3).int (nth y.1 4).bool (nth y.1 6).list (nth y.1 7).list (nth y.1 8).list (nth y.1 9).list
termination_by max (rowsDep ME2) (rowsDep BA2)
decreasing_by
  · exact dep_base h 6 7
  · exact dep_max y.2 8 9
theorem attach_alw {ME ME2 : LL} : (ME2.attach.all fun y => memNo ME (nth y.1 0).str || alwV (nth (row ME ((memIx ME (nth y.1 0).str : Nat) : Int)) 2).int (nth (row ME ((memIx ME (nth y.1 0).str : Nat) : Int)) 3).int (nth (row ME ((memIx ME (nth y.1 0).str : Nat) : Int)) 4).bool (nth (row ME ((memIx ME (nth y.1 0).str : Nat) : Int)) 6).list (nth (row ME ((memIx ME (nth y.1 0).str : Nat) : Int)) 7).list (nth (row ME ((memIx ME (nth y.1 0).str : Nat) : Int)) 8).list (nth (row ME ((memIx ME (nth y.1 0).str : Nat) : Int)) 9).list (nth y.1 2).int (nth y.1 3).int (nth y.1 4).bool (nth y.1 6).list (nth y.1 7).list (nth y.1 8).list (nth y.1 9).list) = ME2.all fun y => memNo ME (nth y 0).str || alwV (nth (row ME ((memIx ME (nth y 0).str : Nat) : Int)) 2).int (nth (row ME ((memIx ME (nth y 0).str : Nat) : Int)) 3).int (nth (row ME ((memIx ME (nth y 0).str : Nat) : Int)) 4).bool (nth (row ME ((memIx ME (nth y 0).str : Nat) : Int)) 6).list (nth (row ME ((memIx ME (nth y 0).str : Nat) : Int)) 7).list (nth (row ME ((memIx ME (nth y 0).str : Nat) : Int)) 8).list (nth (row ME ((memIx ME (nth y 0).str : Nat) : Int)) 9).list (nth y 2).int (nth y 3).int (nth y 4).bool (nth y 6).list (nth y 7).list (nth y 8).list (nth y 9).list := attach_all (p := fun y => memNo ME (nth y 0).str || alwV (nth (row ME ((memIx ME (nth y 0).str : Nat) : Int)) 2).int (nth (row ME ((memIx ME (nth y 0).str : Nat) : Int)) 3).int (nth (row ME ((memIx ME (nth y 0).str : Nat) : Int)) 4).bool (nth (row ME ((memIx ME (nth y 0).str : Nat) : Int)) 6).list (nth (row ME ((memIx ME (nth y 0).str : Nat) : Int)) 7).list (nth (row ME ((memIx ME (nth y 0).str : Nat) : Int)) 8).list (nth (row ME ((memIx ME (nth y 0).str : Nat) : Int)) 9).list (nth y 2).int (nth y 3).int (nth y 4).bool (nth y 6).list (nth y 7).list (nth y 8).list (nth y 9).list)
theorem can_num {k : Int} {ME BA : LL} {ct k2 : Int} {ME2 BA2 : LL} {ct2 : Int} (h : canV k ME BA ct k2 ME2 BA2 ct2 = true) : numE k2 = numE k := by
  rw [canV] at h
  cases h1 : numE k <;> cases h2 : numE k2 <;> first | rfl | (rw [h1, h2] at h; cases h)
theorem can_kind {k : Int} {ME BA : LL} {ct k2 : Int} {ME2 BA2 : LL} {ct2 : Int} (h : canV k ME BA ct k2 ME2 BA2 ct2 = true) (hn : numE k = false) : k = k2 := by
  have hn2 := (can_num h).trans hn
  rw [canV, hn, hn2] at h
  cases hk : (k == k2) with
  | true => exact eq_of_beq hk
  | false => rw [hk] at h; cases h
theorem can_base {ME BA : LL} {ct k2 : Int} {ME2 BA2 : LL} {ct2 : Int} (h : canV 5 ME BA ct k2 ME2 BA2 ct2 = true) : ct = ct2 ∧ canV (nth (row BA (0 : Int)) 0).int (nth (row BA (0 : Int)) 6).list (nth (row BA (0 : Int)) 7).list (nth (row BA (0 : Int)) 8).int (nth (row BA2 (0 : Int)) 0).int (nth (row BA2 (0 : Int)) 6).list (nth (row BA2 (0 : Int)) 7).list (nth (row BA2 (0 : Int)) 8).int = true := by
  have hk := can_kind h rfl
  subst hk
  rw [canV] at h
  have h : (if h : 0 < BA2.length then (ct == ct2) && canV (nth (row BA (0 : Int)) 0).int (nth (row BA (0 : Int)) 6).list (nth (row BA (0 : Int)) 7).list (nth (row BA (0 : Int)) 8).int (nth (row BA2 (0 : Int)) 0).int (nth (row BA2 (0 : Int)) 6).list (nth (row BA2 (0 : Int)) 7).list (nth (row BA2 (0 : Int)) 8).int else false) = true := h
  split at h
  · rw [Bool.and_eq_true] at h
    exact ⟨eq_of_beq h.1, h.2⟩
  · cases h
theorem can_mem {k : Int} {ME BA : LL} {ct k2 : Int} {ME2 BA2 : LL} {ct2 : Int} (h : canV k ME BA ct k2 ME2 BA2 ct2 = true) (hn : numE k = false) (h5 : (k == 5) = false) : ∀ y, y ∈ ME2 → memNo ME (nth y 0).str = false → canV (nth (row ME ((memIx ME (nth y 0).str : Nat) : Int)) 2).int (nth (row ME ((memIx ME (nth y 0).str : Nat) : Int)) 8).list (nth (row ME ((memIx ME (nth y 0).str : Nat) : Int)) 9).list (nth (row ME ((memIx ME (nth y 0).str : Nat) : Int)) 10).int (nth y 2).int (nth y 8).list (nth y 9).list (nth y 10).int = true := by
  have hn2 := (can_num h).trans hn
  have hk := can_kind h hn
  subst hk
  rw [canV, attach_can, hn, h5, show (k == k) = true from beq_self_eq_true k] at h
  have h : (ME2.all fun y => memNo ME (nth y 0).str || canV (nth (row ME ((memIx ME (nth y 0).str : Nat) : Int)) 2).int (nth (row ME ((memIx ME (nth y 0).str : Nat) : Int)) 8).list (nth (row ME ((memIx ME (nth y 0).str : Nat) : Int)) 9).list (nth (row ME ((memIx ME (nth y 0).str : Nat) : Int)) 10).int (nth y 2).int (nth y 8).list (nth y 9).list (nth y 10).int) = true := h
  rw [List.all_eq_true] at h
  intro y hy hm
  have := h y hy
  rw [hm] at this
  exact this
theorem asc_le {A : LL} (ha : ascU A) {p q : Nat} (h : p ≤ q) (hq : q < A.length) : intAt A (p : Int) ≤ intAt A (q : Int) := by
  rcases Nat.lt_or_ge p q with h1 | h1
  · exact Int.le_of_lt (ha p q h1 hq)
  · rw [Nat.le_antisymm h h1]; exact Int.le_refl _
theorem inI_iff {n lo hi : Int} : inI n lo hi = true ↔ lo ≤ n ∧ n ≤ hi := by
  unfold inI
  cases h : decide (n ≥ lo) with
  | true => have := of_decide_eq_true h; simp only [cond_true, decide_eq_true_eq]; omega
  | false => have := of_decide_eq_false h; simp only [cond_false]; constructor <;> intro h <;> first | (cases h; done) | omega
theorem two_iff {a b c d : Int} : (bif decide (a ≥ c) then decide (b ≤ d) else false) = true ↔ c ≤ a ∧ b ≤ d := by
  cases h : decide (a ≥ c) with
  | true => have := of_decide_eq_true h; simp only [cond_true, decide_eq_true_eq]; omega
  | false => have := of_decide_eq_false h; simp only [cond_false]; constructor <;> intro h <;> first | (cases h; done) | omega
theorem asc_all {A : LL} {lo hi : Int} (ha : ascU A) (h1 : 1 ≤ A.length) (h6 : A.length ≤ 6) : (A.all fun x => inI (nth x 0).int lo hi) = (bif decide (intAt A 0 ≥ lo) then decide (intAt A (IntKind.wrap .i64 ((A.length : Int) - (1 : Int))) ≤ hi) else false) := by
  rw [wrap64 (by omega) (by omega), Bool.eq_iff_iff, two_iff, List.all_eq_true]
  have e : (A.length : Int) - 1 = ((A.length - 1 : Nat) : Int) := by omega
  rw [e]
  constructor
  · intro h
    have a := inI_iff.1 (h (row A ((0 : Nat) : Int)) (by rw [row_nat]; exact mem_getD (by omega)))
    have b := inI_iff.1 (h (row A ((A.length - 1 : Nat) : Int)) (by rw [row_nat]; exact mem_getD (by omega)))
    exact ⟨a.1, b.2⟩
  · rintro ⟨a, b⟩ x hx
    obtain ⟨i, hi, rfl⟩ := List.getElem_of_mem hx
    have p := asc_le ha (show 0 ≤ i from Nat.zero_le _) hi
    have q := asc_le ha (show i ≤ A.length - 1 by omega) (by omega)
    have e2 : intAt A (i : Int) = (nth A[i] 0).int := by
      unfold intAt
      rw [row_nat, getD_at hi]
    rw [e2] at p q
    exact inI_iff.2 ⟨Int.le_trans a p, Int.le_trans q b⟩
theorem can_parts {a b c : Bool} (h : (bif a then (bif b then c else false) else false) = true) : a = true ∧ b = true ∧ c = true := by
  cases a <;> cases b <;> first | exact ⟨rfl, rfl, h⟩ | cases h
theorem len_9 {α : Type} {l : List α} (h : l.length = 9) : ∃ a0 a1 a2 a3 a4 a5 a6 a7 a8, l = [a0, a1, a2, a3, a4, a5, a6, a7, a8] := by
  match l, h with
  | [a0, a1, a2, a3, a4, a5, a6, a7, a8], _ => exact ⟨a0, a1, a2, a3, a4, a5, a6, a7, a8, rfl⟩
abbrev qq_5_σ := LL × Int × Int
abbrev qq_5_ω := (Int) ⊕ (Int)
def qq_5_step (A : LL) (left i : Int) : Tr (qq_5_σ ⊕ qq_5_ω) := (.ite ((decide (i < (A.length : Int))) = true) (.ite ((0 : Int) ≤ i ∧ i < (A.length : Int)) (.ite ((decide ((IntKind.wrap .i64 (left - (((nth (row A i) 0).str).length : Int))) < (0 : Int))) = true) (.ok (.inr (.inl (IntKind.wrap .i64 (left - (((nth (row A i) 0).str).length : Int))))))
    (.ok (.inl (A, (IntKind.wrap .i64 (left - (((nth (row A i) 0).str).length : Int))), (IntKind.wrap .i64 (i + (1 : Int)))))))
   .no)
  (.ok (.inr (.inr left))))
def qq_5_st : qq_5_σ → Tr (qq_5_σ ⊕ qq_5_ω) := fun x => (qq_5_step (x.1) (x.2.1) (x.2.2))
def qq_k5_1 (A : LL) (left i : Int) : Bool := isL (loopN qq_5_st (A.length + 1) (A, left, i))
def qq_o5_2 (A : LL) (left i : Int) : Bool := is (i = 0 ∧ Typed tab (.slice 9) (.l A))
def qq_u5_2 (A : LL) (left i : Int) : Int := getL (loopN qq_5_st (A.length + 1) (A, left, i))
def qq_o5_3 (A : LL) (left i : Int) : Bool := is (i = 0 ∧ Typed tab (.slice 9) (.l A))
def qq_u5_3 (A : LL) (left i : Int) : Int := getR (loopN qq_5_st (A.length + 1) (A, left, i))
def qq_5_fin (A : LL) (left i : Int) : Told qq_5_ω := (.br (qq_k5_1 A left i) (.leaf (qq_o5_2 A left i) (.inl (qq_u5_2 A left i))) (.leaf (qq_o5_3 A left i) (.inr (qq_u5_3 A left i))))
def qq_5_sl (x : qq_5_σ) : List Slot := [⟨.val false [⟨.slice 9, .sh, TC.l (x.1)⟩], ⟨0, 0⟩⟩, ⟨.val false [⟨.int .i64, .sh, TC.i (x.2.1)⟩], ⟨0, 0⟩⟩, ⟨.val false [⟨.int .i64, .sh, TC.i (x.2.2)⟩], ⟨0, 0⟩⟩]
def qq_5_out : qq_5_ω → Ex × List Slot := (Sum.elim (fun x => (.ret, [⟨.val false [⟨.int .i64, .sh, TC.i x⟩], ⟨0, 0⟩⟩, ⟨.val false [⟨.int .i64, .sh, TC.i (-1 : Int)⟩], ⟨0, 0⟩⟩])) (fun x => (.exit 0, [⟨.val false [⟨.int .i64, .sh, TC.i x⟩], ⟨0, 0⟩⟩, Slot.none])))
def qq_lo5 : List Slot → Option (Told (Ex × List Slot)) := fun s => match s with
  | [⟨.val false [⟨.slice 9, .sh, TC.l A⟩], ⟨0, 0⟩⟩, ⟨.val false [⟨.int .i64, .sh, TC.i left⟩], ⟨0, 0⟩⟩, ⟨.val false [⟨.int .i64, .sh, TC.i i⟩], ⟨0, 0⟩⟩] => some (((qq_5_fin A left i)).map qq_5_out)
  | _ => .none
def qq_lo : LoopTeller := fun r s => bif Nat.beq r 5 then qq_lo5 s else .none
theorem qq_5_r (A : LL) (left i : Int) (fuel : Nat) : rounds (rnd tab FT D0 live 26 qq_lo 0 5) leave (fuel + 1) (qq_5_sl (A, left, i)) = ((qq_5_step A left i)).run (goOn (fun s => rounds (rnd tab FT D0 live 26 qq_lo 0 5) leave fuel (qq_5_sl s)) fun w => some (qq_5_out w)) := by kernel_rfl
theorem qq_5_h (A : LL) (left i : Int) (ow : qq_5_ω) : ((qq_5_fin A left i)).val = some ow → ∃ fuel, loopN qq_5_st fuel (A, left, i) = some ow := by
  refine auto_two (N := A.length + 1) rfl rfl rfl ?_
  intro ho
  have ho : is (i = 0 ∧ Typed tab (.slice 9) (.l A)) = true := ho.elim id id
  obtain ⟨rfl, ht⟩ := is_iff.1 ho
  have hlen : A.length ≤ 140737488351232 := by have := typed_room ht; simp only [show (tab 9).bytes = 16 from rfl] at this; omega
  refine loopN_ends (step := qq_5_st) (N := A.length) (fun i a => (A, a, (i : Int))) (fun i a hi => ?_) (fun a => ?_) A.length 0 left (by omega)
  · show (∃ a', (qq_5_step A a (i : Int)).val = _) ∨ ∃ w, (qq_5_step A a (i : Int)).val = _
    have c0 : Typed tab (.str) (.s (nth (A.getD i []) 0).str) := typed_s (typed_cell ht (A.getD i []) (mem_getD hi) 0 (by decide))
    cases hneg : ((decide ((IntKind.wrap .i64 (a - (((nth (row A i) 0).str).length : Int))) < (0 : Int))))
    · apply Or.inl
      apply Exists.intro
      · unfold qq_5_step
        refine Tr.t (by simp; omega) ?_
        refine Tr.t (by first | omega | (constructor <;> omega)) ?_
        refine Tr.n (by rw [hneg]; simp) ?_
        rw [Tr.val_ok, wrap64 (i := (i : Int) + 1) (by omega) (by omega)]; rfl
    · apply Or.inr
      apply Exists.intro
      · unfold qq_5_step
        refine Tr.t (by simp; omega) ?_
        refine Tr.t (by first | omega | (constructor <;> omega)) ?_
        refine Tr.t hneg ?_
        rfl
  · apply Exists.intro
    · show (qq_5_step A a (A.length : Int)).val = _
      refine Tr.n (by simp) ?_
      rfl
theorem qq_is5 : LoopIs tab FT D0 live 26 qq_lo 0 5 := by
  refine loop_told (sl := qq_5_sl) (step := qq_5_st) (out := qq_5_out) (lor := qq_lo5) (fin := fun x => (qq_5_fin (x.1) (x.2.1) (x.2.2))) (fun _ => rfl) ?_ (fun x n => qq_5_r x.1 x.2.1 x.2.2 n) (fun x ow => qq_5_h x.1 x.2.1 x.2.2 ow)
  intro s t h
  unfold qq_lo5 at h
  split at h
  · cases h; exact ⟨(_, _, _), rfl, rfl⟩
  · cases h
def qq_t (A : LL) (left : Int) : Tr (Int) := (.ite ((decide ((IntKind.wrap .i64 (left - (A.length : Int))) < (0 : Int))) = true) (.ok (-1 : Int))
  (.ite ((qq_k5_1 A (IntKind.wrap .i64 (left - (A.length : Int))) (0 : Int)) = true) (.ite ((qq_o5_2 A (IntKind.wrap .i64 (left - (A.length : Int))) (0 : Int)) = true) (.ok (-1 : Int))
    .no)
   (.ite ((qq_o5_3 A (IntKind.wrap .i64 (left - (A.length : Int))) (0 : Int)) = true) (.ok (qq_u5_3 A (IntKind.wrap .i64 (left - (A.length : Int))) (0 : Int)))
    .no)))
def qq_mk (p : Int) : Res := [(false, [⟨.int .i64, .sh, TC.i p⟩])]
def qq_c (A : LL) (left : Int) : Bool := (bif (decide ((IntKind.wrap .i64 (left - (A.length : Int))) < (0 : Int))) then true else (bif (qq_k5_1 A (IntKind.wrap .i64 (left - (A.length : Int))) (0 : Int)) then ((qq_o5_2 A (IntKind.wrap .i64 (left - (A.length : Int))) (0 : Int)) && true) else ((qq_o5_3 A (IntKind.wrap .i64 (left - (A.length : Int))) (0 : Int)) && true)))
def qq_v (A : LL) (left : Int) : Int := (bif (decide ((IntKind.wrap .i64 (left - (A.length : Int))) < (0 : Int))) then (-1 : Int) else (bif (qq_k5_1 A (IntKind.wrap .i64 (left - (A.length : Int))) (0 : Int)) then (-1 : Int) else (qq_u5_3 A (IntKind.wrap .i64 (left - (A.length : Int))) (0 : Int))))
theorem qq_l (A : LL) (left : Int) : (qq_c A left) = true → (qq_t A left).val = some (qq_v A left) := by
  unfold qq_t qq_v qq_c
  exact fun h => (Tr.ss h (fun h => rfl) (fun h => (Tr.ss h (fun h => (Tr.gb h fun h => rfl)) (fun h => (Tr.gb h fun h => rfl)))))
def qq_S : List Arg → Option (Bool × Res) := fun xs => match xs with
  | [(false, [(.slice 9, TC.l A)]), (false, [(.int .i64, TC.i left)])] => some ((qq_c A left), qq_mk (qq_v A left))
  | _ => .none
theorem qq_e (A : LL) (left : Int) : runF tab FT D0 live 26 qq_lo [(false, [(.slice 9, TC.l A)]), (false, [(.int .i64, TC.i left)])] = (qq_t A left).run fun p => some (qq_mk p) := by kernel_rfl
theorem qq_s : ∀ xs r, qq_S xs = some (true, r) → runF tab FT D0 live 26 qq_lo xs = some r := by
  intro xs r h
  unfold qq_S at h
  split at h
  · obtain ⟨h1, rfl⟩ := sp h
    exact fun_told (qq_e ..) (qq_l _ _) h1
  · cases h
def D1 : Dt := also D0 26 qq_S
theorem d1 : DOk Go.Proofs.Try.prog tab D1 := d0.also mixed_ok tab_ok names_ok (fnLoops_one (by kernel_rfl) qq_is5) qq_s
theorem qq_cc {A : LL} {left : Int} (ht : Typed tab (.slice 9) (.l A)) : (qq_c A left) = true := by
  unfold qq_c
  refine bifT (fun b1 => ?_) (fun b1 => ?_)
  · skip
    rfl
  · skip
    refine bifT (fun b2 => ?_) (fun b2 => ?_)
    · skip
      refine andT (by exact is_true ⟨rfl, ht⟩) ?_
      rfl
    · skip
      refine andT (by exact is_true ⟨rfl, ht⟩) ?_
      rfl
def qdc_t (a0 : LL) (a1 : Int) : Tr (Int) := (.ite ((decide ((IntKind.wrap .i64 (a1 - (a0.length : Int))) < (0 : Int))) = true) (.ok (-1 : Int))
  (.ok (IntKind.wrap .i64 (a1 - (a0.length : Int)))))
def qdc_mk (p : Int) : Res := [(false, [⟨.int .i64, .sh, TC.i p⟩])]
def qdc_c (a0 : LL) (a1 : Int) : Bool := true
def qdc_v (a0 : LL) (a1 : Int) : Int := (bif (decide ((IntKind.wrap .i64 (a1 - (a0.length : Int))) < (0 : Int))) then (-1 : Int) else (IntKind.wrap .i64 (a1 - (a0.length : Int))))
theorem qdc_l (a0 : LL) (a1 : Int) : (qdc_c a0 a1) = true → (qdc_t a0 a1).val = some (qdc_v a0 a1) := by
  intro h
  skip
  unfold qdc_t qdc_v
  exact (Tr.s rfl rfl)
def qdc_S : List Arg → Option (Bool × Res) := fun xs => match xs with
  | [(false, [(.slice 2, TC.l a0)]), (false, [(.int .i64, TC.i a1)])] => some (true, qdc_mk (qdc_v a0 a1))
  | _ => .none
theorem qdc_e (a0 : LL) (a1 : Int) : runF tab FT D1 live 27 noLoops [(false, [(.slice 2, TC.l a0)]), (false, [(.int .i64, TC.i a1)])] = (qdc_t a0 a1).run fun p => some (qdc_mk p) := by kernel_rfl
theorem qdc_s : ∀ xs r, qdc_S xs = some (true, r) → runF tab FT D1 live 27 noLoops xs = some r := by
  intro xs r h
  unfold qdc_S at h
  split at h
  · obtain ⟨h1, rfl⟩ := sp h
    exact fun_told (qdc_e ..) (qdc_l _ _) rfl
  · cases h
def D2 : Dt := also D1 27 qdc_S
theorem d2 : DOk Go.Proofs.Try.prog tab D2 := d1.also mixed_ok tab_ok names_ok noLoops_ok qdc_s
section
class qbp_O where R : (Int) → (Int) → (Bool) → (Bool) → (LL) → (LL) → (LL) → (LL) → (Int) → (Int) → Bool × (Int)
variable [i_laws_szType : qbp_O]
def qbp_rc (x0 x1 : Int) (x2 x3 : Bool) (x4 x5 x6 x7 : LL) (x8 x9 : Int) : Bool := ((qbp_O.R x0 x1 x2 x3 x4 x5 x6 x7 x8 x9)).1
def qbp_rv (x0 x1 : Int) (x2 x3 : Bool) (x4 x5 x6 x7 : LL) (x8 x9 : Int) : Int := ((qbp_O.R x0 x1 x2 x3 x4 x5 x6 x7 x8 x9)).2
def qbp_rmk (p : Int) : Res := [(false, [⟨.int .i64, .sh, TC.i p⟩])]
def qbp_rS : List Arg → Option (Bool × Res) := fun xs => match xs with
  | [(true, [(.int .i64, TC.i x0), (.int .i64, TC.i x1), (.bool, TC.b x2), (.bool, TC.b x3), (.slice 9, TC.l x4), (.slice 2, TC.l x5), (.slice 67, TC.l x6), (.slice 27, TC.l x7), (.int .i64, TC.i x8)]), (false, [(.int .i64, TC.i x9)])] => some ((qbp_rc x0 x1 x2 x3 x4 x5 x6 x7 x8 x9), qbp_rmk (qbp_rv x0 x1 x2 x3 x4 x5 x6 x7 x8 x9))
  | _ => .none
def D3 : Dt := also D2 9 qbp_rS
class qbp_G : Prop where ok : DOk Go.Proofs.Try.prog tab D3
variable [g_laws_szType : qbp_G]
theorem d3 : DOk Go.Proofs.Try.prog tab D3 := qbp_G.ok
def qbv_t (x0 : BS) (x1 x2 x3 : Int) (x4 x5 : Bool) (x6 x7 x8 x9 : LL) (x10 x11 : Int) : Tr (Int) := (.ite ((decide ((IntKind.wrap .i64 (x11 - (x0.length : Int))) < (0 : Int))) = true) (.ok (-1 : Int))
  (.ite ((qbp_rc x2 x3 x4 x5 x6 x7 x8 x9 x10 (IntKind.wrap .i64 (x11 - (x0.length : Int)))) = true) (.ite ((decide ((qbp_rv x2 x3 x4 x5 x6 x7 x8 x9 x10 (IntKind.wrap .i64 (x11 - (x0.length : Int)))) < (0 : Int))) = true) (.ok (-1 : Int))
    (.ok (qbp_rv x2 x3 x4 x5 x6 x7 x8 x9 x10 (IntKind.wrap .i64 (x11 - (x0.length : Int))))))
   .no))
def qbv_mk (p : Int) : Res := [(false, [⟨.int .i64, .sh, TC.i p⟩])]
def qbv_c (x0 : BS) (x1 x2 x3 : Int) (x4 x5 : Bool) (x6 x7 x8 x9 : LL) (x10 x11 : Int) : Bool := (bif (decide ((IntKind.wrap .i64 (x11 - (x0.length : Int))) < (0 : Int))) then true else ((qbp_rc x2 x3 x4 x5 x6 x7 x8 x9 x10 (IntKind.wrap .i64 (x11 - (x0.length : Int)))) && (bif (decide ((qbp_rv x2 x3 x4 x5 x6 x7 x8 x9 x10 (IntKind.wrap .i64 (x11 - (x0.length : Int)))) < (0 : Int))) then true else true)))
def qbv_v (x0 : BS) (x1 x2 x3 : Int) (x4 x5 : Bool) (x6 x7 x8 x9 : LL) (x10 x11 : Int) : Int := (bif (decide ((IntKind.wrap .i64 (x11 - (x0.length : Int))) < (0 : Int))) then (-1 : Int) else (bif (decide ((qbp_rv x2 x3 x4 x5 x6 x7 x8 x9 x10 (IntKind.wrap .i64 (x11 - (x0.length : Int)))) < (0 : Int))) then (-1 : Int) else (qbp_rv x2 x3 x4 x5 x6 x7 x8 x9 x10 (IntKind.wrap .i64 (x11 - (x0.length : Int))))))
theorem qbv_l (x0 : BS) (x1 x2 x3 : Int) (x4 x5 : Bool) (x6 x7 x8 x9 : LL) (x10 x11 : Int) : (qbv_c x0 x1 x2 x3 x4 x5 x6 x7 x8 x9 x10 x11) = true → (qbv_t x0 x1 x2 x3 x4 x5 x6 x7 x8 x9 x10 x11).val = some (qbv_v x0 x1 x2 x3 x4 x5 x6 x7 x8 x9 x10 x11) := by
  unfold qbv_t qbv_v qbv_c
  exact fun h => (Tr.ss h (fun h => rfl) (fun h => (Tr.gb h fun h => (Tr.ss h (fun h => rfl) (fun h => rfl)))))
def qbv_S : List Arg → Option (Bool × Res) := fun xs => match xs with
  | [(true, [(.str, TC.s x0), (.int .i64, TC.i x1), (.int .i64, TC.i x2), (.int .i64, TC.i x3), (.bool, TC.b x4), (.bool, TC.b x5), (.slice 9, TC.l x6), (.slice 2, TC.l x7), (.slice 67, TC.l x8), (.slice 27, TC.l x9), (.int .i64, TC.i x10)]), (false, [(.int .i64, TC.i x11)])] => some ((qbv_c x0 x1 x2 x3 x4 x5 x6 x7 x8 x9 x10 x11), qbv_mk (qbv_v x0 x1 x2 x3 x4 x5 x6 x7 x8 x9 x10 x11))
  | _ => .none
theorem qbv_e (x0 : BS) (x1 x2 x3 : Int) (x4 x5 : Bool) (x6 x7 x8 x9 : LL) (x10 x11 : Int) : runF tab FT D3 live 62 noLoops [(true, [(.str, TC.s x0), (.int .i64, TC.i x1), (.int .i64, TC.i x2), (.int .i64, TC.i x3), (.bool, TC.b x4), (.bool, TC.b x5), (.slice 9, TC.l x6), (.slice 2, TC.l x7), (.slice 67, TC.l x8), (.slice 27, TC.l x9), (.int .i64, TC.i x10)]), (false, [(.int .i64, TC.i x11)])] = (qbv_t x0 x1 x2 x3 x4 x5 x6 x7 x8 x9 x10 x11).run fun p => some (qbv_mk p) := by kernel_rfl
theorem qbv_s : ∀ xs r, qbv_S xs = some (true, r) → runF tab FT D3 live 62 noLoops xs = some r := by
  intro xs r h
  unfold qbv_S at h
  split at h
  · obtain ⟨h1, rfl⟩ := sp h
    exact fun_told (qbv_e ..) (qbv_l _ _ _ _ _ _ _ _ _ _ _ _) h1
  · cases h
def D4 : Dt := also D3 62 qbv_S
theorem d4 : DOk Go.Proofs.Try.prog tab D4 := d3.also mixed_ok tab_ok names_ok noLoops_ok qbv_s
theorem qbv_cc {x0 : BS} {x1 : Int} {x2 : Int} {x3 : Int} {x4 : Bool} {x5 : Bool} {x6 : LL} {x7 : LL} {x8 : LL} {x9 : LL} {x10 : Int} {x11 : Int} (t6 : Typed tab (.slice 9) (.l x6)) (t7 : Typed tab (.slice 2) (.l x7)) (t8 : Typed tab (.slice 67) (.l x8)) (t9 : Typed tab (.slice 27) (.l x9)) (h0 : (∀ left : Int, qbp_rc x2 x3 x4 x5 x6 x7 x8 x9 x10 left = true)) : (qbv_c x0 x1 x2 x3 x4 x5 x6 x7 x8 x9 x10 x11) = true := by
  unfold qbv_c
  refine bifT (fun b1 => ?_) (fun b1 => ?_)
  · skip
    rfl
  · skip
    refine andT (by exact h0 _) ?_
    refine bifT (fun b2 => ?_) (fun b2 => ?_)
    · skip
      rfl
    · skip
      rfl
abbrev qv_5_σ := LL × Int × Int
abbrev qv_5_ω := (Int) ⊕ (Int)
def qv_5_step (A : LL) (left i : Int) : Tr (qv_5_σ ⊕ qv_5_ω) := (.ite ((decide (i < (A.length : Int))) = true) (.ite ((0 : Int) ≤ i ∧ i < (A.length : Int)) (.ite ((qbv_c ((nth (row A i) 0).str) ((nth (row A i) 1).int) ((nth (row A i) 2).int) ((nth (row A i) 3).int) ((nth (row A i) 4).bool) ((nth (row A i) 5).bool) ((nth (row A i) 6).list) ((nth (row A i) 7).list) ((nth (row A i) 8).list) ((nth (row A i) 9).list) ((nth (row A i) 10).int) left) = true) (.ite ((decide ((qbv_v ((nth (row A i) 0).str) ((nth (row A i) 1).int) ((nth (row A i) 2).int) ((nth (row A i) 3).int) ((nth (row A i) 4).bool) ((nth (row A i) 5).bool) ((nth (row A i) 6).list) ((nth (row A i) 7).list) ((nth (row A i) 8).list) ((nth (row A i) 9).list) ((nth (row A i) 10).int) left) < (0 : Int))) = true) (.ok (.inr (.inl (qbv_v ((nth (row A i) 0).str) ((nth (row A i) 1).int) ((nth (row A i) 2).int) ((nth (row A i) 3).int) ((nth (row A i) 4).bool) ((nth (row A i) 5).bool) ((nth (row A i) 6).list) ((nth (row A i) 7).list) ((nth (row A i) 8).list) ((nth (row A i) 9).list) ((nth (row A i) 10).int) left))))
     (.ok (.inl (A, (qbv_v ((nth (row A i) 0).str) ((nth (row A i) 1).int) ((nth (row A i) 2).int) ((nth (row A i) 3).int) ((nth (row A i) 4).bool) ((nth (row A i) 5).bool) ((nth (row A i) 6).list) ((nth (row A i) 7).list) ((nth (row A i) 8).list) ((nth (row A i) 9).list) ((nth (row A i) 10).int) left), (IntKind.wrap .i64 (i + (1 : Int)))))))
    .no)
   .no)
  (.ok (.inr (.inr left))))
def qv_5_st : qv_5_σ → Tr (qv_5_σ ⊕ qv_5_ω) := fun x => (qv_5_step (x.1) (x.2.1) (x.2.2))
def qv_k5_1 (A : LL) (left i : Int) : Bool := isL (loopN qv_5_st (A.length + 1) (A, left, i))
def qv_o5_2 (A : LL) (left i : Int) : Bool := is (i = 0 ∧ Typed tab (.slice 67) (.l A) ∧ (∀ x : List TC, x ∈ A → ∀ left : Int, (qbv_c ((nth x 0).str) ((nth x 1).int) ((nth x 2).int) ((nth x 3).int) ((nth x 4).bool) ((nth x 5).bool) ((nth x 6).list) ((nth x 7).list) ((nth x 8).list) ((nth x 9).list) ((nth x 10).int) left) = true))
def qv_u5_2 (A : LL) (left i : Int) : Int := getL (loopN qv_5_st (A.length + 1) (A, left, i))
def qv_o5_3 (A : LL) (left i : Int) : Bool := (qv_o5_2 A left i)
def qv_u5_3 (A : LL) (left i : Int) : Int := getR (loopN qv_5_st (A.length + 1) (A, left, i))
def qv_5_fin (A : LL) (left i : Int) : Told qv_5_ω := (.br (qv_k5_1 A left i) (.leaf (qv_o5_2 A left i) (.inl (qv_u5_2 A left i))) (.leaf (qv_o5_3 A left i) (.inr (qv_u5_3 A left i))))
def qv_5_sl (x : qv_5_σ) : List Slot := [⟨.val false [⟨.slice 67, .sh, TC.l (x.1)⟩], ⟨0, 0⟩⟩, ⟨.val false [⟨.int .i64, .sh, TC.i (x.2.1)⟩], ⟨0, 0⟩⟩, ⟨.val false [⟨.int .i64, .sh, TC.i (x.2.2)⟩], ⟨0, 0⟩⟩]
def qv_5_out : qv_5_ω → Ex × List Slot := (Sum.elim (fun x => (.ret, [⟨.val false [⟨.int .i64, .sh, TC.i x⟩], ⟨0, 0⟩⟩, ⟨.val false [⟨.int .i64, .sh, TC.i (-1 : Int)⟩], ⟨0, 0⟩⟩])) (fun x => (.exit 0, [⟨.val false [⟨.int .i64, .sh, TC.i x⟩], ⟨0, 0⟩⟩, Slot.none])))
def qv_lo5 : List Slot → Option (Told (Ex × List Slot)) := fun s => match s with
  | [⟨.val false [⟨.slice 67, .sh, TC.l A⟩], ⟨0, 0⟩⟩, ⟨.val false [⟨.int .i64, .sh, TC.i left⟩], ⟨0, 0⟩⟩, ⟨.val false [⟨.int .i64, .sh, TC.i i⟩], ⟨0, 0⟩⟩] => some (((qv_5_fin A left i)).map qv_5_out)
  | _ => .none
def qv_lo : LoopTeller := fun r s => bif Nat.beq r 5 then qv_lo5 s else .none
theorem qv_5_r (A : LL) (left i : Int) (fuel : Nat) : rounds (rnd tab FT D4 live 28 qv_lo 0 5) leave (fuel + 1) (qv_5_sl (A, left, i)) = ((qv_5_step A left i)).run (goOn (fun s => rounds (rnd tab FT D4 live 28 qv_lo 0 5) leave fuel (qv_5_sl s)) fun w => some (qv_5_out w)) := by kernel_rfl
theorem qv_5_h (A : LL) (left i : Int) (ow : qv_5_ω) : ((qv_5_fin A left i)).val = some ow → ∃ fuel, loopN qv_5_st fuel (A, left, i) = some ow := by
  refine auto_two (N := A.length + 1) rfl rfl rfl ?_
  intro ho
  have ho : is (i = 0 ∧ Typed tab (.slice 67) (.l A) ∧ (∀ x : List TC, x ∈ A → ∀ left : Int, (qbv_c ((nth x 0).str) ((nth x 1).int) ((nth x 2).int) ((nth x 3).int) ((nth x 4).bool) ((nth x 5).bool) ((nth x 6).list) ((nth x 7).list) ((nth x 8).list) ((nth x 9).list) ((nth x 10).int) left) = true)) = true := ho.elim id id
  obtain ⟨rfl, ht, hr0⟩ := is_iff.1 ho
  have hlen : A.length ≤ 140737488351232 := by have := typed_room ht; simp only [show (tab 67).bytes = 152 from rfl] at this; omega
  refine loopN_ends (step := qv_5_st) (N := A.length) (fun i a => (A, a, (i : Int))) (fun i a hi => ?_) (fun a => ?_) A.length 0 left (by omega)
  · show (∃ a', (qv_5_step A a (i : Int)).val = _) ∨ ∃ w, (qv_5_step A a (i : Int)).val = _
    have c0 : Typed tab (.str) (.s (nth (A.getD i []) 0).str) := typed_s (typed_cell ht (A.getD i []) (mem_getD hi) 0 (by decide))
    have c6 : Typed tab (.slice 9) (.l (nth (A.getD i []) 6).list) := typed_list (typed_cell ht (A.getD i []) (mem_getD hi) 6 (by decide))
    have c7 : Typed tab (.slice 2) (.l (nth (A.getD i []) 7).list) := typed_list (typed_cell ht (A.getD i []) (mem_getD hi) 7 (by decide))
    have c8 : Typed tab (.slice 67) (.l (nth (A.getD i []) 8).list) := typed_list (typed_cell ht (A.getD i []) (mem_getD hi) 8 (by decide))
    have c9 : Typed tab (.slice 27) (.l (nth (A.getD i []) 9).list) := typed_list (typed_cell ht (A.getD i []) (mem_getD hi) 9 (by decide))
    cases hneg : ((decide ((qbv_v ((nth (row A i) 0).str) ((nth (row A i) 1).int) ((nth (row A i) 2).int) ((nth (row A i) 3).int) ((nth (row A i) 4).bool) ((nth (row A i) 5).bool) ((nth (row A i) 6).list) ((nth (row A i) 7).list) ((nth (row A i) 8).list) ((nth (row A i) 9).list) ((nth (row A i) 10).int) a) < (0 : Int))))
    · apply Or.inl
      apply Exists.intro
      · unfold qv_5_step
        refine Tr.t (by simp; omega) ?_
        refine Tr.t (by first | omega | (constructor <;> omega)) ?_
        refine Tr.t (hr0 (A.getD i []) (mem_getD hi) a) ?_
        refine Tr.n (by rw [hneg]; simp) ?_
        rw [Tr.val_ok, wrap64 (i := (i : Int) + 1) (by omega) (by omega)]; rfl
    · apply Or.inr
      apply Exists.intro
      · unfold qv_5_step
        refine Tr.t (by simp; omega) ?_
        refine Tr.t (by first | omega | (constructor <;> omega)) ?_
        refine Tr.t (hr0 (A.getD i []) (mem_getD hi) a) ?_
        refine Tr.t hneg ?_
        rfl
  · apply Exists.intro
    · show (qv_5_step A a (A.length : Int)).val = _
      refine Tr.n (by simp) ?_
      rfl
theorem qv_is5 : LoopIs tab FT D4 live 28 qv_lo 0 5 := by
  refine loop_told (sl := qv_5_sl) (step := qv_5_st) (out := qv_5_out) (lor := qv_lo5) (fin := fun x => (qv_5_fin (x.1) (x.2.1) (x.2.2))) (fun _ => rfl) ?_ (fun x n => qv_5_r x.1 x.2.1 x.2.2 n) (fun x ow => qv_5_h x.1 x.2.1 x.2.2 ow)
  intro s t h
  unfold qv_lo5 at h
  split at h
  · cases h; exact ⟨(_, _, _), rfl, rfl⟩
  · cases h
def qv_t (A : LL) (left : Int) : Tr (Int) := (.ite ((decide ((IntKind.wrap .i64 (left - (A.length : Int))) < (0 : Int))) = true) (.ok (-1 : Int))
  (.ite ((qv_k5_1 A (IntKind.wrap .i64 (left - (A.length : Int))) (0 : Int)) = true) (.ite ((qv_o5_2 A (IntKind.wrap .i64 (left - (A.length : Int))) (0 : Int)) = true) (.ok (-1 : Int))
    .no)
   (.ite ((qv_o5_3 A (IntKind.wrap .i64 (left - (A.length : Int))) (0 : Int)) = true) (.ok (qv_u5_3 A (IntKind.wrap .i64 (left - (A.length : Int))) (0 : Int)))
    .no)))
def qv_mk (p : Int) : Res := [(false, [⟨.int .i64, .sh, TC.i p⟩])]
def qv_c (A : LL) (left : Int) : Bool := (bif (decide ((IntKind.wrap .i64 (left - (A.length : Int))) < (0 : Int))) then true else (bif (qv_k5_1 A (IntKind.wrap .i64 (left - (A.length : Int))) (0 : Int)) then ((qv_o5_2 A (IntKind.wrap .i64 (left - (A.length : Int))) (0 : Int)) && true) else ((qv_o5_3 A (IntKind.wrap .i64 (left - (A.length : Int))) (0 : Int)) && true)))
def qv_v (A : LL) (left : Int) : Int := (bif (decide ((IntKind.wrap .i64 (left - (A.length : Int))) < (0 : Int))) then (-1 : Int) else (bif (qv_k5_1 A (IntKind.wrap .i64 (left - (A.length : Int))) (0 : Int)) then (-1 : Int) else (qv_u5_3 A (IntKind.wrap .i64 (left - (A.length : Int))) (0 : Int))))
theorem qv_l (A : LL) (left : Int) : (qv_c A left) = true → (qv_t A left).val = some (qv_v A left) := by
  unfold qv_t qv_v qv_c
  exact fun h => (Tr.ss h (fun h => rfl) (fun h => (Tr.ss h (fun h => (Tr.gb h fun h => rfl)) (fun h => (Tr.gb h fun h => rfl)))))
def qv_S : List Arg → Option (Bool × Res) := fun xs => match xs with
  | [(false, [(.slice 67, TC.l A)]), (false, [(.int .i64, TC.i left)])] => some ((qv_c A left), qv_mk (qv_v A left))
  | _ => .none
theorem qv_e (A : LL) (left : Int) : runF tab FT D4 live 28 qv_lo [(false, [(.slice 67, TC.l A)]), (false, [(.int .i64, TC.i left)])] = (qv_t A left).run fun p => some (qv_mk p) := by kernel_rfl
theorem qv_s : ∀ xs r, qv_S xs = some (true, r) → runF tab FT D4 live 28 qv_lo xs = some r := by
  intro xs r h
  unfold qv_S at h
  split at h
  · obtain ⟨h1, rfl⟩ := sp h
    exact fun_told (qv_e ..) (qv_l _ _) h1
  · cases h
def D5 : Dt := also D4 28 qv_S
theorem d5 : DOk Go.Proofs.Try.prog tab D5 := d4.also mixed_ok tab_ok names_ok (fnLoops_one (by kernel_rfl) qv_is5) qv_s
theorem qv_cc {A : LL} {left : Int} (ht : Typed tab (.slice 67) (.l A)) (hr0 : (∀ x : List TC, x ∈ A → ∀ left : Int, (qbv_c ((nth x 0).str) ((nth x 1).int) ((nth x 2).int) ((nth x 3).int) ((nth x 4).bool) ((nth x 5).bool) ((nth x 6).list) ((nth x 7).list) ((nth x 8).list) ((nth x 9).list) ((nth x 10).int) left) = true)) : (qv_c A left) = true := by
  unfold qv_c
  refine bifT (fun b1 => ?_) (fun b1 => ?_)
  · skip
    rfl
  · skip
    refine bifT (fun b2 => ?_) (fun b2 => ?_)
    · skip
      refine andT (by exact is_true ⟨rfl, ht, hr0⟩) ?_
      rfl
    · skip
      refine andT (by exact is_true ⟨rfl, ht, hr0⟩) ?_
      rfl
abbrev qba_5_σ := LL × Int × Int
abbrev qba_5_ω := (Int) ⊕ (Int)
def qba_5_step (A : LL) (left i : Int) : Tr (qba_5_σ ⊕ qba_5_ω) := (.ite ((decide (i < (A.length : Int))) = true) (.ite ((0 : Int) ≤ i ∧ i < (A.length : Int)) (.ite ((qbp_rc ((nth (row A i) 0).int) ((nth (row A i) 1).int) ((nth (row A i) 2).bool) ((nth (row A i) 3).bool) ((nth (row A i) 4).list) ((nth (row A i) 5).list) ((nth (row A i) 6).list) ((nth (row A i) 7).list) ((nth (row A i) 8).int) left) = true) (.ite ((decide ((qbp_rv ((nth (row A i) 0).int) ((nth (row A i) 1).int) ((nth (row A i) 2).bool) ((nth (row A i) 3).bool) ((nth (row A i) 4).list) ((nth (row A i) 5).list) ((nth (row A i) 6).list) ((nth (row A i) 7).list) ((nth (row A i) 8).int) left) < (0 : Int))) = true) (.ok (.inr (.inl (qbp_rv ((nth (row A i) 0).int) ((nth (row A i) 1).int) ((nth (row A i) 2).bool) ((nth (row A i) 3).bool) ((nth (row A i) 4).list) ((nth (row A i) 5).list) ((nth (row A i) 6).list) ((nth (row A i) 7).list) ((nth (row A i) 8).int) left))))
     (.ok (.inl (A, (qbp_rv ((nth (row A i) 0).int) ((nth (row A i) 1).int) ((nth (row A i) 2).bool) ((nth (row A i) 3).bool) ((nth (row A i) 4).list) ((nth (row A i) 5).list) ((nth (row A i) 6).list) ((nth (row A i) 7).list) ((nth (row A i) 8).int) left), (IntKind.wrap .i64 (i + (1 : Int)))))))
    .no)
   .no)
  (.ok (.inr (.inr left))))
def qba_5_st : qba_5_σ → Tr (qba_5_σ ⊕ qba_5_ω) := fun x => (qba_5_step (x.1) (x.2.1) (x.2.2))
def qba_k5_1 (A : LL) (left i : Int) : Bool := isL (loopN qba_5_st (A.length + 1) (A, left, i))
def qba_o5_2 (A : LL) (left i : Int) : Bool := is (i = 0 ∧ Typed tab (.slice 27) (.l A) ∧ (∀ x : List TC, x ∈ A → ∀ left : Int, (qbp_rc ((nth x 0).int) ((nth x 1).int) ((nth x 2).bool) ((nth x 3).bool) ((nth x 4).list) ((nth x 5).list) ((nth x 6).list) ((nth x 7).list) ((nth x 8).int) left) = true))
def qba_u5_2 (A : LL) (left i : Int) : Int := getL (loopN qba_5_st (A.length + 1) (A, left, i))
def qba_o5_3 (A : LL) (left i : Int) : Bool := (qba_o5_2 A left i)
def qba_u5_3 (A : LL) (left i : Int) : Int := getR (loopN qba_5_st (A.length + 1) (A, left, i))
def qba_5_fin (A : LL) (left i : Int) : Told qba_5_ω := (.br (qba_k5_1 A left i) (.leaf (qba_o5_2 A left i) (.inl (qba_u5_2 A left i))) (.leaf (qba_o5_3 A left i) (.inr (qba_u5_3 A left i))))
def qba_5_sl (x : qba_5_σ) : List Slot := [⟨.val false [⟨.slice 27, .sh, TC.l (x.1)⟩], ⟨0, 0⟩⟩, ⟨.val false [⟨.int .i64, .sh, TC.i (x.2.1)⟩], ⟨0, 0⟩⟩, ⟨.val false [⟨.int .i64, .sh, TC.i (x.2.2)⟩], ⟨0, 0⟩⟩]
def qba_5_out : qba_5_ω → Ex × List Slot := (Sum.elim (fun x => (.ret, [⟨.val false [⟨.int .i64, .sh, TC.i x⟩], ⟨0, 0⟩⟩, ⟨.val false [⟨.int .i64, .sh, TC.i (-1 : Int)⟩], ⟨0, 0⟩⟩])) (fun x => (.exit 0, [⟨.val false [⟨.int .i64, .sh, TC.i x⟩], ⟨0, 0⟩⟩, Slot.none])))
def qba_lo5 : List Slot → Option (Told (Ex × List Slot)) := fun s => match s with
  | [⟨.val false [⟨.slice 27, .sh, TC.l A⟩], ⟨0, 0⟩⟩, ⟨.val false [⟨.int .i64, .sh, TC.i left⟩], ⟨0, 0⟩⟩, ⟨.val false [⟨.int .i64, .sh, TC.i i⟩], ⟨0, 0⟩⟩] => some (((qba_5_fin A left i)).map qba_5_out)
  | _ => .none
def qba_lo : LoopTeller := fun r s => bif Nat.beq r 5 then qba_lo5 s else .none
theorem qba_5_r (A : LL) (left i : Int) (fuel : Nat) : rounds (rnd tab FT D5 live 29 qba_lo 0 5) leave (fuel + 1) (qba_5_sl (A, left, i)) = ((qba_5_step A left i)).run (goOn (fun s => rounds (rnd tab FT D5 live 29 qba_lo 0 5) leave fuel (qba_5_sl s)) fun w => some (qba_5_out w)) := by kernel_rfl
theorem qba_5_h (A : LL) (left i : Int) (ow : qba_5_ω) : ((qba_5_fin A left i)).val = some ow → ∃ fuel, loopN qba_5_st fuel (A, left, i) = some ow := by
  refine auto_two (N := A.length + 1) rfl rfl rfl ?_
  intro ho
  have ho : is (i = 0 ∧ Typed tab (.slice 27) (.l A) ∧ (∀ x : List TC, x ∈ A → ∀ left : Int, (qbp_rc ((nth x 0).int) ((nth x 1).int) ((nth x 2).bool) ((nth x 3).bool) ((nth x 4).list) ((nth x 5).list) ((nth x 6).list) ((nth x 7).list) ((nth x 8).int) left) = true)) = true := ho.elim id id
  obtain ⟨rfl, ht, hr0⟩ := is_iff.1 ho
  have hlen : A.length ≤ 140737488351232 := by have := typed_room ht; simp only [show (tab 27).bytes = 128 from rfl] at this; omega
  refine loopN_ends (step := qba_5_st) (N := A.length) (fun i a => (A, a, (i : Int))) (fun i a hi => ?_) (fun a => ?_) A.length 0 left (by omega)
  · show (∃ a', (qba_5_step A a (i : Int)).val = _) ∨ ∃ w, (qba_5_step A a (i : Int)).val = _
    have c4 : Typed tab (.slice 9) (.l (nth (A.getD i []) 4).list) := typed_list (typed_cell ht (A.getD i []) (mem_getD hi) 4 (by decide))
    have c5 : Typed tab (.slice 2) (.l (nth (A.getD i []) 5).list) := typed_list (typed_cell ht (A.getD i []) (mem_getD hi) 5 (by decide))
    have c6 : Typed tab (.slice 67) (.l (nth (A.getD i []) 6).list) := typed_list (typed_cell ht (A.getD i []) (mem_getD hi) 6 (by decide))
    have c7 : Typed tab (.slice 27) (.l (nth (A.getD i []) 7).list) := typed_list (typed_cell ht (A.getD i []) (mem_getD hi) 7 (by decide))
    cases hneg : ((decide ((qbp_rv ((nth (row A i) 0).int) ((nth (row A i) 1).int) ((nth (row A i) 2).bool) ((nth (row A i) 3).bool) ((nth (row A i) 4).list) ((nth (row A i) 5).list) ((nth (row A i) 6).list) ((nth (row A i) 7).list) ((nth (row A i) 8).int) a) < (0 : Int))))
    · apply Or.inl
      apply Exists.intro
      · unfold qba_5_step
        refine Tr.t (by simp; omega) ?_
        refine Tr.t (by first | omega | (constructor <;> omega)) ?_
        refine Tr.t (hr0 (A.getD i []) (mem_getD hi) a) ?_
        refine Tr.n (by rw [hneg]; simp) ?_
        rw [Tr.val_ok, wrap64 (i := (i : Int) + 1) (by omega) (by omega)]; rfl
    · apply Or.inr
      apply Exists.intro
      · unfold qba_5_step
        refine Tr.t (by simp; omega) ?_
        refine Tr.t (by first | omega | (constructor <;> omega)) ?_
        refine Tr.t (hr0 (A.getD i []) (mem_getD hi) a) ?_
        refine Tr.t hneg ?_
        rfl
  · apply Exists.intro
    · show (qba_5_step A a (A.length : Int)).val = _
      refine Tr.n (by simp) ?_
      rfl
theorem qba_is5 : LoopIs tab FT D5 live 29 qba_lo 0 5 := by
  refine loop_told (sl := qba_5_sl) (step := qba_5_st) (out := qba_5_out) (lor := qba_lo5) (fin := fun x => (qba_5_fin (x.1) (x.2.1) (x.2.2))) (fun _ => rfl) ?_ (fun x n => qba_5_r x.1 x.2.1 x.2.2 n) (fun x ow => qba_5_h x.1 x.2.1 x.2.2 ow)
  intro s t h
  unfold qba_lo5 at h
  split at h
  · cases h; exact ⟨(_, _, _), rfl, rfl⟩
  · cases h
def qba_t (A : LL) (left : Int) : Tr (Int) := (.ite ((decide ((IntKind.wrap .i64 (left - (A.length : Int))) < (0 : Int))) = true) (.ok (-1 : Int))
  (.ite ((qba_k5_1 A (IntKind.wrap .i64 (left - (A.length : Int))) (0 : Int)) = true) (.ite ((qba_o5_2 A (IntKind.wrap .i64 (left - (A.length : Int))) (0 : Int)) = true) (.ok (-1 : Int))
    .no)
   (.ite ((qba_o5_3 A (IntKind.wrap .i64 (left - (A.length : Int))) (0 : Int)) = true) (.ok (qba_u5_3 A (IntKind.wrap .i64 (left - (A.length : Int))) (0 : Int)))
    .no)))
def qba_mk (p : Int) : Res := [(false, [⟨.int .i64, .sh, TC.i p⟩])]
def qba_c (A : LL) (left : Int) : Bool := (bif (decide ((IntKind.wrap .i64 (left - (A.length : Int))) < (0 : Int))) then true else (bif (qba_k5_1 A (IntKind.wrap .i64 (left - (A.length : Int))) (0 : Int)) then ((qba_o5_2 A (IntKind.wrap .i64 (left - (A.length : Int))) (0 : Int)) && true) else ((qba_o5_3 A (IntKind.wrap .i64 (left - (A.length : Int))) (0 : Int)) && true)))
def qba_v (A : LL) (left : Int) : Int := (bif (decide ((IntKind.wrap .i64 (left - (A.length : Int))) < (0 : Int))) then (-1 : Int) else (bif (qba_k5_1 A (IntKind.wrap .i64 (left - (A.length : Int))) (0 : Int)) then (-1 : Int) else (qba_u5_3 A (IntKind.wrap .i64 (left - (A.length : Int))) (0 : Int))))
theorem qba_l (A : LL) (left : Int) : (qba_c A left) = true → (qba_t A left).val = some (qba_v A left) := by
  unfold qba_t qba_v qba_c
  exact fun h => (Tr.ss h (fun h => rfl) (fun h => (Tr.ss h (fun h => (Tr.gb h fun h => rfl)) (fun h => (Tr.gb h fun h => rfl)))))
def qba_S : List Arg → Option (Bool × Res) := fun xs => match xs with
  | [(false, [(.slice 27, TC.l A)]), (false, [(.int .i64, TC.i left)])] => some ((qba_c A left), qba_mk (qba_v A left))
  | _ => .none
theorem qba_e (A : LL) (left : Int) : runF tab FT D5 live 29 qba_lo [(false, [(.slice 27, TC.l A)]), (false, [(.int .i64, TC.i left)])] = (qba_t A left).run fun p => some (qba_mk p) := by kernel_rfl
theorem qba_s : ∀ xs r, qba_S xs = some (true, r) → runF tab FT D5 live 29 qba_lo xs = some r := by
  intro xs r h
  unfold qba_S at h
  split at h
  · obtain ⟨h1, rfl⟩ := sp h
    exact fun_told (qba_e ..) (qba_l _ _) h1
  · cases h
def D6 : Dt := also D5 29 qba_S
theorem d6 : DOk Go.Proofs.Try.prog tab D6 := d5.also mixed_ok tab_ok names_ok (fnLoops_one (by kernel_rfl) qba_is5) qba_s
theorem qba_cc {A : LL} {left : Int} (ht : Typed tab (.slice 27) (.l A)) (hr0 : (∀ x : List TC, x ∈ A → ∀ left : Int, (qbp_rc ((nth x 0).int) ((nth x 1).int) ((nth x 2).bool) ((nth x 3).bool) ((nth x 4).list) ((nth x 5).list) ((nth x 6).list) ((nth x 7).list) ((nth x 8).int) left) = true)) : (qba_c A left) = true := by
  unfold qba_c
  refine bifT (fun b1 => ?_) (fun b1 => ?_)
  · skip
    rfl
  · skip
    refine bifT (fun b2 => ?_) (fun b2 => ?_)
    · skip
      refine andT (by exact is_true ⟨rfl, ht, hr0⟩) ?_
      rfl
    · skip
      refine andT (by exact is_true ⟨rfl, ht, hr0⟩) ?_
      rfl
def qbp_t (x0 x1 : Int) (x2 x3 : Bool) (x4 x5 x6 x7 : LL) (x8 x9 : Int) : Tr (Int) := (.ite ((qq_c x4 x9) = true) (.ite ((decide ((qq_v x4 x9) < (0 : Int))) = true) (.ok (-1 : Int))
   (.ite ((decide ((qdc_v x5 (qq_v x4 x9)) < (0 : Int))) = true) (.ok (-1 : Int))
    (.ite ((qv_c x6 (qdc_v x5 (qq_v x4 x9))) = true) (.ite ((decide ((qv_v x6 (qdc_v x5 (qq_v x4 x9))) < (0 : Int))) = true) (.ok (-1 : Int))
      (.ite ((qba_c x7 (qv_v x6 (qdc_v x5 (qq_v x4 x9)))) = true) (.ite ((decide ((qba_v x7 (qv_v x6 (qdc_v x5 (qq_v x4 x9)))) < (0 : Int))) = true) (.ok (-1 : Int))
        (.ok (qba_v x7 (qv_v x6 (qdc_v x5 (qq_v x4 x9))))))
       .no))
     .no)))
  .no)
def qbp_mk (p : Int) : Res := [(false, [⟨.int .i64, .sh, TC.i p⟩])]
def qbp_c (x0 x1 : Int) (x2 x3 : Bool) (x4 x5 x6 x7 : LL) (x8 x9 : Int) : Bool := ((qq_c x4 x9) && (bif (decide ((qq_v x4 x9) < (0 : Int))) then true else (bif (decide ((qdc_v x5 (qq_v x4 x9)) < (0 : Int))) then true else ((qv_c x6 (qdc_v x5 (qq_v x4 x9))) && (bif (decide ((qv_v x6 (qdc_v x5 (qq_v x4 x9))) < (0 : Int))) then true else ((qba_c x7 (qv_v x6 (qdc_v x5 (qq_v x4 x9)))) && (bif (decide ((qba_v x7 (qv_v x6 (qdc_v x5 (qq_v x4 x9)))) < (0 : Int))) then true else true)))))))
def qbp_v (x0 x1 : Int) (x2 x3 : Bool) (x4 x5 x6 x7 : LL) (x8 x9 : Int) : Int := (bif (decide ((qq_v x4 x9) < (0 : Int))) then (-1 : Int) else (bif (decide ((qdc_v x5 (qq_v x4 x9)) < (0 : Int))) then (-1 : Int) else (bif (decide ((qv_v x6 (qdc_v x5 (qq_v x4 x9))) < (0 : Int))) then (-1 : Int) else (bif (decide ((qba_v x7 (qv_v x6 (qdc_v x5 (qq_v x4 x9)))) < (0 : Int))) then (-1 : Int) else (qba_v x7 (qv_v x6 (qdc_v x5 (qq_v x4 x9))))))))
theorem qbp_l (x0 x1 : Int) (x2 x3 : Bool) (x4 x5 x6 x7 : LL) (x8 x9 : Int) : (qbp_c x0 x1 x2 x3 x4 x5 x6 x7 x8 x9) = true → (qbp_t x0 x1 x2 x3 x4 x5 x6 x7 x8 x9).val = some (qbp_v x0 x1 x2 x3 x4 x5 x6 x7 x8 x9) := by
  unfold qbp_t qbp_v qbp_c
  exact fun h => (Tr.gb h fun h => (Tr.ss h (fun h => rfl) (fun h => (Tr.ss h (fun h => rfl) (fun h => (Tr.gb h fun h => (Tr.ss h (fun h => rfl) (fun h => (Tr.gb h fun h => (Tr.ss h (fun h => rfl) (fun h => rfl)))))))))))
theorem qbp_e (x0 x1 : Int) (x2 x3 : Bool) (x4 x5 x6 x7 : LL) (x8 x9 : Int) : runF tab FT D6 live 9 noLoops [(true, [(.int .i64, TC.i x0), (.int .i64, TC.i x1), (.bool, TC.b x2), (.bool, TC.b x3), (.slice 9, TC.l x4), (.slice 2, TC.l x5), (.slice 67, TC.l x6), (.slice 27, TC.l x7), (.int .i64, TC.i x8)]), (false, [(.int .i64, TC.i x9)])] = (qbp_t x0 x1 x2 x3 x4 x5 x6 x7 x8 x9).run fun p => some (qbp_mk p) := by kernel_rfl
def qbp_next : (Int) → (Int) → (Bool) → (Bool) → (LL) → (LL) → (LL) → (LL) → (Int) → (Int) → Bool × (Int) := fun x0 x1 x2 x3 x4 x5 x6 x7 x8 x9 => ((qbp_c x0 x1 x2 x3 x4 x5 x6 x7 x8 x9), (qbp_v x0 x1 x2 x3 x4 x5 x6 x7 x8 x9))
theorem qbp_nx (m : Nat) (hR : ∀ (x0 x1 : Int) (x2 x3 : Bool) (x4 x5 x6 x7 : LL) (x8 x9 : Int), max (rowsDep x6) (rowsDep x7) < m ∧ Typed tab (.slice 9) (.l x4) ∧ Typed tab (.slice 2) (.l x5) ∧ Typed tab (.slice 67) (.l x6) ∧ Typed tab (.slice 27) (.l x7) → (qbp_rc x0 x1 x2 x3 x4 x5 x6 x7 x8 x9) = true) (x0 x1 : Int) (x2 x3 : Bool) (x4 x5 x6 x7 : LL) (x8 x9 : Int) : max (rowsDep x6) (rowsDep x7) < (m + 1) ∧ Typed tab (.slice 9) (.l x4) ∧ Typed tab (.slice 2) (.l x5) ∧ Typed tab (.slice 67) (.l x6) ∧ Typed tab (.slice 27) (.l x7) → (qbp_c x0 x1 x2 x3 x4 x5 x6 x7 x8 x9) = true := by
  intro h
  obtain ⟨hM, t4, t5, t6, t7⟩ := h
  unfold qbp_c
  refine andT (by exact qq_cc t4) ?_
  refine bifT (fun b1 => ?_) (fun b1 => ?_)
  · skip
    rfl
  · skip
    refine bifT (fun b2 => ?_) (fun b2 => ?_)
    · skip
      rfl
    · skip
      refine andT (by exact qv_cc t6 (fun x hx left => qbv_cc (typed_list ((typed_elem t6 hx).2 6 (by decide))) (typed_list ((typed_elem t6 hx).2 7 (by decide))) (typed_list ((typed_elem t6 hx).2 8 (by decide))) (typed_list ((typed_elem t6 hx).2 9 (by decide))) (fun left => hR _ _ _ _ _ _ _ _ _ _ ⟨by have a := dep_cell hx 8; have b := dep_cell hx 9; omega, typed_list ((typed_elem t6 hx).2 6 (by decide)), typed_list ((typed_elem t6 hx).2 7 (by decide)), typed_list ((typed_elem t6 hx).2 8 (by decide)), typed_list ((typed_elem t6 hx).2 9 (by decide))⟩))) ?_
      refine bifT (fun b3 => ?_) (fun b3 => ?_)
      · skip
        rfl
      · skip
        refine andT (by exact qba_cc t7 (fun x hx left => hR _ _ _ _ _ _ _ _ _ _ ⟨by have a := dep_cell hx 6; have b := dep_cell hx 7; omega, typed_list ((typed_elem t7 hx).2 4 (by decide)), typed_list ((typed_elem t7 hx).2 5 (by decide)), typed_list ((typed_elem t7 hx).2 6 (by decide)), typed_list ((typed_elem t7 hx).2 7 (by decide))⟩)) ?_
        refine bifT (fun b4 => ?_) (fun b4 => ?_)
        · skip
          rfl
        · skip
          rfl
theorem qbp_rs : ∀ xs r, qbp_rS (i_laws_szType := ⟨qbp_next⟩) xs = some (true, r) → runF tab FT D6 live 9 noLoops xs = some r := by
  intro xs r h
  unfold qbp_rS at h
  split at h
  · obtain ⟨h1, rfl⟩ := sp h
    exact fun_told (qbp_e ..) (qbp_l _ _ _ _ _ _ _ _ _ _) h1
  · cases h
theorem qbp_step : qbp_G (i_laws_szType := ⟨qbp_next⟩) := by
  have h := DOk.also2 (S := qbp_rS (i_laws_szType := ⟨qbp_next⟩)) mixed_ok tab_ok names_ok d2 d6 noLoops_ok qbp_rs
  refine qbp_G.mk (i_laws_szType := ⟨qbp_next⟩) ?_
  exact h
def qbr_g (x : List TC) : List TC := [TC.s ((nth x 0).str)]
def qbr_z : List TC := [TC.s []]
theorem qbr_id {A : LL} (h : Typed tab (.slice 9) (.l A)) : A.map qbr_g = A := map_same fun x hx => by
  obtain ⟨hl, hk⟩ := typed_elem h hx
  have e0 : TC.s ((nth x 0).str) = nth x 0 := typed_str_eq (hk 0 (by decide))
  show [TC.s ((nth x 0).str)] = _
  rw [e0]
  exact (row_eta hl).symm
abbrev qbr_3_σ := LL × LL × Int
abbrev qbr_3_ω := (LL)
def qbr_3_step (A X : LL) (i : Int) : Tr (qbr_3_σ ⊕ qbr_3_ω) := (.ite ((decide (i < (A.length : Int))) = true) (.ite ((0 : Int) ≤ i ∧ i < (A.length : Int)) (.ite ((0 : Int) ≤ i ∧ i < (X.length : Int)) (.ok (.inl (A, (X.set (i).toNat (splice (row X i) 0 [TC.s ((nth (row A i) 0).str)])), (IntKind.wrap .i64 (i + (1 : Int))))))
    .no)
   .no)
  (.ok (.inr X)))
def qbr_3_st : qbr_3_σ → Tr (qbr_3_σ ⊕ qbr_3_ω) := fun x => (qbr_3_step (x.1) (x.2.1) (x.2.2))
def qbr_o3_1 (A X : LL) (i : Int) : Bool := is (Typed tab (.slice 9) (.l A) ∧ X = List.replicate A.length qbr_z ∧ i = 0)
def qbr_3_fin (A X : LL) (i : Int) : Told qbr_3_ω := (.leaf (qbr_o3_1 A X i) A)
def qbr_3_sl (x : qbr_3_σ) : List Slot := [⟨.val false [⟨.slice 9, .sh, TC.l (x.1)⟩], ⟨0, 0⟩⟩, ⟨.val false [⟨.slice 9, .own true, TC.l (x.2.1)⟩], ⟨0, 0⟩⟩, ⟨.val false [⟨.int .i64, .sh, TC.i (x.2.2)⟩], ⟨0, 0⟩⟩]
def qbr_3_out : qbr_3_ω → Ex × List Slot := (fun x => (.exit 0, [Slot.none, ⟨.val false [⟨.slice 9, .own true, TC.l x⟩], ⟨0, 0⟩⟩]))
def qbr_lo3 : List Slot → Option (Told (Ex × List Slot)) := fun s => match s with
  | [⟨.val false [⟨.slice 9, .sh, TC.l A⟩], ⟨0, 0⟩⟩, ⟨.val false [⟨.slice 9, .own true, TC.l X⟩], ⟨0, 0⟩⟩, ⟨.val false [⟨.int .i64, .sh, TC.i i⟩], ⟨0, 0⟩⟩] => some (((qbr_3_fin A X i)).map qbr_3_out)
  | _ => .none
def qbr_lo : LoopTeller := fun r s => bif Nat.beq r 3 then qbr_lo3 s else .none
theorem qbr_3_r (A X : LL) (i : Int) (fuel : Nat) : rounds (rnd tab FT D6 live 32 qbr_lo 0 3) leave (fuel + 1) (qbr_3_sl (A, X, i)) = ((qbr_3_step A X i)).run (goOn (fun s => rounds (rnd tab FT D6 live 32 qbr_lo 0 3) leave fuel (qbr_3_sl s)) fun w => some (qbr_3_out w)) := by kernel_rfl
theorem qbr_3_h (A X : LL) (i : Int) (ow : qbr_3_ω) : ((qbr_3_fin A X i)).val = some ow → ∃ fuel, loopN qbr_3_st fuel (A, X, i) = some ow := by
  intro h
  refine auto_leaf (R := A) (fun ho => ?_) h
  obtain ⟨ht, rfl, rfl⟩ := is_iff.1 ho
  have hlen : A.length ≤ 140737488351232 := by have := typed_room ht; simp only [show (tab 9).bytes = 16 from rfl] at this; omega
  have key := loopN_copy (step := qbr_3_st) A (List.replicate A.length qbr_z) qbr_g (fun Y i => (A, Y, (i : Int))) (A.map qbr_g) (by simp) (fun x hx i _ => by rw [(List.mem_replicate.1 hx).2]; exact Nat.le_refl 1) (fun Y i hi hl => ?_) ?_ A.length 0 (by omega)
  · rw [copied_zero, qbr_id ht] at key
    exact ⟨_, key⟩
  · have c0 : Typed tab (.str) (.s (nth (A.getD i []) 0).str) := typed_s (typed_cell ht (A.getD i []) (mem_getD hi) 0 (by decide))
    show (qbr_3_step A Y (i : Int)).val = _
    unfold qbr_3_step
    refine Tr.t (by simp; omega) ?_
    refine Tr.t (by first | omega | (constructor <;> omega)) ?_
    refine Tr.t (by first | omega | (constructor <;> omega)) ?_
    rw [Tr.val_ok, wrap64 (i := (i : Int) + 1) (by omega) (by omega)]; rfl
  · show (qbr_3_step A (A.map qbr_g) (A.length : Int)).val = _
    refine Tr.n (by simp) ?_
    rfl
theorem qbr_is3 : LoopIs tab FT D6 live 32 qbr_lo 0 3 := by
  refine loop_told (sl := qbr_3_sl) (step := qbr_3_st) (out := qbr_3_out) (lor := qbr_lo3) (fin := fun x => (qbr_3_fin (x.1) (x.2.1) (x.2.2))) (fun _ => rfl) ?_ (fun x n => qbr_3_r x.1 x.2.1 x.2.2 n) (fun x ow => qbr_3_h x.1 x.2.1 x.2.2 ow)
  intro s t h
  unfold qbr_lo3 at h
  split at h
  · cases h; exact ⟨(_, _, _), rfl, rfl⟩
  · cases h
def qbr_t (A : LL) : Tr (LL) := (.ite (0 ≤ (A.length : Int) ∧ (A.length : Int) ≤ (A.length : Int) ∧ (A.length : Int) * 16 ≤ 140737488355328 ∧ (A.length : Int) ≤ 140737488355328) (.ite ((qbr_o3_1 A (List.replicate ((A.length : Int)).toNat [TC.s []]) (0 : Int)) = true) (.ok A)
   .no)
  .no)
def qbr_mk (p : LL) : Res := [(false, [⟨.slice 9, .own true, TC.l p⟩])]
def qbr_c (A : LL) : Bool := is (Typed tab (.slice 9) (.l A))
def qbr_v (A : LL) : LL := A
theorem qbr_l (A : LL) : (qbr_c A) = true → (qbr_t A).val = some (qbr_v A) := by
  intro h
  have ht := is_iff.1 h
  have hb := typed_room ht
  simp only [show (tab 9).bytes = 16 from rfl] at hb
  unfold qbr_t
  refine Tr.t (by omega) ?_
  refine Tr.t (is_true ⟨ht, by rfl, rfl⟩) ?_
  rfl
def qbr_S : List Arg → Option (Bool × Res) := fun xs => match xs with
  | [(false, [(.slice 9, TC.l A)])] => some ((qbr_c A), qbr_mk (qbr_v A))
  | _ => .none
theorem qbr_e (A : LL) : runF tab FT D6 live 32 qbr_lo [(false, [(.slice 9, TC.l A)])] = (qbr_t A).run fun p => some (qbr_mk p) := by kernel_rfl
theorem qbr_s : ∀ xs r, qbr_S xs = some (true, r) → runF tab FT D6 live 32 qbr_lo xs = some r := by
  intro xs r h
  unfold qbr_S at h
  split at h
  · obtain ⟨h1, rfl⟩ := sp h
    exact fun_told (qbr_e _) (qbr_l _) h1
  · cases h
def D7 : Dt := also D6 32 qbr_S
theorem d7 : DOk Go.Proofs.Try.prog tab D7 := d6.also mixed_ok tab_ok names_ok (fnLoops_one (by kernel_rfl) qbr_is3) qbr_s
theorem qbr_ty {A : LL} (h : Typed tab (.slice 9) (.l A)) : Typed tab (.slice 9) (.l A) := typed_iso iso_ok h (by decide)
def qbu_g (x : List TC) : List TC := [TC.i ((nth x 0).int)]
def qbu_z : List TC := [TC.i (0 : Int)]
theorem qbu_id {A : LL} (h : Typed tab (.slice 2) (.l A)) : A.map qbu_g = A := map_same fun x hx => by
  obtain ⟨hl, hk⟩ := typed_elem h hx
  have e0 : TC.i ((nth x 0).int) = nth x 0 := typed_int_eq (hk 0 (by decide))
  show [TC.i ((nth x 0).int)] = _
  rw [e0]
  exact (row_eta hl).symm
abbrev qbu_3_σ := LL × LL × Int
abbrev qbu_3_ω := (LL)
def qbu_3_step (A X : LL) (i : Int) : Tr (qbu_3_σ ⊕ qbu_3_ω) := (.ite ((decide (i < (A.length : Int))) = true) (.ite ((0 : Int) ≤ i ∧ i < (A.length : Int)) (.ite ((0 : Int) ≤ i ∧ i < (X.length : Int)) (.ok (.inl (A, (X.set (i).toNat (splice (row X i) 0 [TC.i ((nth (row A i) 0).int)])), (IntKind.wrap .i64 (i + (1 : Int))))))
    .no)
   .no)
  (.ok (.inr X)))
def qbu_3_st : qbu_3_σ → Tr (qbu_3_σ ⊕ qbu_3_ω) := fun x => (qbu_3_step (x.1) (x.2.1) (x.2.2))
def qbu_o3_1 (A X : LL) (i : Int) : Bool := is (Typed tab (.slice 2) (.l A) ∧ X = List.replicate A.length qbu_z ∧ i = 0)
def qbu_3_fin (A X : LL) (i : Int) : Told qbu_3_ω := (.leaf (qbu_o3_1 A X i) A)
def qbu_3_sl (x : qbu_3_σ) : List Slot := [⟨.val false [⟨.slice 2, .sh, TC.l (x.1)⟩], ⟨0, 0⟩⟩, ⟨.val false [⟨.slice 2, .own true, TC.l (x.2.1)⟩], ⟨0, 0⟩⟩, ⟨.val false [⟨.int .i64, .sh, TC.i (x.2.2)⟩], ⟨0, 0⟩⟩]
def qbu_3_out : qbu_3_ω → Ex × List Slot := (fun x => (.exit 0, [Slot.none, ⟨.val false [⟨.slice 2, .own true, TC.l x⟩], ⟨0, 0⟩⟩]))
def qbu_lo3 : List Slot → Option (Told (Ex × List Slot)) := fun s => match s with
  | [⟨.val false [⟨.slice 2, .sh, TC.l A⟩], ⟨0, 0⟩⟩, ⟨.val false [⟨.slice 2, .own true, TC.l X⟩], ⟨0, 0⟩⟩, ⟨.val false [⟨.int .i64, .sh, TC.i i⟩], ⟨0, 0⟩⟩] => some (((qbu_3_fin A X i)).map qbu_3_out)
  | _ => .none
def qbu_lo : LoopTeller := fun r s => bif Nat.beq r 3 then qbu_lo3 s else .none
theorem qbu_3_r (A X : LL) (i : Int) (fuel : Nat) : rounds (rnd tab FT D7 live 33 qbu_lo 0 3) leave (fuel + 1) (qbu_3_sl (A, X, i)) = ((qbu_3_step A X i)).run (goOn (fun s => rounds (rnd tab FT D7 live 33 qbu_lo 0 3) leave fuel (qbu_3_sl s)) fun w => some (qbu_3_out w)) := by kernel_rfl
theorem qbu_3_h (A X : LL) (i : Int) (ow : qbu_3_ω) : ((qbu_3_fin A X i)).val = some ow → ∃ fuel, loopN qbu_3_st fuel (A, X, i) = some ow := by
  intro h
  refine auto_leaf (R := A) (fun ho => ?_) h
  obtain ⟨ht, rfl, rfl⟩ := is_iff.1 ho
  have hlen : A.length ≤ 140737488351232 := by have := typed_room ht; simp only [show (tab 2).bytes = 8 from rfl] at this; omega
  have key := loopN_copy (step := qbu_3_st) A (List.replicate A.length qbu_z) qbu_g (fun Y i => (A, Y, (i : Int))) (A.map qbu_g) (by simp) (fun x hx i _ => by rw [(List.mem_replicate.1 hx).2]; exact Nat.le_refl 1) (fun Y i hi hl => ?_) ?_ A.length 0 (by omega)
  · rw [copied_zero, qbu_id ht] at key
    exact ⟨_, key⟩
  · skip
    show (qbu_3_step A Y (i : Int)).val = _
    unfold qbu_3_step
    refine Tr.t (by simp; omega) ?_
    refine Tr.t (by first | omega | (constructor <;> omega)) ?_
    refine Tr.t (by first | omega | (constructor <;> omega)) ?_
    rw [Tr.val_ok, wrap64 (i := (i : Int) + 1) (by omega) (by omega)]; rfl
  · show (qbu_3_step A (A.map qbu_g) (A.length : Int)).val = _
    refine Tr.n (by simp) ?_
    rfl
theorem qbu_is3 : LoopIs tab FT D7 live 33 qbu_lo 0 3 := by
  refine loop_told (sl := qbu_3_sl) (step := qbu_3_st) (out := qbu_3_out) (lor := qbu_lo3) (fin := fun x => (qbu_3_fin (x.1) (x.2.1) (x.2.2))) (fun _ => rfl) ?_ (fun x n => qbu_3_r x.1 x.2.1 x.2.2 n) (fun x ow => qbu_3_h x.1 x.2.1 x.2.2 ow)
  intro s t h
  unfold qbu_lo3 at h
  split at h
  · cases h; exact ⟨(_, _, _), rfl, rfl⟩
  · cases h
def qbu_t (A : LL) : Tr (LL) := (.ite (0 ≤ (A.length : Int) ∧ (A.length : Int) ≤ (A.length : Int) ∧ (A.length : Int) * 8 ≤ 140737488355328 ∧ (A.length : Int) ≤ 140737488355328) (.ite ((qbu_o3_1 A (List.replicate ((A.length : Int)).toNat [TC.i (0 : Int)]) (0 : Int)) = true) (.ok A)
   .no)
  .no)
def qbu_mk (p : LL) : Res := [(false, [⟨.slice 2, .own true, TC.l p⟩])]
def qbu_c (A : LL) : Bool := is (Typed tab (.slice 2) (.l A))
def qbu_v (A : LL) : LL := A
theorem qbu_l (A : LL) : (qbu_c A) = true → (qbu_t A).val = some (qbu_v A) := by
  intro h
  have ht := is_iff.1 h
  have hb := typed_room ht
  simp only [show (tab 2).bytes = 8 from rfl] at hb
  unfold qbu_t
  refine Tr.t (by omega) ?_
  refine Tr.t (is_true ⟨ht, by rfl, rfl⟩) ?_
  rfl
def qbu_S : List Arg → Option (Bool × Res) := fun xs => match xs with
  | [(false, [(.slice 2, TC.l A)])] => some ((qbu_c A), qbu_mk (qbu_v A))
  | _ => .none
theorem qbu_e (A : LL) : runF tab FT D7 live 33 qbu_lo [(false, [(.slice 2, TC.l A)])] = (qbu_t A).run fun p => some (qbu_mk p) := by kernel_rfl
theorem qbu_s : ∀ xs r, qbu_S xs = some (true, r) → runF tab FT D7 live 33 qbu_lo xs = some r := by
  intro xs r h
  unfold qbu_S at h
  split at h
  · obtain ⟨h1, rfl⟩ := sp h
    exact fun_told (qbu_e _) (qbu_l _) h1
  · cases h
def D8 : Dt := also D7 33 qbu_S
theorem d8 : DOk Go.Proofs.Try.prog tab D8 := d7.also mixed_ok tab_ok names_ok (fnLoops_one (by kernel_rfl) qbu_is3) qbu_s
theorem qbu_ty {A : LL} (h : Typed tab (.slice 2) (.l A)) : Typed tab (.slice 2) (.l A) := typed_iso iso_ok h (by decide)
section
class qj_O where n : Nat
variable [i_laws_toType : qj_O]
def qj_rc (x0 x1 : Int) (x2 x3 : Bool) (x4 x5 x6 x7 : LL) (x8 : Int) : Bool := is (max (rowsDep x6) (rowsDep x7) < qj_O.n ∧ Typed tab (.slice 9) (.l x4) ∧ Typed tab (.slice 2) (.l x5) ∧ Typed tab (.slice 67) (.l x6) ∧ Typed tab (.slice 27) (.l x7))
def qj_rv (x0 x1 : Int) (x2 x3 : Bool) (x4 x5 x6 x7 : LL) (x8 : Int) : Int × Int × Bool × Bool × LL × LL × LL × LL × Int := (x0, x1, x2, x3, x4, x5, x6, x7, x8)
def qj_rmk (p : Int × Int × Bool × Bool × LL × LL × LL × LL × Int) : Res := [(true, [⟨.int .i64, .sh, TC.i (p.1)⟩, ⟨.int .i64, .sh, TC.i (p.2.1)⟩, ⟨.bool, .sh, TC.b (p.2.2.1)⟩, ⟨.bool, .sh, TC.b (p.2.2.2.1)⟩, ⟨.slice 9, .own true, TC.l (p.2.2.2.2.1)⟩, ⟨.slice 2, .own true, TC.l (p.2.2.2.2.2.1)⟩, ⟨.slice 71, .own true, TC.l (p.2.2.2.2.2.2.1)⟩, ⟨.slice 32, .own true, TC.l (p.2.2.2.2.2.2.2.1)⟩, ⟨.int .i64, .sh, TC.i (p.2.2.2.2.2.2.2.2)⟩])]
def qj_rS : List Arg → Option (Bool × Res) := fun xs => match xs with
  | [(true, [(.int .i64, TC.i x0), (.int .i64, TC.i x1), (.bool, TC.b x2), (.bool, TC.b x3), (.slice 9, TC.l x4), (.slice 2, TC.l x5), (.slice 67, TC.l x6), (.slice 27, TC.l x7), (.int .i64, TC.i x8)])] => some ((qj_rc x0 x1 x2 x3 x4 x5 x6 x7 x8), qj_rmk (qj_rv x0 x1 x2 x3 x4 x5 x6 x7 x8))
  | _ => .none
def D9 : Dt := also D8 11 qj_rS
class qj_G : Prop where ok : DOk Go.Proofs.Try.prog tab D9
variable [g_laws_toType : qj_G]
theorem d9 : DOk Go.Proofs.Try.prog tab D9 := qj_G.ok
def qcx_t (a0 : BS) (a1 a2 a3 : Int) (a4 a5 : Bool) (a6 a7 a8 a9 : LL) (a10 : Int) : Tr (BS × Int × Int × Int × Bool × Bool × LL × LL × LL × LL × Int) := (.ite ((qj_rc a2 a3 a4 a5 a6 a7 a8 a9 a10) = true) (.ok (a0, a1, (qj_rv a2 a3 a4 a5 a6 a7 a8 a9 a10).1, (qj_rv a2 a3 a4 a5 a6 a7 a8 a9 a10).2.1, (qj_rv a2 a3 a4 a5 a6 a7 a8 a9 a10).2.2.1, (qj_rv a2 a3 a4 a5 a6 a7 a8 a9 a10).2.2.2.1, (qj_rv a2 a3 a4 a5 a6 a7 a8 a9 a10).2.2.2.2.1, (qj_rv a2 a3 a4 a5 a6 a7 a8 a9 a10).2.2.2.2.2.1, (qj_rv a2 a3 a4 a5 a6 a7 a8 a9 a10).2.2.2.2.2.2.1, (qj_rv a2 a3 a4 a5 a6 a7 a8 a9 a10).2.2.2.2.2.2.2.1, (qj_rv a2 a3 a4 a5 a6 a7 a8 a9 a10).2.2.2.2.2.2.2.2))
  .no)
def qcx_mk (p : BS × Int × Int × Int × Bool × Bool × LL × LL × LL × LL × Int) : Res := [(true, [⟨.str, .sh, TC.s (p.1)⟩, ⟨.int .i64, .sh, TC.i (p.2.1)⟩, ⟨.int .i64, .sh, TC.i (p.2.2.1)⟩, ⟨.int .i64, .sh, TC.i (p.2.2.2.1)⟩, ⟨.bool, .sh, TC.b (p.2.2.2.2.1)⟩, ⟨.bool, .sh, TC.b (p.2.2.2.2.2.1)⟩, ⟨.slice 9, .own true, TC.l (p.2.2.2.2.2.2.1)⟩, ⟨.slice 2, .own true, TC.l (p.2.2.2.2.2.2.2.1)⟩, ⟨.slice 71, .own true, TC.l (p.2.2.2.2.2.2.2.2.1)⟩, ⟨.slice 32, .own true, TC.l (p.2.2.2.2.2.2.2.2.2.1)⟩, ⟨.int .i64, .sh, TC.i (p.2.2.2.2.2.2.2.2.2.2)⟩])]
def qcx_c (a0 : BS) (a1 a2 a3 : Int) (a4 a5 : Bool) (a6 a7 a8 a9 : LL) (a10 : Int) : Bool := (qj_rc a2 a3 a4 a5 a6 a7 a8 a9 a10)
def qcx_v (a0 : BS) (a1 a2 a3 : Int) (a4 a5 : Bool) (a6 a7 a8 a9 : LL) (a10 : Int) : BS × Int × Int × Int × Bool × Bool × LL × LL × LL × LL × Int := (a0, a1, (qj_rv a2 a3 a4 a5 a6 a7 a8 a9 a10).1, (qj_rv a2 a3 a4 a5 a6 a7 a8 a9 a10).2.1, (qj_rv a2 a3 a4 a5 a6 a7 a8 a9 a10).2.2.1, (qj_rv a2 a3 a4 a5 a6 a7 a8 a9 a10).2.2.2.1, (qj_rv a2 a3 a4 a5 a6 a7 a8 a9 a10).2.2.2.2.1, (qj_rv a2 a3 a4 a5 a6 a7 a8 a9 a10).2.2.2.2.2.1, (qj_rv a2 a3 a4 a5 a6 a7 a8 a9 a10).2.2.2.2.2.2.1, (qj_rv a2 a3 a4 a5 a6 a7 a8 a9 a10).2.2.2.2.2.2.2.1, (qj_rv a2 a3 a4 a5 a6 a7 a8 a9 a10).2.2.2.2.2.2.2.2)
theorem qcx_l (a0 : BS) (a1 a2 a3 : Int) (a4 a5 : Bool) (a6 a7 a8 a9 : LL) (a10 : Int) : (qcx_c a0 a1 a2 a3 a4 a5 a6 a7 a8 a9 a10) = true → (qcx_t a0 a1 a2 a3 a4 a5 a6 a7 a8 a9 a10).val = some (qcx_v a0 a1 a2 a3 a4 a5 a6 a7 a8 a9 a10) := by
  intro h
  have hc0 : (qj_rc a2 a3 a4 a5 a6 a7 a8 a9 a10) = true := h
  unfold qcx_t
  exact (Tr.t hc0 rfl)
def qcx_S : List Arg → Option (Bool × Res) := fun xs => match xs with
  | [(true, [(.str, TC.s a0), (.int .i64, TC.i a1), (.int .i64, TC.i a2), (.int .i64, TC.i a3), (.bool, TC.b a4), (.bool, TC.b a5), (.slice 9, TC.l a6), (.slice 2, TC.l a7), (.slice 67, TC.l a8), (.slice 27, TC.l a9), (.int .i64, TC.i a10)])] => some ((qcx_c a0 a1 a2 a3 a4 a5 a6 a7 a8 a9 a10), qcx_mk (qcx_v a0 a1 a2 a3 a4 a5 a6 a7 a8 a9 a10))
  | _ => .none
theorem qcx_e (a0 : BS) (a1 a2 a3 : Int) (a4 a5 : Bool) (a6 a7 a8 a9 : LL) (a10 : Int) : runF tab FT D9 live 72 noLoops [(true, [(.str, TC.s a0), (.int .i64, TC.i a1), (.int .i64, TC.i a2), (.int .i64, TC.i a3), (.bool, TC.b a4), (.bool, TC.b a5), (.slice 9, TC.l a6), (.slice 2, TC.l a7), (.slice 67, TC.l a8), (.slice 27, TC.l a9), (.int .i64, TC.i a10)])] = (qcx_t a0 a1 a2 a3 a4 a5 a6 a7 a8 a9 a10).run fun p => some (qcx_mk p) := by kernel_rfl
theorem qcx_s : ∀ xs r, qcx_S xs = some (true, r) → runF tab FT D9 live 72 noLoops xs = some r := by
  intro xs r h
  unfold qcx_S at h
  split at h
  · obtain ⟨h1, rfl⟩ := sp h
    exact fun_told (qcx_e ..) (qcx_l _ _ _ _ _ _ _ _ _ _ _) h1
  · cases h
def D10 : Dt := also D9 72 qcx_S
theorem d10 : DOk Go.Proofs.Try.prog tab D10 := d9.also mixed_ok tab_ok names_ok noLoops_ok qcx_s
def qbq_g (x : List TC) : List TC := [TC.s ((qcx_v ((nth x 0).str) ((nth x 1).int) ((nth x 2).int) ((nth x 3).int) ((nth x 4).bool) ((nth x 5).bool) ((nth x 6).list) ((nth x 7).list) ((nth x 8).list) ((nth x 9).list) ((nth x 10).int)).1), TC.i ((qcx_v ((nth x 0).str) ((nth x 1).int) ((nth x 2).int) ((nth x 3).int) ((nth x 4).bool) ((nth x 5).bool) ((nth x 6).list) ((nth x 7).list) ((nth x 8).list) ((nth x 9).list) ((nth x 10).int)).2.1), TC.i ((qcx_v ((nth x 0).str) ((nth x 1).int) ((nth x 2).int) ((nth x 3).int) ((nth x 4).bool) ((nth x 5).bool) ((nth x 6).list) ((nth x 7).list) ((nth x 8).list) ((nth x 9).list) ((nth x 10).int)).2.2.1), TC.i ((qcx_v ((nth x 0).str) ((nth x 1).int) ((nth x 2).int) ((nth x 3).int) ((nth x 4).bool) ((nth x 5).bool) ((nth x 6).list) ((nth x 7).list) ((nth x 8).list) ((nth x 9).list) ((nth x 10).int)).2.2.2.1), TC.b ((qcx_v ((nth x 0).str) ((nth x 1).int) ((nth x 2).int) ((nth x 3).int) ((nth x 4).bool) ((nth x 5).bool) ((nth x 6).list) ((nth x 7).list) ((nth x 8).list) ((nth x 9).list) ((nth x 10).int)).2.2.2.2.1), TC.b ((qcx_v ((nth x 0).str) ((nth x 1).int) ((nth x 2).int) ((nth x 3).int) ((nth x 4).bool) ((nth x 5).bool) ((nth x 6).list) ((nth x 7).list) ((nth x 8).list) ((nth x 9).list) ((nth x 10).int)).2.2.2.2.2.1), TC.l ((qcx_v ((nth x 0).str) ((nth x 1).int) ((nth x 2).int) ((nth x 3).int) ((nth x 4).bool) ((nth x 5).bool) ((nth x 6).list) ((nth x 7).list) ((nth x 8).list) ((nth x 9).list) ((nth x 10).int)).2.2.2.2.2.2.1), TC.l ((qcx_v ((nth x 0).str) ((nth x 1).int) ((nth x 2).int) ((nth x 3).int) ((nth x 4).bool) ((nth x 5).bool) ((nth x 6).list) ((nth x 7).list) ((nth x 8).list) ((nth x 9).list) ((nth x 10).int)).2.2.2.2.2.2.2.1), TC.l ((qcx_v ((nth x 0).str) ((nth x 1).int) ((nth x 2).int) ((nth x 3).int) ((nth x 4).bool) ((nth x 5).bool) ((nth x 6).list) ((nth x 7).list) ((nth x 8).list) ((nth x 9).list) ((nth x 10).int)).2.2.2.2.2.2.2.2.1), TC.l ((qcx_v ((nth x 0).str) ((nth x 1).int) ((nth x 2).int) ((nth x 3).int) ((nth x 4).bool) ((nth x 5).bool) ((nth x 6).list) ((nth x 7).list) ((nth x 8).list) ((nth x 9).list) ((nth x 10).int)).2.2.2.2.2.2.2.2.2.1), TC.i ((qcx_v ((nth x 0).str) ((nth x 1).int) ((nth x 2).int) ((nth x 3).int) ((nth x 4).bool) ((nth x 5).bool) ((nth x 6).list) ((nth x 7).list) ((nth x 8).list) ((nth x 9).list) ((nth x 10).int)).2.2.2.2.2.2.2.2.2.2)]
def qbq_z : List TC := [TC.s [], TC.i (0 : Int), TC.i (0 : Int), TC.i (0 : Int), TC.b false, TC.b false, TC.l [], TC.l [], TC.l [], TC.l [], TC.i (0 : Int)]
theorem qbq_id {A : LL} (h : Typed tab (.slice 67) (.l A)) : A.map qbq_g = A := map_same fun x hx => by
  obtain ⟨hl, hk⟩ := typed_elem h hx
  have e0 : TC.s ((nth x 0).str) = nth x 0 := typed_str_eq (hk 0 (by decide))
  have e1 : TC.i ((nth x 1).int) = nth x 1 := typed_int_eq (hk 1 (by decide))
  have e2 : TC.i ((nth x 2).int) = nth x 2 := typed_int_eq (hk 2 (by decide))
  have e3 : TC.i ((nth x 3).int) = nth x 3 := typed_int_eq (hk 3 (by decide))
  have e4 : TC.b ((nth x 4).bool) = nth x 4 := typed_bool_eq (hk 4 (by decide))
  have e5 : TC.b ((nth x 5).bool) = nth x 5 := typed_bool_eq (hk 5 (by decide))
  have e6 : TC.l ((nth x 6).list) = nth x 6 := typed_list_eq (hk 6 (by decide))
  have e7 : TC.l ((nth x 7).list) = nth x 7 := typed_list_eq (hk 7 (by decide))
  have e8 : TC.l ((nth x 8).list) = nth x 8 := typed_list_eq (hk 8 (by decide))
  have e9 : TC.l ((nth x 9).list) = nth x 9 := typed_list_eq (hk 9 (by decide))
  have e10 : TC.i ((nth x 10).int) = nth x 10 := typed_int_eq (hk 10 (by decide))
  show [TC.s ((nth x 0).str), TC.i ((nth x 1).int), TC.i ((nth x 2).int), TC.i ((nth x 3).int), TC.b ((nth x 4).bool), TC.b ((nth x 5).bool), TC.l ((nth x 6).list), TC.l ((nth x 7).list), TC.l ((nth x 8).list), TC.l ((nth x 9).list), TC.i ((nth x 10).int)] = _
  rw [e0, e1, e2, e3, e4, e5, e6, e7, e8, e9, e10]
  exact (row_eta hl).symm
abbrev qbq_3_σ := LL × LL × Int
abbrev qbq_3_ω := (LL)
def qbq_3_step (A X : LL) (i : Int) : Tr (qbq_3_σ ⊕ qbq_3_ω) := (.ite ((decide (i < (A.length : Int))) = true) (.ite ((0 : Int) ≤ i ∧ i < (A.length : Int)) (.ite ((qcx_c ((nth (row A i) 0).str) ((nth (row A i) 1).int) ((nth (row A i) 2).int) ((nth (row A i) 3).int) ((nth (row A i) 4).bool) ((nth (row A i) 5).bool) ((nth (row A i) 6).list) ((nth (row A i) 7).list) ((nth (row A i) 8).list) ((nth (row A i) 9).list) ((nth (row A i) 10).int)) = true) (.ite ((0 : Int) ≤ i ∧ i < (X.length : Int)) (.ok (.inl (A, (X.set (i).toNat (splice (row X i) 0 [TC.s ((qcx_v ((nth (row A i) 0).str) ((nth (row A i) 1).int) ((nth (row A i) 2).int) ((nth (row A i) 3).int) ((nth (row A i) 4).bool) ((nth (row A i) 5).bool) ((nth (row A i) 6).list) ((nth (row A i) 7).list) ((nth (row A i) 8).list) ((nth (row A i) 9).list) ((nth (row A i) 10).int)).1), TC.i ((qcx_v ((nth (row A i) 0).str) ((nth (row A i) 1).int) ((nth (row A i) 2).int) ((nth (row A i) 3).int) ((nth (row A i) 4).bool) ((nth (row A i) 5).bool) ((nth (row A i) 6).list) ((nth (row A i) 7).list) ((nth (row A i) 8).list) ((nth (row A i) 9).list) ((nth (row A i) 10).int)).2.1), TC.i ((qcx_v ((nth (row A i) 0).str) ((nth (row A i) 1).int) ((nth (row A i) 2).int) ((nth (row A i) 3).int) ((nth (row A i) 4).bool) ((nth (row A i) 5).bool) ((nth (row A i) 6).list) ((nth (row A i) 7).list) ((nth (row A i) 8).list) ((nth (row A i) 9).list) ((nth (row A i) 10).int)).2.2.1), TC.i ((qcx_v ((nth (row A i) 0).str) ((nth (row A i) 1).int) ((nth (row A i) 2).int) ((nth (row A i) 3).int) ((nth (row A i) 4).bool) ((nth (row A i) 5).bool) ((nth (row A i) 6).list) ((nth (row A i) 7).list) ((nth (row A i) 8).list) ((nth (row A i) 9).list) ((nth (row A i) 10).int)).2.2.2.1), TC.b ((qcx_v ((nth (row A i) 0).str) ((nth (row A i) 1).int) ((nth (row A i) 2).int) ((nth (row A i) 3).int) ((nth (row A i) 4).bool) ((nth (row A i) 5).bool) ((nth (row A i) 6).list) ((nth (row A i) 7).list) ((nth (row A i) 8).list) ((nth (row A i) 9).list) ((nth (row A i) 10).int)).2.2.2.2.1), TC.b ((qcx_v ((nth (row A i) 0).str) ((nth (row A i) 1).int) ((nth (row A i) 2).int) ((nth (row A i) 3).int) ((nth (row A i) 4).bool) ((nth (row A i) 5).bool) ((nth (row A i) 6).list) ((nth (row A i) 7).list) ((nth (row A i) 8).list) ((nth (row A i) 9).list) ((nth (row A i) 10).int)).2.2.2.2.2.1), TC.l ((qcx_v ((nth (row A i) 0).str) ((nth (row A i) 1).int) ((nth (row A i) 2).int) ((nth (row A i) 3).int) ((nth (row A i) 4).bool) ((nth (row A i) 5).bool) ((nth (row A i) 6).list) ((nth (row A i) 7).list) ((nth (row A i) 8).list) ((nth (row A i) 9).list) ((nth (row A i) 10).int)).2.2.2.2.2.2.1), TC.l ((qcx_v ((nth (row A i) 0).str) ((nth (row A i) 1).int) ((nth (row A i) 2).int) ((nth (row A i) 3).int) ((nth (row A i) 4).bool) ((nth (row A i) 5).bool) ((nth (row A i) 6).list) ((nth (row A i) 7).list) ((nth (row A i) 8).list) ((nth (row A i) 9).list) ((nth (row A i) 10).int)).2.2.2.2.2.2.2.1), TC.l ((qcx_v ((nth (row A i) 0).str) ((nth (row A i) 1).int) ((nth (row A i) 2).int) ((nth (row A i) 3).int) ((nth (row A i) 4).bool) ((nth (row A i) 5).bool) ((nth (row A i) 6).list) ((nth (row A i) 7).list) ((nth (row A i) 8).list) ((nth (row A i) 9).list) ((nth (row A i) 10).int)).2.2.2.2.2.2.2.2.1), TC.l ((qcx_v ((nth (row A i) 0).str) ((nth (row A i) 1).int) ((nth (row A i) 2).int) ((nth (row A i) 3).int) ((nth (row A i) 4).bool) ((nth (row A i) 5).bool) ((nth (row A i) 6).list) ((nth (row A i) 7).list) ((nth (row A i) 8).list) ((nth (row A i) 9).list) ((nth (row A i) 10).int)).2.2.2.2.2.2.2.2.2.1), TC.i ((qcx_v ((nth (row A i) 0).str) ((nth (row A i) 1).int) ((nth (row A i) 2).int) ((nth (row A i) 3).int) ((nth (row A i) 4).bool) ((nth (row A i) 5).bool) ((nth (row A i) 6).list) ((nth (row A i) 7).list) ((nth (row A i) 8).list) ((nth (row A i) 9).list) ((nth (row A i) 10).int)).2.2.2.2.2.2.2.2.2.2)])), (IntKind.wrap .i64 (i + (1 : Int))))))
     .no)
    .no)
   .no)
  (.ok (.inr X)))
def qbq_3_st : qbq_3_σ → Tr (qbq_3_σ ⊕ qbq_3_ω) := fun x => (qbq_3_step (x.1) (x.2.1) (x.2.2))
def qbq_o3_1 (A X : LL) (i : Int) : Bool := is (Typed tab (.slice 67) (.l A) ∧ (∀ x : List TC, x ∈ A → (qcx_c ((nth x 0).str) ((nth x 1).int) ((nth x 2).int) ((nth x 3).int) ((nth x 4).bool) ((nth x 5).bool) ((nth x 6).list) ((nth x 7).list) ((nth x 8).list) ((nth x 9).list) ((nth x 10).int)) = true) ∧ X = List.replicate A.length qbq_z ∧ i = 0)
def qbq_3_fin (A X : LL) (i : Int) : Told qbq_3_ω := (.leaf (qbq_o3_1 A X i) A)
def qbq_3_sl (x : qbq_3_σ) : List Slot := [⟨.val false [⟨.slice 67, .sh, TC.l (x.1)⟩], ⟨0, 0⟩⟩, ⟨.val false [⟨.slice 71, .own true, TC.l (x.2.1)⟩], ⟨0, 0⟩⟩, ⟨.val false [⟨.int .i64, .sh, TC.i (x.2.2)⟩], ⟨0, 0⟩⟩]
def qbq_3_out : qbq_3_ω → Ex × List Slot := (fun x => (.exit 0, [Slot.none, ⟨.val false [⟨.slice 71, .own true, TC.l x⟩], ⟨0, 0⟩⟩]))
def qbq_lo3 : List Slot → Option (Told (Ex × List Slot)) := fun s => match s with
  | [⟨.val false [⟨.slice 67, .sh, TC.l A⟩], ⟨0, 0⟩⟩, ⟨.val false [⟨.slice 71, .own true, TC.l X⟩], ⟨0, 0⟩⟩, ⟨.val false [⟨.int .i64, .sh, TC.i i⟩], ⟨0, 0⟩⟩] => some (((qbq_3_fin A X i)).map qbq_3_out)
  | _ => .none
def qbq_lo : LoopTeller := fun r s => bif Nat.beq r 3 then qbq_lo3 s else .none
theorem qbq_3_r (A X : LL) (i : Int) (fuel : Nat) : rounds (rnd tab FT D10 live 34 qbq_lo 0 3) leave (fuel + 1) (qbq_3_sl (A, X, i)) = ((qbq_3_step A X i)).run (goOn (fun s => rounds (rnd tab FT D10 live 34 qbq_lo 0 3) leave fuel (qbq_3_sl s)) fun w => some (qbq_3_out w)) := by kernel_rfl
theorem qbq_3_h (A X : LL) (i : Int) (ow : qbq_3_ω) : ((qbq_3_fin A X i)).val = some ow → ∃ fuel, loopN qbq_3_st fuel (A, X, i) = some ow := by
  intro h
  refine auto_leaf (R := A) (fun ho => ?_) h
  obtain ⟨ht, hr0, rfl, rfl⟩ := is_iff.1 ho
  have hlen : A.length ≤ 140737488351232 := by have := typed_room ht; simp only [show (tab 67).bytes = 152 from rfl] at this; omega
  have key := loopN_copy (step := qbq_3_st) A (List.replicate A.length qbq_z) qbq_g (fun Y i => (A, Y, (i : Int))) (A.map qbq_g) (by simp) (fun x hx i _ => by rw [(List.mem_replicate.1 hx).2]; exact Nat.le_refl 11) (fun Y i hi hl => ?_) ?_ A.length 0 (by omega)
  · rw [copied_zero, qbq_id ht] at key
    exact ⟨_, key⟩
  · have c0 : Typed tab (.str) (.s (nth (A.getD i []) 0).str) := typed_s (typed_cell ht (A.getD i []) (mem_getD hi) 0 (by decide))
    have c6 : Typed tab (.slice 9) (.l (nth (A.getD i []) 6).list) := typed_list (typed_cell ht (A.getD i []) (mem_getD hi) 6 (by decide))
    have c7 : Typed tab (.slice 2) (.l (nth (A.getD i []) 7).list) := typed_list (typed_cell ht (A.getD i []) (mem_getD hi) 7 (by decide))
    have c8 : Typed tab (.slice 67) (.l (nth (A.getD i []) 8).list) := typed_list (typed_cell ht (A.getD i []) (mem_getD hi) 8 (by decide))
    have c9 : Typed tab (.slice 27) (.l (nth (A.getD i []) 9).list) := typed_list (typed_cell ht (A.getD i []) (mem_getD hi) 9 (by decide))
    show (qbq_3_step A Y (i : Int)).val = _
    unfold qbq_3_step
    refine Tr.t (by simp; omega) ?_
    refine Tr.t (by first | omega | (constructor <;> omega)) ?_
    refine Tr.t (hr0 (A.getD i []) (mem_getD hi)) ?_
    refine Tr.t (by first | omega | (constructor <;> omega)) ?_
    rw [Tr.val_ok, wrap64 (i := (i : Int) + 1) (by omega) (by omega)]; rfl
  · show (qbq_3_step A (A.map qbq_g) (A.length : Int)).val = _
    refine Tr.n (by simp) ?_
    rfl
theorem qbq_is3 : LoopIs tab FT D10 live 34 qbq_lo 0 3 := by
  refine loop_told (sl := qbq_3_sl) (step := qbq_3_st) (out := qbq_3_out) (lor := qbq_lo3) (fin := fun x => (qbq_3_fin (x.1) (x.2.1) (x.2.2))) (fun _ => rfl) ?_ (fun x n => qbq_3_r x.1 x.2.1 x.2.2 n) (fun x ow => qbq_3_h x.1 x.2.1 x.2.2 ow)
  intro s t h
  unfold qbq_lo3 at h
  split at h
  · cases h; exact ⟨(_, _, _), rfl, rfl⟩
  · cases h
def qbq_t (A : LL) : Tr (LL) := (.ite (0 ≤ (A.length : Int) ∧ (A.length : Int) ≤ (A.length : Int) ∧ (A.length : Int) * 152 ≤ 140737488355328 ∧ (A.length : Int) ≤ 140737488355328) (.ite ((qbq_o3_1 A (List.replicate ((A.length : Int)).toNat [TC.s [], TC.i (0 : Int), TC.i (0 : Int), TC.i (0 : Int), TC.b false, TC.b false, TC.l [], TC.l [], TC.l [], TC.l [], TC.i (0 : Int)]) (0 : Int)) = true) (.ok A)
   .no)
  .no)
def qbq_mk (p : LL) : Res := [(false, [⟨.slice 71, .own true, TC.l p⟩])]
def qbq_c (A : LL) : Bool := is (Typed tab (.slice 67) (.l A) ∧ (∀ x : List TC, x ∈ A → (qcx_c ((nth x 0).str) ((nth x 1).int) ((nth x 2).int) ((nth x 3).int) ((nth x 4).bool) ((nth x 5).bool) ((nth x 6).list) ((nth x 7).list) ((nth x 8).list) ((nth x 9).list) ((nth x 10).int)) = true))
def qbq_v (A : LL) : LL := A
theorem qbq_l (A : LL) : (qbq_c A) = true → (qbq_t A).val = some (qbq_v A) := by
  intro h
  obtain ⟨ht, hr0⟩ := is_iff.1 h
  have hb := typed_room ht
  simp only [show (tab 67).bytes = 152 from rfl] at hb
  unfold qbq_t
  refine Tr.t (by omega) ?_
  refine Tr.t (is_true ⟨ht, hr0, by rfl, rfl⟩) ?_
  rfl
def qbq_S : List Arg → Option (Bool × Res) := fun xs => match xs with
  | [(false, [(.slice 67, TC.l A)])] => some ((qbq_c A), qbq_mk (qbq_v A))
  | _ => .none
theorem qbq_e (A : LL) : runF tab FT D10 live 34 qbq_lo [(false, [(.slice 67, TC.l A)])] = (qbq_t A).run fun p => some (qbq_mk p) := by kernel_rfl
theorem qbq_s : ∀ xs r, qbq_S xs = some (true, r) → runF tab FT D10 live 34 qbq_lo xs = some r := by
  intro xs r h
  unfold qbq_S at h
  split at h
  · obtain ⟨h1, rfl⟩ := sp h
    exact fun_told (qbq_e _) (qbq_l _) h1
  · cases h
def D11 : Dt := also D10 34 qbq_S
theorem d11 : DOk Go.Proofs.Try.prog tab D11 := d10.also mixed_ok tab_ok names_ok (fnLoops_one (by kernel_rfl) qbq_is3) qbq_s
theorem qbq_ty {A : LL} (h : Typed tab (.slice 67) (.l A)) : Typed tab (.slice 71) (.l A) := typed_iso iso_ok h (by decide)
def qbz_g (x : List TC) : List TC := [TC.i ((qj_rv ((nth x 0).int) ((nth x 1).int) ((nth x 2).bool) ((nth x 3).bool) ((nth x 4).list) ((nth x 5).list) ((nth x 6).list) ((nth x 7).list) ((nth x 8).int)).1), TC.i ((qj_rv ((nth x 0).int) ((nth x 1).int) ((nth x 2).bool) ((nth x 3).bool) ((nth x 4).list) ((nth x 5).list) ((nth x 6).list) ((nth x 7).list) ((nth x 8).int)).2.1), TC.b ((qj_rv ((nth x 0).int) ((nth x 1).int) ((nth x 2).bool) ((nth x 3).bool) ((nth x 4).list) ((nth x 5).list) ((nth x 6).list) ((nth x 7).list) ((nth x 8).int)).2.2.1), TC.b ((qj_rv ((nth x 0).int) ((nth x 1).int) ((nth x 2).bool) ((nth x 3).bool) ((nth x 4).list) ((nth x 5).list) ((nth x 6).list) ((nth x 7).list) ((nth x 8).int)).2.2.2.1), TC.l ((qj_rv ((nth x 0).int) ((nth x 1).int) ((nth x 2).bool) ((nth x 3).bool) ((nth x 4).list) ((nth x 5).list) ((nth x 6).list) ((nth x 7).list) ((nth x 8).int)).2.2.2.2.1), TC.l ((qj_rv ((nth x 0).int) ((nth x 1).int) ((nth x 2).bool) ((nth x 3).bool) ((nth x 4).list) ((nth x 5).list) ((nth x 6).list) ((nth x 7).list) ((nth x 8).int)).2.2.2.2.2.1), TC.l ((qj_rv ((nth x 0).int) ((nth x 1).int) ((nth x 2).bool) ((nth x 3).bool) ((nth x 4).list) ((nth x 5).list) ((nth x 6).list) ((nth x 7).list) ((nth x 8).int)).2.2.2.2.2.2.1), TC.l ((qj_rv ((nth x 0).int) ((nth x 1).int) ((nth x 2).bool) ((nth x 3).bool) ((nth x 4).list) ((nth x 5).list) ((nth x 6).list) ((nth x 7).list) ((nth x 8).int)).2.2.2.2.2.2.2.1), TC.i ((qj_rv ((nth x 0).int) ((nth x 1).int) ((nth x 2).bool) ((nth x 3).bool) ((nth x 4).list) ((nth x 5).list) ((nth x 6).list) ((nth x 7).list) ((nth x 8).int)).2.2.2.2.2.2.2.2)]
def qbz_z : List TC := [TC.i (0 : Int), TC.i (0 : Int), TC.b false, TC.b false, TC.l [], TC.l [], TC.l [], TC.l [], TC.i (0 : Int)]
theorem qbz_id {A : LL} (h : Typed tab (.slice 27) (.l A)) : A.map qbz_g = A := map_same fun x hx => by
  obtain ⟨hl, hk⟩ := typed_elem h hx
  have e0 : TC.i ((nth x 0).int) = nth x 0 := typed_int_eq (hk 0 (by decide))
  have e1 : TC.i ((nth x 1).int) = nth x 1 := typed_int_eq (hk 1 (by decide))
  have e2 : TC.b ((nth x 2).bool) = nth x 2 := typed_bool_eq (hk 2 (by decide))
  have e3 : TC.b ((nth x 3).bool) = nth x 3 := typed_bool_eq (hk 3 (by decide))
  have e4 : TC.l ((nth x 4).list) = nth x 4 := typed_list_eq (hk 4 (by decide))
  have e5 : TC.l ((nth x 5).list) = nth x 5 := typed_list_eq (hk 5 (by decide))
  have e6 : TC.l ((nth x 6).list) = nth x 6 := typed_list_eq (hk 6 (by decide))
  have e7 : TC.l ((nth x 7).list) = nth x 7 := typed_list_eq (hk 7 (by decide))
  have e8 : TC.i ((nth x 8).int) = nth x 8 := typed_int_eq (hk 8 (by decide))
  show [TC.i ((nth x 0).int), TC.i ((nth x 1).int), TC.b ((nth x 2).bool), TC.b ((nth x 3).bool), TC.l ((nth x 4).list), TC.l ((nth x 5).list), TC.l ((nth x 6).list), TC.l ((nth x 7).list), TC.i ((nth x 8).int)] = _
  rw [e0, e1, e2, e3, e4, e5, e6, e7, e8]
  exact (row_eta hl).symm
abbrev qbz_3_σ := LL × LL × Int
abbrev qbz_3_ω := (LL)
def qbz_3_step (A X : LL) (i : Int) : Tr (qbz_3_σ ⊕ qbz_3_ω) := (.ite ((decide (i < (A.length : Int))) = true) (.ite ((0 : Int) ≤ i ∧ i < (A.length : Int)) (.ite ((qj_rc ((nth (row A i) 0).int) ((nth (row A i) 1).int) ((nth (row A i) 2).bool) ((nth (row A i) 3).bool) ((nth (row A i) 4).list) ((nth (row A i) 5).list) ((nth (row A i) 6).list) ((nth (row A i) 7).list) ((nth (row A i) 8).int)) = true) (.ite ((0 : Int) ≤ i ∧ i < (X.length : Int)) (.ok (.inl (A, (X.set (i).toNat (splice (row X i) 0 [TC.i ((qj_rv ((nth (row A i) 0).int) ((nth (row A i) 1).int) ((nth (row A i) 2).bool) ((nth (row A i) 3).bool) ((nth (row A i) 4).list) ((nth (row A i) 5).list) ((nth (row A i) 6).list) ((nth (row A i) 7).list) ((nth (row A i) 8).int)).1), TC.i ((qj_rv ((nth (row A i) 0).int) ((nth (row A i) 1).int) ((nth (row A i) 2).bool) ((nth (row A i) 3).bool) ((nth (row A i) 4).list) ((nth (row A i) 5).list) ((nth (row A i) 6).list) ((nth (row A i) 7).list) ((nth (row A i) 8).int)).2.1), TC.b ((qj_rv ((nth (row A i) 0).int) ((nth (row A i) 1).int) ((nth (row A i) 2).bool) ((nth (row A i) 3).bool) ((nth (row A i) 4).list) ((nth (row A i) 5).list) ((nth (row A i) 6).list) ((nth (row A i) 7).list) ((nth (row A i) 8).int)).2.2.1), TC.b ((qj_rv ((nth (row A i) 0).int) ((nth (row A i) 1).int) ((nth (row A i) 2).bool) ((nth (row A i) 3).bool) ((nth (row A i) 4).list) ((nth (row A i) 5).list) ((nth (row A i) 6).list) ((nth (row A i) 7).list) ((nth (row A i) 8).int)).2.2.2.1), TC.l ((qj_rv ((nth (row A i) 0).int) ((nth (row A i) 1).int) ((nth (row A i) 2).bool) ((nth (row A i) 3).bool) ((nth (row A i) 4).list) ((nth (row A i) 5).list) ((nth (row A i) 6).list) ((nth (row A i) 7).list) ((nth (row A i) 8).int)).2.2.2.2.1), TC.l ((qj_rv ((nth (row A i) 0).int) ((nth (row A i) 1).int) ((nth (row A i) 2).bool) ((nth (row A i) 3).bool) ((nth (row A i) 4).list) ((nth (row A i) 5).list) ((nth (row A i) 6).list) ((nth (row A i) 7).list) ((nth (row A i) 8).int)).2.2.2.2.2.1), TC.l ((qj_rv ((nth (row A i) 0).int) ((nth (row A i) 1).int) ((nth (row A i) 2).bool) ((nth (row A i) 3).bool) ((nth (row A i) 4).list) ((nth (row A i) 5).list) ((nth (row A i) 6).list) ((nth (row A i) 7).list) ((nth (row A i) 8).int)).2.2.2.2.2.2.1), TC.l ((qj_rv ((nth (row A i) 0).int) ((nth (row A i) 1).int) ((nth (row A i) 2).bool) ((nth (row A i) 3).bool) ((nth (row A i) 4).list) ((nth (row A i) 5).list) ((nth (row A i) 6).list) ((nth (row A i) 7).list) ((nth (row A i) 8).int)).2.2.2.2.2.2.2.1), TC.i ((qj_rv ((nth (row A i) 0).int) ((nth (row A i) 1).int) ((nth (row A i) 2).bool) ((nth (row A i) 3).bool) ((nth (row A i) 4).list) ((nth (row A i) 5).list) ((nth (row A i) 6).list) ((nth (row A i) 7).list) ((nth (row A i) 8).int)).2.2.2.2.2.2.2.2)])), (IntKind.wrap .i64 (i + (1 : Int))))))
     .no)
    .no)
   .no)
  (.ok (.inr X)))
def qbz_3_st : qbz_3_σ → Tr (qbz_3_σ ⊕ qbz_3_ω) := fun x => (qbz_3_step (x.1) (x.2.1) (x.2.2))
def qbz_o3_1 (A X : LL) (i : Int) : Bool := is (Typed tab (.slice 27) (.l A) ∧ (∀ x : List TC, x ∈ A → (qj_rc ((nth x 0).int) ((nth x 1).int) ((nth x 2).bool) ((nth x 3).bool) ((nth x 4).list) ((nth x 5).list) ((nth x 6).list) ((nth x 7).list) ((nth x 8).int)) = true) ∧ X = List.replicate A.length qbz_z ∧ i = 0)
def qbz_3_fin (A X : LL) (i : Int) : Told qbz_3_ω := (.leaf (qbz_o3_1 A X i) A)
def qbz_3_sl (x : qbz_3_σ) : List Slot := [⟨.val false [⟨.slice 27, .sh, TC.l (x.1)⟩], ⟨0, 0⟩⟩, ⟨.val false [⟨.slice 32, .own true, TC.l (x.2.1)⟩], ⟨0, 0⟩⟩, ⟨.val false [⟨.int .i64, .sh, TC.i (x.2.2)⟩], ⟨0, 0⟩⟩]
def qbz_3_out : qbz_3_ω → Ex × List Slot := (fun x => (.exit 0, [Slot.none, ⟨.val false [⟨.slice 32, .own true, TC.l x⟩], ⟨0, 0⟩⟩]))
def qbz_lo3 : List Slot → Option (Told (Ex × List Slot)) := fun s => match s with
  | [⟨.val false [⟨.slice 27, .sh, TC.l A⟩], ⟨0, 0⟩⟩, ⟨.val false [⟨.slice 32, .own true, TC.l X⟩], ⟨0, 0⟩⟩, ⟨.val false [⟨.int .i64, .sh, TC.i i⟩], ⟨0, 0⟩⟩] => some (((qbz_3_fin A X i)).map qbz_3_out)
  | _ => .none
def qbz_lo : LoopTeller := fun r s => bif Nat.beq r 3 then qbz_lo3 s else .none
theorem qbz_3_r (A X : LL) (i : Int) (fuel : Nat) : rounds (rnd tab FT D11 live 35 qbz_lo 0 3) leave (fuel + 1) (qbz_3_sl (A, X, i)) = ((qbz_3_step A X i)).run (goOn (fun s => rounds (rnd tab FT D11 live 35 qbz_lo 0 3) leave fuel (qbz_3_sl s)) fun w => some (qbz_3_out w)) := by kernel_rfl
theorem qbz_3_h (A X : LL) (i : Int) (ow : qbz_3_ω) : ((qbz_3_fin A X i)).val = some ow → ∃ fuel, loopN qbz_3_st fuel (A, X, i) = some ow := by
  intro h
  refine auto_leaf (R := A) (fun ho => ?_) h
  obtain ⟨ht, hr0, rfl, rfl⟩ := is_iff.1 ho
  have hlen : A.length ≤ 140737488351232 := by have := typed_room ht; simp only [show (tab 27).bytes = 128 from rfl] at this; omega
  have key := loopN_copy (step := qbz_3_st) A (List.replicate A.length qbz_z) qbz_g (fun Y i => (A, Y, (i : Int))) (A.map qbz_g) (by simp) (fun x hx i _ => by rw [(List.mem_replicate.1 hx).2]; exact Nat.le_refl 9) (fun Y i hi hl => ?_) ?_ A.length 0 (by omega)
  · rw [copied_zero, qbz_id ht] at key
    exact ⟨_, key⟩
  · have c4 : Typed tab (.slice 9) (.l (nth (A.getD i []) 4).list) := typed_list (typed_cell ht (A.getD i []) (mem_getD hi) 4 (by decide))
    have c5 : Typed tab (.slice 2) (.l (nth (A.getD i []) 5).list) := typed_list (typed_cell ht (A.getD i []) (mem_getD hi) 5 (by decide))
    have c6 : Typed tab (.slice 67) (.l (nth (A.getD i []) 6).list) := typed_list (typed_cell ht (A.getD i []) (mem_getD hi) 6 (by decide))
    have c7 : Typed tab (.slice 27) (.l (nth (A.getD i []) 7).list) := typed_list (typed_cell ht (A.getD i []) (mem_getD hi) 7 (by decide))
    show (qbz_3_step A Y (i : Int)).val = _
    unfold qbz_3_step
    refine Tr.t (by simp; omega) ?_
    refine Tr.t (by first | omega | (constructor <;> omega)) ?_
    refine Tr.t (hr0 (A.getD i []) (mem_getD hi)) ?_
    refine Tr.t (by first | omega | (constructor <;> omega)) ?_
    rw [Tr.val_ok, wrap64 (i := (i : Int) + 1) (by omega) (by omega)]; rfl
  · show (qbz_3_step A (A.map qbz_g) (A.length : Int)).val = _
    refine Tr.n (by simp) ?_
    rfl
theorem qbz_is3 : LoopIs tab FT D11 live 35 qbz_lo 0 3 := by
  refine loop_told (sl := qbz_3_sl) (step := qbz_3_st) (out := qbz_3_out) (lor := qbz_lo3) (fin := fun x => (qbz_3_fin (x.1) (x.2.1) (x.2.2))) (fun _ => rfl) ?_ (fun x n => qbz_3_r x.1 x.2.1 x.2.2 n) (fun x ow => qbz_3_h x.1 x.2.1 x.2.2 ow)
  intro s t h
  unfold qbz_lo3 at h
  split at h
  · cases h; exact ⟨(_, _, _), rfl, rfl⟩
  · cases h
def qbz_t (A : LL) : Tr (LL) := (.ite (0 ≤ (A.length : Int) ∧ (A.length : Int) ≤ (A.length : Int) ∧ (A.length : Int) * 128 ≤ 140737488355328 ∧ (A.length : Int) ≤ 140737488355328) (.ite ((qbz_o3_1 A (List.replicate ((A.length : Int)).toNat [TC.i (0 : Int), TC.i (0 : Int), TC.b false, TC.b false, TC.l [], TC.l [], TC.l [], TC.l [], TC.i (0 : Int)]) (0 : Int)) = true) (.ok A)
   .no)
  .no)
def qbz_mk (p : LL) : Res := [(false, [⟨.slice 32, .own true, TC.l p⟩])]
def qbz_c (A : LL) : Bool := is (Typed tab (.slice 27) (.l A) ∧ (∀ x : List TC, x ∈ A → (qj_rc ((nth x 0).int) ((nth x 1).int) ((nth x 2).bool) ((nth x 3).bool) ((nth x 4).list) ((nth x 5).list) ((nth x 6).list) ((nth x 7).list) ((nth x 8).int)) = true))
def qbz_v (A : LL) : LL := A
theorem qbz_l (A : LL) : (qbz_c A) = true → (qbz_t A).val = some (qbz_v A) := by
  intro h
  obtain ⟨ht, hr0⟩ := is_iff.1 h
  have hb := typed_room ht
  simp only [show (tab 27).bytes = 128 from rfl] at hb
  unfold qbz_t
  refine Tr.t (by omega) ?_
  refine Tr.t (is_true ⟨ht, hr0, by rfl, rfl⟩) ?_
  rfl
def qbz_S : List Arg → Option (Bool × Res) := fun xs => match xs with
  | [(false, [(.slice 27, TC.l A)])] => some ((qbz_c A), qbz_mk (qbz_v A))
  | _ => .none
theorem qbz_e (A : LL) : runF tab FT D11 live 35 qbz_lo [(false, [(.slice 27, TC.l A)])] = (qbz_t A).run fun p => some (qbz_mk p) := by kernel_rfl
theorem qbz_s : ∀ xs r, qbz_S xs = some (true, r) → runF tab FT D11 live 35 qbz_lo xs = some r := by
  intro xs r h
  unfold qbz_S at h
  split at h
  · obtain ⟨h1, rfl⟩ := sp h
    exact fun_told (qbz_e _) (qbz_l _) h1
  · cases h
def D12 : Dt := also D11 35 qbz_S
theorem d12 : DOk Go.Proofs.Try.prog tab D12 := d11.also mixed_ok tab_ok names_ok (fnLoops_one (by kernel_rfl) qbz_is3) qbz_s
theorem qbz_ty {A : LL} (h : Typed tab (.slice 27) (.l A)) : Typed tab (.slice 32) (.l A) := typed_iso iso_ok h (by decide)
def qj_t (x0 x1 : Int) (x2 x3 : Bool) (x4 x5 x6 x7 : LL) (x8 : Int) : Tr (Int × Int × Bool × Bool × LL × LL × LL × LL × Int) := (.ite ((qbr_c x4) = true) (.ite ((qbu_c x5) = true) (.ite ((qbq_c x6) = true) (.ite ((qbz_c x7) = true) (.ok (x0, x1, x2, x3, (qbr_v x4), (qbu_v x5), (qbq_v x6), (qbz_v x7), x8))
     .no)
    .no)
   .no)
  .no)
def qj_mk (p : Int × Int × Bool × Bool × LL × LL × LL × LL × Int) : Res := [(true, [⟨.int .i64, .sh, TC.i (p.1)⟩, ⟨.int .i64, .sh, TC.i (p.2.1)⟩, ⟨.bool, .sh, TC.b (p.2.2.1)⟩, ⟨.bool, .sh, TC.b (p.2.2.2.1)⟩, ⟨.slice 9, .own true, TC.l (p.2.2.2.2.1)⟩, ⟨.slice 2, .own true, TC.l (p.2.2.2.2.2.1)⟩, ⟨.slice 71, .own true, TC.l (p.2.2.2.2.2.2.1)⟩, ⟨.slice 32, .own true, TC.l (p.2.2.2.2.2.2.2.1)⟩, ⟨.int .i64, .sh, TC.i (p.2.2.2.2.2.2.2.2)⟩])]
def qj_c (x0 x1 : Int) (x2 x3 : Bool) (x4 x5 x6 x7 : LL) (x8 : Int) : Bool := ((qbr_c x4) && ((qbu_c x5) && ((qbq_c x6) && ((qbz_c x7) && true))))
def qj_v (x0 x1 : Int) (x2 x3 : Bool) (x4 x5 x6 x7 : LL) (x8 : Int) : Int × Int × Bool × Bool × LL × LL × LL × LL × Int := (x0, x1, x2, x3, (qbr_v x4), (qbu_v x5), (qbq_v x6), (qbz_v x7), x8)
theorem qj_l (x0 x1 : Int) (x2 x3 : Bool) (x4 x5 x6 x7 : LL) (x8 : Int) : (qj_c x0 x1 x2 x3 x4 x5 x6 x7 x8) = true → (qj_t x0 x1 x2 x3 x4 x5 x6 x7 x8).val = some (qj_v x0 x1 x2 x3 x4 x5 x6 x7 x8) := by
  unfold qj_t qj_v qj_c
  exact fun h => (Tr.gb h fun h => (Tr.gb h fun h => (Tr.gb h fun h => (Tr.gb h fun h => rfl))))
theorem qj_e (x0 x1 : Int) (x2 x3 : Bool) (x4 x5 x6 x7 : LL) (x8 : Int) : runF tab FT D12 live 11 noLoops [(true, [(.int .i64, TC.i x0), (.int .i64, TC.i x1), (.bool, TC.b x2), (.bool, TC.b x3), (.slice 9, TC.l x4), (.slice 2, TC.l x5), (.slice 67, TC.l x6), (.slice 27, TC.l x7), (.int .i64, TC.i x8)])] = (qj_t x0 x1 x2 x3 x4 x5 x6 x7 x8).run fun p => some (qj_mk p) := by kernel_rfl
theorem qj_nx (x0 x1 : Int) (x2 x3 : Bool) (x4 x5 x6 x7 : LL) (x8 : Int) : is (max (rowsDep x6) (rowsDep x7) < qj_O.n + 1 ∧ Typed tab (.slice 9) (.l x4) ∧ Typed tab (.slice 2) (.l x5) ∧ Typed tab (.slice 67) (.l x6) ∧ Typed tab (.slice 27) (.l x7)) = true → (qj_c x0 x1 x2 x3 x4 x5 x6 x7 x8) = true ∧ (qj_v x0 x1 x2 x3 x4 x5 x6 x7 x8) = (x0, x1, x2, x3, x4, x5, x6, x7, x8) := by
  intro h
  obtain ⟨hM, t4, t5, t6, t7⟩ := is_iff.1 h
  refine ⟨?_, rfl⟩
  unfold qj_c
  refine andT (by exact is_true t4) ?_
  refine andT (by exact is_true t5) ?_
  refine andT (by exact is_true ⟨t6, fun x hx => is_true ⟨by have a := dep_cell hx 8; have b := dep_cell hx 9; omega, typed_list ((typed_elem t6 hx).2 6 (by decide)), typed_list ((typed_elem t6 hx).2 7 (by decide)), typed_list ((typed_elem t6 hx).2 8 (by decide)), typed_list ((typed_elem t6 hx).2 9 (by decide))⟩⟩) ?_
  refine andT (by exact is_true ⟨t7, fun x hx => is_true ⟨by have a := dep_cell hx 6; have b := dep_cell hx 7; omega, typed_list ((typed_elem t7 hx).2 4 (by decide)), typed_list ((typed_elem t7 hx).2 5 (by decide)), typed_list ((typed_elem t7 hx).2 6 (by decide)), typed_list ((typed_elem t7 hx).2 7 (by decide))⟩⟩) ?_
  rfl
theorem qj_nxr (x0 x1 : Int) (x2 x3 : Bool) (x4 x5 x6 x7 : LL) (x8 : Int) : qj_rc (i_laws_toType := ⟨qj_O.n + 1⟩) x0 x1 x2 x3 x4 x5 x6 x7 x8 = true → (qj_c x0 x1 x2 x3 x4 x5 x6 x7 x8) = true ∧ (qj_v x0 x1 x2 x3 x4 x5 x6 x7 x8) = (qj_rv x0 x1 x2 x3 x4 x5 x6 x7 x8) := fun h => qj_nx x0 x1 x2 x3 x4 x5 x6 x7 x8 h
theorem qj_rs : ∀ xs r, qj_rS (i_laws_toType := ⟨qj_O.n + 1⟩) xs = some (true, r) → runF tab FT D12 live 11 noLoops xs = some r := by
  intro xs r h
  unfold qj_rS at h
  split at h
  · obtain ⟨h1, rfl⟩ := sp h
    have hx := qj_nxr _ _ _ _ _ _ _ _ _ h1
    have ht := fun_told (qj_e ..) (qj_l _ _ _ _ _ _ _ _ _) hx.1
    rw [hx.2] at ht
    exact ht
  · cases h
theorem qj_step : qj_G (i_laws_toType := ⟨qj_O.n + 1⟩) := by
  have h := DOk.also2 (S := qj_rS (i_laws_toType := ⟨qj_O.n + 1⟩)) mixed_ok tab_ok names_ok d8 d12 noLoops_ok qj_rs
  refine qj_G.mk (i_laws_toType := ⟨qj_O.n + 1⟩) ?_
  exact h
section
class qu_O where n : Nat
variable [i_spec_l02Size : qu_O]
def qu_rc (k s : Int) (sg bg : Bool) (NA NU ME BA : LL) (ct : Int) : Bool := is (rowsDep BA < qu_O.n ∧ sizeC k BA = true)
def qu_rv (k s : Int) (sg bg : Bool) (NA NU ME BA : LL) (ct : Int) : Int := sizeV k s BA ct
def qu_rmk (p : Int) : Res := [(false, [⟨.int .i64, .sh, TC.i p⟩])]
def qu_rS : List Arg → Option (Bool × Res) := fun xs => match xs with
  | [(true, [(.int .i64, TC.i k), (.int .i64, TC.i s), (.bool, TC.b sg), (.bool, TC.b bg), (.slice 9, TC.l NA), (.slice 2, TC.l NU), (.slice 71, TC.l ME), (.slice 32, TC.l BA), (.int .i64, TC.i ct)])] => some ((qu_rc k s sg bg NA NU ME BA ct), qu_rmk (qu_rv k s sg bg NA NU ME BA ct))
  | _ => .none
def D13 : Dt := also D12 69 qu_rS
class qu_G : Prop where ok : DOk Go.Proofs.Try.prog tab D13
variable [g_spec_l02Size : qu_G]
theorem d13 : DOk Go.Proofs.Try.prog tab D13 := qu_G.ok
def qu_t (k s : Int) (sg bg : Bool) (NA NU ME BA : LL) (ct : Int) : Tr (Int) := (.ite ((k == (3 : Int)) = true) (.ite ((0 : Int) ≤ (0 : Int) ∧ (0 : Int) < (BA.length : Int)) (.ok ((nth (row BA (0 : Int)) 1).int))
   .no)
  (.ite ((k == (5 : Int)) = true) (.ite ((0 : Int) ≤ (0 : Int) ∧ (0 : Int) < (BA.length : Int)) (.ite ((qu_rc ((nth (row BA (0 : Int)) 0).int) ((nth (row BA (0 : Int)) 1).int) ((nth (row BA (0 : Int)) 2).bool) ((nth (row BA (0 : Int)) 3).bool) ((nth (row BA (0 : Int)) 4).list) ((nth (row BA (0 : Int)) 5).list) ((nth (row BA (0 : Int)) 6).list) ((nth (row BA (0 : Int)) 7).list) ((nth (row BA (0 : Int)) 8).int)) = true) (.ok (IntKind.wrap .i64 (ct * (qu_rv ((nth (row BA (0 : Int)) 0).int) ((nth (row BA (0 : Int)) 1).int) ((nth (row BA (0 : Int)) 2).bool) ((nth (row BA (0 : Int)) 3).bool) ((nth (row BA (0 : Int)) 4).list) ((nth (row BA (0 : Int)) 5).list) ((nth (row BA (0 : Int)) 6).list) ((nth (row BA (0 : Int)) 7).list) ((nth (row BA (0 : Int)) 8).int)))))
     .no)
    .no)
   (.ok s)))
def qu_mk (p : Int) : Res := [(false, [⟨.int .i64, .sh, TC.i p⟩])]
def qu_c (k s : Int) (sg bg : Bool) (NA NU ME BA : LL) (ct : Int) : Bool := (bif (k == (3 : Int)) then (is ((0 : Int) ≤ (0 : Int) ∧ (0 : Int) < (BA.length : Int)) && true) else (bif (k == (5 : Int)) then (is ((0 : Int) ≤ (0 : Int) ∧ (0 : Int) < (BA.length : Int)) && ((qu_rc ((nth (row BA (0 : Int)) 0).int) ((nth (row BA (0 : Int)) 1).int) ((nth (row BA (0 : Int)) 2).bool) ((nth (row BA (0 : Int)) 3).bool) ((nth (row BA (0 : Int)) 4).list) ((nth (row BA (0 : Int)) 5).list) ((nth (row BA (0 : Int)) 6).list) ((nth (row BA (0 : Int)) 7).list) ((nth (row BA (0 : Int)) 8).int)) && true)) else true))
def qu_v (k s : Int) (sg bg : Bool) (NA NU ME BA : LL) (ct : Int) : Int := (bif (k == (3 : Int)) then (nth (row BA (0 : Int)) 1).int else (bif (k == (5 : Int)) then (IntKind.wrap .i64 (ct * (qu_rv ((nth (row BA (0 : Int)) 0).int) ((nth (row BA (0 : Int)) 1).int) ((nth (row BA (0 : Int)) 2).bool) ((nth (row BA (0 : Int)) 3).bool) ((nth (row BA (0 : Int)) 4).list) ((nth (row BA (0 : Int)) 5).list) ((nth (row BA (0 : Int)) 6).list) ((nth (row BA (0 : Int)) 7).list) ((nth (row BA (0 : Int)) 8).int)))) else s))
theorem qu_l (k s : Int) (sg bg : Bool) (NA NU ME BA : LL) (ct : Int) : (qu_c k s sg bg NA NU ME BA ct) = true → (qu_t k s sg bg NA NU ME BA ct).val = some (qu_v k s sg bg NA NU ME BA ct) := by
  unfold qu_t qu_v qu_c
  exact fun h => (Tr.ss h (fun h => (Tr.gs h fun h => rfl)) (fun h => (Tr.ss h (fun h => (Tr.gs h fun h => (Tr.gb h fun h => rfl))) (fun h => rfl))))
theorem qu_e (k s : Int) (sg bg : Bool) (NA NU ME BA : LL) (ct : Int) : runF tab FT D13 live 69 noLoops [(true, [(.int .i64, TC.i k), (.int .i64, TC.i s), (.bool, TC.b sg), (.bool, TC.b bg), (.slice 9, TC.l NA), (.slice 2, TC.l NU), (.slice 71, TC.l ME), (.slice 32, TC.l BA), (.int .i64, TC.i ct)])] = (qu_t k s sg bg NA NU ME BA ct).run fun p => some (qu_mk p) := by kernel_rfl
theorem qu_nx (k s : Int) (sg bg : Bool) (NA NU ME BA : LL) (ct : Int) : is (rowsDep BA < qu_O.n + 1 ∧ sizeC k BA = true) = true → (qu_c k s sg bg NA NU ME BA ct) = true ∧ (qu_v k s sg bg NA NU ME BA ct) = sizeV k s BA ct := by
  intro h
  obtain ⟨hM, hC⟩ := is_iff.1 h
  unfold qu_c qu_v
  rw [sizeC] at hC
  rw [sizeV]
  cases h3 : (k == 3) with
  | true =>
    simp only [h3, cond_true, decide_eq_true_eq] at hC
    exact ⟨andT (is_true (by constructor <;> omega)) rfl, rfl⟩
  | false =>
    cases h5 : (k == 5) with
    | true =>
      simp only [h3, h5, cond_true, cond_false] at hC ⊢
      split at hC
      · rename_i hb
        rw [dif_pos hb]
        have := pos_row hb 7
        exact ⟨andT (is_true (by constructor <;> omega)) (andT (is_true ⟨by omega, hC⟩) rfl), rfl⟩
      · cases hC
    | false => exact ⟨rfl, rfl⟩
theorem qu_nxr (k s : Int) (sg bg : Bool) (NA NU ME BA : LL) (ct : Int) : qu_rc (i_spec_l02Size := ⟨qu_O.n + 1⟩) k s sg bg NA NU ME BA ct = true → (qu_c k s sg bg NA NU ME BA ct) = true ∧ (qu_v k s sg bg NA NU ME BA ct) = (qu_rv k s sg bg NA NU ME BA ct) := fun h => qu_nx k s sg bg NA NU ME BA ct h
theorem qu_rs : ∀ xs r, qu_rS (i_spec_l02Size := ⟨qu_O.n + 1⟩) xs = some (true, r) → runF tab FT D13 live 69 noLoops xs = some r := by
  intro xs r h
  unfold qu_rS at h
  split at h
  · obtain ⟨h1, rfl⟩ := sp h
    have hx := qu_nxr _ _ _ _ _ _ _ _ _ h1
    have ht := fun_told (qu_e ..) (qu_l _ _ _ _ _ _ _ _ _) hx.1
    rw [hx.2] at ht
    exact ht
  · cases h
theorem qu_step : qu_G (i_spec_l02Size := ⟨qu_O.n + 1⟩) := by
  have h := DOk.also2 (S := qu_rS (i_spec_l02Size := ⟨qu_O.n + 1⟩)) mixed_ok tab_ok names_ok d12 d13 noLoops_ok qu_rs
  refine qu_G.mk (i_spec_l02Size := ⟨qu_O.n + 1⟩) ?_
  exact h
section
class qh_O where n : Nat
variable [i_spec_l02Depth : qh_O]
def qh_rc (k s : Int) (sg bg : Bool) (NA NU ME BA : LL) (ct : Int) : Bool := is (max (rowsDep ME) (rowsDep BA) < qh_O.n ∧ depthC k ME BA = true ∧ Typed tab (.slice 71) (.l ME) ∧ Typed tab (.slice 32) (.l BA))
def qh_rv (k s : Int) (sg bg : Bool) (NA NU ME BA : LL) (ct : Int) : Int := depthV k ME BA
def qh_rmk (p : Int) : Res := [(false, [⟨.int .i64, .sh, TC.i p⟩])]
def qh_rS : List Arg → Option (Bool × Res) := fun xs => match xs with
  | [(true, [(.int .i64, TC.i k), (.int .i64, TC.i s), (.bool, TC.b sg), (.bool, TC.b bg), (.slice 9, TC.l NA), (.slice 2, TC.l NU), (.slice 71, TC.l ME), (.slice 32, TC.l BA), (.int .i64, TC.i ct)])] => some ((qh_rc k s sg bg NA NU ME BA ct), qh_rmk (qh_rv k s sg bg NA NU ME BA ct))
  | _ => .none
def D14 : Dt := also D13 70 qh_rS
class qh_G : Prop where ok : DOk Go.Proofs.Try.prog tab D14
variable [g_spec_l02Depth : qh_G]
theorem d14 : DOk Go.Proofs.Try.prog tab D14 := qh_G.ok
def qdi_t (a0 a1 : Int) : Tr (Int) := (.ite ((decide (a0 > a1)) = true) (.ok a0)
  (.ok a1))
def qdi_mk (p : Int) : Res := [(false, [⟨.int .i64, .sh, TC.i p⟩])]
def qdi_c (a0 a1 : Int) : Bool := true
def qdi_v (a0 a1 : Int) : Int := (bif (decide (a0 > a1)) then a0 else a1)
theorem qdi_l (a0 a1 : Int) : (qdi_c a0 a1) = true → (qdi_t a0 a1).val = some (qdi_v a0 a1) := by
  intro h
  skip
  unfold qdi_t qdi_v
  exact (Tr.s rfl rfl)
def qdi_S : List Arg → Option (Bool × Res) := fun xs => match xs with
  | [(false, [(.int .i64, TC.i a0)]), (false, [(.int .i64, TC.i a1)])] => some (true, qdi_mk (qdi_v a0 a1))
  | _ => .none
theorem qdi_e (a0 a1 : Int) : runF tab FT D14 live 87 noLoops [(false, [(.int .i64, TC.i a0)]), (false, [(.int .i64, TC.i a1)])] = (qdi_t a0 a1).run fun p => some (qdi_mk p) := by kernel_rfl
theorem qdi_s : ∀ xs r, qdi_S xs = some (true, r) → runF tab FT D14 live 87 noLoops xs = some r := by
  intro xs r h
  unfold qdi_S at h
  split at h
  · obtain ⟨h1, rfl⟩ := sp h
    exact fun_told (qdi_e ..) (qdi_l _ _) rfl
  · cases h
def D15 : Dt := also D14 87 qdi_S
theorem d15 : DOk Go.Proofs.Try.prog tab D15 := d14.also mixed_ok tab_ok names_ok noLoops_ok qdi_s
def qh_f5 (k s : Int) (sg bg : Bool) (NA NU ME BA : LL) (ct i d : Int) : (Int) ⊕ ((Int)) := (.inl (qdi_v d (qh_rv ((nth (row ME i) 2).int) ((nth (row ME i) 3).int) ((nth (row ME i) 4).bool) ((nth (row ME i) 5).bool) ((nth (row ME i) 6).list) ((nth (row ME i) 7).list) ((nth (row ME i) 8).list) ((nth (row ME i) 9).list) ((nth (row ME i) 10).int))))
def qh_e5 (k s : Int) (sg bg : Bool) (NA NU ME BA : LL) (ct d : Int) : (Int) := d
def qh_R5 (k s : Int) (sg bg : Bool) (NA NU ME BA : LL) (ct d i : Int) : (Int) := iter (fun i a => (qh_f5 k s sg bg NA NU ME BA ct (i : Int) a)) (fun a => (qh_e5 k s sg bg NA NU ME BA ct a)) (ME.length) 0 d
abbrev qh_5_σ := Int × Int × Bool × Bool × LL × LL × LL × LL × Int × Int × Int
abbrev qh_5_ω := (Int)
def qh_5_step (k s : Int) (sg bg : Bool) (NA NU ME BA : LL) (ct d i : Int) : Tr (qh_5_σ ⊕ qh_5_ω) := (.ite ((decide (i < (ME.length : Int))) = true) (.ite ((0 : Int) ≤ i ∧ i < (ME.length : Int)) (.ite ((qh_rc ((nth (row ME i) 2).int) ((nth (row ME i) 3).int) ((nth (row ME i) 4).bool) ((nth (row ME i) 5).bool) ((nth (row ME i) 6).list) ((nth (row ME i) 7).list) ((nth (row ME i) 8).list) ((nth (row ME i) 9).list) ((nth (row ME i) 10).int)) = true) (.ok (.inl (k, s, sg, bg, NA, NU, ME, BA, ct, (qdi_v d (qh_rv ((nth (row ME i) 2).int) ((nth (row ME i) 3).int) ((nth (row ME i) 4).bool) ((nth (row ME i) 5).bool) ((nth (row ME i) 6).list) ((nth (row ME i) 7).list) ((nth (row ME i) 8).list) ((nth (row ME i) 9).list) ((nth (row ME i) 10).int))), (IntKind.wrap .i64 (i + (1 : Int))))))
    .no)
   .no)
  (.ok (.inr d)))
def qh_5_st : qh_5_σ → Tr (qh_5_σ ⊕ qh_5_ω) := fun x => (qh_5_step (x.1) (x.2.1) (x.2.2.1) (x.2.2.2.1) (x.2.2.2.2.1) (x.2.2.2.2.2.1) (x.2.2.2.2.2.2.1) (x.2.2.2.2.2.2.2.1) (x.2.2.2.2.2.2.2.2.1) (x.2.2.2.2.2.2.2.2.2.1) (x.2.2.2.2.2.2.2.2.2.2))
def qh_o5_1 (k s : Int) (sg bg : Bool) (NA NU ME BA : LL) (ct d i : Int) : Bool := is (i = 0 ∧ ME.length ≤ 140737488355328 ∧ (∀ x : List TC, x ∈ ME → qh_rc (nth x 2).int (nth x 3).int (nth x 4).bool (nth x 5).bool (nth x 6).list (nth x 7).list (nth x 8).list (nth x 9).list (nth x 10).int = true))
def qh_u5_1 (k s : Int) (sg bg : Bool) (NA NU ME BA : LL) (ct d i : Int) : Int := (qh_R5 k s sg bg NA NU ME BA ct d i)
def qh_5_fin (k s : Int) (sg bg : Bool) (NA NU ME BA : LL) (ct d i : Int) : Told qh_5_ω := (.leaf (qh_o5_1 k s sg bg NA NU ME BA ct d i) (qh_u5_1 k s sg bg NA NU ME BA ct d i))
def qh_5_sl (x : qh_5_σ) : List Slot := [⟨.bx 32 [⟨.int .i64, .sh, TC.i (x.1)⟩, ⟨.int .i64, .sh, TC.i (x.2.1)⟩, ⟨.bool, .sh, TC.b (x.2.2.1)⟩, ⟨.bool, .sh, TC.b (x.2.2.2.1)⟩, ⟨.slice 9, .sh, TC.l (x.2.2.2.2.1)⟩, ⟨.slice 2, .sh, TC.l (x.2.2.2.2.2.1)⟩, ⟨.slice 71, .sh, TC.l (x.2.2.2.2.2.2.1)⟩, ⟨.slice 32, .sh, TC.l (x.2.2.2.2.2.2.2.1)⟩, ⟨.int .i64, .sh, TC.i (x.2.2.2.2.2.2.2.2.1)⟩], ⟨0, 0⟩⟩, ⟨.val false [⟨.int .i64, .sh, TC.i (x.2.2.2.2.2.2.2.2.2.1)⟩], ⟨0, 0⟩⟩, ⟨.val false [⟨.int .i64, .sh, TC.i (x.2.2.2.2.2.2.2.2.2.2)⟩], ⟨0, 0⟩⟩]
def qh_5_out : qh_5_ω → Ex × List Slot := (fun x => (.exit 1, [Slot.none, ⟨.val false [⟨.int .i64, .sh, TC.i x⟩], ⟨0, 0⟩⟩]))
def qh_lo5 : List Slot → Option (Told (Ex × List Slot)) := fun s => match s with
  | [⟨.bx 32 [⟨.int .i64, .sh, TC.i k⟩, ⟨.int .i64, .sh, TC.i s⟩, ⟨.bool, .sh, TC.b sg⟩, ⟨.bool, .sh, TC.b bg⟩, ⟨.slice 9, .sh, TC.l NA⟩, ⟨.slice 2, .sh, TC.l NU⟩, ⟨.slice 71, .sh, TC.l ME⟩, ⟨.slice 32, .sh, TC.l BA⟩, ⟨.int .i64, .sh, TC.i ct⟩], ⟨0, 0⟩⟩, ⟨.val false [⟨.int .i64, .sh, TC.i d⟩], ⟨0, 0⟩⟩, ⟨.val false [⟨.int .i64, .sh, TC.i i⟩], ⟨0, 0⟩⟩] => some (((qh_5_fin k s sg bg NA NU ME BA ct d i)).map qh_5_out)
  | _ => .none
def qh_lo : LoopTeller := fun r s => bif Nat.beq r 5 then qh_lo5 s else .none
theorem qh_5_r (k s : Int) (sg bg : Bool) (NA NU ME BA : LL) (ct d i : Int) (fuel : Nat) : rounds (rnd tab FT D15 live 70 qh_lo 0 5) leave (fuel + 1) (qh_5_sl (k, s, sg, bg, NA, NU, ME, BA, ct, d, i)) = ((qh_5_step k s sg bg NA NU ME BA ct d i)).run (goOn (fun s => rounds (rnd tab FT D15 live 70 qh_lo 0 5) leave fuel (qh_5_sl s)) fun w => some (qh_5_out w)) := by kernel_rfl
theorem qh_R5_eq (k s : Int) (sg bg : Bool) (NA NU ME BA : LL) (ct d : Int) : qh_R5 k s sg bg NA NU ME BA ct d 0 = ME.foldl (fun d x => maxI d (depthV (nth x 2).int (nth x 8).list (nth x 9).list)) d := by
  unfold qh_R5
  rw [← foldI_rows (g := fun d x => maxI d (depthV (nth x 2).int (nth x 8).list (nth x 9).list))]
  exact iter_each (g := fun i d => maxI d (depthV (nth (row ME (i : Int)) 2).int (nth (row ME (i : Int)) 8).list (nth (row ME (i : Int)) 9).list)) (fin := fun a => qh_e5 k s sg bg NA NU ME BA ct a) fun j a hj => rfl
theorem qh_5_h (k s : Int) (sg bg : Bool) (NA NU ME BA : LL) (ct d i : Int) (ow : qh_5_ω) : ((qh_5_fin k s sg bg NA NU ME BA ct d i)).val = some ow → ∃ fuel, loopN qh_5_st fuel (k, s, sg, bg, NA, NU, ME, BA, ct, d, i) = some ow := by
  refine auto_leaf (R := (qh_R5 k s sg bg NA NU ME BA ct d i)) ?_
  intro ho
  have ho : is (i = 0 ∧ ME.length ≤ 140737488355328 ∧ (∀ x : List TC, x ∈ ME → qh_rc (nth x 2).int (nth x 3).int (nth x 4).bool (nth x 5).bool (nth x 6).list (nth x 7).list (nth x 8).list (nth x 9).list (nth x 10).int = true)) = true := ho
  obtain ⟨rfl, hl, hr⟩ := is_iff.1 ho
  skip
  refine ⟨(ME.length) + 1, ?_⟩
  refine iter_loop (step := qh_5_st) (ME.length) (fun i a => (qh_f5 k s sg bg NA NU ME BA ct (i : Int) a)) (fun a => (qh_e5 k s sg bg NA NU ME BA ct a)) (fun i a => (k, s, sg, bg, NA, NU, ME, BA, ct, a, (i : Int))) (fun _ _ => True) trivial (fun i a hi hI => ⟨?_, fun _ _ => trivial⟩) (fun a hI => ?_)
  · show (qh_5_step k s sg bg NA NU ME BA ct a (i : Int)).val = _
    unfold qh_5_step qh_f5
    skip
    refine Tr.t (by simp; omega) ?_
    exact (Tr.t (by first | omega | (constructor <;> omega) | (exact hr _ (mem_getD (by omega)))) (Tr.t (by first | omega | (constructor <;> omega) | (exact hr _ (mem_getD (by omega)))) (by rw [Tr.val_ok, wrap64 (i := (i : Int) + 1) (by omega) (by omega)]; rfl)))
  · show (qh_5_step k s sg bg NA NU ME BA ct a (ME.length : Int)).val = _
    refine Tr.n (by first | (simp; done) | (simp; omega) | omega) ?_
    rfl
theorem qh_is5 : LoopIs tab FT D15 live 70 qh_lo 0 5 := by
  refine loop_told (sl := qh_5_sl) (step := qh_5_st) (out := qh_5_out) (lor := qh_lo5) (fin := fun x => (qh_5_fin (x.1) (x.2.1) (x.2.2.1) (x.2.2.2.1) (x.2.2.2.2.1) (x.2.2.2.2.2.1) (x.2.2.2.2.2.2.1) (x.2.2.2.2.2.2.2.1) (x.2.2.2.2.2.2.2.2.1) (x.2.2.2.2.2.2.2.2.2.1) (x.2.2.2.2.2.2.2.2.2.2))) (fun _ => rfl) ?_ (fun x n => qh_5_r x.1 x.2.1 x.2.2.1 x.2.2.2.1 x.2.2.2.2.1 x.2.2.2.2.2.1 x.2.2.2.2.2.2.1 x.2.2.2.2.2.2.2.1 x.2.2.2.2.2.2.2.2.1 x.2.2.2.2.2.2.2.2.2.1 x.2.2.2.2.2.2.2.2.2.2 n) (fun x ow => qh_5_h x.1 x.2.1 x.2.2.1 x.2.2.2.1 x.2.2.2.2.1 x.2.2.2.2.2.1 x.2.2.2.2.2.2.1 x.2.2.2.2.2.2.2.1 x.2.2.2.2.2.2.2.2.1 x.2.2.2.2.2.2.2.2.2.1 x.2.2.2.2.2.2.2.2.2.2 ow)
  intro s t h
  unfold qh_lo5 at h
  split at h
  · cases h; exact ⟨(_, _, _, _, _, _, _, _, _, _, _), rfl, rfl⟩
  · cases h
def qh_t (k s : Int) (sg bg : Bool) (NA NU ME BA : LL) (ct : Int) : Tr (Int) := (.ite ((k == (4 : Int)) = true) (.ite ((qh_o5_1 k s sg bg NA NU ME BA ct (0 : Int) (0 : Int)) = true) (.ok (IntKind.wrap .i64 ((qh_u5_1 k s sg bg NA NU ME BA ct (0 : Int) (0 : Int)) + (1 : Int))))
   .no)
  (.ite ((k == (5 : Int)) = true) (.ite ((0 : Int) ≤ (0 : Int) ∧ (0 : Int) < (BA.length : Int)) (.ite ((qh_rc ((nth (row BA (0 : Int)) 0).int) ((nth (row BA (0 : Int)) 1).int) ((nth (row BA (0 : Int)) 2).bool) ((nth (row BA (0 : Int)) 3).bool) ((nth (row BA (0 : Int)) 4).list) ((nth (row BA (0 : Int)) 5).list) ((nth (row BA (0 : Int)) 6).list) ((nth (row BA (0 : Int)) 7).list) ((nth (row BA (0 : Int)) 8).int)) = true) (.ok (IntKind.wrap .i64 ((qh_rv ((nth (row BA (0 : Int)) 0).int) ((nth (row BA (0 : Int)) 1).int) ((nth (row BA (0 : Int)) 2).bool) ((nth (row BA (0 : Int)) 3).bool) ((nth (row BA (0 : Int)) 4).list) ((nth (row BA (0 : Int)) 5).list) ((nth (row BA (0 : Int)) 6).list) ((nth (row BA (0 : Int)) 7).list) ((nth (row BA (0 : Int)) 8).int)) + (1 : Int))))
     .no)
    .no)
   (.ok (1 : Int))))
def qh_mk (p : Int) : Res := [(false, [⟨.int .i64, .sh, TC.i p⟩])]
def qh_c (k s : Int) (sg bg : Bool) (NA NU ME BA : LL) (ct : Int) : Bool := (bif (k == (4 : Int)) then ((qh_o5_1 k s sg bg NA NU ME BA ct (0 : Int) (0 : Int)) && true) else (bif (k == (5 : Int)) then (is ((0 : Int) ≤ (0 : Int) ∧ (0 : Int) < (BA.length : Int)) && ((qh_rc ((nth (row BA (0 : Int)) 0).int) ((nth (row BA (0 : Int)) 1).int) ((nth (row BA (0 : Int)) 2).bool) ((nth (row BA (0 : Int)) 3).bool) ((nth (row BA (0 : Int)) 4).list) ((nth (row BA (0 : Int)) 5).list) ((nth (row BA (0 : Int)) 6).list) ((nth (row BA (0 : Int)) 7).list) ((nth (row BA (0 : Int)) 8).int)) && true)) else true))
def qh_v (k s : Int) (sg bg : Bool) (NA NU ME BA : LL) (ct : Int) : Int := (bif (k == (4 : Int)) then (IntKind.wrap .i64 ((qh_u5_1 k s sg bg NA NU ME BA ct (0 : Int) (0 : Int)) + (1 : Int))) else (bif (k == (5 : Int)) then (IntKind.wrap .i64 ((qh_rv ((nth (row BA (0 : Int)) 0).int) ((nth (row BA (0 : Int)) 1).int) ((nth (row BA (0 : Int)) 2).bool) ((nth (row BA (0 : Int)) 3).bool) ((nth (row BA (0 : Int)) 4).list) ((nth (row BA (0 : Int)) 5).list) ((nth (row BA (0 : Int)) 6).list) ((nth (row BA (0 : Int)) 7).list) ((nth (row BA (0 : Int)) 8).int)) + (1 : Int))) else (1 : Int)))
theorem qh_l (k s : Int) (sg bg : Bool) (NA NU ME BA : LL) (ct : Int) : (qh_c k s sg bg NA NU ME BA ct) = true → (qh_t k s sg bg NA NU ME BA ct).val = some (qh_v k s sg bg NA NU ME BA ct) := by
  unfold qh_t qh_v qh_c
  exact fun h => (Tr.ss h (fun h => (Tr.gb h fun h => rfl)) (fun h => (Tr.ss h (fun h => (Tr.gs h fun h => (Tr.gb h fun h => rfl))) (fun h => rfl))))
theorem qh_e (k s : Int) (sg bg : Bool) (NA NU ME BA : LL) (ct : Int) : runF tab FT D15 live 70 qh_lo [(true, [(.int .i64, TC.i k), (.int .i64, TC.i s), (.bool, TC.b sg), (.bool, TC.b bg), (.slice 9, TC.l NA), (.slice 2, TC.l NU), (.slice 71, TC.l ME), (.slice 32, TC.l BA), (.int .i64, TC.i ct)])] = (qh_t k s sg bg NA NU ME BA ct).run fun p => some (qh_mk p) := by kernel_rfl
theorem qh_nx (k s : Int) (sg bg : Bool) (NA NU ME BA : LL) (ct : Int) : is (max (rowsDep ME) (rowsDep BA) < qh_O.n + 1 ∧ depthC k ME BA = true ∧ Typed tab (.slice 71) (.l ME) ∧ Typed tab (.slice 32) (.l BA)) = true → (qh_c k s sg bg NA NU ME BA ct) = true ∧ (qh_v k s sg bg NA NU ME BA ct) = depthV k ME BA := by
  intro h
  obtain ⟨hM, hC, tM, tB⟩ := is_iff.1 h
  unfold qh_c qh_v
  rw [depthC] at hC
  rw [depthV]
  cases h4 : (k == 4) with
  | true =>
    simp only [h4, cond_true] at hC ⊢
    rw [attach_all (p := fun x => depthC (nth x 2).int (nth x 8).list (nth x 9).list), List.all_eq_true] at hC
    have hlen : ME.length ≤ 140737488351232 := by have := typed_room tM; simp only [show (tab 71).bytes = 152 from rfl] at this; omega
    refine ⟨andT (is_true ⟨rfl, by omega, fun x hx => is_true ⟨Nat.lt_of_lt_of_le (dep_max (BA := BA) hx 8 9) (by omega), hC x hx, typed_list ((typed_elem tM hx).2 8 (by decide)), typed_list ((typed_elem tM hx).2 9 (by decide))⟩⟩) rfl, ?_⟩
    show IntKind.wrap .i64 (qh_R5 k s sg bg NA NU ME BA ct 0 0 + 1) = _
    rw [qh_R5_eq, attach_foldl (f := fun d x => maxI d (depthV (nth x 2).int (nth x 8).list (nth x 9).list))]
  | false =>
    cases h5 : (k == 5) with
    | true =>
      simp only [h4, h5, cond_true, cond_false] at hC ⊢
      split at hC
      · rename_i hb
        rw [dif_pos hb]
        have := dep_base (ME := ME) hb 6 7
        exact ⟨andT (is_true (by constructor <;> omega)) (andT (is_true ⟨by omega, hC, typed_list ((typed_elem tB (mem_getD (i := 0) hb)).2 6 (by decide)), typed_list ((typed_elem tB (mem_getD (i := 0) hb)).2 7 (by decide))⟩) rfl), rfl⟩
      · cases hC
    | false => exact ⟨rfl, rfl⟩
theorem qh_nxr (k s : Int) (sg bg : Bool) (NA NU ME BA : LL) (ct : Int) : qh_rc (i_spec_l02Depth := ⟨qh_O.n + 1⟩) k s sg bg NA NU ME BA ct = true → (qh_c k s sg bg NA NU ME BA ct) = true ∧ (qh_v k s sg bg NA NU ME BA ct) = (qh_rv k s sg bg NA NU ME BA ct) := fun h => qh_nx k s sg bg NA NU ME BA ct h
theorem qh_rs : ∀ xs r, qh_rS (i_spec_l02Depth := ⟨qh_O.n + 1⟩) xs = some (true, r) → runF tab FT D15 live 70 qh_lo xs = some r := by
  intro xs r h
  unfold qh_rS at h
  split at h
  · obtain ⟨h1, rfl⟩ := sp h
    have hx := qh_nxr _ _ _ _ _ _ _ _ _ h1
    have ht := fun_told (qh_e ..) (qh_l _ _ _ _ _ _ _ _ _) hx.1
    rw [hx.2] at ht
    exact ht
  · cases h
theorem qh_step : qh_G (i_spec_l02Depth := ⟨qh_O.n + 1⟩) := by
  have h := DOk.also2 (S := qh_rS (i_spec_l02Depth := ⟨qh_O.n + 1⟩)) mixed_ok tab_ok names_ok d13 d15 (fnLoops_one (by kernel_rfl) qh_is5) qh_rs
  refine qh_G.mk (i_spec_l02Depth := ⟨qh_O.n + 1⟩) ?_
  exact h
abbrev qbf_2_σ := LL × Int × Int
abbrev qbf_2_ω := (Unit) ⊕ (Unit)
def qbf_2_step (A : LL) (v i : Int) : Tr (qbf_2_σ ⊕ qbf_2_ω) := (.ite ((decide (i < (A.length : Int))) = true) (.ite ((0 : Int) ≤ i ∧ i < (A.length : Int)) (.ite (((nth (row A i) 0).int == v) = true) (.ok (.inr (.inl ())))
    (.ok (.inl (A, v, (IntKind.wrap .i64 (i + (1 : Int)))))))
   .no)
  (.ok (.inr (.inr ()))))
def qbf_2_st : qbf_2_σ → Tr (qbf_2_σ ⊕ qbf_2_ω) := fun x => (qbf_2_step (x.1) (x.2.1) (x.2.2))
def qbf_k2_1 (A : LL) (v i : Int) : Bool := A.all (fun x => !((nth x 0).int == v))
def qbf_o2_2 (A : LL) (v i : Int) : Bool := is (i = 0 ∧ A.length ≤ 140737488351232)
def qbf_o2_3 (A : LL) (v i : Int) : Bool := is (i = 0 ∧ A.length ≤ 140737488351232)
def qbf_2_fin (A : LL) (v i : Int) : Told qbf_2_ω := (.br (qbf_k2_1 A v i) (.leaf (qbf_o2_2 A v i) (.inr ())) (.leaf (qbf_o2_3 A v i) (.inl ())))
def qbf_2_sl (x : qbf_2_σ) : List Slot := [⟨.val false [⟨.slice 2, .sh, TC.l (x.1)⟩], ⟨0, 0⟩⟩, ⟨.val false [⟨.int .i64, .sh, TC.i (x.2.1)⟩], ⟨0, 0⟩⟩, ⟨.val false [⟨.int .i64, .sh, TC.i (x.2.2)⟩], ⟨0, 0⟩⟩]
def qbf_2_out : qbf_2_ω → Ex × List Slot := (Sum.elim (fun x => (.ret, [⟨.val false [⟨.bool, .sh, TC.b true⟩], ⟨0, 0⟩⟩])) (fun x => (.exit 0, [Slot.none])))
def qbf_lo2 : List Slot → Option (Told (Ex × List Slot)) := fun s => match s with
  | [⟨.val false [⟨.slice 2, .sh, TC.l A⟩], ⟨0, 0⟩⟩, ⟨.val false [⟨.int .i64, .sh, TC.i v⟩], ⟨0, 0⟩⟩, ⟨.val false [⟨.int .i64, .sh, TC.i i⟩], ⟨0, 0⟩⟩] => some (((qbf_2_fin A v i)).map qbf_2_out)
  | _ => .none
def qbf_lo : LoopTeller := fun r s => bif Nat.beq r 2 then qbf_lo2 s else .none
theorem qbf_2_r (A : LL) (v i : Int) (fuel : Nat) : rounds (rnd tab FT D15 live 98 qbf_lo 0 2) leave (fuel + 1) (qbf_2_sl (A, v, i)) = ((qbf_2_step A v i)).run (goOn (fun s => rounds (rnd tab FT D15 live 98 qbf_lo 0 2) leave fuel (qbf_2_sl s)) fun w => some (qbf_2_out w)) := by kernel_rfl
theorem qbf_2_h (A : LL) (v i : Int) (ow : qbf_2_ω) : ((qbf_2_fin A v i)).val = some ow → ∃ fuel, loopN qbf_2_st fuel (A, v, i) = some ow := by
  intro h
  have key : A.length ≤ 140737488351232 → loopN qbf_2_st (A.length + 1) (A, v, (0 : Int)) = some (if A.all (fun x => !((nth x 0).int == v)) = true then (.inr ()) else (.inl ())) := by
    intro ht
    have hlen : A.length ≤ 140737488351232 := ht
    have key := loopN_scan (step := qbf_2_st) A [] (fun x => !((nth x 0).int == v)) (fun a _ => a) (fun i a => (A, v, (i : Int))) (fun a => (.inr ())) (fun i a => (.inl ())) (fun i a hi => ?_) (fun a => ?_) A.length 0 () (by omega)
    · first | (rw [Nat.zero_add] at key; exact key) | exact key
    · skip
      show (qbf_2_step A v (i : Int)).val = _
      unfold qbf_2_step
      refine Tr.t (by simp; omega) ?_
      skip
      refine Tr.t (by first | omega | (constructor <;> omega)) ?_
      refine Tr.b2 (fun hP => ?_) (fun _ => rfl)
      rw [Tr.val_ok, wrap64 (i := (i : Int) + 1) (by omega) (by omega)]; rfl
    · show (qbf_2_step A v (A.length : Int)).val = _
      refine Tr.n (by simp) ?_
      rfl
  simp only [qbf_2_fin, Told.val] at h
  cases hk : A.all (fun x => !((nth x 0).int == v)) with
  | true =>
    rw [if_pos (show qbf_k2_1 A v i = true from hk)] at h
    split at h
    · rename_i ho
      obtain ⟨rfl, ht⟩ := is_iff.1 ho
      cases h
      refine ⟨_, (key ht).trans ?_⟩
      rw [hk]; rfl
    · cases h
  | false =>
    rw [if_neg (show ¬qbf_k2_1 A v i = true from by rw [show qbf_k2_1 A v i = (A.all (fun x => !((nth x 0).int == v))) from rfl, hk]; simp)] at h
    split at h
    · rename_i ho
      obtain ⟨rfl, ht⟩ := is_iff.1 ho
      cases h
      refine ⟨_, (key ht).trans ?_⟩
      rw [hk]; rfl
    · cases h
end
end
end
end
end
end Go.Proofs.Ytdcafhfnkblfkaa.V
