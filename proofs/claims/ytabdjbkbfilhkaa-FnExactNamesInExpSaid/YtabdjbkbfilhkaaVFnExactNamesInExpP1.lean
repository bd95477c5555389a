/- What the functions of FnExactNamesInExp answer. No condition. -/
import Derived.Test.YtabdjbkbfilhkaaVFacts
namespace Go.Proofs.Ytabdjbkbfilhkaa.V
open Go
set_option maxRecDepth 100000
set_option linter.unusedVariables false
set_option linter.unusedSectionVars false
set_option linter.unusedSimpArgs false
set_option maxHeartbeats 2000000
noncomputable section
abbrev LL := List (List TC)
abbrev BS := List UInt8
theorem sp {α β : Type} {a b : α} {c d : β} (h : some (a, c) = some (b, d)) : a = b ∧ c = d := by cases h; exact ⟨rfl, rfl⟩
def argN (s : BS) : Int := bif s == [97, 98, 115] then 1 else bif s == [116, 114, 97, 110, 115, 112, 111, 115, 101] then 1 else bif s == [105, 111, 116, 97] then 1 else bif s == [109, 97, 116, 109, 117, 108] then 2 else bif s == [119, 104, 101, 114, 101] then 3 else 0
def redK (K : LL) : Bool := ((K.length : Int) == 1) || ((((K.length : Int) == 2) && ((nth (row K (1 : Int)) 0).int == 1)) && decide ((nth (row K (1 : Int)) 1).int < 3))
def mapK (s : BS) (K : LL) : Bool := !(argN s == 0) && ((K.length : Int) == argN s)
def letterB (c : Int) : Bool := (decide (c ≥ 65) && decide (c ≤ 90)) || (decide (c ≥ 97) && decide (c ≤ 122))
def nameB (i c : Int) : Bool := letterB c || (!(i == 0) && ((decide (c ≥ 48) && decide (c ≤ 57)) || c == 95))
def nameOk (s : BS) : Bool := decide ((s.length : Int) ≥ 1) && decide ((s.length : Int) ≤ 12) && allI (fun i : Nat => nameB (i : Int) ((s.getD ((i : Int)).toNat 0).toNat : Int)) s.length
theorem dlt {a b : Int} : decide (a < b) = !decide (a ≥ b) := by rw [← decide_not]; simp
theorem dgt {a b : Int} : decide (a > b) = !decide (a ≤ b) := by rw [← decide_not]; simp
def inX (n lo hi : Int) : Bool := bif decide (n ≥ lo) then decide (n ≤ hi) else false
def ranB (x : List TC) : Bool := bif !(inX (nth x 0).int 0 40) then false else bif (nth x 2).bool then ((nth x 1).int == 0) else bif ((nth x 1).int == -1) then true else inX (nth x 1).int (nth x 0).int 40
def redS (s : BS) : Bool := (s == [115, 117, 109]) || (s == [109, 105, 110]) || (s == [109, 97, 120]) || (s == [99, 111, 117, 110, 116])
def callB (s : BS) (K : LL) : Bool := bif redS s then redK K else mapK s K
def nodeB (k n : Int) (tx : BS) (K R : LL) : Bool :=
  bif k == 1 then inX n 0 1000000000000 && (tx == []) && ((K.length : Int) == 0) && ((R.length : Int) == 0)
  else (n == 0) && (bif k == 2 then nameOk tx && ((K.length : Int) == 0) && ((R.length : Int) == 0)
    else bif k == 3 then callB tx K && ((R.length : Int) == 0)
    else bif k == 4 then inX (R.length : Int) 1 3 && R.all ranB && (tx == []) && ((K.length : Int) == 1)
    else bif k == 5 then ((R.length : Int) == 0) && (tx == []) && ((K.length : Int) == 1)
    else inX k 6 16 && ((R.length : Int) == 0) && (tx == []) && ((K.length : Int) == 2))
def okE (k n : Int) (tx : BS) (K R : LL) : Bool := nodeB k n tx K R && K.attach.all (fun x => okE (nth x.1 0).int (nth x.1 1).int (nth x.1 2).str (nth x.1 3).list (nth x.1 4).list)
termination_by rowsDep K
decreasing_by exact dep_cell x.2 3
def numE (K : LL) : Nat := K.attach.foldl (fun a x => a + numE (nth x.1 3).list) 1
termination_by rowsDep K
decreasing_by exact dep_cell x.2 3
def okX (x : List TC) : Bool := okE (nth x 0).int (nth x 1).int (nth x 2).str (nth x 3).list (nth x 4).list
def numX (x : List TC) : Nat := numE (nth x 3).list
theorem okE_eq {k n : Int} {tx : BS} {K R : LL} : okE k n tx K R = (nodeB k n tx K R && K.all okX) := by
  rw [okE]
  exact congrArg (nodeB k n tx K R && ·) (attach_all (p := okX))
theorem foldl_num {K : LL} {a : Nat} : K.foldl (fun a x => a + numX x) a = a + K.foldl (fun a x => a + numX x) 0 := by
  induction K generalizing a with
  | nil => rfl
  | cons x K ih => rw [List.foldl_cons, List.foldl_cons, ih, ih (a := 0 + numX x)]; omega
def sumX (K : LL) : Nat := K.foldl (fun a x => a + numX x) 0
theorem sumX_cons {x : List TC} {K : LL} : sumX (x :: K) = numX x + sumX K := by
  unfold sumX
  rw [List.foldl_cons, foldl_num]; omega
theorem numE_eq {K : LL} : numE K = 1 + sumX K := by
  rw [numE]
  refine (attach_foldl (f := fun a x => a + numX x) (l := K) (b := 1)).trans ?_
  rw [foldl_num]; rfl
def cntV (k n : Int) (tx : BS) (K R : LL) (left : Int) : Int × Bool := bif okE k n tx K R && decide ((numE K : Int) ≤ left) then (left - (numE K : Int), true) else (0, false)
theorem sum_mem {K : LL} {x : List TC} (hx : x ∈ K) : numX x ≤ sumX K := by
  induction K with
  | nil => cases hx
  | cons y K ih =>
    rw [sumX_cons]
    rcases List.mem_cons.1 hx with rfl | hx
    · omega
    · have := ih hx; omega
def kdE (K : LL) : Nat := K.attach.foldl (fun a x => max a (kdE (nth x.1 3).list + 1)) 0
termination_by rowsDep K
decreasing_by exact dep_cell x.2 3
def kdX (x : List TC) : Nat := kdE (nth x 3).list
theorem kdE_eq {K : LL} : kdE K = K.foldl (fun a x => max a (kdX x + 1)) 0 := by
  rw [kdE]
  exact attach_foldl (f := fun a x => max a (kdX x + 1)) (l := K) (b := 0)
theorem kd_foldl {K : LL} : ∀ {a b : Nat}, (∀ x, x ∈ K → kdX x + 1 ≤ b) → a ≤ b → K.foldl (fun a x => max a (kdX x + 1)) a ≤ b := by
  induction K with
  | nil => intro a b _ h; exact h
  | cons x K ih =>
    intro a b h ha
    rw [List.foldl_cons]
    exact ih (fun y hy => h y (List.mem_cons_of_mem _ hy)) (Nat.max_le.2 ⟨ha, h x List.mem_cons_self⟩)
theorem kd_mem {K : LL} : ∀ {a : Nat}, a ≤ K.foldl (fun a x => max a (kdX x + 1)) a ∧ ∀ x, x ∈ K → kdX x + 1 ≤ K.foldl (fun a x => max a (kdX x + 1)) a := by
  induction K with
  | nil => intro a; exact ⟨Nat.le_refl _, fun _ h => by cases h⟩
  | cons x K ih =>
    intro a
    rw [List.foldl_cons]
    obtain ⟨h1, h2⟩ := ih (a := max a (kdX x + 1))
    refine ⟨Nat.le_trans (Nat.le_max_left _ _) h1, fun y hy => ?_⟩
    rcases List.mem_cons.1 hy with rfl | hy
    · exact Nat.le_trans (Nat.le_max_right _ _) h1
    · exact h2 y hy
theorem kd_cell {K : LL} {x : List TC} (hx : x ∈ K) : kdX x + 1 ≤ kdE K := by
  rw [kdE_eq]; exact kd_mem.2 x hx
def szE (k n : Int) (tx : BS) (K R : LL) : Int := bif nodeB k n tx K R then K.attach.foldl (fun a x => bif decide (a ≤ 40) then a + szE (nth x.1 0).int (nth x.1 1).int (nth x.1 2).str (nth x.1 3).list (nth x.1 4).list else a) 1 else 41
termination_by rowsDep K
decreasing_by exact dep_cell x.2 3
def szX (x : List TC) : Int := szE (nth x 0).int (nth x 1).int (nth x 2).str (nth x 3).list (nth x 4).list
def szF (a : Int) (x : List TC) : Int := bif decide (a ≤ 40) then a + szX x else a
theorem szE_eq {k n : Int} {tx : BS} {K R : LL} : szE k n tx K R = bif nodeB k n tx K R then K.foldl szF 1 else 41 := by
  rw [szE]
  exact congrArg (fun z => bif nodeB k n tx K R then z else (41 : Int)) (attach_foldl (f := szF) (l := K) (b := 1))
def szV (u : List TC) : Int := szE (nth u 0).int (nth u 1).int (nth u 2).str (nth u 3).list (nth u 4).list
theorem foldl_stop {a : Int} (h : 40 < a) : ∀ {Q : LL}, Q.foldl szF a = a
  | [] => rfl
  | x :: Q => by
    have e : szF a x = a := by unfold szF; rw [decide_eq_false (show ¬ a ≤ 40 by omega)]; rfl
    rw [List.foldl_cons, e]
    exact foldl_stop h
theorem sz_bound (x : List TC) : 1 ≤ szX x ∧ szX x ≤ 41 * ((kdX x : Int) + 1) := by
  have key : ∀ (d : Nat) (x : List TC), rowsDep (nth x 3).list ≤ d → 1 ≤ szX x ∧ szX x ≤ 41 * ((kdX x : Int) + 1) := by
    intro d
    induction d with
    | zero =>
      intro x hx
      unfold szX
      rw [szE_eq]
      cases nodeB (nth x 0).int (nth x 1).int (nth x 2).str (nth x 3).list (nth x 4).list with
      | false => show (1 : Int) ≤ 41 ∧ (41 : Int) ≤ _; omega
      | true =>
        have : (nth x 3).list = [] := by
          match hK : (nth x 3).list with
          | [] => rfl
          | y :: K =>
            have := dep_cell (A := (nth x 3).list) (x := y) (by rw [hK]; exact List.mem_cons_self) 3
            omega
        rw [this]
        show (1 : Int) ≤ 1 ∧ (1 : Int) ≤ _
        omega
    | succ d ih =>
      intro x hx
      unfold szX
      rw [szE_eq]
      cases nodeB (nth x 0).int (nth x 1).int (nth x 2).str (nth x 3).list (nth x 4).list with
      | false => show (1 : Int) ≤ 41 ∧ (41 : Int) ≤ _; omega
      | true =>
        have hk : ∀ y, y ∈ (nth x 3).list → 1 ≤ szX y ∧ szX y ≤ 41 * (kdX x : Int) := fun y hy => by
          have h1 := dep_cell hy 3
          have h2 : kdX y + 1 ≤ kdX x := kd_cell hy
          have := ih y (by omega)
          omega
        have hf : ∀ (Q : LL) (a : Int), (∀ y, y ∈ Q → y ∈ (nth x 3).list) → 1 ≤ a → a ≤ 41 * ((kdX x : Int) + 1) → 1 ≤ Q.foldl szF a ∧ Q.foldl szF a ≤ 41 * ((kdX x : Int) + 1) := by
          intro Q
          induction Q with
          | nil => intro a _ h1 h2; exact ⟨h1, h2⟩
          | cons y Q ih2 =>
            intro a hQ h1 h2
            have := hk y (hQ y List.mem_cons_self)
            rw [List.foldl_cons]
            refine ih2 _ (fun z hz => hQ z (List.mem_cons_of_mem _ hz)) ?_ ?_
            · unfold szF
              by_cases h4 : a ≤ 40
              · rw [decide_eq_true h4]; show 1 ≤ a + szX y; omega
              · rw [decide_eq_false h4]; exact h1
            · unfold szF
              by_cases h4 : a ≤ 40
              · rw [decide_eq_true h4]; show a + szX y ≤ _; omega
              · rw [decide_eq_false h4]; exact h2
        exact hf _ 1 (fun _ h => h) (by decide) (by omega)
  exact key _ x (Nat.le_refl _)
theorem sz_num : ∀ (d : Nat) (x : List TC), rowsDep (nth x 3).list ≤ d → (okX x = true → numX x ≤ 40 → szX x = (numX x : Int)) ∧ (¬ (okX x = true ∧ numX x ≤ 40) → 41 ≤ szX x) := by
  intro d
  induction d with
  | zero =>
    intro x hx
    have hK : (nth x 3).list = [] := by
      match hK : (nth x 3).list with
      | [] => rfl
      | y :: K =>
        have := dep_cell (A := (nth x 3).list) (x := y) (by rw [hK]; exact List.mem_cons_self) 3
        omega
    unfold okX szX numX
    rw [szE_eq, okE_eq, numE_eq, hK]
    cases nodeB (nth x 0).int (nth x 1).int (nth x 2).str [] (nth x 4).list with
    | false => exact ⟨(fun h => nomatch h), fun _ => Int.le_refl _⟩
    | true => exact ⟨fun _ _ => rfl, fun h => absurd ⟨rfl, by decide⟩ h⟩
  | succ d ih =>
    intro x hx
    have hf : ∀ (Q : LL) (a : Int), (∀ y, y ∈ Q → y ∈ (nth x 3).list) → 1 ≤ a → (Q.all okX = true → a + (sumX Q : Int) ≤ 40 → Q.foldl szF a = a + (sumX Q : Int)) ∧ (¬ (Q.all okX = true ∧ a + (sumX Q : Int) ≤ 40) → 41 ≤ Q.foldl szF a) := by
      intro Q
      induction Q with
      | nil =>
        intro a _ h1
        have e : sumX [] = 0 := rfl
        rw [e]
        refine ⟨fun _ _ => by show a = a + 0; omega, fun h => ?_⟩
        show 41 ≤ a
        have : ¬ a + ((0 : Nat) : Int) ≤ 40 := fun h' => h ⟨rfl, h'⟩
        omega
      | cons y Q ih2 =>
        intro a hQ h1
        have h2 := dep_cell (hQ y List.mem_cons_self) 3
        obtain ⟨p1, p2⟩ := ih y (by omega)
        have hb := (sz_bound y).1
        rw [List.foldl_cons, List.all_cons, sumX_cons]
        by_cases h4 : a ≤ 40
        · have e : szF a y = a + szX y := by unfold szF; rw [decide_eq_true h4]; rfl
          rw [e]
          obtain ⟨q1, q2⟩ := ih2 (a + szX y) (fun z hz => hQ z (List.mem_cons_of_mem _ hz)) (by omega)
          by_cases hy : okX y = true ∧ numX y ≤ 40
          · have es := p1 hy.1 hy.2
            rw [es] at q1 q2 ⊢
            refine ⟨fun h hs => ?_, fun h => ?_⟩
            · rw [hy.1, Bool.true_and] at h
              rw [q1 h (by omega)]; omega
            · refine q2 fun h' => h ⟨by rw [hy.1, Bool.true_and]; exact h'.1, by omega⟩
          · have es := p2 hy
            refine ⟨fun h hs => ?_, fun _ => ?_⟩
            · rw [Bool.and_eq_true] at h
              exact absurd ⟨h.1, by omega⟩ hy
            · rw [foldl_stop (by omega)]; omega
        · have e : szF a y = a := by unfold szF; rw [decide_eq_false h4]; rfl
          rw [e, foldl_stop (by omega)]
          exact ⟨fun _ h => by omega, fun _ => by omega⟩
    unfold okX szX
    rw [szE_eq, okE_eq]
    have en : numX x = 1 + sumX (nth x 3).list := numE_eq
    rw [en]
    cases nodeB (nth x 0).int (nth x 1).int (nth x 2).str (nth x 3).list (nth x 4).list with
    | false => exact ⟨(fun h => nomatch h), fun _ => Int.le_refl _⟩
    | true =>
      obtain ⟨q1, q2⟩ := hf (nth x 3).list 1 (fun _ h => h) (by decide)
      rw [Bool.true_and]
      refine ⟨fun h hs => ?_, fun h => ?_⟩
      · show (nth x 3).list.foldl szF 1 = _
        rw [q1 h (by omega)]; omega
      · show 41 ≤ (nth x 3).list.foldl szF 1
        exact q2 fun h' => h ⟨h'.1, by omega⟩
theorem sz_valid (k n : Int) (tx : BS) (K R : LL) : decide (szE k n tx K R ≤ 40) = (cntV k n tx K R 40).2 := by
  have h := sz_num _ [TC.i k, TC.i n, TC.s tx, TC.l K, TC.l R] (Nat.le_refl _)
  have e1 : okX [TC.i k, TC.i n, TC.s tx, TC.l K, TC.l R] = okE k n tx K R := rfl
  have e2 : numX [TC.i k, TC.i n, TC.s tx, TC.l K, TC.l R] = numE K := rfl
  have e3 : szX [TC.i k, TC.i n, TC.s tx, TC.l K, TC.l R] = szE k n tx K R := rfl
  rw [e1, e2, e3] at h
  unfold cntV
  by_cases h2 : okE k n tx K R = true ∧ numE K ≤ 40
  · rw [h.1 h2.1 h2.2, h2.1, decide_eq_true (show (numE K : Int) ≤ 40 by omega)]; rfl
  · have := h.2 h2
    rw [decide_eq_false (show ¬ szE k n tx K R ≤ 40 by omega)]
    cases h3 : okE k n tx K R with
    | false => rfl
    | true =>
      rw [decide_eq_false (show ¬ (numE K : Int) ≤ 40 from fun h4 => h2 ⟨h3, by omega⟩)]; rfl
def cnX (K : LL) : Nat := K.attach.foldl (fun a x => a + (3 + cnX (nth x.1 3).list + 3 * (nth x.1 4).list.length)) 0
termination_by rowsDep K
decreasing_by exact dep_cell x.2 3
def cnF (a : Nat) (x : List TC) : Nat := a + (3 + cnX (nth x 3).list + 3 * (nth x 4).list.length)
theorem cnX_eq {K : LL} : cnX K = K.foldl cnF 0 := by
  rw [cnX]
  exact attach_foldl (f := cnF) (l := K) (b := 0)
theorem cnF_add : ∀ {Q : LL} {a : Nat}, Q.foldl cnF a = a + Q.foldl cnF 0
  | [], a => rfl
  | x :: Q, a => by
    rw [List.foldl_cons, List.foldl_cons, cnF_add, cnF_add (a := cnF 0 x)]
    unfold cnF; omega
theorem cn_cons {x : List TC} {Q : LL} : (x :: Q).foldl cnF 0 = 3 + cnX (nth x 3).list + 3 * (nth x 4).list.length + Q.foldl cnF 0 := by
  rw [List.foldl_cons, cnF_add]
  unfold cnF; omega
theorem row_drop {A xs : LL} {x : List TC} {j : Nat} (h : A.drop j = x :: xs) : j < A.length ∧ row A (j : Int) = x ∧ A.drop (j + 1) = xs := by
  have hj : j < A.length := by
    rcases Nat.lt_or_ge j A.length with h' | h'
    · exact h'
    · rw [List.drop_eq_nil_of_le h'] at h; cases h
  rw [List.drop_eq_getElem_cons hj] at h
  injection h with h1 h2
  exact ⟨hj, by rw [row_nat, getD_at hj]; exact h1, h2⟩
def isoL : List (Nat × Nat) := [(25, 31), (61, 59), (31, 25), (59, 61)]
theorem iso_ok : isoOk tab isoL = true := by kernel_rfl
def nmE (k : Int) (tx : BS) (K : LL) : LL := bif k == 2 then [[TC.s tx]] else K.attach.foldl (fun a x => a ++ nmE (nth x.1 0).int (nth x.1 2).str (nth x.1 3).list) []
termination_by rowsDep K
decreasing_by exact dep_cell x.2 3
def nmX (x : List TC) : LL := nmE (nth x 0).int (nth x 2).str (nth x 3).list
theorem nmE_eq {k : Int} {tx : BS} {K : LL} : nmE k tx K = bif k == 2 then [[TC.s tx]] else K.flatMap nmX := by
  rw [nmE]
  refine congrArg (fun z => bif k == 2 then [[TC.s tx]] else z) ((attach_foldl (f := fun a x => a ++ nmX x) (l := K) (b := [])).trans ?_)
  have : ∀ (l : LL) (a : LL), l.foldl (fun a x => a ++ nmX x) a = a ++ l.flatMap nmX := by
    intro l
    induction l with
    | nil => intro a; simp
    | cons x l ih => intro a; rw [List.foldl_cons, ih, List.flatMap_cons, List.append_assoc]
  rw [this, List.nil_append]
theorem nm_len : ∀ (d : Nat) (x : List TC), rowsDep (nth x 3).list ≤ d → (nmX x).length ≤ numX x := by
  intro d
  induction d with
  | zero =>
    intro x hx
    have hK : (nth x 3).list = [] := by
      match hK : (nth x 3).list with
      | [] => rfl
      | y :: K =>
        have := dep_cell (A := (nth x 3).list) (x := y) (by rw [hK]; exact List.mem_cons_self) 3
        omega
    unfold nmX numX
    rw [nmE_eq, numE_eq, hK]
    cases (nth x 0).int == 2 with
    | true => exact Nat.le_refl 1
    | false => exact Nat.zero_le _
  | succ d ih =>
    intro x hx
    unfold nmX numX
    rw [nmE_eq, numE_eq]
    cases (nth x 0).int == 2 with
    | true => show 1 ≤ _; omega
    | false =>
      have : ∀ Q : LL, (∀ y, y ∈ Q → y ∈ (nth x 3).list) → (Q.flatMap nmX).length ≤ sumX Q := by
        intro Q
        induction Q with
        | nil => intro _; exact Nat.le_refl 0
        | cons y Q ih2 =>
          intro hQ
          have h2 := dep_cell (hQ y List.mem_cons_self) 3
          have h3 := ih y (by omega)
          have h4 := ih2 fun z hz => hQ z (List.mem_cons_of_mem _ hz)
          rw [List.flatMap_cons, List.length_append, sumX_cons]
          omega
      have := this _ fun _ h => h
      show ((nth x 3).list.flatMap nmX).length ≤ _
      omega
def insF (t : BS) (a : LL × Bool) (x : List TC) : LL × Bool := bif !a.2 && !(bytesLess (nth x 0).str t) then ((bif (nth x 0).str == t then a.1 else a.1 ++ [[TC.s t]]) ++ [[TC.s (nth x 0).str]], true) else (a.1 ++ [[TC.s (nth x 0).str]], a.2)
def insV (A : LL) (t : BS) : LL := bif (A.foldl (insF t) ([], false)).2 then (A.foldl (insF t) ([], false)).1 else (A.foldl (insF t) ([], false)).1 ++ [[TC.s t]]
theorem insF_t {t : BS} : ∀ {A : LL} {a : LL}, (A.foldl (insF t) (a, true)) = (a ++ A.map (fun x => [TC.s (nth x 0).str]), true)
  | [], a => by simp
  | x :: A, a => by
    rw [List.foldl_cons]
    have e : insF t (a, true) x = (a ++ [[TC.s (nth x 0).str]], true) := rfl
    rw [e, insF_t, List.map_cons, List.append_assoc]; rfl
theorem insF_len {t : BS} : ∀ {A : LL} {a : LL}, (A.foldl (insF t) (a, false)).1.length ≤ a.length + A.length + 1 ∧ ((A.foldl (insF t) (a, false)).2 = false → (A.foldl (insF t) (a, false)).1.length = a.length + A.length)
  | [], a => ⟨by simp, fun _ => by simp⟩
  | x :: A, a => by
    rw [List.foldl_cons]
    unfold insF
    cases hb : bytesLess (nth x 0).str t with
    | true =>
      have := insF_len (t := t) (A := A) (a := a ++ [[TC.s (nth x 0).str]])
      simp only [List.length_append, List.length_cons, List.length_nil] at this ⊢
      exact ⟨by have := this.1; show (A.foldl (insF t) (a ++ [[TC.s (nth x 0).str]], false)).1.length ≤ _; omega, fun h => by have := this.2 h; show (A.foldl (insF t) (a ++ [[TC.s (nth x 0).str]], false)).1.length = _; omega⟩
    | false =>
      have e : (bif !(a, false).2 && !false then ((bif (nth x 0).str == t then (a, false).1 else (a, false).1 ++ [[TC.s t]]) ++ [[TC.s (nth x 0).str]], true) else ((a, false).1 ++ [[TC.s (nth x 0).str]], (a, false).2)) = ((bif (nth x 0).str == t then a else a ++ [[TC.s t]]) ++ [[TC.s (nth x 0).str]], true) := rfl
      rw [e]
      have e2 := insF_t (t := t) (A := A) (a := (bif (nth x 0).str == t then a else a ++ [[TC.s t]]) ++ [[TC.s (nth x 0).str]])
      unfold insF at e2
      rw [e2]
      refine ⟨?_, fun h => nomatch h⟩
      cases (nth x 0).str == t <;> simp <;> omega
theorem insV_len {A : LL} {t : BS} : (insV A t).length ≤ A.length + 1 := by
  have h := insF_len (t := t) (A := A) (a := [])
  unfold insV
  cases hd : (A.foldl (insF t) ([], false)).2 with
  | true => have := h.1; simp only [List.length_nil] at this; show (A.foldl (insF t) ([], false)).1.length ≤ _; omega
  | false => have := h.2 hd; simp only [List.length_nil] at this; show ((A.foldl (insF t) ([], false)).1 ++ [[TC.s t]]).length ≤ _; rw [List.length_append, this]; simp
def insG (k : Int) (tx : BS) (K A : LL) : LL := K.attach.foldl (fun a x => insG (nth x.1 0).int (nth x.1 2).str (nth x.1 3).list a) (bif k == 2 then insV A tx else A)
termination_by rowsDep K
decreasing_by exact dep_cell x.2 3
def insX (A : LL) (x : List TC) : LL := insG (nth x 0).int (nth x 2).str (nth x 3).list A
theorem insG_eq {k : Int} {tx : BS} {K A : LL} : insG k tx K A = K.foldl insX (bif k == 2 then insV A tx else A) := by
  rw [insG]
  exact attach_foldl (f := insX) (l := K) (b := bif k == 2 then insV A tx else A)
theorem ins_len : ∀ (d : Nat) (x : List TC) (A : LL), rowsDep (nth x 3).list ≤ d → (insX A x).length ≤ A.length + numX x := by
  have base : ∀ (k : Int) (tx : BS) (A : LL), (bif k == 2 then insV A tx else A).length ≤ A.length + 1 := fun k tx A => by
    cases k == 2 with
    | true => exact insV_len
    | false => show A.length ≤ _; omega
  intro d
  induction d with
  | zero =>
    intro x A hx
    have hK : (nth x 3).list = [] := by
      match hK : (nth x 3).list with
      | [] => rfl
      | y :: K =>
        have := dep_cell (A := (nth x 3).list) (x := y) (by rw [hK]; exact List.mem_cons_self) 3
        omega
    unfold insX numX
    rw [insG_eq, numE_eq, hK]
    exact base _ _ _
  | succ d ih =>
    intro x A hx
    unfold insX numX
    rw [insG_eq, numE_eq]
    have key : ∀ (Q A : LL), (∀ y, y ∈ Q → y ∈ (nth x 3).list) → (Q.foldl insX A).length ≤ A.length + sumX Q := by
      intro Q
      induction Q with
      | nil => intro A _; exact Nat.le_refl _
      | cons y Q ih2 =>
        intro A hQ
        have h2 := dep_cell (hQ y List.mem_cons_self) 3
        have h3 := ih y A (by omega)
        have h4 := ih2 (insX A y) fun z hz => hQ z (List.mem_cons_of_mem _ hz)
        rw [List.foldl_cons, sumX_cons]
        omega
    have h1 := key _ (bif (nth x 0).int == 2 then insV A (nth x 2).str else A) fun _ h => h
    have h2 := base (nth x 0).int (nth x 2).str A
    omega
def digT (k : Int) : BS := [[TC.i (IntKind.wrap .u8 (IntKind.wrap .i64 ((48 : Int) + (Int.tmod k (10 : Int)))))]].map byteOf
theorem digT_len (k : Int) : (digT k).length ≤ 1 := Nat.le_refl 1
section
class qq_O where R : (Int) → (Int) → (BS) → (LL) → (LL) → (Int) → Bool × (Int)
variable [i_laws_szExp : qq_O]
def qq_rc (x0 x1 : Int) (x2 : BS) (x3 x4 : LL) (x5 : Int) : Bool := ((qq_O.R x0 x1 x2 x3 x4 x5)).1
def qq_rv (x0 x1 : Int) (x2 : BS) (x3 x4 : LL) (x5 : Int) : Int := ((qq_O.R x0 x1 x2 x3 x4 x5)).2
def qq_rmk (p : Int) : Res := [(false, [⟨.int .i64, .sh, TC.i p⟩])]
def qq_rS : List Arg → Option (Bool × Res) := fun xs => match xs with
  | [(true, [(.int .i64, TC.i x0), (.int .i64, TC.i x1), (.str, TC.s x2), (.slice 25, TC.l x3), (.slice 61, TC.l x4)]), (false, [(.int .i64, TC.i x5)])] => some ((qq_rc x0 x1 x2 x3 x4 x5), qq_rmk (qq_rv x0 x1 x2 x3 x4 x5))
  | _ => .none
def D1 : Dt := also D0 5 qq_rS
class qq_G : Prop where ok : DOk Go.Proofs.Try.prog tab D1
variable [g_laws_szExp : qq_G]
theorem d1 : DOk Go.Proofs.Try.prog tab D1 := qq_G.ok
abbrev qn_5_σ := LL × Int × Int
abbrev qn_5_ω := (Int) ⊕ (Int)
def qn_5_step (A : LL) (left i : Int) : Tr (qn_5_σ ⊕ qn_5_ω) := (.ite ((decide (i < (A.length : Int))) = true) (.ite ((0 : Int) ≤ i ∧ i < (A.length : Int)) (.ite ((qq_rc ((nth (row A i) 0).int) ((nth (row A i) 1).int) ((nth (row A i) 2).str) ((nth (row A i) 3).list) ((nth (row A i) 4).list) left) = true) (.ite ((decide ((qq_rv ((nth (row A i) 0).int) ((nth (row A i) 1).int) ((nth (row A i) 2).str) ((nth (row A i) 3).list) ((nth (row A i) 4).list) left) < (0 : Int))) = true) (.ok (.inr (.inl (qq_rv ((nth (row A i) 0).int) ((nth (row A i) 1).int) ((nth (row A i) 2).str) ((nth (row A i) 3).list) ((nth (row A i) 4).list) left))))
     (.ok (.inl (A, (qq_rv ((nth (row A i) 0).int) ((nth (row A i) 1).int) ((nth (row A i) 2).str) ((nth (row A i) 3).list) ((nth (row A i) 4).list) left), (IntKind.wrap .i64 (i + (1 : Int)))))))
    .no)
   .no)
  (.ok (.inr (.inr left))))
def qn_5_st : qn_5_σ → Tr (qn_5_σ ⊕ qn_5_ω) := fun x => (qn_5_step (x.1) (x.2.1) (x.2.2))
def qn_k5_1 (A : LL) (left i : Int) : Bool := isL (loopN qn_5_st (A.length + 1) (A, left, i))
def qn_o5_2 (A : LL) (left i : Int) : Bool := is (i = 0 ∧ Typed tab (.slice 25) (.l A) ∧ (∀ x : List TC, x ∈ A → ∀ left : Int, (qq_rc ((nth x 0).int) ((nth x 1).int) ((nth x 2).str) ((nth x 3).list) ((nth x 4).list) left) = true))
def qn_u5_2 (A : LL) (left i : Int) : Int := getL (loopN qn_5_st (A.length + 1) (A, left, i))
def qn_o5_3 (A : LL) (left i : Int) : Bool := (qn_o5_2 A left i)
def qn_u5_3 (A : LL) (left i : Int) : Int := getR (loopN qn_5_st (A.length + 1) (A, left, i))
def qn_5_fin (A : LL) (left i : Int) : Told qn_5_ω := (.br (qn_k5_1 A left i) (.leaf (qn_o5_2 A left i) (.inl (qn_u5_2 A left i))) (.leaf (qn_o5_3 A left i) (.inr (qn_u5_3 A left i))))
def qn_5_sl (x : qn_5_σ) : List Slot := [⟨.val false [⟨.slice 25, .sh, TC.l (x.1)⟩], ⟨0, 0⟩⟩, ⟨.val false [⟨.int .i64, .sh, TC.i (x.2.1)⟩], ⟨0, 0⟩⟩, ⟨.val false [⟨.int .i64, .sh, TC.i (x.2.2)⟩], ⟨0, 0⟩⟩]
def qn_5_out : qn_5_ω → Ex × List Slot := (Sum.elim (fun x => (.ret, [⟨.val false [⟨.int .i64, .sh, TC.i x⟩], ⟨0, 0⟩⟩, ⟨.val false [⟨.int .i64, .sh, TC.i (-1 : Int)⟩], ⟨0, 0⟩⟩])) (fun x => (.exit 0, [⟨.val false [⟨.int .i64, .sh, TC.i x⟩], ⟨0, 0⟩⟩, Slot.none])))
def qn_lo5 : List Slot → Option (Told (Ex × List Slot)) := fun s => match s with
  | [⟨.val false [⟨.slice 25, .sh, TC.l A⟩], ⟨0, 0⟩⟩, ⟨.val false [⟨.int .i64, .sh, TC.i left⟩], ⟨0, 0⟩⟩, ⟨.val false [⟨.int .i64, .sh, TC.i i⟩], ⟨0, 0⟩⟩] => some (((qn_5_fin A left i)).map qn_5_out)
  | _ => .none
def qn_lo : LoopTeller := fun r s => bif Nat.beq r 5 then qn_lo5 s else .none
theorem qn_5_r (A : LL) (left i : Int) (fuel : Nat) : rounds (rnd tab FT D1 live 16 qn_lo 0 5) leave (fuel + 1) (qn_5_sl (A, left, i)) = ((qn_5_step A left i)).run (goOn (fun s => rounds (rnd tab FT D1 live 16 qn_lo 0 5) leave fuel (qn_5_sl s)) fun w => some (qn_5_out w)) := by kernel_rfl
theorem qn_5_h (A : LL) (left i : Int) (ow : qn_5_ω) : ((qn_5_fin A left i)).val = some ow → ∃ fuel, loopN qn_5_st fuel (A, left, i) = some ow := by
  refine auto_two (N := A.length + 1) rfl rfl rfl ?_
  intro ho
  have ho : is (i = 0 ∧ Typed tab (.slice 25) (.l A) ∧ (∀ x : List TC, x ∈ A → ∀ left : Int, (qq_rc ((nth x 0).int) ((nth x 1).int) ((nth x 2).str) ((nth x 3).list) ((nth x 4).list) left) = true)) = true := ho.elim id id
  obtain ⟨rfl, ht, hr0⟩ := is_iff.1 ho
  have hlen : A.length ≤ 140737488351232 := by have := typed_room ht; simp only [show (tab 25).bytes = 80 from rfl] at this; omega
  refine loopN_ends (step := qn_5_st) (N := A.length) (fun i a => (A, a, (i : Int))) (fun i a hi => ?_) (fun a => ?_) A.length 0 left (by omega)
  · show (∃ a', (qn_5_step A a (i : Int)).val = _) ∨ ∃ w, (qn_5_step A a (i : Int)).val = _
    have c2 : Typed tab (.str) (.s (nth (A.getD i []) 2).str) := typed_s (typed_cell ht (A.getD i []) (mem_getD hi) 2 (by decide))
    have c3 : Typed tab (.slice 25) (.l (nth (A.getD i []) 3).list) := typed_list (typed_cell ht (A.getD i []) (mem_getD hi) 3 (by decide))
    have c4 : Typed tab (.slice 61) (.l (nth (A.getD i []) 4).list) := typed_list (typed_cell ht (A.getD i []) (mem_getD hi) 4 (by decide))
    cases hneg : ((decide ((qq_rv ((nth (row A i) 0).int) ((nth (row A i) 1).int) ((nth (row A i) 2).str) ((nth (row A i) 3).list) ((nth (row A i) 4).list) a) < (0 : Int))))
    · apply Or.inl
      apply Exists.intro
      · unfold qn_5_step
        refine Tr.t (by simp; omega) ?_
        refine Tr.t (by first | omega | (constructor <;> omega)) ?_
        refine Tr.t (hr0 (A.getD i []) (mem_getD hi) a) ?_
        refine Tr.n (by rw [hneg]; simp) ?_
        rw [Tr.val_ok, wrap64 (i := (i : Int) + 1) (by omega) (by omega)]; rfl
    · apply Or.inr
      apply Exists.intro
      · unfold qn_5_step
        refine Tr.t (by simp; omega) ?_
        refine Tr.t (by first | omega | (constructor <;> omega)) ?_
        refine Tr.t (hr0 (A.getD i []) (mem_getD hi) a) ?_
        refine Tr.t hneg ?_
        rfl
  · apply Exists.intro
    · show (qn_5_step A a (A.length : Int)).val = _
      refine Tr.n (by simp) ?_
      rfl
theorem qn_is5 : LoopIs tab FT D1 live 16 qn_lo 0 5 := by
  refine loop_told (sl := qn_5_sl) (step := qn_5_st) (out := qn_5_out) (lor := qn_lo5) (fin := fun x => (qn_5_fin (x.1) (x.2.1) (x.2.2))) (fun _ => rfl) ?_ (fun x n => qn_5_r x.1 x.2.1 x.2.2 n) (fun x ow => qn_5_h x.1 x.2.1 x.2.2 ow)
  intro s t h
  unfold qn_lo5 at h
  split at h
  · cases h; exact ⟨(_, _, _), rfl, rfl⟩
  · cases h
def qn_t (A : LL) (left : Int) : Tr (Int) := (.ite ((decide ((IntKind.wrap .i64 (left - (A.length : Int))) < (0 : Int))) = true) (.ok (-1 : Int))
  (.ite ((qn_k5_1 A (IntKind.wrap .i64 (left - (A.length : Int))) (0 : Int)) = true) (.ite ((qn_o5_2 A (IntKind.wrap .i64 (left - (A.length : Int))) (0 : Int)) = true) (.ok (-1 : Int))
    .no)
   (.ite ((qn_o5_3 A (IntKind.wrap .i64 (left - (A.length : Int))) (0 : Int)) = true) (.ok (qn_u5_3 A (IntKind.wrap .i64 (left - (A.length : Int))) (0 : Int)))
    .no)))
def qn_mk (p : Int) : Res := [(false, [⟨.int .i64, .sh, TC.i p⟩])]
def qn_c (A : LL) (left : Int) : Bool := (bif (decide ((IntKind.wrap .i64 (left - (A.length : Int))) < (0 : Int))) then true else (bif (qn_k5_1 A (IntKind.wrap .i64 (left - (A.length : Int))) (0 : Int)) then ((qn_o5_2 A (IntKind.wrap .i64 (left - (A.length : Int))) (0 : Int)) && true) else ((qn_o5_3 A (IntKind.wrap .i64 (left - (A.length : Int))) (0 : Int)) && true)))
def qn_v (A : LL) (left : Int) : Int := (bif (decide ((IntKind.wrap .i64 (left - (A.length : Int))) < (0 : Int))) then (-1 : Int) else (bif (qn_k5_1 A (IntKind.wrap .i64 (left - (A.length : Int))) (0 : Int)) then (-1 : Int) else (qn_u5_3 A (IntKind.wrap .i64 (left - (A.length : Int))) (0 : Int))))
theorem qn_l (A : LL) (left : Int) : (qn_c A left) = true → (qn_t A left).val = some (qn_v A left) := by
  unfold qn_t qn_v qn_c
  exact fun h => (Tr.ss h (fun h => rfl) (fun h => (Tr.ss h (fun h => (Tr.gb h fun h => rfl)) (fun h => (Tr.gb h fun h => rfl)))))
def qn_S : List Arg → Option (Bool × Res) := fun xs => match xs with
  | [(false, [(.slice 25, TC.l A)]), (false, [(.int .i64, TC.i left)])] => some ((qn_c A left), qn_mk (qn_v A left))
  | _ => .none
theorem qn_e (A : LL) (left : Int) : runF tab FT D1 live 16 qn_lo [(false, [(.slice 25, TC.l A)]), (false, [(.int .i64, TC.i left)])] = (qn_t A left).run fun p => some (qn_mk p) := by kernel_rfl
theorem qn_s : ∀ xs r, qn_S xs = some (true, r) → runF tab FT D1 live 16 qn_lo xs = some r := by
  intro xs r h
  unfold qn_S at h
  split at h
  · obtain ⟨h1, rfl⟩ := sp h
    exact fun_told (qn_e ..) (qn_l _ _) h1
  · cases h
def D2 : Dt := also D1 16 qn_S
theorem d2 : DOk Go.Proofs.Try.prog tab D2 := d1.also mixed_ok tab_ok names_ok (fnLoops_one (by kernel_rfl) qn_is5) qn_s
theorem qn_cc {A : LL} {left : Int} (ht : Typed tab (.slice 25) (.l A)) (hr0 : (∀ x : List TC, x ∈ A → ∀ left : Int, (qq_rc ((nth x 0).int) ((nth x 1).int) ((nth x 2).str) ((nth x 3).list) ((nth x 4).list) left) = true)) : (qn_c A left) = true := by
  unfold qn_c
  refine bifT (fun b1 => ?_) (fun b1 => ?_)
  · skip
    rfl
  · skip
    refine bifT (fun b2 => ?_) (fun b2 => ?_)
    · skip
      refine andT (by exact is_true ⟨rfl, ht, hr0⟩) ?_
      rfl
    · skip
      refine andT (by exact is_true ⟨rfl, ht, hr0⟩) ?_
      rfl
def qbo_t (a0 : LL) (a1 : Int) : Tr (Int) := (.ite ((decide ((IntKind.wrap .i64 (a1 - (a0.length : Int))) < (0 : Int))) = true) (.ok (-1 : Int))
  (.ok (IntKind.wrap .i64 (a1 - (a0.length : Int)))))
def qbo_mk (p : Int) : Res := [(false, [⟨.int .i64, .sh, TC.i p⟩])]
def qbo_c (a0 : LL) (a1 : Int) : Bool := true
def qbo_v (a0 : LL) (a1 : Int) : Int := (bif (decide ((IntKind.wrap .i64 (a1 - (a0.length : Int))) < (0 : Int))) then (-1 : Int) else (IntKind.wrap .i64 (a1 - (a0.length : Int))))
theorem qbo_l (a0 : LL) (a1 : Int) : (qbo_c a0 a1) = true → (qbo_t a0 a1).val = some (qbo_v a0 a1) := by
  intro h
  skip
  unfold qbo_t qbo_v
  exact (Tr.s rfl rfl)
def qbo_S : List Arg → Option (Bool × Res) := fun xs => match xs with
  | [(false, [(.slice 61, TC.l a0)]), (false, [(.int .i64, TC.i a1)])] => some (true, qbo_mk (qbo_v a0 a1))
  | _ => .none
theorem qbo_e (a0 : LL) (a1 : Int) : runF tab FT D2 live 17 noLoops [(false, [(.slice 61, TC.l a0)]), (false, [(.int .i64, TC.i a1)])] = (qbo_t a0 a1).run fun p => some (qbo_mk p) := by kernel_rfl
theorem qbo_s : ∀ xs r, qbo_S xs = some (true, r) → runF tab FT D2 live 17 noLoops xs = some r := by
  intro xs r h
  unfold qbo_S at h
  split at h
  · obtain ⟨h1, rfl⟩ := sp h
    exact fun_told (qbo_e ..) (qbo_l _ _) rfl
  · cases h
def D3 : Dt := also D2 17 qbo_S
theorem d3 : DOk Go.Proofs.Try.prog tab D3 := d2.also mixed_ok tab_ok names_ok noLoops_ok qbo_s
def qq_t (x0 x1 : Int) (x2 : BS) (x3 x4 : LL) (x5 : Int) : Tr (Int) := (.ite ((decide ((IntKind.wrap .i64 (x5 - (x2.length : Int))) < (0 : Int))) = true) (.ok (-1 : Int))
  (.ite ((qn_c x3 (IntKind.wrap .i64 (x5 - (x2.length : Int)))) = true) (.ite ((decide ((qn_v x3 (IntKind.wrap .i64 (x5 - (x2.length : Int)))) < (0 : Int))) = true) (.ok (-1 : Int))
    (.ite ((decide ((qbo_v x4 (qn_v x3 (IntKind.wrap .i64 (x5 - (x2.length : Int))))) < (0 : Int))) = true) (.ok (-1 : Int))
     (.ok (qbo_v x4 (qn_v x3 (IntKind.wrap .i64 (x5 - (x2.length : Int))))))))
   .no))
def qq_mk (p : Int) : Res := [(false, [⟨.int .i64, .sh, TC.i p⟩])]
def qq_c (x0 x1 : Int) (x2 : BS) (x3 x4 : LL) (x5 : Int) : Bool := (bif (decide ((IntKind.wrap .i64 (x5 - (x2.length : Int))) < (0 : Int))) then true else ((qn_c x3 (IntKind.wrap .i64 (x5 - (x2.length : Int)))) && (bif (decide ((qn_v x3 (IntKind.wrap .i64 (x5 - (x2.length : Int)))) < (0 : Int))) then true else (bif (decide ((qbo_v x4 (qn_v x3 (IntKind.wrap .i64 (x5 - (x2.length : Int))))) < (0 : Int))) then true else true))))
def qq_v (x0 x1 : Int) (x2 : BS) (x3 x4 : LL) (x5 : Int) : Int := (bif (decide ((IntKind.wrap .i64 (x5 - (x2.length : Int))) < (0 : Int))) then (-1 : Int) else (bif (decide ((qn_v x3 (IntKind.wrap .i64 (x5 - (x2.length : Int)))) < (0 : Int))) then (-1 : Int) else (bif (decide ((qbo_v x4 (qn_v x3 (IntKind.wrap .i64 (x5 - (x2.length : Int))))) < (0 : Int))) then (-1 : Int) else (qbo_v x4 (qn_v x3 (IntKind.wrap .i64 (x5 - (x2.length : Int))))))))
theorem qq_l (x0 x1 : Int) (x2 : BS) (x3 x4 : LL) (x5 : Int) : (qq_c x0 x1 x2 x3 x4 x5) = true → (qq_t x0 x1 x2 x3 x4 x5).val = some (qq_v x0 x1 x2 x3 x4 x5) := by
  unfold qq_t qq_v qq_c
  exact fun h => (Tr.ss h (fun h => rfl) (fun h => (Tr.gb h fun h => (Tr.ss h (fun h => rfl) (fun h => (Tr.ss h (fun h => rfl) (fun h => rfl)))))))
theorem qq_e (x0 x1 : Int) (x2 : BS) (x3 x4 : LL) (x5 : Int) : runF tab FT D3 live 5 noLoops [(true, [(.int .i64, TC.i x0), (.int .i64, TC.i x1), (.str, TC.s x2), (.slice 25, TC.l x3), (.slice 61, TC.l x4)]), (false, [(.int .i64, TC.i x5)])] = (qq_t x0 x1 x2 x3 x4 x5).run fun p => some (qq_mk p) := by kernel_rfl
def qq_next : (Int) → (Int) → (BS) → (LL) → (LL) → (Int) → Bool × (Int) := fun x0 x1 x2 x3 x4 x5 => ((qq_c x0 x1 x2 x3 x4 x5), (qq_v x0 x1 x2 x3 x4 x5))
theorem qq_nx (m : Nat) (hR : ∀ (x0 x1 : Int) (x2 : BS) (x3 x4 : LL) (x5 : Int), rowsDep x3 < m ∧ Typed tab (.slice 25) (.l x3) ∧ Typed tab (.slice 61) (.l x4) → (qq_rc x0 x1 x2 x3 x4 x5) = true) (x0 x1 : Int) (x2 : BS) (x3 x4 : LL) (x5 : Int) : rowsDep x3 < (m + 1) ∧ Typed tab (.slice 25) (.l x3) ∧ Typed tab (.slice 61) (.l x4) → (qq_c x0 x1 x2 x3 x4 x5) = true := by
  intro h
  obtain ⟨hM, t3, t4⟩ := h
  unfold qq_c
  refine bifT (fun b1 => ?_) (fun b1 => ?_)
  · skip
    rfl
  · skip
    refine andT (by exact qn_cc t3 (fun x hx left => hR _ _ _ _ _ _ ⟨by have a := dep_cell hx 3; omega, typed_list ((typed_elem t3 hx).2 3 (by decide)), typed_list ((typed_elem t3 hx).2 4 (by decide))⟩)) ?_
    refine bifT (fun b2 => ?_) (fun b2 => ?_)
    · skip
      rfl
    · skip
      refine bifT (fun b3 => ?_) (fun b3 => ?_)
      · skip
        rfl
      · skip
        rfl
theorem qq_rs : ∀ xs r, qq_rS (i_laws_szExp := ⟨qq_next⟩) xs = some (true, r) → runF tab FT D3 live 5 noLoops xs = some r := by
  intro xs r h
  unfold qq_rS at h
  split at h
  · obtain ⟨h1, rfl⟩ := sp h
    exact fun_told (qq_e ..) (qq_l _ _ _ _ _ _) h1
  · cases h
theorem qq_step : qq_G (i_laws_szExp := ⟨qq_next⟩) := by
  have h := DOk.also2 (S := qq_rS (i_laws_szExp := ⟨qq_next⟩)) mixed_ok tab_ok names_ok d0 d3 noLoops_ok qq_rs
  refine qq_G.mk (i_laws_szExp := ⟨qq_next⟩) ?_
  exact h
theorem qn_bs (m : Nat) (hB : ∀ (x0 x1 : Int) (x2 : BS) (x3 x4 : LL) (x5 : Int), rowsDep x3 < m ∧ Typed tab (.slice 25) (.l x3) ∧ Typed tab (.slice 61) (.l x4) → Typed tab .str (.s x2) → 0 ≤ x5 → x5 ≤ 1048576 → 0 ≤ qq_rv x0 x1 x2 x3 x4 x5 → qq_rv x0 x1 x2 x3 x4 x5 ≤ x5 ∧ (kdE x3 : Int) ≤ x5 ∧ 3 * qq_rv x0 x1 x2 x3 x4 x5 + (cnX x3 : Int) + 3 * (x4.length : Int) ≤ 3 * x5) {A : LL} {l : Int} (hd : rowsDep A < m + 1) (ht : Typed tab (.slice 25) (.l A)) (hc : ∀ x : List TC, x ∈ A → ∀ left : Int, qq_rc (nth x 0).int (nth x 1).int (nth x 2).str (nth x 3).list (nth x 4).list left = true) (h0 : 0 ≤ l) (h1 : l ≤ 1048576) (hv : 0 ≤ qn_v A l) : qn_v A l ≤ l ∧ (kdE A : Int) ≤ l ∧ 3 * qn_v A l + (cnX A : Int) ≤ 3 * l := by
  have hlen := typed_room ht
  simp only [show (tab 25).bytes = 80 from rfl] at hlen
  have key : ∀ (rest : LL) (j fuel : Nat) (l : Int), A.drop j = rest → rest.length < fuel → 0 ≤ l → l ≤ 1048576 → (∃ w, loopN qn_5_st fuel (A, l, (j : Int)) = some (.inl w)) ∨ ∃ q : Int, loopN qn_5_st fuel (A, l, (j : Int)) = some (.inr q) ∧ 0 ≤ q ∧ q ≤ l ∧ (∀ x, x ∈ rest → (kdX x : Int) ≤ l) ∧ 3 * q + ((rest.foldl cnF 0 : Nat) : Int) ≤ 3 * l + 3 * (rest.length : Int) := by
    intro rest
    induction rest with
    | nil =>
      intro j fuel l hdr hf h0 h1
      obtain ⟨f, rfl⟩ : ∃ f, fuel = f + 1 := ⟨fuel - 1, by simp at hf; omega⟩
      have hj : A.length ≤ j := by have := congrArg List.length hdr; rw [List.length_drop, List.length_nil] at this; omega
      refine .inr ⟨l, loopN_end ?_, h0, Int.le_refl _, fun x hx => (by cases hx), by show 3 * l + 0 ≤ 3 * l + 3 * 0; omega⟩
      show (qn_5_step A l (j : Int)).val = _
      unfold qn_5_step
      refine Tr.n (by simp; omega) ?_
      rfl
    | cons x rest ih =>
      intro j fuel l hdr hf h0 h1
      obtain ⟨f, rfl⟩ : ∃ f, fuel = f + 1 := ⟨fuel - 1, by simp at hf; omega⟩
      simp only [List.length_cons] at hf
      obtain ⟨hj, hrow, hdr2⟩ := row_drop hdr
      have hx : x ∈ A := by rw [← hrow, row_nat]; exact mem_getD hj
      by_cases hn : qq_rv (nth x 0).int (nth x 1).int (nth x 2).str (nth x 3).list (nth x 4).list l < 0
      · refine .inl ⟨qq_rv (nth x 0).int (nth x 1).int (nth x 2).str (nth x 3).list (nth x 4).list l, loopN_end ?_⟩
        show (qn_5_step A l (j : Int)).val = _
        unfold qn_5_step
        rw [hrow]
        refine Tr.t (by simp; omega) (Tr.t ⟨by omega, by omega⟩ (Tr.t (hc x hx l) (Tr.t (decide_eq_true hn) ?_)))
        rfl
      · have hdx := dep_cell hx 3
        have hb := hB (nth x 0).int (nth x 1).int (nth x 2).str (nth x 3).list (nth x 4).list l ⟨by omega, typed_list ((typed_elem ht hx).2 3 (by decide)), typed_list ((typed_elem ht hx).2 4 (by decide))⟩ (typed_s ((typed_elem ht hx).2 2 (by decide))) h0 h1 (by omega)
        have hst : (qn_5_st (A, l, (j : Int))).val = some (.inl (A, qq_rv (nth x 0).int (nth x 1).int (nth x 2).str (nth x 3).list (nth x 4).list l, ((j + 1 : Nat) : Int))) := by
          show (qn_5_step A l (j : Int)).val = _
          unfold qn_5_step
          rw [hrow]
          refine Tr.t (by simp; omega) (Tr.t ⟨by omega, by omega⟩ (Tr.t (hc x hx l) (Tr.n (by simpa using hn) ?_)))
          rw [Tr.val_ok, wrap64 (i := (j : Int) + 1) (by omega) (by omega)]
          rfl
        rw [loopN_next hst]
        rcases ih (j + 1) f (qq_rv (nth x 0).int (nth x 1).int (nth x 2).str (nth x 3).list (nth x 4).list l) hdr2 (by omega) (by omega) (by omega) with ⟨w, hw⟩ | ⟨q, hq, q0, q1, q2, q3⟩
        · exact .inl ⟨w, hw⟩
        · have hb3 := hb.2.2
          refine .inr ⟨q, hq, q0, by omega, fun y hy => ?_, by rw [cn_cons, List.length_cons]; omega⟩
          rcases List.mem_cons.1 hy with rfl | hy
          · exact hb.2.1
          · have := q2 y hy; omega
  unfold qn_v at hv ⊢
  rw [wrap64 (i := l - (A.length : Int)) (by omega) (by omega)] at hv ⊢
  by_cases hn : l - (A.length : Int) < 0
  · rw [decide_eq_true hn] at hv
    exact absurd (show (0 : Int) ≤ -1 from hv) (by decide)
  · rw [decide_eq_false hn] at hv ⊢
    simp only [cond_false] at hv ⊢
    rcases key A 0 (A.length + 1) (l - (A.length : Int)) rfl (by omega) (by omega) (by omega) with ⟨w, hw⟩ | ⟨q, hq, q0, q1, q2, q3⟩
    · have e : qn_k5_1 A (l - (A.length : Int)) 0 = true := by
        show isL (loopN qn_5_st (A.length + 1) (A, l - (A.length : Int), ((0 : Nat) : Int))) = true
        rw [hw]; rfl
      rw [e] at hv
      exact absurd (show (0 : Int) ≤ -1 from hv) (by decide)
    · have e : qn_k5_1 A (l - (A.length : Int)) 0 = false := by
        show isL (loopN qn_5_st (A.length + 1) (A, l - (A.length : Int), ((0 : Nat) : Int))) = false
        rw [hq]; rfl
      have e2 : qn_u5_3 A (l - (A.length : Int)) 0 = q := by
        show getR (loopN qn_5_st (A.length + 1) (A, l - (A.length : Int), ((0 : Nat) : Int))) = q
        rw [hq]; rfl
      rw [e, e2]
      rw [← cnX_eq] at q3
      refine ⟨by show q ≤ l; omega, ?_, by show 3 * q + _ ≤ _; omega⟩
      have hk : kdE A ≤ l.toNat := by
        rw [kdE_eq]
        refine kd_foldl (fun x hx => ?_) (Nat.zero_le _)
        have := q2 x hx
        have : 0 < A.length := List.length_pos_of_mem hx
        omega
      omega
theorem qq_bs (m : Nat) (hR : ∀ (x0 x1 : Int) (x2 : BS) (x3 x4 : LL) (x5 : Int), rowsDep x3 < m ∧ Typed tab (.slice 25) (.l x3) ∧ Typed tab (.slice 61) (.l x4) → qq_rc x0 x1 x2 x3 x4 x5 = true) (hB : ∀ (x0 x1 : Int) (x2 : BS) (x3 x4 : LL) (x5 : Int), rowsDep x3 < m ∧ Typed tab (.slice 25) (.l x3) ∧ Typed tab (.slice 61) (.l x4) → Typed tab .str (.s x2) → 0 ≤ x5 → x5 ≤ 1048576 → 0 ≤ qq_rv x0 x1 x2 x3 x4 x5 → qq_rv x0 x1 x2 x3 x4 x5 ≤ x5 ∧ (kdE x3 : Int) ≤ x5 ∧ 3 * qq_rv x0 x1 x2 x3 x4 x5 + (cnX x3 : Int) + 3 * (x4.length : Int) ≤ 3 * x5) (x0 x1 : Int) (x2 : BS) (x3 x4 : LL) (x5 : Int) (h : rowsDep x3 < m + 1 ∧ Typed tab (.slice 25) (.l x3) ∧ Typed tab (.slice 61) (.l x4)) (ht : Typed tab .str (.s x2)) (h0 : 0 ≤ x5) (h1 : x5 ≤ 1048576) (hv : 0 ≤ qq_v x0 x1 x2 x3 x4 x5) : qq_v x0 x1 x2 x3 x4 x5 ≤ x5 ∧ (kdE x3 : Int) ≤ x5 ∧ 3 * qq_v x0 x1 x2 x3 x4 x5 + (cnX x3 : Int) + 3 * (x4.length : Int) ≤ 3 * x5 := by
  obtain ⟨hd, t3, t4⟩ := h
  have hl2 := typed_str_len ht
  have hl4 := typed_room t4
  simp only [show (tab 61).bytes = 24 from rfl] at hl4
  have hc : ∀ x : List TC, x ∈ x3 → ∀ left : Int, qq_rc (nth x 0).int (nth x 1).int (nth x 2).str (nth x 3).list (nth x 4).list left = true := fun x hx left => hR _ _ _ _ _ _ ⟨by have a := dep_cell hx 3; omega, typed_list ((typed_elem t3 hx).2 3 (by decide)), typed_list ((typed_elem t3 hx).2 4 (by decide))⟩
  unfold qq_v at hv ⊢
  rw [wrap64 (i := x5 - (x2.length : Int)) (by omega) (by omega)] at hv ⊢
  by_cases c1 : x5 - (x2.length : Int) < 0
  · rw [decide_eq_true c1] at hv
    exact absurd (show (0 : Int) ≤ -1 from hv) (by decide)
  · rw [decide_eq_false c1] at hv ⊢
    simp only [cond_false] at hv ⊢
    by_cases c2 : qn_v x3 (x5 - (x2.length : Int)) < 0
    · rw [decide_eq_true c2] at hv
      exact absurd (show (0 : Int) ≤ -1 from hv) (by decide)
    · rw [decide_eq_false c2] at hv ⊢
      simp only [cond_false] at hv ⊢
      have hb := qn_bs m hB hd t3 hc (l := x5 - (x2.length : Int)) (by omega) (by omega) (by omega)
      generalize qn_v x3 (x5 - (x2.length : Int)) = q at hv hb c2 ⊢
      have hr : qbo_v x4 q = bif decide (q - (x4.length : Int) < 0) then -1 else q - (x4.length : Int) := by
        unfold qbo_v
        rw [wrap64 (i := q - (x4.length : Int)) (by omega) (by omega)]
      rw [hr] at hv ⊢
      by_cases c3 : q - (x4.length : Int) < 0
      · rw [decide_eq_true c3] at hv
        exact absurd (show (0 : Int) ≤ -1 from hv) (by decide)
      · rw [decide_eq_false c3] at hv ⊢
        simp only [cond_false] at hv ⊢
        rw [decide_eq_false c3]
        refine ⟨by show q - (x4.length : Int) ≤ x5; omega, by omega, by show 3 * (q - (x4.length : Int)) + _ + _ ≤ _; omega⟩
section
class qc_O where n : Nat
variable [i_laws_toExp : qc_O]
def qc_rc (x0 x1 : Int) (x2 : BS) (x3 x4 : LL) : Bool := is (rowsDep x3 < qc_O.n ∧ Typed tab (.slice 25) (.l x3) ∧ Typed tab (.slice 61) (.l x4))
def qc_rv (x0 x1 : Int) (x2 : BS) (x3 x4 : LL) : Int × Int × BS × LL × LL := (x0, x1, x2, x3, x4)
def qc_rmk (p : Int × Int × BS × LL × LL) : Res := [(true, [⟨.int .i64, .sh, TC.i (p.1)⟩, ⟨.int .i64, .sh, TC.i (p.2.1)⟩, ⟨.str, .sh, TC.s (p.2.2.1)⟩, ⟨.slice 31, .own true, TC.l (p.2.2.2.1)⟩, ⟨.slice 59, .own true, TC.l (p.2.2.2.2)⟩])]
def qc_rS : List Arg → Option (Bool × Res) := fun xs => match xs with
  | [(true, [(.int .i64, TC.i x0), (.int .i64, TC.i x1), (.str, TC.s x2), (.slice 25, TC.l x3), (.slice 61, TC.l x4)])] => some ((qc_rc x0 x1 x2 x3 x4), qc_rmk (qc_rv x0 x1 x2 x3 x4))
  | _ => .none
def D4 : Dt := also D3 7 qc_rS
class qc_G : Prop where ok : DOk Go.Proofs.Try.prog tab D4
variable [g_laws_toExp : qc_G]
theorem d4 : DOk Go.Proofs.Try.prog tab D4 := qc_G.ok
def qy_g (x : List TC) : List TC := [TC.i ((qc_rv ((nth x 0).int) ((nth x 1).int) ((nth x 2).str) ((nth x 3).list) ((nth x 4).list)).1), TC.i ((qc_rv ((nth x 0).int) ((nth x 1).int) ((nth x 2).str) ((nth x 3).list) ((nth x 4).list)).2.1), TC.s ((qc_rv ((nth x 0).int) ((nth x 1).int) ((nth x 2).str) ((nth x 3).list) ((nth x 4).list)).2.2.1), TC.l ((qc_rv ((nth x 0).int) ((nth x 1).int) ((nth x 2).str) ((nth x 3).list) ((nth x 4).list)).2.2.2.1), TC.l ((qc_rv ((nth x 0).int) ((nth x 1).int) ((nth x 2).str) ((nth x 3).list) ((nth x 4).list)).2.2.2.2)]
def qy_z : List TC := [TC.i (0 : Int), TC.i (0 : Int), TC.s [], TC.l [], TC.l []]
theorem qy_id {A : LL} (h : Typed tab (.slice 25) (.l A)) : A.map qy_g = A := map_same fun x hx => by
  obtain ⟨hl, hk⟩ := typed_elem h hx
  have e0 : TC.i ((nth x 0).int) = nth x 0 := typed_int_eq (hk 0 (by decide))
  have e1 : TC.i ((nth x 1).int) = nth x 1 := typed_int_eq (hk 1 (by decide))
  have e2 : TC.s ((nth x 2).str) = nth x 2 := typed_str_eq (hk 2 (by decide))
  have e3 : TC.l ((nth x 3).list) = nth x 3 := typed_list_eq (hk 3 (by decide))
  have e4 : TC.l ((nth x 4).list) = nth x 4 := typed_list_eq (hk 4 (by decide))
  show [TC.i ((nth x 0).int), TC.i ((nth x 1).int), TC.s ((nth x 2).str), TC.l ((nth x 3).list), TC.l ((nth x 4).list)] = _
  rw [e0, e1, e2, e3, e4]
  exact (row_eta hl).symm
abbrev qy_3_σ := LL × LL × Int
abbrev qy_3_ω := (LL)
def qy_3_step (A X : LL) (i : Int) : Tr (qy_3_σ ⊕ qy_3_ω) := (.ite ((decide (i < (A.length : Int))) = true) (.ite ((0 : Int) ≤ i ∧ i < (A.length : Int)) (.ite ((qc_rc ((nth (row A i) 0).int) ((nth (row A i) 1).int) ((nth (row A i) 2).str) ((nth (row A i) 3).list) ((nth (row A i) 4).list)) = true) (.ite ((0 : Int) ≤ i ∧ i < (X.length : Int)) (.ok (.inl (A, (X.set (i).toNat (splice (row X i) 0 [TC.i ((qc_rv ((nth (row A i) 0).int) ((nth (row A i) 1).int) ((nth (row A i) 2).str) ((nth (row A i) 3).list) ((nth (row A i) 4).list)).1), TC.i ((qc_rv ((nth (row A i) 0).int) ((nth (row A i) 1).int) ((nth (row A i) 2).str) ((nth (row A i) 3).list) ((nth (row A i) 4).list)).2.1), TC.s ((qc_rv ((nth (row A i) 0).int) ((nth (row A i) 1).int) ((nth (row A i) 2).str) ((nth (row A i) 3).list) ((nth (row A i) 4).list)).2.2.1), TC.l ((qc_rv ((nth (row A i) 0).int) ((nth (row A i) 1).int) ((nth (row A i) 2).str) ((nth (row A i) 3).list) ((nth (row A i) 4).list)).2.2.2.1), TC.l ((qc_rv ((nth (row A i) 0).int) ((nth (row A i) 1).int) ((nth (row A i) 2).str) ((nth (row A i) 3).list) ((nth (row A i) 4).list)).2.2.2.2)])), (IntKind.wrap .i64 (i + (1 : Int))))))
     .no)
    .no)
   .no)
  (.ok (.inr X)))
def qy_3_st : qy_3_σ → Tr (qy_3_σ ⊕ qy_3_ω) := fun x => (qy_3_step (x.1) (x.2.1) (x.2.2))
def qy_o3_1 (A X : LL) (i : Int) : Bool := is (Typed tab (.slice 25) (.l A) ∧ (∀ x : List TC, x ∈ A → (qc_rc ((nth x 0).int) ((nth x 1).int) ((nth x 2).str) ((nth x 3).list) ((nth x 4).list)) = true) ∧ X = List.replicate A.length qy_z ∧ i = 0)
def qy_3_fin (A X : LL) (i : Int) : Told qy_3_ω := (.leaf (qy_o3_1 A X i) A)
def qy_3_sl (x : qy_3_σ) : List Slot := [⟨.val false [⟨.slice 25, .sh, TC.l (x.1)⟩], ⟨0, 0⟩⟩, ⟨.val false [⟨.slice 31, .own true, TC.l (x.2.1)⟩], ⟨0, 0⟩⟩, ⟨.val false [⟨.int .i64, .sh, TC.i (x.2.2)⟩], ⟨0, 0⟩⟩]
def qy_3_out : qy_3_ω → Ex × List Slot := (fun x => (.exit 0, [Slot.none, ⟨.val false [⟨.slice 31, .own true, TC.l x⟩], ⟨0, 0⟩⟩]))
def qy_lo3 : List Slot → Option (Told (Ex × List Slot)) := fun s => match s with
  | [⟨.val false [⟨.slice 25, .sh, TC.l A⟩], ⟨0, 0⟩⟩, ⟨.val false [⟨.slice 31, .own true, TC.l X⟩], ⟨0, 0⟩⟩, ⟨.val false [⟨.int .i64, .sh, TC.i i⟩], ⟨0, 0⟩⟩] => some (((qy_3_fin A X i)).map qy_3_out)
  | _ => .none
def qy_lo : LoopTeller := fun r s => bif Nat.beq r 3 then qy_lo3 s else .none
theorem qy_3_r (A X : LL) (i : Int) (fuel : Nat) : rounds (rnd tab FT D4 live 19 qy_lo 0 3) leave (fuel + 1) (qy_3_sl (A, X, i)) = ((qy_3_step A X i)).run (goOn (fun s => rounds (rnd tab FT D4 live 19 qy_lo 0 3) leave fuel (qy_3_sl s)) fun w => some (qy_3_out w)) := by kernel_rfl
theorem qy_3_h (A X : LL) (i : Int) (ow : qy_3_ω) : ((qy_3_fin A X i)).val = some ow → ∃ fuel, loopN qy_3_st fuel (A, X, i) = some ow := by
  intro h
  refine auto_leaf (R := A) (fun ho => ?_) h
  obtain ⟨ht, hr0, rfl, rfl⟩ := is_iff.1 ho
  have hlen : A.length ≤ 140737488351232 := by have := typed_room ht; simp only [show (tab 25).bytes = 80 from rfl] at this; omega
  have key := loopN_copy (step := qy_3_st) A (List.replicate A.length qy_z) qy_g (fun Y i => (A, Y, (i : Int))) (A.map qy_g) (by simp) (fun x hx i _ => by rw [(List.mem_replicate.1 hx).2]; exact Nat.le_refl 5) (fun Y i hi hl => ?_) ?_ A.length 0 (by omega)
  · rw [copied_zero, qy_id ht] at key
    exact ⟨_, key⟩
  · have c2 : Typed tab (.str) (.s (nth (A.getD i []) 2).str) := typed_s (typed_cell ht (A.getD i []) (mem_getD hi) 2 (by decide))
    have c3 : Typed tab (.slice 25) (.l (nth (A.getD i []) 3).list) := typed_list (typed_cell ht (A.getD i []) (mem_getD hi) 3 (by decide))
    have c4 : Typed tab (.slice 61) (.l (nth (A.getD i []) 4).list) := typed_list (typed_cell ht (A.getD i []) (mem_getD hi) 4 (by decide))
    show (qy_3_step A Y (i : Int)).val = _
    unfold qy_3_step
    refine Tr.t (by simp; omega) ?_
    refine Tr.t (by first | omega | (constructor <;> omega)) ?_
    refine Tr.t (hr0 (A.getD i []) (mem_getD hi)) ?_
    refine Tr.t (by first | omega | (constructor <;> omega)) ?_
    rw [Tr.val_ok, wrap64 (i := (i : Int) + 1) (by omega) (by omega)]; rfl
  · show (qy_3_step A (A.map qy_g) (A.length : Int)).val = _
    refine Tr.n (by simp) ?_
    rfl
theorem qy_is3 : LoopIs tab FT D4 live 19 qy_lo 0 3 := by
  refine loop_told (sl := qy_3_sl) (step := qy_3_st) (out := qy_3_out) (lor := qy_lo3) (fin := fun x => (qy_3_fin (x.1) (x.2.1) (x.2.2))) (fun _ => rfl) ?_ (fun x n => qy_3_r x.1 x.2.1 x.2.2 n) (fun x ow => qy_3_h x.1 x.2.1 x.2.2 ow)
  intro s t h
  unfold qy_lo3 at h
  split at h
  · cases h; exact ⟨(_, _, _), rfl, rfl⟩
  · cases h
def qy_t (A : LL) : Tr (LL) := (.ite (0 ≤ (A.length : Int) ∧ (A.length : Int) ≤ (A.length : Int) ∧ (A.length : Int) * 80 ≤ 140737488355328 ∧ (A.length : Int) ≤ 140737488355328) (.ite ((qy_o3_1 A (List.replicate ((A.length : Int)).toNat [TC.i (0 : Int), TC.i (0 : Int), TC.s [], TC.l [], TC.l []]) (0 : Int)) = true) (.ok A)
   .no)
  .no)
def qy_mk (p : LL) : Res := [(false, [⟨.slice 31, .own true, TC.l p⟩])]
def qy_c (A : LL) : Bool := is (Typed tab (.slice 25) (.l A) ∧ (∀ x : List TC, x ∈ A → (qc_rc ((nth x 0).int) ((nth x 1).int) ((nth x 2).str) ((nth x 3).list) ((nth x 4).list)) = true))
def qy_v (A : LL) : LL := A
theorem qy_l (A : LL) : (qy_c A) = true → (qy_t A).val = some (qy_v A) := by
  intro h
  obtain ⟨ht, hr0⟩ := is_iff.1 h
  have hb := typed_room ht
  simp only [show (tab 25).bytes = 80 from rfl] at hb
  unfold qy_t
  refine Tr.t (by omega) ?_
  refine Tr.t (is_true ⟨ht, hr0, by rfl, rfl⟩) ?_
  rfl
def qy_S : List Arg → Option (Bool × Res) := fun xs => match xs with
  | [(false, [(.slice 25, TC.l A)])] => some ((qy_c A), qy_mk (qy_v A))
  | _ => .none
theorem qy_e (A : LL) : runF tab FT D4 live 19 qy_lo [(false, [(.slice 25, TC.l A)])] = (qy_t A).run fun p => some (qy_mk p) := by kernel_rfl
theorem qy_s : ∀ xs r, qy_S xs = some (true, r) → runF tab FT D4 live 19 qy_lo xs = some r := by
  intro xs r h
  unfold qy_S at h
  split at h
  · obtain ⟨h1, rfl⟩ := sp h
    exact fun_told (qy_e _) (qy_l _) h1
  · cases h
def D5 : Dt := also D4 19 qy_S
theorem d5 : DOk Go.Proofs.Try.prog tab D5 := d4.also mixed_ok tab_ok names_ok (fnLoops_one (by kernel_rfl) qy_is3) qy_s
theorem qy_ty {A : LL} (h : Typed tab (.slice 25) (.l A)) : Typed tab (.slice 31) (.l A) := typed_iso iso_ok h (by decide)
def qbu_t (a0 a1 : Int) (a2 : Bool) : Tr (Int × Int × Bool) := .ok (a0, a1, a2)
def qbu_mk (p : Int × Int × Bool) : Res := [(true, [⟨.int .i64, .sh, TC.i (p.1)⟩, ⟨.int .i64, .sh, TC.i (p.2.1)⟩, ⟨.bool, .sh, TC.b (p.2.2)⟩])]
def qbu_c (a0 a1 : Int) (a2 : Bool) : Bool := true
def qbu_v (a0 a1 : Int) (a2 : Bool) : Int × Int × Bool := (a0, a1, a2)
theorem qbu_l (a0 a1 : Int) (a2 : Bool) : (qbu_c a0 a1 a2) = true → (qbu_t a0 a1 a2).val = some (qbu_v a0 a1 a2) := by
  intro h
  skip
  unfold qbu_t qbu_v
  exact rfl
def qbu_S : List Arg → Option (Bool × Res) := fun xs => match xs with
  | [(true, [(.int .i64, TC.i a0), (.int .i64, TC.i a1), (.bool, TC.b a2)])] => some (true, qbu_mk (qbu_v a0 a1 a2))
  | _ => .none
theorem qbu_e (a0 a1 : Int) (a2 : Bool) : runF tab FT D5 live 32 noLoops [(true, [(.int .i64, TC.i a0), (.int .i64, TC.i a1), (.bool, TC.b a2)])] = (qbu_t a0 a1 a2).run fun p => some (qbu_mk p) := by kernel_rfl
theorem qbu_s : ∀ xs r, qbu_S xs = some (true, r) → runF tab FT D5 live 32 noLoops xs = some r := by
  intro xs r h
  unfold qbu_S at h
  split at h
  · obtain ⟨h1, rfl⟩ := sp h
    exact fun_told (qbu_e ..) (qbu_l _ _ _) rfl
  · cases h
def D6 : Dt := also D5 32 qbu_S
theorem d6 : DOk Go.Proofs.Try.prog tab D6 := d5.also mixed_ok tab_ok names_ok noLoops_ok qbu_s
def qu_g (x : List TC) : List TC := [TC.i ((nth x 0).int), TC.i ((nth x 1).int), TC.b ((nth x 2).bool)]
def qu_z : List TC := [TC.i (0 : Int), TC.i (0 : Int), TC.b false]
theorem qu_id {A : LL} (h : Typed tab (.slice 61) (.l A)) : A.map qu_g = A := map_same fun x hx => by
  obtain ⟨hl, hk⟩ := typed_elem h hx
  have e0 : TC.i ((nth x 0).int) = nth x 0 := typed_int_eq (hk 0 (by decide))
  have e1 : TC.i ((nth x 1).int) = nth x 1 := typed_int_eq (hk 1 (by decide))
  have e2 : TC.b ((nth x 2).bool) = nth x 2 := typed_bool_eq (hk 2 (by decide))
  show [TC.i ((nth x 0).int), TC.i ((nth x 1).int), TC.b ((nth x 2).bool)] = _
  rw [e0, e1, e2]
  exact (row_eta hl).symm
abbrev qu_3_σ := LL × LL × Int
abbrev qu_3_ω := (LL)
def qu_3_step (A X : LL) (i : Int) : Tr (qu_3_σ ⊕ qu_3_ω) := (.ite ((decide (i < (A.length : Int))) = true) (.ite ((0 : Int) ≤ i ∧ i < (A.length : Int)) (.ite ((0 : Int) ≤ i ∧ i < (X.length : Int)) (.ok (.inl (A, (X.set (i).toNat (splice (row X i) 0 [TC.i ((nth (row A i) 0).int), TC.i ((nth (row A i) 1).int), TC.b ((nth (row A i) 2).bool)])), (IntKind.wrap .i64 (i + (1 : Int))))))
    .no)
   .no)
  (.ok (.inr X)))
def qu_3_st : qu_3_σ → Tr (qu_3_σ ⊕ qu_3_ω) := fun x => (qu_3_step (x.1) (x.2.1) (x.2.2))
def qu_o3_1 (A X : LL) (i : Int) : Bool := is (Typed tab (.slice 61) (.l A) ∧ X = List.replicate A.length qu_z ∧ i = 0)
def qu_3_fin (A X : LL) (i : Int) : Told qu_3_ω := (.leaf (qu_o3_1 A X i) A)
def qu_3_sl (x : qu_3_σ) : List Slot := [⟨.val false [⟨.slice 61, .sh, TC.l (x.1)⟩], ⟨0, 0⟩⟩, ⟨.val false [⟨.slice 59, .own true, TC.l (x.2.1)⟩], ⟨0, 0⟩⟩, ⟨.val false [⟨.int .i64, .sh, TC.i (x.2.2)⟩], ⟨0, 0⟩⟩]
def qu_3_out : qu_3_ω → Ex × List Slot := (fun x => (.exit 0, [Slot.none, ⟨.val false [⟨.slice 59, .own true, TC.l x⟩], ⟨0, 0⟩⟩]))
def qu_lo3 : List Slot → Option (Told (Ex × List Slot)) := fun s => match s with
  | [⟨.val false [⟨.slice 61, .sh, TC.l A⟩], ⟨0, 0⟩⟩, ⟨.val false [⟨.slice 59, .own true, TC.l X⟩], ⟨0, 0⟩⟩, ⟨.val false [⟨.int .i64, .sh, TC.i i⟩], ⟨0, 0⟩⟩] => some (((qu_3_fin A X i)).map qu_3_out)
  | _ => .none
def qu_lo : LoopTeller := fun r s => bif Nat.beq r 3 then qu_lo3 s else .none
theorem qu_3_r (A X : LL) (i : Int) (fuel : Nat) : rounds (rnd tab FT D6 live 20 qu_lo 0 3) leave (fuel + 1) (qu_3_sl (A, X, i)) = ((qu_3_step A X i)).run (goOn (fun s => rounds (rnd tab FT D6 live 20 qu_lo 0 3) leave fuel (qu_3_sl s)) fun w => some (qu_3_out w)) := by kernel_rfl
theorem qu_3_h (A X : LL) (i : Int) (ow : qu_3_ω) : ((qu_3_fin A X i)).val = some ow → ∃ fuel, loopN qu_3_st fuel (A, X, i) = some ow := by
  intro h
  refine auto_leaf (R := A) (fun ho => ?_) h
  obtain ⟨ht, rfl, rfl⟩ := is_iff.1 ho
  have hlen : A.length ≤ 140737488351232 := by have := typed_room ht; simp only [show (tab 61).bytes = 24 from rfl] at this; omega
  have key := loopN_copy (step := qu_3_st) A (List.replicate A.length qu_z) qu_g (fun Y i => (A, Y, (i : Int))) (A.map qu_g) (by simp) (fun x hx i _ => by rw [(List.mem_replicate.1 hx).2]; exact Nat.le_refl 3) (fun Y i hi hl => ?_) ?_ A.length 0 (by omega)
  · rw [copied_zero, qu_id ht] at key
    exact ⟨_, key⟩
  · skip
    show (qu_3_step A Y (i : Int)).val = _
    unfold qu_3_step
    refine Tr.t (by simp; omega) ?_
    refine Tr.t (by first | omega | (constructor <;> omega)) ?_
    refine Tr.t (by first | omega | (constructor <;> omega)) ?_
    rw [Tr.val_ok, wrap64 (i := (i : Int) + 1) (by omega) (by omega)]; rfl
  · show (qu_3_step A (A.map qu_g) (A.length : Int)).val = _
    refine Tr.n (by simp) ?_
    rfl
theorem qu_is3 : LoopIs tab FT D6 live 20 qu_lo 0 3 := by
  refine loop_told (sl := qu_3_sl) (step := qu_3_st) (out := qu_3_out) (lor := qu_lo3) (fin := fun x => (qu_3_fin (x.1) (x.2.1) (x.2.2))) (fun _ => rfl) ?_ (fun x n => qu_3_r x.1 x.2.1 x.2.2 n) (fun x ow => qu_3_h x.1 x.2.1 x.2.2 ow)
  intro s t h
  unfold qu_lo3 at h
  split at h
  · cases h; exact ⟨(_, _, _), rfl, rfl⟩
  · cases h
def qu_t (A : LL) : Tr (LL) := (.ite (0 ≤ (A.length : Int) ∧ (A.length : Int) ≤ (A.length : Int) ∧ (A.length : Int) * 24 ≤ 140737488355328 ∧ (A.length : Int) ≤ 140737488355328) (.ite ((qu_o3_1 A (List.replicate ((A.length : Int)).toNat [TC.i (0 : Int), TC.i (0 : Int), TC.b false]) (0 : Int)) = true) (.ok A)
   .no)
  .no)
def qu_mk (p : LL) : Res := [(false, [⟨.slice 59, .own true, TC.l p⟩])]
def qu_c (A : LL) : Bool := is (Typed tab (.slice 61) (.l A))
def qu_v (A : LL) : LL := A
theorem qu_l (A : LL) : (qu_c A) = true → (qu_t A).val = some (qu_v A) := by
  intro h
  have ht := is_iff.1 h
  have hb := typed_room ht
  simp only [show (tab 61).bytes = 24 from rfl] at hb
  unfold qu_t
  refine Tr.t (by omega) ?_
  refine Tr.t (is_true ⟨ht, by rfl, rfl⟩) ?_
  rfl
def qu_S : List Arg → Option (Bool × Res) := fun xs => match xs with
  | [(false, [(.slice 61, TC.l A)])] => some ((qu_c A), qu_mk (qu_v A))
  | _ => .none
theorem qu_e (A : LL) : runF tab FT D6 live 20 qu_lo [(false, [(.slice 61, TC.l A)])] = (qu_t A).run fun p => some (qu_mk p) := by kernel_rfl
theorem qu_s : ∀ xs r, qu_S xs = some (true, r) → runF tab FT D6 live 20 qu_lo xs = some r := by
  intro xs r h
  unfold qu_S at h
  split at h
  · obtain ⟨h1, rfl⟩ := sp h
    exact fun_told (qu_e _) (qu_l _) h1
  · cases h
def D7 : Dt := also D6 20 qu_S
theorem d7 : DOk Go.Proofs.Try.prog tab D7 := d6.also mixed_ok tab_ok names_ok (fnLoops_one (by kernel_rfl) qu_is3) qu_s
theorem qu_ty {A : LL} (h : Typed tab (.slice 61) (.l A)) : Typed tab (.slice 59) (.l A) := typed_iso iso_ok h (by decide)
def qc_t (x0 x1 : Int) (x2 : BS) (x3 x4 : LL) : Tr (Int × Int × BS × LL × LL) := (.ite ((qy_c x3) = true) (.ite ((qu_c x4) = true) (.ok (x0, x1, x2, (qy_v x3), (qu_v x4)))
   .no)
  .no)
def qc_mk (p : Int × Int × BS × LL × LL) : Res := [(true, [⟨.int .i64, .sh, TC.i (p.1)⟩, ⟨.int .i64, .sh, TC.i (p.2.1)⟩, ⟨.str, .sh, TC.s (p.2.2.1)⟩, ⟨.slice 31, .own true, TC.l (p.2.2.2.1)⟩, ⟨.slice 59, .own true, TC.l (p.2.2.2.2)⟩])]
def qc_c (x0 x1 : Int) (x2 : BS) (x3 x4 : LL) : Bool := ((qy_c x3) && ((qu_c x4) && true))
def qc_v (x0 x1 : Int) (x2 : BS) (x3 x4 : LL) : Int × Int × BS × LL × LL := (x0, x1, x2, (qy_v x3), (qu_v x4))
theorem qc_l (x0 x1 : Int) (x2 : BS) (x3 x4 : LL) : (qc_c x0 x1 x2 x3 x4) = true → (qc_t x0 x1 x2 x3 x4).val = some (qc_v x0 x1 x2 x3 x4) := by
  unfold qc_t qc_v qc_c
  exact fun h => (Tr.gb h fun h => (Tr.gb h fun h => rfl))
theorem qc_e (x0 x1 : Int) (x2 : BS) (x3 x4 : LL) : runF tab FT D7 live 7 noLoops [(true, [(.int .i64, TC.i x0), (.int .i64, TC.i x1), (.str, TC.s x2), (.slice 25, TC.l x3), (.slice 61, TC.l x4)])] = (qc_t x0 x1 x2 x3 x4).run fun p => some (qc_mk p) := by kernel_rfl
theorem qc_nx (x0 x1 : Int) (x2 : BS) (x3 x4 : LL) : is (rowsDep x3 < qc_O.n + 1 ∧ Typed tab (.slice 25) (.l x3) ∧ Typed tab (.slice 61) (.l x4)) = true → (qc_c x0 x1 x2 x3 x4) = true ∧ (qc_v x0 x1 x2 x3 x4) = (x0, x1, x2, x3, x4) := by
  intro h
  obtain ⟨hM, t3, t4⟩ := is_iff.1 h
  refine ⟨?_, rfl⟩
  unfold qc_c
  refine andT (by exact is_true ⟨t3, fun x hx => is_true ⟨by have a := dep_cell hx 3; omega, typed_list ((typed_elem t3 hx).2 3 (by decide)), typed_list ((typed_elem t3 hx).2 4 (by decide))⟩⟩) ?_
  refine andT (by exact is_true t4) ?_
  rfl
theorem qc_nxr (x0 x1 : Int) (x2 : BS) (x3 x4 : LL) : qc_rc (i_laws_toExp := ⟨qc_O.n + 1⟩) x0 x1 x2 x3 x4 = true → (qc_c x0 x1 x2 x3 x4) = true ∧ (qc_v x0 x1 x2 x3 x4) = (qc_rv x0 x1 x2 x3 x4) := fun h => qc_nx x0 x1 x2 x3 x4 h
theorem qc_rs : ∀ xs r, qc_rS (i_laws_toExp := ⟨qc_O.n + 1⟩) xs = some (true, r) → runF tab FT D7 live 7 noLoops xs = some r := by
  intro xs r h
  unfold qc_rS at h
  split at h
  · obtain ⟨h1, rfl⟩ := sp h
    have hx := qc_nxr _ _ _ _ _ h1
    have ht := fun_told (qc_e ..) (qc_l _ _ _ _ _) hx.1
    rw [hx.2] at ht
    exact ht
  · cases h
theorem qc_step : qc_G (i_laws_toExp := ⟨qc_O.n + 1⟩) := by
  have h := DOk.also2 (S := qc_rS (i_laws_toExp := ⟨qc_O.n + 1⟩)) mixed_ok tab_ok names_ok d3 d7 noLoops_ok qc_rs
  refine qc_G.mk (i_laws_toExp := ⟨qc_O.n + 1⟩) ?_
  exact h
def qbc_t (a0 a1 a2 : Int) : Tr (Bool) := (.ite ((decide (a0 ≥ a1)) = true) (.ok (decide (a0 ≤ a2)))
  (.ok false))
def qbc_mk (p : Bool) : Res := [(false, [⟨.bool, .sh, TC.b p⟩])]
def qbc_c (a0 a1 a2 : Int) : Bool := true
def qbc_v (a0 a1 a2 : Int) : Bool := (bif (decide (a0 ≥ a1)) then (decide (a0 ≤ a2)) else false)
theorem qbc_l (a0 a1 a2 : Int) : (qbc_c a0 a1 a2) = true → (qbc_t a0 a1 a2).val = some (qbc_v a0 a1 a2) := by
  intro h
  skip
  unfold qbc_t qbc_v
  exact (Tr.s rfl rfl)
def qbc_S : List Arg → Option (Bool × Res) := fun xs => match xs with
  | [(false, [(.int .i64, TC.i a0)]), (false, [(.int .i64, TC.i a1)]), (false, [(.int .i64, TC.i a2)])] => some (true, qbc_mk (qbc_v a0 a1 a2))
  | _ => .none
theorem qbc_e (a0 a1 a2 : Int) : runF tab FT D7 live 38 noLoops [(false, [(.int .i64, TC.i a0)]), (false, [(.int .i64, TC.i a1)]), (false, [(.int .i64, TC.i a2)])] = (qbc_t a0 a1 a2).run fun p => some (qbc_mk p) := by kernel_rfl
theorem qbc_s : ∀ xs r, qbc_S xs = some (true, r) → runF tab FT D7 live 38 noLoops xs = some r := by
  intro xs r h
  unfold qbc_S at h
  split at h
  · obtain ⟨h1, rfl⟩ := sp h
    exact fun_told (qbc_e ..) (qbc_l _ _ _) rfl
  · cases h
def D8 : Dt := also D7 38 qbc_S
theorem d8 : DOk Go.Proofs.Try.prog tab D8 := d7.also mixed_ok tab_ok names_ok noLoops_ok qbc_s
def qbi_t (a0 : Int) : Tr (Bool) := (.ite ((decide (a0 ≥ (65 : Int))) = true) (.ite ((decide (a0 ≤ (90 : Int))) = true) (.ok true)
   (.ite ((decide (a0 ≥ (97 : Int))) = true) (.ok (decide (a0 ≤ (122 : Int))))
    (.ok false)))
  (.ite ((decide (a0 ≥ (97 : Int))) = true) (.ok (decide (a0 ≤ (122 : Int))))
   (.ok false)))
def qbi_mk (p : Bool) : Res := [(false, [⟨.bool, .sh, TC.b p⟩])]
def qbi_c (a0 : Int) : Bool := true
def qbi_v (a0 : Int) : Bool := (bif (decide (a0 ≥ (65 : Int))) then (bif (decide (a0 ≤ (90 : Int))) then true else (bif (decide (a0 ≥ (97 : Int))) then (decide (a0 ≤ (122 : Int))) else false)) else (bif (decide (a0 ≥ (97 : Int))) then (decide (a0 ≤ (122 : Int))) else false))
theorem qbi_l (a0 : Int) : (qbi_c a0) = true → (qbi_t a0).val = some (qbi_v a0) := by
  intro h
  skip
  unfold qbi_t qbi_v
  exact (Tr.s (Tr.s rfl (Tr.s rfl rfl)) (Tr.s rfl rfl))
def qbi_S : List Arg → Option (Bool × Res) := fun xs => match xs with
  | [(false, [(.int .u8, TC.i a0)])] => some (true, qbi_mk (qbi_v a0))
  | _ => .none
theorem qbi_e (a0 : Int) : runF tab FT D8 live 61 noLoops [(false, [(.int .u8, TC.i a0)])] = (qbi_t a0).run fun p => some (qbi_mk p) := by kernel_rfl
theorem qbi_s : ∀ xs r, qbi_S xs = some (true, r) → runF tab FT D8 live 61 noLoops xs = some r := by
  intro xs r h
  unfold qbi_S at h
  split at h
  · obtain ⟨h1, rfl⟩ := sp h
    exact fun_told (qbi_e _) (qbi_l _) rfl
  · cases h
def D9 : Dt := also D8 61 qbi_S
theorem d9 : DOk Go.Proofs.Try.prog tab D9 := d8.also mixed_ok tab_ok names_ok noLoops_ok qbi_s
def qm_f4 (s : BS) (i : Int) : (Unit) ⊕ ((Unit) ⊕ (Unit)) := (bif (!(qbi_v ((s.getD (i).toNat 0).toNat : Int))) then (bif (decide (((s.getD (i).toNat 0).toNat : Int) ≥ (48 : Int))) then (bif (!(decide (((s.getD (i).toNat 0).toNat : Int) ≤ (57 : Int)))) then (bif (!(((s.getD (i).toNat 0).toNat : Int) == (95 : Int))) then (.inr (.inl ())) else (.inl ())) else (.inl ())) else (bif (!(((s.getD (i).toNat 0).toNat : Int) == (95 : Int))) then (.inr (.inl ())) else (.inl ()))) else (.inl ()))
def qm_e4 (s : BS) : (Unit) ⊕ (Unit) := .inr ()
def qm_R4 (s : BS) (i : Int) : (Unit) ⊕ (Unit) := iter (fun i a => (qm_f4 s ((i + 1 : Nat) : Int))) (fun a => (qm_e4 s)) (s.length - 1) 0 ()
abbrev qm_4_σ := BS × Int
abbrev qm_4_ω := (Unit) ⊕ (Unit)
def qm_4_step (s : BS) (i : Int) : Tr (qm_4_σ ⊕ qm_4_ω) := (.ite ((decide (i < (s.length : Int))) = true) (.ite ((0 : Int) ≤ i ∧ i < (s.length : Int)) (.ite ((!(qbi_v ((s.getD (i).toNat 0).toNat : Int))) = true) (.ite ((0 : Int) ≤ i ∧ i < (s.length : Int)) (.ite ((decide (((s.getD (i).toNat 0).toNat : Int) ≥ (48 : Int))) = true) (.ite ((0 : Int) ≤ i ∧ i < (s.length : Int)) (.ite ((!(decide (((s.getD (i).toNat 0).toNat : Int) ≤ (57 : Int)))) = true) (.ite ((0 : Int) ≤ i ∧ i < (s.length : Int)) (.ite ((!(((s.getD (i).toNat 0).toNat : Int) == (95 : Int))) = true) (.ok (.inr (.inl ())))
          (.ok (.inl (s, (IntKind.wrap .i64 (i + (1 : Int)))))))
         .no)
        (.ok (.inl (s, (IntKind.wrap .i64 (i + (1 : Int)))))))
       .no)
      (.ite ((0 : Int) ≤ i ∧ i < (s.length : Int)) (.ite ((!(((s.getD (i).toNat 0).toNat : Int) == (95 : Int))) = true) (.ok (.inr (.inl ())))
        (.ok (.inl (s, (IntKind.wrap .i64 (i + (1 : Int)))))))
       .no))
     .no)
    (.ok (.inl (s, (IntKind.wrap .i64 (i + (1 : Int)))))))
   .no)
  (.ok (.inr (.inr ()))))
def qm_4_st : qm_4_σ → Tr (qm_4_σ ⊕ qm_4_ω) := fun x => (qm_4_step (x.1) (x.2))
def qm_k4_1 (s : BS) (i : Int) : Bool := sumIs (qm_R4 s i)
def qm_o4_2 (s : BS) (i : Int) : Bool := is (i = 1 ∧ s.length ≤ 140737488355328)
def qm_o4_3 (s : BS) (i : Int) : Bool := is (i = 1 ∧ s.length ≤ 140737488355328)
def qm_4_fin (s : BS) (i : Int) : Told qm_4_ω := (.br (qm_k4_1 s i) (.leaf (qm_o4_2 s i) (.inl ())) (.leaf (qm_o4_3 s i) (.inr ())))
def qm_4_sl (x : qm_4_σ) : List Slot := [⟨.val false [⟨.str, .sh, TC.s (x.1)⟩], ⟨0, 0⟩⟩, ⟨.val false [⟨.int .i64, .sh, TC.i (x.2)⟩], ⟨0, 0⟩⟩]
def qm_4_out : qm_4_ω → Ex × List Slot := (Sum.elim (fun x => (.ret, [⟨.val false [⟨.bool, .sh, TC.b false⟩], ⟨0, 0⟩⟩])) (fun x => (.exit 0, [Slot.none])))
def qm_lo4 : List Slot → Option (Told (Ex × List Slot)) := fun s => match s with
  | [⟨.val false [⟨.str, .sh, TC.s s⟩], ⟨0, 0⟩⟩, ⟨.val false [⟨.int .i64, .sh, TC.i i⟩], ⟨0, 0⟩⟩] => some (((qm_4_fin s i)).map qm_4_out)
  | _ => .none
def qm_lo : LoopTeller := fun r s => bif Nat.beq r 4 then qm_lo4 s else .none
theorem qm_4_r (s : BS) (i : Int) (fuel : Nat) : rounds (rnd tab FT D9 live 39 qm_lo 0 4) leave (fuel + 1) (qm_4_sl (s, i)) = ((qm_4_step s i)).run (goOn (fun s => rounds (rnd tab FT D9 live 39 qm_lo 0 4) leave fuel (qm_4_sl s)) fun w => some (qm_4_out w)) := by kernel_rfl
theorem qm_f4_eq (s : BS) (i : Int) : qm_f4 s i = bif (letterB ((s.getD (i).toNat 0).toNat : Int) || ((decide (((s.getD (i).toNat 0).toNat : Int) ≥ 48) && decide (((s.getD (i).toNat 0).toNat : Int) ≤ 57)) || ((s.getD (i).toNat 0).toNat : Int) == 95)) then Sum.inl () else Sum.inr (Sum.inl ()) := by
  unfold qm_f4 letterB
  simp only [qbi_v, dlt, dgt]
  generalize ((s.getD i.toNat 0).toNat : Int) = c
  generalize decide (c ≥ 65) = p0, decide (c ≤ 90) = p1, decide (c ≥ 97) = p2, decide (c ≤ 122) = p3, decide (c ≥ 48) = p4, decide (c ≤ 57) = p5, (c == 95) = p6
  cases p0 <;> cases p1 <;> cases p2 <;> cases p3 <;> cases p4 <;> cases p5 <;> cases p6 <;> rfl
theorem qm_R4_eq (s : BS)  : qm_R4 s 1 = bif allI (fun i : Nat => (letterB ((s.getD (((i + 1 : Nat) : Int)).toNat 0).toNat : Int) || ((decide (((s.getD (((i + 1 : Nat) : Int)).toNat 0).toNat : Int) ≥ 48) && decide (((s.getD (((i + 1 : Nat) : Int)).toNat 0).toNat : Int) ≤ 57)) || ((s.getD (((i + 1 : Nat) : Int)).toNat 0).toNat : Int) == 95))) (s.length - 1) then Sum.inr () else (Sum.inl ()) := by
  unfold qm_R4
  exact (iter_all (P := (fun i : Nat => (letterB ((s.getD (((i + 1 : Nat) : Int)).toNat 0).toNat : Int) || ((decide (((s.getD (((i + 1 : Nat) : Int)).toNat 0).toNat : Int) ≥ 48) && decide (((s.getD (((i + 1 : Nat) : Int)).toNat 0).toNat : Int) ≤ 57)) || ((s.getD (((i + 1 : Nat) : Int)).toNat 0).toNat : Int) == 95)))) (g := fun _ a => a) (w := Sum.inl ()) fun j a _ => qm_f4_eq s _)
theorem qm_4_h (s : BS) (i : Int) (ow : qm_4_ω) : ((qm_4_fin s i)).val = some ow → ∃ fuel, loopN qm_4_st fuel (s, i) = some ow := by
  refine auto_const (R := (qm_R4 s i)) rfl (iter_onR (f := (fun i a => (qm_f4 s ((i + 1 : Nat) : Int)))) (fin := (fun a => (qm_e4 s))) (Q := endsAs () ()) (fun i a => by unfold qm_f4; exact (onR_bif (onR_bif (onR_bif (onR_bif rfl trivial) trivial) (onR_bif rfl trivial)) trivial)) (fun _ => rfl) _ _ _) ?_
  intro ho
  have ho : is (i = 1 ∧ s.length ≤ 140737488355328) = true := ho.elim id id
  obtain ⟨rfl, hs⟩ := is_iff.1 ho
  skip
  refine ⟨(s.length - 1) + 1, ?_⟩
  refine iter_loop (step := qm_4_st) (s.length - 1) (fun i a => (qm_f4 s ((i + 1 : Nat) : Int))) (fun a => (qm_e4 s)) (fun i a => (s, ((i + 1 : Nat) : Int))) (fun _ _ => True) trivial (fun i a hi hI => ⟨?_, fun _ _ => trivial⟩) (fun a hI => ?_)
  · show (qm_4_step s ((i + 1 : Nat) : Int)).val = _
    unfold qm_4_step qm_f4
    skip
    refine Tr.t (by simp; omega) ?_
    exact (Tr.t (by first | omega | (constructor <;> omega)) (Tr.bf (Tr.t (by first | omega | (constructor <;> omega)) (Tr.bf (Tr.t (by first | omega | (constructor <;> omega)) (Tr.bf (Tr.t (by first | omega | (constructor <;> omega)) (Tr.bf rfl (by rw [Tr.val_ok, wrap64 (i := ((i + 1 : Nat) : Int) + 1) (by omega) (by omega)]; rfl))) (by rw [Tr.val_ok, wrap64 (i := ((i + 1 : Nat) : Int) + 1) (by omega) (by omega)]; rfl))) (Tr.t (by first | omega | (constructor <;> omega)) (Tr.bf rfl (by rw [Tr.val_ok, wrap64 (i := ((i + 1 : Nat) : Int) + 1) (by omega) (by omega)]; rfl))))) (by rw [Tr.val_ok, wrap64 (i := ((i + 1 : Nat) : Int) + 1) (by omega) (by omega)]; rfl)))
  · show (qm_4_step s ((s.length - 1 + 1 : Nat) : Int)).val = _
    refine Tr.n (by first | (simp; done) | (simp; omega) | omega) ?_
    rfl
theorem qm_is4 : LoopIs tab FT D9 live 39 qm_lo 0 4 := by
  refine loop_told (sl := qm_4_sl) (step := qm_4_st) (out := qm_4_out) (lor := qm_lo4) (fin := fun x => (qm_4_fin (x.1) (x.2))) (fun _ => rfl) ?_ (fun x n => qm_4_r x.1 x.2 n) (fun x ow => qm_4_h x.1 x.2 ow)
  intro s t h
  unfold qm_lo4 at h
  split at h
  · cases h; exact ⟨(_, _), rfl, rfl⟩
  · cases h
def qm_t (s : BS) : Tr (Bool) := (.ite (((s.length : Int) == (0 : Int)) = true) (.ok false)
  (.ite ((decide ((s.length : Int) > (12 : Int))) = true) (.ok false)
   (.ite ((0 : Int) ≤ (0 : Int) ∧ (0 : Int) < (s.length : Int)) (.ite ((!(qbi_v ((s.getD ((0 : Int)).toNat 0).toNat : Int))) = true) (.ok false)
     (.ite ((qm_k4_1 s (1 : Int)) = true) (.ite ((qm_o4_2 s (1 : Int)) = true) (.ok false)
       .no)
      (.ite ((qm_o4_3 s (1 : Int)) = true) (.ok true)
       .no)))
    .no)))
def qm_mk (p : Bool) : Res := [(false, [⟨.bool, .sh, TC.b p⟩])]
def qm_c (s : BS) : Bool := (bif ((s.length : Int) == (0 : Int)) then true else (bif (decide ((s.length : Int) > (12 : Int))) then true else (is ((0 : Int) ≤ (0 : Int) ∧ (0 : Int) < (s.length : Int)) && (bif (!(qbi_v ((s.getD ((0 : Int)).toNat 0).toNat : Int))) then true else (bif (qm_k4_1 s (1 : Int)) then ((qm_o4_2 s (1 : Int)) && true) else ((qm_o4_3 s (1 : Int)) && true))))))
def qm_v (s : BS) : Bool := (bif ((s.length : Int) == (0 : Int)) then false else (bif (decide ((s.length : Int) > (12 : Int))) then false else (bif (!(qbi_v ((s.getD ((0 : Int)).toNat 0).toNat : Int))) then false else (bif (qm_k4_1 s (1 : Int)) then false else true))))
theorem qm_l (s : BS) : (qm_c s) = true → (qm_t s).val = some (qm_v s) := by
  unfold qm_t qm_v qm_c
  exact fun h => (Tr.ss h (fun h => rfl) (fun h => (Tr.ss h (fun h => rfl) (fun h => (Tr.gs h fun h => (Tr.ss h (fun h => rfl) (fun h => (Tr.ss h (fun h => (Tr.gb h fun h => rfl)) (fun h => (Tr.gb h fun h => rfl))))))))))
def qm_S : List Arg → Option (Bool × Res) := fun xs => match xs with
  | [(false, [(.str, TC.s s)])] => some ((qm_c s), qm_mk (qm_v s))
  | _ => .none
theorem qm_e (s : BS) : runF tab FT D9 live 39 qm_lo [(false, [(.str, TC.s s)])] = (qm_t s).run fun p => some (qm_mk p) := by kernel_rfl
theorem qm_s : ∀ xs r, qm_S xs = some (true, r) → runF tab FT D9 live 39 qm_lo xs = some r := by
  intro xs r h
  unfold qm_S at h
  split at h
  · obtain ⟨h1, rfl⟩ := sp h
    exact fun_told (qm_e _) (qm_l _) h1
  · cases h
def D10 : Dt := also D9 39 qm_S
theorem d10 : DOk Go.Proofs.Try.prog tab D10 := d9.also mixed_ok tab_ok names_ok (fnLoops_one (by kernel_rfl) qm_is4) qm_s
theorem qm_cc {s : BS} (hs : Typed tab (.str) (.s s)) : (qm_c s) = true := by
  unfold qm_c
  refine bifT (fun b1 => ?_) (fun b1 => ?_)
  · skip
    rfl
  · skip
    refine bifT (fun b2 => ?_) (fun b2 => ?_)
    · skip
      rfl
    · skip
      refine andT (is_true (by exact ⟨by omega, by have h2 := ne_of_beq_false b1; omega⟩)) ?_
      refine bifT (fun b3 => ?_) (fun b3 => ?_)
      · skip
        rfl
      · skip
        refine bifT (fun b4 => ?_) (fun b4 => ?_)
        · skip
          refine andT (by exact is_true ⟨rfl, by have := typed_str_len hs; omega⟩) ?_
          rfl
        · skip
          refine andT (by exact is_true ⟨rfl, by have := typed_str_len hs; omega⟩) ?_
          rfl
theorem qm_vv (s : BS) : qm_v s = nameOk s := by
  unfold qm_v qm_k4_1
  rw [qm_R4_eq]
  have e3 : qbi_v ((s.getD ((0 : Int)).toNat 0).toNat : Int) = nameB ((0 : Nat) : Int) ((s.getD (((0 : Nat) : Int)).toNat 0).toNat : Int) := by
    unfold qbi_v nameB letterB
    generalize ((s.getD ((0 : Int)).toNat 0).toNat : Int) = c
    generalize decide (c ≥ 65) = p1, decide (c ≤ 90) = p2, decide (c ≥ 97) = p3, decide (c ≤ 122) = p4
    cases p1 <;> cases p2 <;> cases p3 <;> cases p4 <;> rfl
  rw [e3]
  cases h0 : s.length with
  | zero =>
    have : s = [] := List.eq_nil_of_length_eq_zero h0
    subst this
    rfl
  | succ n =>
    have e2 : allI (fun i : Nat => nameB ((i + 1 : Nat) : Int) ((s.getD (((i + 1 : Nat) : Int)).toNat 0).toNat : Int)) n = allI (fun i : Nat => (letterB ((s.getD (((i + 1 : Nat) : Int)).toNat 0).toNat : Int) || ((decide (((s.getD (((i + 1 : Nat) : Int)).toNat 0).toNat : Int) ≥ 48) && decide (((s.getD (((i + 1 : Nat) : Int)).toNat 0).toNat : Int) ≤ 57)) || ((s.getD (((i + 1 : Nat) : Int)).toNat 0).toNat : Int) == 95))) n := allI_congr fun i _ => by
      unfold nameB
      rw [show (((i + 1 : Nat) : Int) == 0) = false from by simp; omega]
      rfl
    unfold nameOk
    rw [h0, allI_head, e2, Nat.add_sub_cancel]
    rw [show (((n + 1 : Nat) : Int) == 0) = false from by simp; omega, show decide (((n + 1 : Nat) : Int) ≥ 1) = true from by simp; omega, dgt]
    generalize nameB ((0 : Nat) : Int) ((s.getD (((0 : Nat) : Int)).toNat 0).toNat : Int) = q1
    generalize allI (fun i : Nat => (letterB ((s.getD (((i + 1 : Nat) : Int)).toNat 0).toNat : Int) || ((decide (((s.getD (((i + 1 : Nat) : Int)).toNat 0).toNat : Int) ≥ 48) && decide (((s.getD (((i + 1 : Nat) : Int)).toNat 0).toNat : Int) ≤ 57)) || ((s.getD (((i + 1 : Nat) : Int)).toNat 0).toNat : Int) == 95))) n = q2
    generalize decide (((n + 1 : Nat) : Int) ≤ 12) = q3
    cases q1 <;> cases q2 <;> cases q3 <;> rfl
def qw_t (a0 : BS) : Tr (Int × Int) := (.ite ((a0 == [115, 117, 109]) = true) (.ok ((1 : Int), (2 : Int)))
  (.ite ((a0 == [109, 105, 110]) = true) (.ok ((1 : Int), (2 : Int)))
   (.ite ((a0 == [109, 97, 120]) = true) (.ok ((1 : Int), (2 : Int)))
    (.ite ((a0 == [99, 111, 117, 110, 116]) = true) (.ok ((1 : Int), (2 : Int)))
     (.ite ((a0 == [97, 98, 115]) = true) (.ok ((1 : Int), (1 : Int)))
      (.ite ((a0 == [116, 114, 97, 110, 115, 112, 111, 115, 101]) = true) (.ok ((1 : Int), (1 : Int)))
       (.ite ((a0 == [105, 111, 116, 97]) = true) (.ok ((1 : Int), (1 : Int)))
        (.ite ((a0 == [109, 97, 116, 109, 117, 108]) = true) (.ok ((2 : Int), (2 : Int)))
         (.ite ((a0 == [119, 104, 101, 114, 101]) = true) (.ok ((3 : Int), (3 : Int)))
          (.ok ((1 : Int), (0 : Int))))))))))))
def qw_mk (p : Int × Int) : Res := [(false, [⟨.int .i64, .sh, TC.i (p.1)⟩]), (false, [⟨.int .i64, .sh, TC.i (p.2)⟩])]
def qw_c (a0 : BS) : Bool := true
def qw_v (a0 : BS) : Int × Int := (bif (a0 == [115, 117, 109]) then ((1 : Int), (2 : Int)) else (bif (a0 == [109, 105, 110]) then ((1 : Int), (2 : Int)) else (bif (a0 == [109, 97, 120]) then ((1 : Int), (2 : Int)) else (bif (a0 == [99, 111, 117, 110, 116]) then ((1 : Int), (2 : Int)) else (bif (a0 == [97, 98, 115]) then ((1 : Int), (1 : Int)) else (bif (a0 == [116, 114, 97, 110, 115, 112, 111, 115, 101]) then ((1 : Int), (1 : Int)) else (bif (a0 == [105, 111, 116, 97]) then ((1 : Int), (1 : Int)) else (bif (a0 == [109, 97, 116, 109, 117, 108]) then ((2 : Int), (2 : Int)) else (bif (a0 == [119, 104, 101, 114, 101]) then ((3 : Int), (3 : Int)) else ((1 : Int), (0 : Int)))))))))))
theorem qw_l (a0 : BS) : (qw_c a0) = true → (qw_t a0).val = some (qw_v a0) := by
  intro h
  skip
  unfold qw_t qw_v
  exact (Tr.s rfl (Tr.s rfl (Tr.s rfl (Tr.s rfl (Tr.s rfl (Tr.s rfl (Tr.s rfl (Tr.s rfl (Tr.s rfl rfl)))))))))
def qw_S : List Arg → Option (Bool × Res) := fun xs => match xs with
  | [(false, [(.str, TC.s a0)])] => some (true, qw_mk (qw_v a0))
  | _ => .none
theorem qw_e (a0 : BS) : runF tab FT D10 live 40 noLoops [(false, [(.str, TC.s a0)])] = (qw_t a0).run fun p => some (qw_mk p) := by kernel_rfl
theorem qw_s : ∀ xs r, qw_S xs = some (true, r) → runF tab FT D10 live 40 noLoops xs = some r := by
  intro xs r h
  unfold qw_S at h
  split at h
  · obtain ⟨h1, rfl⟩ := sp h
    exact fun_told (qw_e _) (qw_l _) rfl
  · cases h
def D11 : Dt := also D10 40 qw_S
theorem d11 : DOk Go.Proofs.Try.prog tab D11 := d10.also mixed_ok tab_ok names_ok noLoops_ok qw_s
def qbp_t (a0 a1 : Int) (a2 : Bool) : Tr (Bool) := (.ite ((!(qbc_v a0 (0 : Int) (40 : Int))) = true) (.ok false)
  (.ite (a2 = true) (.ok (a1 == (0 : Int)))
   (.ite ((a1 == (-1 : Int)) = true) (.ok true)
    (.ok (qbc_v a1 a0 (40 : Int))))))
def qbp_mk (p : Bool) : Res := [(false, [⟨.bool, .sh, TC.b p⟩])]
def qbp_c (a0 a1 : Int) (a2 : Bool) : Bool := true
def qbp_v (a0 a1 : Int) (a2 : Bool) : Bool := (bif (!(qbc_v a0 (0 : Int) (40 : Int))) then false else (bif a2 then (a1 == (0 : Int)) else (bif (a1 == (-1 : Int)) then true else (qbc_v a1 a0 (40 : Int)))))
theorem qbp_l (a0 a1 : Int) (a2 : Bool) : (qbp_c a0 a1 a2) = true → (qbp_t a0 a1 a2).val = some (qbp_v a0 a1 a2) := by
  intro h
  skip
  unfold qbp_t qbp_v
  exact (Tr.s rfl (Tr.s rfl (Tr.s rfl rfl)))
def qbp_S : List Arg → Option (Bool × Res) := fun xs => match xs with
  | [(true, [(.int .i64, TC.i a0), (.int .i64, TC.i a1), (.bool, TC.b a2)])] => some (true, qbp_mk (qbp_v a0 a1 a2))
  | _ => .none
theorem qbp_e (a0 a1 : Int) (a2 : Bool) : runF tab FT D11 live 41 noLoops [(true, [(.int .i64, TC.i a0), (.int .i64, TC.i a1), (.bool, TC.b a2)])] = (qbp_t a0 a1 a2).run fun p => some (qbp_mk p) := by kernel_rfl
theorem qbp_s : ∀ xs r, qbp_S xs = some (true, r) → runF tab FT D11 live 41 noLoops xs = some r := by
  intro xs r h
  unfold qbp_S at h
  split at h
  · obtain ⟨h1, rfl⟩ := sp h
    exact fun_told (qbp_e ..) (qbp_l _ _ _) rfl
  · cases h
def D12 : Dt := also D11 41 qbp_S
theorem d12 : DOk Go.Proofs.Try.prog tab D12 := d11.also mixed_ok tab_ok names_ok noLoops_ok qbp_s
def qbh_t (a0 : Int) : Tr (Int) := (.ite ((a0 == (4 : Int)) = true) (.ok (1 : Int))
  (.ite ((a0 == (5 : Int)) = true) (.ok (1 : Int))
   (.ite ((qbc_v a0 (6 : Int) (16 : Int)) = true) (.ok (2 : Int))
    (.ok (0 : Int)))))
def qbh_mk (p : Int) : Res := [(false, [⟨.int .i64, .sh, TC.i p⟩])]
def qbh_c (a0 : Int) : Bool := true
def qbh_v (a0 : Int) : Int := (bif (a0 == (4 : Int)) then (1 : Int) else (bif (a0 == (5 : Int)) then (1 : Int) else (bif (qbc_v a0 (6 : Int) (16 : Int)) then (2 : Int) else (0 : Int))))
theorem qbh_l (a0 : Int) : (qbh_c a0) = true → (qbh_t a0).val = some (qbh_v a0) := by
  intro h
  skip
  unfold qbh_t qbh_v
  exact (Tr.s rfl (Tr.s rfl (Tr.s rfl rfl)))
def qbh_S : List Arg → Option (Bool × Res) := fun xs => match xs with
  | [(false, [(.int .i64, TC.i a0)])] => some (true, qbh_mk (qbh_v a0))
  | _ => .none
theorem qbh_e (a0 : Int) : runF tab FT D12 live 42 noLoops [(false, [(.int .i64, TC.i a0)])] = (qbh_t a0).run fun p => some (qbh_mk p) := by kernel_rfl
theorem qbh_s : ∀ xs r, qbh_S xs = some (true, r) → runF tab FT D12 live 42 noLoops xs = some r := by
  intro xs r h
  unfold qbh_S at h
  split at h
  · obtain ⟨h1, rfl⟩ := sp h
    exact fun_told (qbh_e _) (qbh_l _) rfl
  · cases h
def D13 : Dt := also D12 42 qbh_S
theorem d13 : DOk Go.Proofs.Try.prog tab D13 := d12.also mixed_ok tab_ok names_ok noLoops_ok qbh_s
def qj_f15 (u : List TC) (i : Int) : (Unit) ⊕ ((List TC) ⊕ (List TC)) := (bif (!(qbp_v ((nth (row ((nth u 4).list) i) 0).int) ((nth (row ((nth u 4).list) i) 1).int) ((nth (row ((nth u 4).list) i) 2).bool))) then (.inr (.inl u)) else (.inl ()))
def qj_e15 (u : List TC) : (List TC) ⊕ (List TC) := .inr u
def qj_R15 (u : List TC) (i : Int) : (List TC) ⊕ (List TC) := iter (fun i a => (qj_f15 u (i : Int))) (fun a => (qj_e15 u)) ((nth u 4).list.length) 0 ()
abbrev qj_15_σ := List TC × Int
abbrev qj_15_ω := (List TC) ⊕ (List TC)
def qj_15_step (u : List TC) (i : Int) : Tr (qj_15_σ ⊕ qj_15_ω) := (.ite ((decide (i < (((nth u 4).list).length : Int))) = true) (.ite ((0 : Int) ≤ i ∧ i < (((nth u 4).list).length : Int)) (.ite ((!(qbp_v ((nth (row ((nth u 4).list) i) 0).int) ((nth (row ((nth u 4).list) i) 1).int) ((nth (row ((nth u 4).list) i) 2).bool))) = true) (.ok (.inr (.inl u)))
    (.ok (.inl (u, (IntKind.wrap .i64 (i + (1 : Int)))))))
   .no)
  (.ok (.inr (.inr u))))
def qj_15_st : qj_15_σ → Tr (qj_15_σ ⊕ qj_15_ω) := fun x => (qj_15_step (x.1) (x.2))
def qj_k15_1 (u : List TC) (i : Int) : Bool := sumIs (qj_R15 u i)
def qj_o15_2 (u : List TC) (i : Int) : Bool := is (i = 0 ∧ (nth u 4).list.length ≤ 140737488355328)
def qj_o15_3 (u : List TC) (i : Int) : Bool := is (i = 0 ∧ (nth u 4).list.length ≤ 140737488355328)
def qj_15_fin (u : List TC) (i : Int) : Told qj_15_ω := (.br (qj_k15_1 u i) (.leaf (qj_o15_2 u i) (.inl u)) (.leaf (qj_o15_3 u i) (.inr u)))
def qj_15_sl (x : qj_15_σ) : List Slot := [⟨.val false [⟨.ptr 31, .sh, TC.p (x.1)⟩], ⟨0, 0⟩⟩, ⟨.val false [⟨.int .i64, .sh, TC.i (x.2)⟩], ⟨0, 0⟩⟩]
def qj_15_out : qj_15_ω → Ex × List Slot := (Sum.elim (fun x => (.ret, [⟨.val false [⟨.ptr 31, .sh, TC.p x⟩], ⟨0, 0⟩⟩, ⟨.val false [⟨.bool, .sh, TC.b false⟩], ⟨0, 0⟩⟩])) (fun x => (.exit 1, [⟨.val false [⟨.ptr 31, .sh, TC.p x⟩], ⟨0, 0⟩⟩, Slot.none])))
def qj_lo15 : List Slot → Option (Told (Ex × List Slot)) := fun s => match s with
  | [⟨.val false [⟨.ptr 31, .sh, TC.p u⟩], ⟨0, 0⟩⟩, ⟨.val false [⟨.int .i64, .sh, TC.i i⟩], ⟨0, 0⟩⟩] => some (((qj_15_fin u i)).map qj_15_out)
  | _ => .none
def qj_lo : LoopTeller := fun r s => bif Nat.beq r 15 then qj_lo15 s else .none
theorem qj_15_r (u : List TC) (i : Int) (fuel : Nat) : rounds (rnd tab FT D13 live 31 qj_lo 0 15) leave (fuel + 1) (qj_15_sl (u, i)) = ((qj_15_step u i)).run (goOn (fun s => rounds (rnd tab FT D13 live 31 qj_lo 0 15) leave fuel (qj_15_sl s)) fun w => some (qj_15_out w)) := by kernel_rfl
theorem qj_f15_eq (u : List TC) (i : Int) : qj_f15 u i = bif qbp_v ((nth (row ((nth u 4).list) i) 0).int) ((nth (row ((nth u 4).list) i) 1).int) ((nth (row ((nth u 4).list) i) 2).bool) then Sum.inl () else Sum.inr (Sum.inl u) := by
  unfold qj_f15 
  skip
  generalize qbp_v ((nth (row ((nth u 4).list) i) 0).int) ((nth (row ((nth u 4).list) i) 1).int) ((nth (row ((nth u 4).list) i) 2).bool) = p0
  cases p0 <;> rfl
theorem qj_R15_eq (u : List TC)  : qj_R15 u 0 = bif allI (fun i : Nat => qbp_v ((nth (row ((nth u 4).list) (i : Int)) 0).int) ((nth (row ((nth u 4).list) (i : Int)) 1).int) ((nth (row ((nth u 4).list) (i : Int)) 2).bool)) ((nth u 4).list.length) then Sum.inr u else (Sum.inl u) := by
  unfold qj_R15
  exact (iter_all (P := (fun i : Nat => qbp_v ((nth (row ((nth u 4).list) (i : Int)) 0).int) ((nth (row ((nth u 4).list) (i : Int)) 1).int) ((nth (row ((nth u 4).list) (i : Int)) 2).bool))) (g := fun _ a => a) (w := Sum.inl u) fun j a _ => qj_f15_eq u _)
theorem qj_15_h (u : List TC) (i : Int) (ow : qj_15_ω) : ((qj_15_fin u i)).val = some ow → ∃ fuel, loopN qj_15_st fuel (u, i) = some ow := by
  refine auto_const (R := (qj_R15 u i)) rfl (iter_onR (f := (fun i a => (qj_f15 u (i : Int)))) (fin := (fun a => (qj_e15 u))) (Q := endsAs u u) (fun i a => by unfold qj_f15; exact (onR_bif rfl trivial)) (fun _ => rfl) _ _ _) ?_
  intro ho
  have ho : is (i = 0 ∧ (nth u 4).list.length ≤ 140737488355328) = true := ho.elim id id
  obtain ⟨rfl, hm⟩ := is_iff.1 ho
  skip
  refine ⟨((nth u 4).list.length) + 1, ?_⟩
  refine iter_loop (step := qj_15_st) ((nth u 4).list.length) (fun i a => (qj_f15 u (i : Int))) (fun a => (qj_e15 u)) (fun i a => (u, (i : Int))) (fun _ _ => True) trivial (fun i a hi hI => ⟨?_, fun _ _ => trivial⟩) (fun a hI => ?_)
  · show (qj_15_step u (i : Int)).val = _
    unfold qj_15_step qj_f15
    skip
    refine Tr.t (by simp; omega) ?_
    exact (Tr.t (by first | omega | (constructor <;> omega)) (Tr.bf rfl (by rw [Tr.val_ok, wrap64 (i := (i : Int) + 1) (by omega) (by omega)]; rfl)))
  · show (qj_15_step u ((nth u 4).list.length : Int)).val = _
    refine Tr.n (by first | (simp; done) | (simp; omega) | omega) ?_
    rfl
theorem qj_is15 : LoopIs tab FT D13 live 31 qj_lo 0 15 := by
  refine loop_told (sl := qj_15_sl) (step := qj_15_st) (out := qj_15_out) (lor := qj_lo15) (fin := fun x => (qj_15_fin (x.1) (x.2))) (fun _ => rfl) ?_ (fun x n => qj_15_r x.1 x.2 n) (fun x ow => qj_15_h x.1 x.2 ow)
  intro s t h
  unfold qj_lo15 at h
  split at h
  · cases h; exact ⟨(_, _), rfl, rfl⟩
  · cases h
def qj_t (u : List TC) : Tr (Bool) := (.ite ((!((nth u 0).int == (1 : Int))) = true) (.ite ((!((nth u 1).int == (0 : Int))) = true) (.ok false)
   (.ite ((!((nth u 0).int == (4 : Int))) = true) (.ite ((decide ((((nth u 4).list).length : Int) > (0 : Int))) = true) (.ok false)
     (.ite (((nth u 0).int == (1 : Int)) = true) (.ite ((qbc_v ((nth u 1).int) (0 : Int) (1000000000000 : Int)) = true) (.ite (((nth u 2).str == []) = true) (.ok ((((nth u 3).list).length : Int) == (0 : Int)))
        (.ok false))
       (.ok false))
      (.ite (((nth u 0).int == (2 : Int)) = true) (.ite ((qm_c ((nth u 2).str)) = true) (.ite ((qm_v ((nth u 2).str)) = true) (.ok ((((nth u 3).list).length : Int) == (0 : Int)))
         (.ok false))
        .no)
       (.ite (((nth u 0).int == (3 : Int)) = true) (.ite ((decide ((((nth u 3).list).length : Int) < (qw_v ((nth u 2).str)).1)) = true) (.ok false)
         (.ite ((decide ((((nth u 3).list).length : Int) > (qw_v ((nth u 2).str)).2)) = true) (.ok false)
          (.ite ((!((qw_v ((nth u 2).str)).2 == (2 : Int))) = true) (.ok true)
           (.ite (((qw_v ((nth u 2).str)).1 == (2 : Int)) = true) (.ok true)
            (.ite (((((nth u 3).list).length : Int) == (1 : Int)) = true) (.ok true)
             (.ite ((0 : Int) ≤ (1 : Int) ∧ (1 : Int) < (((nth u 3).list).length : Int)) (.ite (((nth (row ((nth u 3).list) (1 : Int)) 0).int == (1 : Int)) = true) (.ite ((0 : Int) ≤ (1 : Int) ∧ (1 : Int) < (((nth u 3).list).length : Int)) (.ok (decide ((nth (row ((nth u 3).list) (1 : Int)) 1).int < (3 : Int))))
                .no)
               (.ok false))
              .no))))))
        (.ite (((nth u 0).int == (4 : Int)) = true) (.ite ((qj_k15_1 u (0 : Int)) = true) (.ite ((qj_o15_2 u (0 : Int)) = true) (.ok false)
           .no)
          (.ite ((qj_o15_3 u (0 : Int)) = true) (.ite ((!(qbc_v (((nth u 4).list).length : Int) (1 : Int) (3 : Int))) = true) (.ok false)
            (.ite ((qbc_v ((nth u 0).int) (4 : Int) (16 : Int)) = true) (.ite (((nth u 2).str == []) = true) (.ok ((((nth u 3).list).length : Int) == (qbh_v ((nth u 0).int))))
              (.ok false))
             (.ok false)))
           .no))
         (.ite ((qbc_v ((nth u 0).int) (4 : Int) (16 : Int)) = true) (.ite (((nth u 2).str == []) = true) (.ok ((((nth u 3).list).length : Int) == (qbh_v ((nth u 0).int))))
           (.ok false))
          (.ok false)))))))
    (.ite (((nth u 0).int == (1 : Int)) = true) (.ite ((qbc_v ((nth u 1).int) (0 : Int) (1000000000000 : Int)) = true) (.ite (((nth u 2).str == []) = true) (.ok ((((nth u 3).list).length : Int) == (0 : Int)))
       (.ok false))
      (.ok false))
     (.ite (((nth u 0).int == (2 : Int)) = true) (.ite ((qm_c ((nth u 2).str)) = true) (.ite ((qm_v ((nth u 2).str)) = true) (.ok ((((nth u 3).list).length : Int) == (0 : Int)))
        (.ok false))
       .no)
      (.ite (((nth u 0).int == (3 : Int)) = true) (.ite ((decide ((((nth u 3).list).length : Int) < (qw_v ((nth u 2).str)).1)) = true) (.ok false)
        (.ite ((decide ((((nth u 3).list).length : Int) > (qw_v ((nth u 2).str)).2)) = true) (.ok false)
         (.ite ((!((qw_v ((nth u 2).str)).2 == (2 : Int))) = true) (.ok true)
          (.ite (((qw_v ((nth u 2).str)).1 == (2 : Int)) = true) (.ok true)
           (.ite (((((nth u 3).list).length : Int) == (1 : Int)) = true) (.ok true)
            (.ite ((0 : Int) ≤ (1 : Int) ∧ (1 : Int) < (((nth u 3).list).length : Int)) (.ite (((nth (row ((nth u 3).list) (1 : Int)) 0).int == (1 : Int)) = true) (.ite ((0 : Int) ≤ (1 : Int) ∧ (1 : Int) < (((nth u 3).list).length : Int)) (.ok (decide ((nth (row ((nth u 3).list) (1 : Int)) 1).int < (3 : Int))))
               .no)
              (.ok false))
             .no))))))
       (.ite (((nth u 0).int == (4 : Int)) = true) (.ite ((qj_k15_1 u (0 : Int)) = true) (.ite ((qj_o15_2 u (0 : Int)) = true) (.ok false)
          .no)
         (.ite ((qj_o15_3 u (0 : Int)) = true) (.ite ((!(qbc_v (((nth u 4).list).length : Int) (1 : Int) (3 : Int))) = true) (.ok false)
           (.ite ((qbc_v ((nth u 0).int) (4 : Int) (16 : Int)) = true) (.ite (((nth u 2).str == []) = true) (.ok ((((nth u 3).list).length : Int) == (qbh_v ((nth u 0).int))))
             (.ok false))
            (.ok false)))
          .no))
        (.ite ((qbc_v ((nth u 0).int) (4 : Int) (16 : Int)) = true) (.ite (((nth u 2).str == []) = true) (.ok ((((nth u 3).list).length : Int) == (qbh_v ((nth u 0).int))))
          (.ok false))
         (.ok false))))))))
  (.ite ((!((nth u 0).int == (4 : Int))) = true) (.ite ((decide ((((nth u 4).list).length : Int) > (0 : Int))) = true) (.ok false)
    (.ite (((nth u 0).int == (1 : Int)) = true) (.ite ((qbc_v ((nth u 1).int) (0 : Int) (1000000000000 : Int)) = true) (.ite (((nth u 2).str == []) = true) (.ok ((((nth u 3).list).length : Int) == (0 : Int)))
       (.ok false))
      (.ok false))
     (.ite (((nth u 0).int == (2 : Int)) = true) (.ite ((qm_c ((nth u 2).str)) = true) (.ite ((qm_v ((nth u 2).str)) = true) (.ok ((((nth u 3).list).length : Int) == (0 : Int)))
        (.ok false))
       .no)
      (.ite (((nth u 0).int == (3 : Int)) = true) (.ite ((decide ((((nth u 3).list).length : Int) < (qw_v ((nth u 2).str)).1)) = true) (.ok false)
        (.ite ((decide ((((nth u 3).list).length : Int) > (qw_v ((nth u 2).str)).2)) = true) (.ok false)
         (.ite ((!((qw_v ((nth u 2).str)).2 == (2 : Int))) = true) (.ok true)
          (.ite (((qw_v ((nth u 2).str)).1 == (2 : Int)) = true) (.ok true)
           (.ite (((((nth u 3).list).length : Int) == (1 : Int)) = true) (.ok true)
            (.ite ((0 : Int) ≤ (1 : Int) ∧ (1 : Int) < (((nth u 3).list).length : Int)) (.ite (((nth (row ((nth u 3).list) (1 : Int)) 0).int == (1 : Int)) = true) (.ite ((0 : Int) ≤ (1 : Int) ∧ (1 : Int) < (((nth u 3).list).length : Int)) (.ok (decide ((nth (row ((nth u 3).list) (1 : Int)) 1).int < (3 : Int))))
               .no)
              (.ok false))
             .no))))))
       (.ite (((nth u 0).int == (4 : Int)) = true) (.ite ((qj_k15_1 u (0 : Int)) = true) (.ite ((qj_o15_2 u (0 : Int)) = true) (.ok false)
          .no)
         (.ite ((qj_o15_3 u (0 : Int)) = true) (.ite ((!(qbc_v (((nth u 4).list).length : Int) (1 : Int) (3 : Int))) = true) (.ok false)
           (.ite ((qbc_v ((nth u 0).int) (4 : Int) (16 : Int)) = true) (.ite (((nth u 2).str == []) = true) (.ok ((((nth u 3).list).length : Int) == (qbh_v ((nth u 0).int))))
             (.ok false))
            (.ok false)))
          .no))
        (.ite ((qbc_v ((nth u 0).int) (4 : Int) (16 : Int)) = true) (.ite (((nth u 2).str == []) = true) (.ok ((((nth u 3).list).length : Int) == (qbh_v ((nth u 0).int))))
          (.ok false))
         (.ok false)))))))
   (.ite (((nth u 0).int == (1 : Int)) = true) (.ite ((qbc_v ((nth u 1).int) (0 : Int) (1000000000000 : Int)) = true) (.ite (((nth u 2).str == []) = true) (.ok ((((nth u 3).list).length : Int) == (0 : Int)))
      (.ok false))
     (.ok false))
    (.ite (((nth u 0).int == (2 : Int)) = true) (.ite ((qm_c ((nth u 2).str)) = true) (.ite ((qm_v ((nth u 2).str)) = true) (.ok ((((nth u 3).list).length : Int) == (0 : Int)))
       (.ok false))
      .no)
     (.ite (((nth u 0).int == (3 : Int)) = true) (.ite ((decide ((((nth u 3).list).length : Int) < (qw_v ((nth u 2).str)).1)) = true) (.ok false)
       (.ite ((decide ((((nth u 3).list).length : Int) > (qw_v ((nth u 2).str)).2)) = true) (.ok false)
        (.ite ((!((qw_v ((nth u 2).str)).2 == (2 : Int))) = true) (.ok true)
         (.ite (((qw_v ((nth u 2).str)).1 == (2 : Int)) = true) (.ok true)
          (.ite (((((nth u 3).list).length : Int) == (1 : Int)) = true) (.ok true)
           (.ite ((0 : Int) ≤ (1 : Int) ∧ (1 : Int) < (((nth u 3).list).length : Int)) (.ite (((nth (row ((nth u 3).list) (1 : Int)) 0).int == (1 : Int)) = true) (.ite ((0 : Int) ≤ (1 : Int) ∧ (1 : Int) < (((nth u 3).list).length : Int)) (.ok (decide ((nth (row ((nth u 3).list) (1 : Int)) 1).int < (3 : Int))))
              .no)
             (.ok false))
            .no))))))
      (.ite (((nth u 0).int == (4 : Int)) = true) (.ite ((qj_k15_1 u (0 : Int)) = true) (.ite ((qj_o15_2 u (0 : Int)) = true) (.ok false)
         .no)
        (.ite ((qj_o15_3 u (0 : Int)) = true) (.ite ((!(qbc_v (((nth u 4).list).length : Int) (1 : Int) (3 : Int))) = true) (.ok false)
          (.ite ((qbc_v ((nth u 0).int) (4 : Int) (16 : Int)) = true) (.ite (((nth u 2).str == []) = true) (.ok ((((nth u 3).list).length : Int) == (qbh_v ((nth u 0).int))))
            (.ok false))
           (.ok false)))
         .no))
       (.ite ((qbc_v ((nth u 0).int) (4 : Int) (16 : Int)) = true) (.ite (((nth u 2).str == []) = true) (.ok ((((nth u 3).list).length : Int) == (qbh_v ((nth u 0).int))))
         (.ok false))
        (.ok false))))))))
def qj_mk (p : Bool) : Res := [(false, [⟨.bool, .sh, TC.b p⟩])]
def qj_c (u : List TC) : Bool := (bif (!((nth u 0).int == (1 : Int))) then (bif (!((nth u 1).int == (0 : Int))) then true else (bif (!((nth u 0).int == (4 : Int))) then (bif (decide ((((nth u 4).list).length : Int) > (0 : Int))) then true else (bif ((nth u 0).int == (1 : Int)) then (bif (qbc_v ((nth u 1).int) (0 : Int) (1000000000000 : Int)) then (bif ((nth u 2).str == []) then true else true) else true) else (bif ((nth u 0).int == (2 : Int)) then ((qm_c ((nth u 2).str)) && (bif (qm_v ((nth u 2).str)) then true else true)) else (bif ((nth u 0).int == (3 : Int)) then (bif (decide ((((nth u 3).list).length : Int) < (qw_v ((nth u 2).str)).1)) then true else (bif (decide ((((nth u 3).list).length : Int) > (qw_v ((nth u 2).str)).2)) then true else (bif (!((qw_v ((nth u 2).str)).2 == (2 : Int))) then true else (bif ((qw_v ((nth u 2).str)).1 == (2 : Int)) then true else (bif ((((nth u 3).list).length : Int) == (1 : Int)) then true else (is ((0 : Int) ≤ (1 : Int) ∧ (1 : Int) < (((nth u 3).list).length : Int)) && (bif ((nth (row ((nth u 3).list) (1 : Int)) 0).int == (1 : Int)) then (is ((0 : Int) ≤ (1 : Int) ∧ (1 : Int) < (((nth u 3).list).length : Int)) && true) else true))))))) else (bif ((nth u 0).int == (4 : Int)) then (bif (qj_k15_1 u (0 : Int)) then ((qj_o15_2 u (0 : Int)) && true) else ((qj_o15_3 u (0 : Int)) && (bif (!(qbc_v (((nth u 4).list).length : Int) (1 : Int) (3 : Int))) then true else (bif (qbc_v ((nth u 0).int) (4 : Int) (16 : Int)) then (bif ((nth u 2).str == []) then true else true) else true)))) else (bif (qbc_v ((nth u 0).int) (4 : Int) (16 : Int)) then (bif ((nth u 2).str == []) then true else true) else true)))))) else (bif ((nth u 0).int == (1 : Int)) then (bif (qbc_v ((nth u 1).int) (0 : Int) (1000000000000 : Int)) then (bif ((nth u 2).str == []) then true else true) else true) else (bif ((nth u 0).int == (2 : Int)) then ((qm_c ((nth u 2).str)) && (bif (qm_v ((nth u 2).str)) then true else true)) else (bif ((nth u 0).int == (3 : Int)) then (bif (decide ((((nth u 3).list).length : Int) < (qw_v ((nth u 2).str)).1)) then true else (bif (decide ((((nth u 3).list).length : Int) > (qw_v ((nth u 2).str)).2)) then true else (bif (!((qw_v ((nth u 2).str)).2 == (2 : Int))) then true else (bif ((qw_v ((nth u 2).str)).1 == (2 : Int)) then true else (bif ((((nth u 3).list).length : Int) == (1 : Int)) then true else (is ((0 : Int) ≤ (1 : Int) ∧ (1 : Int) < (((nth u 3).list).length : Int)) && (bif ((nth (row ((nth u 3).list) (1 : Int)) 0).int == (1 : Int)) then (is ((0 : Int) ≤ (1 : Int) ∧ (1 : Int) < (((nth u 3).list).length : Int)) && true) else true))))))) else (bif ((nth u 0).int == (4 : Int)) then (bif (qj_k15_1 u (0 : Int)) then ((qj_o15_2 u (0 : Int)) && true) else ((qj_o15_3 u (0 : Int)) && (bif (!(qbc_v (((nth u 4).list).length : Int) (1 : Int) (3 : Int))) then true else (bif (qbc_v ((nth u 0).int) (4 : Int) (16 : Int)) then (bif ((nth u 2).str == []) then true else true) else true)))) else (bif (qbc_v ((nth u 0).int) (4 : Int) (16 : Int)) then (bif ((nth u 2).str == []) then true else true) else true))))))) else (bif (!((nth u 0).int == (4 : Int))) then (bif (decide ((((nth u 4).list).length : Int) > (0 : Int))) then true else (bif ((nth u 0).int == (1 : Int)) then (bif (qbc_v ((nth u 1).int) (0 : Int) (1000000000000 : Int)) then (bif ((nth u 2).str == []) then true else true) else true) else (bif ((nth u 0).int == (2 : Int)) then ((qm_c ((nth u 2).str)) && (bif (qm_v ((nth u 2).str)) then true else true)) else (bif ((nth u 0).int == (3 : Int)) then (bif (decide ((((nth u 3).list).length : Int) < (qw_v ((nth u 2).str)).1)) then true else (bif (decide ((((nth u 3).list).length : Int) > (qw_v ((nth u 2).str)).2)) then true else (bif (!((qw_v ((nth u 2).str)).2 == (2 : Int))) then true else (bif ((qw_v ((nth u 2).str)).1 == (2 : Int)) then true else (bif ((((nth u 3).list).length : Int) == (1 : Int)) then true else (is ((0 : Int) ≤ (1 : Int) ∧ (1 : Int) < (((nth u 3).list).length : Int)) && (bif ((nth (row ((nth u 3).list) (1 : Int)) 0).int == (1 : Int)) then (is ((0 : Int) ≤ (1 : Int) ∧ (1 : Int) < (((nth u 3).list).length : Int)) && true) else true))))))) else (bif ((nth u 0).int == (4 : Int)) then (bif (qj_k15_1 u (0 : Int)) then ((qj_o15_2 u (0 : Int)) && true) else ((qj_o15_3 u (0 : Int)) && (bif (!(qbc_v (((nth u 4).list).length : Int) (1 : Int) (3 : Int))) then true else (bif (qbc_v ((nth u 0).int) (4 : Int) (16 : Int)) then (bif ((nth u 2).str == []) then true else true) else true)))) else (bif (qbc_v ((nth u 0).int) (4 : Int) (16 : Int)) then (bif ((nth u 2).str == []) then true else true) else true)))))) else (bif ((nth u 0).int == (1 : Int)) then (bif (qbc_v ((nth u 1).int) (0 : Int) (1000000000000 : Int)) then (bif ((nth u 2).str == []) then true else true) else true) else (bif ((nth u 0).int == (2 : Int)) then ((qm_c ((nth u 2).str)) && (bif (qm_v ((nth u 2).str)) then true else true)) else (bif ((nth u 0).int == (3 : Int)) then (bif (decide ((((nth u 3).list).length : Int) < (qw_v ((nth u 2).str)).1)) then true else (bif (decide ((((nth u 3).list).length : Int) > (qw_v ((nth u 2).str)).2)) then true else (bif (!((qw_v ((nth u 2).str)).2 == (2 : Int))) then true else (bif ((qw_v ((nth u 2).str)).1 == (2 : Int)) then true else (bif ((((nth u 3).list).length : Int) == (1 : Int)) then true else (is ((0 : Int) ≤ (1 : Int) ∧ (1 : Int) < (((nth u 3).list).length : Int)) && (bif ((nth (row ((nth u 3).list) (1 : Int)) 0).int == (1 : Int)) then (is ((0 : Int) ≤ (1 : Int) ∧ (1 : Int) < (((nth u 3).list).length : Int)) && true) else true))))))) else (bif ((nth u 0).int == (4 : Int)) then (bif (qj_k15_1 u (0 : Int)) then ((qj_o15_2 u (0 : Int)) && true) else ((qj_o15_3 u (0 : Int)) && (bif (!(qbc_v (((nth u 4).list).length : Int) (1 : Int) (3 : Int))) then true else (bif (qbc_v ((nth u 0).int) (4 : Int) (16 : Int)) then (bif ((nth u 2).str == []) then true else true) else true)))) else (bif (qbc_v ((nth u 0).int) (4 : Int) (16 : Int)) then (bif ((nth u 2).str == []) then true else true) else true)))))))
def qj_v (u : List TC) : Bool := (bif (!((nth u 0).int == (1 : Int))) then (bif (!((nth u 1).int == (0 : Int))) then false else (bif (!((nth u 0).int == (4 : Int))) then (bif (decide ((((nth u 4).list).length : Int) > (0 : Int))) then false else (bif ((nth u 0).int == (1 : Int)) then (bif (qbc_v ((nth u 1).int) (0 : Int) (1000000000000 : Int)) then (bif ((nth u 2).str == []) then ((((nth u 3).list).length : Int) == (0 : Int)) else false) else false) else (bif ((nth u 0).int == (2 : Int)) then (bif (qm_v ((nth u 2).str)) then ((((nth u 3).list).length : Int) == (0 : Int)) else false) else (bif ((nth u 0).int == (3 : Int)) then (bif (decide ((((nth u 3).list).length : Int) < (qw_v ((nth u 2).str)).1)) then false else (bif (decide ((((nth u 3).list).length : Int) > (qw_v ((nth u 2).str)).2)) then false else (bif (!((qw_v ((nth u 2).str)).2 == (2 : Int))) then true else (bif ((qw_v ((nth u 2).str)).1 == (2 : Int)) then true else (bif ((((nth u 3).list).length : Int) == (1 : Int)) then true else (bif ((nth (row ((nth u 3).list) (1 : Int)) 0).int == (1 : Int)) then (decide ((nth (row ((nth u 3).list) (1 : Int)) 1).int < (3 : Int))) else false)))))) else (bif ((nth u 0).int == (4 : Int)) then (bif (qj_k15_1 u (0 : Int)) then false else (bif (!(qbc_v (((nth u 4).list).length : Int) (1 : Int) (3 : Int))) then false else (bif (qbc_v ((nth u 0).int) (4 : Int) (16 : Int)) then (bif ((nth u 2).str == []) then ((((nth u 3).list).length : Int) == (qbh_v ((nth u 0).int))) else false) else false))) else (bif (qbc_v ((nth u 0).int) (4 : Int) (16 : Int)) then (bif ((nth u 2).str == []) then ((((nth u 3).list).length : Int) == (qbh_v ((nth u 0).int))) else false) else false)))))) else (bif ((nth u 0).int == (1 : Int)) then (bif (qbc_v ((nth u 1).int) (0 : Int) (1000000000000 : Int)) then (bif ((nth u 2).str == []) then ((((nth u 3).list).length : Int) == (0 : Int)) else false) else false) else (bif ((nth u 0).int == (2 : Int)) then (bif (qm_v ((nth u 2).str)) then ((((nth u 3).list).length : Int) == (0 : Int)) else false) else (bif ((nth u 0).int == (3 : Int)) then (bif (decide ((((nth u 3).list).length : Int) < (qw_v ((nth u 2).str)).1)) then false else (bif (decide ((((nth u 3).list).length : Int) > (qw_v ((nth u 2).str)).2)) then false else (bif (!((qw_v ((nth u 2).str)).2 == (2 : Int))) then true else (bif ((qw_v ((nth u 2).str)).1 == (2 : Int)) then true else (bif ((((nth u 3).list).length : Int) == (1 : Int)) then true else (bif ((nth (row ((nth u 3).list) (1 : Int)) 0).int == (1 : Int)) then (decide ((nth (row ((nth u 3).list) (1 : Int)) 1).int < (3 : Int))) else false)))))) else (bif ((nth u 0).int == (4 : Int)) then (bif (qj_k15_1 u (0 : Int)) then false else (bif (!(qbc_v (((nth u 4).list).length : Int) (1 : Int) (3 : Int))) then false else (bif (qbc_v ((nth u 0).int) (4 : Int) (16 : Int)) then (bif ((nth u 2).str == []) then ((((nth u 3).list).length : Int) == (qbh_v ((nth u 0).int))) else false) else false))) else (bif (qbc_v ((nth u 0).int) (4 : Int) (16 : Int)) then (bif ((nth u 2).str == []) then ((((nth u 3).list).length : Int) == (qbh_v ((nth u 0).int))) else false) else false))))))) else (bif (!((nth u 0).int == (4 : Int))) then (bif (decide ((((nth u 4).list).length : Int) > (0 : Int))) then false else (bif ((nth u 0).int == (1 : Int)) then (bif (qbc_v ((nth u 1).int) (0 : Int) (1000000000000 : Int)) then (bif ((nth u 2).str == []) then ((((nth u 3).list).length : Int) == (0 : Int)) else false) else false) else (bif ((nth u 0).int == (2 : Int)) then (bif (qm_v ((nth u 2).str)) then ((((nth u 3).list).length : Int) == (0 : Int)) else false) else (bif ((nth u 0).int == (3 : Int)) then (bif (decide ((((nth u 3).list).length : Int) < (qw_v ((nth u 2).str)).1)) then false else (bif (decide ((((nth u 3).list).length : Int) > (qw_v ((nth u 2).str)).2)) then false else (bif (!((qw_v ((nth u 2).str)).2 == (2 : Int))) then true else (bif ((qw_v ((nth u 2).str)).1 == (2 : Int)) then true else (bif ((((nth u 3).list).length : Int) == (1 : Int)) then true else (bif ((nth (row ((nth u 3).list) (1 : Int)) 0).int == (1 : Int)) then (decide ((nth (row ((nth u 3).list) (1 : Int)) 1).int < (3 : Int))) else false)))))) else (bif ((nth u 0).int == (4 : Int)) then (bif (qj_k15_1 u (0 : Int)) then false else (bif (!(qbc_v (((nth u 4).list).length : Int) (1 : Int) (3 : Int))) then false else (bif (qbc_v ((nth u 0).int) (4 : Int) (16 : Int)) then (bif ((nth u 2).str == []) then ((((nth u 3).list).length : Int) == (qbh_v ((nth u 0).int))) else false) else false))) else (bif (qbc_v ((nth u 0).int) (4 : Int) (16 : Int)) then (bif ((nth u 2).str == []) then ((((nth u 3).list).length : Int) == (qbh_v ((nth u 0).int))) else false) else false)))))) else (bif ((nth u 0).int == (1 : Int)) then (bif (qbc_v ((nth u 1).int) (0 : Int) (1000000000000 : Int)) then (bif ((nth u 2).str == []) then ((((nth u 3).list).length : Int) == (0 : Int)) else false) else false) else (bif ((nth u 0).int == (2 : Int)) then (bif (qm_v ((nth u 2).str)) then ((((nth u 3).list).length : Int) == (0 : Int)) else false) else (bif ((nth u 0).int == (3 : Int)) then (bif (decide ((((nth u 3).list).length : Int) < (qw_v ((nth u 2).str)).1)) then false else (bif (decide ((((nth u 3).list).length : Int) > (qw_v ((nth u 2).str)).2)) then false else (bif (!((qw_v ((nth u 2).str)).2 == (2 : Int))) then true else (bif ((qw_v ((nth u 2).str)).1 == (2 : Int)) then true else (bif ((((nth u 3).list).length : Int) == (1 : Int)) then true else (bif ((nth (row ((nth u 3).list) (1 : Int)) 0).int == (1 : Int)) then (decide ((nth (row ((nth u 3).list) (1 : Int)) 1).int < (3 : Int))) else false)))))) else (bif ((nth u 0).int == (4 : Int)) then (bif (qj_k15_1 u (0 : Int)) then false else (bif (!(qbc_v (((nth u 4).list).length : Int) (1 : Int) (3 : Int))) then false else (bif (qbc_v ((nth u 0).int) (4 : Int) (16 : Int)) then (bif ((nth u 2).str == []) then ((((nth u 3).list).length : Int) == (qbh_v ((nth u 0).int))) else false) else false))) else (bif (qbc_v ((nth u 0).int) (4 : Int) (16 : Int)) then (bif ((nth u 2).str == []) then ((((nth u 3).list).length : Int) == (qbh_v ((nth u 0).int))) else false) else false)))))))
theorem qj_l (u : List TC) : (qj_c u) = true → (qj_t u).val = some (qj_v u) := by
  unfold qj_t qj_v qj_c
  intro h
  repeat' first | refine Tr.gb h fun h => ?_ | refine Tr.gs h fun h => ?_ | refine Tr.ss h (fun h => ?_) fun h => ?_ | exact rfl
def qj_S : List Arg → Option (Bool × Res) := fun xs => match xs with
  | [(false, [(.ptr 31, TC.p u)])] => some ((qj_c u), qj_mk (qj_v u))
  | _ => .none
theorem qj_e (u : List TC) : runF tab FT D13 live 31 qj_lo [(false, [(.ptr 31, TC.p u)])] = (qj_t u).run fun p => some (qj_mk p) := by kernel_rfl
theorem qj_s : ∀ xs r, qj_S xs = some (true, r) → runF tab FT D13 live 31 qj_lo xs = some r := by
  intro xs r h
  unfold qj_S at h
  split at h
  · obtain ⟨h1, rfl⟩ := sp h
    exact fun_told (qj_e _) (qj_l _) h1
  · cases h
def D14 : Dt := also D13 31 qj_S
theorem d14 : DOk Go.Proofs.Try.prog tab D14 := d13.also mixed_ok tab_ok names_ok (fnLoops_one (by kernel_rfl) qj_is15) qj_s
theorem ar_1 (s : BS) : 1 ≤ (qw_v s).1 := by
  unfold qw_v
  cases s == [115, 117, 109] <;> cases s == [109, 105, 110] <;> cases s == [109, 97, 120] <;> cases s == [99, 111, 117, 110, 116] <;> cases s == [97, 98, 115] <;> cases s == [116, 114, 97, 110, 115, 112, 111, 115, 101] <;> cases s == [105, 111, 116, 97] <;> cases s == [109, 97, 116, 109, 117, 108] <;> cases s == [119, 104, 101, 114, 101] <;> decide
theorem ar_c {s : BS} {K : LL} : (bif (decide ((K.length : Int) < (qw_v s).1)) then true else (bif (decide ((K.length : Int) > (qw_v s).2)) then true else (bif (!((qw_v s).2 == (2 : Int))) then true else (bif ((qw_v s).1 == (2 : Int)) then true else (bif ((K.length : Int) == (1 : Int)) then true else (is ((0 : Int) ≤ (1 : Int) ∧ (1 : Int) < (K.length : Int)) && (bif ((nth (row K (1 : Int)) 0).int == (1 : Int)) then (is ((0 : Int) ≤ (1 : Int) ∧ (1 : Int) < (K.length : Int)) && true) else true))))))) = true := by
  have h1 := ar_1 s
  refine bifT (fun _ => rfl) fun b1 => bifT (fun _ => rfl) fun _ => bifT (fun _ => rfl) fun _ => bifT (fun _ => rfl) fun _ => bifT (fun _ => rfl) fun b5 => ?_
  have b1 : ¬ (K.length : Int) < (qw_v s).1 := by simpa using b1
  have b5 : ¬ (K.length : Int) = 1 := by intro e; rw [e] at b5; cases b5
  have h2 : (0 : Int) ≤ 1 ∧ (1 : Int) < (K.length : Int) := ⟨by decide, by omega⟩
  exact andT (is_true h2) (bifT (fun _ => andT (is_true h2) rfl) fun _ => rfl)
theorem ar_v {s : BS} {K : LL} : (bif (decide ((K.length : Int) < (qw_v s).1)) then false else (bif (decide ((K.length : Int) > (qw_v s).2)) then false else (bif (!((qw_v s).2 == (2 : Int))) then true else (bif ((qw_v s).1 == (2 : Int)) then true else (bif ((K.length : Int) == (1 : Int)) then true else (bif ((nth (row K (1 : Int)) 0).int == (1 : Int)) then (decide ((nth (row K (1 : Int)) 1).int < (3 : Int))) else false)))))) = callB s K := by
  unfold callB redS
  have hr : (bif (decide ((K.length : Int) < 1)) then false else (bif (decide ((K.length : Int) > 2)) then false else (bif (!((2 : Int) == (2 : Int))) then true else (bif ((1 : Int) == (2 : Int)) then true else (bif ((K.length : Int) == (1 : Int)) then true else (bif ((nth (row K (1 : Int)) 0).int == (1 : Int)) then (decide ((nth (row K (1 : Int)) 1).int < (3 : Int))) else false)))))) = redK K := by
    unfold redK
    by_cases a : (K.length : Int) < 1
    · rw [decide_eq_true a, show ((K.length : Int) == 1) = false from by simpa using by omega, show ((K.length : Int) == 2) = false from by simpa using by omega]; rfl
    · rw [decide_eq_false a]
      by_cases b : (K.length : Int) > 2
      · rw [decide_eq_true b, show ((K.length : Int) == 1) = false from by simpa using by omega, show ((K.length : Int) == 2) = false from by simpa using by omega]; rfl
      · rw [decide_eq_false b]
        by_cases c : (K.length : Int) = 1
        · rw [c]; rfl
        · rw [show ((K.length : Int) == 1) = false from by simpa using c, show (K.length : Int) = 2 by omega]
          cases ((nth (row K (1 : Int)) 0).int == 1) <;> rfl
  have hx : ∀ n : Int, 1 ≤ n → (bif (decide ((K.length : Int) < n)) then false else (bif (decide ((K.length : Int) > n)) then false else true)) = ((K.length : Int) == n) := fun n _ => by
    by_cases a : (K.length : Int) < n
    · rw [decide_eq_true a, show ((K.length : Int) == n) = false from by simpa using by omega]; rfl
    · rw [decide_eq_false a]
      by_cases b : (K.length : Int) > n
      · rw [decide_eq_true b, show ((K.length : Int) == n) = false from by simpa using by omega]; rfl
      · rw [decide_eq_false b, show ((K.length : Int) == n) = true from by simpa using by omega]; rfl
  by_cases h1 : s = [115, 117, 109]
  · subst h1; exact hr
  by_cases h2 : s = [109, 105, 110]
  · subst h2; exact hr
  by_cases h3 : s = [109, 97, 120]
  · subst h3; exact hr
  by_cases h4 : s = [99, 111, 117, 110, 116]
  · subst h4; exact hr
  by_cases h5 : s = [97, 98, 115]
  · subst h5; exact hx 1 (by decide)
  by_cases h6 : s = [116, 114, 97, 110, 115, 112, 111, 115, 101]
  · subst h6; exact hx 1 (by decide)
  by_cases h7 : s = [105, 111, 116, 97]
  · subst h7; exact hx 1 (by decide)
  by_cases h8 : s = [109, 97, 116, 109, 117, 108]
  · subst h8
    refine Eq.trans ?_ (hx 2 (by decide))
    show (bif (decide ((K.length : Int) < 2)) then false else (bif (decide ((K.length : Int) > 2)) then false else _)) = _
    rfl
  by_cases h9 : s = [119, 104, 101, 114, 101]
  · subst h9; exact hx 3 (by decide)
  have e1 : (s == [115, 117, 109]) = false := by simpa using h1
  have e2 : (s == [109, 105, 110]) = false := by simpa using h2
  have e3 : (s == [109, 97, 120]) = false := by simpa using h3
  have e4 : (s == [99, 111, 117, 110, 116]) = false := by simpa using h4
  have e5 : (s == [97, 98, 115]) = false := by simpa using h5
  have e6 : (s == [116, 114, 97, 110, 115, 112, 111, 115, 101]) = false := by simpa using h6
  have e7 : (s == [105, 111, 116, 97]) = false := by simpa using h7
  have e8 : (s == [109, 97, 116, 109, 117, 108]) = false := by simpa using h8
  have e9 : (s == [119, 104, 101, 114, 101]) = false := by simpa using h9
  unfold qw_v mapK argN
  rw [e1, e2, e3, e4, e5, e6, e7, e8, e9]
  show (bif (decide ((K.length : Int) < 1)) then false else (bif (decide ((K.length : Int) > 0)) then false else true)) = false
  by_cases a : (K.length : Int) < 1
  · rw [decide_eq_true a]; rfl
  · rw [decide_eq_false a, decide_eq_true (show (K.length : Int) > 0 by omega)]; rfl
theorem qj_cc {u : List TC} (t2 : Typed tab .str (.s (nth u 2).str)) (t4 : Typed tab (.slice 59) (.l (nth u 4).list)) : qj_c u = true := by
  have hl := typed_room t4
  simp only [show (tab 59).bytes = 24 from rfl] at hl
  have ho2 : qj_o15_2 u 0 = true := is_true ⟨rfl, by omega⟩
  have ho3 : qj_o15_3 u 0 = true := is_true ⟨rfl, by omega⟩
  have hn : qm_c (nth u 2).str = true := qm_cc t2
  unfold qj_c
  repeat' first | rfl | exact ho2 | exact ho3 | exact hn | exact ar_c | refine bifT (fun _ => ?_) (fun _ => ?_) | refine andT ?_ ?_
theorem qj_vv (u : List TC) : qj_v u = nodeB (nth u 0).int (nth u 1).int (nth u 2).str (nth u 3).list (nth u 4).list := by
  have hk : qj_k15_1 u 0 = !((nth u 4).list.all ranB) := by
    unfold qj_k15_1
    rw [qj_R15_eq]
    have e : allI (fun i : Nat => qbp_v ((nth (row ((nth u 4).list) (i : Int)) 0).int) ((nth (row ((nth u 4).list) (i : Int)) 1).int) ((nth (row ((nth u 4).list) (i : Int)) 2).bool)) ((nth u 4).list.length) = (nth u 4).list.all ranB := (allI_rows (P := ranB))
    rw [e]
    cases (nth u 4).list.all ranB <;> rfl
  unfold qj_v
  rw [hk, qm_vv]
  simp only [ar_v]
  generalize (nth u 0).int = k, (nth u 1).int = n, (nth u 2).str = tx, (nth u 3).list = K, (nth u 4).list = R
  have hin : ∀ a b c : Int, qbc_v a b c = inX a b c := fun _ _ _ => rfl
  simp only [hin]
  unfold nodeB
  have hR : decide ((R.length : Int) > 0) = !((R.length : Int) == 0) := by
    by_cases h : R.length = 0
    · rw [h]; rfl
    · rw [show ((R.length : Int) == 0) = false from beq_eq_false_iff_ne.2 (by omega), decide_eq_true (show (R.length : Int) > 0 by omega)]; rfl
  rw [hR]
  by_cases k1 : k = 1
  · subst k1
    cases inX n 0 1000000000000 <;> cases (tx == ([] : BS)) <;> cases ((K.length : Int) == 0) <;> cases ((R.length : Int) == 0) <;> rfl
  rw [show (k == 1) = false from by simpa using k1]
  by_cases k2 : k = 2
  · subst k2
    cases (n == 0) <;> cases nameOk tx <;> cases ((K.length : Int) == 0) <;> cases ((R.length : Int) == 0) <;> rfl
  rw [show (k == 2) = false from by simpa using k2]
  by_cases k3 : k = 3
  · subst k3
    cases (n == 0) <;> cases callB tx K <;> cases ((R.length : Int) == 0) <;> rfl
  rw [show (k == 3) = false from by simpa using k3]
  by_cases k4 : k = 4
  · subst k4
    cases (n == 0) <;> cases inX (R.length : Int) 1 3 <;> cases R.all ranB <;> cases (tx == ([] : BS)) <;> first | rfl | (show ((K.length : Int) == 1) = _; cases ((K.length : Int) == 1) <;> rfl) | (cases ((K.length : Int) == 1) <;> rfl)
  rw [show (k == 4) = false from by simpa using k4]
  by_cases k5 : k = 5
  · subst k5
    cases (n == 0) <;> cases ((R.length : Int) == 0) <;> cases (tx == ([] : BS)) <;> first | rfl | (show ((K.length : Int) == 1) = _; cases ((K.length : Int) == 1) <;> rfl) | (cases ((K.length : Int) == 1) <;> rfl)
  rw [show (k == 5) = false from by simpa using k5]
  have h46 : inX k 4 16 = inX k 6 16 := by
    unfold inX
    by_cases a : k ≥ 6
    · rw [decide_eq_true a, decide_eq_true (show k ≥ 4 by omega)]
    · rw [decide_eq_false a, decide_eq_false (show ¬ k ≥ 4 by omega)]
  rw [h46]
  have hkid : qbh_v k = bif inX k 6 16 then 2 else 0 := by
    unfold qbh_v
    rw [show (k == 4) = false from by simpa using k4, show (k == 5) = false from by simpa using k5]
    rfl
  rw [hkid]
  cases inX k 6 16 <;> cases (n == 0) <;> cases ((R.length : Int) == 0) <;> cases (tx == ([] : BS)) <;> first | rfl | (show ((K.length : Int) == 2) = _; cases ((K.length : Int) == 2) <;> rfl) | (cases ((K.length : Int) == 2) <;> rfl)
section
class qh_O where n : Nat
variable [i_spec_l25Size : qh_O]
def qh_rc (u : List TC) : Bool := is (rowsDep (nth u 3).list < qh_O.n ∧ Typed tab (.slice 31) (.l (nth u 3).list) ∧ Typed tab (.slice 59) (.l (nth u 4).list) ∧ Typed tab .str (.s (nth u 2).str) ∧ kdX u ≤ 1048576)
def qh_rv (u : List TC) : Int := szV u
def qh_rmk (p : Int) : Res := [(false, [⟨.int .i64, .sh, TC.i p⟩])]
def qh_rS : List Arg → Option (Bool × Res) := fun xs => match xs with
  | [(false, [(.ptr 31, TC.p u)])] => some ((qh_rc u), qh_rmk (qh_rv u))
  | _ => .none
def D15 : Dt := also D14 18 qh_rS
class qh_G : Prop where ok : DOk Go.Proofs.Try.prog tab D15
variable [g_spec_l25Size : qh_G]
theorem d15 : DOk Go.Proofs.Try.prog tab D15 := qh_G.ok
abbrev qh_5_σ := List TC × Int × Int
abbrev qh_5_ω := (Int)
def qh_5_step (u : List TC) (n i : Int) : Tr (qh_5_σ ⊕ qh_5_ω) := (.ite ((decide (i < (((nth u 3).list).length : Int))) = true) (.ite ((decide (n ≤ (40 : Int))) = true) (.ite ((0 : Int) ≤ i ∧ i < (((nth u 3).list).length : Int)) (.ite ((qh_rc (row ((nth u 3).list) i)) = true) (.ok (.inl (u, (IntKind.wrap .i64 (n + (qh_rv (row ((nth u 3).list) i)))), (IntKind.wrap .i64 (i + (1 : Int))))))
     .no)
    .no)
   (.ok (.inr n)))
  (.ok (.inr n)))
def qh_5_st : qh_5_σ → Tr (qh_5_σ ⊕ qh_5_ω) := fun x => (qh_5_step (x.1) (x.2.1) (x.2.2))
def qh_o5_1 (u : List TC) (n i : Int) : Bool := is (i = 0 ∧ n = 1 ∧ (nth u 3).list.length ≤ 140737488355328 ∧ ∀ x : List TC, x ∈ (nth u 3).list → qh_rc x = true ∧ 0 ≤ szX x ∧ szX x ≤ 1099511627776)
def qh_u5_1 (u : List TC) (n i : Int) : Int := (nth u 3).list.foldl szF n
def qh_5_fin (u : List TC) (n i : Int) : Told qh_5_ω := (.leaf (qh_o5_1 u n i) (qh_u5_1 u n i))
def qh_5_sl (x : qh_5_σ) : List Slot := [⟨.val false [⟨.ptr 31, .sh, TC.p (x.1)⟩], ⟨0, 0⟩⟩, ⟨.val false [⟨.int .i64, .sh, TC.i (x.2.1)⟩], ⟨0, 0⟩⟩, ⟨.val false [⟨.int .i64, .sh, TC.i (x.2.2)⟩], ⟨0, 0⟩⟩]
def qh_5_out : qh_5_ω → Ex × List Slot := (fun x => (.exit 0, [Slot.none, ⟨.val false [⟨.int .i64, .sh, TC.i x⟩], ⟨0, 0⟩⟩]))
def qh_lo5 : List Slot → Option (Told (Ex × List Slot)) := fun s => match s with
  | [⟨.val false [⟨.ptr 31, .sh, TC.p u⟩], ⟨0, 0⟩⟩, ⟨.val false [⟨.int .i64, .sh, TC.i n⟩], ⟨0, 0⟩⟩, ⟨.val false [⟨.int .i64, .sh, TC.i i⟩], ⟨0, 0⟩⟩] => some (((qh_5_fin u n i)).map qh_5_out)
  | _ => .none
def qh_lo : LoopTeller := fun r s => bif Nat.beq r 5 then qh_lo5 s else .none
theorem qh_5_r (u : List TC) (n i : Int) (fuel : Nat) : rounds (rnd tab FT D15 live 18 qh_lo 0 5) leave (fuel + 1) (qh_5_sl (u, n, i)) = ((qh_5_step u n i)).run (goOn (fun s => rounds (rnd tab FT D15 live 18 qh_lo 0 5) leave fuel (qh_5_sl s)) fun w => some (qh_5_out w)) := by kernel_rfl
theorem qh_5_h (u : List TC) (n i : Int) (ow : qh_5_ω) : ((qh_5_fin u n i)).val = some ow → ∃ fuel, loopN qh_5_st fuel (u, n, i) = some ow := by
  intro h
  refine auto_leaf (R := (nth u 3).list.foldl szF n) (fun ho => ?_) h
  obtain ⟨rfl, rfl, hlen, hr⟩ := is_iff.1 ho
  have key : ∀ (rest : LL) (j : Nat) (a : Int), (nth u 3).list.drop j = rest → 0 ≤ a → a ≤ 9000000000000 → ∃ M, loopN qh_5_st M (u, a, (j : Int)) = some (rest.foldl szF a) := by
    intro rest
    induction rest with
    | nil =>
      intro j a hd h0 h1
      have hj : (nth u 3).list.length ≤ j := by have := congrArg List.length hd; rw [List.length_drop, List.length_nil] at this; omega
      refine ⟨1, loopN_end ?_⟩
      show (qh_5_step u a (j : Int)).val = _
      unfold qh_5_step
      refine Tr.n (by simp; omega) ?_
      rfl
    | cons x rest ih =>
      intro j a hd h0 h1
      obtain ⟨hj, hrow, hdr⟩ := row_drop hd
      have hx : x ∈ (nth u 3).list := by rw [← hrow, row_nat]; exact mem_getD hj
      obtain ⟨hc, z0, z1⟩ := hr x hx
      by_cases h4 : a ≤ 40
      · have e : szF a x = a + szX x := by unfold szF; rw [decide_eq_true h4]; rfl
        rw [List.foldl_cons, e]
        obtain ⟨M, hM⟩ := ih (j + 1) (a + szX x) hdr (by omega) (by omega)
        refine ⟨M + 1, (loopN_next ?_).trans hM⟩
        show (qh_5_step u a (j : Int)).val = _
        unfold qh_5_step
        rw [hrow]
        refine Tr.t (by simp; omega) (Tr.t (decide_eq_true h4) (Tr.t ⟨by omega, by omega⟩ (Tr.t hc ?_)))
        have ev : qh_rv x = szX x := rfl
        rw [Tr.val_ok, ev, wrap64 (i := a + szX x) (by omega) (by omega), wrap64 (i := (j : Int) + 1) (by omega) (by omega)]
        rfl
      · refine ⟨1, (loopN_end (w := a) ?_).trans ?_⟩
        · show (qh_5_step u a (j : Int)).val = _
          unfold qh_5_step
          refine Tr.t (by simp; omega) (Tr.n (by simpa using h4) ?_)
          rfl
        · rw [foldl_stop (by omega)]
  exact key _ 0 1 rfl (by decide) (by decide)
theorem qh_is5 : LoopIs tab FT D15 live 18 qh_lo 0 5 := by
  refine loop_told (sl := qh_5_sl) (step := qh_5_st) (out := qh_5_out) (lor := qh_lo5) (fin := fun x => (qh_5_fin (x.1) (x.2.1) (x.2.2))) (fun _ => rfl) ?_ (fun x n => qh_5_r x.1 x.2.1 x.2.2 n) (fun x ow => qh_5_h x.1 x.2.1 x.2.2 ow)
  intro s t h
  unfold qh_lo5 at h
  split at h
  · cases h; exact ⟨(_, _, _), rfl, rfl⟩
  · cases h
def qh_t (u : List TC) : Tr (Int) := (.ite ((qj_c u) = true) (.ite ((!(qj_v u)) = true) (.ok (41 : Int))
   (.ite ((qh_o5_1 u (1 : Int) (0 : Int)) = true) (.ok (qh_u5_1 u (1 : Int) (0 : Int)))
    .no))
  .no)
def qh_mk (p : Int) : Res := [(false, [⟨.int .i64, .sh, TC.i p⟩])]
def qh_c (u : List TC) : Bool := ((qj_c u) && (bif (!(qj_v u)) then true else ((qh_o5_1 u (1 : Int) (0 : Int)) && true)))
def qh_v (u : List TC) : Int := (bif (!(qj_v u)) then (41 : Int) else (qh_u5_1 u (1 : Int) (0 : Int)))
theorem qh_l (u : List TC) : (qh_c u) = true → (qh_t u).val = some (qh_v u) := by
  unfold qh_t qh_v qh_c
  exact fun h => (Tr.gb h fun h => (Tr.ss h (fun h => rfl) (fun h => (Tr.gb h fun h => rfl))))
theorem qh_e (u : List TC) : runF tab FT D15 live 18 qh_lo [(false, [(.ptr 31, TC.p u)])] = (qh_t u).run fun p => some (qh_mk p) := by kernel_rfl
theorem qh_nx (u : List TC) : is (rowsDep (nth u 3).list < qh_O.n + 1 ∧ Typed tab (.slice 31) (.l (nth u 3).list) ∧ Typed tab (.slice 59) (.l (nth u 4).list) ∧ Typed tab .str (.s (nth u 2).str) ∧ kdX u ≤ 1048576) = true → (qh_c u) = true ∧ (qh_v u) = szV u := by
  intro h
  obtain ⟨hM, t3, t4, t2, hd⟩ := is_iff.1 h
  have hf : qj_c u = true := qj_cc t2 t4
  have hl := typed_room t3
  simp only [show (tab 31).bytes = 80 from rfl] at hl
  have ho : qh_o5_1 u 1 0 = true := is_true ⟨rfl, rfl, by omega, fun x hx => by
    have hdx := dep_cell hx 3
    have hb := sz_bound x
    have hkx : kdX x + 1 ≤ kdX u := kd_cell hx
    exact ⟨is_true ⟨by omega, typed_list ((typed_elem t3 hx).2 3 (by decide)), typed_list ((typed_elem t3 hx).2 4 (by decide)), typed_s ((typed_elem t3 hx).2 2 (by decide)), by omega⟩, by omega, by omega⟩⟩
  unfold qh_c qh_v szV
  rw [qj_vv, szE_eq, hf, ho]
  cases nodeB (nth u 0).int (nth u 1).int (nth u 2).str (nth u 3).list (nth u 4).list <;> exact ⟨rfl, rfl⟩
theorem qh_nxr (u : List TC) : qh_rc (i_spec_l25Size := ⟨qh_O.n + 1⟩) u = true → (qh_c u) = true ∧ (qh_v u) = (qh_rv u) := fun h => qh_nx u h
theorem qh_rs : ∀ xs r, qh_rS (i_spec_l25Size := ⟨qh_O.n + 1⟩) xs = some (true, r) → runF tab FT D15 live 18 qh_lo xs = some r := by
  intro xs r h
  unfold qh_rS at h
  split at h
  · obtain ⟨h1, rfl⟩ := sp h
    have hx := qh_nxr _ h1
    have ht := fun_told (qh_e _) (qh_l _) hx.1
    rw [hx.2] at ht
    exact ht
  · cases h
theorem qh_step : qh_G (i_spec_l25Size := ⟨qh_O.n + 1⟩) := by
  have h := DOk.also2 (S := qh_rS (i_spec_l25Size := ⟨qh_O.n + 1⟩)) mixed_ok tab_ok names_ok d14 d15 (fnLoops_one (by kernel_rfl) qh_is5) qh_rs
  refine qh_G.mk (i_spec_l25Size := ⟨qh_O.n + 1⟩) ?_
  exact h
def qbj_t (a0 a1 : Int) (a2 : BS) (a3 a4 : LL) : Tr (Bool) := (.ite ((qh_rc [TC.i a0, TC.i a1, TC.s a2, TC.l a3, TC.l a4]) = true) (.ok (decide ((qh_rv [TC.i a0, TC.i a1, TC.s a2, TC.l a3, TC.l a4]) ≤ (40 : Int))))
  .no)
def qbj_mk (p : Bool) : Res := [(false, [⟨.bool, .sh, TC.b p⟩])]
def qbj_c (a0 a1 : Int) (a2 : BS) (a3 a4 : LL) : Bool := (qh_rc [TC.i a0, TC.i a1, TC.s a2, TC.l a3, TC.l a4])
def qbj_v (a0 a1 : Int) (a2 : BS) (a3 a4 : LL) : Bool := (decide ((qh_rv [TC.i a0, TC.i a1, TC.s a2, TC.l a3, TC.l a4]) ≤ (40 : Int)))
theorem qbj_l (a0 a1 : Int) (a2 : BS) (a3 a4 : LL) : (qbj_c a0 a1 a2 a3 a4) = true → (qbj_t a0 a1 a2 a3 a4).val = some (qbj_v a0 a1 a2 a3 a4) := by
  intro h
  have hc0 : (qh_rc [TC.i a0, TC.i a1, TC.s a2, TC.l a3, TC.l a4]) = true := h
  unfold qbj_t
  exact (Tr.t hc0 rfl)
def qbj_S : List Arg → Option (Bool × Res) := fun xs => match xs with
  | [(true, [(.int .i64, TC.i a0), (.int .i64, TC.i a1), (.str, TC.s a2), (.slice 31, TC.l a3), (.slice 59, TC.l a4)])] => some ((qbj_c a0 a1 a2 a3 a4), qbj_mk (qbj_v a0 a1 a2 a3 a4))
  | _ => .none
theorem qbj_e (a0 a1 : Int) (a2 : BS) (a3 a4 : LL) : runF tab FT D15 live 6 noLoops [(true, [(.int .i64, TC.i a0), (.int .i64, TC.i a1), (.str, TC.s a2), (.slice 31, TC.l a3), (.slice 59, TC.l a4)])] = (qbj_t a0 a1 a2 a3 a4).run fun p => some (qbj_mk p) := by kernel_rfl
theorem qbj_s : ∀ xs r, qbj_S xs = some (true, r) → runF tab FT D15 live 6 noLoops xs = some r := by
  intro xs r h
  unfold qbj_S at h
  split at h
  · obtain ⟨h1, rfl⟩ := sp h
    exact fun_told (qbj_e ..) (qbj_l _ _ _ _ _) h1
  · cases h
def D16 : Dt := also D15 6 qbj_S
theorem d16 : DOk Go.Proofs.Try.prog tab D16 := d15.also mixed_ok tab_ok names_ok noLoops_ok qbj_s
abbrev qs_4_σ := LL × BS × LL × Bool × Int
abbrev qs_4_ω := (BS × LL × Bool)
def qs_4_step (A : LL) (t : BS) (X : LL) (d : Bool) (i : Int) : Tr (qs_4_σ ⊕ qs_4_ω) := (.ite ((decide (i < (A.length : Int))) = true) (.ite ((!d) = true) (.ite ((0 : Int) ≤ i ∧ i < (A.length : Int)) (.ite ((!(bytesLess ((nth (row A i) 0).str) t)) = true) (.ite ((0 : Int) ≤ i ∧ i < (A.length : Int)) (.ite ((!(bytesLess ((nth (row A i) 0).str) t || ((nth (row A i) 0).str == t))) = true) (.ite (roomFor (tab 9) (X ++ [[TC.s t]]).length) (.ite ((0 : Int) ≤ i ∧ i < (A.length : Int)) (.ite (roomFor (tab 9) ((X ++ [[TC.s t]]) ++ [[TC.s ((nth (row A i) 0).str)]]).length) (.ok (.inl (A, t, ((X ++ [[TC.s t]]) ++ [[TC.s ((nth (row A i) 0).str)]]), true, (IntKind.wrap .i64 (i + (1 : Int))))))
          .no)
         .no)
        .no)
       (.ite ((0 : Int) ≤ i ∧ i < (A.length : Int)) (.ite (roomFor (tab 9) (X ++ [[TC.s ((nth (row A i) 0).str)]]).length) (.ok (.inl (A, t, (X ++ [[TC.s ((nth (row A i) 0).str)]]), true, (IntKind.wrap .i64 (i + (1 : Int))))))
         .no)
        .no))
      .no)
     (.ite ((0 : Int) ≤ i ∧ i < (A.length : Int)) (.ite (roomFor (tab 9) (X ++ [[TC.s ((nth (row A i) 0).str)]]).length) (.ok (.inl (A, t, (X ++ [[TC.s ((nth (row A i) 0).str)]]), d, (IntKind.wrap .i64 (i + (1 : Int))))))
       .no)
      .no))
    .no)
   (.ite ((0 : Int) ≤ i ∧ i < (A.length : Int)) (.ite (roomFor (tab 9) (X ++ [[TC.s ((nth (row A i) 0).str)]]).length) (.ok (.inl (A, t, (X ++ [[TC.s ((nth (row A i) 0).str)]]), d, (IntKind.wrap .i64 (i + (1 : Int))))))
     .no)
    .no))
  (.ok (.inr (t, X, d))))
def qs_4_st : qs_4_σ → Tr (qs_4_σ ⊕ qs_4_ω) := fun x => (qs_4_step (x.1) (x.2.1) (x.2.2.1) (x.2.2.2.1) (x.2.2.2.2))
def qs_o4_1 (A : LL) (t : BS) (X : LL) (d : Bool) (i : Int) : Bool := is (i = 0 ∧ X = [] ∧ d = false ∧ A.length ≤ 100000)
def qs_u4_1_1 (A : LL) (t : BS) (X : LL) (d : Bool) (i : Int) : LL := (A.foldl (insF t) ([], false)).1
def qs_u4_1_2 (A : LL) (t : BS) (X : LL) (d : Bool) (i : Int) : Bool := (A.foldl (insF t) ([], false)).2
def qs_4_fin (A : LL) (t : BS) (X : LL) (d : Bool) (i : Int) : Told qs_4_ω := (.leaf (qs_o4_1 A t X d i) (t, (qs_u4_1_1 A t X d i), (qs_u4_1_2 A t X d i)))
def qs_4_sl (x : qs_4_σ) : List Slot := [⟨.val false [⟨.slice 9, .sh, TC.l (x.1)⟩], ⟨0, 0⟩⟩, ⟨.val false [⟨.str, .sh, TC.s (x.2.1)⟩], ⟨0, 0⟩⟩, ⟨.val false [⟨.slice 9, .own true, TC.l (x.2.2.1)⟩], ⟨0, 0⟩⟩, ⟨.val false [⟨.bool, .sh, TC.b (x.2.2.2.1)⟩], ⟨0, 0⟩⟩, ⟨.val false [⟨.int .i64, .sh, TC.i (x.2.2.2.2)⟩], ⟨0, 0⟩⟩]
def qs_4_out : qs_4_ω → Ex × List Slot := (fun x => (.exit 0, [⟨.val false [⟨.str, .sh, TC.s (x.1)⟩], ⟨0, 0⟩⟩, Slot.none, ⟨.val false [⟨.slice 9, .own true, TC.l (x.2.1)⟩], ⟨0, 0⟩⟩, ⟨.val false [⟨.bool, .sh, TC.b (x.2.2)⟩], ⟨0, 0⟩⟩]))
def qs_lo4 : List Slot → Option (Told (Ex × List Slot)) := fun s => match s with
  | [⟨.val false [⟨.slice 9, .sh, TC.l A⟩], ⟨0, 0⟩⟩, ⟨.val false [⟨.str, .sh, TC.s t⟩], ⟨0, 0⟩⟩, ⟨.val false [⟨.slice 9, .own true, TC.l X⟩], ⟨0, 0⟩⟩, ⟨.val false [⟨.bool, .sh, TC.b d⟩], ⟨0, 0⟩⟩, ⟨.val false [⟨.int .i64, .sh, TC.i i⟩], ⟨0, 0⟩⟩] => some (((qs_4_fin A t X d i)).map qs_4_out)
  | _ => .none
def qs_lo : LoopTeller := fun r s => bif Nat.beq r 4 then qs_lo4 s else .none
theorem qs_4_r (A : LL) (t : BS) (X : LL) (d : Bool) (i : Int) (fuel : Nat) : rounds (rnd tab FT D16 live 35 qs_lo 0 4) leave (fuel + 1) (qs_4_sl (A, t, X, d, i)) = ((qs_4_step A t X d i)).run (goOn (fun s => rounds (rnd tab FT D16 live 35 qs_lo 0 4) leave fuel (qs_4_sl s)) fun w => some (qs_4_out w)) := by kernel_rfl
theorem qs_4_h (A : LL) (t : BS) (X : LL) (d : Bool) (i : Int) (ow : qs_4_ω) : ((qs_4_fin A t X d i)).val = some ow → ∃ fuel, loopN qs_4_st fuel (A, t, X, d, i) = some ow := by
  intro h
  refine auto_leaf (R := (t, (A.foldl (insF t) ([], false)).1, (A.foldl (insF t) ([], false)).2)) (fun ho => ?_) h
  obtain ⟨rfl, rfl, rfl, hlen⟩ := is_iff.1 ho
  have key : ∀ (rest : LL) (j : Nat) (a : LL) (d : Bool), A.drop j = rest → a.length ≤ 2 * j → ∃ M, loopN qs_4_st M (A, t, a, d, (j : Int)) = some (t, (rest.foldl (insF t) (a, d)).1, (rest.foldl (insF t) (a, d)).2) := by
    intro rest
    induction rest with
    | nil =>
      intro j a d hd h0
      have hj : A.length ≤ j := by have := congrArg List.length hd; rw [List.length_drop, List.length_nil] at this; omega
      refine ⟨1, loopN_end ?_⟩
      show (qs_4_step A t a d (j : Int)).val = _
      unfold qs_4_step
      refine Tr.n (by simp; omega) ?_
      rfl
    | cons x rest ih =>
      intro j a d hd h0
      obtain ⟨hj, hrow, hdr⟩ := row_drop hd
      have hfl : (insF t (a, d) x).1.length ≤ 2 * (j + 1) := by
        unfold insF
        cases !d && !(bytesLess (nth x 0).str t) with
        | false => show (a ++ [[TC.s (nth x 0).str]]).length ≤ _; rw [List.length_append]; simp; omega
        | true =>
          show ((bif (nth x 0).str == t then a else a ++ [[TC.s t]]) ++ [[TC.s (nth x 0).str]]).length ≤ _
          cases (nth x 0).str == t <;> simp <;> omega
      obtain ⟨M, hM⟩ := ih (j + 1) (insF t (a, d) x).1 (insF t (a, d) x).2 hdr hfl
      refine ⟨M + 1, (loopN_next ?_).trans (hM.trans rfl)⟩
      show (qs_4_step A t a d (j : Int)).val = _
      unfold qs_4_step
      rw [hrow, wrap64 (i := (j : Int) + 1) (by omega) (by omega)]
      have hroom : ∀ l : LL, l.length ≤ 2 * j + 2 → roomFor (tab 9) l.length := fun l hl => by unfold roomFor; simp only [show (tab 9).bytes = 16 from rfl]; omega
      have hi : (0 : Int) ≤ (j : Int) ∧ (j : Int) < (A.length : Int) := ⟨by omega, by omega⟩
      refine Tr.t (by simp; omega) ?_
      unfold insF
      cases d with
      | true =>
        refine Tr.n (by simp) (Tr.t hi (Tr.t (hroom _ (by simp; omega)) ?_))
        rfl
      | false =>
        refine Tr.t rfl (Tr.t hi ?_)
        cases hb : bytesLess (nth x 0).str t with
        | true =>
          refine Tr.n (by simp) (Tr.t hi (Tr.t (hroom _ (by simp; omega)) ?_))
          rfl
        | false =>
          refine Tr.t rfl (Tr.t hi ?_)
          cases he : ((nth x 0).str == t) with
          | true =>
            refine Tr.n (by simp) (Tr.t hi (Tr.t (hroom _ (by simp; omega)) ?_))
            rfl
          | false =>
            refine Tr.t rfl (Tr.t (hroom _ (by simp; omega)) (Tr.t hi (Tr.t (hroom _ (by simp; omega)) ?_)))
            rfl
  exact key A 0 [] false rfl (by simp)
theorem qs_is4 : LoopIs tab FT D16 live 35 qs_lo 0 4 := by
  refine loop_told (sl := qs_4_sl) (step := qs_4_st) (out := qs_4_out) (lor := qs_lo4) (fin := fun x => (qs_4_fin (x.1) (x.2.1) (x.2.2.1) (x.2.2.2.1) (x.2.2.2.2))) (fun _ => rfl) ?_ (fun x n => qs_4_r x.1 x.2.1 x.2.2.1 x.2.2.2.1 x.2.2.2.2 n) (fun x ow => qs_4_h x.1 x.2.1 x.2.2.1 x.2.2.2.1 x.2.2.2.2 ow)
  intro s t h
  unfold qs_lo4 at h
  split at h
  · cases h; exact ⟨(_, _, _, _, _), rfl, rfl⟩
  · cases h
def qs_t (A : LL) (t : BS) : Tr (LL) := (.ite ((qs_o4_1 A t [] false (0 : Int)) = true) (.ite ((!(qs_u4_1_2 A t [] false (0 : Int))) = true) (.ite (roomFor (tab 9) ((qs_u4_1_1 A t [] false (0 : Int)) ++ [[TC.s t]]).length) (.ok ((qs_u4_1_1 A t [] false (0 : Int)) ++ [[TC.s t]]))
    .no)
   (.ok (qs_u4_1_1 A t [] false (0 : Int))))
  .no)
def qs_mk (p : LL) : Res := [(false, [⟨.slice 9, .own true, TC.l p⟩])]
def qs_c (A : LL) (t : BS) : Bool := is (A.length ≤ 50000)
def qs_v (A : LL) (t : BS) : LL := insV A t
theorem qs_l (A : LL) (t : BS) : (qs_c A t) = true → (qs_t A t).val = some (qs_v A t) := by
  intro h
  have h := is_iff.1 h
  unfold qs_t qs_v
  refine Tr.t (is_true ⟨rfl, rfl, rfl, by omega⟩) ?_
  have hl := insF_len (t := t) (A := A) (a := [])
  have e1 : qs_u4_1_2 A t [] false 0 = (A.foldl (insF t) ([], false)).2 := rfl
  have e2 : qs_u4_1_1 A t [] false 0 = (A.foldl (insF t) ([], false)).1 := rfl
  rw [e1, e2]
  unfold insV
  cases hd : (A.foldl (insF t) ([], false)).2 with
  | true =>
    refine Tr.n (by simp) ?_
    rfl
  | false =>
    have := hl.2 hd
    refine Tr.t rfl (Tr.t (by unfold roomFor; simp only [show (tab 9).bytes = 16 from rfl, List.length_append, this]; simp; omega) ?_)
    rfl
def qs_S : List Arg → Option (Bool × Res) := fun xs => match xs with
  | [(false, [(.slice 9, TC.l A)]), (false, [(.str, TC.s t)])] => some ((qs_c A t), qs_mk (qs_v A t))
  | _ => .none
theorem qs_e (A : LL) (t : BS) : runF tab FT D16 live 35 qs_lo [(false, [(.slice 9, TC.l A)]), (false, [(.str, TC.s t)])] = (qs_t A t).run fun p => some (qs_mk p) := by kernel_rfl
theorem qs_s : ∀ xs r, qs_S xs = some (true, r) → runF tab FT D16 live 35 qs_lo xs = some r := by
  intro xs r h
  unfold qs_S at h
  split at h
  · obtain ⟨h1, rfl⟩ := sp h
    exact fun_told (qs_e ..) (qs_l _ _) h1
  · cases h
def D17 : Dt := also D16 35 qs_S
theorem d17 : DOk Go.Proofs.Try.prog tab D17 := d16.also mixed_ok tab_ok names_ok (fnLoops_one (by kernel_rfl) qs_is4) qs_s
section
class qg_O where n : Nat
variable [i_spec_l25Names : qg_O]
def qg_rc (A : LL) (u : List TC) : Bool := is (rowsDep (nth u 3).list < qg_O.n ∧ Typed tab (.slice 31) (.l (nth u 3).list) ∧ A.length + numX u ≤ 40000)
def qg_rv (A : LL) (u : List TC) : LL × LL := (A, insX A u)
def qg_rmk (p : LL × LL) : Res := [(true, [⟨.slice 9, .gone, TC.l (p.1)⟩]), (false, [⟨.slice 9, .own true, TC.l (p.2)⟩])]
def qg_rS : List Arg → Option (Bool × Res) := fun xs => match xs with
  | [(false, [(.slice 9, TC.l A)]), (false, [(.ptr 31, TC.p u)])] => some ((qg_rc A u), qg_rmk (qg_rv A u))
  | _ => .none
def D18 : Dt := alsoW D17 24 qg_rS
class qg_G : Prop where ok : DOk Go.Proofs.Try.prog tab D18
variable [g_spec_l25Names : qg_G]
theorem d18 : DOk Go.Proofs.Try.prog tab D18 := qg_G.ok
abbrev qg_4_σ := LL × List TC × Int × LL
abbrev qg_4_ω := (LL × LL)
def qg_4_step (X : LL) (u : List TC) (i : Int) (Z : LL) : Tr (qg_4_σ ⊕ qg_4_ω) := (.ite ((decide (i < (((nth u 3).list).length : Int))) = true) (.ite ((0 : Int) ≤ i ∧ i < (((nth u 3).list).length : Int)) (.ite ((qg_rc X (row ((nth u 3).list) i)) = true) (.ok (.inl ((qg_rv X (row ((nth u 3).list) i)).2, u, (IntKind.wrap .i64 (i + (1 : Int))), Z)))
    .no)
   .no)
  (.ok (.inr (X, Z))))
def qg_4_st : qg_4_σ → Tr (qg_4_σ ⊕ qg_4_ω) := fun x => (qg_4_step (x.1) (x.2.1) (x.2.2.1) (x.2.2.2))
def qg_o4_1 (X : LL) (u : List TC) (i : Int) (Z : LL) : Bool := is (i = 0 ∧ (nth u 3).list.length ≤ 140737488355328 ∧ X.length + sumX (nth u 3).list ≤ 40000 ∧ ∀ (x : List TC) (a : LL), x ∈ (nth u 3).list → a.length + numX x ≤ 40000 → qg_rc a x = true)
def qg_u4_1_0 (X : LL) (u : List TC) (i : Int) (Z : LL) : LL := (nth u 3).list.foldl insX X
def qg_4_fin (X : LL) (u : List TC) (i : Int) (Z : LL) : Told qg_4_ω := (.leaf (qg_o4_1 X u i Z) ((qg_u4_1_0 X u i Z), Z))
def qg_4_sl (x : qg_4_σ) : List Slot := [⟨.val false [⟨.slice 9, .own true, TC.l (x.1)⟩], ⟨0, 0⟩⟩, ⟨.val false [⟨.ptr 31, .sh, TC.p (x.2.1)⟩], ⟨0, 0⟩⟩, ⟨.val false [⟨.int .i64, .sh, TC.i (x.2.2.1)⟩], ⟨0, 0⟩⟩, ⟨.gv [⟨.slice 9, .gone, TC.l (x.2.2.2)⟩], ⟨0, 0⟩⟩]
def qg_4_out : qg_4_ω → Ex × List Slot := (fun x => (.exit 0, [⟨.val false [⟨.slice 9, .own true, TC.l (x.1)⟩], ⟨0, 0⟩⟩, Slot.none, ⟨.gv [⟨.slice 9, .gone, TC.l (x.2)⟩], ⟨0, 0⟩⟩]))
def qg_lo4 : List Slot → Option (Told (Ex × List Slot)) := fun s => match s with
  | [⟨.val false [⟨.slice 9, .own true, TC.l X⟩], ⟨0, 0⟩⟩, ⟨.val false [⟨.ptr 31, .sh, TC.p u⟩], ⟨0, 0⟩⟩, ⟨.val false [⟨.int .i64, .sh, TC.i i⟩], ⟨0, 0⟩⟩, ⟨.gv [⟨.slice 9, .gone, TC.l Z⟩], ⟨0, 0⟩⟩] => some (((qg_4_fin X u i Z)).map qg_4_out)
  | _ => .none
def qg_lo : LoopTeller := fun r s => bif Nat.beq r 4 then qg_lo4 s else .none
theorem qg_4_r (X : LL) (u : List TC) (i : Int) (Z : LL) (fuel : Nat) : rounds (rnd tab FT D18 live 24 qg_lo 0 4) leave (fuel + 1) (qg_4_sl (X, u, i, Z)) = ((qg_4_step X u i Z)).run (goOn (fun s => rounds (rnd tab FT D18 live 24 qg_lo 0 4) leave fuel (qg_4_sl s)) fun w => some (qg_4_out w)) := by kernel_rfl
theorem qg_4_h (X : LL) (u : List TC) (i : Int) (Z : LL) (ow : qg_4_ω) : ((qg_4_fin X u i Z)).val = some ow → ∃ fuel, loopN qg_4_st fuel (X, u, i, Z) = some ow := by
  intro h
  refine auto_leaf (R := ((nth u 3).list.foldl insX X, Z)) (fun ho => ?_) h
  obtain ⟨rfl, hlen, hs, hr⟩ := is_iff.1 ho
  have key : ∀ (rest : LL) (j : Nat) (a : LL), (nth u 3).list.drop j = rest → a.length + sumX rest ≤ 40000 → ∃ M, loopN qg_4_st M (a, u, (j : Int), Z) = some (rest.foldl insX a, Z) := by
    intro rest
    induction rest with
    | nil =>
      intro j a hd h0
      have hj : (nth u 3).list.length ≤ j := by have := congrArg List.length hd; rw [List.length_drop, List.length_nil] at this; omega
      refine ⟨1, loopN_end ?_⟩
      show (qg_4_step a u (j : Int) Z).val = _
      unfold qg_4_step
      refine Tr.n (by simp; omega) ?_
      rfl
    | cons x rest ih =>
      intro j a hd h0
      obtain ⟨hj, hrow, hdr⟩ := row_drop hd
      have hx : x ∈ (nth u 3).list := by rw [← hrow, row_nat]; exact mem_getD hj
      have hil := ins_len _ x a (Nat.le_refl _)
      rw [sumX_cons] at h0
      obtain ⟨M, hM⟩ := ih (j + 1) (insX a x) hdr (by omega)
      refine ⟨M + 1, (loopN_next ?_).trans hM⟩
      show (qg_4_step a u (j : Int) Z).val = _
      unfold qg_4_step
      rw [hrow]
      refine Tr.t (by simp; omega) (Tr.t ⟨by omega, by omega⟩ (Tr.t (hr x a hx (by omega)) ?_))
      rw [Tr.val_ok, wrap64 (i := (j : Int) + 1) (by omega) (by omega)]
      rfl
  exact key _ 0 X rfl hs
theorem qg_is4 : LoopIs tab FT D18 live 24 qg_lo 0 4 := by
  refine loop_told (sl := qg_4_sl) (step := qg_4_st) (out := qg_4_out) (lor := qg_lo4) (fin := fun x => (qg_4_fin (x.1) (x.2.1) (x.2.2.1) (x.2.2.2))) (fun _ => rfl) ?_ (fun x n => qg_4_r x.1 x.2.1 x.2.2.1 x.2.2.2 n) (fun x ow => qg_4_h x.1 x.2.1 x.2.2.1 x.2.2.2 ow)
  intro s t h
  unfold qg_lo4 at h
  split at h
  · cases h; exact ⟨(_, _, _, _), rfl, rfl⟩
  · cases h
def qg_t (A : LL) (u : List TC) : Tr (LL × LL) := (.ite (((nth u 0).int == (2 : Int)) = true) (.ite ((qs_c A ((nth u 2).str)) = true) (.ite ((qg_o4_1 (qs_v A ((nth u 2).str)) u (0 : Int) A) = true) (.ok (A, (qg_u4_1_0 (qs_v A ((nth u 2).str)) u (0 : Int) A)))
    .no)
   .no)
  (.ite ((qg_o4_1 A u (0 : Int) A) = true) (.ok (A, (qg_u4_1_0 A u (0 : Int) A)))
   .no))
def qg_mk (p : LL × LL) : Res := [(true, [⟨.slice 9, .gone, TC.l (p.1)⟩]), (false, [⟨.slice 9, .own true, TC.l (p.2)⟩])]
def qg_c (A : LL) (u : List TC) : Bool := (bif ((nth u 0).int == (2 : Int)) then ((qs_c A ((nth u 2).str)) && ((qg_o4_1 (qs_v A ((nth u 2).str)) u (0 : Int) A) && true)) else ((qg_o4_1 A u (0 : Int) A) && true))
def qg_v (A : LL) (u : List TC) : LL × LL := (bif ((nth u 0).int == (2 : Int)) then (A, (qg_u4_1_0 (qs_v A ((nth u 2).str)) u (0 : Int) A)) else (A, (qg_u4_1_0 A u (0 : Int) A)))
theorem qg_l (A : LL) (u : List TC) : (qg_c A u) = true → (qg_t A u).val = some (qg_v A u) := by
  unfold qg_t qg_v qg_c
  exact fun h => (Tr.ss h (fun h => (Tr.gb h fun h => (Tr.gb h fun h => rfl))) (fun h => (Tr.gb h fun h => rfl)))
theorem qg_e (A : LL) (u : List TC) : runFW true tab FT D18 live 24 qg_lo (false, [(.slice 9, TC.l A)]) [(false, [(.ptr 31, TC.p u)])] = (qg_t A u).run fun p => some (qg_mk p) := by kernel_rfl
theorem qg_nx (A : LL) (u : List TC) : is (rowsDep (nth u 3).list < qg_O.n + 1 ∧ Typed tab (.slice 31) (.l (nth u 3).list) ∧ A.length + numX u ≤ 40000) = true → (qg_c A u) = true ∧ (qg_v A u) = (A, insX A u) := by
  intro h
  obtain ⟨hM, t3, hn⟩ := is_iff.1 h
  have hl := typed_room t3
  simp only [show (tab 31).bytes = 80 from rfl] at hl
  have en : numX u = 1 + sumX (nth u 3).list := numE_eq
  have ho : ∀ X Z : LL, X.length ≤ A.length + 1 → qg_o4_1 X u 0 Z = true := fun X Z hX => is_true ⟨rfl, by omega, by omega, fun x a hx ha => is_true ⟨by have := dep_cell hx 3; omega, typed_list ((typed_elem t3 hx).2 3 (by decide)), ha⟩⟩
  have ht : qs_c A (nth u 2).str = true := is_true (by omega)
  unfold qg_c qg_v insX
  rw [insG_eq, ht, ho A A (by omega)]
  have h2 : qg_o4_1 (qs_v A (nth u 2).str) u 0 A = true := ho _ _ insV_len
  rw [h2]
  cases ((nth u 0).int == 2) <;> exact ⟨rfl, rfl⟩
theorem qg_nxr (A : LL) (u : List TC) : qg_rc (i_spec_l25Names := ⟨qg_O.n + 1⟩) A u = true → (qg_c A u) = true ∧ (qg_v A u) = (qg_rv A u) := fun h => qg_nx A u h
theorem qg_rs0 : ∀ ys r, qg_rS (i_spec_l25Names := ⟨qg_O.n + 1⟩) ys = some (true, r) → ∀ a0 xs, ys = a0 :: xs → runFW true tab FT D18 live 24 qg_lo a0 xs = some r := by
  intro ys r h
  unfold qg_rS at h
  split at h
  · obtain ⟨h1, rfl⟩ := sp h
    intro a0 xs e
    cases e
    have hx := qg_nxr _ _ h1
    have ht := fun_toldW (qg_e ..) (qg_l _ _) hx.1
    rw [hx.2] at ht
    exact ht
  · cases h
theorem qg_rs : ∀ a0 xs r, qg_rS (i_spec_l25Names := ⟨qg_O.n + 1⟩) (a0 :: xs) = some (true, r) → runFW true tab FT D18 live 24 qg_lo a0 xs = some r := fun a0 xs r h => qg_rs0 _ r h a0 xs rfl
theorem qg_step : qg_G (i_spec_l25Names := ⟨qg_O.n + 1⟩) := by
  have h := DOk.alsoW2 (S := qg_rS (i_spec_l25Names := ⟨qg_O.n + 1⟩)) mixed_ok tab_ok names_ok d17 d18 (fnLoops_one (by kernel_rfl) qg_is4) qg_rs
  refine qg_G.mk (i_spec_l25Names := ⟨qg_O.n + 1⟩) ?_
  exact h
def qbg_t (a0 a1 : Int) (a2 : BS) (a3 a4 : LL) : Tr (LL) := (.ite ((qbj_c a0 a1 a2 a3 a4) = true) (.ite ((!(qbj_v a0 a1 a2 a3 a4)) = true) (.ok ([]))
   (.ite ((qg_rc [] [TC.i a0, TC.i a1, TC.s a2, TC.l a3, TC.l a4]) = true) (.ok ((qg_rv [] [TC.i a0, TC.i a1, TC.s a2, TC.l a3, TC.l a4]).2))
    .no))
  .no)
def qbg_mk (p : LL) : Res := [(false, [⟨.slice 9, .own true, TC.l p⟩])]
def qbg_c (a0 a1 : Int) (a2 : BS) (a3 a4 : LL) : Bool := ((qbj_c a0 a1 a2 a3 a4) && (bif (!(qbj_v a0 a1 a2 a3 a4)) then true else ((qg_rc [] [TC.i a0, TC.i a1, TC.s a2, TC.l a3, TC.l a4]) && true)))
def qbg_v (a0 a1 : Int) (a2 : BS) (a3 a4 : LL) : LL := (bif (!(qbj_v a0 a1 a2 a3 a4)) then [] else (qg_rv [] [TC.i a0, TC.i a1, TC.s a2, TC.l a3, TC.l a4]).2)
theorem qbg_l (a0 a1 : Int) (a2 : BS) (a3 a4 : LL) : (qbg_c a0 a1 a2 a3 a4) = true → (qbg_t a0 a1 a2 a3 a4).val = some (qbg_v a0 a1 a2 a3 a4) := by
  unfold qbg_t qbg_v qbg_c
  exact fun h => (Tr.gb h fun h => (Tr.ss h (fun h => rfl) (fun h => (Tr.gb h fun h => rfl))))
def qbg_S : List Arg → Option (Bool × Res) := fun xs => match xs with
  | [(true, [(.int .i64, TC.i a0), (.int .i64, TC.i a1), (.str, TC.s a2), (.slice 31, TC.l a3), (.slice 59, TC.l a4)])] => some ((qbg_c a0 a1 a2 a3 a4), qbg_mk (qbg_v a0 a1 a2 a3 a4))
  | _ => .none
theorem qbg_e (a0 a1 : Int) (a2 : BS) (a3 a4 : LL) : runF tab FT D18 live 10 noLoops [(true, [(.int .i64, TC.i a0), (.int .i64, TC.i a1), (.str, TC.s a2), (.slice 31, TC.l a3), (.slice 59, TC.l a4)])] = (qbg_t a0 a1 a2 a3 a4).run fun p => some (qbg_mk p) := by kernel_rfl
theorem qbg_s : ∀ xs r, qbg_S xs = some (true, r) → runF tab FT D18 live 10 noLoops xs = some r := by
  intro xs r h
  unfold qbg_S at h
  split at h
  · obtain ⟨h1, rfl⟩ := sp h
    exact fun_told (qbg_e ..) (qbg_l _ _ _ _ _) h1
  · cases h
def D19 : Dt := also D18 10 qbg_S
theorem d19 : DOk Go.Proofs.Try.prog tab D19 := d18.also mixed_ok tab_ok names_ok noLoops_ok qbg_s
def qbl_t (a0 a1 a2 : Int) : Tr (Bool) := (.ite ((decide (a0 ≥ a1)) = true) (.ok (decide (a0 ≤ a2)))
  (.ok false))
def qbl_mk (p : Bool) : Res := [(false, [⟨.bool, .sh, TC.b p⟩])]
def qbl_c (a0 a1 a2 : Int) : Bool := true
def qbl_v (a0 a1 a2 : Int) : Bool := (bif (decide (a0 ≥ a1)) then (decide (a0 ≤ a2)) else false)
theorem qbl_l (a0 a1 a2 : Int) : (qbl_c a0 a1 a2) = true → (qbl_t a0 a1 a2).val = some (qbl_v a0 a1 a2) := by
  intro h
  skip
  unfold qbl_t qbl_v
  exact (Tr.s rfl rfl)
def qbl_S : List Arg → Option (Bool × Res) := fun xs => match xs with
  | [(false, [(.int .i64, TC.i a0)]), (false, [(.int .i64, TC.i a1)]), (false, [(.int .i64, TC.i a2)])] => some (true, qbl_mk (qbl_v a0 a1 a2))
  | _ => .none
theorem qbl_e (a0 a1 a2 : Int) : runF tab FT D19 live 44 noLoops [(false, [(.int .i64, TC.i a0)]), (false, [(.int .i64, TC.i a1)]), (false, [(.int .i64, TC.i a2)])] = (qbl_t a0 a1 a2).run fun p => some (qbl_mk p) := by kernel_rfl
theorem qbl_s : ∀ xs r, qbl_S xs = some (true, r) → runF tab FT D19 live 44 noLoops xs = some r := by
  intro xs r h
  unfold qbl_S at h
  split at h
  · obtain ⟨h1, rfl⟩ := sp h
    exact fun_told (qbl_e ..) (qbl_l _ _ _) rfl
  · cases h
def D20 : Dt := also D19 44 qbl_S
theorem d20 : DOk Go.Proofs.Try.prog tab D20 := d19.also mixed_ok tab_ok names_ok noLoops_ok qbl_s
def qbt_t (a0 : Int) : Tr (Bool) := .ok (qbl_v a0 (6 : Int) (16 : Int))
def qbt_mk (p : Bool) : Res := [(false, [⟨.bool, .sh, TC.b p⟩])]
def qbt_c (a0 : Int) : Bool := true
def qbt_v (a0 : Int) : Bool := (qbl_v a0 (6 : Int) (16 : Int))
theorem qbt_l (a0 : Int) : (qbt_c a0) = true → (qbt_t a0).val = some (qbt_v a0) := by
  intro h
  skip
  unfold qbt_t qbt_v
  exact rfl
def qbt_S : List Arg → Option (Bool × Res) := fun xs => match xs with
  | [(false, [(.int .i64, TC.i a0)])] => some (true, qbt_mk (qbt_v a0))
  | _ => .none
theorem qbt_e (a0 : Int) : runF tab FT D20 live 43 noLoops [(false, [(.int .i64, TC.i a0)])] = (qbt_t a0).run fun p => some (qbt_mk p) := by kernel_rfl
theorem qbt_s : ∀ xs r, qbt_S xs = some (true, r) → runF tab FT D20 live 43 noLoops xs = some r := by
  intro xs r h
  unfold qbt_S at h
  split at h
  · obtain ⟨h1, rfl⟩ := sp h
    exact fun_told (qbt_e _) (qbt_l _) rfl
  · cases h
def D21 : Dt := also D20 43 qbt_S
theorem d21 : DOk Go.Proofs.Try.prog tab D21 := d20.also mixed_ok tab_ok names_ok noLoops_ok qbt_s
def qp_f2 (s : BS) (m i : Int) : (Unit) ⊕ ((BS) ⊕ (BS)) := (bif (decide (((s.getD (i).toNat 0).toNat : Int) ≥ (65 : Int))) then (bif (decide (((s.getD (i).toNat 0).toNat : Int) ≤ (90 : Int))) then (.inl ()) else (bif (decide (((s.getD (i).toNat 0).toNat : Int) ≥ (97 : Int))) then (bif (!(decide (((s.getD (i).toNat 0).toNat : Int) ≤ (122 : Int)))) then (bif (i == (0 : Int)) then (.inr (.inl s)) else (bif (decide (((s.getD (i).toNat 0).toNat : Int) < (48 : Int))) then (bif (!(((s.getD (i).toNat 0).toNat : Int) == (95 : Int))) then (.inr (.inl s)) else (.inl ())) else (bif (decide (((s.getD (i).toNat 0).toNat : Int) > (57 : Int))) then (bif (!(((s.getD (i).toNat 0).toNat : Int) == (95 : Int))) then (.inr (.inl s)) else (.inl ())) else (.inl ())))) else (.inl ())) else (bif (i == (0 : Int)) then (.inr (.inl s)) else (bif (decide (((s.getD (i).toNat 0).toNat : Int) < (48 : Int))) then (bif (!(((s.getD (i).toNat 0).toNat : Int) == (95 : Int))) then (.inr (.inl s)) else (.inl ())) else (bif (decide (((s.getD (i).toNat 0).toNat : Int) > (57 : Int))) then (bif (!(((s.getD (i).toNat 0).toNat : Int) == (95 : Int))) then (.inr (.inl s)) else (.inl ())) else (.inl ())))))) else (bif (decide (((s.getD (i).toNat 0).toNat : Int) ≥ (97 : Int))) then (bif (!(decide (((s.getD (i).toNat 0).toNat : Int) ≤ (122 : Int)))) then (bif (i == (0 : Int)) then (.inr (.inl s)) else (bif (decide (((s.getD (i).toNat 0).toNat : Int) < (48 : Int))) then (bif (!(((s.getD (i).toNat 0).toNat : Int) == (95 : Int))) then (.inr (.inl s)) else (.inl ())) else (bif (decide (((s.getD (i).toNat 0).toNat : Int) > (57 : Int))) then (bif (!(((s.getD (i).toNat 0).toNat : Int) == (95 : Int))) then (.inr (.inl s)) else (.inl ())) else (.inl ())))) else (.inl ())) else (bif (i == (0 : Int)) then (.inr (.inl s)) else (bif (decide (((s.getD (i).toNat 0).toNat : Int) < (48 : Int))) then (bif (!(((s.getD (i).toNat 0).toNat : Int) == (95 : Int))) then (.inr (.inl s)) else (.inl ())) else (bif (decide (((s.getD (i).toNat 0).toNat : Int) > (57 : Int))) then (bif (!(((s.getD (i).toNat 0).toNat : Int) == (95 : Int))) then (.inr (.inl s)) else (.inl ())) else (.inl ()))))))
def qp_e2 (s : BS) (m : Int) : (BS) ⊕ (BS) := .inr s
def qp_R2 (s : BS) (m i : Int) : (BS) ⊕ (BS) := iter (fun i a => (qp_f2 s m (i : Int))) (fun a => (qp_e2 s m)) (s.length) 0 ()
abbrev qp_2_σ := BS × Int × Int
abbrev qp_2_ω := (BS) ⊕ (BS)
def qp_2_step (s : BS) (m i : Int) : Tr (qp_2_σ ⊕ qp_2_ω) := (.ite ((decide (i < m)) = true) (.ite ((0 : Int) ≤ i ∧ i < (s.length : Int)) (.ite ((decide (((s.getD (i).toNat 0).toNat : Int) ≥ (65 : Int))) = true) (.ite ((decide (((s.getD (i).toNat 0).toNat : Int) ≤ (90 : Int))) = true) (.ok (.inl (s, m, (IntKind.wrap .i64 (i + (1 : Int))))))
     (.ite ((decide (((s.getD (i).toNat 0).toNat : Int) ≥ (97 : Int))) = true) (.ite ((!(decide (((s.getD (i).toNat 0).toNat : Int) ≤ (122 : Int)))) = true) (.ite ((i == (0 : Int)) = true) (.ok (.inr (.inl s)))
        (.ite ((decide (((s.getD (i).toNat 0).toNat : Int) < (48 : Int))) = true) (.ite ((!(((s.getD (i).toNat 0).toNat : Int) == (95 : Int))) = true) (.ok (.inr (.inl s)))
          (.ok (.inl (s, m, (IntKind.wrap .i64 (i + (1 : Int)))))))
         (.ite ((decide (((s.getD (i).toNat 0).toNat : Int) > (57 : Int))) = true) (.ite ((!(((s.getD (i).toNat 0).toNat : Int) == (95 : Int))) = true) (.ok (.inr (.inl s)))
           (.ok (.inl (s, m, (IntKind.wrap .i64 (i + (1 : Int)))))))
          (.ok (.inl (s, m, (IntKind.wrap .i64 (i + (1 : Int)))))))))
       (.ok (.inl (s, m, (IntKind.wrap .i64 (i + (1 : Int)))))))
      (.ite ((i == (0 : Int)) = true) (.ok (.inr (.inl s)))
       (.ite ((decide (((s.getD (i).toNat 0).toNat : Int) < (48 : Int))) = true) (.ite ((!(((s.getD (i).toNat 0).toNat : Int) == (95 : Int))) = true) (.ok (.inr (.inl s)))
         (.ok (.inl (s, m, (IntKind.wrap .i64 (i + (1 : Int)))))))
        (.ite ((decide (((s.getD (i).toNat 0).toNat : Int) > (57 : Int))) = true) (.ite ((!(((s.getD (i).toNat 0).toNat : Int) == (95 : Int))) = true) (.ok (.inr (.inl s)))
          (.ok (.inl (s, m, (IntKind.wrap .i64 (i + (1 : Int)))))))
         (.ok (.inl (s, m, (IntKind.wrap .i64 (i + (1 : Int)))))))))))
    (.ite ((decide (((s.getD (i).toNat 0).toNat : Int) ≥ (97 : Int))) = true) (.ite ((!(decide (((s.getD (i).toNat 0).toNat : Int) ≤ (122 : Int)))) = true) (.ite ((i == (0 : Int)) = true) (.ok (.inr (.inl s)))
       (.ite ((decide (((s.getD (i).toNat 0).toNat : Int) < (48 : Int))) = true) (.ite ((!(((s.getD (i).toNat 0).toNat : Int) == (95 : Int))) = true) (.ok (.inr (.inl s)))
         (.ok (.inl (s, m, (IntKind.wrap .i64 (i + (1 : Int)))))))
        (.ite ((decide (((s.getD (i).toNat 0).toNat : Int) > (57 : Int))) = true) (.ite ((!(((s.getD (i).toNat 0).toNat : Int) == (95 : Int))) = true) (.ok (.inr (.inl s)))
          (.ok (.inl (s, m, (IntKind.wrap .i64 (i + (1 : Int)))))))
         (.ok (.inl (s, m, (IntKind.wrap .i64 (i + (1 : Int)))))))))
      (.ok (.inl (s, m, (IntKind.wrap .i64 (i + (1 : Int)))))))
     (.ite ((i == (0 : Int)) = true) (.ok (.inr (.inl s)))
      (.ite ((decide (((s.getD (i).toNat 0).toNat : Int) < (48 : Int))) = true) (.ite ((!(((s.getD (i).toNat 0).toNat : Int) == (95 : Int))) = true) (.ok (.inr (.inl s)))
        (.ok (.inl (s, m, (IntKind.wrap .i64 (i + (1 : Int)))))))
       (.ite ((decide (((s.getD (i).toNat 0).toNat : Int) > (57 : Int))) = true) (.ite ((!(((s.getD (i).toNat 0).toNat : Int) == (95 : Int))) = true) (.ok (.inr (.inl s)))
         (.ok (.inl (s, m, (IntKind.wrap .i64 (i + (1 : Int)))))))
        (.ok (.inl (s, m, (IntKind.wrap .i64 (i + (1 : Int)))))))))))
   .no)
  (.ok (.inr (.inr s))))
def qp_2_st : qp_2_σ → Tr (qp_2_σ ⊕ qp_2_ω) := fun x => (qp_2_step (x.1) (x.2.1) (x.2.2))
def qp_k2_1 (s : BS) (m i : Int) : Bool := sumIs (qp_R2 s m i)
def qp_o2_2 (s : BS) (m i : Int) : Bool := is (i = 0 ∧ s.length ≤ 140737488355328 ∧ m = (s.length : Int))
def qp_o2_3 (s : BS) (m i : Int) : Bool := is (i = 0 ∧ s.length ≤ 140737488355328 ∧ m = (s.length : Int))
def qp_2_fin (s : BS) (m i : Int) : Told qp_2_ω := (.br (qp_k2_1 s m i) (.leaf (qp_o2_2 s m i) (.inl s)) (.leaf (qp_o2_3 s m i) (.inr s)))
def qp_2_sl (x : qp_2_σ) : List Slot := [⟨.val false [⟨.str, .sh, TC.s (x.1)⟩], ⟨0, 0⟩⟩, ⟨.val false [⟨.int .i64, .sh, TC.i (x.2.1)⟩], ⟨0, 0⟩⟩, ⟨.val false [⟨.int .i64, .sh, TC.i (x.2.2)⟩], ⟨0, 0⟩⟩]
def qp_2_out : qp_2_ω → Ex × List Slot := (Sum.elim (fun x => (.ret, [⟨.val false [⟨.str, .sh, TC.s x⟩], ⟨0, 0⟩⟩, ⟨.val false [⟨.bool, .sh, TC.b false⟩], ⟨0, 0⟩⟩])) (fun x => (.exit 0, [⟨.val false [⟨.str, .sh, TC.s x⟩], ⟨0, 0⟩⟩, Slot.none])))
def qp_lo2 : List Slot → Option (Told (Ex × List Slot)) := fun s => match s with
  | [⟨.val false [⟨.str, .sh, TC.s s⟩], ⟨0, 0⟩⟩, ⟨.val false [⟨.int .i64, .sh, TC.i m⟩], ⟨0, 0⟩⟩, ⟨.val false [⟨.int .i64, .sh, TC.i i⟩], ⟨0, 0⟩⟩] => some (((qp_2_fin s m i)).map qp_2_out)
  | _ => .none
def qp_lo : LoopTeller := fun r s => bif Nat.beq r 2 then qp_lo2 s else .none
theorem qp_2_r (s : BS) (m i : Int) (fuel : Nat) : rounds (rnd tab FT D21 live 45 qp_lo 0 2) leave (fuel + 1) (qp_2_sl (s, m, i)) = ((qp_2_step s m i)).run (goOn (fun s => rounds (rnd tab FT D21 live 45 qp_lo 0 2) leave fuel (qp_2_sl s)) fun w => some (qp_2_out w)) := by kernel_rfl
theorem qp_f2_eq (s : BS) (m i : Int) : qp_f2 s m i = bif nameB i ((s.getD (i).toNat 0).toNat : Int) then Sum.inl () else Sum.inr (Sum.inl s) := by
  unfold qp_f2 nameB letterB
  simp only [dlt, dgt]
  generalize ((s.getD i.toNat 0).toNat : Int) = c
  generalize decide (c ≥ 65) = p0, decide (c ≤ 90) = p1, decide (c ≥ 97) = p2, decide (c ≤ 122) = p3, decide (c ≥ 48) = p4, decide (c ≤ 57) = p5, (c == 95) = p6, (i == 0) = p7
  cases p0 <;> cases p1 <;> cases p2 <;> cases p3 <;> cases p4 <;> cases p5 <;> cases p6 <;> cases p7 <;> rfl
theorem qp_R2_eq (s : BS) (m : Int)  : qp_R2 s m 0 = bif allI (fun i : Nat => nameB (i : Int) ((s.getD ((i : Int)).toNat 0).toNat : Int)) (s.length) then Sum.inr s else (Sum.inl s) := by
  unfold qp_R2
  exact (iter_all (P := (fun i : Nat => nameB (i : Int) ((s.getD ((i : Int)).toNat 0).toNat : Int))) (g := fun _ a => a) (w := Sum.inl s) fun j a _ => qp_f2_eq s m _)
theorem qp_2_h (s : BS) (m i : Int) (ow : qp_2_ω) : ((qp_2_fin s m i)).val = some ow → ∃ fuel, loopN qp_2_st fuel (s, m, i) = some ow := by
  refine auto_const (R := (qp_R2 s m i)) rfl (iter_onR (f := (fun i a => (qp_f2 s m (i : Int)))) (fin := (fun a => (qp_e2 s m))) (Q := endsAs s s) (fun i a => by unfold qp_f2; exact (onR_bif (onR_bif trivial (onR_bif (onR_bif (onR_bif rfl (onR_bif (onR_bif rfl trivial) (onR_bif (onR_bif rfl trivial) trivial))) trivial) (onR_bif rfl (onR_bif (onR_bif rfl trivial) (onR_bif (onR_bif rfl trivial) trivial))))) (onR_bif (onR_bif (onR_bif rfl (onR_bif (onR_bif rfl trivial) (onR_bif (onR_bif rfl trivial) trivial))) trivial) (onR_bif rfl (onR_bif (onR_bif rfl trivial) (onR_bif (onR_bif rfl trivial) trivial)))))) (fun _ => rfl) _ _ _) ?_
  intro ho
  have ho : is (i = 0 ∧ s.length ≤ 140737488355328 ∧ m = (s.length : Int)) = true := ho.elim id id
  obtain ⟨rfl, hs, rfl⟩ := is_iff.1 ho
  skip
  refine ⟨(s.length) + 1, ?_⟩
  refine iter_loop (step := qp_2_st) (s.length) (fun i a => (qp_f2 s (s.length : Int) (i : Int))) (fun a => (qp_e2 s (s.length : Int))) (fun i a => (s, (s.length : Int), (i : Int))) (fun _ _ => True) trivial (fun i a hi hI => ⟨?_, fun _ _ => trivial⟩) (fun a hI => ?_)
  · show (qp_2_step s (s.length : Int) (i : Int)).val = _
    unfold qp_2_step qp_f2
    skip
    refine Tr.t (by simp; omega) ?_
    exact (Tr.t (by first | omega | (constructor <;> omega)) (Tr.bf (Tr.bf (by rw [Tr.val_ok, wrap64 (i := (i : Int) + 1) (by omega) (by omega)]; rfl) (Tr.bf (Tr.bf (Tr.bf rfl (Tr.bf (Tr.bf rfl (by rw [Tr.val_ok, wrap64 (i := (i : Int) + 1) (by omega) (by omega)]; rfl)) (Tr.bf (Tr.bf rfl (by rw [Tr.val_ok, wrap64 (i := (i : Int) + 1) (by omega) (by omega)]; rfl)) (by rw [Tr.val_ok, wrap64 (i := (i : Int) + 1) (by omega) (by omega)]; rfl)))) (by rw [Tr.val_ok, wrap64 (i := (i : Int) + 1) (by omega) (by omega)]; rfl)) (Tr.bf rfl (Tr.bf (Tr.bf rfl (by rw [Tr.val_ok, wrap64 (i := (i : Int) + 1) (by omega) (by omega)]; rfl)) (Tr.bf (Tr.bf rfl (by rw [Tr.val_ok, wrap64 (i := (i : Int) + 1) (by omega) (by omega)]; rfl)) (by rw [Tr.val_ok, wrap64 (i := (i : Int) + 1) (by omega) (by omega)]; rfl)))))) (Tr.bf (Tr.bf (Tr.bf rfl (Tr.bf (Tr.bf rfl (by rw [Tr.val_ok, wrap64 (i := (i : Int) + 1) (by omega) (by omega)]; rfl)) (Tr.bf (Tr.bf rfl (by rw [Tr.val_ok, wrap64 (i := (i : Int) + 1) (by omega) (by omega)]; rfl)) (by rw [Tr.val_ok, wrap64 (i := (i : Int) + 1) (by omega) (by omega)]; rfl)))) (by rw [Tr.val_ok, wrap64 (i := (i : Int) + 1) (by omega) (by omega)]; rfl)) (Tr.bf rfl (Tr.bf (Tr.bf rfl (by rw [Tr.val_ok, wrap64 (i := (i : Int) + 1) (by omega) (by omega)]; rfl)) (Tr.bf (Tr.bf rfl (by rw [Tr.val_ok, wrap64 (i := (i : Int) + 1) (by omega) (by omega)]; rfl)) (by rw [Tr.val_ok, wrap64 (i := (i : Int) + 1) (by omega) (by omega)]; rfl)))))))
  · show (qp_2_step s (s.length : Int) (s.length : Int)).val = _
    refine Tr.n (by first | (simp; done) | (simp; omega) | omega) ?_
    rfl
theorem qp_is2 : LoopIs tab FT D21 live 45 qp_lo 0 2 := by
  refine loop_told (sl := qp_2_sl) (step := qp_2_st) (out := qp_2_out) (lor := qp_lo2) (fin := fun x => (qp_2_fin (x.1) (x.2.1) (x.2.2))) (fun _ => rfl) ?_ (fun x n => qp_2_r x.1 x.2.1 x.2.2 n) (fun x ow => qp_2_h x.1 x.2.1 x.2.2 ow)
  intro s t h
  unfold qp_lo2 at h
  split at h
  · cases h; exact ⟨(_, _, _), rfl, rfl⟩
  · cases h
def qp_t (s : BS) : Tr (Bool) := (.ite ((qp_k2_1 s (s.length : Int) (0 : Int)) = true) (.ite ((qp_o2_2 s (s.length : Int) (0 : Int)) = true) (.ok false)
   .no)
  (.ite ((qp_o2_3 s (s.length : Int) (0 : Int)) = true) (.ite ((decide ((s.length : Int) ≥ (1 : Int))) = true) (.ok (decide ((s.length : Int) ≤ (12 : Int))))
    (.ok false))
   .no))
def qp_mk (p : Bool) : Res := [(false, [⟨.bool, .sh, TC.b p⟩])]
def qp_c (s : BS) : Bool := (bif (qp_k2_1 s (s.length : Int) (0 : Int)) then ((qp_o2_2 s (s.length : Int) (0 : Int)) && true) else ((qp_o2_3 s (s.length : Int) (0 : Int)) && (bif (decide ((s.length : Int) ≥ (1 : Int))) then true else true)))
def qp_v (s : BS) : Bool := (bif (qp_k2_1 s (s.length : Int) (0 : Int)) then false else (bif (decide ((s.length : Int) ≥ (1 : Int))) then (decide ((s.length : Int) ≤ (12 : Int))) else false))
theorem qp_l (s : BS) : (qp_c s) = true → (qp_t s).val = some (qp_v s) := by
  unfold qp_t qp_v qp_c
  exact fun h => (Tr.ss h (fun h => (Tr.gb h fun h => rfl)) (fun h => (Tr.gb h fun h => (Tr.ss h (fun h => rfl) (fun h => rfl)))))
def qp_S : List Arg → Option (Bool × Res) := fun xs => match xs with
  | [(false, [(.str, TC.s s)])] => some ((qp_c s), qp_mk (qp_v s))
  | _ => .none
theorem qp_e (s : BS) : runF tab FT D21 live 45 qp_lo [(false, [(.str, TC.s s)])] = (qp_t s).run fun p => some (qp_mk p) := by kernel_rfl
theorem qp_s : ∀ xs r, qp_S xs = some (true, r) → runF tab FT D21 live 45 qp_lo xs = some r := by
  intro xs r h
  unfold qp_S at h
  split at h
  · obtain ⟨h1, rfl⟩ := sp h
    exact fun_told (qp_e _) (qp_l _) h1
  · cases h
def D22 : Dt := also D21 45 qp_S
theorem d22 : DOk Go.Proofs.Try.prog tab D22 := d21.also mixed_ok tab_ok names_ok (fnLoops_one (by kernel_rfl) qp_is2) qp_s
theorem qp_cc {s : BS} (hs : Typed tab (.str) (.s s)) : (qp_c s) = true := by
  unfold qp_c
  refine bifT (fun b1 => ?_) (fun b1 => ?_)
  · skip
    refine andT (by exact is_true ⟨rfl, by have := typed_str_len hs; omega, rfl⟩) ?_
    rfl
  · skip
    refine andT (by exact is_true ⟨rfl, by have := typed_str_len hs; omega, rfl⟩) ?_
    refine bifT (fun b2 => ?_) (fun b2 => ?_)
    · skip
      rfl
    · skip
      rfl
theorem qp_vv (s : BS) : qp_v s = nameOk s := by
  unfold qp_v qp_k2_1 nameOk
  rw [qp_R2_eq]
  generalize allI (fun i : Nat => nameB (i : Int) ((s.getD ((i : Int)).toNat 0).toNat : Int)) s.length = q
  cases q
  · simp [sumIs]
  · show (bif decide ((s.length : Int) ≥ 1) then decide ((s.length : Int) ≤ 12) else false) = (decide ((s.length : Int) ≥ 1) && decide ((s.length : Int) ≤ 12) && true)
    generalize decide ((s.length : Int) ≥ 1) = q1, decide ((s.length : Int) ≤ 12) = q2
    cases q1 <;> cases q2 <;> rfl
abbrev qb_2_σ := LL × BS × Int × Int
abbrev qb_2_ω := (Int) ⊕ (Unit)
def qb_2_step (A : LL) (s : BS) (m i : Int) : Tr (qb_2_σ ⊕ qb_2_ω) := (.ite ((decide (i < m)) = true) (.ite ((0 : Int) ≤ i ∧ i < (A.length : Int)) (.ite ((s == (nth (row A i) 0).str) = true) (.ok (.inr (.inl i)))
    (.ok (.inl (A, s, m, (IntKind.wrap .i64 (i + (1 : Int)))))))
   .no)
  (.ok (.inr (.inr ()))))
def qb_2_st : qb_2_σ → Tr (qb_2_σ ⊕ qb_2_ω) := fun x => (qb_2_step (x.1) (x.2.1) (x.2.2.1) (x.2.2.2))
def qb_k2_1 (A : LL) (s : BS) (m i : Int) : Bool := A.all (fun x => !(s == (nth x 0).str))
def qb_o2_2 (A : LL) (s : BS) (m i : Int) : Bool := is (i = 0 ∧ Typed tab (.slice 9) (.l A) ∧ m = (A.length : Int))
def qb_o2_3 (A : LL) (s : BS) (m i : Int) : Bool := is (i = 0 ∧ Typed tab (.slice 9) (.l A) ∧ m = (A.length : Int))
def qb_u2_3 (A : LL) (s : BS) (m i : Int) : Int := (Int.ofNat (A.findIdx fun x => !(fun x => !(s == (nth x 0).str)) x))
def qb_2_fin (A : LL) (s : BS) (m i : Int) : Told qb_2_ω := (.br (qb_k2_1 A s m i) (.leaf (qb_o2_2 A s m i) (.inr ())) (.leaf (qb_o2_3 A s m i) (.inl (qb_u2_3 A s m i))))
def qb_2_sl (x : qb_2_σ) : List Slot := [⟨.val false [⟨.slice 9, .sh, TC.l (x.1)⟩], ⟨0, 0⟩⟩, ⟨.val false [⟨.str, .sh, TC.s (x.2.1)⟩], ⟨0, 0⟩⟩, ⟨.val false [⟨.int .i64, .sh, TC.i (x.2.2.1)⟩], ⟨0, 0⟩⟩, ⟨.val false [⟨.int .i64, .sh, TC.i (x.2.2.2)⟩], ⟨0, 0⟩⟩]
def qb_2_out : qb_2_ω → Ex × List Slot := (Sum.elim (fun x => (.ret, [⟨.val false [⟨.int .i64, .sh, TC.i x⟩], ⟨0, 0⟩⟩])) (fun x => (.exit 0, [Slot.none])))
def qb_lo2 : List Slot → Option (Told (Ex × List Slot)) := fun s => match s with
  | [⟨.val false [⟨.slice 9, .sh, TC.l A⟩], ⟨0, 0⟩⟩, ⟨.val false [⟨.str, .sh, TC.s s⟩], ⟨0, 0⟩⟩, ⟨.val false [⟨.int .i64, .sh, TC.i m⟩], ⟨0, 0⟩⟩, ⟨.val false [⟨.int .i64, .sh, TC.i i⟩], ⟨0, 0⟩⟩] => some (((qb_2_fin A s m i)).map qb_2_out)
  | _ => .none
def qb_lo : LoopTeller := fun r s => bif Nat.beq r 2 then qb_lo2 s else .none
theorem qb_2_r (A : LL) (s : BS) (m i : Int) (fuel : Nat) : rounds (rnd tab FT D22 live 72 qb_lo 0 2) leave (fuel + 1) (qb_2_sl (A, s, m, i)) = ((qb_2_step A s m i)).run (goOn (fun s => rounds (rnd tab FT D22 live 72 qb_lo 0 2) leave fuel (qb_2_sl s)) fun w => some (qb_2_out w)) := by kernel_rfl
end
end
end
end
end
end Go.Proofs.Ytabdjbkbfilhkaa.V
