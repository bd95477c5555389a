/- What the functions of FnExactValidExp answer. No condition. -/
import Derived.Test.YtabdjbkbfilhkaaVFacts
namespace Go.Proofs.Ytabdjbkbfilhkaa.V
open Go
set_option maxRecDepth 100000
set_option linter.unusedVariables false
set_option linter.unusedSectionVars false
set_option linter.unusedSimpArgs false
set_option maxHeartbeats 2000000
noncomputable section
abbrev LL := List (List TC)
abbrev BS := List UInt8
theorem sp {α β : Type} {a b : α} {c d : β} (h : some (a, c) = some (b, d)) : a = b ∧ c = d := by cases h; exact ⟨rfl, rfl⟩
def argN (s : BS) : Int := bif s == [97, 98, 115] then 1 else bif s == [116, 114, 97, 110, 115, 112, 111, 115, 101] then 1 else bif s == [105, 111, 116, 97] then 1 else bif s == [109, 97, 116, 109, 117, 108] then 2 else bif s == [119, 104, 101, 114, 101] then 3 else 0
def redK (K : LL) : Bool := ((K.length : Int) == 1) || ((((K.length : Int) == 2) && ((nth (row K (1 : Int)) 0).int == 1)) && decide ((nth (row K (1 : Int)) 1).int < 3))
def mapK (s : BS) (K : LL) : Bool := !(argN s == 0) && ((K.length : Int) == argN s)
def letterB (c : Int) : Bool := (decide (c ≥ 65) && decide (c ≤ 90)) || (decide (c ≥ 97) && decide (c ≤ 122))
def nameB (i c : Int) : Bool := letterB c || (!(i == 0) && ((decide (c ≥ 48) && decide (c ≤ 57)) || c == 95))
def nameOk (s : BS) : Bool := decide ((s.length : Int) ≥ 1) && decide ((s.length : Int) ≤ 12) && allI (fun i : Nat => nameB (i : Int) ((s.getD ((i : Int)).toNat 0).toNat : Int)) s.length
theorem dlt {a b : Int} : decide (a < b) = !decide (a ≥ b) := by rw [← decide_not]; simp
theorem dgt {a b : Int} : decide (a > b) = !decide (a ≤ b) := by rw [← decide_not]; simp
def inX (n lo hi : Int) : Bool := bif decide (n ≥ lo) then decide (n ≤ hi) else false
def ranB (x : List TC) : Bool := bif !(inX (nth x 0).int 0 40) then false else bif (nth x 2).bool then ((nth x 1).int == 0) else bif ((nth x 1).int == -1) then true else inX (nth x 1).int (nth x 0).int 40
def redS (s : BS) : Bool := (s == [115, 117, 109]) || (s == [109, 105, 110]) || (s == [109, 97, 120]) || (s == [99, 111, 117, 110, 116])
def callB (s : BS) (K : LL) : Bool := bif redS s then redK K else mapK s K
def nodeB (k n : Int) (tx : BS) (K R : LL) : Bool :=
  bif k == 1 then inX n 0 1000000000000 && (tx == []) && ((K.length : Int) == 0) && ((R.length : Int) == 0)
  else (n == 0) && (bif k == 2 then nameOk tx && ((K.length : Int) == 0) && ((R.length : Int) == 0)
    else bif k == 3 then callB tx K && ((R.length : Int) == 0)
    else bif k == 4 then inX (R.length : Int) 1 3 && R.all ranB && (tx == []) && ((K.length : Int) == 1)
    else bif k == 5 then ((R.length : Int) == 0) && (tx == []) && ((K.length : Int) == 1)
    else inX k 6 16 && ((R.length : Int) == 0) && (tx == []) && ((K.length : Int) == 2))
def okE (k n : Int) (tx : BS) (K R : LL) : Bool := nodeB k n tx K R && K.attach.all (fun x => okE (nth x.1 0).int (nth x.1 1).int (nth x.1 2).str (nth x.1 3).list (nth x.1 4).list)
termination_by rowsDep K
decreasing_by exact dep_cell x.2 3
def numE (K : LL) : Nat := K.attach.foldl (fun a x => a + numE (nth x.1 3).list) 1
termination_by rowsDep K
decreasing_by exact dep_cell x.2 3
def okX (x : List TC) : Bool := okE (nth x 0).int (nth x 1).int (nth x 2).str (nth x 3).list (nth x 4).list
def numX (x : List TC) : Nat := numE (nth x 3).list
theorem okE_eq {k n : Int} {tx : BS} {K R : LL} : okE k n tx K R = (nodeB k n tx K R && K.all okX) := by
  rw [okE]
  exact congrArg (nodeB k n tx K R && ·) (attach_all (p := okX))
theorem foldl_num {K : LL} {a : Nat} : K.foldl (fun a x => a + numX x) a = a + K.foldl (fun a x => a + numX x) 0 := by
  induction K generalizing a with
  | nil => rfl
  | cons x K ih => rw [List.foldl_cons, List.foldl_cons, ih, ih (a := 0 + numX x)]; omega
def sumX (K : LL) : Nat := K.foldl (fun a x => a + numX x) 0
theorem sumX_cons {x : List TC} {K : LL} : sumX (x :: K) = numX x + sumX K := by
  unfold sumX
  rw [List.foldl_cons, foldl_num]; omega
theorem numE_eq {K : LL} : numE K = 1 + sumX K := by
  rw [numE]
  refine (attach_foldl (f := fun a x => a + numX x) (l := K) (b := 1)).trans ?_
  rw [foldl_num]; rfl
def cntV (k n : Int) (tx : BS) (K R : LL) (left : Int) : Int × Bool := bif okE k n tx K R && decide ((numE K : Int) ≤ left) then (left - (numE K : Int), true) else (0, false)
def kdE (K : LL) : Nat := K.attach.foldl (fun a x => max a (kdE (nth x.1 3).list + 1)) 0
termination_by rowsDep K
decreasing_by exact dep_cell x.2 3
def kdX (x : List TC) : Nat := kdE (nth x 3).list
theorem kdE_eq {K : LL} : kdE K = K.foldl (fun a x => max a (kdX x + 1)) 0 := by
  rw [kdE]
  exact attach_foldl (f := fun a x => max a (kdX x + 1)) (l := K) (b := 0)
theorem kd_foldl {K : LL} : ∀ {a b : Nat}, (∀ x, x ∈ K → kdX x + 1 ≤ b) → a ≤ b → K.foldl (fun a x => max a (kdX x + 1)) a ≤ b := by
  induction K with
  | nil => intro a b _ h; exact h
  | cons x K ih =>
    intro a b h ha
    rw [List.foldl_cons]
    exact ih (fun y hy => h y (List.mem_cons_of_mem _ hy)) (Nat.max_le.2 ⟨ha, h x List.mem_cons_self⟩)
theorem kd_mem {K : LL} : ∀ {a : Nat}, a ≤ K.foldl (fun a x => max a (kdX x + 1)) a ∧ ∀ x, x ∈ K → kdX x + 1 ≤ K.foldl (fun a x => max a (kdX x + 1)) a := by
  induction K with
  | nil => intro a; exact ⟨Nat.le_refl _, fun _ h => by cases h⟩
  | cons x K ih =>
    intro a
    rw [List.foldl_cons]
    obtain ⟨h1, h2⟩ := ih (a := max a (kdX x + 1))
    refine ⟨Nat.le_trans (Nat.le_max_left _ _) h1, fun y hy => ?_⟩
    rcases List.mem_cons.1 hy with rfl | hy
    · exact Nat.le_trans (Nat.le_max_right _ _) h1
    · exact h2 y hy
theorem kd_cell {K : LL} {x : List TC} (hx : x ∈ K) : kdX x + 1 ≤ kdE K := by
  rw [kdE_eq]; exact kd_mem.2 x hx
def szE (k n : Int) (tx : BS) (K R : LL) : Int := bif nodeB k n tx K R then K.attach.foldl (fun a x => bif decide (a ≤ 40) then a + szE (nth x.1 0).int (nth x.1 1).int (nth x.1 2).str (nth x.1 3).list (nth x.1 4).list else a) 1 else 41
termination_by rowsDep K
decreasing_by exact dep_cell x.2 3
def szX (x : List TC) : Int := szE (nth x 0).int (nth x 1).int (nth x 2).str (nth x 3).list (nth x 4).list
def szF (a : Int) (x : List TC) : Int := bif decide (a ≤ 40) then a + szX x else a
theorem szE_eq {k n : Int} {tx : BS} {K R : LL} : szE k n tx K R = bif nodeB k n tx K R then K.foldl szF 1 else 41 := by
  rw [szE]
  exact congrArg (fun z => bif nodeB k n tx K R then z else (41 : Int)) (attach_foldl (f := szF) (l := K) (b := 1))
def szV (u : List TC) : Int := szE (nth u 0).int (nth u 1).int (nth u 2).str (nth u 3).list (nth u 4).list
theorem foldl_stop {a : Int} (h : 40 < a) : ∀ {Q : LL}, Q.foldl szF a = a
  | [] => rfl
  | x :: Q => by
    have e : szF a x = a := by unfold szF; rw [decide_eq_false (show ¬ a ≤ 40 by omega)]; rfl
    rw [List.foldl_cons, e]
    exact foldl_stop h
theorem sz_bound (x : List TC) : 1 ≤ szX x ∧ szX x ≤ 41 * ((kdX x : Int) + 1) := by
  have key : ∀ (d : Nat) (x : List TC), rowsDep (nth x 3).list ≤ d → 1 ≤ szX x ∧ szX x ≤ 41 * ((kdX x : Int) + 1) := by
    intro d
    induction d with
    | zero =>
      intro x hx
      unfold szX
      rw [szE_eq]
      cases nodeB (nth x 0).int (nth x 1).int (nth x 2).str (nth x 3).list (nth x 4).list with
      | false => show (1 : Int) ≤ 41 ∧ (41 : Int) ≤ _; omega
      | true =>
        have : (nth x 3).list = [] := by
          match hK : (nth x 3).list with
          | [] => rfl
          | y :: K =>
            have := dep_cell (A := (nth x 3).list) (x := y) (by rw [hK]; exact List.mem_cons_self) 3
            omega
        rw [this]
        show (1 : Int) ≤ 1 ∧ (1 : Int) ≤ _
        omega
    | succ d ih =>
      intro x hx
      unfold szX
      rw [szE_eq]
      cases nodeB (nth x 0).int (nth x 1).int (nth x 2).str (nth x 3).list (nth x 4).list with
      | false => show (1 : Int) ≤ 41 ∧ (41 : Int) ≤ _; omega
      | true =>
        have hk : ∀ y, y ∈ (nth x 3).list → 1 ≤ szX y ∧ szX y ≤ 41 * (kdX x : Int) := fun y hy => by
          have h1 := dep_cell hy 3
          have h2 : kdX y + 1 ≤ kdX x := kd_cell hy
          have := ih y (by omega)
          omega
        have hf : ∀ (Q : LL) (a : Int), (∀ y, y ∈ Q → y ∈ (nth x 3).list) → 1 ≤ a → a ≤ 41 * ((kdX x : Int) + 1) → 1 ≤ Q.foldl szF a ∧ Q.foldl szF a ≤ 41 * ((kdX x : Int) + 1) := by
          intro Q
          induction Q with
          | nil => intro a _ h1 h2; exact ⟨h1, h2⟩
          | cons y Q ih2 =>
            intro a hQ h1 h2
            have := hk y (hQ y List.mem_cons_self)
            rw [List.foldl_cons]
            refine ih2 _ (fun z hz => hQ z (List.mem_cons_of_mem _ hz)) ?_ ?_
            · unfold szF
              by_cases h4 : a ≤ 40
              · rw [decide_eq_true h4]; show 1 ≤ a + szX y; omega
              · rw [decide_eq_false h4]; exact h1
            · unfold szF
              by_cases h4 : a ≤ 40
              · rw [decide_eq_true h4]; show a + szX y ≤ _; omega
              · rw [decide_eq_false h4]; exact h2
        exact hf _ 1 (fun _ h => h) (by decide) (by omega)
  exact key _ x (Nat.le_refl _)
theorem sz_num : ∀ (d : Nat) (x : List TC), rowsDep (nth x 3).list ≤ d → (okX x = true → numX x ≤ 40 → szX x = (numX x : Int)) ∧ (¬ (okX x = true ∧ numX x ≤ 40) → 41 ≤ szX x) := by
  intro d
  induction d with
  | zero =>
    intro x hx
    have hK : (nth x 3).list = [] := by
      match hK : (nth x 3).list with
      | [] => rfl
      | y :: K =>
        have := dep_cell (A := (nth x 3).list) (x := y) (by rw [hK]; exact List.mem_cons_self) 3
        omega
    unfold okX szX numX
    rw [szE_eq, okE_eq, numE_eq, hK]
    cases nodeB (nth x 0).int (nth x 1).int (nth x 2).str [] (nth x 4).list with
    | false => exact ⟨(fun h => nomatch h), fun _ => Int.le_refl _⟩
    | true => exact ⟨fun _ _ => rfl, fun h => absurd ⟨rfl, by decide⟩ h⟩
  | succ d ih =>
    intro x hx
    have hf : ∀ (Q : LL) (a : Int), (∀ y, y ∈ Q → y ∈ (nth x 3).list) → 1 ≤ a → (Q.all okX = true → a + (sumX Q : Int) ≤ 40 → Q.foldl szF a = a + (sumX Q : Int)) ∧ (¬ (Q.all okX = true ∧ a + (sumX Q : Int) ≤ 40) → 41 ≤ Q.foldl szF a) := by
      intro Q
      induction Q with
      | nil =>
        intro a _ h1
        have e : sumX [] = 0 := rfl
        rw [e]
        refine ⟨fun _ _ => by show a = a + 0; omega, fun h => ?_⟩
        show 41 ≤ a
        have : ¬ a + ((0 : Nat) : Int) ≤ 40 := fun h' => h ⟨rfl, h'⟩
        omega
      | cons y Q ih2 =>
        intro a hQ h1
        have h2 := dep_cell (hQ y List.mem_cons_self) 3
        obtain ⟨p1, p2⟩ := ih y (by omega)
        have hb := (sz_bound y).1
        rw [List.foldl_cons, List.all_cons, sumX_cons]
        by_cases h4 : a ≤ 40
        · have e : szF a y = a + szX y := by unfold szF; rw [decide_eq_true h4]; rfl
          rw [e]
          obtain ⟨q1, q2⟩ := ih2 (a + szX y) (fun z hz => hQ z (List.mem_cons_of_mem _ hz)) (by omega)
          by_cases hy : okX y = true ∧ numX y ≤ 40
          · have es := p1 hy.1 hy.2
            rw [es] at q1 q2 ⊢
            refine ⟨fun h hs => ?_, fun h => ?_⟩
            · rw [hy.1, Bool.true_and] at h
              rw [q1 h (by omega)]; omega
            · refine q2 fun h' => h ⟨by rw [hy.1, Bool.true_and]; exact h'.1, by omega⟩
          · have es := p2 hy
            refine ⟨fun h hs => ?_, fun _ => ?_⟩
            · rw [Bool.and_eq_true] at h
              exact absurd ⟨h.1, by omega⟩ hy
            · rw [foldl_stop (by omega)]; omega
        · have e : szF a y = a := by unfold szF; rw [decide_eq_false h4]; rfl
          rw [e, foldl_stop (by omega)]
          exact ⟨fun _ h => by omega, fun _ => by omega⟩
    unfold okX szX
    rw [szE_eq, okE_eq]
    have en : numX x = 1 + sumX (nth x 3).list := numE_eq
    rw [en]
    cases nodeB (nth x 0).int (nth x 1).int (nth x 2).str (nth x 3).list (nth x 4).list with
    | false => exact ⟨(fun h => nomatch h), fun _ => Int.le_refl _⟩
    | true =>
      obtain ⟨q1, q2⟩ := hf (nth x 3).list 1 (fun _ h => h) (by decide)
      rw [Bool.true_and]
      refine ⟨fun h hs => ?_, fun h => ?_⟩
      · show (nth x 3).list.foldl szF 1 = _
        rw [q1 h (by omega)]; omega
      · show 41 ≤ (nth x 3).list.foldl szF 1
        exact q2 fun h' => h ⟨h'.1, by omega⟩
theorem sz_valid (k n : Int) (tx : BS) (K R : LL) : decide (szE k n tx K R ≤ 40) = (cntV k n tx K R 40).2 := by
  have h := sz_num _ [TC.i k, TC.i n, TC.s tx, TC.l K, TC.l R] (Nat.le_refl _)
  have e1 : okX [TC.i k, TC.i n, TC.s tx, TC.l K, TC.l R] = okE k n tx K R := rfl
  have e2 : numX [TC.i k, TC.i n, TC.s tx, TC.l K, TC.l R] = numE K := rfl
  have e3 : szX [TC.i k, TC.i n, TC.s tx, TC.l K, TC.l R] = szE k n tx K R := rfl
  rw [e1, e2, e3] at h
  unfold cntV
  by_cases h2 : okE k n tx K R = true ∧ numE K ≤ 40
  · rw [h.1 h2.1 h2.2, h2.1, decide_eq_true (show (numE K : Int) ≤ 40 by omega)]; rfl
  · have := h.2 h2
    rw [decide_eq_false (show ¬ szE k n tx K R ≤ 40 by omega)]
    cases h3 : okE k n tx K R with
    | false => rfl
    | true =>
      rw [decide_eq_false (show ¬ (numE K : Int) ≤ 40 from fun h4 => h2 ⟨h3, by omega⟩)]; rfl
theorem row_drop {A xs : LL} {x : List TC} {j : Nat} (h : A.drop j = x :: xs) : j < A.length ∧ row A (j : Int) = x ∧ A.drop (j + 1) = xs := by
  have hj : j < A.length := by
    rcases Nat.lt_or_ge j A.length with h' | h'
    · exact h'
    · rw [List.drop_eq_nil_of_le h'] at h; cases h
  rw [List.drop_eq_getElem_cons hj] at h
  injection h with h1 h2
  exact ⟨hj, by rw [row_nat, getD_at hj]; exact h1, h2⟩
def isoL : List (Nat × Nat) := [(25, 31), (61, 59), (31, 25), (59, 61)]
theorem iso_ok : isoOk tab isoL = true := by kernel_rfl
section
class qj_O where R : (Int) → (Int) → (BS) → (LL) → (LL) → (Int) → Bool × (Int)
variable [i_laws_szExp : qj_O]
def qj_rc (x0 x1 : Int) (x2 : BS) (x3 x4 : LL) (x5 : Int) : Bool := ((qj_O.R x0 x1 x2 x3 x4 x5)).1
def qj_rv (x0 x1 : Int) (x2 : BS) (x3 x4 : LL) (x5 : Int) : Int := ((qj_O.R x0 x1 x2 x3 x4 x5)).2
def qj_rmk (p : Int) : Res := [(false, [⟨.int .i64, .sh, TC.i p⟩])]
def qj_rS : List Arg → Option (Bool × Res) := fun xs => match xs with
  | [(true, [(.int .i64, TC.i x0), (.int .i64, TC.i x1), (.str, TC.s x2), (.slice 25, TC.l x3), (.slice 61, TC.l x4)]), (false, [(.int .i64, TC.i x5)])] => some ((qj_rc x0 x1 x2 x3 x4 x5), qj_rmk (qj_rv x0 x1 x2 x3 x4 x5))
  | _ => .none
def D1 : Dt := also D0 5 qj_rS
class qj_G : Prop where ok : DOk Go.Proofs.Try.prog tab D1
variable [g_laws_szExp : qj_G]
theorem d1 : DOk Go.Proofs.Try.prog tab D1 := qj_G.ok
abbrev qg_5_σ := LL × Int × Int
abbrev qg_5_ω := (Int) ⊕ (Int)
def qg_5_step (A : LL) (left i : Int) : Tr (qg_5_σ ⊕ qg_5_ω) := (.ite ((decide (i < (A.length : Int))) = true) (.ite ((0 : Int) ≤ i ∧ i < (A.length : Int)) (.ite ((qj_rc ((nth (row A i) 0).int) ((nth (row A i) 1).int) ((nth (row A i) 2).str) ((nth (row A i) 3).list) ((nth (row A i) 4).list) left) = true) (.ite ((decide ((qj_rv ((nth (row A i) 0).int) ((nth (row A i) 1).int) ((nth (row A i) 2).str) ((nth (row A i) 3).list) ((nth (row A i) 4).list) left) < (0 : Int))) = true) (.ok (.inr (.inl (qj_rv ((nth (row A i) 0).int) ((nth (row A i) 1).int) ((nth (row A i) 2).str) ((nth (row A i) 3).list) ((nth (row A i) 4).list) left))))
     (.ok (.inl (A, (qj_rv ((nth (row A i) 0).int) ((nth (row A i) 1).int) ((nth (row A i) 2).str) ((nth (row A i) 3).list) ((nth (row A i) 4).list) left), (IntKind.wrap .i64 (i + (1 : Int)))))))
    .no)
   .no)
  (.ok (.inr (.inr left))))
def qg_5_st : qg_5_σ → Tr (qg_5_σ ⊕ qg_5_ω) := fun x => (qg_5_step (x.1) (x.2.1) (x.2.2))
def qg_k5_1 (A : LL) (left i : Int) : Bool := isL (loopN qg_5_st (A.length + 1) (A, left, i))
def qg_o5_2 (A : LL) (left i : Int) : Bool := is (i = 0 ∧ Typed tab (.slice 25) (.l A) ∧ (∀ x : List TC, x ∈ A → ∀ left : Int, (qj_rc ((nth x 0).int) ((nth x 1).int) ((nth x 2).str) ((nth x 3).list) ((nth x 4).list) left) = true))
def qg_u5_2 (A : LL) (left i : Int) : Int := getL (loopN qg_5_st (A.length + 1) (A, left, i))
def qg_o5_3 (A : LL) (left i : Int) : Bool := (qg_o5_2 A left i)
def qg_u5_3 (A : LL) (left i : Int) : Int := getR (loopN qg_5_st (A.length + 1) (A, left, i))
def qg_5_fin (A : LL) (left i : Int) : Told qg_5_ω := (.br (qg_k5_1 A left i) (.leaf (qg_o5_2 A left i) (.inl (qg_u5_2 A left i))) (.leaf (qg_o5_3 A left i) (.inr (qg_u5_3 A left i))))
def qg_5_sl (x : qg_5_σ) : List Slot := [⟨.val false [⟨.slice 25, .sh, TC.l (x.1)⟩], ⟨0, 0⟩⟩, ⟨.val false [⟨.int .i64, .sh, TC.i (x.2.1)⟩], ⟨0, 0⟩⟩, ⟨.val false [⟨.int .i64, .sh, TC.i (x.2.2)⟩], ⟨0, 0⟩⟩]
def qg_5_out : qg_5_ω → Ex × List Slot := (Sum.elim (fun x => (.ret, [⟨.val false [⟨.int .i64, .sh, TC.i x⟩], ⟨0, 0⟩⟩, ⟨.val false [⟨.int .i64, .sh, TC.i (-1 : Int)⟩], ⟨0, 0⟩⟩])) (fun x => (.exit 0, [⟨.val false [⟨.int .i64, .sh, TC.i x⟩], ⟨0, 0⟩⟩, Slot.none])))
def qg_lo5 : List Slot → Option (Told (Ex × List Slot)) := fun s => match s with
  | [⟨.val false [⟨.slice 25, .sh, TC.l A⟩], ⟨0, 0⟩⟩, ⟨.val false [⟨.int .i64, .sh, TC.i left⟩], ⟨0, 0⟩⟩, ⟨.val false [⟨.int .i64, .sh, TC.i i⟩], ⟨0, 0⟩⟩] => some (((qg_5_fin A left i)).map qg_5_out)
  | _ => .none
def qg_lo : LoopTeller := fun r s => bif Nat.beq r 5 then qg_lo5 s else .none
theorem qg_5_r (A : LL) (left i : Int) (fuel : Nat) : rounds (rnd tab FT D1 live 16 qg_lo 0 5) leave (fuel + 1) (qg_5_sl (A, left, i)) = ((qg_5_step A left i)).run (goOn (fun s => rounds (rnd tab FT D1 live 16 qg_lo 0 5) leave fuel (qg_5_sl s)) fun w => some (qg_5_out w)) := by kernel_rfl
theorem qg_5_h (A : LL) (left i : Int) (ow : qg_5_ω) : ((qg_5_fin A left i)).val = some ow → ∃ fuel, loopN qg_5_st fuel (A, left, i) = some ow := by
  refine auto_two (N := A.length + 1) rfl rfl rfl ?_
  intro ho
  have ho : is (i = 0 ∧ Typed tab (.slice 25) (.l A) ∧ (∀ x : List TC, x ∈ A → ∀ left : Int, (qj_rc ((nth x 0).int) ((nth x 1).int) ((nth x 2).str) ((nth x 3).list) ((nth x 4).list) left) = true)) = true := ho.elim id id
  obtain ⟨rfl, ht, hr0⟩ := is_iff.1 ho
  have hlen : A.length ≤ 140737488351232 := by have := typed_room ht; simp only [show (tab 25).bytes = 80 from rfl] at this; omega
  refine loopN_ends (step := qg_5_st) (N := A.length) (fun i a => (A, a, (i : Int))) (fun i a hi => ?_) (fun a => ?_) A.length 0 left (by omega)
  · show (∃ a', (qg_5_step A a (i : Int)).val = _) ∨ ∃ w, (qg_5_step A a (i : Int)).val = _
    have c2 : Typed tab (.str) (.s (nth (A.getD i []) 2).str) := typed_s (typed_cell ht (A.getD i []) (mem_getD hi) 2 (by decide))
    have c3 : Typed tab (.slice 25) (.l (nth (A.getD i []) 3).list) := typed_list (typed_cell ht (A.getD i []) (mem_getD hi) 3 (by decide))
    have c4 : Typed tab (.slice 61) (.l (nth (A.getD i []) 4).list) := typed_list (typed_cell ht (A.getD i []) (mem_getD hi) 4 (by decide))
    cases hneg : ((decide ((qj_rv ((nth (row A i) 0).int) ((nth (row A i) 1).int) ((nth (row A i) 2).str) ((nth (row A i) 3).list) ((nth (row A i) 4).list) a) < (0 : Int))))
    · apply Or.inl
      apply Exists.intro
      · unfold qg_5_step
        refine Tr.t (by simp; omega) ?_
        refine Tr.t (by first | omega | (constructor <;> omega)) ?_
        refine Tr.t (hr0 (A.getD i []) (mem_getD hi) a) ?_
        refine Tr.n (by rw [hneg]; simp) ?_
        rw [Tr.val_ok, wrap64 (i := (i : Int) + 1) (by omega) (by omega)]; rfl
    · apply Or.inr
      apply Exists.intro
      · unfold qg_5_step
        refine Tr.t (by simp; omega) ?_
        refine Tr.t (by first | omega | (constructor <;> omega)) ?_
        refine Tr.t (hr0 (A.getD i []) (mem_getD hi) a) ?_
        refine Tr.t hneg ?_
        rfl
  · apply Exists.intro
    · show (qg_5_step A a (A.length : Int)).val = _
      refine Tr.n (by simp) ?_
      rfl
theorem qg_is5 : LoopIs tab FT D1 live 16 qg_lo 0 5 := by
  refine loop_told (sl := qg_5_sl) (step := qg_5_st) (out := qg_5_out) (lor := qg_lo5) (fin := fun x => (qg_5_fin (x.1) (x.2.1) (x.2.2))) (fun _ => rfl) ?_ (fun x n => qg_5_r x.1 x.2.1 x.2.2 n) (fun x ow => qg_5_h x.1 x.2.1 x.2.2 ow)
  intro s t h
  unfold qg_lo5 at h
  split at h
  · cases h; exact ⟨(_, _, _), rfl, rfl⟩
  · cases h
def qg_t (A : LL) (left : Int) : Tr (Int) := (.ite ((decide ((IntKind.wrap .i64 (left - (A.length : Int))) < (0 : Int))) = true) (.ok (-1 : Int))
  (.ite ((qg_k5_1 A (IntKind.wrap .i64 (left - (A.length : Int))) (0 : Int)) = true) (.ite ((qg_o5_2 A (IntKind.wrap .i64 (left - (A.length : Int))) (0 : Int)) = true) (.ok (-1 : Int))
    .no)
   (.ite ((qg_o5_3 A (IntKind.wrap .i64 (left - (A.length : Int))) (0 : Int)) = true) (.ok (qg_u5_3 A (IntKind.wrap .i64 (left - (A.length : Int))) (0 : Int)))
    .no)))
def qg_mk (p : Int) : Res := [(false, [⟨.int .i64, .sh, TC.i p⟩])]
def qg_c (A : LL) (left : Int) : Bool := (bif (decide ((IntKind.wrap .i64 (left - (A.length : Int))) < (0 : Int))) then true else (bif (qg_k5_1 A (IntKind.wrap .i64 (left - (A.length : Int))) (0 : Int)) then ((qg_o5_2 A (IntKind.wrap .i64 (left - (A.length : Int))) (0 : Int)) && true) else ((qg_o5_3 A (IntKind.wrap .i64 (left - (A.length : Int))) (0 : Int)) && true)))
def qg_v (A : LL) (left : Int) : Int := (bif (decide ((IntKind.wrap .i64 (left - (A.length : Int))) < (0 : Int))) then (-1 : Int) else (bif (qg_k5_1 A (IntKind.wrap .i64 (left - (A.length : Int))) (0 : Int)) then (-1 : Int) else (qg_u5_3 A (IntKind.wrap .i64 (left - (A.length : Int))) (0 : Int))))
theorem qg_l (A : LL) (left : Int) : (qg_c A left) = true → (qg_t A left).val = some (qg_v A left) := by
  unfold qg_t qg_v qg_c
  exact fun h => (Tr.ss h (fun h => rfl) (fun h => (Tr.ss h (fun h => (Tr.gb h fun h => rfl)) (fun h => (Tr.gb h fun h => rfl)))))
def qg_S : List Arg → Option (Bool × Res) := fun xs => match xs with
  | [(false, [(.slice 25, TC.l A)]), (false, [(.int .i64, TC.i left)])] => some ((qg_c A left), qg_mk (qg_v A left))
  | _ => .none
theorem qg_e (A : LL) (left : Int) : runF tab FT D1 live 16 qg_lo [(false, [(.slice 25, TC.l A)]), (false, [(.int .i64, TC.i left)])] = (qg_t A left).run fun p => some (qg_mk p) := by kernel_rfl
theorem qg_s : ∀ xs r, qg_S xs = some (true, r) → runF tab FT D1 live 16 qg_lo xs = some r := by
  intro xs r h
  unfold qg_S at h
  split at h
  · obtain ⟨h1, rfl⟩ := sp h
    exact fun_told (qg_e ..) (qg_l _ _) h1
  · cases h
def D2 : Dt := also D1 16 qg_S
theorem d2 : DOk Go.Proofs.Try.prog tab D2 := d1.also mixed_ok tab_ok names_ok (fnLoops_one (by kernel_rfl) qg_is5) qg_s
theorem qg_cc {A : LL} {left : Int} (ht : Typed tab (.slice 25) (.l A)) (hr0 : (∀ x : List TC, x ∈ A → ∀ left : Int, (qj_rc ((nth x 0).int) ((nth x 1).int) ((nth x 2).str) ((nth x 3).list) ((nth x 4).list) left) = true)) : (qg_c A left) = true := by
  unfold qg_c
  refine bifT (fun b1 => ?_) (fun b1 => ?_)
  · skip
    rfl
  · skip
    refine bifT (fun b2 => ?_) (fun b2 => ?_)
    · skip
      refine andT (by exact is_true ⟨rfl, ht, hr0⟩) ?_
      rfl
    · skip
      refine andT (by exact is_true ⟨rfl, ht, hr0⟩) ?_
      rfl
def qba_t (a0 : LL) (a1 : Int) : Tr (Int) := (.ite ((decide ((IntKind.wrap .i64 (a1 - (a0.length : Int))) < (0 : Int))) = true) (.ok (-1 : Int))
  (.ok (IntKind.wrap .i64 (a1 - (a0.length : Int)))))
def qba_mk (p : Int) : Res := [(false, [⟨.int .i64, .sh, TC.i p⟩])]
def qba_c (a0 : LL) (a1 : Int) : Bool := true
def qba_v (a0 : LL) (a1 : Int) : Int := (bif (decide ((IntKind.wrap .i64 (a1 - (a0.length : Int))) < (0 : Int))) then (-1 : Int) else (IntKind.wrap .i64 (a1 - (a0.length : Int))))
theorem qba_l (a0 : LL) (a1 : Int) : (qba_c a0 a1) = true → (qba_t a0 a1).val = some (qba_v a0 a1) := by
  intro h
  skip
  unfold qba_t qba_v
  exact (Tr.s rfl rfl)
def qba_S : List Arg → Option (Bool × Res) := fun xs => match xs with
  | [(false, [(.slice 61, TC.l a0)]), (false, [(.int .i64, TC.i a1)])] => some (true, qba_mk (qba_v a0 a1))
  | _ => .none
theorem qba_e (a0 : LL) (a1 : Int) : runF tab FT D2 live 17 noLoops [(false, [(.slice 61, TC.l a0)]), (false, [(.int .i64, TC.i a1)])] = (qba_t a0 a1).run fun p => some (qba_mk p) := by kernel_rfl
theorem qba_s : ∀ xs r, qba_S xs = some (true, r) → runF tab FT D2 live 17 noLoops xs = some r := by
  intro xs r h
  unfold qba_S at h
  split at h
  · obtain ⟨h1, rfl⟩ := sp h
    exact fun_told (qba_e ..) (qba_l _ _) rfl
  · cases h
def D3 : Dt := also D2 17 qba_S
theorem d3 : DOk Go.Proofs.Try.prog tab D3 := d2.also mixed_ok tab_ok names_ok noLoops_ok qba_s
def qj_t (x0 x1 : Int) (x2 : BS) (x3 x4 : LL) (x5 : Int) : Tr (Int) := (.ite ((decide ((IntKind.wrap .i64 (x5 - (x2.length : Int))) < (0 : Int))) = true) (.ok (-1 : Int))
  (.ite ((qg_c x3 (IntKind.wrap .i64 (x5 - (x2.length : Int)))) = true) (.ite ((decide ((qg_v x3 (IntKind.wrap .i64 (x5 - (x2.length : Int)))) < (0 : Int))) = true) (.ok (-1 : Int))
    (.ite ((decide ((qba_v x4 (qg_v x3 (IntKind.wrap .i64 (x5 - (x2.length : Int))))) < (0 : Int))) = true) (.ok (-1 : Int))
     (.ok (qba_v x4 (qg_v x3 (IntKind.wrap .i64 (x5 - (x2.length : Int))))))))
   .no))
def qj_mk (p : Int) : Res := [(false, [⟨.int .i64, .sh, TC.i p⟩])]
def qj_c (x0 x1 : Int) (x2 : BS) (x3 x4 : LL) (x5 : Int) : Bool := (bif (decide ((IntKind.wrap .i64 (x5 - (x2.length : Int))) < (0 : Int))) then true else ((qg_c x3 (IntKind.wrap .i64 (x5 - (x2.length : Int)))) && (bif (decide ((qg_v x3 (IntKind.wrap .i64 (x5 - (x2.length : Int)))) < (0 : Int))) then true else (bif (decide ((qba_v x4 (qg_v x3 (IntKind.wrap .i64 (x5 - (x2.length : Int))))) < (0 : Int))) then true else true))))
def qj_v (x0 x1 : Int) (x2 : BS) (x3 x4 : LL) (x5 : Int) : Int := (bif (decide ((IntKind.wrap .i64 (x5 - (x2.length : Int))) < (0 : Int))) then (-1 : Int) else (bif (decide ((qg_v x3 (IntKind.wrap .i64 (x5 - (x2.length : Int)))) < (0 : Int))) then (-1 : Int) else (bif (decide ((qba_v x4 (qg_v x3 (IntKind.wrap .i64 (x5 - (x2.length : Int))))) < (0 : Int))) then (-1 : Int) else (qba_v x4 (qg_v x3 (IntKind.wrap .i64 (x5 - (x2.length : Int))))))))
theorem qj_l (x0 x1 : Int) (x2 : BS) (x3 x4 : LL) (x5 : Int) : (qj_c x0 x1 x2 x3 x4 x5) = true → (qj_t x0 x1 x2 x3 x4 x5).val = some (qj_v x0 x1 x2 x3 x4 x5) := by
  unfold qj_t qj_v qj_c
  exact fun h => (Tr.ss h (fun h => rfl) (fun h => (Tr.gb h fun h => (Tr.ss h (fun h => rfl) (fun h => (Tr.ss h (fun h => rfl) (fun h => rfl)))))))
theorem qj_e (x0 x1 : Int) (x2 : BS) (x3 x4 : LL) (x5 : Int) : runF tab FT D3 live 5 noLoops [(true, [(.int .i64, TC.i x0), (.int .i64, TC.i x1), (.str, TC.s x2), (.slice 25, TC.l x3), (.slice 61, TC.l x4)]), (false, [(.int .i64, TC.i x5)])] = (qj_t x0 x1 x2 x3 x4 x5).run fun p => some (qj_mk p) := by kernel_rfl
def qj_next : (Int) → (Int) → (BS) → (LL) → (LL) → (Int) → Bool × (Int) := fun x0 x1 x2 x3 x4 x5 => ((qj_c x0 x1 x2 x3 x4 x5), (qj_v x0 x1 x2 x3 x4 x5))
theorem qj_nx (m : Nat) (hR : ∀ (x0 x1 : Int) (x2 : BS) (x3 x4 : LL) (x5 : Int), rowsDep x3 < m ∧ Typed tab (.slice 25) (.l x3) ∧ Typed tab (.slice 61) (.l x4) → (qj_rc x0 x1 x2 x3 x4 x5) = true) (x0 x1 : Int) (x2 : BS) (x3 x4 : LL) (x5 : Int) : rowsDep x3 < (m + 1) ∧ Typed tab (.slice 25) (.l x3) ∧ Typed tab (.slice 61) (.l x4) → (qj_c x0 x1 x2 x3 x4 x5) = true := by
  intro h
  obtain ⟨hM, t3, t4⟩ := h
  unfold qj_c
  refine bifT (fun b1 => ?_) (fun b1 => ?_)
  · skip
    rfl
  · skip
    refine andT (by exact qg_cc t3 (fun x hx left => hR _ _ _ _ _ _ ⟨by have a := dep_cell hx 3; omega, typed_list ((typed_elem t3 hx).2 3 (by decide)), typed_list ((typed_elem t3 hx).2 4 (by decide))⟩)) ?_
    refine bifT (fun b2 => ?_) (fun b2 => ?_)
    · skip
      rfl
    · skip
      refine bifT (fun b3 => ?_) (fun b3 => ?_)
      · skip
        rfl
      · skip
        rfl
theorem qj_rs : ∀ xs r, qj_rS (i_laws_szExp := ⟨qj_next⟩) xs = some (true, r) → runF tab FT D3 live 5 noLoops xs = some r := by
  intro xs r h
  unfold qj_rS at h
  split at h
  · obtain ⟨h1, rfl⟩ := sp h
    exact fun_told (qj_e ..) (qj_l _ _ _ _ _ _) h1
  · cases h
theorem qj_step : qj_G (i_laws_szExp := ⟨qj_next⟩) := by
  have h := DOk.also2 (S := qj_rS (i_laws_szExp := ⟨qj_next⟩)) mixed_ok tab_ok names_ok d0 d3 noLoops_ok qj_rs
  refine qj_G.mk (i_laws_szExp := ⟨qj_next⟩) ?_
  exact h
theorem qg_bs (m : Nat) (hB : ∀ (x0 x1 : Int) (x2 : BS) (x3 x4 : LL) (x5 : Int), rowsDep x3 < m ∧ Typed tab (.slice 25) (.l x3) ∧ Typed tab (.slice 61) (.l x4) → Typed tab .str (.s x2) → 0 ≤ x5 → x5 ≤ 1048576 → 0 ≤ qj_rv x0 x1 x2 x3 x4 x5 → qj_rv x0 x1 x2 x3 x4 x5 ≤ x5 ∧ (kdE x3 : Int) ≤ x5) {A : LL} {l : Int} (hd : rowsDep A < m + 1) (ht : Typed tab (.slice 25) (.l A)) (hc : ∀ x : List TC, x ∈ A → ∀ left : Int, qj_rc (nth x 0).int (nth x 1).int (nth x 2).str (nth x 3).list (nth x 4).list left = true) (h0 : 0 ≤ l) (h1 : l ≤ 1048576) (hv : 0 ≤ qg_v A l) : qg_v A l ≤ l ∧ (kdE A : Int) ≤ l := by
  have hlen := typed_room ht
  simp only [show (tab 25).bytes = 80 from rfl] at hlen
  have key : ∀ (rest : LL) (j fuel : Nat) (l : Int), A.drop j = rest → rest.length < fuel → 0 ≤ l → l ≤ 1048576 → (∃ w, loopN qg_5_st fuel (A, l, (j : Int)) = some (.inl w)) ∨ ∃ q : Int, loopN qg_5_st fuel (A, l, (j : Int)) = some (.inr q) ∧ 0 ≤ q ∧ q ≤ l ∧ ∀ x, x ∈ rest → (kdX x : Int) ≤ l := by
    intro rest
    induction rest with
    | nil =>
      intro j fuel l hdr hf h0 h1
      obtain ⟨f, rfl⟩ : ∃ f, fuel = f + 1 := ⟨fuel - 1, by simp at hf; omega⟩
      have hj : A.length ≤ j := by have := congrArg List.length hdr; rw [List.length_drop, List.length_nil] at this; omega
      refine .inr ⟨l, loopN_end ?_, h0, Int.le_refl _, fun x hx => by cases hx⟩
      show (qg_5_step A l (j : Int)).val = _
      unfold qg_5_step
      refine Tr.n (by simp; omega) ?_
      rfl
    | cons x rest ih =>
      intro j fuel l hdr hf h0 h1
      obtain ⟨f, rfl⟩ : ∃ f, fuel = f + 1 := ⟨fuel - 1, by simp at hf; omega⟩
      simp only [List.length_cons] at hf
      obtain ⟨hj, hrow, hdr2⟩ := row_drop hdr
      have hx : x ∈ A := by rw [← hrow, row_nat]; exact mem_getD hj
      by_cases hn : qj_rv (nth x 0).int (nth x 1).int (nth x 2).str (nth x 3).list (nth x 4).list l < 0
      · refine .inl ⟨qj_rv (nth x 0).int (nth x 1).int (nth x 2).str (nth x 3).list (nth x 4).list l, loopN_end ?_⟩
        show (qg_5_step A l (j : Int)).val = _
        unfold qg_5_step
        rw [hrow]
        refine Tr.t (by simp; omega) (Tr.t ⟨by omega, by omega⟩ (Tr.t (hc x hx l) (Tr.t (decide_eq_true hn) ?_)))
        rfl
      · have hdx := dep_cell hx 3
        have hb := hB (nth x 0).int (nth x 1).int (nth x 2).str (nth x 3).list (nth x 4).list l ⟨by omega, typed_list ((typed_elem ht hx).2 3 (by decide)), typed_list ((typed_elem ht hx).2 4 (by decide))⟩ (typed_s ((typed_elem ht hx).2 2 (by decide))) h0 h1 (by omega)
        have hst : (qg_5_st (A, l, (j : Int))).val = some (.inl (A, qj_rv (nth x 0).int (nth x 1).int (nth x 2).str (nth x 3).list (nth x 4).list l, ((j + 1 : Nat) : Int))) := by
          show (qg_5_step A l (j : Int)).val = _
          unfold qg_5_step
          rw [hrow]
          refine Tr.t (by simp; omega) (Tr.t ⟨by omega, by omega⟩ (Tr.t (hc x hx l) (Tr.n (by simpa using hn) ?_)))
          rw [Tr.val_ok, wrap64 (i := (j : Int) + 1) (by omega) (by omega)]
          rfl
        rw [loopN_next hst]
        rcases ih (j + 1) f (qj_rv (nth x 0).int (nth x 1).int (nth x 2).str (nth x 3).list (nth x 4).list l) hdr2 (by omega) (by omega) (by omega) with ⟨w, hw⟩ | ⟨q, hq, q0, q1, q2⟩
        · exact .inl ⟨w, hw⟩
        · refine .inr ⟨q, hq, q0, by omega, fun y hy => ?_⟩
          rcases List.mem_cons.1 hy with rfl | hy
          · exact hb.2
          · have := q2 y hy; omega
  unfold qg_v at hv ⊢
  rw [wrap64 (i := l - (A.length : Int)) (by omega) (by omega)] at hv ⊢
  by_cases hn : l - (A.length : Int) < 0
  · rw [decide_eq_true hn] at hv
    exact absurd (show (0 : Int) ≤ -1 from hv) (by decide)
  · rw [decide_eq_false hn] at hv ⊢
    simp only [cond_false] at hv ⊢
    rcases key A 0 (A.length + 1) (l - (A.length : Int)) rfl (by omega) (by omega) (by omega) with ⟨w, hw⟩ | ⟨q, hq, q0, q1, q2⟩
    · have e : qg_k5_1 A (l - (A.length : Int)) 0 = true := by
        show isL (loopN qg_5_st (A.length + 1) (A, l - (A.length : Int), ((0 : Nat) : Int))) = true
        rw [hw]; rfl
      rw [e] at hv
      exact absurd (show (0 : Int) ≤ -1 from hv) (by decide)
    · have e : qg_k5_1 A (l - (A.length : Int)) 0 = false := by
        show isL (loopN qg_5_st (A.length + 1) (A, l - (A.length : Int), ((0 : Nat) : Int))) = false
        rw [hq]; rfl
      have e2 : qg_u5_3 A (l - (A.length : Int)) 0 = q := by
        show getR (loopN qg_5_st (A.length + 1) (A, l - (A.length : Int), ((0 : Nat) : Int))) = q
        rw [hq]; rfl
      rw [e, e2]
      refine ⟨by show q ≤ l; omega, ?_⟩
      have hk : kdE A ≤ l.toNat := by
        rw [kdE_eq]
        refine kd_foldl (fun x hx => ?_) (Nat.zero_le _)
        have := q2 x hx
        have : 0 < A.length := List.length_pos_of_mem hx
        omega
      omega
theorem qj_bs (m : Nat) (hR : ∀ (x0 x1 : Int) (x2 : BS) (x3 x4 : LL) (x5 : Int), rowsDep x3 < m ∧ Typed tab (.slice 25) (.l x3) ∧ Typed tab (.slice 61) (.l x4) → qj_rc x0 x1 x2 x3 x4 x5 = true) (hB : ∀ (x0 x1 : Int) (x2 : BS) (x3 x4 : LL) (x5 : Int), rowsDep x3 < m ∧ Typed tab (.slice 25) (.l x3) ∧ Typed tab (.slice 61) (.l x4) → Typed tab .str (.s x2) → 0 ≤ x5 → x5 ≤ 1048576 → 0 ≤ qj_rv x0 x1 x2 x3 x4 x5 → qj_rv x0 x1 x2 x3 x4 x5 ≤ x5 ∧ (kdE x3 : Int) ≤ x5) (x0 x1 : Int) (x2 : BS) (x3 x4 : LL) (x5 : Int) (h : rowsDep x3 < m + 1 ∧ Typed tab (.slice 25) (.l x3) ∧ Typed tab (.slice 61) (.l x4)) (ht : Typed tab .str (.s x2)) (h0 : 0 ≤ x5) (h1 : x5 ≤ 1048576) (hv : 0 ≤ qj_v x0 x1 x2 x3 x4 x5) : qj_v x0 x1 x2 x3 x4 x5 ≤ x5 ∧ (kdE x3 : Int) ≤ x5 := by
  obtain ⟨hd, t3, t4⟩ := h
  have hl2 := typed_str_len ht
  have hl4 := typed_room t4
  simp only [show (tab 61).bytes = 24 from rfl] at hl4
  have hc : ∀ x : List TC, x ∈ x3 → ∀ left : Int, qj_rc (nth x 0).int (nth x 1).int (nth x 2).str (nth x 3).list (nth x 4).list left = true := fun x hx left => hR _ _ _ _ _ _ ⟨by have a := dep_cell hx 3; omega, typed_list ((typed_elem t3 hx).2 3 (by decide)), typed_list ((typed_elem t3 hx).2 4 (by decide))⟩
  unfold qj_v at hv ⊢
  rw [wrap64 (i := x5 - (x2.length : Int)) (by omega) (by omega)] at hv ⊢
  by_cases c1 : x5 - (x2.length : Int) < 0
  · rw [decide_eq_true c1] at hv
    exact absurd (show (0 : Int) ≤ -1 from hv) (by decide)
  · rw [decide_eq_false c1] at hv ⊢
    simp only [cond_false] at hv ⊢
    by_cases c2 : qg_v x3 (x5 - (x2.length : Int)) < 0
    · rw [decide_eq_true c2] at hv
      exact absurd (show (0 : Int) ≤ -1 from hv) (by decide)
    · rw [decide_eq_false c2] at hv ⊢
      simp only [cond_false] at hv ⊢
      have hb := qg_bs m hB hd t3 hc (l := x5 - (x2.length : Int)) (by omega) (by omega) (by omega)
      generalize qg_v x3 (x5 - (x2.length : Int)) = q at hv hb c2 ⊢
      have hr : qba_v x4 q = bif decide (q - (x4.length : Int) < 0) then -1 else q - (x4.length : Int) := by
        unfold qba_v
        rw [wrap64 (i := q - (x4.length : Int)) (by omega) (by omega)]
      rw [hr] at hv ⊢
      by_cases c3 : q - (x4.length : Int) < 0
      · rw [decide_eq_true c3] at hv
        exact absurd (show (0 : Int) ≤ -1 from hv) (by decide)
      · rw [decide_eq_false c3] at hv ⊢
        simp only [cond_false] at hv ⊢
        rw [decide_eq_false c3]
        refine ⟨by show q - (x4.length : Int) ≤ x5; omega, by omega⟩
section
class qi_O where n : Nat
variable [i_laws_toExp : qi_O]
def qi_rc (x0 x1 : Int) (x2 : BS) (x3 x4 : LL) : Bool := is (rowsDep x3 < qi_O.n ∧ Typed tab (.slice 25) (.l x3) ∧ Typed tab (.slice 61) (.l x4))
def qi_rv (x0 x1 : Int) (x2 : BS) (x3 x4 : LL) : Int × Int × BS × LL × LL := (x0, x1, x2, x3, x4)
def qi_rmk (p : Int × Int × BS × LL × LL) : Res := [(true, [⟨.int .i64, .sh, TC.i (p.1)⟩, ⟨.int .i64, .sh, TC.i (p.2.1)⟩, ⟨.str, .sh, TC.s (p.2.2.1)⟩, ⟨.slice 31, .own true, TC.l (p.2.2.2.1)⟩, ⟨.slice 59, .own true, TC.l (p.2.2.2.2)⟩])]
def qi_rS : List Arg → Option (Bool × Res) := fun xs => match xs with
  | [(true, [(.int .i64, TC.i x0), (.int .i64, TC.i x1), (.str, TC.s x2), (.slice 25, TC.l x3), (.slice 61, TC.l x4)])] => some ((qi_rc x0 x1 x2 x3 x4), qi_rmk (qi_rv x0 x1 x2 x3 x4))
  | _ => .none
def D4 : Dt := also D3 7 qi_rS
class qi_G : Prop where ok : DOk Go.Proofs.Try.prog tab D4
variable [g_laws_toExp : qi_G]
theorem d4 : DOk Go.Proofs.Try.prog tab D4 := qi_G.ok
def qp_g (x : List TC) : List TC := [TC.i ((qi_rv ((nth x 0).int) ((nth x 1).int) ((nth x 2).str) ((nth x 3).list) ((nth x 4).list)).1), TC.i ((qi_rv ((nth x 0).int) ((nth x 1).int) ((nth x 2).str) ((nth x 3).list) ((nth x 4).list)).2.1), TC.s ((qi_rv ((nth x 0).int) ((nth x 1).int) ((nth x 2).str) ((nth x 3).list) ((nth x 4).list)).2.2.1), TC.l ((qi_rv ((nth x 0).int) ((nth x 1).int) ((nth x 2).str) ((nth x 3).list) ((nth x 4).list)).2.2.2.1), TC.l ((qi_rv ((nth x 0).int) ((nth x 1).int) ((nth x 2).str) ((nth x 3).list) ((nth x 4).list)).2.2.2.2)]
def qp_z : List TC := [TC.i (0 : Int), TC.i (0 : Int), TC.s [], TC.l [], TC.l []]
theorem qp_id {A : LL} (h : Typed tab (.slice 25) (.l A)) : A.map qp_g = A := map_same fun x hx => by
  obtain ⟨hl, hk⟩ := typed_elem h hx
  have e0 : TC.i ((nth x 0).int) = nth x 0 := typed_int_eq (hk 0 (by decide))
  have e1 : TC.i ((nth x 1).int) = nth x 1 := typed_int_eq (hk 1 (by decide))
  have e2 : TC.s ((nth x 2).str) = nth x 2 := typed_str_eq (hk 2 (by decide))
  have e3 : TC.l ((nth x 3).list) = nth x 3 := typed_list_eq (hk 3 (by decide))
  have e4 : TC.l ((nth x 4).list) = nth x 4 := typed_list_eq (hk 4 (by decide))
  show [TC.i ((nth x 0).int), TC.i ((nth x 1).int), TC.s ((nth x 2).str), TC.l ((nth x 3).list), TC.l ((nth x 4).list)] = _
  rw [e0, e1, e2, e3, e4]
  exact (row_eta hl).symm
abbrev qp_3_σ := LL × LL × Int
abbrev qp_3_ω := (LL)
def qp_3_step (A X : LL) (i : Int) : Tr (qp_3_σ ⊕ qp_3_ω) := (.ite ((decide (i < (A.length : Int))) = true) (.ite ((0 : Int) ≤ i ∧ i < (A.length : Int)) (.ite ((qi_rc ((nth (row A i) 0).int) ((nth (row A i) 1).int) ((nth (row A i) 2).str) ((nth (row A i) 3).list) ((nth (row A i) 4).list)) = true) (.ite ((0 : Int) ≤ i ∧ i < (X.length : Int)) (.ok (.inl (A, (X.set (i).toNat (splice (row X i) 0 [TC.i ((qi_rv ((nth (row A i) 0).int) ((nth (row A i) 1).int) ((nth (row A i) 2).str) ((nth (row A i) 3).list) ((nth (row A i) 4).list)).1), TC.i ((qi_rv ((nth (row A i) 0).int) ((nth (row A i) 1).int) ((nth (row A i) 2).str) ((nth (row A i) 3).list) ((nth (row A i) 4).list)).2.1), TC.s ((qi_rv ((nth (row A i) 0).int) ((nth (row A i) 1).int) ((nth (row A i) 2).str) ((nth (row A i) 3).list) ((nth (row A i) 4).list)).2.2.1), TC.l ((qi_rv ((nth (row A i) 0).int) ((nth (row A i) 1).int) ((nth (row A i) 2).str) ((nth (row A i) 3).list) ((nth (row A i) 4).list)).2.2.2.1), TC.l ((qi_rv ((nth (row A i) 0).int) ((nth (row A i) 1).int) ((nth (row A i) 2).str) ((nth (row A i) 3).list) ((nth (row A i) 4).list)).2.2.2.2)])), (IntKind.wrap .i64 (i + (1 : Int))))))
     .no)
    .no)
   .no)
  (.ok (.inr X)))
def qp_3_st : qp_3_σ → Tr (qp_3_σ ⊕ qp_3_ω) := fun x => (qp_3_step (x.1) (x.2.1) (x.2.2))
def qp_o3_1 (A X : LL) (i : Int) : Bool := is (Typed tab (.slice 25) (.l A) ∧ (∀ x : List TC, x ∈ A → (qi_rc ((nth x 0).int) ((nth x 1).int) ((nth x 2).str) ((nth x 3).list) ((nth x 4).list)) = true) ∧ X = List.replicate A.length qp_z ∧ i = 0)
def qp_3_fin (A X : LL) (i : Int) : Told qp_3_ω := (.leaf (qp_o3_1 A X i) A)
def qp_3_sl (x : qp_3_σ) : List Slot := [⟨.val false [⟨.slice 25, .sh, TC.l (x.1)⟩], ⟨0, 0⟩⟩, ⟨.val false [⟨.slice 31, .own true, TC.l (x.2.1)⟩], ⟨0, 0⟩⟩, ⟨.val false [⟨.int .i64, .sh, TC.i (x.2.2)⟩], ⟨0, 0⟩⟩]
def qp_3_out : qp_3_ω → Ex × List Slot := (fun x => (.exit 0, [Slot.none, ⟨.val false [⟨.slice 31, .own true, TC.l x⟩], ⟨0, 0⟩⟩]))
def qp_lo3 : List Slot → Option (Told (Ex × List Slot)) := fun s => match s with
  | [⟨.val false [⟨.slice 25, .sh, TC.l A⟩], ⟨0, 0⟩⟩, ⟨.val false [⟨.slice 31, .own true, TC.l X⟩], ⟨0, 0⟩⟩, ⟨.val false [⟨.int .i64, .sh, TC.i i⟩], ⟨0, 0⟩⟩] => some (((qp_3_fin A X i)).map qp_3_out)
  | _ => .none
def qp_lo : LoopTeller := fun r s => bif Nat.beq r 3 then qp_lo3 s else .none
theorem qp_3_r (A X : LL) (i : Int) (fuel : Nat) : rounds (rnd tab FT D4 live 19 qp_lo 0 3) leave (fuel + 1) (qp_3_sl (A, X, i)) = ((qp_3_step A X i)).run (goOn (fun s => rounds (rnd tab FT D4 live 19 qp_lo 0 3) leave fuel (qp_3_sl s)) fun w => some (qp_3_out w)) := by kernel_rfl
theorem qp_3_h (A X : LL) (i : Int) (ow : qp_3_ω) : ((qp_3_fin A X i)).val = some ow → ∃ fuel, loopN qp_3_st fuel (A, X, i) = some ow := by
  intro h
  refine auto_leaf (R := A) (fun ho => ?_) h
  obtain ⟨ht, hr0, rfl, rfl⟩ := is_iff.1 ho
  have hlen : A.length ≤ 140737488351232 := by have := typed_room ht; simp only [show (tab 25).bytes = 80 from rfl] at this; omega
  have key := loopN_copy (step := qp_3_st) A (List.replicate A.length qp_z) qp_g (fun Y i => (A, Y, (i : Int))) (A.map qp_g) (by simp) (fun x hx i _ => by rw [(List.mem_replicate.1 hx).2]; exact Nat.le_refl 5) (fun Y i hi hl => ?_) ?_ A.length 0 (by omega)
  · rw [copied_zero, qp_id ht] at key
    exact ⟨_, key⟩
  · have c2 : Typed tab (.str) (.s (nth (A.getD i []) 2).str) := typed_s (typed_cell ht (A.getD i []) (mem_getD hi) 2 (by decide))
    have c3 : Typed tab (.slice 25) (.l (nth (A.getD i []) 3).list) := typed_list (typed_cell ht (A.getD i []) (mem_getD hi) 3 (by decide))
    have c4 : Typed tab (.slice 61) (.l (nth (A.getD i []) 4).list) := typed_list (typed_cell ht (A.getD i []) (mem_getD hi) 4 (by decide))
    show (qp_3_step A Y (i : Int)).val = _
    unfold qp_3_step
    refine Tr.t (by simp; omega) ?_
    refine Tr.t (by first | omega | (constructor <;> omega)) ?_
    refine Tr.t (hr0 (A.getD i []) (mem_getD hi)) ?_
    refine Tr.t (by first | omega | (constructor <;> omega)) ?_
    rw [Tr.val_ok, wrap64 (i := (i : Int) + 1) (by omega) (by omega)]; rfl
  · show (qp_3_step A (A.map qp_g) (A.length : Int)).val = _
    refine Tr.n (by simp) ?_
    rfl
theorem qp_is3 : LoopIs tab FT D4 live 19 qp_lo 0 3 := by
  refine loop_told (sl := qp_3_sl) (step := qp_3_st) (out := qp_3_out) (lor := qp_lo3) (fin := fun x => (qp_3_fin (x.1) (x.2.1) (x.2.2))) (fun _ => rfl) ?_ (fun x n => qp_3_r x.1 x.2.1 x.2.2 n) (fun x ow => qp_3_h x.1 x.2.1 x.2.2 ow)
  intro s t h
  unfold qp_lo3 at h
  split at h
  · cases h; exact ⟨(_, _, _), rfl, rfl⟩
  · cases h
def qp_t (A : LL) : Tr (LL) := (.ite (0 ≤ (A.length : Int) ∧ (A.length : Int) ≤ (A.length : Int) ∧ (A.length : Int) * 80 ≤ 140737488355328 ∧ (A.length : Int) ≤ 140737488355328) (.ite ((qp_o3_1 A (List.replicate ((A.length : Int)).toNat [TC.i (0 : Int), TC.i (0 : Int), TC.s [], TC.l [], TC.l []]) (0 : Int)) = true) (.ok A)
   .no)
  .no)
def qp_mk (p : LL) : Res := [(false, [⟨.slice 31, .own true, TC.l p⟩])]
def qp_c (A : LL) : Bool := is (Typed tab (.slice 25) (.l A) ∧ (∀ x : List TC, x ∈ A → (qi_rc ((nth x 0).int) ((nth x 1).int) ((nth x 2).str) ((nth x 3).list) ((nth x 4).list)) = true))
def qp_v (A : LL) : LL := A
theorem qp_l (A : LL) : (qp_c A) = true → (qp_t A).val = some (qp_v A) := by
  intro h
  obtain ⟨ht, hr0⟩ := is_iff.1 h
  have hb := typed_room ht
  simp only [show (tab 25).bytes = 80 from rfl] at hb
  unfold qp_t
  refine Tr.t (by omega) ?_
  refine Tr.t (is_true ⟨ht, hr0, by rfl, rfl⟩) ?_
  rfl
def qp_S : List Arg → Option (Bool × Res) := fun xs => match xs with
  | [(false, [(.slice 25, TC.l A)])] => some ((qp_c A), qp_mk (qp_v A))
  | _ => .none
theorem qp_e (A : LL) : runF tab FT D4 live 19 qp_lo [(false, [(.slice 25, TC.l A)])] = (qp_t A).run fun p => some (qp_mk p) := by kernel_rfl
theorem qp_s : ∀ xs r, qp_S xs = some (true, r) → runF tab FT D4 live 19 qp_lo xs = some r := by
  intro xs r h
  unfold qp_S at h
  split at h
  · obtain ⟨h1, rfl⟩ := sp h
    exact fun_told (qp_e _) (qp_l _) h1
  · cases h
def D5 : Dt := also D4 19 qp_S
theorem d5 : DOk Go.Proofs.Try.prog tab D5 := d4.also mixed_ok tab_ok names_ok (fnLoops_one (by kernel_rfl) qp_is3) qp_s
theorem qp_ty {A : LL} (h : Typed tab (.slice 25) (.l A)) : Typed tab (.slice 31) (.l A) := typed_iso iso_ok h (by decide)
def qbg_t (a0 a1 : Int) (a2 : Bool) : Tr (Int × Int × Bool) := .ok (a0, a1, a2)
def qbg_mk (p : Int × Int × Bool) : Res := [(true, [⟨.int .i64, .sh, TC.i (p.1)⟩, ⟨.int .i64, .sh, TC.i (p.2.1)⟩, ⟨.bool, .sh, TC.b (p.2.2)⟩])]
def qbg_c (a0 a1 : Int) (a2 : Bool) : Bool := true
def qbg_v (a0 a1 : Int) (a2 : Bool) : Int × Int × Bool := (a0, a1, a2)
theorem qbg_l (a0 a1 : Int) (a2 : Bool) : (qbg_c a0 a1 a2) = true → (qbg_t a0 a1 a2).val = some (qbg_v a0 a1 a2) := by
  intro h
  skip
  unfold qbg_t qbg_v
  exact rfl
def qbg_S : List Arg → Option (Bool × Res) := fun xs => match xs with
  | [(true, [(.int .i64, TC.i a0), (.int .i64, TC.i a1), (.bool, TC.b a2)])] => some (true, qbg_mk (qbg_v a0 a1 a2))
  | _ => .none
theorem qbg_e (a0 a1 : Int) (a2 : Bool) : runF tab FT D5 live 32 noLoops [(true, [(.int .i64, TC.i a0), (.int .i64, TC.i a1), (.bool, TC.b a2)])] = (qbg_t a0 a1 a2).run fun p => some (qbg_mk p) := by kernel_rfl
theorem qbg_s : ∀ xs r, qbg_S xs = some (true, r) → runF tab FT D5 live 32 noLoops xs = some r := by
  intro xs r h
  unfold qbg_S at h
  split at h
  · obtain ⟨h1, rfl⟩ := sp h
    exact fun_told (qbg_e ..) (qbg_l _ _ _) rfl
  · cases h
def D6 : Dt := also D5 32 qbg_S
theorem d6 : DOk Go.Proofs.Try.prog tab D6 := d5.also mixed_ok tab_ok names_ok noLoops_ok qbg_s
def ql_g (x : List TC) : List TC := [TC.i ((nth x 0).int), TC.i ((nth x 1).int), TC.b ((nth x 2).bool)]
def ql_z : List TC := [TC.i (0 : Int), TC.i (0 : Int), TC.b false]
theorem ql_id {A : LL} (h : Typed tab (.slice 61) (.l A)) : A.map ql_g = A := map_same fun x hx => by
  obtain ⟨hl, hk⟩ := typed_elem h hx
  have e0 : TC.i ((nth x 0).int) = nth x 0 := typed_int_eq (hk 0 (by decide))
  have e1 : TC.i ((nth x 1).int) = nth x 1 := typed_int_eq (hk 1 (by decide))
  have e2 : TC.b ((nth x 2).bool) = nth x 2 := typed_bool_eq (hk 2 (by decide))
  show [TC.i ((nth x 0).int), TC.i ((nth x 1).int), TC.b ((nth x 2).bool)] = _
  rw [e0, e1, e2]
  exact (row_eta hl).symm
abbrev ql_3_σ := LL × LL × Int
abbrev ql_3_ω := (LL)
def ql_3_step (A X : LL) (i : Int) : Tr (ql_3_σ ⊕ ql_3_ω) := (.ite ((decide (i < (A.length : Int))) = true) (.ite ((0 : Int) ≤ i ∧ i < (A.length : Int)) (.ite ((0 : Int) ≤ i ∧ i < (X.length : Int)) (.ok (.inl (A, (X.set (i).toNat (splice (row X i) 0 [TC.i ((nth (row A i) 0).int), TC.i ((nth (row A i) 1).int), TC.b ((nth (row A i) 2).bool)])), (IntKind.wrap .i64 (i + (1 : Int))))))
    .no)
   .no)
  (.ok (.inr X)))
def ql_3_st : ql_3_σ → Tr (ql_3_σ ⊕ ql_3_ω) := fun x => (ql_3_step (x.1) (x.2.1) (x.2.2))
def ql_o3_1 (A X : LL) (i : Int) : Bool := is (Typed tab (.slice 61) (.l A) ∧ X = List.replicate A.length ql_z ∧ i = 0)
def ql_3_fin (A X : LL) (i : Int) : Told ql_3_ω := (.leaf (ql_o3_1 A X i) A)
def ql_3_sl (x : ql_3_σ) : List Slot := [⟨.val false [⟨.slice 61, .sh, TC.l (x.1)⟩], ⟨0, 0⟩⟩, ⟨.val false [⟨.slice 59, .own true, TC.l (x.2.1)⟩], ⟨0, 0⟩⟩, ⟨.val false [⟨.int .i64, .sh, TC.i (x.2.2)⟩], ⟨0, 0⟩⟩]
def ql_3_out : ql_3_ω → Ex × List Slot := (fun x => (.exit 0, [Slot.none, ⟨.val false [⟨.slice 59, .own true, TC.l x⟩], ⟨0, 0⟩⟩]))
def ql_lo3 : List Slot → Option (Told (Ex × List Slot)) := fun s => match s with
  | [⟨.val false [⟨.slice 61, .sh, TC.l A⟩], ⟨0, 0⟩⟩, ⟨.val false [⟨.slice 59, .own true, TC.l X⟩], ⟨0, 0⟩⟩, ⟨.val false [⟨.int .i64, .sh, TC.i i⟩], ⟨0, 0⟩⟩] => some (((ql_3_fin A X i)).map ql_3_out)
  | _ => .none
def ql_lo : LoopTeller := fun r s => bif Nat.beq r 3 then ql_lo3 s else .none
theorem ql_3_r (A X : LL) (i : Int) (fuel : Nat) : rounds (rnd tab FT D6 live 20 ql_lo 0 3) leave (fuel + 1) (ql_3_sl (A, X, i)) = ((ql_3_step A X i)).run (goOn (fun s => rounds (rnd tab FT D6 live 20 ql_lo 0 3) leave fuel (ql_3_sl s)) fun w => some (ql_3_out w)) := by kernel_rfl
theorem ql_3_h (A X : LL) (i : Int) (ow : ql_3_ω) : ((ql_3_fin A X i)).val = some ow → ∃ fuel, loopN ql_3_st fuel (A, X, i) = some ow := by
  intro h
  refine auto_leaf (R := A) (fun ho => ?_) h
  obtain ⟨ht, rfl, rfl⟩ := is_iff.1 ho
  have hlen : A.length ≤ 140737488351232 := by have := typed_room ht; simp only [show (tab 61).bytes = 24 from rfl] at this; omega
  have key := loopN_copy (step := ql_3_st) A (List.replicate A.length ql_z) ql_g (fun Y i => (A, Y, (i : Int))) (A.map ql_g) (by simp) (fun x hx i _ => by rw [(List.mem_replicate.1 hx).2]; exact Nat.le_refl 3) (fun Y i hi hl => ?_) ?_ A.length 0 (by omega)
  · rw [copied_zero, ql_id ht] at key
    exact ⟨_, key⟩
  · skip
    show (ql_3_step A Y (i : Int)).val = _
    unfold ql_3_step
    refine Tr.t (by simp; omega) ?_
    refine Tr.t (by first | omega | (constructor <;> omega)) ?_
    refine Tr.t (by first | omega | (constructor <;> omega)) ?_
    rw [Tr.val_ok, wrap64 (i := (i : Int) + 1) (by omega) (by omega)]; rfl
  · show (ql_3_step A (A.map ql_g) (A.length : Int)).val = _
    refine Tr.n (by simp) ?_
    rfl
theorem ql_is3 : LoopIs tab FT D6 live 20 ql_lo 0 3 := by
  refine loop_told (sl := ql_3_sl) (step := ql_3_st) (out := ql_3_out) (lor := ql_lo3) (fin := fun x => (ql_3_fin (x.1) (x.2.1) (x.2.2))) (fun _ => rfl) ?_ (fun x n => ql_3_r x.1 x.2.1 x.2.2 n) (fun x ow => ql_3_h x.1 x.2.1 x.2.2 ow)
  intro s t h
  unfold ql_lo3 at h
  split at h
  · cases h; exact ⟨(_, _, _), rfl, rfl⟩
  · cases h
def ql_t (A : LL) : Tr (LL) := (.ite (0 ≤ (A.length : Int) ∧ (A.length : Int) ≤ (A.length : Int) ∧ (A.length : Int) * 24 ≤ 140737488355328 ∧ (A.length : Int) ≤ 140737488355328) (.ite ((ql_o3_1 A (List.replicate ((A.length : Int)).toNat [TC.i (0 : Int), TC.i (0 : Int), TC.b false]) (0 : Int)) = true) (.ok A)
   .no)
  .no)
def ql_mk (p : LL) : Res := [(false, [⟨.slice 59, .own true, TC.l p⟩])]
def ql_c (A : LL) : Bool := is (Typed tab (.slice 61) (.l A))
def ql_v (A : LL) : LL := A
theorem ql_l (A : LL) : (ql_c A) = true → (ql_t A).val = some (ql_v A) := by
  intro h
  have ht := is_iff.1 h
  have hb := typed_room ht
  simp only [show (tab 61).bytes = 24 from rfl] at hb
  unfold ql_t
  refine Tr.t (by omega) ?_
  refine Tr.t (is_true ⟨ht, by rfl, rfl⟩) ?_
  rfl
def ql_S : List Arg → Option (Bool × Res) := fun xs => match xs with
  | [(false, [(.slice 61, TC.l A)])] => some ((ql_c A), ql_mk (ql_v A))
  | _ => .none
theorem ql_e (A : LL) : runF tab FT D6 live 20 ql_lo [(false, [(.slice 61, TC.l A)])] = (ql_t A).run fun p => some (ql_mk p) := by kernel_rfl
theorem ql_s : ∀ xs r, ql_S xs = some (true, r) → runF tab FT D6 live 20 ql_lo xs = some r := by
  intro xs r h
  unfold ql_S at h
  split at h
  · obtain ⟨h1, rfl⟩ := sp h
    exact fun_told (ql_e _) (ql_l _) h1
  · cases h
def D7 : Dt := also D6 20 ql_S
theorem d7 : DOk Go.Proofs.Try.prog tab D7 := d6.also mixed_ok tab_ok names_ok (fnLoops_one (by kernel_rfl) ql_is3) ql_s
theorem ql_ty {A : LL} (h : Typed tab (.slice 61) (.l A)) : Typed tab (.slice 59) (.l A) := typed_iso iso_ok h (by decide)
def qi_t (x0 x1 : Int) (x2 : BS) (x3 x4 : LL) : Tr (Int × Int × BS × LL × LL) := (.ite ((qp_c x3) = true) (.ite ((ql_c x4) = true) (.ok (x0, x1, x2, (qp_v x3), (ql_v x4)))
   .no)
  .no)
def qi_mk (p : Int × Int × BS × LL × LL) : Res := [(true, [⟨.int .i64, .sh, TC.i (p.1)⟩, ⟨.int .i64, .sh, TC.i (p.2.1)⟩, ⟨.str, .sh, TC.s (p.2.2.1)⟩, ⟨.slice 31, .own true, TC.l (p.2.2.2.1)⟩, ⟨.slice 59, .own true, TC.l (p.2.2.2.2)⟩])]
def qi_c (x0 x1 : Int) (x2 : BS) (x3 x4 : LL) : Bool := ((qp_c x3) && ((ql_c x4) && true))
def qi_v (x0 x1 : Int) (x2 : BS) (x3 x4 : LL) : Int × Int × BS × LL × LL := (x0, x1, x2, (qp_v x3), (ql_v x4))
theorem qi_l (x0 x1 : Int) (x2 : BS) (x3 x4 : LL) : (qi_c x0 x1 x2 x3 x4) = true → (qi_t x0 x1 x2 x3 x4).val = some (qi_v x0 x1 x2 x3 x4) := by
  unfold qi_t qi_v qi_c
  exact fun h => (Tr.gb h fun h => (Tr.gb h fun h => rfl))
theorem qi_e (x0 x1 : Int) (x2 : BS) (x3 x4 : LL) : runF tab FT D7 live 7 noLoops [(true, [(.int .i64, TC.i x0), (.int .i64, TC.i x1), (.str, TC.s x2), (.slice 25, TC.l x3), (.slice 61, TC.l x4)])] = (qi_t x0 x1 x2 x3 x4).run fun p => some (qi_mk p) := by kernel_rfl
theorem qi_nx (x0 x1 : Int) (x2 : BS) (x3 x4 : LL) : is (rowsDep x3 < qi_O.n + 1 ∧ Typed tab (.slice 25) (.l x3) ∧ Typed tab (.slice 61) (.l x4)) = true → (qi_c x0 x1 x2 x3 x4) = true ∧ (qi_v x0 x1 x2 x3 x4) = (x0, x1, x2, x3, x4) := by
  intro h
  obtain ⟨hM, t3, t4⟩ := is_iff.1 h
  refine ⟨?_, rfl⟩
  unfold qi_c
  refine andT (by exact is_true ⟨t3, fun x hx => is_true ⟨by have a := dep_cell hx 3; omega, typed_list ((typed_elem t3 hx).2 3 (by decide)), typed_list ((typed_elem t3 hx).2 4 (by decide))⟩⟩) ?_
  refine andT (by exact is_true t4) ?_
  rfl
theorem qi_nxr (x0 x1 : Int) (x2 : BS) (x3 x4 : LL) : qi_rc (i_laws_toExp := ⟨qi_O.n + 1⟩) x0 x1 x2 x3 x4 = true → (qi_c x0 x1 x2 x3 x4) = true ∧ (qi_v x0 x1 x2 x3 x4) = (qi_rv x0 x1 x2 x3 x4) := fun h => qi_nx x0 x1 x2 x3 x4 h
theorem qi_rs : ∀ xs r, qi_rS (i_laws_toExp := ⟨qi_O.n + 1⟩) xs = some (true, r) → runF tab FT D7 live 7 noLoops xs = some r := by
  intro xs r h
  unfold qi_rS at h
  split at h
  · obtain ⟨h1, rfl⟩ := sp h
    have hx := qi_nxr _ _ _ _ _ h1
    have ht := fun_told (qi_e ..) (qi_l _ _ _ _ _) hx.1
    rw [hx.2] at ht
    exact ht
  · cases h
theorem qi_step : qi_G (i_laws_toExp := ⟨qi_O.n + 1⟩) := by
  have h := DOk.also2 (S := qi_rS (i_laws_toExp := ⟨qi_O.n + 1⟩)) mixed_ok tab_ok names_ok d3 d7 noLoops_ok qi_rs
  refine qi_G.mk (i_laws_toExp := ⟨qi_O.n + 1⟩) ?_
  exact h
def qt_t (a0 a1 a2 : Int) : Tr (Bool) := (.ite ((decide (a0 ≥ a1)) = true) (.ok (decide (a0 ≤ a2)))
  (.ok false))
def qt_mk (p : Bool) : Res := [(false, [⟨.bool, .sh, TC.b p⟩])]
def qt_c (a0 a1 a2 : Int) : Bool := true
def qt_v (a0 a1 a2 : Int) : Bool := (bif (decide (a0 ≥ a1)) then (decide (a0 ≤ a2)) else false)
theorem qt_l (a0 a1 a2 : Int) : (qt_c a0 a1 a2) = true → (qt_t a0 a1 a2).val = some (qt_v a0 a1 a2) := by
  intro h
  skip
  unfold qt_t qt_v
  exact (Tr.s rfl rfl)
def qt_S : List Arg → Option (Bool × Res) := fun xs => match xs with
  | [(false, [(.int .i64, TC.i a0)]), (false, [(.int .i64, TC.i a1)]), (false, [(.int .i64, TC.i a2)])] => some (true, qt_mk (qt_v a0 a1 a2))
  | _ => .none
theorem qt_e (a0 a1 a2 : Int) : runF tab FT D7 live 38 noLoops [(false, [(.int .i64, TC.i a0)]), (false, [(.int .i64, TC.i a1)]), (false, [(.int .i64, TC.i a2)])] = (qt_t a0 a1 a2).run fun p => some (qt_mk p) := by kernel_rfl
theorem qt_s : ∀ xs r, qt_S xs = some (true, r) → runF tab FT D7 live 38 noLoops xs = some r := by
  intro xs r h
  unfold qt_S at h
  split at h
  · obtain ⟨h1, rfl⟩ := sp h
    exact fun_told (qt_e ..) (qt_l _ _ _) rfl
  · cases h
def D8 : Dt := also D7 38 qt_S
theorem d8 : DOk Go.Proofs.Try.prog tab D8 := d7.also mixed_ok tab_ok names_ok noLoops_ok qt_s
def qx_t (a0 : Int) : Tr (Bool) := (.ite ((decide (a0 ≥ (65 : Int))) = true) (.ite ((decide (a0 ≤ (90 : Int))) = true) (.ok true)
   (.ite ((decide (a0 ≥ (97 : Int))) = true) (.ok (decide (a0 ≤ (122 : Int))))
    (.ok false)))
  (.ite ((decide (a0 ≥ (97 : Int))) = true) (.ok (decide (a0 ≤ (122 : Int))))
   (.ok false)))
def qx_mk (p : Bool) : Res := [(false, [⟨.bool, .sh, TC.b p⟩])]
def qx_c (a0 : Int) : Bool := true
def qx_v (a0 : Int) : Bool := (bif (decide (a0 ≥ (65 : Int))) then (bif (decide (a0 ≤ (90 : Int))) then true else (bif (decide (a0 ≥ (97 : Int))) then (decide (a0 ≤ (122 : Int))) else false)) else (bif (decide (a0 ≥ (97 : Int))) then (decide (a0 ≤ (122 : Int))) else false))
theorem qx_l (a0 : Int) : (qx_c a0) = true → (qx_t a0).val = some (qx_v a0) := by
  intro h
  skip
  unfold qx_t qx_v
  exact (Tr.s (Tr.s rfl (Tr.s rfl rfl)) (Tr.s rfl rfl))
def qx_S : List Arg → Option (Bool × Res) := fun xs => match xs with
  | [(false, [(.int .u8, TC.i a0)])] => some (true, qx_mk (qx_v a0))
  | _ => .none
theorem qx_e (a0 : Int) : runF tab FT D8 live 61 noLoops [(false, [(.int .u8, TC.i a0)])] = (qx_t a0).run fun p => some (qx_mk p) := by kernel_rfl
theorem qx_s : ∀ xs r, qx_S xs = some (true, r) → runF tab FT D8 live 61 noLoops xs = some r := by
  intro xs r h
  unfold qx_S at h
  split at h
  · obtain ⟨h1, rfl⟩ := sp h
    exact fun_told (qx_e _) (qx_l _) rfl
  · cases h
def D9 : Dt := also D8 61 qx_S
theorem d9 : DOk Go.Proofs.Try.prog tab D9 := d8.also mixed_ok tab_ok names_ok noLoops_ok qx_s
def qf_f4 (s : BS) (i : Int) : (Unit) ⊕ ((Unit) ⊕ (Unit)) := (bif (!(qx_v ((s.getD (i).toNat 0).toNat : Int))) then (bif (decide (((s.getD (i).toNat 0).toNat : Int) ≥ (48 : Int))) then (bif (!(decide (((s.getD (i).toNat 0).toNat : Int) ≤ (57 : Int)))) then (bif (!(((s.getD (i).toNat 0).toNat : Int) == (95 : Int))) then (.inr (.inl ())) else (.inl ())) else (.inl ())) else (bif (!(((s.getD (i).toNat 0).toNat : Int) == (95 : Int))) then (.inr (.inl ())) else (.inl ()))) else (.inl ()))
def qf_e4 (s : BS) : (Unit) ⊕ (Unit) := .inr ()
def qf_R4 (s : BS) (i : Int) : (Unit) ⊕ (Unit) := iter (fun i a => (qf_f4 s ((i + 1 : Nat) : Int))) (fun a => (qf_e4 s)) (s.length - 1) 0 ()
abbrev qf_4_σ := BS × Int
abbrev qf_4_ω := (Unit) ⊕ (Unit)
def qf_4_step (s : BS) (i : Int) : Tr (qf_4_σ ⊕ qf_4_ω) := (.ite ((decide (i < (s.length : Int))) = true) (.ite ((0 : Int) ≤ i ∧ i < (s.length : Int)) (.ite ((!(qx_v ((s.getD (i).toNat 0).toNat : Int))) = true) (.ite ((0 : Int) ≤ i ∧ i < (s.length : Int)) (.ite ((decide (((s.getD (i).toNat 0).toNat : Int) ≥ (48 : Int))) = true) (.ite ((0 : Int) ≤ i ∧ i < (s.length : Int)) (.ite ((!(decide (((s.getD (i).toNat 0).toNat : Int) ≤ (57 : Int)))) = true) (.ite ((0 : Int) ≤ i ∧ i < (s.length : Int)) (.ite ((!(((s.getD (i).toNat 0).toNat : Int) == (95 : Int))) = true) (.ok (.inr (.inl ())))
          (.ok (.inl (s, (IntKind.wrap .i64 (i + (1 : Int)))))))
         .no)
        (.ok (.inl (s, (IntKind.wrap .i64 (i + (1 : Int)))))))
       .no)
      (.ite ((0 : Int) ≤ i ∧ i < (s.length : Int)) (.ite ((!(((s.getD (i).toNat 0).toNat : Int) == (95 : Int))) = true) (.ok (.inr (.inl ())))
        (.ok (.inl (s, (IntKind.wrap .i64 (i + (1 : Int)))))))
       .no))
     .no)
    (.ok (.inl (s, (IntKind.wrap .i64 (i + (1 : Int)))))))
   .no)
  (.ok (.inr (.inr ()))))
def qf_4_st : qf_4_σ → Tr (qf_4_σ ⊕ qf_4_ω) := fun x => (qf_4_step (x.1) (x.2))
def qf_k4_1 (s : BS) (i : Int) : Bool := sumIs (qf_R4 s i)
def qf_o4_2 (s : BS) (i : Int) : Bool := is (i = 1 ∧ s.length ≤ 140737488355328)
def qf_o4_3 (s : BS) (i : Int) : Bool := is (i = 1 ∧ s.length ≤ 140737488355328)
def qf_4_fin (s : BS) (i : Int) : Told qf_4_ω := (.br (qf_k4_1 s i) (.leaf (qf_o4_2 s i) (.inl ())) (.leaf (qf_o4_3 s i) (.inr ())))
def qf_4_sl (x : qf_4_σ) : List Slot := [⟨.val false [⟨.str, .sh, TC.s (x.1)⟩], ⟨0, 0⟩⟩, ⟨.val false [⟨.int .i64, .sh, TC.i (x.2)⟩], ⟨0, 0⟩⟩]
def qf_4_out : qf_4_ω → Ex × List Slot := (Sum.elim (fun x => (.ret, [⟨.val false [⟨.bool, .sh, TC.b false⟩], ⟨0, 0⟩⟩])) (fun x => (.exit 0, [Slot.none])))
def qf_lo4 : List Slot → Option (Told (Ex × List Slot)) := fun s => match s with
  | [⟨.val false [⟨.str, .sh, TC.s s⟩], ⟨0, 0⟩⟩, ⟨.val false [⟨.int .i64, .sh, TC.i i⟩], ⟨0, 0⟩⟩] => some (((qf_4_fin s i)).map qf_4_out)
  | _ => .none
def qf_lo : LoopTeller := fun r s => bif Nat.beq r 4 then qf_lo4 s else .none
theorem qf_4_r (s : BS) (i : Int) (fuel : Nat) : rounds (rnd tab FT D9 live 39 qf_lo 0 4) leave (fuel + 1) (qf_4_sl (s, i)) = ((qf_4_step s i)).run (goOn (fun s => rounds (rnd tab FT D9 live 39 qf_lo 0 4) leave fuel (qf_4_sl s)) fun w => some (qf_4_out w)) := by kernel_rfl
theorem qf_f4_eq (s : BS) (i : Int) : qf_f4 s i = bif (letterB ((s.getD (i).toNat 0).toNat : Int) || ((decide (((s.getD (i).toNat 0).toNat : Int) ≥ 48) && decide (((s.getD (i).toNat 0).toNat : Int) ≤ 57)) || ((s.getD (i).toNat 0).toNat : Int) == 95)) then Sum.inl () else Sum.inr (Sum.inl ()) := by
  unfold qf_f4 letterB
  simp only [qx_v, dlt, dgt]
  generalize ((s.getD i.toNat 0).toNat : Int) = c
  generalize decide (c ≥ 65) = p0, decide (c ≤ 90) = p1, decide (c ≥ 97) = p2, decide (c ≤ 122) = p3, decide (c ≥ 48) = p4, decide (c ≤ 57) = p5, (c == 95) = p6
  cases p0 <;> cases p1 <;> cases p2 <;> cases p3 <;> cases p4 <;> cases p5 <;> cases p6 <;> rfl
theorem qf_R4_eq (s : BS)  : qf_R4 s 1 = bif allI (fun i : Nat => (letterB ((s.getD (((i + 1 : Nat) : Int)).toNat 0).toNat : Int) || ((decide (((s.getD (((i + 1 : Nat) : Int)).toNat 0).toNat : Int) ≥ 48) && decide (((s.getD (((i + 1 : Nat) : Int)).toNat 0).toNat : Int) ≤ 57)) || ((s.getD (((i + 1 : Nat) : Int)).toNat 0).toNat : Int) == 95))) (s.length - 1) then Sum.inr () else (Sum.inl ()) := by
  unfold qf_R4
  exact (iter_all (P := (fun i : Nat => (letterB ((s.getD (((i + 1 : Nat) : Int)).toNat 0).toNat : Int) || ((decide (((s.getD (((i + 1 : Nat) : Int)).toNat 0).toNat : Int) ≥ 48) && decide (((s.getD (((i + 1 : Nat) : Int)).toNat 0).toNat : Int) ≤ 57)) || ((s.getD (((i + 1 : Nat) : Int)).toNat 0).toNat : Int) == 95)))) (g := fun _ a => a) (w := Sum.inl ()) fun j a _ => qf_f4_eq s _)
theorem qf_4_h (s : BS) (i : Int) (ow : qf_4_ω) : ((qf_4_fin s i)).val = some ow → ∃ fuel, loopN qf_4_st fuel (s, i) = some ow := by
  refine auto_const (R := (qf_R4 s i)) rfl (iter_onR (f := (fun i a => (qf_f4 s ((i + 1 : Nat) : Int)))) (fin := (fun a => (qf_e4 s))) (Q := endsAs () ()) (fun i a => by unfold qf_f4; exact (onR_bif (onR_bif (onR_bif (onR_bif rfl trivial) trivial) (onR_bif rfl trivial)) trivial)) (fun _ => rfl) _ _ _) ?_
  intro ho
  have ho : is (i = 1 ∧ s.length ≤ 140737488355328) = true := ho.elim id id
  obtain ⟨rfl, hs⟩ := is_iff.1 ho
  skip
  refine ⟨(s.length - 1) + 1, ?_⟩
  refine iter_loop (step := qf_4_st) (s.length - 1) (fun i a => (qf_f4 s ((i + 1 : Nat) : Int))) (fun a => (qf_e4 s)) (fun i a => (s, ((i + 1 : Nat) : Int))) (fun _ _ => True) trivial (fun i a hi hI => ⟨?_, fun _ _ => trivial⟩) (fun a hI => ?_)
  · show (qf_4_step s ((i + 1 : Nat) : Int)).val = _
    unfold qf_4_step qf_f4
    skip
    refine Tr.t (by simp; omega) ?_
    exact (Tr.t (by first | omega | (constructor <;> omega)) (Tr.bf (Tr.t (by first | omega | (constructor <;> omega)) (Tr.bf (Tr.t (by first | omega | (constructor <;> omega)) (Tr.bf (Tr.t (by first | omega | (constructor <;> omega)) (Tr.bf rfl (by rw [Tr.val_ok, wrap64 (i := ((i + 1 : Nat) : Int) + 1) (by omega) (by omega)]; rfl))) (by rw [Tr.val_ok, wrap64 (i := ((i + 1 : Nat) : Int) + 1) (by omega) (by omega)]; rfl))) (Tr.t (by first | omega | (constructor <;> omega)) (Tr.bf rfl (by rw [Tr.val_ok, wrap64 (i := ((i + 1 : Nat) : Int) + 1) (by omega) (by omega)]; rfl))))) (by rw [Tr.val_ok, wrap64 (i := ((i + 1 : Nat) : Int) + 1) (by omega) (by omega)]; rfl)))
  · show (qf_4_step s ((s.length - 1 + 1 : Nat) : Int)).val = _
    refine Tr.n (by first | (simp; done) | (simp; omega) | omega) ?_
    rfl
theorem qf_is4 : LoopIs tab FT D9 live 39 qf_lo 0 4 := by
  refine loop_told (sl := qf_4_sl) (step := qf_4_st) (out := qf_4_out) (lor := qf_lo4) (fin := fun x => (qf_4_fin (x.1) (x.2))) (fun _ => rfl) ?_ (fun x n => qf_4_r x.1 x.2 n) (fun x ow => qf_4_h x.1 x.2 ow)
  intro s t h
  unfold qf_lo4 at h
  split at h
  · cases h; exact ⟨(_, _), rfl, rfl⟩
  · cases h
def qf_t (s : BS) : Tr (Bool) := (.ite (((s.length : Int) == (0 : Int)) = true) (.ok false)
  (.ite ((decide ((s.length : Int) > (12 : Int))) = true) (.ok false)
   (.ite ((0 : Int) ≤ (0 : Int) ∧ (0 : Int) < (s.length : Int)) (.ite ((!(qx_v ((s.getD ((0 : Int)).toNat 0).toNat : Int))) = true) (.ok false)
     (.ite ((qf_k4_1 s (1 : Int)) = true) (.ite ((qf_o4_2 s (1 : Int)) = true) (.ok false)
       .no)
      (.ite ((qf_o4_3 s (1 : Int)) = true) (.ok true)
       .no)))
    .no)))
def qf_mk (p : Bool) : Res := [(false, [⟨.bool, .sh, TC.b p⟩])]
def qf_c (s : BS) : Bool := (bif ((s.length : Int) == (0 : Int)) then true else (bif (decide ((s.length : Int) > (12 : Int))) then true else (is ((0 : Int) ≤ (0 : Int) ∧ (0 : Int) < (s.length : Int)) && (bif (!(qx_v ((s.getD ((0 : Int)).toNat 0).toNat : Int))) then true else (bif (qf_k4_1 s (1 : Int)) then ((qf_o4_2 s (1 : Int)) && true) else ((qf_o4_3 s (1 : Int)) && true))))))
def qf_v (s : BS) : Bool := (bif ((s.length : Int) == (0 : Int)) then false else (bif (decide ((s.length : Int) > (12 : Int))) then false else (bif (!(qx_v ((s.getD ((0 : Int)).toNat 0).toNat : Int))) then false else (bif (qf_k4_1 s (1 : Int)) then false else true))))
theorem qf_l (s : BS) : (qf_c s) = true → (qf_t s).val = some (qf_v s) := by
  unfold qf_t qf_v qf_c
  exact fun h => (Tr.ss h (fun h => rfl) (fun h => (Tr.ss h (fun h => rfl) (fun h => (Tr.gs h fun h => (Tr.ss h (fun h => rfl) (fun h => (Tr.ss h (fun h => (Tr.gb h fun h => rfl)) (fun h => (Tr.gb h fun h => rfl))))))))))
def qf_S : List Arg → Option (Bool × Res) := fun xs => match xs with
  | [(false, [(.str, TC.s s)])] => some ((qf_c s), qf_mk (qf_v s))
  | _ => .none
theorem qf_e (s : BS) : runF tab FT D9 live 39 qf_lo [(false, [(.str, TC.s s)])] = (qf_t s).run fun p => some (qf_mk p) := by kernel_rfl
theorem qf_s : ∀ xs r, qf_S xs = some (true, r) → runF tab FT D9 live 39 qf_lo xs = some r := by
  intro xs r h
  unfold qf_S at h
  split at h
  · obtain ⟨h1, rfl⟩ := sp h
    exact fun_told (qf_e _) (qf_l _) h1
  · cases h
def D10 : Dt := also D9 39 qf_S
theorem d10 : DOk Go.Proofs.Try.prog tab D10 := d9.also mixed_ok tab_ok names_ok (fnLoops_one (by kernel_rfl) qf_is4) qf_s
theorem qf_cc {s : BS} (hs : Typed tab (.str) (.s s)) : (qf_c s) = true := by
  unfold qf_c
  refine bifT (fun b1 => ?_) (fun b1 => ?_)
  · skip
    rfl
  · skip
    refine bifT (fun b2 => ?_) (fun b2 => ?_)
    · skip
      rfl
    · skip
      refine andT (is_true (by exact ⟨by omega, by have h2 := ne_of_beq_false b1; omega⟩)) ?_
      refine bifT (fun b3 => ?_) (fun b3 => ?_)
      · skip
        rfl
      · skip
        refine bifT (fun b4 => ?_) (fun b4 => ?_)
        · skip
          refine andT (by exact is_true ⟨rfl, by have := typed_str_len hs; omega⟩) ?_
          rfl
        · skip
          refine andT (by exact is_true ⟨rfl, by have := typed_str_len hs; omega⟩) ?_
          rfl
theorem qf_vv (s : BS) : qf_v s = nameOk s := by
  unfold qf_v qf_k4_1
  rw [qf_R4_eq]
  have e3 : qx_v ((s.getD ((0 : Int)).toNat 0).toNat : Int) = nameB ((0 : Nat) : Int) ((s.getD (((0 : Nat) : Int)).toNat 0).toNat : Int) := by
    unfold qx_v nameB letterB
    generalize ((s.getD ((0 : Int)).toNat 0).toNat : Int) = c
    generalize decide (c ≥ 65) = p1, decide (c ≤ 90) = p2, decide (c ≥ 97) = p3, decide (c ≤ 122) = p4
    cases p1 <;> cases p2 <;> cases p3 <;> cases p4 <;> rfl
  rw [e3]
  cases h0 : s.length with
  | zero =>
    have : s = [] := List.eq_nil_of_length_eq_zero h0
    subst this
    rfl
  | succ n =>
    have e2 : allI (fun i : Nat => nameB ((i + 1 : Nat) : Int) ((s.getD (((i + 1 : Nat) : Int)).toNat 0).toNat : Int)) n = allI (fun i : Nat => (letterB ((s.getD (((i + 1 : Nat) : Int)).toNat 0).toNat : Int) || ((decide (((s.getD (((i + 1 : Nat) : Int)).toNat 0).toNat : Int) ≥ 48) && decide (((s.getD (((i + 1 : Nat) : Int)).toNat 0).toNat : Int) ≤ 57)) || ((s.getD (((i + 1 : Nat) : Int)).toNat 0).toNat : Int) == 95))) n := allI_congr fun i _ => by
      unfold nameB
      rw [show (((i + 1 : Nat) : Int) == 0) = false from by simp; omega]
      rfl
    unfold nameOk
    rw [h0, allI_head, e2, Nat.add_sub_cancel]
    rw [show (((n + 1 : Nat) : Int) == 0) = false from by simp; omega, show decide (((n + 1 : Nat) : Int) ≥ 1) = true from by simp; omega, dgt]
    generalize nameB ((0 : Nat) : Int) ((s.getD (((0 : Nat) : Int)).toNat 0).toNat : Int) = q1
    generalize allI (fun i : Nat => (letterB ((s.getD (((i + 1 : Nat) : Int)).toNat 0).toNat : Int) || ((decide (((s.getD (((i + 1 : Nat) : Int)).toNat 0).toNat : Int) ≥ 48) && decide (((s.getD (((i + 1 : Nat) : Int)).toNat 0).toNat : Int) ≤ 57)) || ((s.getD (((i + 1 : Nat) : Int)).toNat 0).toNat : Int) == 95))) n = q2
    generalize decide (((n + 1 : Nat) : Int) ≤ 12) = q3
    cases q1 <;> cases q2 <;> cases q3 <;> rfl
def qn_t (a0 : BS) : Tr (Int × Int) := (.ite ((a0 == [115, 117, 109]) = true) (.ok ((1 : Int), (2 : Int)))
  (.ite ((a0 == [109, 105, 110]) = true) (.ok ((1 : Int), (2 : Int)))
   (.ite ((a0 == [109, 97, 120]) = true) (.ok ((1 : Int), (2 : Int)))
    (.ite ((a0 == [99, 111, 117, 110, 116]) = true) (.ok ((1 : Int), (2 : Int)))
     (.ite ((a0 == [97, 98, 115]) = true) (.ok ((1 : Int), (1 : Int)))
      (.ite ((a0 == [116, 114, 97, 110, 115, 112, 111, 115, 101]) = true) (.ok ((1 : Int), (1 : Int)))
       (.ite ((a0 == [105, 111, 116, 97]) = true) (.ok ((1 : Int), (1 : Int)))
        (.ite ((a0 == [109, 97, 116, 109, 117, 108]) = true) (.ok ((2 : Int), (2 : Int)))
         (.ite ((a0 == [119, 104, 101, 114, 101]) = true) (.ok ((3 : Int), (3 : Int)))
          (.ok ((1 : Int), (0 : Int))))))))))))
def qn_mk (p : Int × Int) : Res := [(false, [⟨.int .i64, .sh, TC.i (p.1)⟩]), (false, [⟨.int .i64, .sh, TC.i (p.2)⟩])]
def qn_c (a0 : BS) : Bool := true
def qn_v (a0 : BS) : Int × Int := (bif (a0 == [115, 117, 109]) then ((1 : Int), (2 : Int)) else (bif (a0 == [109, 105, 110]) then ((1 : Int), (2 : Int)) else (bif (a0 == [109, 97, 120]) then ((1 : Int), (2 : Int)) else (bif (a0 == [99, 111, 117, 110, 116]) then ((1 : Int), (2 : Int)) else (bif (a0 == [97, 98, 115]) then ((1 : Int), (1 : Int)) else (bif (a0 == [116, 114, 97, 110, 115, 112, 111, 115, 101]) then ((1 : Int), (1 : Int)) else (bif (a0 == [105, 111, 116, 97]) then ((1 : Int), (1 : Int)) else (bif (a0 == [109, 97, 116, 109, 117, 108]) then ((2 : Int), (2 : Int)) else (bif (a0 == [119, 104, 101, 114, 101]) then ((3 : Int), (3 : Int)) else ((1 : Int), (0 : Int)))))))))))
theorem qn_l (a0 : BS) : (qn_c a0) = true → (qn_t a0).val = some (qn_v a0) := by
  intro h
  skip
  unfold qn_t qn_v
  exact (Tr.s rfl (Tr.s rfl (Tr.s rfl (Tr.s rfl (Tr.s rfl (Tr.s rfl (Tr.s rfl (Tr.s rfl (Tr.s rfl rfl)))))))))
def qn_S : List Arg → Option (Bool × Res) := fun xs => match xs with
  | [(false, [(.str, TC.s a0)])] => some (true, qn_mk (qn_v a0))
  | _ => .none
theorem qn_e (a0 : BS) : runF tab FT D10 live 40 noLoops [(false, [(.str, TC.s a0)])] = (qn_t a0).run fun p => some (qn_mk p) := by kernel_rfl
theorem qn_s : ∀ xs r, qn_S xs = some (true, r) → runF tab FT D10 live 40 noLoops xs = some r := by
  intro xs r h
  unfold qn_S at h
  split at h
  · obtain ⟨h1, rfl⟩ := sp h
    exact fun_told (qn_e _) (qn_l _) rfl
  · cases h
def D11 : Dt := also D10 40 qn_S
theorem d11 : DOk Go.Proofs.Try.prog tab D11 := d10.also mixed_ok tab_ok names_ok noLoops_ok qn_s
def qz_t (a0 a1 : Int) (a2 : Bool) : Tr (Bool) := (.ite ((!(qt_v a0 (0 : Int) (40 : Int))) = true) (.ok false)
  (.ite (a2 = true) (.ok (a1 == (0 : Int)))
   (.ite ((a1 == (-1 : Int)) = true) (.ok true)
    (.ok (qt_v a1 a0 (40 : Int))))))
def qz_mk (p : Bool) : Res := [(false, [⟨.bool, .sh, TC.b p⟩])]
def qz_c (a0 a1 : Int) (a2 : Bool) : Bool := true
def qz_v (a0 a1 : Int) (a2 : Bool) : Bool := (bif (!(qt_v a0 (0 : Int) (40 : Int))) then false else (bif a2 then (a1 == (0 : Int)) else (bif (a1 == (-1 : Int)) then true else (qt_v a1 a0 (40 : Int)))))
theorem qz_l (a0 a1 : Int) (a2 : Bool) : (qz_c a0 a1 a2) = true → (qz_t a0 a1 a2).val = some (qz_v a0 a1 a2) := by
  intro h
  skip
  unfold qz_t qz_v
  exact (Tr.s rfl (Tr.s rfl (Tr.s rfl rfl)))
def qz_S : List Arg → Option (Bool × Res) := fun xs => match xs with
  | [(true, [(.int .i64, TC.i a0), (.int .i64, TC.i a1), (.bool, TC.b a2)])] => some (true, qz_mk (qz_v a0 a1 a2))
  | _ => .none
theorem qz_e (a0 a1 : Int) (a2 : Bool) : runF tab FT D11 live 41 noLoops [(true, [(.int .i64, TC.i a0), (.int .i64, TC.i a1), (.bool, TC.b a2)])] = (qz_t a0 a1 a2).run fun p => some (qz_mk p) := by kernel_rfl
theorem qz_s : ∀ xs r, qz_S xs = some (true, r) → runF tab FT D11 live 41 noLoops xs = some r := by
  intro xs r h
  unfold qz_S at h
  split at h
  · obtain ⟨h1, rfl⟩ := sp h
    exact fun_told (qz_e ..) (qz_l _ _ _) rfl
  · cases h
def D12 : Dt := also D11 41 qz_S
theorem d12 : DOk Go.Proofs.Try.prog tab D12 := d11.also mixed_ok tab_ok names_ok noLoops_ok qz_s
def qw_t (a0 : Int) : Tr (Int) := (.ite ((a0 == (4 : Int)) = true) (.ok (1 : Int))
  (.ite ((a0 == (5 : Int)) = true) (.ok (1 : Int))
   (.ite ((qt_v a0 (6 : Int) (16 : Int)) = true) (.ok (2 : Int))
    (.ok (0 : Int)))))
def qw_mk (p : Int) : Res := [(false, [⟨.int .i64, .sh, TC.i p⟩])]
def qw_c (a0 : Int) : Bool := true
def qw_v (a0 : Int) : Int := (bif (a0 == (4 : Int)) then (1 : Int) else (bif (a0 == (5 : Int)) then (1 : Int) else (bif (qt_v a0 (6 : Int) (16 : Int)) then (2 : Int) else (0 : Int))))
theorem qw_l (a0 : Int) : (qw_c a0) = true → (qw_t a0).val = some (qw_v a0) := by
  intro h
  skip
  unfold qw_t qw_v
  exact (Tr.s rfl (Tr.s rfl (Tr.s rfl rfl)))
def qw_S : List Arg → Option (Bool × Res) := fun xs => match xs with
  | [(false, [(.int .i64, TC.i a0)])] => some (true, qw_mk (qw_v a0))
  | _ => .none
theorem qw_e (a0 : Int) : runF tab FT D12 live 42 noLoops [(false, [(.int .i64, TC.i a0)])] = (qw_t a0).run fun p => some (qw_mk p) := by kernel_rfl
theorem qw_s : ∀ xs r, qw_S xs = some (true, r) → runF tab FT D12 live 42 noLoops xs = some r := by
  intro xs r h
  unfold qw_S at h
  split at h
  · obtain ⟨h1, rfl⟩ := sp h
    exact fun_told (qw_e _) (qw_l _) rfl
  · cases h
def D13 : Dt := also D12 42 qw_S
theorem d13 : DOk Go.Proofs.Try.prog tab D13 := d12.also mixed_ok tab_ok names_ok noLoops_ok qw_s
def qe_f15 (u : List TC) (i : Int) : (Unit) ⊕ ((List TC) ⊕ (List TC)) := (bif (!(qz_v ((nth (row ((nth u 4).list) i) 0).int) ((nth (row ((nth u 4).list) i) 1).int) ((nth (row ((nth u 4).list) i) 2).bool))) then (.inr (.inl u)) else (.inl ()))
def qe_e15 (u : List TC) : (List TC) ⊕ (List TC) := .inr u
def qe_R15 (u : List TC) (i : Int) : (List TC) ⊕ (List TC) := iter (fun i a => (qe_f15 u (i : Int))) (fun a => (qe_e15 u)) ((nth u 4).list.length) 0 ()
abbrev qe_15_σ := List TC × Int
abbrev qe_15_ω := (List TC) ⊕ (List TC)
def qe_15_step (u : List TC) (i : Int) : Tr (qe_15_σ ⊕ qe_15_ω) := (.ite ((decide (i < (((nth u 4).list).length : Int))) = true) (.ite ((0 : Int) ≤ i ∧ i < (((nth u 4).list).length : Int)) (.ite ((!(qz_v ((nth (row ((nth u 4).list) i) 0).int) ((nth (row ((nth u 4).list) i) 1).int) ((nth (row ((nth u 4).list) i) 2).bool))) = true) (.ok (.inr (.inl u)))
    (.ok (.inl (u, (IntKind.wrap .i64 (i + (1 : Int)))))))
   .no)
  (.ok (.inr (.inr u))))
def qe_15_st : qe_15_σ → Tr (qe_15_σ ⊕ qe_15_ω) := fun x => (qe_15_step (x.1) (x.2))
def qe_k15_1 (u : List TC) (i : Int) : Bool := sumIs (qe_R15 u i)
def qe_o15_2 (u : List TC) (i : Int) : Bool := is (i = 0 ∧ (nth u 4).list.length ≤ 140737488355328)
def qe_o15_3 (u : List TC) (i : Int) : Bool := is (i = 0 ∧ (nth u 4).list.length ≤ 140737488355328)
def qe_15_fin (u : List TC) (i : Int) : Told qe_15_ω := (.br (qe_k15_1 u i) (.leaf (qe_o15_2 u i) (.inl u)) (.leaf (qe_o15_3 u i) (.inr u)))
def qe_15_sl (x : qe_15_σ) : List Slot := [⟨.val false [⟨.ptr 31, .sh, TC.p (x.1)⟩], ⟨0, 0⟩⟩, ⟨.val false [⟨.int .i64, .sh, TC.i (x.2)⟩], ⟨0, 0⟩⟩]
def qe_15_out : qe_15_ω → Ex × List Slot := (Sum.elim (fun x => (.ret, [⟨.val false [⟨.ptr 31, .sh, TC.p x⟩], ⟨0, 0⟩⟩, ⟨.val false [⟨.bool, .sh, TC.b false⟩], ⟨0, 0⟩⟩])) (fun x => (.exit 1, [⟨.val false [⟨.ptr 31, .sh, TC.p x⟩], ⟨0, 0⟩⟩, Slot.none])))
def qe_lo15 : List Slot → Option (Told (Ex × List Slot)) := fun s => match s with
  | [⟨.val false [⟨.ptr 31, .sh, TC.p u⟩], ⟨0, 0⟩⟩, ⟨.val false [⟨.int .i64, .sh, TC.i i⟩], ⟨0, 0⟩⟩] => some (((qe_15_fin u i)).map qe_15_out)
  | _ => .none
def qe_lo : LoopTeller := fun r s => bif Nat.beq r 15 then qe_lo15 s else .none
theorem qe_15_r (u : List TC) (i : Int) (fuel : Nat) : rounds (rnd tab FT D13 live 31 qe_lo 0 15) leave (fuel + 1) (qe_15_sl (u, i)) = ((qe_15_step u i)).run (goOn (fun s => rounds (rnd tab FT D13 live 31 qe_lo 0 15) leave fuel (qe_15_sl s)) fun w => some (qe_15_out w)) := by kernel_rfl
theorem qe_f15_eq (u : List TC) (i : Int) : qe_f15 u i = bif qz_v ((nth (row ((nth u 4).list) i) 0).int) ((nth (row ((nth u 4).list) i) 1).int) ((nth (row ((nth u 4).list) i) 2).bool) then Sum.inl () else Sum.inr (Sum.inl u) := by
  unfold qe_f15 
  skip
  generalize qz_v ((nth (row ((nth u 4).list) i) 0).int) ((nth (row ((nth u 4).list) i) 1).int) ((nth (row ((nth u 4).list) i) 2).bool) = p0
  cases p0 <;> rfl
theorem qe_R15_eq (u : List TC)  : qe_R15 u 0 = bif allI (fun i : Nat => qz_v ((nth (row ((nth u 4).list) (i : Int)) 0).int) ((nth (row ((nth u 4).list) (i : Int)) 1).int) ((nth (row ((nth u 4).list) (i : Int)) 2).bool)) ((nth u 4).list.length) then Sum.inr u else (Sum.inl u) := by
  unfold qe_R15
  exact (iter_all (P := (fun i : Nat => qz_v ((nth (row ((nth u 4).list) (i : Int)) 0).int) ((nth (row ((nth u 4).list) (i : Int)) 1).int) ((nth (row ((nth u 4).list) (i : Int)) 2).bool))) (g := fun _ a => a) (w := Sum.inl u) fun j a _ => qe_f15_eq u _)
theorem qe_15_h (u : List TC) (i : Int) (ow : qe_15_ω) : ((qe_15_fin u i)).val = some ow → ∃ fuel, loopN qe_15_st fuel (u, i) = some ow := by
  refine auto_const (R := (qe_R15 u i)) rfl (iter_onR (f := (fun i a => (qe_f15 u (i : Int)))) (fin := (fun a => (qe_e15 u))) (Q := endsAs u u) (fun i a => by unfold qe_f15; exact (onR_bif rfl trivial)) (fun _ => rfl) _ _ _) ?_
  intro ho
  have ho : is (i = 0 ∧ (nth u 4).list.length ≤ 140737488355328) = true := ho.elim id id
  obtain ⟨rfl, hm⟩ := is_iff.1 ho
  skip
  refine ⟨((nth u 4).list.length) + 1, ?_⟩
  refine iter_loop (step := qe_15_st) ((nth u 4).list.length) (fun i a => (qe_f15 u (i : Int))) (fun a => (qe_e15 u)) (fun i a => (u, (i : Int))) (fun _ _ => True) trivial (fun i a hi hI => ⟨?_, fun _ _ => trivial⟩) (fun a hI => ?_)
  · show (qe_15_step u (i : Int)).val = _
    unfold qe_15_step qe_f15
    skip
    refine Tr.t (by simp; omega) ?_
    exact (Tr.t (by first | omega | (constructor <;> omega)) (Tr.bf rfl (by rw [Tr.val_ok, wrap64 (i := (i : Int) + 1) (by omega) (by omega)]; rfl)))
  · show (qe_15_step u ((nth u 4).list.length : Int)).val = _
    refine Tr.n (by first | (simp; done) | (simp; omega) | omega) ?_
    rfl
theorem qe_is15 : LoopIs tab FT D13 live 31 qe_lo 0 15 := by
  refine loop_told (sl := qe_15_sl) (step := qe_15_st) (out := qe_15_out) (lor := qe_lo15) (fin := fun x => (qe_15_fin (x.1) (x.2))) (fun _ => rfl) ?_ (fun x n => qe_15_r x.1 x.2 n) (fun x ow => qe_15_h x.1 x.2 ow)
  intro s t h
  unfold qe_lo15 at h
  split at h
  · cases h; exact ⟨(_, _), rfl, rfl⟩
  · cases h
def qe_t (u : List TC) : Tr (Bool) := (.ite ((!((nth u 0).int == (1 : Int))) = true) (.ite ((!((nth u 1).int == (0 : Int))) = true) (.ok false)
   (.ite ((!((nth u 0).int == (4 : Int))) = true) (.ite ((decide ((((nth u 4).list).length : Int) > (0 : Int))) = true) (.ok false)
     (.ite (((nth u 0).int == (1 : Int)) = true) (.ite ((qt_v ((nth u 1).int) (0 : Int) (1000000000000 : Int)) = true) (.ite (((nth u 2).str == []) = true) (.ok ((((nth u 3).list).length : Int) == (0 : Int)))
        (.ok false))
       (.ok false))
      (.ite (((nth u 0).int == (2 : Int)) = true) (.ite ((qf_c ((nth u 2).str)) = true) (.ite ((qf_v ((nth u 2).str)) = true) (.ok ((((nth u 3).list).length : Int) == (0 : Int)))
         (.ok false))
        .no)
       (.ite (((nth u 0).int == (3 : Int)) = true) (.ite ((decide ((((nth u 3).list).length : Int) < (qn_v ((nth u 2).str)).1)) = true) (.ok false)
         (.ite ((decide ((((nth u 3).list).length : Int) > (qn_v ((nth u 2).str)).2)) = true) (.ok false)
          (.ite ((!((qn_v ((nth u 2).str)).2 == (2 : Int))) = true) (.ok true)
           (.ite (((qn_v ((nth u 2).str)).1 == (2 : Int)) = true) (.ok true)
            (.ite (((((nth u 3).list).length : Int) == (1 : Int)) = true) (.ok true)
             (.ite ((0 : Int) ≤ (1 : Int) ∧ (1 : Int) < (((nth u 3).list).length : Int)) (.ite (((nth (row ((nth u 3).list) (1 : Int)) 0).int == (1 : Int)) = true) (.ite ((0 : Int) ≤ (1 : Int) ∧ (1 : Int) < (((nth u 3).list).length : Int)) (.ok (decide ((nth (row ((nth u 3).list) (1 : Int)) 1).int < (3 : Int))))
                .no)
               (.ok false))
              .no))))))
        (.ite (((nth u 0).int == (4 : Int)) = true) (.ite ((qe_k15_1 u (0 : Int)) = true) (.ite ((qe_o15_2 u (0 : Int)) = true) (.ok false)
           .no)
          (.ite ((qe_o15_3 u (0 : Int)) = true) (.ite ((!(qt_v (((nth u 4).list).length : Int) (1 : Int) (3 : Int))) = true) (.ok false)
            (.ite ((qt_v ((nth u 0).int) (4 : Int) (16 : Int)) = true) (.ite (((nth u 2).str == []) = true) (.ok ((((nth u 3).list).length : Int) == (qw_v ((nth u 0).int))))
              (.ok false))
             (.ok false)))
           .no))
         (.ite ((qt_v ((nth u 0).int) (4 : Int) (16 : Int)) = true) (.ite (((nth u 2).str == []) = true) (.ok ((((nth u 3).list).length : Int) == (qw_v ((nth u 0).int))))
           (.ok false))
          (.ok false)))))))
    (.ite (((nth u 0).int == (1 : Int)) = true) (.ite ((qt_v ((nth u 1).int) (0 : Int) (1000000000000 : Int)) = true) (.ite (((nth u 2).str == []) = true) (.ok ((((nth u 3).list).length : Int) == (0 : Int)))
       (.ok false))
      (.ok false))
     (.ite (((nth u 0).int == (2 : Int)) = true) (.ite ((qf_c ((nth u 2).str)) = true) (.ite ((qf_v ((nth u 2).str)) = true) (.ok ((((nth u 3).list).length : Int) == (0 : Int)))
        (.ok false))
       .no)
      (.ite (((nth u 0).int == (3 : Int)) = true) (.ite ((decide ((((nth u 3).list).length : Int) < (qn_v ((nth u 2).str)).1)) = true) (.ok false)
        (.ite ((decide ((((nth u 3).list).length : Int) > (qn_v ((nth u 2).str)).2)) = true) (.ok false)
         (.ite ((!((qn_v ((nth u 2).str)).2 == (2 : Int))) = true) (.ok true)
          (.ite (((qn_v ((nth u 2).str)).1 == (2 : Int)) = true) (.ok true)
           (.ite (((((nth u 3).list).length : Int) == (1 : Int)) = true) (.ok true)
            (.ite ((0 : Int) ≤ (1 : Int) ∧ (1 : Int) < (((nth u 3).list).length : Int)) (.ite (((nth (row ((nth u 3).list) (1 : Int)) 0).int == (1 : Int)) = true) (.ite ((0 : Int) ≤ (1 : Int) ∧ (1 : Int) < (((nth u 3).list).length : Int)) (.ok (decide ((nth (row ((nth u 3).list) (1 : Int)) 1).int < (3 : Int))))
               .no)
              (.ok false))
             .no))))))
       (.ite (((nth u 0).int == (4 : Int)) = true) (.ite ((qe_k15_1 u (0 : Int)) = true) (.ite ((qe_o15_2 u (0 : Int)) = true) (.ok false)
          .no)
         (.ite ((qe_o15_3 u (0 : Int)) = true) (.ite ((!(qt_v (((nth u 4).list).length : Int) (1 : Int) (3 : Int))) = true) (.ok false)
           (.ite ((qt_v ((nth u 0).int) (4 : Int) (16 : Int)) = true) (.ite (((nth u 2).str == []) = true) (.ok ((((nth u 3).list).length : Int) == (qw_v ((nth u 0).int))))
             (.ok false))
            (.ok false)))
          .no))
        (.ite ((qt_v ((nth u 0).int) (4 : Int) (16 : Int)) = true) (.ite (((nth u 2).str == []) = true) (.ok ((((nth u 3).list).length : Int) == (qw_v ((nth u 0).int))))
          (.ok false))
         (.ok false))))))))
  (.ite ((!((nth u 0).int == (4 : Int))) = true) (.ite ((decide ((((nth u 4).list).length : Int) > (0 : Int))) = true) (.ok false)
    (.ite (((nth u 0).int == (1 : Int)) = true) (.ite ((qt_v ((nth u 1).int) (0 : Int) (1000000000000 : Int)) = true) (.ite (((nth u 2).str == []) = true) (.ok ((((nth u 3).list).length : Int) == (0 : Int)))
       (.ok false))
      (.ok false))
     (.ite (((nth u 0).int == (2 : Int)) = true) (.ite ((qf_c ((nth u 2).str)) = true) (.ite ((qf_v ((nth u 2).str)) = true) (.ok ((((nth u 3).list).length : Int) == (0 : Int)))
        (.ok false))
       .no)
      (.ite (((nth u 0).int == (3 : Int)) = true) (.ite ((decide ((((nth u 3).list).length : Int) < (qn_v ((nth u 2).str)).1)) = true) (.ok false)
        (.ite ((decide ((((nth u 3).list).length : Int) > (qn_v ((nth u 2).str)).2)) = true) (.ok false)
         (.ite ((!((qn_v ((nth u 2).str)).2 == (2 : Int))) = true) (.ok true)
          (.ite (((qn_v ((nth u 2).str)).1 == (2 : Int)) = true) (.ok true)
           (.ite (((((nth u 3).list).length : Int) == (1 : Int)) = true) (.ok true)
            (.ite ((0 : Int) ≤ (1 : Int) ∧ (1 : Int) < (((nth u 3).list).length : Int)) (.ite (((nth (row ((nth u 3).list) (1 : Int)) 0).int == (1 : Int)) = true) (.ite ((0 : Int) ≤ (1 : Int) ∧ (1 : Int) < (((nth u 3).list).length : Int)) (.ok (decide ((nth (row ((nth u 3).list) (1 : Int)) 1).int < (3 : Int))))
               .no)
              (.ok false))
             .no))))))
       (.ite (((nth u 0).int == (4 : Int)) = true) (.ite ((qe_k15_1 u (0 : Int)) = true) (.ite ((qe_o15_2 u (0 : Int)) = true) (.ok false)
          .no)
         (.ite ((qe_o15_3 u (0 : Int)) = true) (.ite ((!(qt_v (((nth u 4).list).length : Int) (1 : Int) (3 : Int))) = true) (.ok false)
           (.ite ((qt_v ((nth u 0).int) (4 : Int) (16 : Int)) = true) (.ite (((nth u 2).str == []) = true) (.ok ((((nth u 3).list).length : Int) == (qw_v ((nth u 0).int))))
             (.ok false))
            (.ok false)))
          .no))
        (.ite ((qt_v ((nth u 0).int) (4 : Int) (16 : Int)) = true) (.ite (((nth u 2).str == []) = true) (.ok ((((nth u 3).list).length : Int) == (qw_v ((nth u 0).int))))
          (.ok false))
         (.ok false)))))))
   (.ite (((nth u 0).int == (1 : Int)) = true) (.ite ((qt_v ((nth u 1).int) (0 : Int) (1000000000000 : Int)) = true) (.ite (((nth u 2).str == []) = true) (.ok ((((nth u 3).list).length : Int) == (0 : Int)))
      (.ok false))
     (.ok false))
    (.ite (((nth u 0).int == (2 : Int)) = true) (.ite ((qf_c ((nth u 2).str)) = true) (.ite ((qf_v ((nth u 2).str)) = true) (.ok ((((nth u 3).list).length : Int) == (0 : Int)))
       (.ok false))
      .no)
     (.ite (((nth u 0).int == (3 : Int)) = true) (.ite ((decide ((((nth u 3).list).length : Int) < (qn_v ((nth u 2).str)).1)) = true) (.ok false)
       (.ite ((decide ((((nth u 3).list).length : Int) > (qn_v ((nth u 2).str)).2)) = true) (.ok false)
        (.ite ((!((qn_v ((nth u 2).str)).2 == (2 : Int))) = true) (.ok true)
         (.ite (((qn_v ((nth u 2).str)).1 == (2 : Int)) = true) (.ok true)
          (.ite (((((nth u 3).list).length : Int) == (1 : Int)) = true) (.ok true)
           (.ite ((0 : Int) ≤ (1 : Int) ∧ (1 : Int) < (((nth u 3).list).length : Int)) (.ite (((nth (row ((nth u 3).list) (1 : Int)) 0).int == (1 : Int)) = true) (.ite ((0 : Int) ≤ (1 : Int) ∧ (1 : Int) < (((nth u 3).list).length : Int)) (.ok (decide ((nth (row ((nth u 3).list) (1 : Int)) 1).int < (3 : Int))))
              .no)
             (.ok false))
            .no))))))
      (.ite (((nth u 0).int == (4 : Int)) = true) (.ite ((qe_k15_1 u (0 : Int)) = true) (.ite ((qe_o15_2 u (0 : Int)) = true) (.ok false)
         .no)
        (.ite ((qe_o15_3 u (0 : Int)) = true) (.ite ((!(qt_v (((nth u 4).list).length : Int) (1 : Int) (3 : Int))) = true) (.ok false)
          (.ite ((qt_v ((nth u 0).int) (4 : Int) (16 : Int)) = true) (.ite (((nth u 2).str == []) = true) (.ok ((((nth u 3).list).length : Int) == (qw_v ((nth u 0).int))))
            (.ok false))
           (.ok false)))
         .no))
       (.ite ((qt_v ((nth u 0).int) (4 : Int) (16 : Int)) = true) (.ite (((nth u 2).str == []) = true) (.ok ((((nth u 3).list).length : Int) == (qw_v ((nth u 0).int))))
         (.ok false))
        (.ok false))))))))
def qe_mk (p : Bool) : Res := [(false, [⟨.bool, .sh, TC.b p⟩])]
def qe_c (u : List TC) : Bool := (bif (!((nth u 0).int == (1 : Int))) then (bif (!((nth u 1).int == (0 : Int))) then true else (bif (!((nth u 0).int == (4 : Int))) then (bif (decide ((((nth u 4).list).length : Int) > (0 : Int))) then true else (bif ((nth u 0).int == (1 : Int)) then (bif (qt_v ((nth u 1).int) (0 : Int) (1000000000000 : Int)) then (bif ((nth u 2).str == []) then true else true) else true) else (bif ((nth u 0).int == (2 : Int)) then ((qf_c ((nth u 2).str)) && (bif (qf_v ((nth u 2).str)) then true else true)) else (bif ((nth u 0).int == (3 : Int)) then (bif (decide ((((nth u 3).list).length : Int) < (qn_v ((nth u 2).str)).1)) then true else (bif (decide ((((nth u 3).list).length : Int) > (qn_v ((nth u 2).str)).2)) then true else (bif (!((qn_v ((nth u 2).str)).2 == (2 : Int))) then true else (bif ((qn_v ((nth u 2).str)).1 == (2 : Int)) then true else (bif ((((nth u 3).list).length : Int) == (1 : Int)) then true else (is ((0 : Int) ≤ (1 : Int) ∧ (1 : Int) < (((nth u 3).list).length : Int)) && (bif ((nth (row ((nth u 3).list) (1 : Int)) 0).int == (1 : Int)) then (is ((0 : Int) ≤ (1 : Int) ∧ (1 : Int) < (((nth u 3).list).length : Int)) && true) else true))))))) else (bif ((nth u 0).int == (4 : Int)) then (bif (qe_k15_1 u (0 : Int)) then ((qe_o15_2 u (0 : Int)) && true) else ((qe_o15_3 u (0 : Int)) && (bif (!(qt_v (((nth u 4).list).length : Int) (1 : Int) (3 : Int))) then true else (bif (qt_v ((nth u 0).int) (4 : Int) (16 : Int)) then (bif ((nth u 2).str == []) then true else true) else true)))) else (bif (qt_v ((nth u 0).int) (4 : Int) (16 : Int)) then (bif ((nth u 2).str == []) then true else true) else true)))))) else (bif ((nth u 0).int == (1 : Int)) then (bif (qt_v ((nth u 1).int) (0 : Int) (1000000000000 : Int)) then (bif ((nth u 2).str == []) then true else true) else true) else (bif ((nth u 0).int == (2 : Int)) then ((qf_c ((nth u 2).str)) && (bif (qf_v ((nth u 2).str)) then true else true)) else (bif ((nth u 0).int == (3 : Int)) then (bif (decide ((((nth u 3).list).length : Int) < (qn_v ((nth u 2).str)).1)) then true else (bif (decide ((((nth u 3).list).length : Int) > (qn_v ((nth u 2).str)).2)) then true else (bif (!((qn_v ((nth u 2).str)).2 == (2 : Int))) then true else (bif ((qn_v ((nth u 2).str)).1 == (2 : Int)) then true else (bif ((((nth u 3).list).length : Int) == (1 : Int)) then true else (is ((0 : Int) ≤ (1 : Int) ∧ (1 : Int) < (((nth u 3).list).length : Int)) && (bif ((nth (row ((nth u 3).list) (1 : Int)) 0).int == (1 : Int)) then (is ((0 : Int) ≤ (1 : Int) ∧ (1 : Int) < (((nth u 3).list).length : Int)) && true) else true))))))) else (bif ((nth u 0).int == (4 : Int)) then (bif (qe_k15_1 u (0 : Int)) then ((qe_o15_2 u (0 : Int)) && true) else ((qe_o15_3 u (0 : Int)) && (bif (!(qt_v (((nth u 4).list).length : Int) (1 : Int) (3 : Int))) then true else (bif (qt_v ((nth u 0).int) (4 : Int) (16 : Int)) then (bif ((nth u 2).str == []) then true else true) else true)))) else (bif (qt_v ((nth u 0).int) (4 : Int) (16 : Int)) then (bif ((nth u 2).str == []) then true else true) else true))))))) else (bif (!((nth u 0).int == (4 : Int))) then (bif (decide ((((nth u 4).list).length : Int) > (0 : Int))) then true else (bif ((nth u 0).int == (1 : Int)) then (bif (qt_v ((nth u 1).int) (0 : Int) (1000000000000 : Int)) then (bif ((nth u 2).str == []) then true else true) else true) else (bif ((nth u 0).int == (2 : Int)) then ((qf_c ((nth u 2).str)) && (bif (qf_v ((nth u 2).str)) then true else true)) else (bif ((nth u 0).int == (3 : Int)) then (bif (decide ((((nth u 3).list).length : Int) < (qn_v ((nth u 2).str)).1)) then true else (bif (decide ((((nth u 3).list).length : Int) > (qn_v ((nth u 2).str)).2)) then true else (bif (!((qn_v ((nth u 2).str)).2 == (2 : Int))) then true else (bif ((qn_v ((nth u 2).str)).1 == (2 : Int)) then true else (bif ((((nth u 3).list).length : Int) == (1 : Int)) then true else (is ((0 : Int) ≤ (1 : Int) ∧ (1 : Int) < (((nth u 3).list).length : Int)) && (bif ((nth (row ((nth u 3).list) (1 : Int)) 0).int == (1 : Int)) then (is ((0 : Int) ≤ (1 : Int) ∧ (1 : Int) < (((nth u 3).list).length : Int)) && true) else true))))))) else (bif ((nth u 0).int == (4 : Int)) then (bif (qe_k15_1 u (0 : Int)) then ((qe_o15_2 u (0 : Int)) && true) else ((qe_o15_3 u (0 : Int)) && (bif (!(qt_v (((nth u 4).list).length : Int) (1 : Int) (3 : Int))) then true else (bif (qt_v ((nth u 0).int) (4 : Int) (16 : Int)) then (bif ((nth u 2).str == []) then true else true) else true)))) else (bif (qt_v ((nth u 0).int) (4 : Int) (16 : Int)) then (bif ((nth u 2).str == []) then true else true) else true)))))) else (bif ((nth u 0).int == (1 : Int)) then (bif (qt_v ((nth u 1).int) (0 : Int) (1000000000000 : Int)) then (bif ((nth u 2).str == []) then true else true) else true) else (bif ((nth u 0).int == (2 : Int)) then ((qf_c ((nth u 2).str)) && (bif (qf_v ((nth u 2).str)) then true else true)) else (bif ((nth u 0).int == (3 : Int)) then (bif (decide ((((nth u 3).list).length : Int) < (qn_v ((nth u 2).str)).1)) then true else (bif (decide ((((nth u 3).list).length : Int) > (qn_v ((nth u 2).str)).2)) then true else (bif (!((qn_v ((nth u 2).str)).2 == (2 : Int))) then true else (bif ((qn_v ((nth u 2).str)).1 == (2 : Int)) then true else (bif ((((nth u 3).list).length : Int) == (1 : Int)) then true else (is ((0 : Int) ≤ (1 : Int) ∧ (1 : Int) < (((nth u 3).list).length : Int)) && (bif ((nth (row ((nth u 3).list) (1 : Int)) 0).int == (1 : Int)) then (is ((0 : Int) ≤ (1 : Int) ∧ (1 : Int) < (((nth u 3).list).length : Int)) && true) else true))))))) else (bif ((nth u 0).int == (4 : Int)) then (bif (qe_k15_1 u (0 : Int)) then ((qe_o15_2 u (0 : Int)) && true) else ((qe_o15_3 u (0 : Int)) && (bif (!(qt_v (((nth u 4).list).length : Int) (1 : Int) (3 : Int))) then true else (bif (qt_v ((nth u 0).int) (4 : Int) (16 : Int)) then (bif ((nth u 2).str == []) then true else true) else true)))) else (bif (qt_v ((nth u 0).int) (4 : Int) (16 : Int)) then (bif ((nth u 2).str == []) then true else true) else true)))))))
def qe_v (u : List TC) : Bool := (bif (!((nth u 0).int == (1 : Int))) then (bif (!((nth u 1).int == (0 : Int))) then false else (bif (!((nth u 0).int == (4 : Int))) then (bif (decide ((((nth u 4).list).length : Int) > (0 : Int))) then false else (bif ((nth u 0).int == (1 : Int)) then (bif (qt_v ((nth u 1).int) (0 : Int) (1000000000000 : Int)) then (bif ((nth u 2).str == []) then ((((nth u 3).list).length : Int) == (0 : Int)) else false) else false) else (bif ((nth u 0).int == (2 : Int)) then (bif (qf_v ((nth u 2).str)) then ((((nth u 3).list).length : Int) == (0 : Int)) else false) else (bif ((nth u 0).int == (3 : Int)) then (bif (decide ((((nth u 3).list).length : Int) < (qn_v ((nth u 2).str)).1)) then false else (bif (decide ((((nth u 3).list).length : Int) > (qn_v ((nth u 2).str)).2)) then false else (bif (!((qn_v ((nth u 2).str)).2 == (2 : Int))) then true else (bif ((qn_v ((nth u 2).str)).1 == (2 : Int)) then true else (bif ((((nth u 3).list).length : Int) == (1 : Int)) then true else (bif ((nth (row ((nth u 3).list) (1 : Int)) 0).int == (1 : Int)) then (decide ((nth (row ((nth u 3).list) (1 : Int)) 1).int < (3 : Int))) else false)))))) else (bif ((nth u 0).int == (4 : Int)) then (bif (qe_k15_1 u (0 : Int)) then false else (bif (!(qt_v (((nth u 4).list).length : Int) (1 : Int) (3 : Int))) then false else (bif (qt_v ((nth u 0).int) (4 : Int) (16 : Int)) then (bif ((nth u 2).str == []) then ((((nth u 3).list).length : Int) == (qw_v ((nth u 0).int))) else false) else false))) else (bif (qt_v ((nth u 0).int) (4 : Int) (16 : Int)) then (bif ((nth u 2).str == []) then ((((nth u 3).list).length : Int) == (qw_v ((nth u 0).int))) else false) else false)))))) else (bif ((nth u 0).int == (1 : Int)) then (bif (qt_v ((nth u 1).int) (0 : Int) (1000000000000 : Int)) then (bif ((nth u 2).str == []) then ((((nth u 3).list).length : Int) == (0 : Int)) else false) else false) else (bif ((nth u 0).int == (2 : Int)) then (bif (qf_v ((nth u 2).str)) then ((((nth u 3).list).length : Int) == (0 : Int)) else false) else (bif ((nth u 0).int == (3 : Int)) then (bif (decide ((((nth u 3).list).length : Int) < (qn_v ((nth u 2).str)).1)) then false else (bif (decide ((((nth u 3).list).length : Int) > (qn_v ((nth u 2).str)).2)) then false else (bif (!((qn_v ((nth u 2).str)).2 == (2 : Int))) then true else (bif ((qn_v ((nth u 2).str)).1 == (2 : Int)) then true else (bif ((((nth u 3).list).length : Int) == (1 : Int)) then true else (bif ((nth (row ((nth u 3).list) (1 : Int)) 0).int == (1 : Int)) then (decide ((nth (row ((nth u 3).list) (1 : Int)) 1).int < (3 : Int))) else false)))))) else (bif ((nth u 0).int == (4 : Int)) then (bif (qe_k15_1 u (0 : Int)) then false else (bif (!(qt_v (((nth u 4).list).length : Int) (1 : Int) (3 : Int))) then false else (bif (qt_v ((nth u 0).int) (4 : Int) (16 : Int)) then (bif ((nth u 2).str == []) then ((((nth u 3).list).length : Int) == (qw_v ((nth u 0).int))) else false) else false))) else (bif (qt_v ((nth u 0).int) (4 : Int) (16 : Int)) then (bif ((nth u 2).str == []) then ((((nth u 3).list).length : Int) == (qw_v ((nth u 0).int))) else false) else false))))))) else (bif (!((nth u 0).int == (4 : Int))) then (bif (decide ((((nth u 4).list).length : Int) > (0 : Int))) then false else (bif ((nth u 0).int == (1 : Int)) then (bif (qt_v ((nth u 1).int) (0 : Int) (1000000000000 : Int)) then (bif ((nth u 2).str == []) then ((((nth u 3).list).length : Int) == (0 : Int)) else false) else false) else (bif ((nth u 0).int == (2 : Int)) then (bif (qf_v ((nth u 2).str)) then ((((nth u 3).list).length : Int) == (0 : Int)) else false) else (bif ((nth u 0).int == (3 : Int)) then (bif (decide ((((nth u 3).list).length : Int) < (qn_v ((nth u 2).str)).1)) then false else (bif (decide ((((nth u 3).list).length : Int) > (qn_v ((nth u 2).str)).2)) then false else (bif (!((qn_v ((nth u 2).str)).2 == (2 : Int))) then true else (bif ((qn_v ((nth u 2).str)).1 == (2 : Int)) then true else (bif ((((nth u 3).list).length : Int) == (1 : Int)) then true else (bif ((nth (row ((nth u 3).list) (1 : Int)) 0).int == (1 : Int)) then (decide ((nth (row ((nth u 3).list) (1 : Int)) 1).int < (3 : Int))) else false)))))) else (bif ((nth u 0).int == (4 : Int)) then (bif (qe_k15_1 u (0 : Int)) then false else (bif (!(qt_v (((nth u 4).list).length : Int) (1 : Int) (3 : Int))) then false else (bif (qt_v ((nth u 0).int) (4 : Int) (16 : Int)) then (bif ((nth u 2).str == []) then ((((nth u 3).list).length : Int) == (qw_v ((nth u 0).int))) else false) else false))) else (bif (qt_v ((nth u 0).int) (4 : Int) (16 : Int)) then (bif ((nth u 2).str == []) then ((((nth u 3).list).length : Int) == (qw_v ((nth u 0).int))) else false) else false)))))) else (bif ((nth u 0).int == (1 : Int)) then (bif (qt_v ((nth u 1).int) (0 : Int) (1000000000000 : Int)) then (bif ((nth u 2).str == []) then ((((nth u 3).list).length : Int) == (0 : Int)) else false) else false) else (bif ((nth u 0).int == (2 : Int)) then (bif (qf_v ((nth u 2).str)) then ((((nth u 3).list).length : Int) == (0 : Int)) else false) else (bif ((nth u 0).int == (3 : Int)) then (bif (decide ((((nth u 3).list).length : Int) < (qn_v ((nth u 2).str)).1)) then false else (bif (decide ((((nth u 3).list).length : Int) > (qn_v ((nth u 2).str)).2)) then false else (bif (!((qn_v ((nth u 2).str)).2 == (2 : Int))) then true else (bif ((qn_v ((nth u 2).str)).1 == (2 : Int)) then true else (bif ((((nth u 3).list).length : Int) == (1 : Int)) then true else (bif ((nth (row ((nth u 3).list) (1 : Int)) 0).int == (1 : Int)) then (decide ((nth (row ((nth u 3).list) (1 : Int)) 1).int < (3 : Int))) else false)))))) else (bif ((nth u 0).int == (4 : Int)) then (bif (qe_k15_1 u (0 : Int)) then false else (bif (!(qt_v (((nth u 4).list).length : Int) (1 : Int) (3 : Int))) then false else (bif (qt_v ((nth u 0).int) (4 : Int) (16 : Int)) then (bif ((nth u 2).str == []) then ((((nth u 3).list).length : Int) == (qw_v ((nth u 0).int))) else false) else false))) else (bif (qt_v ((nth u 0).int) (4 : Int) (16 : Int)) then (bif ((nth u 2).str == []) then ((((nth u 3).list).length : Int) == (qw_v ((nth u 0).int))) else false) else false)))))))
theorem qe_l (u : List TC) : (qe_c u) = true → (qe_t u).val = some (qe_v u) := by
  unfold qe_t qe_v qe_c
  intro h
  repeat' first | refine Tr.gb h fun h => ?_ | refine Tr.gs h fun h => ?_ | refine Tr.ss h (fun h => ?_) fun h => ?_ | exact rfl
def qe_S : List Arg → Option (Bool × Res) := fun xs => match xs with
  | [(false, [(.ptr 31, TC.p u)])] => some ((qe_c u), qe_mk (qe_v u))
  | _ => .none
theorem qe_e (u : List TC) : runF tab FT D13 live 31 qe_lo [(false, [(.ptr 31, TC.p u)])] = (qe_t u).run fun p => some (qe_mk p) := by kernel_rfl
theorem qe_s : ∀ xs r, qe_S xs = some (true, r) → runF tab FT D13 live 31 qe_lo xs = some r := by
  intro xs r h
  unfold qe_S at h
  split at h
  · obtain ⟨h1, rfl⟩ := sp h
    exact fun_told (qe_e _) (qe_l _) h1
  · cases h
def D14 : Dt := also D13 31 qe_S
theorem d14 : DOk Go.Proofs.Try.prog tab D14 := d13.also mixed_ok tab_ok names_ok (fnLoops_one (by kernel_rfl) qe_is15) qe_s
theorem ar_1 (s : BS) : 1 ≤ (qn_v s).1 := by
  unfold qn_v
  cases s == [115, 117, 109] <;> cases s == [109, 105, 110] <;> cases s == [109, 97, 120] <;> cases s == [99, 111, 117, 110, 116] <;> cases s == [97, 98, 115] <;> cases s == [116, 114, 97, 110, 115, 112, 111, 115, 101] <;> cases s == [105, 111, 116, 97] <;> cases s == [109, 97, 116, 109, 117, 108] <;> cases s == [119, 104, 101, 114, 101] <;> decide
theorem ar_c {s : BS} {K : LL} : (bif (decide ((K.length : Int) < (qn_v s).1)) then true else (bif (decide ((K.length : Int) > (qn_v s).2)) then true else (bif (!((qn_v s).2 == (2 : Int))) then true else (bif ((qn_v s).1 == (2 : Int)) then true else (bif ((K.length : Int) == (1 : Int)) then true else (is ((0 : Int) ≤ (1 : Int) ∧ (1 : Int) < (K.length : Int)) && (bif ((nth (row K (1 : Int)) 0).int == (1 : Int)) then (is ((0 : Int) ≤ (1 : Int) ∧ (1 : Int) < (K.length : Int)) && true) else true))))))) = true := by
  have h1 := ar_1 s
  refine bifT (fun _ => rfl) fun b1 => bifT (fun _ => rfl) fun _ => bifT (fun _ => rfl) fun _ => bifT (fun _ => rfl) fun _ => bifT (fun _ => rfl) fun b5 => ?_
  have b1 : ¬ (K.length : Int) < (qn_v s).1 := by simpa using b1
  have b5 : ¬ (K.length : Int) = 1 := by intro e; rw [e] at b5; cases b5
  have h2 : (0 : Int) ≤ 1 ∧ (1 : Int) < (K.length : Int) := ⟨by decide, by omega⟩
  exact andT (is_true h2) (bifT (fun _ => andT (is_true h2) rfl) fun _ => rfl)
theorem ar_v {s : BS} {K : LL} : (bif (decide ((K.length : Int) < (qn_v s).1)) then false else (bif (decide ((K.length : Int) > (qn_v s).2)) then false else (bif (!((qn_v s).2 == (2 : Int))) then true else (bif ((qn_v s).1 == (2 : Int)) then true else (bif ((K.length : Int) == (1 : Int)) then true else (bif ((nth (row K (1 : Int)) 0).int == (1 : Int)) then (decide ((nth (row K (1 : Int)) 1).int < (3 : Int))) else false)))))) = callB s K := by
  unfold callB redS
  have hr : (bif (decide ((K.length : Int) < 1)) then false else (bif (decide ((K.length : Int) > 2)) then false else (bif (!((2 : Int) == (2 : Int))) then true else (bif ((1 : Int) == (2 : Int)) then true else (bif ((K.length : Int) == (1 : Int)) then true else (bif ((nth (row K (1 : Int)) 0).int == (1 : Int)) then (decide ((nth (row K (1 : Int)) 1).int < (3 : Int))) else false)))))) = redK K := by
    unfold redK
    by_cases a : (K.length : Int) < 1
    · rw [decide_eq_true a, show ((K.length : Int) == 1) = false from by simpa using by omega, show ((K.length : Int) == 2) = false from by simpa using by omega]; rfl
    · rw [decide_eq_false a]
      by_cases b : (K.length : Int) > 2
      · rw [decide_eq_true b, show ((K.length : Int) == 1) = false from by simpa using by omega, show ((K.length : Int) == 2) = false from by simpa using by omega]; rfl
      · rw [decide_eq_false b]
        by_cases c : (K.length : Int) = 1
        · rw [c]; rfl
        · rw [show ((K.length : Int) == 1) = false from by simpa using c, show (K.length : Int) = 2 by omega]
          cases ((nth (row K (1 : Int)) 0).int == 1) <;> rfl
  have hx : ∀ n : Int, 1 ≤ n → (bif (decide ((K.length : Int) < n)) then false else (bif (decide ((K.length : Int) > n)) then false else true)) = ((K.length : Int) == n) := fun n _ => by
    by_cases a : (K.length : Int) < n
    · rw [decide_eq_true a, show ((K.length : Int) == n) = false from by simpa using by omega]; rfl
    · rw [decide_eq_false a]
      by_cases b : (K.length : Int) > n
      · rw [decide_eq_true b, show ((K.length : Int) == n) = false from by simpa using by omega]; rfl
      · rw [decide_eq_false b, show ((K.length : Int) == n) = true from by simpa using by omega]; rfl
  by_cases h1 : s = [115, 117, 109]
  · subst h1; exact hr
  by_cases h2 : s = [109, 105, 110]
  · subst h2; exact hr
  by_cases h3 : s = [109, 97, 120]
  · subst h3; exact hr
  by_cases h4 : s = [99, 111, 117, 110, 116]
  · subst h4; exact hr
  by_cases h5 : s = [97, 98, 115]
  · subst h5; exact hx 1 (by decide)
  by_cases h6 : s = [116, 114, 97, 110, 115, 112, 111, 115, 101]
  · subst h6; exact hx 1 (by decide)
  by_cases h7 : s = [105, 111, 116, 97]
  · subst h7; exact hx 1 (by decide)
  by_cases h8 : s = [109, 97, 116, 109, 117, 108]
  · subst h8
    refine Eq.trans ?_ (hx 2 (by decide))
    show (bif (decide ((K.length : Int) < 2)) then false else (bif (decide ((K.length : Int) > 2)) then false else _)) = _
    rfl
  by_cases h9 : s = [119, 104, 101, 114, 101]
  · subst h9; exact hx 3 (by decide)
  have e1 : (s == [115, 117, 109]) = false := by simpa using h1
  have e2 : (s == [109, 105, 110]) = false := by simpa using h2
  have e3 : (s == [109, 97, 120]) = false := by simpa using h3
  have e4 : (s == [99, 111, 117, 110, 116]) = false := by simpa using h4
  have e5 : (s == [97, 98, 115]) = false := by simpa using h5
  have e6 : (s == [116, 114, 97, 110, 115, 112, 111, 115, 101]) = false := by simpa using h6
  have e7 : (s == [105, 111, 116, 97]) = false := by simpa using h7
  have e8 : (s == [109, 97, 116, 109, 117, 108]) = false := by simpa using h8
  have e9 : (s == [119, 104, 101, 114, 101]) = false := by simpa using h9
  unfold qn_v mapK argN
  rw [e1, e2, e3, e4, e5, e6, e7, e8, e9]
  show (bif (decide ((K.length : Int) < 1)) then false else (bif (decide ((K.length : Int) > 0)) then false else true)) = false
  by_cases a : (K.length : Int) < 1
  · rw [decide_eq_true a]; rfl
  · rw [decide_eq_false a, decide_eq_true (show (K.length : Int) > 0 by omega)]; rfl
theorem qe_cc {u : List TC} (t2 : Typed tab .str (.s (nth u 2).str)) (t4 : Typed tab (.slice 59) (.l (nth u 4).list)) : qe_c u = true := by
  have hl := typed_room t4
  simp only [show (tab 59).bytes = 24 from rfl] at hl
  have ho2 : qe_o15_2 u 0 = true := is_true ⟨rfl, by omega⟩
  have ho3 : qe_o15_3 u 0 = true := is_true ⟨rfl, by omega⟩
  have hn : qf_c (nth u 2).str = true := qf_cc t2
  unfold qe_c
  repeat' first | rfl | exact ho2 | exact ho3 | exact hn | exact ar_c | refine bifT (fun _ => ?_) (fun _ => ?_) | refine andT ?_ ?_
theorem qe_vv (u : List TC) : qe_v u = nodeB (nth u 0).int (nth u 1).int (nth u 2).str (nth u 3).list (nth u 4).list := by
  have hk : qe_k15_1 u 0 = !((nth u 4).list.all ranB) := by
    unfold qe_k15_1
    rw [qe_R15_eq]
    have e : allI (fun i : Nat => qz_v ((nth (row ((nth u 4).list) (i : Int)) 0).int) ((nth (row ((nth u 4).list) (i : Int)) 1).int) ((nth (row ((nth u 4).list) (i : Int)) 2).bool)) ((nth u 4).list.length) = (nth u 4).list.all ranB := (allI_rows (P := ranB))
    rw [e]
    cases (nth u 4).list.all ranB <;> rfl
  unfold qe_v
  rw [hk, qf_vv]
  simp only [ar_v]
  generalize (nth u 0).int = k, (nth u 1).int = n, (nth u 2).str = tx, (nth u 3).list = K, (nth u 4).list = R
  have hin : ∀ a b c : Int, qt_v a b c = inX a b c := fun _ _ _ => rfl
  simp only [hin]
  unfold nodeB
  have hR : decide ((R.length : Int) > 0) = !((R.length : Int) == 0) := by
    by_cases h : R.length = 0
    · rw [h]; rfl
    · rw [show ((R.length : Int) == 0) = false from beq_eq_false_iff_ne.2 (by omega), decide_eq_true (show (R.length : Int) > 0 by omega)]; rfl
  rw [hR]
  by_cases k1 : k = 1
  · subst k1
    cases inX n 0 1000000000000 <;> cases (tx == ([] : BS)) <;> cases ((K.length : Int) == 0) <;> cases ((R.length : Int) == 0) <;> rfl
  rw [show (k == 1) = false from by simpa using k1]
  by_cases k2 : k = 2
  · subst k2
    cases (n == 0) <;> cases nameOk tx <;> cases ((K.length : Int) == 0) <;> cases ((R.length : Int) == 0) <;> rfl
  rw [show (k == 2) = false from by simpa using k2]
  by_cases k3 : k = 3
  · subst k3
    cases (n == 0) <;> cases callB tx K <;> cases ((R.length : Int) == 0) <;> rfl
  rw [show (k == 3) = false from by simpa using k3]
  by_cases k4 : k = 4
  · subst k4
    cases (n == 0) <;> cases inX (R.length : Int) 1 3 <;> cases R.all ranB <;> cases (tx == ([] : BS)) <;> first | rfl | (show ((K.length : Int) == 1) = _; cases ((K.length : Int) == 1) <;> rfl) | (cases ((K.length : Int) == 1) <;> rfl)
  rw [show (k == 4) = false from by simpa using k4]
  by_cases k5 : k = 5
  · subst k5
    cases (n == 0) <;> cases ((R.length : Int) == 0) <;> cases (tx == ([] : BS)) <;> first | rfl | (show ((K.length : Int) == 1) = _; cases ((K.length : Int) == 1) <;> rfl) | (cases ((K.length : Int) == 1) <;> rfl)
  rw [show (k == 5) = false from by simpa using k5]
  have h46 : inX k 4 16 = inX k 6 16 := by
    unfold inX
    by_cases a : k ≥ 6
    · rw [decide_eq_true a, decide_eq_true (show k ≥ 4 by omega)]
    · rw [decide_eq_false a, decide_eq_false (show ¬ k ≥ 4 by omega)]
  rw [h46]
  have hkid : qw_v k = bif inX k 6 16 then 2 else 0 := by
    unfold qw_v
    rw [show (k == 4) = false from by simpa using k4, show (k == 5) = false from by simpa using k5]
    rfl
  rw [hkid]
  cases inX k 6 16 <;> cases (n == 0) <;> cases ((R.length : Int) == 0) <;> cases (tx == ([] : BS)) <;> first | rfl | (show ((K.length : Int) == 2) = _; cases ((K.length : Int) == 2) <;> rfl) | (cases ((K.length : Int) == 2) <;> rfl)
section
class qd_O where n : Nat
variable [i_spec_l25Size : qd_O]
def qd_rc (u : List TC) : Bool := is (rowsDep (nth u 3).list < qd_O.n ∧ Typed tab (.slice 31) (.l (nth u 3).list) ∧ Typed tab (.slice 59) (.l (nth u 4).list) ∧ Typed tab .str (.s (nth u 2).str) ∧ kdX u ≤ 1048576)
def qd_rv (u : List TC) : Int := szV u
def qd_rmk (p : Int) : Res := [(false, [⟨.int .i64, .sh, TC.i p⟩])]
def qd_rS : List Arg → Option (Bool × Res) := fun xs => match xs with
  | [(false, [(.ptr 31, TC.p u)])] => some ((qd_rc u), qd_rmk (qd_rv u))
  | _ => .none
def D15 : Dt := also D14 18 qd_rS
class qd_G : Prop where ok : DOk Go.Proofs.Try.prog tab D15
variable [g_spec_l25Size : qd_G]
theorem d15 : DOk Go.Proofs.Try.prog tab D15 := qd_G.ok
abbrev qd_5_σ := List TC × Int × Int
abbrev qd_5_ω := (Int)
def qd_5_step (u : List TC) (n i : Int) : Tr (qd_5_σ ⊕ qd_5_ω) := (.ite ((decide (i < (((nth u 3).list).length : Int))) = true) (.ite ((decide (n ≤ (40 : Int))) = true) (.ite ((0 : Int) ≤ i ∧ i < (((nth u 3).list).length : Int)) (.ite ((qd_rc (row ((nth u 3).list) i)) = true) (.ok (.inl (u, (IntKind.wrap .i64 (n + (qd_rv (row ((nth u 3).list) i)))), (IntKind.wrap .i64 (i + (1 : Int))))))
     .no)
    .no)
   (.ok (.inr n)))
  (.ok (.inr n)))
def qd_5_st : qd_5_σ → Tr (qd_5_σ ⊕ qd_5_ω) := fun x => (qd_5_step (x.1) (x.2.1) (x.2.2))
def qd_o5_1 (u : List TC) (n i : Int) : Bool := is (i = 0 ∧ n = 1 ∧ (nth u 3).list.length ≤ 140737488355328 ∧ ∀ x : List TC, x ∈ (nth u 3).list → qd_rc x = true ∧ 0 ≤ szX x ∧ szX x ≤ 1099511627776)
def qd_u5_1 (u : List TC) (n i : Int) : Int := (nth u 3).list.foldl szF n
def qd_5_fin (u : List TC) (n i : Int) : Told qd_5_ω := (.leaf (qd_o5_1 u n i) (qd_u5_1 u n i))
def qd_5_sl (x : qd_5_σ) : List Slot := [⟨.val false [⟨.ptr 31, .sh, TC.p (x.1)⟩], ⟨0, 0⟩⟩, ⟨.val false [⟨.int .i64, .sh, TC.i (x.2.1)⟩], ⟨0, 0⟩⟩, ⟨.val false [⟨.int .i64, .sh, TC.i (x.2.2)⟩], ⟨0, 0⟩⟩]
def qd_5_out : qd_5_ω → Ex × List Slot := (fun x => (.exit 0, [Slot.none, ⟨.val false [⟨.int .i64, .sh, TC.i x⟩], ⟨0, 0⟩⟩]))
def qd_lo5 : List Slot → Option (Told (Ex × List Slot)) := fun s => match s with
  | [⟨.val false [⟨.ptr 31, .sh, TC.p u⟩], ⟨0, 0⟩⟩, ⟨.val false [⟨.int .i64, .sh, TC.i n⟩], ⟨0, 0⟩⟩, ⟨.val false [⟨.int .i64, .sh, TC.i i⟩], ⟨0, 0⟩⟩] => some (((qd_5_fin u n i)).map qd_5_out)
  | _ => .none
def qd_lo : LoopTeller := fun r s => bif Nat.beq r 5 then qd_lo5 s else .none
theorem qd_5_r (u : List TC) (n i : Int) (fuel : Nat) : rounds (rnd tab FT D15 live 18 qd_lo 0 5) leave (fuel + 1) (qd_5_sl (u, n, i)) = ((qd_5_step u n i)).run (goOn (fun s => rounds (rnd tab FT D15 live 18 qd_lo 0 5) leave fuel (qd_5_sl s)) fun w => some (qd_5_out w)) := by kernel_rfl
theorem qd_5_h (u : List TC) (n i : Int) (ow : qd_5_ω) : ((qd_5_fin u n i)).val = some ow → ∃ fuel, loopN qd_5_st fuel (u, n, i) = some ow := by
  intro h
  refine auto_leaf (R := (nth u 3).list.foldl szF n) (fun ho => ?_) h
  obtain ⟨rfl, rfl, hlen, hr⟩ := is_iff.1 ho
  have key : ∀ (rest : LL) (j : Nat) (a : Int), (nth u 3).list.drop j = rest → 0 ≤ a → a ≤ 9000000000000 → ∃ M, loopN qd_5_st M (u, a, (j : Int)) = some (rest.foldl szF a) := by
    intro rest
    induction rest with
    | nil =>
      intro j a hd h0 h1
      have hj : (nth u 3).list.length ≤ j := by have := congrArg List.length hd; rw [List.length_drop, List.length_nil] at this; omega
      refine ⟨1, loopN_end ?_⟩
      show (qd_5_step u a (j : Int)).val = _
      unfold qd_5_step
      refine Tr.n (by simp; omega) ?_
      rfl
    | cons x rest ih =>
      intro j a hd h0 h1
      obtain ⟨hj, hrow, hdr⟩ := row_drop hd
      have hx : x ∈ (nth u 3).list := by rw [← hrow, row_nat]; exact mem_getD hj
      obtain ⟨hc, z0, z1⟩ := hr x hx
      by_cases h4 : a ≤ 40
      · have e : szF a x = a + szX x := by unfold szF; rw [decide_eq_true h4]; rfl
        rw [List.foldl_cons, e]
        obtain ⟨M, hM⟩ := ih (j + 1) (a + szX x) hdr (by omega) (by omega)
        refine ⟨M + 1, (loopN_next ?_).trans hM⟩
        show (qd_5_step u a (j : Int)).val = _
        unfold qd_5_step
        rw [hrow]
        refine Tr.t (by simp; omega) (Tr.t (decide_eq_true h4) (Tr.t ⟨by omega, by omega⟩ (Tr.t hc ?_)))
        have ev : qd_rv x = szX x := rfl
        rw [Tr.val_ok, ev, wrap64 (i := a + szX x) (by omega) (by omega), wrap64 (i := (j : Int) + 1) (by omega) (by omega)]
        rfl
      · refine ⟨1, (loopN_end (w := a) ?_).trans ?_⟩
        · show (qd_5_step u a (j : Int)).val = _
          unfold qd_5_step
          refine Tr.t (by simp; omega) (Tr.n (by simpa using h4) ?_)
          rfl
        · rw [foldl_stop (by omega)]
  exact key _ 0 1 rfl (by decide) (by decide)
theorem qd_is5 : LoopIs tab FT D15 live 18 qd_lo 0 5 := by
  refine loop_told (sl := qd_5_sl) (step := qd_5_st) (out := qd_5_out) (lor := qd_lo5) (fin := fun x => (qd_5_fin (x.1) (x.2.1) (x.2.2))) (fun _ => rfl) ?_ (fun x n => qd_5_r x.1 x.2.1 x.2.2 n) (fun x ow => qd_5_h x.1 x.2.1 x.2.2 ow)
  intro s t h
  unfold qd_lo5 at h
  split at h
  · cases h; exact ⟨(_, _, _), rfl, rfl⟩
  · cases h
def qd_t (u : List TC) : Tr (Int) := (.ite ((qe_c u) = true) (.ite ((!(qe_v u)) = true) (.ok (41 : Int))
   (.ite ((qd_o5_1 u (1 : Int) (0 : Int)) = true) (.ok (qd_u5_1 u (1 : Int) (0 : Int)))
    .no))
  .no)
def qd_mk (p : Int) : Res := [(false, [⟨.int .i64, .sh, TC.i p⟩])]
def qd_c (u : List TC) : Bool := ((qe_c u) && (bif (!(qe_v u)) then true else ((qd_o5_1 u (1 : Int) (0 : Int)) && true)))
def qd_v (u : List TC) : Int := (bif (!(qe_v u)) then (41 : Int) else (qd_u5_1 u (1 : Int) (0 : Int)))
theorem qd_l (u : List TC) : (qd_c u) = true → (qd_t u).val = some (qd_v u) := by
  unfold qd_t qd_v qd_c
  exact fun h => (Tr.gb h fun h => (Tr.ss h (fun h => rfl) (fun h => (Tr.gb h fun h => rfl))))
theorem qd_e (u : List TC) : runF tab FT D15 live 18 qd_lo [(false, [(.ptr 31, TC.p u)])] = (qd_t u).run fun p => some (qd_mk p) := by kernel_rfl
theorem qd_nx (u : List TC) : is (rowsDep (nth u 3).list < qd_O.n + 1 ∧ Typed tab (.slice 31) (.l (nth u 3).list) ∧ Typed tab (.slice 59) (.l (nth u 4).list) ∧ Typed tab .str (.s (nth u 2).str) ∧ kdX u ≤ 1048576) = true → (qd_c u) = true ∧ (qd_v u) = szV u := by
  intro h
  obtain ⟨hM, t3, t4, t2, hd⟩ := is_iff.1 h
  have hf : qe_c u = true := qe_cc t2 t4
  have hl := typed_room t3
  simp only [show (tab 31).bytes = 80 from rfl] at hl
  have ho : qd_o5_1 u 1 0 = true := is_true ⟨rfl, rfl, by omega, fun x hx => by
    have hdx := dep_cell hx 3
    have hb := sz_bound x
    have hkx : kdX x + 1 ≤ kdX u := kd_cell hx
    exact ⟨is_true ⟨by omega, typed_list ((typed_elem t3 hx).2 3 (by decide)), typed_list ((typed_elem t3 hx).2 4 (by decide)), typed_s ((typed_elem t3 hx).2 2 (by decide)), by omega⟩, by omega, by omega⟩⟩
  unfold qd_c qd_v szV
  rw [qe_vv, szE_eq, hf, ho]
  cases nodeB (nth u 0).int (nth u 1).int (nth u 2).str (nth u 3).list (nth u 4).list <;> exact ⟨rfl, rfl⟩
theorem qd_nxr (u : List TC) : qd_rc (i_spec_l25Size := ⟨qd_O.n + 1⟩) u = true → (qd_c u) = true ∧ (qd_v u) = (qd_rv u) := fun h => qd_nx u h
theorem qd_rs : ∀ xs r, qd_rS (i_spec_l25Size := ⟨qd_O.n + 1⟩) xs = some (true, r) → runF tab FT D15 live 18 qd_lo xs = some r := by
  intro xs r h
  unfold qd_rS at h
  split at h
  · obtain ⟨h1, rfl⟩ := sp h
    have hx := qd_nxr _ h1
    have ht := fun_told (qd_e _) (qd_l _) hx.1
    rw [hx.2] at ht
    exact ht
  · cases h
theorem qd_step : qd_G (i_spec_l25Size := ⟨qd_O.n + 1⟩) := by
  have h := DOk.also2 (S := qd_rS (i_spec_l25Size := ⟨qd_O.n + 1⟩)) mixed_ok tab_ok names_ok d14 d15 (fnLoops_one (by kernel_rfl) qd_is5) qd_rs
  refine qd_G.mk (i_spec_l25Size := ⟨qd_O.n + 1⟩) ?_
  exact h
def qbc_t (a0 a1 : Int) (a2 : BS) (a3 a4 : LL) : Tr (Bool) := (.ite ((qd_rc [TC.i a0, TC.i a1, TC.s a2, TC.l a3, TC.l a4]) = true) (.ok (decide ((qd_rv [TC.i a0, TC.i a1, TC.s a2, TC.l a3, TC.l a4]) ≤ (40 : Int))))
  .no)
def qbc_mk (p : Bool) : Res := [(false, [⟨.bool, .sh, TC.b p⟩])]
def qbc_c (a0 a1 : Int) (a2 : BS) (a3 a4 : LL) : Bool := (qd_rc [TC.i a0, TC.i a1, TC.s a2, TC.l a3, TC.l a4])
def qbc_v (a0 a1 : Int) (a2 : BS) (a3 a4 : LL) : Bool := (decide ((qd_rv [TC.i a0, TC.i a1, TC.s a2, TC.l a3, TC.l a4]) ≤ (40 : Int)))
theorem qbc_l (a0 a1 : Int) (a2 : BS) (a3 a4 : LL) : (qbc_c a0 a1 a2 a3 a4) = true → (qbc_t a0 a1 a2 a3 a4).val = some (qbc_v a0 a1 a2 a3 a4) := by
  intro h
  have hc0 : (qd_rc [TC.i a0, TC.i a1, TC.s a2, TC.l a3, TC.l a4]) = true := h
  unfold qbc_t
  exact (Tr.t hc0 rfl)
def qbc_S : List Arg → Option (Bool × Res) := fun xs => match xs with
  | [(true, [(.int .i64, TC.i a0), (.int .i64, TC.i a1), (.str, TC.s a2), (.slice 31, TC.l a3), (.slice 59, TC.l a4)])] => some ((qbc_c a0 a1 a2 a3 a4), qbc_mk (qbc_v a0 a1 a2 a3 a4))
  | _ => .none
theorem qbc_e (a0 a1 : Int) (a2 : BS) (a3 a4 : LL) : runF tab FT D15 live 6 noLoops [(true, [(.int .i64, TC.i a0), (.int .i64, TC.i a1), (.str, TC.s a2), (.slice 31, TC.l a3), (.slice 59, TC.l a4)])] = (qbc_t a0 a1 a2 a3 a4).run fun p => some (qbc_mk p) := by kernel_rfl
theorem qbc_s : ∀ xs r, qbc_S xs = some (true, r) → runF tab FT D15 live 6 noLoops xs = some r := by
  intro xs r h
  unfold qbc_S at h
  split at h
  · obtain ⟨h1, rfl⟩ := sp h
    exact fun_told (qbc_e ..) (qbc_l _ _ _ _ _) h1
  · cases h
def D16 : Dt := also D15 6 qbc_S
theorem d16 : DOk Go.Proofs.Try.prog tab D16 := d15.also mixed_ok tab_ok names_ok noLoops_ok qbc_s
def qy_t (a0 a1 a2 : Int) : Tr (Bool) := (.ite ((decide (a0 ≥ a1)) = true) (.ok (decide (a0 ≤ a2)))
  (.ok false))
def qy_mk (p : Bool) : Res := [(false, [⟨.bool, .sh, TC.b p⟩])]
def qy_c (a0 a1 a2 : Int) : Bool := true
def qy_v (a0 a1 a2 : Int) : Bool := (bif (decide (a0 ≥ a1)) then (decide (a0 ≤ a2)) else false)
theorem qy_l (a0 a1 a2 : Int) : (qy_c a0 a1 a2) = true → (qy_t a0 a1 a2).val = some (qy_v a0 a1 a2) := by
  intro h
  skip
  unfold qy_t qy_v
  exact (Tr.s rfl rfl)
def qy_S : List Arg → Option (Bool × Res) := fun xs => match xs with
  | [(false, [(.int .i64, TC.i a0)]), (false, [(.int .i64, TC.i a1)]), (false, [(.int .i64, TC.i a2)])] => some (true, qy_mk (qy_v a0 a1 a2))
  | _ => .none
theorem qy_e (a0 a1 a2 : Int) : runF tab FT D16 live 44 noLoops [(false, [(.int .i64, TC.i a0)]), (false, [(.int .i64, TC.i a1)]), (false, [(.int .i64, TC.i a2)])] = (qy_t a0 a1 a2).run fun p => some (qy_mk p) := by kernel_rfl
theorem qy_s : ∀ xs r, qy_S xs = some (true, r) → runF tab FT D16 live 44 noLoops xs = some r := by
  intro xs r h
  unfold qy_S at h
  split at h
  · obtain ⟨h1, rfl⟩ := sp h
    exact fun_told (qy_e ..) (qy_l _ _ _) rfl
  · cases h
def D17 : Dt := also D16 44 qy_S
theorem d17 : DOk Go.Proofs.Try.prog tab D17 := d16.also mixed_ok tab_ok names_ok noLoops_ok qy_s
def qbf_t (a0 : Int) : Tr (Bool) := .ok (qy_v a0 (6 : Int) (16 : Int))
def qbf_mk (p : Bool) : Res := [(false, [⟨.bool, .sh, TC.b p⟩])]
def qbf_c (a0 : Int) : Bool := true
def qbf_v (a0 : Int) : Bool := (qy_v a0 (6 : Int) (16 : Int))
theorem qbf_l (a0 : Int) : (qbf_c a0) = true → (qbf_t a0).val = some (qbf_v a0) := by
  intro h
  skip
  unfold qbf_t qbf_v
  exact rfl
def qbf_S : List Arg → Option (Bool × Res) := fun xs => match xs with
  | [(false, [(.int .i64, TC.i a0)])] => some (true, qbf_mk (qbf_v a0))
  | _ => .none
theorem qbf_e (a0 : Int) : runF tab FT D17 live 43 noLoops [(false, [(.int .i64, TC.i a0)])] = (qbf_t a0).run fun p => some (qbf_mk p) := by kernel_rfl
theorem qbf_s : ∀ xs r, qbf_S xs = some (true, r) → runF tab FT D17 live 43 noLoops xs = some r := by
  intro xs r h
  unfold qbf_S at h
  split at h
  · obtain ⟨h1, rfl⟩ := sp h
    exact fun_told (qbf_e _) (qbf_l _) rfl
  · cases h
def D18 : Dt := also D17 43 qbf_S
theorem d18 : DOk Go.Proofs.Try.prog tab D18 := d17.also mixed_ok tab_ok names_ok noLoops_ok qbf_s
def qh_f2 (s : BS) (m i : Int) : (Unit) ⊕ ((BS) ⊕ (BS)) := (bif (decide (((s.getD (i).toNat 0).toNat : Int) ≥ (65 : Int))) then (bif (decide (((s.getD (i).toNat 0).toNat : Int) ≤ (90 : Int))) then (.inl ()) else (bif (decide (((s.getD (i).toNat 0).toNat : Int) ≥ (97 : Int))) then (bif (!(decide (((s.getD (i).toNat 0).toNat : Int) ≤ (122 : Int)))) then (bif (i == (0 : Int)) then (.inr (.inl s)) else (bif (decide (((s.getD (i).toNat 0).toNat : Int) < (48 : Int))) then (bif (!(((s.getD (i).toNat 0).toNat : Int) == (95 : Int))) then (.inr (.inl s)) else (.inl ())) else (bif (decide (((s.getD (i).toNat 0).toNat : Int) > (57 : Int))) then (bif (!(((s.getD (i).toNat 0).toNat : Int) == (95 : Int))) then (.inr (.inl s)) else (.inl ())) else (.inl ())))) else (.inl ())) else (bif (i == (0 : Int)) then (.inr (.inl s)) else (bif (decide (((s.getD (i).toNat 0).toNat : Int) < (48 : Int))) then (bif (!(((s.getD (i).toNat 0).toNat : Int) == (95 : Int))) then (.inr (.inl s)) else (.inl ())) else (bif (decide (((s.getD (i).toNat 0).toNat : Int) > (57 : Int))) then (bif (!(((s.getD (i).toNat 0).toNat : Int) == (95 : Int))) then (.inr (.inl s)) else (.inl ())) else (.inl ())))))) else (bif (decide (((s.getD (i).toNat 0).toNat : Int) ≥ (97 : Int))) then (bif (!(decide (((s.getD (i).toNat 0).toNat : Int) ≤ (122 : Int)))) then (bif (i == (0 : Int)) then (.inr (.inl s)) else (bif (decide (((s.getD (i).toNat 0).toNat : Int) < (48 : Int))) then (bif (!(((s.getD (i).toNat 0).toNat : Int) == (95 : Int))) then (.inr (.inl s)) else (.inl ())) else (bif (decide (((s.getD (i).toNat 0).toNat : Int) > (57 : Int))) then (bif (!(((s.getD (i).toNat 0).toNat : Int) == (95 : Int))) then (.inr (.inl s)) else (.inl ())) else (.inl ())))) else (.inl ())) else (bif (i == (0 : Int)) then (.inr (.inl s)) else (bif (decide (((s.getD (i).toNat 0).toNat : Int) < (48 : Int))) then (bif (!(((s.getD (i).toNat 0).toNat : Int) == (95 : Int))) then (.inr (.inl s)) else (.inl ())) else (bif (decide (((s.getD (i).toNat 0).toNat : Int) > (57 : Int))) then (bif (!(((s.getD (i).toNat 0).toNat : Int) == (95 : Int))) then (.inr (.inl s)) else (.inl ())) else (.inl ()))))))
def qh_e2 (s : BS) (m : Int) : (BS) ⊕ (BS) := .inr s
def qh_R2 (s : BS) (m i : Int) : (BS) ⊕ (BS) := iter (fun i a => (qh_f2 s m (i : Int))) (fun a => (qh_e2 s m)) (s.length) 0 ()
abbrev qh_2_σ := BS × Int × Int
abbrev qh_2_ω := (BS) ⊕ (BS)
def qh_2_step (s : BS) (m i : Int) : Tr (qh_2_σ ⊕ qh_2_ω) := (.ite ((decide (i < m)) = true) (.ite ((0 : Int) ≤ i ∧ i < (s.length : Int)) (.ite ((decide (((s.getD (i).toNat 0).toNat : Int) ≥ (65 : Int))) = true) (.ite ((decide (((s.getD (i).toNat 0).toNat : Int) ≤ (90 : Int))) = true) (.ok (.inl (s, m, (IntKind.wrap .i64 (i + (1 : Int))))))
     (.ite ((decide (((s.getD (i).toNat 0).toNat : Int) ≥ (97 : Int))) = true) (.ite ((!(decide (((s.getD (i).toNat 0).toNat : Int) ≤ (122 : Int)))) = true) (.ite ((i == (0 : Int)) = true) (.ok (.inr (.inl s)))
        (.ite ((decide (((s.getD (i).toNat 0).toNat : Int) < (48 : Int))) = true) (.ite ((!(((s.getD (i).toNat 0).toNat : Int) == (95 : Int))) = true) (.ok (.inr (.inl s)))
          (.ok (.inl (s, m, (IntKind.wrap .i64 (i + (1 : Int)))))))
         (.ite ((decide (((s.getD (i).toNat 0).toNat : Int) > (57 : Int))) = true) (.ite ((!(((s.getD (i).toNat 0).toNat : Int) == (95 : Int))) = true) (.ok (.inr (.inl s)))
           (.ok (.inl (s, m, (IntKind.wrap .i64 (i + (1 : Int)))))))
          (.ok (.inl (s, m, (IntKind.wrap .i64 (i + (1 : Int)))))))))
       (.ok (.inl (s, m, (IntKind.wrap .i64 (i + (1 : Int)))))))
      (.ite ((i == (0 : Int)) = true) (.ok (.inr (.inl s)))
       (.ite ((decide (((s.getD (i).toNat 0).toNat : Int) < (48 : Int))) = true) (.ite ((!(((s.getD (i).toNat 0).toNat : Int) == (95 : Int))) = true) (.ok (.inr (.inl s)))
         (.ok (.inl (s, m, (IntKind.wrap .i64 (i + (1 : Int)))))))
        (.ite ((decide (((s.getD (i).toNat 0).toNat : Int) > (57 : Int))) = true) (.ite ((!(((s.getD (i).toNat 0).toNat : Int) == (95 : Int))) = true) (.ok (.inr (.inl s)))
          (.ok (.inl (s, m, (IntKind.wrap .i64 (i + (1 : Int)))))))
         (.ok (.inl (s, m, (IntKind.wrap .i64 (i + (1 : Int)))))))))))
    (.ite ((decide (((s.getD (i).toNat 0).toNat : Int) ≥ (97 : Int))) = true) (.ite ((!(decide (((s.getD (i).toNat 0).toNat : Int) ≤ (122 : Int)))) = true) (.ite ((i == (0 : Int)) = true) (.ok (.inr (.inl s)))
       (.ite ((decide (((s.getD (i).toNat 0).toNat : Int) < (48 : Int))) = true) (.ite ((!(((s.getD (i).toNat 0).toNat : Int) == (95 : Int))) = true) (.ok (.inr (.inl s)))
         (.ok (.inl (s, m, (IntKind.wrap .i64 (i + (1 : Int)))))))
        (.ite ((decide (((s.getD (i).toNat 0).toNat : Int) > (57 : Int))) = true) (.ite ((!(((s.getD (i).toNat 0).toNat : Int) == (95 : Int))) = true) (.ok (.inr (.inl s)))
          (.ok (.inl (s, m, (IntKind.wrap .i64 (i + (1 : Int)))))))
         (.ok (.inl (s, m, (IntKind.wrap .i64 (i + (1 : Int)))))))))
      (.ok (.inl (s, m, (IntKind.wrap .i64 (i + (1 : Int)))))))
     (.ite ((i == (0 : Int)) = true) (.ok (.inr (.inl s)))
      (.ite ((decide (((s.getD (i).toNat 0).toNat : Int) < (48 : Int))) = true) (.ite ((!(((s.getD (i).toNat 0).toNat : Int) == (95 : Int))) = true) (.ok (.inr (.inl s)))
        (.ok (.inl (s, m, (IntKind.wrap .i64 (i + (1 : Int)))))))
       (.ite ((decide (((s.getD (i).toNat 0).toNat : Int) > (57 : Int))) = true) (.ite ((!(((s.getD (i).toNat 0).toNat : Int) == (95 : Int))) = true) (.ok (.inr (.inl s)))
         (.ok (.inl (s, m, (IntKind.wrap .i64 (i + (1 : Int)))))))
        (.ok (.inl (s, m, (IntKind.wrap .i64 (i + (1 : Int)))))))))))
   .no)
  (.ok (.inr (.inr s))))
def qh_2_st : qh_2_σ → Tr (qh_2_σ ⊕ qh_2_ω) := fun x => (qh_2_step (x.1) (x.2.1) (x.2.2))
def qh_k2_1 (s : BS) (m i : Int) : Bool := sumIs (qh_R2 s m i)
def qh_o2_2 (s : BS) (m i : Int) : Bool := is (i = 0 ∧ s.length ≤ 140737488355328 ∧ m = (s.length : Int))
def qh_o2_3 (s : BS) (m i : Int) : Bool := is (i = 0 ∧ s.length ≤ 140737488355328 ∧ m = (s.length : Int))
def qh_2_fin (s : BS) (m i : Int) : Told qh_2_ω := (.br (qh_k2_1 s m i) (.leaf (qh_o2_2 s m i) (.inl s)) (.leaf (qh_o2_3 s m i) (.inr s)))
def qh_2_sl (x : qh_2_σ) : List Slot := [⟨.val false [⟨.str, .sh, TC.s (x.1)⟩], ⟨0, 0⟩⟩, ⟨.val false [⟨.int .i64, .sh, TC.i (x.2.1)⟩], ⟨0, 0⟩⟩, ⟨.val false [⟨.int .i64, .sh, TC.i (x.2.2)⟩], ⟨0, 0⟩⟩]
def qh_2_out : qh_2_ω → Ex × List Slot := (Sum.elim (fun x => (.ret, [⟨.val false [⟨.str, .sh, TC.s x⟩], ⟨0, 0⟩⟩, ⟨.val false [⟨.bool, .sh, TC.b false⟩], ⟨0, 0⟩⟩])) (fun x => (.exit 0, [⟨.val false [⟨.str, .sh, TC.s x⟩], ⟨0, 0⟩⟩, Slot.none])))
def qh_lo2 : List Slot → Option (Told (Ex × List Slot)) := fun s => match s with
  | [⟨.val false [⟨.str, .sh, TC.s s⟩], ⟨0, 0⟩⟩, ⟨.val false [⟨.int .i64, .sh, TC.i m⟩], ⟨0, 0⟩⟩, ⟨.val false [⟨.int .i64, .sh, TC.i i⟩], ⟨0, 0⟩⟩] => some (((qh_2_fin s m i)).map qh_2_out)
  | _ => .none
def qh_lo : LoopTeller := fun r s => bif Nat.beq r 2 then qh_lo2 s else .none
theorem qh_2_r (s : BS) (m i : Int) (fuel : Nat) : rounds (rnd tab FT D18 live 45 qh_lo 0 2) leave (fuel + 1) (qh_2_sl (s, m, i)) = ((qh_2_step s m i)).run (goOn (fun s => rounds (rnd tab FT D18 live 45 qh_lo 0 2) leave fuel (qh_2_sl s)) fun w => some (qh_2_out w)) := by kernel_rfl
theorem qh_f2_eq (s : BS) (m i : Int) : qh_f2 s m i = bif nameB i ((s.getD (i).toNat 0).toNat : Int) then Sum.inl () else Sum.inr (Sum.inl s) := by
  unfold qh_f2 nameB letterB
  simp only [dlt, dgt]
  generalize ((s.getD i.toNat 0).toNat : Int) = c
  generalize decide (c ≥ 65) = p0, decide (c ≤ 90) = p1, decide (c ≥ 97) = p2, decide (c ≤ 122) = p3, decide (c ≥ 48) = p4, decide (c ≤ 57) = p5, (c == 95) = p6, (i == 0) = p7
  cases p0 <;> cases p1 <;> cases p2 <;> cases p3 <;> cases p4 <;> cases p5 <;> cases p6 <;> cases p7 <;> rfl
theorem qh_R2_eq (s : BS) (m : Int)  : qh_R2 s m 0 = bif allI (fun i : Nat => nameB (i : Int) ((s.getD ((i : Int)).toNat 0).toNat : Int)) (s.length) then Sum.inr s else (Sum.inl s) := by
  unfold qh_R2
  exact (iter_all (P := (fun i : Nat => nameB (i : Int) ((s.getD ((i : Int)).toNat 0).toNat : Int))) (g := fun _ a => a) (w := Sum.inl s) fun j a _ => qh_f2_eq s m _)
theorem qh_2_h (s : BS) (m i : Int) (ow : qh_2_ω) : ((qh_2_fin s m i)).val = some ow → ∃ fuel, loopN qh_2_st fuel (s, m, i) = some ow := by
  refine auto_const (R := (qh_R2 s m i)) rfl (iter_onR (f := (fun i a => (qh_f2 s m (i : Int)))) (fin := (fun a => (qh_e2 s m))) (Q := endsAs s s) (fun i a => by unfold qh_f2; exact (onR_bif (onR_bif trivial (onR_bif (onR_bif (onR_bif rfl (onR_bif (onR_bif rfl trivial) (onR_bif (onR_bif rfl trivial) trivial))) trivial) (onR_bif rfl (onR_bif (onR_bif rfl trivial) (onR_bif (onR_bif rfl trivial) trivial))))) (onR_bif (onR_bif (onR_bif rfl (onR_bif (onR_bif rfl trivial) (onR_bif (onR_bif rfl trivial) trivial))) trivial) (onR_bif rfl (onR_bif (onR_bif rfl trivial) (onR_bif (onR_bif rfl trivial) trivial)))))) (fun _ => rfl) _ _ _) ?_
  intro ho
  have ho : is (i = 0 ∧ s.length ≤ 140737488355328 ∧ m = (s.length : Int)) = true := ho.elim id id
  obtain ⟨rfl, hs, rfl⟩ := is_iff.1 ho
  skip
  refine ⟨(s.length) + 1, ?_⟩
  refine iter_loop (step := qh_2_st) (s.length) (fun i a => (qh_f2 s (s.length : Int) (i : Int))) (fun a => (qh_e2 s (s.length : Int))) (fun i a => (s, (s.length : Int), (i : Int))) (fun _ _ => True) trivial (fun i a hi hI => ⟨?_, fun _ _ => trivial⟩) (fun a hI => ?_)
  · show (qh_2_step s (s.length : Int) (i : Int)).val = _
    unfold qh_2_step qh_f2
    skip
    refine Tr.t (by simp; omega) ?_
    exact (Tr.t (by first | omega | (constructor <;> omega)) (Tr.bf (Tr.bf (by rw [Tr.val_ok, wrap64 (i := (i : Int) + 1) (by omega) (by omega)]; rfl) (Tr.bf (Tr.bf (Tr.bf rfl (Tr.bf (Tr.bf rfl (by rw [Tr.val_ok, wrap64 (i := (i : Int) + 1) (by omega) (by omega)]; rfl)) (Tr.bf (Tr.bf rfl (by rw [Tr.val_ok, wrap64 (i := (i : Int) + 1) (by omega) (by omega)]; rfl)) (by rw [Tr.val_ok, wrap64 (i := (i : Int) + 1) (by omega) (by omega)]; rfl)))) (by rw [Tr.val_ok, wrap64 (i := (i : Int) + 1) (by omega) (by omega)]; rfl)) (Tr.bf rfl (Tr.bf (Tr.bf rfl (by rw [Tr.val_ok, wrap64 (i := (i : Int) + 1) (by omega) (by omega)]; rfl)) (Tr.bf (Tr.bf rfl (by rw [Tr.val_ok, wrap64 (i := (i : Int) + 1) (by omega) (by omega)]; rfl)) (by rw [Tr.val_ok, wrap64 (i := (i : Int) + 1) (by omega) (by omega)]; rfl)))))) (Tr.bf (Tr.bf (Tr.bf rfl (Tr.bf (Tr.bf rfl (by rw [Tr.val_ok, wrap64 (i := (i : Int) + 1) (by omega) (by omega)]; rfl)) (Tr.bf (Tr.bf rfl (by rw [Tr.val_ok, wrap64 (i := (i : Int) + 1) (by omega) (by omega)]; rfl)) (by rw [Tr.val_ok, wrap64 (i := (i : Int) + 1) (by omega) (by omega)]; rfl)))) (by rw [Tr.val_ok, wrap64 (i := (i : Int) + 1) (by omega) (by omega)]; rfl)) (Tr.bf rfl (Tr.bf (Tr.bf rfl (by rw [Tr.val_ok, wrap64 (i := (i : Int) + 1) (by omega) (by omega)]; rfl)) (Tr.bf (Tr.bf rfl (by rw [Tr.val_ok, wrap64 (i := (i : Int) + 1) (by omega) (by omega)]; rfl)) (by rw [Tr.val_ok, wrap64 (i := (i : Int) + 1) (by omega) (by omega)]; rfl)))))))
  · show (qh_2_step s (s.length : Int) (s.length : Int)).val = _
    refine Tr.n (by first | (simp; done) | (simp; omega) | omega) ?_
    rfl
theorem qh_is2 : LoopIs tab FT D18 live 45 qh_lo 0 2 := by
  refine loop_told (sl := qh_2_sl) (step := qh_2_st) (out := qh_2_out) (lor := qh_lo2) (fin := fun x => (qh_2_fin (x.1) (x.2.1) (x.2.2))) (fun _ => rfl) ?_ (fun x n => qh_2_r x.1 x.2.1 x.2.2 n) (fun x ow => qh_2_h x.1 x.2.1 x.2.2 ow)
  intro s t h
  unfold qh_lo2 at h
  split at h
  · cases h; exact ⟨(_, _, _), rfl, rfl⟩
  · cases h
def qh_t (s : BS) : Tr (Bool) := (.ite ((qh_k2_1 s (s.length : Int) (0 : Int)) = true) (.ite ((qh_o2_2 s (s.length : Int) (0 : Int)) = true) (.ok false)
   .no)
  (.ite ((qh_o2_3 s (s.length : Int) (0 : Int)) = true) (.ite ((decide ((s.length : Int) ≥ (1 : Int))) = true) (.ok (decide ((s.length : Int) ≤ (12 : Int))))
    (.ok false))
   .no))
def qh_mk (p : Bool) : Res := [(false, [⟨.bool, .sh, TC.b p⟩])]
def qh_c (s : BS) : Bool := (bif (qh_k2_1 s (s.length : Int) (0 : Int)) then ((qh_o2_2 s (s.length : Int) (0 : Int)) && true) else ((qh_o2_3 s (s.length : Int) (0 : Int)) && (bif (decide ((s.length : Int) ≥ (1 : Int))) then true else true)))
def qh_v (s : BS) : Bool := (bif (qh_k2_1 s (s.length : Int) (0 : Int)) then false else (bif (decide ((s.length : Int) ≥ (1 : Int))) then (decide ((s.length : Int) ≤ (12 : Int))) else false))
theorem qh_l (s : BS) : (qh_c s) = true → (qh_t s).val = some (qh_v s) := by
  unfold qh_t qh_v qh_c
  exact fun h => (Tr.ss h (fun h => (Tr.gb h fun h => rfl)) (fun h => (Tr.gb h fun h => (Tr.ss h (fun h => rfl) (fun h => rfl)))))
def qh_S : List Arg → Option (Bool × Res) := fun xs => match xs with
  | [(false, [(.str, TC.s s)])] => some ((qh_c s), qh_mk (qh_v s))
  | _ => .none
theorem qh_e (s : BS) : runF tab FT D18 live 45 qh_lo [(false, [(.str, TC.s s)])] = (qh_t s).run fun p => some (qh_mk p) := by kernel_rfl
theorem qh_s : ∀ xs r, qh_S xs = some (true, r) → runF tab FT D18 live 45 qh_lo xs = some r := by
  intro xs r h
  unfold qh_S at h
  split at h
  · obtain ⟨h1, rfl⟩ := sp h
    exact fun_told (qh_e _) (qh_l _) h1
  · cases h
def D19 : Dt := also D18 45 qh_S
theorem d19 : DOk Go.Proofs.Try.prog tab D19 := d18.also mixed_ok tab_ok names_ok (fnLoops_one (by kernel_rfl) qh_is2) qh_s
theorem qh_cc {s : BS} (hs : Typed tab (.str) (.s s)) : (qh_c s) = true := by
  unfold qh_c
  refine bifT (fun b1 => ?_) (fun b1 => ?_)
  · skip
    refine andT (by exact is_true ⟨rfl, by have := typed_str_len hs; omega, rfl⟩) ?_
    rfl
  · skip
    refine andT (by exact is_true ⟨rfl, by have := typed_str_len hs; omega, rfl⟩) ?_
    refine bifT (fun b2 => ?_) (fun b2 => ?_)
    · skip
      rfl
    · skip
      rfl
theorem qh_vv (s : BS) : qh_v s = nameOk s := by
  unfold qh_v qh_k2_1 nameOk
  rw [qh_R2_eq]
  generalize allI (fun i : Nat => nameB (i : Int) ((s.getD ((i : Int)).toNat 0).toNat : Int)) s.length = q
  cases q
  · simp [sumIs]
  · show (bif decide ((s.length : Int) ≥ 1) then decide ((s.length : Int) ≤ 12) else false) = (decide ((s.length : Int) ≥ 1) && decide ((s.length : Int) ≤ 12) && true)
    generalize decide ((s.length : Int) ≥ 1) = q1, decide ((s.length : Int) ≤ 12) = q2
    cases q1 <;> cases q2 <;> rfl
abbrev qb_2_σ := LL × BS × Int × Int
abbrev qb_2_ω := (Int) ⊕ (Unit)
def qb_2_step (A : LL) (s : BS) (m i : Int) : Tr (qb_2_σ ⊕ qb_2_ω) := (.ite ((decide (i < m)) = true) (.ite ((0 : Int) ≤ i ∧ i < (A.length : Int)) (.ite ((s == (nth (row A i) 0).str) = true) (.ok (.inr (.inl i)))
    (.ok (.inl (A, s, m, (IntKind.wrap .i64 (i + (1 : Int)))))))
   .no)
  (.ok (.inr (.inr ()))))
def qb_2_st : qb_2_σ → Tr (qb_2_σ ⊕ qb_2_ω) := fun x => (qb_2_step (x.1) (x.2.1) (x.2.2.1) (x.2.2.2))
def qb_k2_1 (A : LL) (s : BS) (m i : Int) : Bool := A.all (fun x => !(s == (nth x 0).str))
def qb_o2_2 (A : LL) (s : BS) (m i : Int) : Bool := is (i = 0 ∧ Typed tab (.slice 9) (.l A) ∧ m = (A.length : Int))
def qb_o2_3 (A : LL) (s : BS) (m i : Int) : Bool := is (i = 0 ∧ Typed tab (.slice 9) (.l A) ∧ m = (A.length : Int))
def qb_u2_3 (A : LL) (s : BS) (m i : Int) : Int := (Int.ofNat (A.findIdx fun x => !(fun x => !(s == (nth x 0).str)) x))
def qb_2_fin (A : LL) (s : BS) (m i : Int) : Told qb_2_ω := (.br (qb_k2_1 A s m i) (.leaf (qb_o2_2 A s m i) (.inr ())) (.leaf (qb_o2_3 A s m i) (.inl (qb_u2_3 A s m i))))
def qb_2_sl (x : qb_2_σ) : List Slot := [⟨.val false [⟨.slice 9, .sh, TC.l (x.1)⟩], ⟨0, 0⟩⟩, ⟨.val false [⟨.str, .sh, TC.s (x.2.1)⟩], ⟨0, 0⟩⟩, ⟨.val false [⟨.int .i64, .sh, TC.i (x.2.2.1)⟩], ⟨0, 0⟩⟩, ⟨.val false [⟨.int .i64, .sh, TC.i (x.2.2.2)⟩], ⟨0, 0⟩⟩]
def qb_2_out : qb_2_ω → Ex × List Slot := (Sum.elim (fun x => (.ret, [⟨.val false [⟨.int .i64, .sh, TC.i x⟩], ⟨0, 0⟩⟩])) (fun x => (.exit 0, [Slot.none])))
def qb_lo2 : List Slot → Option (Told (Ex × List Slot)) := fun s => match s with
  | [⟨.val false [⟨.slice 9, .sh, TC.l A⟩], ⟨0, 0⟩⟩, ⟨.val false [⟨.str, .sh, TC.s s⟩], ⟨0, 0⟩⟩, ⟨.val false [⟨.int .i64, .sh, TC.i m⟩], ⟨0, 0⟩⟩, ⟨.val false [⟨.int .i64, .sh, TC.i i⟩], ⟨0, 0⟩⟩] => some (((qb_2_fin A s m i)).map qb_2_out)
  | _ => .none
def qb_lo : LoopTeller := fun r s => bif Nat.beq r 2 then qb_lo2 s else .none
theorem qb_2_r (A : LL) (s : BS) (m i : Int) (fuel : Nat) : rounds (rnd tab FT D19 live 72 qb_lo 0 2) leave (fuel + 1) (qb_2_sl (A, s, m, i)) = ((qb_2_step A s m i)).run (goOn (fun s => rounds (rnd tab FT D19 live 72 qb_lo 0 2) leave fuel (qb_2_sl s)) fun w => some (qb_2_out w)) := by kernel_rfl
theorem qb_2_h (A : LL) (s : BS) (m i : Int) (ow : qb_2_ω) : ((qb_2_fin A s m i)).val = some ow → ∃ fuel, loopN qb_2_st fuel (A, s, m, i) = some ow := by
  intro h
  have key : Typed tab (.slice 9) (.l A) → loopN qb_2_st (A.length + 1) (A, s, (A.length : Int), (0 : Int)) = some (if A.all (fun x => !(s == (nth x 0).str)) = true then (.inr ()) else (.inl (Int.ofNat (A.findIdx fun x => !(fun x => !(s == (nth x 0).str)) x)))) := by
    intro ht
    have hlen : A.length ≤ 140737488351232 := by have := typed_room ht; simp only [show (tab 9).bytes = 16 from rfl] at this; omega
    have key := loopN_scan (step := qb_2_st) A [] (fun x => !(s == (nth x 0).str)) (fun a _ => a) (fun i a => (A, s, (A.length : Int), (i : Int))) (fun a => (.inr ())) (fun i a => (.inl (i : Int))) (fun i a hi => ?_) (fun a => ?_) A.length 0 () (by omega)
    · first | (rw [Nat.zero_add] at key; exact key) | exact key
    · have c0 : Typed tab (.str) (.s (nth (A.getD i []) 0).str) := typed_s (typed_cell ht (A.getD i []) (mem_getD hi) 0 (by decide))
      show (qb_2_step A s (A.length : Int) (i : Int)).val = _
      unfold qb_2_step
      refine Tr.t (by simp; omega) ?_
      skip
      refine Tr.t (by first | omega | (constructor <;> omega)) ?_
      refine Tr.b2 (fun hP => ?_) (fun _ => rfl)
      rw [Tr.val_ok, wrap64 (i := (i : Int) + 1) (by omega) (by omega)]; rfl
    · show (qb_2_step A s (A.length : Int) (A.length : Int)).val = _
      refine Tr.n (by simp) ?_
      rfl
  simp only [qb_2_fin, Told.val] at h
  cases hk : A.all (fun x => !(s == (nth x 0).str)) with
  | true =>
    rw [if_pos (show qb_k2_1 A s m i = true from hk)] at h
    split at h
    · rename_i ho
      obtain ⟨rfl, ht, rfl⟩ := is_iff.1 ho
      cases h
      refine ⟨_, (key ht).trans ?_⟩
      rw [hk]; rfl
    · cases h
  | false =>
    rw [if_neg (show ¬qb_k2_1 A s m i = true from by rw [show qb_k2_1 A s m i = (A.all (fun x => !(s == (nth x 0).str))) from rfl, hk]; simp)] at h
    split at h
    · rename_i ho
      obtain ⟨rfl, ht, rfl⟩ := is_iff.1 ho
      cases h
      refine ⟨_, (key ht).trans ?_⟩
      rw [hk]; rfl
    · cases h
theorem qb_is2 : LoopIs tab FT D19 live 72 qb_lo 0 2 := by
  refine loop_told (sl := qb_2_sl) (step := qb_2_st) (out := qb_2_out) (lor := qb_lo2) (fin := fun x => (qb_2_fin (x.1) (x.2.1) (x.2.2.1) (x.2.2.2))) (fun _ => rfl) ?_ (fun x n => qb_2_r x.1 x.2.1 x.2.2.1 x.2.2.2 n) (fun x ow => qb_2_h x.1 x.2.1 x.2.2.1 x.2.2.2 ow)
  intro s t h
  unfold qb_lo2 at h
  split at h
  · cases h; exact ⟨(_, _, _, _), rfl, rfl⟩
  · cases h
def qb_t (A : LL) (s : BS) : Tr (Int) := (.ite ((qb_k2_1 A s (A.length : Int) (0 : Int)) = true) (.ite ((qb_o2_2 A s (A.length : Int) (0 : Int)) = true) (.ok (-1 : Int))
   .no)
  (.ite ((qb_o2_3 A s (A.length : Int) (0 : Int)) = true) (.ok (qb_u2_3 A s (A.length : Int) (0 : Int)))
   .no))
def qb_mk (p : Int) : Res := [(false, [⟨.int .i64, .sh, TC.i p⟩])]
def qb_c (A : LL) (s : BS) : Bool := is (((qb_o2_2 A s (A.length : Int) (0 : Int)) = true) ∧ ((qb_o2_3 A s (A.length : Int) (0 : Int)) = true))
def qb_v (A : LL) (s : BS) : Int := (bif (qb_k2_1 A s (A.length : Int) (0 : Int)) then (-1 : Int) else (qb_u2_3 A s (A.length : Int) (0 : Int)))
theorem qb_l (A : LL) (s : BS) : (qb_c A s) = true → (qb_t A s).val = some (qb_v A s) := by
  intro h
  obtain ⟨g0, g1⟩ := is_iff.1 h
  unfold qb_t qb_v
  exact (Tr.s (Tr.t g0 rfl) (Tr.t g1 rfl))
def qb_S : List Arg → Option (Bool × Res) := fun xs => match xs with
  | [(false, [(.slice 9, TC.l A)]), (false, [(.str, TC.s s)])] => some ((qb_c A s), qb_mk (qb_v A s))
  | _ => .none
theorem qb_e (A : LL) (s : BS) : runF tab FT D19 live 72 qb_lo [(false, [(.slice 9, TC.l A)]), (false, [(.str, TC.s s)])] = (qb_t A s).run fun p => some (qb_mk p) := by kernel_rfl
theorem qb_s : ∀ xs r, qb_S xs = some (true, r) → runF tab FT D19 live 72 qb_lo xs = some r := by
  intro xs r h
  unfold qb_S at h
  split at h
  · obtain ⟨h1, rfl⟩ := sp h
    exact fun_told (qb_e ..) (qb_l _ _) h1
  · cases h
def D20 : Dt := also D19 72 qb_S
theorem d20 : DOk Go.Proofs.Try.prog tab D20 := d19.also mixed_ok tab_ok names_ok (fnLoops_one (by kernel_rfl) qb_is2) qb_s
def qs_t (a0 : LL) (a1 : BS) : Tr (Bool) := (.ite ((qb_c a0 a1) = true) (.ok (decide ((qb_v a0 a1) ≥ (0 : Int))))
  .no)
def qs_mk (p : Bool) : Res := [(false, [⟨.bool, .sh, TC.b p⟩])]
def qs_c (a0 : LL) (a1 : BS) : Bool := (qb_c a0 a1)
def qs_v (a0 : LL) (a1 : BS) : Bool := (decide ((qb_v a0 a1) ≥ (0 : Int)))
theorem qs_l (a0 : LL) (a1 : BS) : (qs_c a0 a1) = true → (qs_t a0 a1).val = some (qs_v a0 a1) := by
  intro h
  have hc0 : (qb_c a0 a1) = true := h
  unfold qs_t
  exact (Tr.t hc0 rfl)
def qs_S : List Arg → Option (Bool × Res) := fun xs => match xs with
  | [(false, [(.slice 9, TC.l a0)]), (false, [(.str, TC.s a1)])] => some ((qs_c a0 a1), qs_mk (qs_v a0 a1))
  | _ => .none
theorem qs_e (a0 : LL) (a1 : BS) : runF tab FT D20 live 70 noLoops [(false, [(.slice 9, TC.l a0)]), (false, [(.str, TC.s a1)])] = (qs_t a0 a1).run fun p => some (qs_mk p) := by kernel_rfl
theorem qs_s : ∀ xs r, qs_S xs = some (true, r) → runF tab FT D20 live 70 noLoops xs = some r := by
  intro xs r h
  unfold qs_S at h
  split at h
  · obtain ⟨h1, rfl⟩ := sp h
    exact fun_told (qs_e ..) (qs_l _ _) h1
  · cases h
def D21 : Dt := also D20 70 qs_S
theorem d21 : DOk Go.Proofs.Try.prog tab D21 := d20.also mixed_ok tab_ok names_ok noLoops_ok qs_s
def qu_t (a0 : BS) : Tr (Bool) := (.ite ((qs_c [[TC.s [115, 117, 109]], [TC.s [109, 105, 110]], [TC.s [109, 97, 120]], [TC.s [99, 111, 117, 110, 116]]] a0) = true) (.ok (qs_v [[TC.s [115, 117, 109]], [TC.s [109, 105, 110]], [TC.s [109, 97, 120]], [TC.s [99, 111, 117, 110, 116]]] a0))
  .no)
def qu_mk (p : Bool) : Res := [(false, [⟨.bool, .sh, TC.b p⟩])]
def qu_c (a0 : BS) : Bool := (qs_c [[TC.s [115, 117, 109]], [TC.s [109, 105, 110]], [TC.s [109, 97, 120]], [TC.s [99, 111, 117, 110, 116]]] a0)
def qu_v (a0 : BS) : Bool := (qs_v [[TC.s [115, 117, 109]], [TC.s [109, 105, 110]], [TC.s [109, 97, 120]], [TC.s [99, 111, 117, 110, 116]]] a0)
theorem qu_l (a0 : BS) : (qu_c a0) = true → (qu_t a0).val = some (qu_v a0) := by
  intro h
  have hc0 : (qs_c [[TC.s [115, 117, 109]], [TC.s [109, 105, 110]], [TC.s [109, 97, 120]], [TC.s [99, 111, 117, 110, 116]]] a0) = true := h
  unfold qu_t
  exact (Tr.t hc0 rfl)
def qu_S : List Arg → Option (Bool × Res) := fun xs => match xs with
  | [(false, [(.str, TC.s a0)])] => some ((qu_c a0), qu_mk (qu_v a0))
  | _ => .none
theorem qu_e (a0 : BS) : runF tab FT D21 live 62 noLoops [(false, [(.str, TC.s a0)])] = (qu_t a0).run fun p => some (qu_mk p) := by kernel_rfl
theorem qu_s : ∀ xs r, qu_S xs = some (true, r) → runF tab FT D21 live 62 noLoops xs = some r := by
  intro xs r h
  unfold qu_S at h
  split at h
  · obtain ⟨h1, rfl⟩ := sp h
    exact fun_told (qu_e _) (qu_l _) h1
  · cases h
def D22 : Dt := also D21 62 qu_S
theorem d22 : DOk Go.Proofs.Try.prog tab D22 := d21.also mixed_ok tab_ok names_ok noLoops_ok qu_s
open Go.RowKit Go.Proofs Go.Maps Go.ChangeShapes Go.WideMaps in
theorem wpList_insert_own {H : Type} {P : Program} (w : World) {ops : Array Oper} {rest : List Oper} {o : Oper} {a : Act} {Q : Exit → Act → World → Prop}
    (hg : o.guard = none) (m x v : Operand) (t : TypeId) (hop : o.op = Op.insert t m x v)
    (k e : TypeId) (K : Keyed P k) (ht : P.underlying t = some (.map k e)) (R : Value → Option (DataW H × List MemPlace)) (b n : Nat) (D : DataW H)
    (hm : a.eval m = .map (some b)) (hown : w.ownsMap P k R b n D) (hn : n < maxLen) (key val : Value) (kl : Lit) (hx : a.eval x = key) (hv : a.eval v = val) (hkey : keyOf P k key = some kl)
    (d : DataW H) (ps : List MemPlace) (hval : R val = some (d, ps))
    (hK : ∀ w', w'.ownsMap P k R b (n + 1) (D.put kl d) → w.grownBy w' (some b) → wpList P ops Q rest (a.put o.dst undef) w') :
    wpList P ops Q (o :: rest) a w := by
  refine wpList_plain hg fun K' hK' => ?_
  obtain ⟨w', hrun, r1, r2⟩ := hown.update K ht hn hkey hval
  unfold Oper.wp
  simp [execOp, hop, hm, hx, hv, hrun, Result.andThen]
  exact hK' _ _ (hK w' r1 r2)

open Go.RowKit Go.Proofs in
theorem isRed_calls {w : World} {s : BS} (hG : intGl tab w) (h : qu_c s = true) : Calls Go.Proofs.Try.prog 62 #[.string ⟨s.toArray⟩] w fun e w' => e = .returned (.bool (qu_v s)) ∧ Below w.heap.size w w' := by
  have h0 := told_calls mixed_ok tab_ok d21 noLoops_ok (qu_s [(false, [(.str, TC.s s)])] (qu_mk (qu_v s)) (by show some (qu_c s, _) = _; rw [h])) (S := fun _ => False) (vals := [.string ⟨s.toArray⟩]) ⟨fun _ h => h.elim, hG⟩ (.cons (arg_one (.str s)) .nil)
  refine h0.2.mono fun e w' he => ?_
  obtain ⟨v, rfl, fq, ⟨h1, _⟩, _, _, hb⟩ := he
  obtain ⟨us, rfl, hc, _⟩ := h1
  obtain ⟨u, us', rfl, hu, hn⟩ : ∃ u us', us = u :: us' ∧ CellRel tab w' (fun b => b < w'.heap.size ∧ (False ∨ w.heap.size ≤ b) ∧ b ∉ fq) ⟨.bool, .sh, TC.b (qu_v s)⟩ u [] ∧ us' = [] := by
    cases hc with
    | cons h1 h2 => cases h2; exact ⟨_, _, rfl, by have := h1; unfold CellRel at this ⊢; exact ⟨this.1, rfl⟩, rfl⟩
  subst hn
  have : u = .bool (qu_v s) := by
    have := hu.1
    cases this; rfl
  subst this
  exact ⟨rfl, hb⟩
open Go.RowKit Go.Proofs in
theorem kids_form {w : World} {S : Nat → Prop} {K : LL} {u : Value} (hr : RepC tab w S (.slice 31) u (.l K)) (hS : ∀ b, S b → b < w.heap.size) :
    ∃ a cap, u = .slice a K.length cap ∧ (K.length = 2 → ∃ ad : Addr, a = some ad ∧ ad.block < w.heap.size ∧ w.cell? ⟨ad.block, ad.off + 5, none⟩ = some (.int .i64 (nth (row K (1 : Int)) 0).int) ∧ w.cell? ⟨ad.block, ad.off + 6, none⟩ = some (.int .i64 (nth (row K (1 : Int)) 1).int)) := by
  cases hr with
  | nil => exact ⟨_, _, rfl, fun h => by cases h⟩
  | slice _ a _ cap us h1 h2 h3 h4 =>
    have ri : ∀ (v : Value) (c : TC), RepC tab w S (.int .i64) v c → v = .int .i64 c.int := fun v c h => by cases h; rfl
    refine ⟨_, _, rfl, fun hl => ⟨a, rfl, hS _ (h3 0 (by rw [hl]; decide)).1, ?_, ?_⟩⟩
    · show w.cell? (a.add 5) = _
      rw [(h3 5 (by rw [hl]; decide)).2]
      exact congrArg some (ri _ _ (h4 5 (by rw [hl]; decide)))
    · show w.cell? (a.add 6) = _
      rw [(h3 6 (by rw [hl]; decide)).2]
      exact congrArg some (ri _ _ (h4 6 (by rw [hl]; decide)))
open Go.RowKit Go.Proofs in
theorem callOk_red {w : World} {S : Nat → Prop} {s : BS} {K : LL} {u : Value} (hG : intGl tab w) (hr : RepC tab w S (.slice 31) u (.l K)) (hS : ∀ b, S b → b < w.heap.size) (hred : qu_c s = true) (hv : qu_v s = true) :
    Calls Go.Proofs.Try.prog 46 #[.string ⟨s.toArray⟩, u] w fun e w' => e = .returned (.bool (redK K)) ∧ Below w.heap.size w w' := by
  obtain ⟨a, cap, rfl, h2⟩ := kids_form hr hS
  have hI := isRed_calls hG hred
  rw [hv] at hI
  clear hr
  by_cases l1 : K.length = 1
  · have e : redK K = true := by unfold redK; rw [l1]; rfl
    rw [l1, e]
    clear h2
    go_enter Go.Proofs.Try.func46, Go.Proofs.Try.ntmps46
    go_wp2_with (go_at_call 62; refine hI.mono ?_; rintro e w1 ⟨rfl, hB⟩)
    clear hI
    go_wp2
    go_ret
    exact ⟨rfl, hB⟩
  · by_cases l2 : K.length = 2
    · obtain ⟨ad, rfl, hb, c5, c6⟩ := h2 l2
      have e : redK K = (((nth (row K (1 : Int)) 0).int == 1) && decide ((nth (row K (1 : Int)) 1).int < 3)) := by unfold redK; rw [l2]; rfl
      rw [l2, e]
      generalize (nth (row K (1 : Int)) 0).int = x at c5 ⊢
      generalize (nth (row K (1 : Int)) 1).int = y at c6 ⊢
      clear h2 e
      cases hx : (x == 1) with
      | false =>
        go_enter Go.Proofs.Try.func46, Go.Proofs.Try.ntmps46
        go_wp2_with (go_at_call 62; refine hI.mono ?_; rintro e w1 ⟨rfl, hB⟩; have d5 := (hB.cell (p := ⟨ad.block, ad.off + 5, none⟩) hb).trans c5; have d6 := (hB.cell (p := ⟨ad.block, ad.off + 6, none⟩) hb).trans c6)
        clear hI
        go_wp2
        go_ret
        exact ⟨rfl, hB⟩
      | true =>
        go_enter Go.Proofs.Try.func46, Go.Proofs.Try.ntmps46
        go_wp2_with (go_at_call 62; refine hI.mono ?_; rintro e w1 ⟨rfl, hB⟩; have d5 := (hB.cell (p := ⟨ad.block, ad.off + 5, none⟩) hb).trans c5; have d6 := (hB.cell (p := ⟨ad.block, ad.off + 6, none⟩) hb).trans c6)
        clear hI
        go_wp2
        go_ret
        exact ⟨rfl, hB⟩
    · have e : redK K = false := by
        unfold redK
        rw [show ((K.length : Int) == 1) = false from by simpa using by omega, show ((K.length : Int) == 2) = false from by simpa using by omega]
        rfl
      rw [e]
      have n1 : ((K.length : Int) == 1) = false := by simpa using by omega
      have n2 : ((K.length : Int) == 2) = false := by simpa using by omega
      clear h2 e
      go_enter Go.Proofs.Try.func46, Go.Proofs.Try.ntmps46
      go_wp2_with (go_at_call 62; refine hI.mono ?_; rintro e w1 ⟨rfl, hB⟩)
      clear hI
      go_wp2
      go_ret
      exact ⟨rfl, hB⟩
open Go.RowKit Go.Proofs Go.Maps Go.ChangeShapes Go.WideMaps in
theorem args_map (s : BS) :
    Maps.has (((((DataW.map ([] : List (Lit × DataW Unit))).put (.string [97, 98, 115]) (.lit (.int .i64 1))).put (.string [116, 114, 97, 110, 115, 112, 111, 115, 101]) (.lit (.int .i64 1))).put (.string [105, 111, 116, 97]) (.lit (.int .i64 1))).put (.string [109, 97, 116, 109, 117, 108]) (.lit (.int .i64 2)) |>.put (.string [119, 104, 101, 114, 101]) (.lit (.int .i64 3))) (.string s) = !(argN s == 0) ∧
    (((((DataW.map ([] : List (Lit × DataW Unit))).put (.string [97, 98, 115]) (.lit (.int .i64 1))).put (.string [116, 114, 97, 110, 115, 112, 111, 115, 101]) (.lit (.int .i64 1))).put (.string [105, 111, 116, 97]) (.lit (.int .i64 1))).put (.string [109, 97, 116, 109, 117, 108]) (.lit (.int .i64 2)) |>.put (.string [119, 104, 101, 114, 101]) (.lit (.int .i64 3))).atKey (.string s) (.lit (.int .i64 0)) = .lit (.int .i64 (argN s)) := by
  have ne : ∀ {a b : BS}, a ≠ b → (Lit.string a) ≠ .string b := fun h e => h (by cases e; rfl)
  have hm : ∀ l : BS, WideAt.IsKeyLit (.string l) := fun l => trivial
  have hD := isMap_empty (H := Unit)
  unfold argN
  by_cases h5 : s = [119, 104, 101, 114, 101]
  · subst h5
    exact ⟨(has_put_same ((((hD.put _ _).put _ _).put _ _).put _ _) (hm _) _).trans rfl, (atKey_put_same ((((hD.put _ _).put _ _).put _ _).put _ _) (hm _) _ _).trans rfl⟩
  rw [has_put_other (ne h5), atKey_put_other (ne h5)]
  by_cases h4 : s = [109, 97, 116, 109, 117, 108]
  · subst h4
    exact ⟨(has_put_same (((hD.put _ _).put _ _).put _ _) (hm _) _).trans rfl, (atKey_put_same (((hD.put _ _).put _ _).put _ _) (hm _) _ _).trans rfl⟩
  rw [has_put_other (ne h4), atKey_put_other (ne h4)]
  by_cases h3 : s = [105, 111, 116, 97]
  · subst h3
    exact ⟨(has_put_same ((hD.put _ _).put _ _) (hm _) _).trans rfl, (atKey_put_same ((hD.put _ _).put _ _) (hm _) _ _).trans rfl⟩
  rw [has_put_other (ne h3), atKey_put_other (ne h3)]
  by_cases h2 : s = [116, 114, 97, 110, 115, 112, 111, 115, 101]
  · subst h2
    exact ⟨(has_put_same (hD.put _ _) (hm _) _).trans rfl, (atKey_put_same (hD.put _ _) (hm _) _ _).trans rfl⟩
  rw [has_put_other (ne h2), atKey_put_other (ne h2)]
  by_cases h1 : s = [97, 98, 115]
  · subst h1
    exact ⟨(has_put_same hD (hm _) _).trans rfl, (atKey_put_same hD (hm _) _ _).trans rfl⟩
  rw [has_put_other (ne h1), atKey_put_other (ne h1)]
  have b1 : (s == [97, 98, 115]) = false := by simpa using h1
  have b2 : (s == [116, 114, 97, 110, 115, 112, 111, 115, 101]) = false := by simpa using h2
  have b3 : (s == [105, 111, 116, 97]) = false := by simpa using h3
  have b4 : (s == [109, 97, 116, 109, 117, 108]) = false := by simpa using h4
  have b5 : (s == [119, 104, 101, 114, 101]) = false := by simpa using h5
  rw [b1, b2, b3, b4, b5]
  exact ⟨rfl, rfl⟩
open Go.RowKit Go.Proofs Go.Maps Go.ChangeShapes Go.WideMaps in
theorem callOk_map {w : World} {S : Nat → Prop} {s : BS} {K : LL} {u : Value} (hG : intGl tab w) (hr : RepC tab w S (.slice 31) u (.l K)) (hS : ∀ b, S b → b < w.heap.size) (hl : s.length ≤ 140737488351232) (hred : qu_c s = true) (hv : qu_v s = false) :
    Calls Go.Proofs.Try.prog 46 #[.string ⟨s.toArray⟩, u] w fun e w' => e = .returned (.bool (mapK s K)) ∧ Below w.heap.size w w' := by
  obtain ⟨a, cap, rfl, -⟩ := kids_form hr hS
  have hI := isRed_calls hG hred
  rw [hv] at hI
  clear hr
  have hmm := @run_makeMap Go.Proofs.Try.prog
  have law : Keyed Go.Proofs.Try.prog 9 := string_keyed Go.Proofs.Try.underlying9
  have zero3 : ∀ w, (zeroValue 3).run Go.Proofs.Try.prog w = .ok (.int .i64 0) w := fun w => by kernel_rfl
  have hkey : ∀ l : BS, l.length ≤ 140737488351232 → keyOf Go.Proofs.Try.prog 9 (.string ⟨l.toArray⟩) = some (.string l) := fun l hl => keyOf_string_mk Go.Proofs.Try.underlying9 (by show l.length ≤ maxLen; unfold maxLen; omega)
  have hm5 := args_map s
  cases hz : (argN s == 0) with
  | true =>
    rw [hz] at hm5
    have e : mapK s K = false := by unfold mapK; rw [hz]; rfl
    rw [e]
    go_enter Go.Proofs.Try.func46, Go.Proofs.Try.ntmps46
    go_wp2_with (first
      | (go_at_call 62; refine hI.mono ?_; rintro e w1 ⟨rfl, hB⟩; have hown := World.ownsMap_made (H := Unit) w1 Go.Proofs.Try.prog 9 (plainElem Go.Proofs.Try.prog 3); have hB2 := hB.alloc hB.size (.map #[] 0))
      | (refine wpList_insert_own _ rfl _ _ _ 91 rfl 9 3 law Go.Proofs.Try.underlying91 _ w1.heap.size _ _ rfl hown (by unfold maxLen; omega) _ _ _ rfl rfl (hkey _ (by decide)) _ [] (plainElem_int Go.Proofs.Try.underlying3 (by decide)) ?_; intro w2 hown2 hgrow2; have hown := hown2; have hB2 := hB2.grown hgrow2 hB2.size (fun j hj => by cases hj; exact hB.size); clear hown2 hgrow2)
      | (refine wpList_lookup_own_ok_int _ rfl _ _ 91 rfl 9 3 .i64 law Go.Proofs.Try.underlying91 Go.Proofs.Try.underlying3 (zero3 _) w1.heap.size _ _ rfl hown _ _ rfl (hkey s hl) ?_; intro c hat hwc; rw [hm5.1]))
    go_ret
    exact ⟨rfl, hB2⟩
  | false =>
    rw [hz] at hm5
    have e : mapK s K = ((K.length : Int) == argN s) := by unfold mapK; rw [hz]; rfl
    rw [e]
    go_enter Go.Proofs.Try.func46, Go.Proofs.Try.ntmps46
    go_wp2_with (first
      | (go_at_call 62; refine hI.mono ?_; rintro e w1 ⟨rfl, hB⟩; have hown := World.ownsMap_made (H := Unit) w1 Go.Proofs.Try.prog 9 (plainElem Go.Proofs.Try.prog 3); have hB2 := hB.alloc hB.size (.map #[] 0))
      | (refine wpList_insert_own _ rfl _ _ _ 91 rfl 9 3 law Go.Proofs.Try.underlying91 _ w1.heap.size _ _ rfl hown (by unfold maxLen; omega) _ _ _ rfl rfl (hkey _ (by decide)) _ [] (plainElem_int Go.Proofs.Try.underlying3 (by decide)) ?_; intro w2 hown2 hgrow2; have hown := hown2; have hB2 := hB2.grown hgrow2 hB2.size (fun j hj => by cases hj; exact hB.size); clear hown2 hgrow2)
      | (refine wpList_lookup_own_ok_int _ rfl _ _ 91 rfl 9 3 .i64 law Go.Proofs.Try.underlying91 Go.Proofs.Try.underlying3 (zero3 _) w1.heap.size _ _ rfl hown _ _ rfl (hkey s hl) ?_; intro c hat hwc; rw [hm5.1]; rw [hm5.2] at hat; obtain rfl : argN s = c := (by injection hat with hat; injection hat)))
    go_ret
    exact ⟨rfl, hB2⟩
open Go.RowKit Go.Proofs in
theorem callOk_calls {w : World} {S : Nat → Prop} {s : BS} {K : LL} {u : Value} (hG : intGl tab w) (hr : RepC tab w S (.slice 31) u (.l K)) (hS : ∀ b, S b → b < w.heap.size) (hl : s.length ≤ 140737488351232) (hred : qu_c s = true) :
    Calls Go.Proofs.Try.prog 46 #[.string ⟨s.toArray⟩, u] w fun e w' => e = .returned (.bool (bif qu_v s then redK K else mapK s K)) ∧ Below w.heap.size w w' := by
  cases hv : qu_v s with
  | true => exact callOk_red hG hr hS hred hv
  | false => exact callOk_map hG hr hS hl hred hv

def qbh_c (s : BS) (K : LL) : Bool := is (Typed tab (.slice 31) (.l K) ∧ s.length ≤ 140737488351232 ∧ qu_c s = true)
def qbh_v (s : BS) (K : LL) : Bool := bif qu_v s then redK K else mapK s K
def qbh_mk (p : Bool) : Res := [(false, [⟨.bool, .sh, TC.b p⟩])]
def qbh_S : List Arg → Option (Bool × Res) := fun xs => match xs with
  | [(false, [(.str, TC.s s)]), (false, [(.slice 31, TC.l K)])] => some ((qbh_c s K), qbh_mk (qbh_v s K))
  | _ => .none
def D23 : Dt := also D22 46 qbh_S
theorem d23 : DOk Go.Proofs.Try.prog tab D23 := d22.alsoC names_ok (c := _) Go.Proofs.Try.func46 rfl (by
  intro xs r h w S hargs0 hS hG hargs
  unfold qbh_S at h
  split at h
  · rename_i s K
    obtain ⟨h1, rfl⟩ := sp h
    obtain ⟨h2, h3, h4⟩ := is_iff.1 h1
    obtain ⟨u, us, rfl, ha, hr⟩ := args_cons hargs
    obtain ⟨u2, us2, rfl, hb, hr2⟩ := args_cons hr
    cases args_nil hr2
    cases rep_str' (arg_rep ha)
    refine (callOk_calls hG (arg_rep hb) hS h3 h4).mono ?_
    rintro e w' ⟨rfl, hB⟩
    exact ⟨_, rfl, plain_flat rfl (.bool _) hB⟩
  · cases h)
def qbe_t (a0 a1 : Int) (a2 : Bool) : Tr (Bool) := (.ite ((!(qy_v a0 (0 : Int) (40 : Int))) = true) (.ok false)
  (.ite (a2 = true) (.ok (a1 == (0 : Int)))
   (.ite ((a1 == (-1 : Int)) = true) (.ok true)
    (.ok (qy_v a1 a0 (40 : Int))))))
def qbe_mk (p : Bool) : Res := [(false, [⟨.bool, .sh, TC.b p⟩])]
def qbe_c (a0 a1 : Int) (a2 : Bool) : Bool := true
def qbe_v (a0 a1 : Int) (a2 : Bool) : Bool := (bif (!(qy_v a0 (0 : Int) (40 : Int))) then false else (bif a2 then (a1 == (0 : Int)) else (bif (a1 == (-1 : Int)) then true else (qy_v a1 a0 (40 : Int)))))
theorem qbe_l (a0 a1 : Int) (a2 : Bool) : (qbe_c a0 a1 a2) = true → (qbe_t a0 a1 a2).val = some (qbe_v a0 a1 a2) := by
  intro h
  skip
  unfold qbe_t qbe_v
  exact (Tr.s rfl (Tr.s rfl (Tr.s rfl rfl)))
def qbe_S : List Arg → Option (Bool × Res) := fun xs => match xs with
  | [(true, [(.int .i64, TC.i a0), (.int .i64, TC.i a1), (.bool, TC.b a2)])] => some (true, qbe_mk (qbe_v a0 a1 a2))
  | _ => .none
theorem qbe_e (a0 a1 : Int) (a2 : Bool) : runF tab FT D23 live 49 noLoops [(true, [(.int .i64, TC.i a0), (.int .i64, TC.i a1), (.bool, TC.b a2)])] = (qbe_t a0 a1 a2).run fun p => some (qbe_mk p) := by kernel_rfl
theorem qbe_s : ∀ xs r, qbe_S xs = some (true, r) → runF tab FT D23 live 49 noLoops xs = some r := by
  intro xs r h
  unfold qbe_S at h
  split at h
  · obtain ⟨h1, rfl⟩ := sp h
    exact fun_told (qbe_e ..) (qbe_l _ _ _) rfl
  · cases h
def D24 : Dt := also D23 49 qbe_S
theorem d24 : DOk Go.Proofs.Try.prog tab D24 := d23.also mixed_ok tab_ok names_ok noLoops_ok qbe_s
def qv_t (a0 a1 : Int) (a2 : Bool) : Tr (Bool) := .ok (!(qbe_v a0 a1 a2))
def qv_mk (p : Bool) : Res := [(false, [⟨.bool, .sh, TC.b p⟩])]
def qv_c (a0 a1 : Int) (a2 : Bool) : Bool := true
def qv_v (a0 a1 : Int) (a2 : Bool) : Bool := (!(qbe_v a0 a1 a2))
theorem qv_l (a0 a1 : Int) (a2 : Bool) : (qv_c a0 a1 a2) = true → (qv_t a0 a1 a2).val = some (qv_v a0 a1 a2) := by
  intro h
  skip
  unfold qv_t qv_v
  exact rfl
def qv_S : List Arg → Option (Bool × Res) := fun xs => match xs with
  | [(true, [(.int .i64, TC.i a0), (.int .i64, TC.i a1), (.bool, TC.b a2)])] => some (true, qv_mk (qv_v a0 a1 a2))
  | _ => .none
theorem qv_e (a0 a1 : Int) (a2 : Bool) : runF tab FT D24 live 48 noLoops [(true, [(.int .i64, TC.i a0), (.int .i64, TC.i a1), (.bool, TC.b a2)])] = (qv_t a0 a1 a2).run fun p => some (qv_mk p) := by kernel_rfl
theorem qv_s : ∀ xs r, qv_S xs = some (true, r) → runF tab FT D24 live 48 noLoops xs = some r := by
  intro xs r h
  unfold qv_S at h
  split at h
  · obtain ⟨h1, rfl⟩ := sp h
    exact fun_told (qv_e ..) (qv_l _ _ _) rfl
  · cases h
def D25 : Dt := also D24 48 qv_S
theorem d25 : DOk Go.Proofs.Try.prog tab D25 := d24.also mixed_ok tab_ok names_ok noLoops_ok qv_s
abbrev qa_2_σ := LL × Int × Int
abbrev qa_2_ω := (Int) ⊕ (Unit)
def qa_2_step (A : LL) (m i : Int) : Tr (qa_2_σ ⊕ qa_2_ω) := (.ite ((decide (i < m)) = true) (.ite ((0 : Int) ≤ i ∧ i < (A.length : Int)) (.ite ((qv_v ((nth (row A i) 0).int) ((nth (row A i) 1).int) ((nth (row A i) 2).bool)) = true) (.ok (.inr (.inl i)))
    (.ok (.inl (A, m, (IntKind.wrap .i64 (i + (1 : Int)))))))
   .no)
  (.ok (.inr (.inr ()))))
def qa_2_st : qa_2_σ → Tr (qa_2_σ ⊕ qa_2_ω) := fun x => (qa_2_step (x.1) (x.2.1) (x.2.2))
def qa_k2_1 (A : LL) (m i : Int) : Bool := A.all (fun x => !(qv_v ((nth x 0).int) ((nth x 1).int) ((nth x 2).bool)))
def qa_o2_2 (A : LL) (m i : Int) : Bool := is (i = 0 ∧ Typed tab (.slice 59) (.l A) ∧ m = (A.length : Int))
def qa_o2_3 (A : LL) (m i : Int) : Bool := is (i = 0 ∧ Typed tab (.slice 59) (.l A) ∧ m = (A.length : Int))
def qa_u2_3 (A : LL) (m i : Int) : Int := (Int.ofNat (A.findIdx fun x => !(fun x => !(qv_v ((nth x 0).int) ((nth x 1).int) ((nth x 2).bool))) x))
def qa_2_fin (A : LL) (m i : Int) : Told qa_2_ω := (.br (qa_k2_1 A m i) (.leaf (qa_o2_2 A m i) (.inr ())) (.leaf (qa_o2_3 A m i) (.inl (qa_u2_3 A m i))))
def qa_2_sl (x : qa_2_σ) : List Slot := [⟨.val false [⟨.slice 59, .sh, TC.l (x.1)⟩], ⟨0, 0⟩⟩, ⟨.val false [⟨.func, .sh, TC.f 48 []⟩], ⟨0, 0⟩⟩, ⟨.val false [⟨.int .i64, .sh, TC.i (x.2.1)⟩], ⟨0, 0⟩⟩, ⟨.val false [⟨.int .i64, .sh, TC.i (x.2.2)⟩], ⟨0, 0⟩⟩]
def qa_2_out : qa_2_ω → Ex × List Slot := (Sum.elim (fun x => (.ret, [⟨.val false [⟨.int .i64, .sh, TC.i x⟩], ⟨0, 0⟩⟩])) (fun x => (.exit 0, [Slot.none])))
def qa_lo2 : List Slot → Option (Told (Ex × List Slot)) := fun s => match s with
  | [⟨.val false [⟨.slice 59, .sh, TC.l A⟩], ⟨0, 0⟩⟩, ⟨.val false [⟨.func, .sh, TC.f 48 []⟩], ⟨0, 0⟩⟩, ⟨.val false [⟨.int .i64, .sh, TC.i m⟩], ⟨0, 0⟩⟩, ⟨.val false [⟨.int .i64, .sh, TC.i i⟩], ⟨0, 0⟩⟩] => some (((qa_2_fin A m i)).map qa_2_out)
  | _ => .none
def qa_lo : LoopTeller := fun r s => bif Nat.beq r 2 then qa_lo2 s else .none
theorem qa_2_r (A : LL) (m i : Int) (fuel : Nat) : rounds (rnd tab FT D25 live 63 qa_lo 0 2) leave (fuel + 1) (qa_2_sl (A, m, i)) = ((qa_2_step A m i)).run (goOn (fun s => rounds (rnd tab FT D25 live 63 qa_lo 0 2) leave fuel (qa_2_sl s)) fun w => some (qa_2_out w)) := by kernel_rfl
theorem qa_2_h (A : LL) (m i : Int) (ow : qa_2_ω) : ((qa_2_fin A m i)).val = some ow → ∃ fuel, loopN qa_2_st fuel (A, m, i) = some ow := by
  intro h
  have key : Typed tab (.slice 59) (.l A) → loopN qa_2_st (A.length + 1) (A, (A.length : Int), (0 : Int)) = some (if A.all (fun x => !(qv_v ((nth x 0).int) ((nth x 1).int) ((nth x 2).bool))) = true then (.inr ()) else (.inl (Int.ofNat (A.findIdx fun x => !(fun x => !(qv_v ((nth x 0).int) ((nth x 1).int) ((nth x 2).bool))) x)))) := by
    intro ht
    have hlen : A.length ≤ 140737488351232 := by have := typed_room ht; simp only [show (tab 59).bytes = 24 from rfl] at this; omega
    have key := loopN_scan (step := qa_2_st) A [] (fun x => !(qv_v ((nth x 0).int) ((nth x 1).int) ((nth x 2).bool))) (fun a _ => a) (fun i a => (A, (A.length : Int), (i : Int))) (fun a => (.inr ())) (fun i a => (.inl (i : Int))) (fun i a hi => ?_) (fun a => ?_) A.length 0 () (by omega)
    · first | (rw [Nat.zero_add] at key; exact key) | exact key
    · skip
      show (qa_2_step A (A.length : Int) (i : Int)).val = _
      unfold qa_2_step
      refine Tr.t (by simp; omega) ?_
      skip
      refine Tr.t (by first | omega | (constructor <;> omega)) ?_
      refine Tr.b2 (fun hP => ?_) (fun _ => rfl)
      rw [Tr.val_ok, wrap64 (i := (i : Int) + 1) (by omega) (by omega)]; rfl
    · show (qa_2_step A (A.length : Int) (A.length : Int)).val = _
      refine Tr.n (by simp) ?_
      rfl
  simp only [qa_2_fin, Told.val] at h
  cases hk : A.all (fun x => !(qv_v ((nth x 0).int) ((nth x 1).int) ((nth x 2).bool))) with
  | true =>
    rw [if_pos (show qa_k2_1 A m i = true from hk)] at h
    split at h
    · rename_i ho
      obtain ⟨rfl, ht, rfl⟩ := is_iff.1 ho
      cases h
      refine ⟨_, (key ht).trans ?_⟩
      rw [hk]; rfl
    · cases h
  | false =>
    rw [if_neg (show ¬qa_k2_1 A m i = true from by rw [show qa_k2_1 A m i = (A.all (fun x => !(qv_v ((nth x 0).int) ((nth x 1).int) ((nth x 2).bool)))) from rfl, hk]; simp)] at h
    split at h
    · rename_i ho
      obtain ⟨rfl, ht, rfl⟩ := is_iff.1 ho
      cases h
      refine ⟨_, (key ht).trans ?_⟩
      rw [hk]; rfl
    · cases h
end
end
end
end
end Go.Proofs.Ytabdjbkbfilhkaa.V
