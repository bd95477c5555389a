/- What the functions of FnExactEncodeMapping answer. No condition. -/
import Derived.Test.YtjhbfeeaehaniaaDoorVFacts
namespace Go.Proofs.YtjhbfeeaehaniaaDoor.V
open Go
set_option maxRecDepth 100000
set_option linter.unusedVariables false
set_option linter.unusedSectionVars false
set_option linter.unusedSimpArgs false
set_option maxHeartbeats 2000000
noncomputable section
abbrev LL := List (List TC)
abbrev BS := List UInt8
theorem sp {α β : Type} {a b : α} {c d : β} (h : some (a, c) = some (b, d)) : a = b ∧ c = d := by cases h; exact ⟨rfl, rfl⟩
def isoL : List (Nat × Nat) := [(25, 32), (27, 34), (56, 62), (32, 25), (34, 27), (62, 56)]
theorem iso_ok : isoOk tab isoL = true := by kernel_rfl
def letterB (c : Int) : Bool := (decide (c ≥ 65) && decide (c ≤ 90)) || (decide (c ≥ 97) && decide (c ≤ 122))
def nameB (i c : Int) : Bool := letterB c || (!(i == 0) && ((decide (c ≥ 48) && decide (c ≤ 57)) || c == 95))
def nameOk (s : BS) : Bool := decide ((s.length : Int) ≥ 1) && decide ((s.length : Int) ≤ 12) && allI (fun i : Nat => nameB (i : Int) ((s.getD ((i : Int)).toNat 0).toNat : Int)) s.length
theorem dlt {a b : Int} : decide (a < b) = !decide (a ≥ b) := by rw [← decide_not]; simp
theorem dgt {a b : Int} : decide (a > b) = !decide (a ≤ b) := by rw [← decide_not]; simp
def hdl (p : BS) : List (BS) → List (BS)
  | [] => [p]
  | x :: y => (p ++ x) :: y
def pcs : BS → List (BS)
  | [] => [[]]
  | b :: l => bif b == 47 then [] :: pcs l else hdl [b] (pcs l)
theorem hdl_ne {p : BS} {L : List (BS)} : hdl p L ≠ [] := by cases L <;> simp [hdl]
theorem pcs_cons (b : UInt8) (l : BS) : pcs (b :: l) = bif b == 47 then [] :: pcs l else hdl [b] (pcs l) := rfl
theorem pcs_ne (l : BS) : pcs l ≠ [] := by
  cases l with
  | nil => simp [pcs]
  | cons b l =>
    unfold pcs
    cases b == 47
    · exact hdl_ne
    · simp
theorem hdl_hdl {p q : BS} {L : List (BS)} : hdl p (hdl q L) = hdl (p ++ q) L := by cases L <;> simp [hdl]
theorem hdl_nil {L : List (BS)} (h : L ≠ []) : hdl [] L = L := by
  cases L with
  | nil => exact absurd rfl h
  | cons => rfl
theorem index_cons47 (b : UInt8) (l : BS) : Lib.index (b :: l) [47] = if b == 47 then 0 else if Lib.index l [47] == -1 then -1 else Lib.index l [47] + 1 := by
  conv => lhs; unfold Lib.index
  have e : ([47].isPrefixOf (b :: l)) = (b == 47) := by
    simp [List.isPrefixOf, Bool.beq_comm]
  rw [e]
theorem split_pcs : ∀ t : BS, Lib.split t [47] = pcs t
  | [] => rfl
  | b :: l => by
    have ih := split_pcs l
    have hi := index_cons47 b l
    unfold pcs
    rw [← ih]
    cases hb : b == 47 with
    | true =>
      rw [hb, if_pos rfl] at hi
      have hc := Lib.count_hit (i := 0) (sub := [47]) (by simp) hi
      unfold Lib.split
      rw [hc, Nat.add_comm 1, Lib.splitK, if_neg (by rw [hi]; decide), hi]
      rfl
    | false =>
      rw [hb, if_neg (by simp)] at hi
      by_cases hn : Lib.index l [47] = -1
      · rw [if_pos (by rw [hn]; rfl)] at hi
        unfold Lib.split
        rw [Lib.count_miss hi, Lib.count_miss hn]
        rfl
      · have hg := Lib.index_ge l [47]
        obtain ⟨i, hl⟩ : ∃ i : Nat, Lib.index l [47] = i := ⟨(Lib.index l [47]).toNat, by omega⟩
        rw [if_neg (by simpa using hn), hl] at hi
        have hi' : Lib.index (b :: l) [47] = ((i + 1 : Nat) : Int) := by rw [hi]; omega
        have c1 := Lib.count_hit (sub := [47]) (by simp) hi'
        have c2 := Lib.count_hit (sub := [47]) (by simp) hl
        have e : (b :: l).drop (i + 1 + ([47] : BS).length) = l.drop (i + ([47] : BS).length) := by
          show (b :: l).drop (i + 1 + 1) = l.drop (i + 1)
          rfl
        unfold Lib.split
        rw [c1, e, c2, Nat.add_comm 1, Lib.splitK, Lib.splitK, if_neg (by rw [hi']; intro h; have := eq_of_beq h; omega), if_neg (by rw [hl]; intro h; have := eq_of_beq h; omega), hi', hl, Int.toNat_natCast, Int.toNat_natCast, e]
        rfl
def rowsS (L : List (BS)) : LL := L.map fun x => [TC.s x]
theorem splL_slash (t : BS) : splL t [47] = rowsS (pcs t) := by unfold splL; rw [split_pcs]; rfl
def piece (s : BS) (f i : Nat) : BS := (s.take i).drop f
theorem piece_snoc {s : BS} {f i : Nat} (hf : f ≤ i) (hi : i < s.length) : piece s f (i + 1) = piece s f i ++ [s[i]] := by
  unfold piece
  rw [List.take_succ_eq_append_getElem hi, List.drop_append_of_le_length (by rw [List.length_take]; omega)]
theorem piece_self {s : BS} {i : Nat} : piece s i i = [] := by
  unfold piece
  exact List.drop_eq_nil_of_le (by rw [List.length_take]; omega)
theorem loopN_pieces {ω : Type} (s : BS) (y : LL → ω) (z : LL → ω) {step : (BS × LL × Int × Int) → Tr ((BS × LL × Int × Int) ⊕ ω)}
    (h1 : ∀ (f i : Nat) (o : LL) (hi : i < s.length), s[i] ≠ 47 → (step (s, o, (f : Int), (i : Int))).val = some (.inl (s, o, (f : Int), ((i + 1 : Nat) : Int))))
    (h2 : ∀ (f i : Nat) (o : LL), f ≤ i → i ≤ s.length → o.length ≤ i → (∀ hi : i < s.length, s[i] = 47) → nameOk (piece s f i) = true → (step (s, o, (f : Int), (i : Int))).val = some (.inl (s, o ++ [[TC.s (piece s f i)]], ((i + 1 : Nat) : Int), ((i + 1 : Nat) : Int))))
    (h3 : ∀ (f i : Nat) (o : LL), f ≤ i → i ≤ s.length → (∀ hi : i < s.length, s[i] = 47) → nameOk (piece s f i) = false → (step (s, o, (f : Int), (i : Int))).val = some (.inr (z o)))
    (h4 : ∀ (f : Nat) (o : LL), (step (s, o, (f : Int), ((s.length + 1 : Nat) : Int))).val = some (.inr (y o))) :
    ∀ (m f i : Nat) (o : LL), f ≤ i → i + m = s.length → o.length ≤ i → ∃ M, loopN step M (s, o, (f : Int), (i : Int)) = some (bif (hdl (piece s f i) (pcs (s.drop i))).all nameOk then y (o ++ rowsS (hdl (piece s f i) (pcs (s.drop i)))) else z (o ++ rowsS ((hdl (piece s f i) (pcs (s.drop i))).takeWhile nameOk)))
  | 0, f, i, o, hf, hm, ho => by
    have e0 : s.drop i = [] := List.drop_eq_nil_of_le (by omega)
    have e1 : hdl (piece s f i) (pcs (s.drop i)) = [piece s f i] := by rw [e0]; simp [pcs, hdl]
    rw [e1]
    cases hk : nameOk (piece s f i) with
    | true =>
      refine ⟨2, ?_⟩
      have a := h2 f i o hf (by omega) ho (fun hi => absurd hi (by omega)) hk
      rw [loopN_next a, show i + 1 = s.length + 1 by omega, loopN_end (h4 _ _)]
      simp [hk, rowsS]
    | false =>
      refine ⟨1, ?_⟩
      rw [loopN_end (h3 f i o hf (by omega) (fun hi => absurd hi (by omega)) hk)]
      simp [hk, rowsS]
  | m + 1, f, i, o, hf, hm, ho => by
    have hi : i < s.length := by omega
    have e0 : s.drop i = s[i] :: s.drop (i + 1) := List.drop_eq_getElem_cons hi
    by_cases hc : s[i] = 47
    · have e1 : hdl (piece s f i) (pcs (s.drop i)) = piece s f i :: pcs (s.drop (i + 1)) := by
        rw [e0, pcs_cons, hc]
        simp [hdl]
      rw [e1]
      cases hk : nameOk (piece s f i) with
      | true =>
        obtain ⟨M, ih⟩ := loopN_pieces s y z h1 h2 h3 h4 m (i + 1) (i + 1) (o ++ [[TC.s (piece s f i)]]) (Nat.le_refl _) (by omega) (by simp; omega)
        refine ⟨M + 1, ?_⟩
        rw [loopN_next (h2 f i o hf (by omega) ho (fun _ => hc) hk), ih, piece_self, hdl_nil (pcs_ne _)]
        simp [hk, rowsS]
      | false =>
        refine ⟨1, ?_⟩
        rw [loopN_end (h3 f i o hf (by omega) (fun _ => hc) hk)]
        simp [hk, rowsS]
    · have e1 : hdl (piece s f i) (pcs (s.drop i)) = hdl (piece s f (i + 1)) (pcs (s.drop (i + 1))) := by
        rw [e0, pcs_cons, show (s[i] == 47) = false from by simpa using hc]
        show hdl _ (hdl _ _) = _
        rw [hdl_hdl, piece_snoc hf hi]
      rw [e1]
      obtain ⟨M, ih⟩ := loopN_pieces s y z h1 h2 h3 h4 m f (i + 1) o (by omega) (by omega) (by omega)
      exact ⟨M + 1, (loopN_next (h1 f i o hi hc)).trans ih⟩
def pathB (s : BS) : Bool := !(s == []) && (s.getD 0 0 == 47) && ((s == [47]) || ((pcs (s.drop 1)).all nameOk && decide ((pcs (s.drop 1)).length ≤ 6)))
def pathV (s : BS) : LL := bif pathB s && !(s == [47]) then rowsS (pcs (s.drop 1)) else []
theorem lenI {a b : Nat} : ((a : Int) == (b : Int)) = (a == b) := by rw [Bool.eq_iff_iff]; simp only [beq_iff_eq]; omega
theorem gt3 {a : Nat} : decide ((a : Int) > 3) = !decide (a ≤ 3) := by rw [← decide_not]; exact decide_eq_decide.2 (by omega)
theorem gt0 {a : Nat} : decide ((a : Int) > 0) = !decide (a = 0) := by rw [← decide_not]; exact decide_eq_decide.2 (by omega)
theorem eq0 {a : Nat} : ((a : Int) == (0 : Int)) = decide (a = 0) := by rw [Bool.eq_iff_iff]; simp only [beq_iff_eq, decide_eq_true_eq]; omega
def inZ (a b c : Int) : Bool := bif decide (a ≥ b) then decide (a ≤ c) else false
def endZ (a s c b : Int) : Int := IntKind.wrap .i64 ((IntKind.wrap .i64 (a + (IntKind.wrap .i64 ((IntKind.wrap .i64 (c - (1 : Int))) * s)))) + b)
def kAt (A : LL) (i : Int) : Int := (nth (row A i) 0).int
def slabP (A S C B : LL) (i : Int) : Bool := inZ (kAt A i) 0 40 && (inZ (kAt C i) 1 40 && (inZ (kAt B i) 1 40 && (inZ (kAt S i) (kAt B i) 40 && !(decide (endZ (kAt A i) (kAt S i) (kAt C i) (kAt B i) > 40)))))
def slabAll (A S C B : LL) : Bool := allI (fun i : Nat => slabP A S C B (i : Int)) A.length
def slabV (A S C B : LL) : Bool := decide (A.length ≤ 3) && ((S.length == A.length) && ((C.length == A.length) && ((B.length == A.length) && slabAll A S C B)))
def pAt (P : LL) (i : Int) : LL := (nth (row P i) 0).list
def atB (X : LL) : Bool := allI (fun t : Nat => inZ (kAt X (t : Int)) 0 39) X.length
def ptB (r : Nat) (x : List TC) : Bool := ((nth x 0).list.length == r) && atB (nth x 0).list
def ptS (P : LL) (i : Int) : Bool := ((pAt P i).length == (pAt P 0).length) && (decide ((pAt P i).length ≤ 3) && atB (pAt P i))
def ptsV (P : LL) : Bool := (decide (1 ≤ P.length) && decide (P.length ≤ 24)) && (decide ((pAt P 0).length ≤ 3) && P.all (ptB (pAt P 0).length))
theorem ptsV_eq {P : LL} (h : 1 ≤ P.length) : allI (fun i : Nat => ptS P (i : Int)) P.length = (decide ((pAt P 0).length ≤ 3) && P.all (ptB (pAt P 0).length)) := by
  rw [← allI_rows, Bool.eq_iff_iff, Bool.and_eq_true, allI_iff, allI_iff]
  have hs : ∀ i, ptS P i = true ↔ ((pAt P i).length = (pAt P 0).length ∧ (pAt P i).length ≤ 3 ∧ atB (pAt P i) = true) := fun i => by
    unfold ptS
    rw [Bool.and_eq_true, Bool.and_eq_true, beq_iff_eq, decide_eq_true_eq]
  have hb : ∀ i, ptB (pAt P 0).length (row P i) = true ↔ ((pAt P i).length = (pAt P 0).length ∧ atB (pAt P i) = true) := fun i => by
    unfold ptB
    rw [Bool.and_eq_true, beq_iff_eq]
    rfl
  constructor
  · intro hh
    refine ⟨decide_eq_true ?_, fun i hi => (hb _).2 ?_⟩
    · have := (hs _).1 (hh 0 h)
      exact this.2.1
    · have := (hs _).1 (hh i hi)
      exact ⟨this.1, this.2.2⟩
  · rintro ⟨h3, hh⟩ i hi
    have := (hb _).1 (hh i hi)
    have h3 := of_decide_eq_true h3
    exact (hs _).2 ⟨this.1, by omega, this.2⟩
theorem byte1 (n : Int) : [[TC.i (IntKind.wrap .u8 n)]].map byteOf = bytesL n 1 := by
  show _ = [byteOf (bAt n 0)]
  unfold bAt
  rw [show Int.fdiv n (2 ^ (8 * 0)) = n from by simp]
  rfl
def g8 (x : List TC) : List TC := [TC.i (IntKind.wrap .u8 (nth x 0).int)]
def numBy (A : LL) : BS := (A.map g8).map byteOf
theorem numBy_len {A : LL} : (numBy A).length = A.length := by simp [numBy]
theorem numBy_app {A B : LL} : numBy (A ++ B) = numBy A ++ numBy B := by simp [numBy]
theorem numBy_one {n : Int} : numBy [[TC.i n]] = bytesL n 1 := byte1 n
theorem numBy_x {x : List TC} : numBy [x] = bytesL (nth x 0).int 1 := byte1 _
def allBy (X : LL) : BS := X.flatMap fun x => numBy (nth x 0).list
def At3 (P : LL) : Prop := ∀ x, x ∈ P → (nth x 0).list.length ≤ 3
theorem allBy_len : ∀ {X : LL}, At3 X → (allBy X).length ≤ 3 * X.length
  | [], _ => Nat.le_refl _
  | x :: X, h => by
    have h1 := allBy_len (X := X) fun y hy => h y (List.mem_cons_of_mem _ hy)
    have h2 := h x List.mem_cons_self
    show (numBy (nth x 0).list ++ allBy X).length ≤ _
    rw [List.length_append, numBy_len, List.length_cons]
    omega
theorem allBy_take {X : LL} (h : At3 X) (j : Nat) : (allBy (X.take j)).length ≤ 3 * X.length := by
  have := allBy_len (X := X.take j) fun y hy => h y (List.mem_of_mem_take hy)
  rw [List.length_take] at this
  omega
theorem allBy_snoc {X : LL} {j : Nat} (hj : j < X.length) : allBy (X.take (j + 1)) = allBy (X.take j) ++ numBy (nth (row X (j : Int)) 0).list := by
  unfold allBy
  rw [List.take_succ_eq_append_getElem hj, List.flatMap_append, row_nat, getD_at hj]
  simp
theorem numBy_two {m n : Int} : numBy [[TC.i m], [TC.i n]] = bytesL m 1 ++ bytesL n 1 := by
  rw [← numBy_one, ← numBy_one, ← numBy_app]; rfl
def FitS (k : Int) (A S C B P : LL) : Prop := (k = 3 → A.length ≤ 3 ∧ S.length ≤ 3 ∧ C.length ≤ 3 ∧ B.length ≤ 3) ∧ (k = 4 → 1 ≤ P.length ∧ P.length ≤ 24 ∧ At3 P)
def selBy (k : Int) (A S C B P : LL) : BS := bytesL k 1 ++ (bif k == 3 then bytesL (A.length : Int) 1 ++ allBy [[TC.l A], [TC.l S], [TC.l C], [TC.l B]] else bif k == 4 then (bytesL (P.length : Int) 1 ++ bytesL ((pAt P 0).length : Int) 1) ++ allBy P else [])
def plainB (A S C B : LL) : Bool := (bif ((A.length : Int) == (0 : Int)) then (bif ((S.length : Int) == (0 : Int)) then (bif ((C.length : Int) == (0 : Int)) then ((B.length : Int) == (0 : Int)) else false) else false) else false)
def formV (k : Int) (A S C B P : LL) : Bool := bif k == 1 then (plainB A S C B && decide (P.length = 0)) else bif k == 2 then (plainB A S C B && decide (P.length = 0)) else bif k == 3 then (decide (P.length = 0) && slabV A S C B) else bif k == 4 then (plainB A S C B && ptsV P) else false
theorem formV_fit {k : Int} {A S C B P : LL} (h : formV k A S C B P = true) : FitS k A S C B P := by
  constructor
  · rintro rfl
    have h : (decide (P.length = 0) && slabV A S C B) = true := h
    unfold slabV at h
    simp only [Bool.and_eq_true, decide_eq_true_eq, beq_iff_eq] at h
    omega
  · rintro rfl
    have h : (plainB A S C B && ptsV P) = true := h
    unfold ptsV at h
    simp only [Bool.and_eq_true, decide_eq_true_eq] at h
    refine ⟨h.2.1.1, h.2.1.2, fun x hx => ?_⟩
    have := List.all_eq_true.1 h.2.2.2 x hx
    unfold ptB at this
    rw [Bool.and_eq_true, beq_iff_eq] at this
    omega
theorem selBy_len {k : Int} {A S C B P : LL} (h : FitS k A S C B P) : (selBy k A S C B P).length ≤ 100 := by
  unfold selBy
  rw [List.length_append, bytesL_len]
  cases h3 : k == 3 with
  | true =>
    have h3 := h.1 (by simpa using h3)
    show 1 + (bytesL (A.length : Int) 1 ++ (numBy A ++ (numBy S ++ (numBy C ++ (numBy B ++ []))))).length ≤ 100
    simp only [List.length_append, bytesL_len, numBy_len, List.length_nil]
    omega
  | false =>
    cases h4 : k == 4 with
    | true =>
      have h4 := h.2 (by simpa using h4)
      have := allBy_len h4.2.2
      show 1 + ((bytesL (P.length : Int) 1 ++ bytesL ((pAt P 0).length : Int) 1) ++ allBy P).length ≤ 100
      simp only [List.length_append, bytesL_len]
      omega
    | false => show 1 + 0 ≤ 100; omega
def mapBy (pa : BS) (x y : BS) : BS := ((bytesL (pa.length : Int) 1 ++ pa) ++ x) ++ y
def mapOkB (pa : BS) (k : Int) (A S C B P : LL) (k2 : Int) (A2 S2 C2 B2 P2 : LL) : Bool := pathB pa && (formV k A S C B P && (formV k2 A2 S2 C2 B2 P2 && (!(k == 2) && (!(k2 == 2) && decide ((mapBy pa (selBy k A S C B P) (selBy k2 A2 S2 C2 B2 P2)).length ≤ 200)))))
def mapV (pa : BS) (k : Int) (A S C B P : LL) (k2 : Int) (A2 S2 C2 B2 P2 : LL) : BS := bif mapOkB pa k A S C B P k2 A2 S2 C2 B2 P2 then mapBy pa (selBy k A S C B P) (selBy k2 A2 S2 C2 B2 P2) else []
theorem mapOk_fit {pa : BS} {k : Int} {A S C B P : LL} {k2 : Int} {A2 S2 C2 B2 P2 : LL} (h : mapOkB pa k A S C B P k2 A2 S2 C2 B2 P2 = true) : FitS k A S C B P ∧ FitS k2 A2 S2 C2 B2 P2 := by
  unfold mapOkB at h
  simp only [Bool.and_eq_true] at h
  exact ⟨formV_fit h.2.1, formV_fit h.2.2.1⟩
theorem le200 {n : Nat} : decide ((n : Int) ≤ 200) = decide (n ≤ 200) := decide_eq_decide.2 (by omega)
def selV (sk : Int) (A B C Q P : LL) (sk2 : Int) (A2 B2 C2 Q2 P2 : LL) : Bool :=
  (sk == sk2) && (eqL A A2 && (eqL B B2 && (eqL C C2 && (eqL Q Q2 && eqL P P2))))
def inR (lo hi : Int) (x : List TC) : Bool := bif decide ((nth x 0).int ≥ lo) then decide ((nth x 0).int ≤ hi) else false
theorem len_13 {α : Type} {l : List α} (h : l.length = 13) : ∃ a0 a1 a2 a3 a4 a5 a6 a7 a8 a9 a10 a11 a12, l = [a0, a1, a2, a3, a4, a5, a6, a7, a8, a9, a10, a11, a12] := by
  match l, h with
  | [a0, a1, a2, a3, a4, a5, a6, a7, a8, a9, a10, a11, a12], _ => exact ⟨a0, a1, a2, a3, a4, a5, a6, a7, a8, a9, a10, a11, a12, rfl⟩
def qbl_t (a0 : LL) (a1 : Int) : Tr (Int) := (.ite ((decide ((IntKind.wrap .i64 (a1 - (a0.length : Int))) < (0 : Int))) = true) (.ok (-1 : Int))
  (.ok (IntKind.wrap .i64 (a1 - (a0.length : Int)))))
def qbl_mk (p : Int) : Res := [(false, [⟨.int .i64, .sh, TC.i p⟩])]
def qbl_c (a0 : LL) (a1 : Int) : Bool := true
def qbl_v (a0 : LL) (a1 : Int) : Int := (bif (decide ((IntKind.wrap .i64 (a1 - (a0.length : Int))) < (0 : Int))) then (-1 : Int) else (IntKind.wrap .i64 (a1 - (a0.length : Int))))
theorem qbl_l (a0 : LL) (a1 : Int) : (qbl_c a0 a1) = true → (qbl_t a0 a1).val = some (qbl_v a0 a1) := by
  intro h
  skip
  unfold qbl_t qbl_v
  exact (Tr.s rfl rfl)
def qbl_S : List Arg → Option (Bool × Res) := fun xs => match xs with
  | [(false, [(.slice 2, TC.l a0)]), (false, [(.int .i64, TC.i a1)])] => some (true, qbl_mk (qbl_v a0 a1))
  | _ => .none
theorem qbl_e (a0 : LL) (a1 : Int) : runF tab FT D0 live 16 noLoops [(false, [(.slice 2, TC.l a0)]), (false, [(.int .i64, TC.i a1)])] = (qbl_t a0 a1).run fun p => some (qbl_mk p) := by kernel_rfl
theorem qbl_s : ∀ xs r, qbl_S xs = some (true, r) → runF tab FT D0 live 16 noLoops xs = some r := by
  intro xs r h
  unfold qbl_S at h
  split at h
  · obtain ⟨h1, rfl⟩ := sp h
    exact fun_told (qbl_e ..) (qbl_l _ _) rfl
  · cases h
def D1 : Dt := also D0 16 qbl_S
theorem d1 : DOk Go.Proofs.Tryd.prog tab D1 := d0.also mixed_ok tab_ok names_ok noLoops_ok qbl_s
def qx_t (x0 : LL) (x1 : Int) : Tr (Int) := (.ite ((decide ((qbl_v x0 x1) < (0 : Int))) = true) (.ok (-1 : Int))
  (.ok (qbl_v x0 x1)))
def qx_mk (p : Int) : Res := [(false, [⟨.int .i64, .sh, TC.i p⟩])]
def qx_c (x0 : LL) (x1 : Int) : Bool := (bif (decide ((qbl_v x0 x1) < (0 : Int))) then true else true)
def qx_v (x0 : LL) (x1 : Int) : Int := (bif (decide ((qbl_v x0 x1) < (0 : Int))) then (-1 : Int) else (qbl_v x0 x1))
theorem qx_l (x0 : LL) (x1 : Int) : (qx_c x0 x1) = true → (qx_t x0 x1).val = some (qx_v x0 x1) := by
  unfold qx_t qx_v qx_c
  exact fun h => (Tr.ss h (fun h => rfl) (fun h => rfl))
def qx_S : List Arg → Option (Bool × Res) := fun xs => match xs with
  | [(true, [(.slice 2, TC.l x0)]), (false, [(.int .i64, TC.i x1)])] => some ((qx_c x0 x1), qx_mk (qx_v x0 x1))
  | _ => .none
theorem qx_e (x0 : LL) (x1 : Int) : runF tab FT D1 live 30 noLoops [(true, [(.slice 2, TC.l x0)]), (false, [(.int .i64, TC.i x1)])] = (qx_t x0 x1).run fun p => some (qx_mk p) := by kernel_rfl
theorem qx_s : ∀ xs r, qx_S xs = some (true, r) → runF tab FT D1 live 30 noLoops xs = some r := by
  intro xs r h
  unfold qx_S at h
  split at h
  · obtain ⟨h1, rfl⟩ := sp h
    exact fun_told (qx_e ..) (qx_l _ _) h1
  · cases h
def D2 : Dt := also D1 30 qx_S
theorem d2 : DOk Go.Proofs.Tryd.prog tab D2 := d1.also mixed_ok tab_ok names_ok noLoops_ok qx_s
theorem qx_cc {x0 : LL} {x1 : Int} (t0 : Typed tab (.slice 2) (.l x0)) : (qx_c x0 x1) = true := by
  unfold qx_c
  refine bifT (fun b1 => ?_) (fun b1 => ?_)
  · skip
    rfl
  · skip
    rfl
abbrev qj_5_σ := LL × Int × Int
abbrev qj_5_ω := (Int) ⊕ (Int)
def qj_5_step (A : LL) (left i : Int) : Tr (qj_5_σ ⊕ qj_5_ω) := (.ite ((decide (i < (A.length : Int))) = true) (.ite ((0 : Int) ≤ i ∧ i < (A.length : Int)) (.ite ((qx_c ((nth (row A i) 0).list) left) = true) (.ite ((decide ((qx_v ((nth (row A i) 0).list) left) < (0 : Int))) = true) (.ok (.inr (.inl (qx_v ((nth (row A i) 0).list) left))))
     (.ok (.inl (A, (qx_v ((nth (row A i) 0).list) left), (IntKind.wrap .i64 (i + (1 : Int)))))))
    .no)
   .no)
  (.ok (.inr (.inr left))))
def qj_5_st : qj_5_σ → Tr (qj_5_σ ⊕ qj_5_ω) := fun x => (qj_5_step (x.1) (x.2.1) (x.2.2))
def qj_k5_1 (A : LL) (left i : Int) : Bool := isL (loopN qj_5_st (A.length + 1) (A, left, i))
def qj_o5_2 (A : LL) (left i : Int) : Bool := is (i = 0 ∧ Typed tab (.slice 56) (.l A))
def qj_u5_2 (A : LL) (left i : Int) : Int := getL (loopN qj_5_st (A.length + 1) (A, left, i))
def qj_o5_3 (A : LL) (left i : Int) : Bool := is (i = 0 ∧ Typed tab (.slice 56) (.l A))
def qj_u5_3 (A : LL) (left i : Int) : Int := getR (loopN qj_5_st (A.length + 1) (A, left, i))
def qj_5_fin (A : LL) (left i : Int) : Told qj_5_ω := (.br (qj_k5_1 A left i) (.leaf (qj_o5_2 A left i) (.inl (qj_u5_2 A left i))) (.leaf (qj_o5_3 A left i) (.inr (qj_u5_3 A left i))))
def qj_5_sl (x : qj_5_σ) : List Slot := [⟨.val false [⟨.slice 56, .sh, TC.l (x.1)⟩], ⟨0, 0⟩⟩, ⟨.val false [⟨.int .i64, .sh, TC.i (x.2.1)⟩], ⟨0, 0⟩⟩, ⟨.val false [⟨.int .i64, .sh, TC.i (x.2.2)⟩], ⟨0, 0⟩⟩]
def qj_5_out : qj_5_ω → Ex × List Slot := (Sum.elim (fun x => (.ret, [⟨.val false [⟨.int .i64, .sh, TC.i x⟩], ⟨0, 0⟩⟩, ⟨.val false [⟨.int .i64, .sh, TC.i (-1 : Int)⟩], ⟨0, 0⟩⟩])) (fun x => (.exit 0, [⟨.val false [⟨.int .i64, .sh, TC.i x⟩], ⟨0, 0⟩⟩, Slot.none])))
def qj_lo5 : List Slot → Option (Told (Ex × List Slot)) := fun s => match s with
  | [⟨.val false [⟨.slice 56, .sh, TC.l A⟩], ⟨0, 0⟩⟩, ⟨.val false [⟨.int .i64, .sh, TC.i left⟩], ⟨0, 0⟩⟩, ⟨.val false [⟨.int .i64, .sh, TC.i i⟩], ⟨0, 0⟩⟩] => some (((qj_5_fin A left i)).map qj_5_out)
  | _ => .none
def qj_lo : LoopTeller := fun r s => bif Nat.beq r 5 then qj_lo5 s else .none
theorem qj_5_r (A : LL) (left i : Int) (fuel : Nat) : rounds (rnd tab FT D2 live 17 qj_lo 0 5) leave (fuel + 1) (qj_5_sl (A, left, i)) = ((qj_5_step A left i)).run (goOn (fun s => rounds (rnd tab FT D2 live 17 qj_lo 0 5) leave fuel (qj_5_sl s)) fun w => some (qj_5_out w)) := by kernel_rfl
theorem qj_5_h (A : LL) (left i : Int) (ow : qj_5_ω) : ((qj_5_fin A left i)).val = some ow → ∃ fuel, loopN qj_5_st fuel (A, left, i) = some ow := by
  refine auto_two (N := A.length + 1) rfl rfl rfl ?_
  intro ho
  have ho : is (i = 0 ∧ Typed tab (.slice 56) (.l A)) = true := ho.elim id id
  obtain ⟨rfl, ht⟩ := is_iff.1 ho
  have hlen : A.length ≤ 140737488351232 := by have := typed_room ht; simp only [show (tab 56).bytes = 24 from rfl] at this; omega
  refine loopN_ends (step := qj_5_st) (N := A.length) (fun i a => (A, a, (i : Int))) (fun i a hi => ?_) (fun a => ?_) A.length 0 left (by omega)
  · show (∃ a', (qj_5_step A a (i : Int)).val = _) ∨ ∃ w, (qj_5_step A a (i : Int)).val = _
    have c0 : Typed tab (.slice 2) (.l (nth (A.getD i []) 0).list) := typed_list (typed_cell ht (A.getD i []) (mem_getD hi) 0 (by decide))
    cases hneg : ((decide ((qx_v ((nth (row A i) 0).list) a) < (0 : Int))))
    · apply Or.inl
      apply Exists.intro
      · unfold qj_5_step
        refine Tr.t (by simp; omega) ?_
        refine Tr.t (by first | omega | (constructor <;> omega)) ?_
        refine Tr.t (by first | (apply qx_cc <;> assumption) | (first | (apply is_true; and_intros <;> (first | rfl | assumption | (apply qx_cc <;> assumption) | (first | (apply is_true; and_intros <;> (first | rfl | assumption | (apply qx_cc <;> assumption))) | (apply qx_cc <;> assumption)))) | (apply qx_cc <;> assumption))) ?_
        refine Tr.n (by rw [hneg]; simp) ?_
        rw [Tr.val_ok, wrap64 (i := (i : Int) + 1) (by omega) (by omega)]; rfl
    · apply Or.inr
      apply Exists.intro
      · unfold qj_5_step
        refine Tr.t (by simp; omega) ?_
        refine Tr.t (by first | omega | (constructor <;> omega)) ?_
        refine Tr.t (by first | (apply qx_cc <;> assumption) | (first | (apply is_true; and_intros <;> (first | rfl | assumption | (apply qx_cc <;> assumption) | (first | (apply is_true; and_intros <;> (first | rfl | assumption | (apply qx_cc <;> assumption))) | (apply qx_cc <;> assumption)))) | (apply qx_cc <;> assumption))) ?_
        refine Tr.t hneg ?_
        rfl
  · apply Exists.intro
    · show (qj_5_step A a (A.length : Int)).val = _
      refine Tr.n (by simp) ?_
      rfl
theorem qj_is5 : LoopIs tab FT D2 live 17 qj_lo 0 5 := by
  refine loop_told (sl := qj_5_sl) (step := qj_5_st) (out := qj_5_out) (lor := qj_lo5) (fin := fun x => (qj_5_fin (x.1) (x.2.1) (x.2.2))) (fun _ => rfl) ?_ (fun x n => qj_5_r x.1 x.2.1 x.2.2 n) (fun x ow => qj_5_h x.1 x.2.1 x.2.2 ow)
  intro s t h
  unfold qj_lo5 at h
  split at h
  · cases h; exact ⟨(_, _, _), rfl, rfl⟩
  · cases h
def qj_t (A : LL) (left : Int) : Tr (Int) := (.ite ((decide ((IntKind.wrap .i64 (left - (A.length : Int))) < (0 : Int))) = true) (.ok (-1 : Int))
  (.ite ((qj_k5_1 A (IntKind.wrap .i64 (left - (A.length : Int))) (0 : Int)) = true) (.ite ((qj_o5_2 A (IntKind.wrap .i64 (left - (A.length : Int))) (0 : Int)) = true) (.ok (-1 : Int))
    .no)
   (.ite ((qj_o5_3 A (IntKind.wrap .i64 (left - (A.length : Int))) (0 : Int)) = true) (.ok (qj_u5_3 A (IntKind.wrap .i64 (left - (A.length : Int))) (0 : Int)))
    .no)))
def qj_mk (p : Int) : Res := [(false, [⟨.int .i64, .sh, TC.i p⟩])]
def qj_c (A : LL) (left : Int) : Bool := (bif (decide ((IntKind.wrap .i64 (left - (A.length : Int))) < (0 : Int))) then true else (bif (qj_k5_1 A (IntKind.wrap .i64 (left - (A.length : Int))) (0 : Int)) then ((qj_o5_2 A (IntKind.wrap .i64 (left - (A.length : Int))) (0 : Int)) && true) else ((qj_o5_3 A (IntKind.wrap .i64 (left - (A.length : Int))) (0 : Int)) && true)))
def qj_v (A : LL) (left : Int) : Int := (bif (decide ((IntKind.wrap .i64 (left - (A.length : Int))) < (0 : Int))) then (-1 : Int) else (bif (qj_k5_1 A (IntKind.wrap .i64 (left - (A.length : Int))) (0 : Int)) then (-1 : Int) else (qj_u5_3 A (IntKind.wrap .i64 (left - (A.length : Int))) (0 : Int))))
theorem qj_l (A : LL) (left : Int) : (qj_c A left) = true → (qj_t A left).val = some (qj_v A left) := by
  unfold qj_t qj_v qj_c
  exact fun h => (Tr.ss h (fun h => rfl) (fun h => (Tr.ss h (fun h => (Tr.gb h fun h => rfl)) (fun h => (Tr.gb h fun h => rfl)))))
def qj_S : List Arg → Option (Bool × Res) := fun xs => match xs with
  | [(false, [(.slice 56, TC.l A)]), (false, [(.int .i64, TC.i left)])] => some ((qj_c A left), qj_mk (qj_v A left))
  | _ => .none
theorem qj_e (A : LL) (left : Int) : runF tab FT D2 live 17 qj_lo [(false, [(.slice 56, TC.l A)]), (false, [(.int .i64, TC.i left)])] = (qj_t A left).run fun p => some (qj_mk p) := by kernel_rfl
theorem qj_s : ∀ xs r, qj_S xs = some (true, r) → runF tab FT D2 live 17 qj_lo xs = some r := by
  intro xs r h
  unfold qj_S at h
  split at h
  · obtain ⟨h1, rfl⟩ := sp h
    exact fun_told (qj_e ..) (qj_l _ _) h1
  · cases h
def D3 : Dt := also D2 17 qj_S
theorem d3 : DOk Go.Proofs.Tryd.prog tab D3 := d2.also mixed_ok tab_ok names_ok (fnLoops_one (by kernel_rfl) qj_is5) qj_s
theorem qj_cc {A : LL} {left : Int} (ht : Typed tab (.slice 56) (.l A)) : (qj_c A left) = true := by
  unfold qj_c
  refine bifT (fun b1 => ?_) (fun b1 => ?_)
  · skip
    rfl
  · skip
    refine bifT (fun b2 => ?_) (fun b2 => ?_)
    · skip
      refine andT (by exact is_true ⟨rfl, ht⟩) ?_
      rfl
    · skip
      refine andT (by exact is_true ⟨rfl, ht⟩) ?_
      rfl
def ql_t (x0 : Int) (x1 x2 x3 x4 x5 : LL) (x6 : Int) : Tr (Int) := (.ite ((decide ((qbl_v x1 x6) < (0 : Int))) = true) (.ok (-1 : Int))
  (.ite ((decide ((qbl_v x2 (qbl_v x1 x6)) < (0 : Int))) = true) (.ok (-1 : Int))
   (.ite ((decide ((qbl_v x3 (qbl_v x2 (qbl_v x1 x6))) < (0 : Int))) = true) (.ok (-1 : Int))
    (.ite ((decide ((qbl_v x4 (qbl_v x3 (qbl_v x2 (qbl_v x1 x6)))) < (0 : Int))) = true) (.ok (-1 : Int))
     (.ite ((qj_c x5 (qbl_v x4 (qbl_v x3 (qbl_v x2 (qbl_v x1 x6))))) = true) (.ite ((decide ((qj_v x5 (qbl_v x4 (qbl_v x3 (qbl_v x2 (qbl_v x1 x6))))) < (0 : Int))) = true) (.ok (-1 : Int))
       (.ok (qj_v x5 (qbl_v x4 (qbl_v x3 (qbl_v x2 (qbl_v x1 x6)))))))
      .no)))))
def ql_mk (p : Int) : Res := [(false, [⟨.int .i64, .sh, TC.i p⟩])]
def ql_c (x0 : Int) (x1 x2 x3 x4 x5 : LL) (x6 : Int) : Bool := (bif (decide ((qbl_v x1 x6) < (0 : Int))) then true else (bif (decide ((qbl_v x2 (qbl_v x1 x6)) < (0 : Int))) then true else (bif (decide ((qbl_v x3 (qbl_v x2 (qbl_v x1 x6))) < (0 : Int))) then true else (bif (decide ((qbl_v x4 (qbl_v x3 (qbl_v x2 (qbl_v x1 x6)))) < (0 : Int))) then true else ((qj_c x5 (qbl_v x4 (qbl_v x3 (qbl_v x2 (qbl_v x1 x6))))) && (bif (decide ((qj_v x5 (qbl_v x4 (qbl_v x3 (qbl_v x2 (qbl_v x1 x6))))) < (0 : Int))) then true else true))))))
def ql_v (x0 : Int) (x1 x2 x3 x4 x5 : LL) (x6 : Int) : Int := (bif (decide ((qbl_v x1 x6) < (0 : Int))) then (-1 : Int) else (bif (decide ((qbl_v x2 (qbl_v x1 x6)) < (0 : Int))) then (-1 : Int) else (bif (decide ((qbl_v x3 (qbl_v x2 (qbl_v x1 x6))) < (0 : Int))) then (-1 : Int) else (bif (decide ((qbl_v x4 (qbl_v x3 (qbl_v x2 (qbl_v x1 x6)))) < (0 : Int))) then (-1 : Int) else (bif (decide ((qj_v x5 (qbl_v x4 (qbl_v x3 (qbl_v x2 (qbl_v x1 x6))))) < (0 : Int))) then (-1 : Int) else (qj_v x5 (qbl_v x4 (qbl_v x3 (qbl_v x2 (qbl_v x1 x6))))))))))
theorem ql_l (x0 : Int) (x1 x2 x3 x4 x5 : LL) (x6 : Int) : (ql_c x0 x1 x2 x3 x4 x5 x6) = true → (ql_t x0 x1 x2 x3 x4 x5 x6).val = some (ql_v x0 x1 x2 x3 x4 x5 x6) := by
  unfold ql_t ql_v ql_c
  exact fun h => (Tr.ss h (fun h => rfl) (fun h => (Tr.ss h (fun h => rfl) (fun h => (Tr.ss h (fun h => rfl) (fun h => (Tr.ss h (fun h => rfl) (fun h => (Tr.gb h fun h => (Tr.ss h (fun h => rfl) (fun h => rfl)))))))))))
def ql_S : List Arg → Option (Bool × Res) := fun xs => match xs with
  | [(true, [(.int .i64, TC.i x0), (.slice 2, TC.l x1), (.slice 2, TC.l x2), (.slice 2, TC.l x3), (.slice 2, TC.l x4), (.slice 56, TC.l x5)]), (false, [(.int .i64, TC.i x6)])] => some ((ql_c x0 x1 x2 x3 x4 x5 x6), ql_mk (ql_v x0 x1 x2 x3 x4 x5 x6))
  | _ => .none
theorem ql_e (x0 : Int) (x1 x2 x3 x4 x5 : LL) (x6 : Int) : runF tab FT D3 live 9 noLoops [(true, [(.int .i64, TC.i x0), (.slice 2, TC.l x1), (.slice 2, TC.l x2), (.slice 2, TC.l x3), (.slice 2, TC.l x4), (.slice 56, TC.l x5)]), (false, [(.int .i64, TC.i x6)])] = (ql_t x0 x1 x2 x3 x4 x5 x6).run fun p => some (ql_mk p) := by kernel_rfl
theorem ql_s : ∀ xs r, ql_S xs = some (true, r) → runF tab FT D3 live 9 noLoops xs = some r := by
  intro xs r h
  unfold ql_S at h
  split at h
  · obtain ⟨h1, rfl⟩ := sp h
    exact fun_told (ql_e ..) (ql_l _ _ _ _ _ _ _) h1
  · cases h
def D4 : Dt := also D3 9 ql_S
theorem d4 : DOk Go.Proofs.Tryd.prog tab D4 := d3.also mixed_ok tab_ok names_ok noLoops_ok ql_s
theorem ql_cc {x0 : Int} {x1 : LL} {x2 : LL} {x3 : LL} {x4 : LL} {x5 : LL} {x6 : Int} (t1 : Typed tab (.slice 2) (.l x1)) (t2 : Typed tab (.slice 2) (.l x2)) (t3 : Typed tab (.slice 2) (.l x3)) (t4 : Typed tab (.slice 2) (.l x4)) (t5 : Typed tab (.slice 56) (.l x5)) : (ql_c x0 x1 x2 x3 x4 x5 x6) = true := by
  unfold ql_c
  refine bifT (fun b1 => ?_) (fun b1 => ?_)
  · skip
    rfl
  · skip
    refine bifT (fun b2 => ?_) (fun b2 => ?_)
    · skip
      rfl
    · skip
      refine bifT (fun b3 => ?_) (fun b3 => ?_)
      · skip
        rfl
      · skip
        refine bifT (fun b4 => ?_) (fun b4 => ?_)
        · skip
          rfl
        · skip
          refine andT (by exact qj_cc t5) ?_
          refine bifT (fun b5 => ?_) (fun b5 => ?_)
          · skip
            rfl
          · skip
            rfl
def qt_t (x0 : BS) (x1 : Int) (x2 x3 x4 x5 x6 : LL) (x7 : Int) (x8 x9 x10 x11 x12 : LL) (x13 : Int) : Tr (Int) := (.ite ((decide ((IntKind.wrap .i64 (x13 - (x0.length : Int))) < (0 : Int))) = true) (.ok (-1 : Int))
  (.ite ((ql_c x1 x2 x3 x4 x5 x6 (IntKind.wrap .i64 (x13 - (x0.length : Int)))) = true) (.ite ((decide ((ql_v x1 x2 x3 x4 x5 x6 (IntKind.wrap .i64 (x13 - (x0.length : Int)))) < (0 : Int))) = true) (.ok (-1 : Int))
    (.ite ((ql_c x7 x8 x9 x10 x11 x12 (ql_v x1 x2 x3 x4 x5 x6 (IntKind.wrap .i64 (x13 - (x0.length : Int))))) = true) (.ite ((decide ((ql_v x7 x8 x9 x10 x11 x12 (ql_v x1 x2 x3 x4 x5 x6 (IntKind.wrap .i64 (x13 - (x0.length : Int))))) < (0 : Int))) = true) (.ok (-1 : Int))
      (.ok (ql_v x7 x8 x9 x10 x11 x12 (ql_v x1 x2 x3 x4 x5 x6 (IntKind.wrap .i64 (x13 - (x0.length : Int)))))))
     .no))
   .no))
def qt_mk (p : Int) : Res := [(false, [⟨.int .i64, .sh, TC.i p⟩])]
def qt_c (x0 : BS) (x1 : Int) (x2 x3 x4 x5 x6 : LL) (x7 : Int) (x8 x9 x10 x11 x12 : LL) (x13 : Int) : Bool := (bif (decide ((IntKind.wrap .i64 (x13 - (x0.length : Int))) < (0 : Int))) then true else ((ql_c x1 x2 x3 x4 x5 x6 (IntKind.wrap .i64 (x13 - (x0.length : Int)))) && (bif (decide ((ql_v x1 x2 x3 x4 x5 x6 (IntKind.wrap .i64 (x13 - (x0.length : Int)))) < (0 : Int))) then true else ((ql_c x7 x8 x9 x10 x11 x12 (ql_v x1 x2 x3 x4 x5 x6 (IntKind.wrap .i64 (x13 - (x0.length : Int))))) && (bif (decide ((ql_v x7 x8 x9 x10 x11 x12 (ql_v x1 x2 x3 x4 x5 x6 (IntKind.wrap .i64 (x13 - (x0.length : Int))))) < (0 : Int))) then true else true)))))
def qt_v (x0 : BS) (x1 : Int) (x2 x3 x4 x5 x6 : LL) (x7 : Int) (x8 x9 x10 x11 x12 : LL) (x13 : Int) : Int := (bif (decide ((IntKind.wrap .i64 (x13 - (x0.length : Int))) < (0 : Int))) then (-1 : Int) else (bif (decide ((ql_v x1 x2 x3 x4 x5 x6 (IntKind.wrap .i64 (x13 - (x0.length : Int)))) < (0 : Int))) then (-1 : Int) else (bif (decide ((ql_v x7 x8 x9 x10 x11 x12 (ql_v x1 x2 x3 x4 x5 x6 (IntKind.wrap .i64 (x13 - (x0.length : Int))))) < (0 : Int))) then (-1 : Int) else (ql_v x7 x8 x9 x10 x11 x12 (ql_v x1 x2 x3 x4 x5 x6 (IntKind.wrap .i64 (x13 - (x0.length : Int))))))))
theorem qt_l (x0 : BS) (x1 : Int) (x2 x3 x4 x5 x6 : LL) (x7 : Int) (x8 x9 x10 x11 x12 : LL) (x13 : Int) : (qt_c x0 x1 x2 x3 x4 x5 x6 x7 x8 x9 x10 x11 x12 x13) = true → (qt_t x0 x1 x2 x3 x4 x5 x6 x7 x8 x9 x10 x11 x12 x13).val = some (qt_v x0 x1 x2 x3 x4 x5 x6 x7 x8 x9 x10 x11 x12 x13) := by
  unfold qt_t qt_v qt_c
  exact fun h => (Tr.ss h (fun h => rfl) (fun h => (Tr.gb h fun h => (Tr.ss h (fun h => rfl) (fun h => (Tr.gb h fun h => (Tr.ss h (fun h => rfl) (fun h => rfl))))))))
def qt_S : List Arg → Option (Bool × Res) := fun xs => match xs with
  | [(true, [(.str, TC.s x0), (.int .i64, TC.i x1), (.slice 2, TC.l x2), (.slice 2, TC.l x3), (.slice 2, TC.l x4), (.slice 2, TC.l x5), (.slice 56, TC.l x6), (.int .i64, TC.i x7), (.slice 2, TC.l x8), (.slice 2, TC.l x9), (.slice 2, TC.l x10), (.slice 2, TC.l x11), (.slice 56, TC.l x12)]), (false, [(.int .i64, TC.i x13)])] => some ((qt_c x0 x1 x2 x3 x4 x5 x6 x7 x8 x9 x10 x11 x12 x13), qt_mk (qt_v x0 x1 x2 x3 x4 x5 x6 x7 x8 x9 x10 x11 x12 x13))
  | _ => .none
theorem qt_e (x0 : BS) (x1 : Int) (x2 x3 x4 x5 x6 : LL) (x7 : Int) (x8 x9 x10 x11 x12 : LL) (x13 : Int) : runF tab FT D4 live 4 noLoops [(true, [(.str, TC.s x0), (.int .i64, TC.i x1), (.slice 2, TC.l x2), (.slice 2, TC.l x3), (.slice 2, TC.l x4), (.slice 2, TC.l x5), (.slice 56, TC.l x6), (.int .i64, TC.i x7), (.slice 2, TC.l x8), (.slice 2, TC.l x9), (.slice 2, TC.l x10), (.slice 2, TC.l x11), (.slice 56, TC.l x12)]), (false, [(.int .i64, TC.i x13)])] = (qt_t x0 x1 x2 x3 x4 x5 x6 x7 x8 x9 x10 x11 x12 x13).run fun p => some (qt_mk p) := by kernel_rfl
theorem qt_s : ∀ xs r, qt_S xs = some (true, r) → runF tab FT D4 live 4 noLoops xs = some r := by
  intro xs r h
  unfold qt_S at h
  split at h
  · obtain ⟨h1, rfl⟩ := sp h
    exact fun_told (qt_e ..) (qt_l _ _ _ _ _ _ _ _ _ _ _ _ _ _) h1
  · cases h
def D5 : Dt := also D4 4 qt_S
theorem d5 : DOk Go.Proofs.Tryd.prog tab D5 := d4.also mixed_ok tab_ok names_ok noLoops_ok qt_s
theorem qt_cc {x0 : BS} {x1 : Int} {x2 : LL} {x3 : LL} {x4 : LL} {x5 : LL} {x6 : LL} {x7 : Int} {x8 : LL} {x9 : LL} {x10 : LL} {x11 : LL} {x12 : LL} {x13 : Int} (t2 : Typed tab (.slice 2) (.l x2)) (t3 : Typed tab (.slice 2) (.l x3)) (t4 : Typed tab (.slice 2) (.l x4)) (t5 : Typed tab (.slice 2) (.l x5)) (t6 : Typed tab (.slice 56) (.l x6)) (t8 : Typed tab (.slice 2) (.l x8)) (t9 : Typed tab (.slice 2) (.l x9)) (t10 : Typed tab (.slice 2) (.l x10)) (t11 : Typed tab (.slice 2) (.l x11)) (t12 : Typed tab (.slice 56) (.l x12)) : (qt_c x0 x1 x2 x3 x4 x5 x6 x7 x8 x9 x10 x11 x12 x13) = true := by
  unfold qt_c
  refine bifT (fun b1 => ?_) (fun b1 => ?_)
  · skip
    rfl
  · skip
    refine andT (by first | (apply ql_cc <;> assumption) | (first | (apply is_true; and_intros <;> (first | rfl | assumption | (apply qx_cc <;> assumption) | (apply qj_cc <;> assumption) | (apply ql_cc <;> assumption) | (first | (apply is_true; and_intros <;> (first | rfl | assumption | (apply qx_cc <;> assumption) | (apply qj_cc <;> assumption) | (apply ql_cc <;> assumption))) | (apply qx_cc <;> assumption) | (apply qj_cc <;> assumption) | (apply ql_cc <;> assumption)))) | (apply qx_cc <;> assumption) | (apply qj_cc <;> assumption) | (apply ql_cc <;> assumption))) ?_
    refine bifT (fun b2 => ?_) (fun b2 => ?_)
    · skip
      rfl
    · skip
      refine andT (by first | (apply ql_cc <;> assumption) | (first | (apply is_true; and_intros <;> (first | rfl | assumption | (apply qx_cc <;> assumption) | (apply qj_cc <;> assumption) | (apply ql_cc <;> assumption) | (first | (apply is_true; and_intros <;> (first | rfl | assumption | (apply qx_cc <;> assumption) | (apply qj_cc <;> assumption) | (apply ql_cc <;> assumption))) | (apply qx_cc <;> assumption) | (apply qj_cc <;> assumption) | (apply ql_cc <;> assumption)))) | (apply qx_cc <;> assumption) | (apply qj_cc <;> assumption) | (apply ql_cc <;> assumption))) ?_
      refine bifT (fun b3 => ?_) (fun b3 => ?_)
      · skip
        rfl
      · skip
        rfl
def qbe_g (x : List TC) : List TC := [TC.i ((nth x 0).int)]
def qbe_z : List TC := [TC.i (0 : Int)]
theorem qbe_id {A : LL} (h : Typed tab (.slice 2) (.l A)) : A.map qbe_g = A := map_same fun x hx => by
  obtain ⟨hl, hk⟩ := typed_elem h hx
  have e0 : TC.i ((nth x 0).int) = nth x 0 := typed_int_eq (hk 0 (by decide))
  show [TC.i ((nth x 0).int)] = _
  rw [e0]
  exact (row_eta hl).symm
abbrev qbe_3_σ := LL × LL × Int
abbrev qbe_3_ω := (LL)
def qbe_3_step (A X : LL) (i : Int) : Tr (qbe_3_σ ⊕ qbe_3_ω) := (.ite ((decide (i < (A.length : Int))) = true) (.ite ((0 : Int) ≤ i ∧ i < (A.length : Int)) (.ite ((0 : Int) ≤ i ∧ i < (X.length : Int)) (.ok (.inl (A, (X.set (i).toNat (splice (row X i) 0 [TC.i ((nth (row A i) 0).int)])), (IntKind.wrap .i64 (i + (1 : Int))))))
    .no)
   .no)
  (.ok (.inr X)))
def qbe_3_st : qbe_3_σ → Tr (qbe_3_σ ⊕ qbe_3_ω) := fun x => (qbe_3_step (x.1) (x.2.1) (x.2.2))
def qbe_o3_1 (A X : LL) (i : Int) : Bool := is (Typed tab (.slice 2) (.l A) ∧ X = List.replicate A.length qbe_z ∧ i = 0)
def qbe_3_fin (A X : LL) (i : Int) : Told qbe_3_ω := (.leaf (qbe_o3_1 A X i) A)
def qbe_3_sl (x : qbe_3_σ) : List Slot := [⟨.val false [⟨.slice 2, .sh, TC.l (x.1)⟩], ⟨0, 0⟩⟩, ⟨.val false [⟨.slice 2, .own true, TC.l (x.2.1)⟩], ⟨0, 0⟩⟩, ⟨.val false [⟨.int .i64, .sh, TC.i (x.2.2)⟩], ⟨0, 0⟩⟩]
def qbe_3_out : qbe_3_ω → Ex × List Slot := (fun x => (.exit 0, [Slot.none, ⟨.val false [⟨.slice 2, .own true, TC.l x⟩], ⟨0, 0⟩⟩]))
def qbe_lo3 : List Slot → Option (Told (Ex × List Slot)) := fun s => match s with
  | [⟨.val false [⟨.slice 2, .sh, TC.l A⟩], ⟨0, 0⟩⟩, ⟨.val false [⟨.slice 2, .own true, TC.l X⟩], ⟨0, 0⟩⟩, ⟨.val false [⟨.int .i64, .sh, TC.i i⟩], ⟨0, 0⟩⟩] => some (((qbe_3_fin A X i)).map qbe_3_out)
  | _ => .none
def qbe_lo : LoopTeller := fun r s => bif Nat.beq r 3 then qbe_lo3 s else .none
theorem qbe_3_r (A X : LL) (i : Int) (fuel : Nat) : rounds (rnd tab FT D5 live 22 qbe_lo 0 3) leave (fuel + 1) (qbe_3_sl (A, X, i)) = ((qbe_3_step A X i)).run (goOn (fun s => rounds (rnd tab FT D5 live 22 qbe_lo 0 3) leave fuel (qbe_3_sl s)) fun w => some (qbe_3_out w)) := by kernel_rfl
theorem qbe_3_h (A X : LL) (i : Int) (ow : qbe_3_ω) : ((qbe_3_fin A X i)).val = some ow → ∃ fuel, loopN qbe_3_st fuel (A, X, i) = some ow := by
  intro h
  refine auto_leaf (R := A) (fun ho => ?_) h
  obtain ⟨ht, rfl, rfl⟩ := is_iff.1 ho
  have hlen : A.length ≤ 140737488351232 := by have := typed_room ht; simp only [show (tab 2).bytes = 8 from rfl] at this; omega
  have key := loopN_copy (step := qbe_3_st) A (List.replicate A.length qbe_z) qbe_g (fun Y i => (A, Y, (i : Int))) (A.map qbe_g) (by simp) (fun x hx i _ => by rw [(List.mem_replicate.1 hx).2]; exact Nat.le_refl 1) (fun Y i hi hl => ?_) ?_ A.length 0 (by omega)
  · rw [copied_zero, qbe_id ht] at key
    exact ⟨_, key⟩
  · skip
    show (qbe_3_step A Y (i : Int)).val = _
    unfold qbe_3_step
    refine Tr.t (by simp; omega) ?_
    refine Tr.t (by first | omega | (constructor <;> omega)) ?_
    refine Tr.t (by first | omega | (constructor <;> omega)) ?_
    rw [Tr.val_ok, wrap64 (i := (i : Int) + 1) (by omega) (by omega)]; rfl
  · show (qbe_3_step A (A.map qbe_g) (A.length : Int)).val = _
    refine Tr.n (by simp) ?_
    rfl
theorem qbe_is3 : LoopIs tab FT D5 live 22 qbe_lo 0 3 := by
  refine loop_told (sl := qbe_3_sl) (step := qbe_3_st) (out := qbe_3_out) (lor := qbe_lo3) (fin := fun x => (qbe_3_fin (x.1) (x.2.1) (x.2.2))) (fun _ => rfl) ?_ (fun x n => qbe_3_r x.1 x.2.1 x.2.2 n) (fun x ow => qbe_3_h x.1 x.2.1 x.2.2 ow)
  intro s t h
  unfold qbe_lo3 at h
  split at h
  · cases h; exact ⟨(_, _, _), rfl, rfl⟩
  · cases h
def qbe_t (A : LL) : Tr (LL) := (.ite (0 ≤ (A.length : Int) ∧ (A.length : Int) ≤ (A.length : Int) ∧ (A.length : Int) * 8 ≤ 140737488355328 ∧ (A.length : Int) ≤ 140737488355328) (.ite ((qbe_o3_1 A (List.replicate ((A.length : Int)).toNat [TC.i (0 : Int)]) (0 : Int)) = true) (.ok A)
   .no)
  .no)
def qbe_mk (p : LL) : Res := [(false, [⟨.slice 2, .own true, TC.l p⟩])]
def qbe_c (A : LL) : Bool := is (Typed tab (.slice 2) (.l A))
def qbe_v (A : LL) : LL := A
theorem qbe_l (A : LL) : (qbe_c A) = true → (qbe_t A).val = some (qbe_v A) := by
  intro h
  have ht := is_iff.1 h
  have hb := typed_room ht
  simp only [show (tab 2).bytes = 8 from rfl] at hb
  unfold qbe_t
  refine Tr.t (by omega) ?_
  refine Tr.t (is_true ⟨ht, by rfl, rfl⟩) ?_
  rfl
def qbe_S : List Arg → Option (Bool × Res) := fun xs => match xs with
  | [(false, [(.slice 2, TC.l A)])] => some ((qbe_c A), qbe_mk (qbe_v A))
  | _ => .none
theorem qbe_e (A : LL) : runF tab FT D5 live 22 qbe_lo [(false, [(.slice 2, TC.l A)])] = (qbe_t A).run fun p => some (qbe_mk p) := by kernel_rfl
theorem qbe_s : ∀ xs r, qbe_S xs = some (true, r) → runF tab FT D5 live 22 qbe_lo xs = some r := by
  intro xs r h
  unfold qbe_S at h
  split at h
  · obtain ⟨h1, rfl⟩ := sp h
    exact fun_told (qbe_e _) (qbe_l _) h1
  · cases h
def D6 : Dt := also D5 22 qbe_S
theorem d6 : DOk Go.Proofs.Tryd.prog tab D6 := d5.also mixed_ok tab_ok names_ok (fnLoops_one (by kernel_rfl) qbe_is3) qbe_s
theorem qbe_ty {A : LL} (h : Typed tab (.slice 2) (.l A)) : Typed tab (.slice 2) (.l A) := typed_iso iso_ok h (by decide)
def qck_t (a0 : LL) : Tr (LL) := (.ite ((qbe_c a0) = true) (.ok (qbe_v a0))
  .no)
def qck_mk (p : LL) : Res := [(true, [⟨.slice 2, .own true, TC.l p⟩])]
def qck_c (a0 : LL) : Bool := (qbe_c a0)
def qck_v (a0 : LL) : LL := (qbe_v a0)
theorem qck_l (a0 : LL) : (qck_c a0) = true → (qck_t a0).val = some (qck_v a0) := by
  intro h
  have hc0 : (qbe_c a0) = true := h
  unfold qck_t
  exact (Tr.t hc0 rfl)
def qck_S : List Arg → Option (Bool × Res) := fun xs => match xs with
  | [(true, [(.slice 2, TC.l a0)])] => some ((qck_c a0), qck_mk (qck_v a0))
  | _ => .none
theorem qck_e (a0 : LL) : runF tab FT D6 live 35 noLoops [(true, [(.slice 2, TC.l a0)])] = (qck_t a0).run fun p => some (qck_mk p) := by kernel_rfl
theorem qck_s : ∀ xs r, qck_S xs = some (true, r) → runF tab FT D6 live 35 noLoops xs = some r := by
  intro xs r h
  unfold qck_S at h
  split at h
  · obtain ⟨h1, rfl⟩ := sp h
    exact fun_told (qck_e _) (qck_l _) h1
  · cases h
def D7 : Dt := also D6 35 qck_S
theorem d7 : DOk Go.Proofs.Tryd.prog tab D7 := d6.also mixed_ok tab_ok names_ok noLoops_ok qck_s
def qbi_g (x : List TC) : List TC := [TC.l (qck_v ((nth x 0).list))]
def qbi_z : List TC := [TC.l []]
theorem qbi_id {A : LL} (h : Typed tab (.slice 56) (.l A)) : A.map qbi_g = A := map_same fun x hx => by
  obtain ⟨hl, hk⟩ := typed_elem h hx
  have e0 : TC.l ((nth x 0).list) = nth x 0 := typed_list_eq (hk 0 (by decide))
  show [TC.l ((nth x 0).list)] = _
  rw [e0]
  exact (row_eta hl).symm
abbrev qbi_3_σ := LL × LL × Int
abbrev qbi_3_ω := (LL)
def qbi_3_step (A X : LL) (i : Int) : Tr (qbi_3_σ ⊕ qbi_3_ω) := (.ite ((decide (i < (A.length : Int))) = true) (.ite ((0 : Int) ≤ i ∧ i < (A.length : Int)) (.ite ((qck_c ((nth (row A i) 0).list)) = true) (.ite ((0 : Int) ≤ i ∧ i < (X.length : Int)) (.ok (.inl (A, (X.set (i).toNat (splice (row X i) 0 [TC.l (qck_v ((nth (row A i) 0).list))])), (IntKind.wrap .i64 (i + (1 : Int))))))
     .no)
    .no)
   .no)
  (.ok (.inr X)))
def qbi_3_st : qbi_3_σ → Tr (qbi_3_σ ⊕ qbi_3_ω) := fun x => (qbi_3_step (x.1) (x.2.1) (x.2.2))
def qbi_o3_1 (A X : LL) (i : Int) : Bool := is (Typed tab (.slice 56) (.l A) ∧ X = List.replicate A.length qbi_z ∧ i = 0)
def qbi_3_fin (A X : LL) (i : Int) : Told qbi_3_ω := (.leaf (qbi_o3_1 A X i) A)
def qbi_3_sl (x : qbi_3_σ) : List Slot := [⟨.val false [⟨.slice 56, .sh, TC.l (x.1)⟩], ⟨0, 0⟩⟩, ⟨.val false [⟨.slice 62, .own true, TC.l (x.2.1)⟩], ⟨0, 0⟩⟩, ⟨.val false [⟨.int .i64, .sh, TC.i (x.2.2)⟩], ⟨0, 0⟩⟩]
def qbi_3_out : qbi_3_ω → Ex × List Slot := (fun x => (.exit 0, [Slot.none, ⟨.val false [⟨.slice 62, .own true, TC.l x⟩], ⟨0, 0⟩⟩]))
def qbi_lo3 : List Slot → Option (Told (Ex × List Slot)) := fun s => match s with
  | [⟨.val false [⟨.slice 56, .sh, TC.l A⟩], ⟨0, 0⟩⟩, ⟨.val false [⟨.slice 62, .own true, TC.l X⟩], ⟨0, 0⟩⟩, ⟨.val false [⟨.int .i64, .sh, TC.i i⟩], ⟨0, 0⟩⟩] => some (((qbi_3_fin A X i)).map qbi_3_out)
  | _ => .none
def qbi_lo : LoopTeller := fun r s => bif Nat.beq r 3 then qbi_lo3 s else .none
theorem qbi_3_r (A X : LL) (i : Int) (fuel : Nat) : rounds (rnd tab FT D7 live 23 qbi_lo 0 3) leave (fuel + 1) (qbi_3_sl (A, X, i)) = ((qbi_3_step A X i)).run (goOn (fun s => rounds (rnd tab FT D7 live 23 qbi_lo 0 3) leave fuel (qbi_3_sl s)) fun w => some (qbi_3_out w)) := by kernel_rfl
theorem qbi_3_h (A X : LL) (i : Int) (ow : qbi_3_ω) : ((qbi_3_fin A X i)).val = some ow → ∃ fuel, loopN qbi_3_st fuel (A, X, i) = some ow := by
  intro h
  refine auto_leaf (R := A) (fun ho => ?_) h
  obtain ⟨ht, rfl, rfl⟩ := is_iff.1 ho
  have hlen : A.length ≤ 140737488351232 := by have := typed_room ht; simp only [show (tab 56).bytes = 24 from rfl] at this; omega
  have key := loopN_copy (step := qbi_3_st) A (List.replicate A.length qbi_z) qbi_g (fun Y i => (A, Y, (i : Int))) (A.map qbi_g) (by simp) (fun x hx i _ => by rw [(List.mem_replicate.1 hx).2]; exact Nat.le_refl 1) (fun Y i hi hl => ?_) ?_ A.length 0 (by omega)
  · rw [copied_zero, qbi_id ht] at key
    exact ⟨_, key⟩
  · have c0 : Typed tab (.slice 2) (.l (nth (A.getD i []) 0).list) := typed_list (typed_cell ht (A.getD i []) (mem_getD hi) 0 (by decide))
    show (qbi_3_step A Y (i : Int)).val = _
    unfold qbi_3_step
    refine Tr.t (by simp; omega) ?_
    refine Tr.t (by first | omega | (constructor <;> omega)) ?_
    refine Tr.t (by first | (apply is_true; and_intros <;> (first | rfl | assumption | (apply qx_cc <;> assumption) | (apply qj_cc <;> assumption) | (apply ql_cc <;> assumption) | (apply qt_cc <;> assumption) | (first | (apply is_true; and_intros <;> (first | rfl | assumption | (apply qx_cc <;> assumption) | (apply qj_cc <;> assumption) | (apply ql_cc <;> assumption) | (apply qt_cc <;> assumption) | (first | (apply is_true; and_intros <;> (first | rfl | assumption | (apply qx_cc <;> assumption) | (apply qj_cc <;> assumption) | (apply ql_cc <;> assumption) | (apply qt_cc <;> assumption) | (first | (apply is_true; and_intros <;> (first | rfl | assumption | (apply qx_cc <;> assumption) | (apply qj_cc <;> assumption) | (apply ql_cc <;> assumption) | (apply qt_cc <;> assumption))) | (apply qx_cc <;> assumption) | (apply qj_cc <;> assumption) | (apply ql_cc <;> assumption) | (apply qt_cc <;> assumption)))) | (apply qx_cc <;> assumption) | (apply qj_cc <;> assumption) | (apply ql_cc <;> assumption) | (apply qt_cc <;> assumption)))) | (apply qx_cc <;> assumption) | (apply qj_cc <;> assumption) | (apply ql_cc <;> assumption) | (apply qt_cc <;> assumption)))) | (apply qx_cc <;> assumption) | (apply qj_cc <;> assumption) | (apply ql_cc <;> assumption) | (apply qt_cc <;> assumption)) ?_
    refine Tr.t (by first | omega | (constructor <;> omega)) ?_
    rw [Tr.val_ok, wrap64 (i := (i : Int) + 1) (by omega) (by omega)]; rfl
  · show (qbi_3_step A (A.map qbi_g) (A.length : Int)).val = _
    refine Tr.n (by simp) ?_
    rfl
theorem qbi_is3 : LoopIs tab FT D7 live 23 qbi_lo 0 3 := by
  refine loop_told (sl := qbi_3_sl) (step := qbi_3_st) (out := qbi_3_out) (lor := qbi_lo3) (fin := fun x => (qbi_3_fin (x.1) (x.2.1) (x.2.2))) (fun _ => rfl) ?_ (fun x n => qbi_3_r x.1 x.2.1 x.2.2 n) (fun x ow => qbi_3_h x.1 x.2.1 x.2.2 ow)
  intro s t h
  unfold qbi_lo3 at h
  split at h
  · cases h; exact ⟨(_, _, _), rfl, rfl⟩
  · cases h
def qbi_t (A : LL) : Tr (LL) := (.ite (0 ≤ (A.length : Int) ∧ (A.length : Int) ≤ (A.length : Int) ∧ (A.length : Int) * 24 ≤ 140737488355328 ∧ (A.length : Int) ≤ 140737488355328) (.ite ((qbi_o3_1 A (List.replicate ((A.length : Int)).toNat [TC.l []]) (0 : Int)) = true) (.ok A)
   .no)
  .no)
def qbi_mk (p : LL) : Res := [(false, [⟨.slice 62, .own true, TC.l p⟩])]
def qbi_c (A : LL) : Bool := is (Typed tab (.slice 56) (.l A))
def qbi_v (A : LL) : LL := A
theorem qbi_l (A : LL) : (qbi_c A) = true → (qbi_t A).val = some (qbi_v A) := by
  intro h
  have ht := is_iff.1 h
  have hb := typed_room ht
  simp only [show (tab 56).bytes = 24 from rfl] at hb
  unfold qbi_t
  refine Tr.t (by omega) ?_
  refine Tr.t (is_true ⟨ht, by rfl, rfl⟩) ?_
  rfl
def qbi_S : List Arg → Option (Bool × Res) := fun xs => match xs with
  | [(false, [(.slice 56, TC.l A)])] => some ((qbi_c A), qbi_mk (qbi_v A))
  | _ => .none
theorem qbi_e (A : LL) : runF tab FT D7 live 23 qbi_lo [(false, [(.slice 56, TC.l A)])] = (qbi_t A).run fun p => some (qbi_mk p) := by kernel_rfl
theorem qbi_s : ∀ xs r, qbi_S xs = some (true, r) → runF tab FT D7 live 23 qbi_lo xs = some r := by
  intro xs r h
  unfold qbi_S at h
  split at h
  · obtain ⟨h1, rfl⟩ := sp h
    exact fun_told (qbi_e _) (qbi_l _) h1
  · cases h
def D8 : Dt := also D7 23 qbi_S
theorem d8 : DOk Go.Proofs.Tryd.prog tab D8 := d7.also mixed_ok tab_ok names_ok (fnLoops_one (by kernel_rfl) qbi_is3) qbi_s
theorem qbi_ty {A : LL} (h : Typed tab (.slice 56) (.l A)) : Typed tab (.slice 62) (.l A) := typed_iso iso_ok h (by decide)
def qbq_t (a0 : Int) (a1 a2 a3 a4 a5 : LL) : Tr (Int × LL × LL × LL × LL × LL) := (.ite ((qbe_c a1) = true) (.ite ((qbe_c a2) = true) (.ite ((qbe_c a3) = true) (.ite ((qbe_c a4) = true) (.ite ((qbi_c a5) = true) (.ok (a0, (qbe_v a1), (qbe_v a2), (qbe_v a3), (qbe_v a4), (qbi_v a5)))
      .no)
     .no)
    .no)
   .no)
  .no)
def qbq_mk (p : Int × LL × LL × LL × LL × LL) : Res := [(true, [⟨.int .i64, .sh, TC.i (p.1)⟩, ⟨.slice 2, .own true, TC.l (p.2.1)⟩, ⟨.slice 2, .own true, TC.l (p.2.2.1)⟩, ⟨.slice 2, .own true, TC.l (p.2.2.2.1)⟩, ⟨.slice 2, .own true, TC.l (p.2.2.2.2.1)⟩, ⟨.slice 62, .own true, TC.l (p.2.2.2.2.2)⟩])]
def qbq_c (a0 : Int) (a1 a2 a3 a4 a5 : LL) : Bool := is (((qbe_c a1) = true) ∧ ((qbe_c a2) = true) ∧ ((qbe_c a3) = true) ∧ ((qbe_c a4) = true) ∧ ((qbi_c a5) = true))
def qbq_v (a0 : Int) (a1 a2 a3 a4 a5 : LL) : Int × LL × LL × LL × LL × LL := (a0, (qbe_v a1), (qbe_v a2), (qbe_v a3), (qbe_v a4), (qbi_v a5))
theorem qbq_l (a0 : Int) (a1 a2 a3 a4 a5 : LL) : (qbq_c a0 a1 a2 a3 a4 a5) = true → (qbq_t a0 a1 a2 a3 a4 a5).val = some (qbq_v a0 a1 a2 a3 a4 a5) := by
  intro h
  obtain ⟨hc0, hc1, hc2, hc3, hc4⟩ := is_iff.1 h
  unfold qbq_t
  exact (Tr.t hc0 (Tr.t hc1 (Tr.t hc2 (Tr.t hc3 (Tr.t hc4 rfl)))))
def qbq_S : List Arg → Option (Bool × Res) := fun xs => match xs with
  | [(true, [(.int .i64, TC.i a0), (.slice 2, TC.l a1), (.slice 2, TC.l a2), (.slice 2, TC.l a3), (.slice 2, TC.l a4), (.slice 56, TC.l a5)])] => some ((qbq_c a0 a1 a2 a3 a4 a5), qbq_mk (qbq_v a0 a1 a2 a3 a4 a5))
  | _ => .none
theorem qbq_e (a0 : Int) (a1 a2 a3 a4 a5 : LL) : runF tab FT D8 live 12 noLoops [(true, [(.int .i64, TC.i a0), (.slice 2, TC.l a1), (.slice 2, TC.l a2), (.slice 2, TC.l a3), (.slice 2, TC.l a4), (.slice 56, TC.l a5)])] = (qbq_t a0 a1 a2 a3 a4 a5).run fun p => some (qbq_mk p) := by kernel_rfl
theorem qbq_s : ∀ xs r, qbq_S xs = some (true, r) → runF tab FT D8 live 12 noLoops xs = some r := by
  intro xs r h
  unfold qbq_S at h
  split at h
  · obtain ⟨h1, rfl⟩ := sp h
    exact fun_told (qbq_e ..) (qbq_l _ _ _ _ _ _) h1
  · cases h
def D9 : Dt := also D8 12 qbq_S
theorem d9 : DOk Go.Proofs.Tryd.prog tab D9 := d8.also mixed_ok tab_ok names_ok noLoops_ok qbq_s
def qbb_t (a0 : BS) (a1 : Int) (a2 a3 a4 a5 a6 : LL) (a7 : Int) (a8 a9 a10 a11 a12 : LL) : Tr (BS × Int × LL × LL × LL × LL × LL × Int × LL × LL × LL × LL × LL) := (.ite ((qbq_c a1 a2 a3 a4 a5 a6) = true) (.ite ((qbq_c a7 a8 a9 a10 a11 a12) = true) (.ok (a0, (qbq_v a1 a2 a3 a4 a5 a6).1, (qbq_v a1 a2 a3 a4 a5 a6).2.1, (qbq_v a1 a2 a3 a4 a5 a6).2.2.1, (qbq_v a1 a2 a3 a4 a5 a6).2.2.2.1, (qbq_v a1 a2 a3 a4 a5 a6).2.2.2.2.1, (qbq_v a1 a2 a3 a4 a5 a6).2.2.2.2.2, (qbq_v a7 a8 a9 a10 a11 a12).1, (qbq_v a7 a8 a9 a10 a11 a12).2.1, (qbq_v a7 a8 a9 a10 a11 a12).2.2.1, (qbq_v a7 a8 a9 a10 a11 a12).2.2.2.1, (qbq_v a7 a8 a9 a10 a11 a12).2.2.2.2.1, (qbq_v a7 a8 a9 a10 a11 a12).2.2.2.2.2))
   .no)
  .no)
def qbb_mk (p : BS × Int × LL × LL × LL × LL × LL × Int × LL × LL × LL × LL × LL) : Res := [(true, [⟨.str, .sh, TC.s (p.1)⟩, ⟨.int .i64, .sh, TC.i (p.2.1)⟩, ⟨.slice 2, .own true, TC.l (p.2.2.1)⟩, ⟨.slice 2, .own true, TC.l (p.2.2.2.1)⟩, ⟨.slice 2, .own true, TC.l (p.2.2.2.2.1)⟩, ⟨.slice 2, .own true, TC.l (p.2.2.2.2.2.1)⟩, ⟨.slice 62, .own true, TC.l (p.2.2.2.2.2.2.1)⟩, ⟨.int .i64, .sh, TC.i (p.2.2.2.2.2.2.2.1)⟩, ⟨.slice 2, .own true, TC.l (p.2.2.2.2.2.2.2.2.1)⟩, ⟨.slice 2, .own true, TC.l (p.2.2.2.2.2.2.2.2.2.1)⟩, ⟨.slice 2, .own true, TC.l (p.2.2.2.2.2.2.2.2.2.2.1)⟩, ⟨.slice 2, .own true, TC.l (p.2.2.2.2.2.2.2.2.2.2.2.1)⟩, ⟨.slice 62, .own true, TC.l (p.2.2.2.2.2.2.2.2.2.2.2.2)⟩])]
def qbb_c (a0 : BS) (a1 : Int) (a2 a3 a4 a5 a6 : LL) (a7 : Int) (a8 a9 a10 a11 a12 : LL) : Bool := is (((qbq_c a1 a2 a3 a4 a5 a6) = true) ∧ ((qbq_c a7 a8 a9 a10 a11 a12) = true))
def qbb_v (a0 : BS) (a1 : Int) (a2 a3 a4 a5 a6 : LL) (a7 : Int) (a8 a9 a10 a11 a12 : LL) : BS × Int × LL × LL × LL × LL × LL × Int × LL × LL × LL × LL × LL := (a0, (qbq_v a1 a2 a3 a4 a5 a6).1, (qbq_v a1 a2 a3 a4 a5 a6).2.1, (qbq_v a1 a2 a3 a4 a5 a6).2.2.1, (qbq_v a1 a2 a3 a4 a5 a6).2.2.2.1, (qbq_v a1 a2 a3 a4 a5 a6).2.2.2.2.1, (qbq_v a1 a2 a3 a4 a5 a6).2.2.2.2.2, (qbq_v a7 a8 a9 a10 a11 a12).1, (qbq_v a7 a8 a9 a10 a11 a12).2.1, (qbq_v a7 a8 a9 a10 a11 a12).2.2.1, (qbq_v a7 a8 a9 a10 a11 a12).2.2.2.1, (qbq_v a7 a8 a9 a10 a11 a12).2.2.2.2.1, (qbq_v a7 a8 a9 a10 a11 a12).2.2.2.2.2)
theorem qbb_l (a0 : BS) (a1 : Int) (a2 a3 a4 a5 a6 : LL) (a7 : Int) (a8 a9 a10 a11 a12 : LL) : (qbb_c a0 a1 a2 a3 a4 a5 a6 a7 a8 a9 a10 a11 a12) = true → (qbb_t a0 a1 a2 a3 a4 a5 a6 a7 a8 a9 a10 a11 a12).val = some (qbb_v a0 a1 a2 a3 a4 a5 a6 a7 a8 a9 a10 a11 a12) := by
  intro h
  obtain ⟨hc0, hc1⟩ := is_iff.1 h
  unfold qbb_t
  exact (Tr.t hc0 (Tr.t hc1 rfl))
def qbb_S : List Arg → Option (Bool × Res) := fun xs => match xs with
  | [(true, [(.str, TC.s a0), (.int .i64, TC.i a1), (.slice 2, TC.l a2), (.slice 2, TC.l a3), (.slice 2, TC.l a4), (.slice 2, TC.l a5), (.slice 56, TC.l a6), (.int .i64, TC.i a7), (.slice 2, TC.l a8), (.slice 2, TC.l a9), (.slice 2, TC.l a10), (.slice 2, TC.l a11), (.slice 56, TC.l a12)])] => some ((qbb_c a0 a1 a2 a3 a4 a5 a6 a7 a8 a9 a10 a11 a12), qbb_mk (qbb_v a0 a1 a2 a3 a4 a5 a6 a7 a8 a9 a10 a11 a12))
  | _ => .none
theorem qbb_e (a0 : BS) (a1 : Int) (a2 a3 a4 a5 a6 : LL) (a7 : Int) (a8 a9 a10 a11 a12 : LL) : runF tab FT D9 live 6 noLoops [(true, [(.str, TC.s a0), (.int .i64, TC.i a1), (.slice 2, TC.l a2), (.slice 2, TC.l a3), (.slice 2, TC.l a4), (.slice 2, TC.l a5), (.slice 56, TC.l a6), (.int .i64, TC.i a7), (.slice 2, TC.l a8), (.slice 2, TC.l a9), (.slice 2, TC.l a10), (.slice 2, TC.l a11), (.slice 56, TC.l a12)])] = (qbb_t a0 a1 a2 a3 a4 a5 a6 a7 a8 a9 a10 a11 a12).run fun p => some (qbb_mk p) := by kernel_rfl
theorem qbb_s : ∀ xs r, qbb_S xs = some (true, r) → runF tab FT D9 live 6 noLoops xs = some r := by
  intro xs r h
  unfold qbb_S at h
  split at h
  · obtain ⟨h1, rfl⟩ := sp h
    exact fun_told (qbb_e ..) (qbb_l _ _ _ _ _ _ _ _ _ _ _ _ _) h1
  · cases h
def D10 : Dt := also D9 6 qbb_S
theorem d10 : DOk Go.Proofs.Tryd.prog tab D10 := d9.also mixed_ok tab_ok names_ok noLoops_ok qbb_s
def qca_t (a0 : Int) : Tr (Bool) := (.ite ((decide (a0 ≥ (65 : Int))) = true) (.ite ((decide (a0 ≤ (90 : Int))) = true) (.ok true)
   (.ite ((decide (a0 ≥ (97 : Int))) = true) (.ok (decide (a0 ≤ (122 : Int))))
    (.ok false)))
  (.ite ((decide (a0 ≥ (97 : Int))) = true) (.ok (decide (a0 ≤ (122 : Int))))
   (.ok false)))
def qca_mk (p : Bool) : Res := [(false, [⟨.bool, .sh, TC.b p⟩])]
def qca_c (a0 : Int) : Bool := true
def qca_v (a0 : Int) : Bool := (bif (decide (a0 ≥ (65 : Int))) then (bif (decide (a0 ≤ (90 : Int))) then true else (bif (decide (a0 ≥ (97 : Int))) then (decide (a0 ≤ (122 : Int))) else false)) else (bif (decide (a0 ≥ (97 : Int))) then (decide (a0 ≤ (122 : Int))) else false))
theorem qca_l (a0 : Int) : (qca_c a0) = true → (qca_t a0).val = some (qca_v a0) := by
  intro h
  skip
  unfold qca_t qca_v
  exact (Tr.s (Tr.s rfl (Tr.s rfl rfl)) (Tr.s rfl rfl))
def qca_S : List Arg → Option (Bool × Res) := fun xs => match xs with
  | [(false, [(.int .u8, TC.i a0)])] => some (true, qca_mk (qca_v a0))
  | _ => .none
theorem qca_e (a0 : Int) : runF tab FT D10 live 63 noLoops [(false, [(.int .u8, TC.i a0)])] = (qca_t a0).run fun p => some (qca_mk p) := by kernel_rfl
theorem qca_s : ∀ xs r, qca_S xs = some (true, r) → runF tab FT D10 live 63 noLoops xs = some r := by
  intro xs r h
  unfold qca_S at h
  split at h
  · obtain ⟨h1, rfl⟩ := sp h
    exact fun_told (qca_e _) (qca_l _) rfl
  · cases h
def D11 : Dt := also D10 63 qca_S
theorem d11 : DOk Go.Proofs.Tryd.prog tab D11 := d10.also mixed_ok tab_ok names_ok noLoops_ok qca_s
def qp_f4 (s : BS) (i : Int) : (Unit) ⊕ ((Unit) ⊕ (Unit)) := (bif (!(qca_v ((s.getD (i).toNat 0).toNat : Int))) then (bif (decide (((s.getD (i).toNat 0).toNat : Int) ≥ (48 : Int))) then (bif (!(decide (((s.getD (i).toNat 0).toNat : Int) ≤ (57 : Int)))) then (bif (!(((s.getD (i).toNat 0).toNat : Int) == (95 : Int))) then (.inr (.inl ())) else (.inl ())) else (.inl ())) else (bif (!(((s.getD (i).toNat 0).toNat : Int) == (95 : Int))) then (.inr (.inl ())) else (.inl ()))) else (.inl ()))
def qp_e4 (s : BS) : (Unit) ⊕ (Unit) := .inr ()
def qp_R4 (s : BS) (i : Int) : (Unit) ⊕ (Unit) := iter (fun i a => (qp_f4 s ((i + 1 : Nat) : Int))) (fun a => (qp_e4 s)) (s.length - 1) 0 ()
abbrev qp_4_σ := BS × Int
abbrev qp_4_ω := (Unit) ⊕ (Unit)
def qp_4_step (s : BS) (i : Int) : Tr (qp_4_σ ⊕ qp_4_ω) := (.ite ((decide (i < (s.length : Int))) = true) (.ite ((0 : Int) ≤ i ∧ i < (s.length : Int)) (.ite ((!(qca_v ((s.getD (i).toNat 0).toNat : Int))) = true) (.ite ((0 : Int) ≤ i ∧ i < (s.length : Int)) (.ite ((decide (((s.getD (i).toNat 0).toNat : Int) ≥ (48 : Int))) = true) (.ite ((0 : Int) ≤ i ∧ i < (s.length : Int)) (.ite ((!(decide (((s.getD (i).toNat 0).toNat : Int) ≤ (57 : Int)))) = true) (.ite ((0 : Int) ≤ i ∧ i < (s.length : Int)) (.ite ((!(((s.getD (i).toNat 0).toNat : Int) == (95 : Int))) = true) (.ok (.inr (.inl ())))
          (.ok (.inl (s, (IntKind.wrap .i64 (i + (1 : Int)))))))
         .no)
        (.ok (.inl (s, (IntKind.wrap .i64 (i + (1 : Int)))))))
       .no)
      (.ite ((0 : Int) ≤ i ∧ i < (s.length : Int)) (.ite ((!(((s.getD (i).toNat 0).toNat : Int) == (95 : Int))) = true) (.ok (.inr (.inl ())))
        (.ok (.inl (s, (IntKind.wrap .i64 (i + (1 : Int)))))))
       .no))
     .no)
    (.ok (.inl (s, (IntKind.wrap .i64 (i + (1 : Int)))))))
   .no)
  (.ok (.inr (.inr ()))))
def qp_4_st : qp_4_σ → Tr (qp_4_σ ⊕ qp_4_ω) := fun x => (qp_4_step (x.1) (x.2))
def qp_k4_1 (s : BS) (i : Int) : Bool := sumIs (qp_R4 s i)
def qp_o4_2 (s : BS) (i : Int) : Bool := is (i = 1 ∧ s.length ≤ 140737488355328)
def qp_o4_3 (s : BS) (i : Int) : Bool := is (i = 1 ∧ s.length ≤ 140737488355328)
def qp_4_fin (s : BS) (i : Int) : Told qp_4_ω := (.br (qp_k4_1 s i) (.leaf (qp_o4_2 s i) (.inl ())) (.leaf (qp_o4_3 s i) (.inr ())))
def qp_4_sl (x : qp_4_σ) : List Slot := [⟨.val false [⟨.str, .sh, TC.s (x.1)⟩], ⟨0, 0⟩⟩, ⟨.val false [⟨.int .i64, .sh, TC.i (x.2)⟩], ⟨0, 0⟩⟩]
def qp_4_out : qp_4_ω → Ex × List Slot := (Sum.elim (fun x => (.ret, [⟨.val false [⟨.bool, .sh, TC.b false⟩], ⟨0, 0⟩⟩])) (fun x => (.exit 0, [Slot.none])))
def qp_lo4 : List Slot → Option (Told (Ex × List Slot)) := fun s => match s with
  | [⟨.val false [⟨.str, .sh, TC.s s⟩], ⟨0, 0⟩⟩, ⟨.val false [⟨.int .i64, .sh, TC.i i⟩], ⟨0, 0⟩⟩] => some (((qp_4_fin s i)).map qp_4_out)
  | _ => .none
def qp_lo : LoopTeller := fun r s => bif Nat.beq r 4 then qp_lo4 s else .none
theorem qp_4_r (s : BS) (i : Int) (fuel : Nat) : rounds (rnd tab FT D11 live 44 qp_lo 0 4) leave (fuel + 1) (qp_4_sl (s, i)) = ((qp_4_step s i)).run (goOn (fun s => rounds (rnd tab FT D11 live 44 qp_lo 0 4) leave fuel (qp_4_sl s)) fun w => some (qp_4_out w)) := by kernel_rfl
theorem qp_f4_eq (s : BS) (i : Int) : qp_f4 s i = bif (letterB ((s.getD (i).toNat 0).toNat : Int) || ((decide (((s.getD (i).toNat 0).toNat : Int) ≥ 48) && decide (((s.getD (i).toNat 0).toNat : Int) ≤ 57)) || ((s.getD (i).toNat 0).toNat : Int) == 95)) then Sum.inl () else Sum.inr (Sum.inl ()) := by
  unfold qp_f4 letterB
  simp only [qca_v, dlt, dgt]
  generalize ((s.getD i.toNat 0).toNat : Int) = c
  generalize decide (c ≥ 65) = p0, decide (c ≤ 90) = p1, decide (c ≥ 97) = p2, decide (c ≤ 122) = p3, decide (c ≥ 48) = p4, decide (c ≤ 57) = p5, (c == 95) = p6
  cases p0 <;> cases p1 <;> cases p2 <;> cases p3 <;> cases p4 <;> cases p5 <;> cases p6 <;> rfl
theorem qp_R4_eq (s : BS)  : qp_R4 s 1 = bif allI (fun i : Nat => (letterB ((s.getD (((i + 1 : Nat) : Int)).toNat 0).toNat : Int) || ((decide (((s.getD (((i + 1 : Nat) : Int)).toNat 0).toNat : Int) ≥ 48) && decide (((s.getD (((i + 1 : Nat) : Int)).toNat 0).toNat : Int) ≤ 57)) || ((s.getD (((i + 1 : Nat) : Int)).toNat 0).toNat : Int) == 95))) (s.length - 1) then Sum.inr () else (Sum.inl ()) := by
  unfold qp_R4
  exact (iter_all (P := (fun i : Nat => (letterB ((s.getD (((i + 1 : Nat) : Int)).toNat 0).toNat : Int) || ((decide (((s.getD (((i + 1 : Nat) : Int)).toNat 0).toNat : Int) ≥ 48) && decide (((s.getD (((i + 1 : Nat) : Int)).toNat 0).toNat : Int) ≤ 57)) || ((s.getD (((i + 1 : Nat) : Int)).toNat 0).toNat : Int) == 95)))) (g := fun _ a => a) (w := Sum.inl ()) fun j a _ => qp_f4_eq s _)
theorem qp_4_h (s : BS) (i : Int) (ow : qp_4_ω) : ((qp_4_fin s i)).val = some ow → ∃ fuel, loopN qp_4_st fuel (s, i) = some ow := by
  refine auto_const (R := (qp_R4 s i)) rfl (iter_onR (f := (fun i a => (qp_f4 s ((i + 1 : Nat) : Int)))) (fin := (fun a => (qp_e4 s))) (Q := endsAs () ()) (fun i a => by unfold qp_f4; exact (onR_bif (onR_bif (onR_bif (onR_bif rfl trivial) trivial) (onR_bif rfl trivial)) trivial)) (fun _ => rfl) _ _ _) ?_
  intro ho
  have ho : is (i = 1 ∧ s.length ≤ 140737488355328) = true := ho.elim id id
  obtain ⟨rfl, hs⟩ := is_iff.1 ho
  skip
  refine ⟨(s.length - 1) + 1, ?_⟩
  refine iter_loop (step := qp_4_st) (s.length - 1) (fun i a => (qp_f4 s ((i + 1 : Nat) : Int))) (fun a => (qp_e4 s)) (fun i a => (s, ((i + 1 : Nat) : Int))) (fun _ _ => True) trivial (fun i a hi hI => ⟨?_, fun _ _ => trivial⟩) (fun a hI => ?_)
  · show (qp_4_step s ((i + 1 : Nat) : Int)).val = _
    unfold qp_4_step qp_f4
    skip
    refine Tr.t (by simp; omega) ?_
    exact (Tr.t (by first | omega | (constructor <;> omega)) (Tr.bf (Tr.t (by first | omega | (constructor <;> omega)) (Tr.bf (Tr.t (by first | omega | (constructor <;> omega)) (Tr.bf (Tr.t (by first | omega | (constructor <;> omega)) (Tr.bf rfl (by rw [Tr.val_ok, wrap64 (i := ((i + 1 : Nat) : Int) + 1) (by omega) (by omega)]; rfl))) (by rw [Tr.val_ok, wrap64 (i := ((i + 1 : Nat) : Int) + 1) (by omega) (by omega)]; rfl))) (Tr.t (by first | omega | (constructor <;> omega)) (Tr.bf rfl (by rw [Tr.val_ok, wrap64 (i := ((i + 1 : Nat) : Int) + 1) (by omega) (by omega)]; rfl))))) (by rw [Tr.val_ok, wrap64 (i := ((i + 1 : Nat) : Int) + 1) (by omega) (by omega)]; rfl)))
  · show (qp_4_step s ((s.length - 1 + 1 : Nat) : Int)).val = _
    refine Tr.n (by first | (simp; done) | (simp; omega) | omega) ?_
    rfl
theorem qp_is4 : LoopIs tab FT D11 live 44 qp_lo 0 4 := by
  refine loop_told (sl := qp_4_sl) (step := qp_4_st) (out := qp_4_out) (lor := qp_lo4) (fin := fun x => (qp_4_fin (x.1) (x.2))) (fun _ => rfl) ?_ (fun x n => qp_4_r x.1 x.2 n) (fun x ow => qp_4_h x.1 x.2 ow)
  intro s t h
  unfold qp_lo4 at h
  split at h
  · cases h; exact ⟨(_, _), rfl, rfl⟩
  · cases h
def qp_t (s : BS) : Tr (Bool) := (.ite (((s.length : Int) == (0 : Int)) = true) (.ok false)
  (.ite ((decide ((s.length : Int) > (12 : Int))) = true) (.ok false)
   (.ite ((0 : Int) ≤ (0 : Int) ∧ (0 : Int) < (s.length : Int)) (.ite ((!(qca_v ((s.getD ((0 : Int)).toNat 0).toNat : Int))) = true) (.ok false)
     (.ite ((qp_k4_1 s (1 : Int)) = true) (.ite ((qp_o4_2 s (1 : Int)) = true) (.ok false)
       .no)
      (.ite ((qp_o4_3 s (1 : Int)) = true) (.ok true)
       .no)))
    .no)))
def qp_mk (p : Bool) : Res := [(false, [⟨.bool, .sh, TC.b p⟩])]
def qp_c (s : BS) : Bool := (bif ((s.length : Int) == (0 : Int)) then true else (bif (decide ((s.length : Int) > (12 : Int))) then true else (is ((0 : Int) ≤ (0 : Int) ∧ (0 : Int) < (s.length : Int)) && (bif (!(qca_v ((s.getD ((0 : Int)).toNat 0).toNat : Int))) then true else (bif (qp_k4_1 s (1 : Int)) then ((qp_o4_2 s (1 : Int)) && true) else ((qp_o4_3 s (1 : Int)) && true))))))
def qp_v (s : BS) : Bool := (bif ((s.length : Int) == (0 : Int)) then false else (bif (decide ((s.length : Int) > (12 : Int))) then false else (bif (!(qca_v ((s.getD ((0 : Int)).toNat 0).toNat : Int))) then false else (bif (qp_k4_1 s (1 : Int)) then false else true))))
theorem qp_l (s : BS) : (qp_c s) = true → (qp_t s).val = some (qp_v s) := by
  unfold qp_t qp_v qp_c
  exact fun h => (Tr.ss h (fun h => rfl) (fun h => (Tr.ss h (fun h => rfl) (fun h => (Tr.gs h fun h => (Tr.ss h (fun h => rfl) (fun h => (Tr.ss h (fun h => (Tr.gb h fun h => rfl)) (fun h => (Tr.gb h fun h => rfl))))))))))
def qp_S : List Arg → Option (Bool × Res) := fun xs => match xs with
  | [(false, [(.str, TC.s s)])] => some ((qp_c s), qp_mk (qp_v s))
  | _ => .none
theorem qp_e (s : BS) : runF tab FT D11 live 44 qp_lo [(false, [(.str, TC.s s)])] = (qp_t s).run fun p => some (qp_mk p) := by kernel_rfl
theorem qp_s : ∀ xs r, qp_S xs = some (true, r) → runF tab FT D11 live 44 qp_lo xs = some r := by
  intro xs r h
  unfold qp_S at h
  split at h
  · obtain ⟨h1, rfl⟩ := sp h
    exact fun_told (qp_e _) (qp_l _) h1
  · cases h
def D12 : Dt := also D11 44 qp_S
theorem d12 : DOk Go.Proofs.Tryd.prog tab D12 := d11.also mixed_ok tab_ok names_ok (fnLoops_one (by kernel_rfl) qp_is4) qp_s
theorem qp_cc {s : BS} (hs : Typed tab (.str) (.s s)) : (qp_c s) = true := by
  unfold qp_c
  refine bifT (fun b1 => ?_) (fun b1 => ?_)
  · skip
    rfl
  · skip
    refine bifT (fun b2 => ?_) (fun b2 => ?_)
    · skip
      rfl
    · skip
      refine andT (is_true (by exact ⟨by omega, by have h2 := ne_of_beq_false b1; omega⟩)) ?_
      refine bifT (fun b3 => ?_) (fun b3 => ?_)
      · skip
        rfl
      · skip
        refine bifT (fun b4 => ?_) (fun b4 => ?_)
        · skip
          refine andT (by exact is_true ⟨rfl, by have := typed_str_len hs; omega⟩) ?_
          rfl
        · skip
          refine andT (by exact is_true ⟨rfl, by have := typed_str_len hs; omega⟩) ?_
          rfl
theorem qp_vv (s : BS) : qp_v s = nameOk s := by
  unfold qp_v qp_k4_1
  rw [qp_R4_eq]
  have e3 : qca_v ((s.getD ((0 : Int)).toNat 0).toNat : Int) = nameB ((0 : Nat) : Int) ((s.getD (((0 : Nat) : Int)).toNat 0).toNat : Int) := by
    unfold qca_v nameB letterB
    generalize ((s.getD ((0 : Int)).toNat 0).toNat : Int) = c
    generalize decide (c ≥ 65) = p1, decide (c ≤ 90) = p2, decide (c ≥ 97) = p3, decide (c ≤ 122) = p4
    cases p1 <;> cases p2 <;> cases p3 <;> cases p4 <;> rfl
  rw [e3]
  cases h0 : s.length with
  | zero =>
    have : s = [] := List.eq_nil_of_length_eq_zero h0
    subst this
    rfl
  | succ n =>
    have e2 : allI (fun i : Nat => nameB ((i + 1 : Nat) : Int) ((s.getD (((i + 1 : Nat) : Int)).toNat 0).toNat : Int)) n = allI (fun i : Nat => (letterB ((s.getD (((i + 1 : Nat) : Int)).toNat 0).toNat : Int) || ((decide (((s.getD (((i + 1 : Nat) : Int)).toNat 0).toNat : Int) ≥ 48) && decide (((s.getD (((i + 1 : Nat) : Int)).toNat 0).toNat : Int) ≤ 57)) || ((s.getD (((i + 1 : Nat) : Int)).toNat 0).toNat : Int) == 95))) n := allI_congr fun i _ => by
      unfold nameB
      rw [show (((i + 1 : Nat) : Int) == 0) = false from by simp; omega]
      rfl
    unfold nameOk
    rw [h0, allI_head, e2, Nat.add_sub_cancel]
    rw [show (((n + 1 : Nat) : Int) == 0) = false from by simp; omega, show decide (((n + 1 : Nat) : Int) ≥ 1) = true from by simp; omega, dgt]
    generalize nameB ((0 : Nat) : Int) ((s.getD (((0 : Nat) : Int)).toNat 0).toNat : Int) = q1
    generalize allI (fun i : Nat => (letterB ((s.getD (((i + 1 : Nat) : Int)).toNat 0).toNat : Int) || ((decide (((s.getD (((i + 1 : Nat) : Int)).toNat 0).toNat : Int) ≥ 48) && decide (((s.getD (((i + 1 : Nat) : Int)).toNat 0).toNat : Int) ≤ 57)) || ((s.getD (((i + 1 : Nat) : Int)).toNat 0).toNat : Int) == 95))) n = q2
    generalize decide (((n + 1 : Nat) : Int) ≤ 12) = q3
    cases q1 <;> cases q2 <;> cases q3 <;> rfl
abbrev qi_8_σ := BS × LL × Int × Int
abbrev qi_8_ω := (LL × LL) ⊕ (LL)
def qi_8_step (s : BS) (o : LL) (f i : Int) : Tr (qi_8_σ ⊕ qi_8_ω) := (.ite ((decide (i ≤ (s.length : Int))) = true) (.ite ((decide (i < (s.length : Int))) = true) (.ite ((0 : Int) ≤ i ∧ i < (s.length : Int)) (.ite ((!(((s.getD (i).toNat 0).toNat : Int) == (47 : Int))) = true) (.ok (.inl (s, o, f, (IntKind.wrap .i64 (i + (1 : Int))))))
     (.ite ((0 : Int) ≤ f ∧ f ≤ i ∧ i ≤ (s.length : Int)) (.ite ((qp_c ((s.take (i).toNat).drop (f).toNat)) = true) (.ite ((!(qp_v ((s.take (i).toNat).drop (f).toNat))) = true) (.ok (.inr (.inl ([], o))))
        (.ite ((0 : Int) ≤ f ∧ f ≤ i ∧ i ≤ (s.length : Int)) (.ite (roomFor (tab 9) (o ++ [[TC.s ((s.take (i).toNat).drop (f).toNat)]]).length) (.ok (.inl (s, (o ++ [[TC.s ((s.take (i).toNat).drop (f).toNat)]]), (IntKind.wrap .i64 (i + (1 : Int))), (IntKind.wrap .i64 (i + (1 : Int))))))
          .no)
         .no))
       .no)
      .no))
    .no)
   (.ite ((0 : Int) ≤ f ∧ f ≤ i ∧ i ≤ (s.length : Int)) (.ite ((qp_c ((s.take (i).toNat).drop (f).toNat)) = true) (.ite ((!(qp_v ((s.take (i).toNat).drop (f).toNat))) = true) (.ok (.inr (.inl ([], o))))
      (.ite ((0 : Int) ≤ f ∧ f ≤ i ∧ i ≤ (s.length : Int)) (.ite (roomFor (tab 9) (o ++ [[TC.s ((s.take (i).toNat).drop (f).toNat)]]).length) (.ok (.inl (s, (o ++ [[TC.s ((s.take (i).toNat).drop (f).toNat)]]), (IntKind.wrap .i64 (i + (1 : Int))), (IntKind.wrap .i64 (i + (1 : Int))))))
        .no)
       .no))
     .no)
    .no))
  (.ok (.inr (.inr o))))
def qi_8_st : qi_8_σ → Tr (qi_8_σ ⊕ qi_8_ω) := fun x => (qi_8_step (x.1) (x.2.1) (x.2.2.1) (x.2.2.2))
def qi_k8_1 (s : BS) (o : LL) (f i : Int) : Bool := (pcs (s.drop 1)).all nameOk
def qi_o8_2 (s : BS) (o : LL) (f i : Int) : Bool := is (o = [] ∧ f = 1 ∧ i = 1 ∧ 1 ≤ s.length ∧ s.length ≤ 1048576)
def qi_u8_2 (s : BS) (o : LL) (f i : Int) : LL := rowsS (pcs (s.drop 1))
def qi_o8_3 (s : BS) (o : LL) (f i : Int) : Bool := is (o = [] ∧ f = 1 ∧ i = 1 ∧ 1 ≤ s.length ∧ s.length ≤ 1048576)
def qi_u8_3_0 (s : BS) (o : LL) (f i : Int) : LL := []
def qi_u8_3_1 (s : BS) (o : LL) (f i : Int) : LL := rowsS ((pcs (s.drop 1)).takeWhile nameOk)
def qi_8_fin (s : BS) (o : LL) (f i : Int) : Told qi_8_ω := (.br (qi_k8_1 s o f i) (.leaf (qi_o8_2 s o f i) (.inr (qi_u8_2 s o f i))) (.leaf (qi_o8_3 s o f i) (.inl ((qi_u8_3_0 s o f i), (qi_u8_3_1 s o f i)))))
def qi_8_sl (x : qi_8_σ) : List Slot := [⟨.val false [⟨.str, .sh, TC.s (x.1)⟩], ⟨0, 0⟩⟩, ⟨.val false [⟨.slice 9, .own true, TC.l (x.2.1)⟩], ⟨0, 0⟩⟩, ⟨.val false [⟨.int .i64, .sh, TC.i (x.2.2.1)⟩], ⟨0, 0⟩⟩, ⟨.val false [⟨.int .i64, .sh, TC.i (x.2.2.2)⟩], ⟨0, 0⟩⟩]
def qi_8_out : qi_8_ω → Ex × List Slot := (Sum.elim (fun x => (.ret, [⟨.val false [⟨.slice 9, .own true, TC.l (x.1)⟩], ⟨0, 0⟩⟩, ⟨.val false [⟨.bool, .sh, TC.b false⟩], ⟨0, 0⟩⟩, ⟨.val false [⟨.slice 9, .own true, TC.l (x.2)⟩], ⟨0, 0⟩⟩])) (fun x => (.exit 0, [Slot.none, Slot.none, ⟨.val false [⟨.slice 9, .own true, TC.l x⟩], ⟨0, 0⟩⟩])))
def qi_lo8 : List Slot → Option (Told (Ex × List Slot)) := fun s => match s with
  | [⟨.val false [⟨.str, .sh, TC.s s⟩], ⟨0, 0⟩⟩, ⟨.val false [⟨.slice 9, .own true, TC.l o⟩], ⟨0, 0⟩⟩, ⟨.val false [⟨.int .i64, .sh, TC.i f⟩], ⟨0, 0⟩⟩, ⟨.val false [⟨.int .i64, .sh, TC.i i⟩], ⟨0, 0⟩⟩] => some (((qi_8_fin s o f i)).map qi_8_out)
  | _ => .none
def qi_lo : LoopTeller := fun r s => bif Nat.beq r 8 then qi_lo8 s else .none
theorem qi_8_r (s : BS) (o : LL) (f i : Int) (fuel : Nat) : rounds (rnd tab FT D12 live 31 qi_lo 0 8) leave (fuel + 1) (qi_8_sl (s, o, f, i)) = ((qi_8_step s o f i)).run (goOn (fun s => rounds (rnd tab FT D12 live 31 qi_lo 0 8) leave fuel (qi_8_sl s)) fun w => some (qi_8_out w)) := by kernel_rfl
theorem qi_8_h (s : BS) (o : LL) (f i : Int) (ow : qi_8_ω) : ((qi_8_fin s o f i)).val = some ow → ∃ fuel, loopN qi_8_st fuel (s, o, f, i) = some ow := by
  intro h
  refine auto_br (K := (pcs (s.drop 1)).all nameOk) rfl (fun ho => ?_) h
  have ho := ho.elim id id
  obtain ⟨rfl, rfl, rfl, h0, hs⟩ := is_iff.1 ho
  show ∃ M, loopN qi_8_st M (s, [], 1, 1) = some (bif (pcs (s.drop 1)).all nameOk then .inr (rowsS (pcs (s.drop 1))) else .inl ([], rowsS ((pcs (s.drop 1)).takeWhile nameOk)))
  have hc : ∀ f i, qp_c (piece s f i) = true := fun f i => qp_cc (.str _ (by unfold piece reachBytes; rw [List.length_drop, List.length_take]; omega))
  have key := loopN_pieces (step := qi_8_st) s (fun o => .inr o) (fun o => .inl ([], o)) (fun f i o hi hc7 => ?_) (fun f i o hf hi ho h7 hk => ?_) (fun f i o hf hi h7 hk => ?_) (fun f o => ?_) (s.length - 1) 1 1 [] (Nat.le_refl _) (by omega) (Nat.zero_le _)
  · rw [piece_self, hdl_nil (pcs_ne _), List.nil_append, List.nil_append] at key
    exact key
  · show (qi_8_step s o (f : Int) (i : Int)).val = _
    unfold qi_8_step
    have e7 : (!(((s.getD ((i : Int)).toNat 0).toNat : Int) == (47 : Int))) = true := by
      rw [Int.toNat_natCast, List.getD_eq_getElem?_getD, List.getElem?_eq_getElem hi]
      simp only [Option.getD_some, Bool.not_eq_true', beq_eq_false_iff_ne]
      exact fun e => hc7 (UInt8.toNat_inj.1 (by show s[i].toNat = 47; omega))
    refine Tr.t (by simp; omega) (Tr.t (by simp; omega) (Tr.t (by omega) (Tr.t e7 ?_)))
    rw [Tr.val_ok, wrap64 (i := (i : Int) + 1) (by omega) (by omega)]
    rfl
  · show (qi_8_step s o (f : Int) (i : Int)).val = _
    unfold qi_8_step
    have hv : ¬(!(qp_v (piece s f i))) = true := fun h => nomatch ((show (!(qp_v (piece s f i))) = false from by rw [qp_vv, hk]; rfl).symm.trans h)
    have hr : roomFor (tab 9) (o ++ [[TC.s (piece s f i)]]).length := by
      unfold roomFor
      rw [List.length_append, show (tab 9).bytes = 16 from rfl]
      simp only [List.length_cons, List.length_nil]
      constructor <;> omega
    refine Tr.t (by simp; omega) ?_
    have e7 : i < s.length → ¬(!(((s.getD ((i : Int)).toNat 0).toNat : Int) == (47 : Int))) = true := fun hl => by
      rw [Int.toNat_natCast, List.getD_eq_getElem?_getD, List.getElem?_eq_getElem hl]
      simp only [Option.getD_some, h7 hl]
      decide
    by_cases hl : i < s.length
    · refine Tr.t (by simp; omega) (Tr.t (by omega) (Tr.n (e7 hl) (Tr.t ⟨by omega, by omega, by omega⟩ (Tr.t (hc f i) (Tr.n hv (Tr.t ⟨by omega, by omega, by omega⟩ (Tr.t hr ?_)))))))
      rw [Tr.val_ok, wrap64 (i := (i : Int) + 1) (by omega) (by omega)]
      rfl
    · refine Tr.n (by simp; omega) (Tr.t ⟨by omega, by omega, by omega⟩ (Tr.t (hc f i) (Tr.n hv (Tr.t ⟨by omega, by omega, by omega⟩ (Tr.t hr ?_)))))
      rw [Tr.val_ok, wrap64 (i := (i : Int) + 1) (by omega) (by omega)]
      rfl
  · show (qi_8_step s o (f : Int) (i : Int)).val = _
    unfold qi_8_step
    have hv : (!(qp_v (piece s f i))) = true := by rw [qp_vv, hk]; rfl
    refine Tr.t (by simp; omega) ?_
    have e7 : i < s.length → ¬(!(((s.getD ((i : Int)).toNat 0).toNat : Int) == (47 : Int))) = true := fun hl => by
      rw [Int.toNat_natCast, List.getD_eq_getElem?_getD, List.getElem?_eq_getElem hl]
      simp only [Option.getD_some, h7 hl]
      decide
    by_cases hl : i < s.length
    · exact Tr.t (by simp; omega) (Tr.t (by omega) (Tr.n (e7 hl) (Tr.t ⟨by omega, by omega, by omega⟩ (Tr.t (hc f i) (Tr.t hv rfl)))))
    · exact Tr.n (by simp; omega) (Tr.t ⟨by omega, by omega, by omega⟩ (Tr.t (hc f i) (Tr.t hv rfl)))
  · show (qi_8_step s o (f : Int) ((s.length + 1 : Nat) : Int)).val = _
    unfold qi_8_step
    exact Tr.n (by simp; omega) rfl
theorem qi_is8 : LoopIs tab FT D12 live 31 qi_lo 0 8 := by
  refine loop_told (sl := qi_8_sl) (step := qi_8_st) (out := qi_8_out) (lor := qi_lo8) (fin := fun x => (qi_8_fin (x.1) (x.2.1) (x.2.2.1) (x.2.2.2))) (fun _ => rfl) ?_ (fun x n => qi_8_r x.1 x.2.1 x.2.2.1 x.2.2.2 n) (fun x ow => qi_8_h x.1 x.2.1 x.2.2.1 x.2.2.2 ow)
  intro s t h
  unfold qi_lo8 at h
  split at h
  · cases h; exact ⟨(_, _, _, _), rfl, rfl⟩
  · cases h
def qi_t (s : BS) : Tr (LL × Bool) := (.ite ((s == [47]) = true) (.ok ([], true))
  (.ite ((s == []) = true) (.ok ([], false))
   (.ite ((0 : Int) ≤ (0 : Int) ∧ (0 : Int) < (s.length : Int)) (.ite ((!(((s.getD ((0 : Int)).toNat 0).toNat : Int) == (47 : Int))) = true) (.ok ([], false))
     (.ite ((qi_k8_1 s [] (1 : Int) (1 : Int)) = true) (.ite ((qi_o8_2 s [] (1 : Int) (1 : Int)) = true) (.ite ((decide (((qi_u8_2 s [] (1 : Int) (1 : Int)).length : Int) > (6 : Int))) = true) (.ok ([], false))
        (.ok ((qi_u8_2 s [] (1 : Int) (1 : Int)), true)))
       .no)
      (.ite ((qi_o8_3 s [] (1 : Int) (1 : Int)) = true) (.ok ((qi_u8_3_0 s [] (1 : Int) (1 : Int)), false))
       .no)))
    .no)))
def qi_mk (p : LL × Bool) : Res := [(false, [⟨.slice 9, .own true, TC.l (p.1)⟩]), (false, [⟨.bool, .sh, TC.b (p.2)⟩])]
def qi_c (s : BS) : Bool := (bif (s == [47]) then true else (bif (s == []) then true else (is ((0 : Int) ≤ (0 : Int) ∧ (0 : Int) < (s.length : Int)) && (bif (!(((s.getD ((0 : Int)).toNat 0).toNat : Int) == (47 : Int))) then true else (bif (qi_k8_1 s [] (1 : Int) (1 : Int)) then ((qi_o8_2 s [] (1 : Int) (1 : Int)) && (bif (decide (((qi_u8_2 s [] (1 : Int) (1 : Int)).length : Int) > (6 : Int))) then true else true)) else ((qi_o8_3 s [] (1 : Int) (1 : Int)) && true))))))
def qi_v (s : BS) : LL × Bool := (bif (s == [47]) then ([], true) else (bif (s == []) then ([], false) else (bif (!(((s.getD ((0 : Int)).toNat 0).toNat : Int) == (47 : Int))) then ([], false) else (bif (qi_k8_1 s [] (1 : Int) (1 : Int)) then (bif (decide (((qi_u8_2 s [] (1 : Int) (1 : Int)).length : Int) > (6 : Int))) then ([], false) else ((qi_u8_2 s [] (1 : Int) (1 : Int)), true)) else ((qi_u8_3_0 s [] (1 : Int) (1 : Int)), false)))))
theorem qi_l (s : BS) : (qi_c s) = true → (qi_t s).val = some (qi_v s) := by
  unfold qi_t qi_v qi_c
  exact fun h => (Tr.ss h (fun h => rfl) (fun h => (Tr.ss h (fun h => rfl) (fun h => (Tr.gs h fun h => (Tr.ss h (fun h => rfl) (fun h => (Tr.ss h (fun h => (Tr.gb h fun h => (Tr.ss h (fun h => rfl) (fun h => rfl)))) (fun h => (Tr.gb h fun h => rfl))))))))))
def qi_S : List Arg → Option (Bool × Res) := fun xs => match xs with
  | [(false, [(.str, TC.s s)])] => some ((qi_c s), qi_mk (qi_v s))
  | _ => .none
theorem qi_e (s : BS) : runF tab FT D12 live 31 qi_lo [(false, [(.str, TC.s s)])] = (qi_t s).run fun p => some (qi_mk p) := by kernel_rfl
theorem qi_s : ∀ xs r, qi_S xs = some (true, r) → runF tab FT D12 live 31 qi_lo xs = some r := by
  intro xs r h
  unfold qi_S at h
  split at h
  · obtain ⟨h1, rfl⟩ := sp h
    exact fun_told (qi_e _) (qi_l _) h1
  · cases h
def D13 : Dt := also D12 31 qi_S
theorem d13 : DOk Go.Proofs.Tryd.prog tab D13 := d12.also mixed_ok tab_ok names_ok (fnLoops_one (by kernel_rfl) qi_is8) qi_s
theorem qi_cc {s : BS} (hs : s.length ≤ 1048576) : (qi_c s) = true := by
  unfold qi_c
  refine bifT (fun b1 => ?_) (fun b1 => ?_)
  · skip
    rfl
  · skip
    refine bifT (fun b2 => ?_) (fun b2 => ?_)
    · skip
      rfl
    · skip
      refine andT (is_true (by cases s with | nil => cases b2 | cons => first | (simp; done) | (simp; omega))) ?_
      refine bifT (fun b3 => ?_) (fun b3 => ?_)
      · skip
        rfl
      · skip
        refine bifT (fun b4 => ?_) (fun b4 => ?_)
        · skip
          refine andT (by exact is_true ⟨rfl, rfl, rfl, by cases s with | nil => cases b2 | cons => simp, hs⟩) ?_
          refine bifT (fun b5 => ?_) (fun b5 => ?_)
          · skip
            rfl
          · skip
            rfl
        · skip
          refine andT (by exact is_true ⟨rfl, rfl, rfl, by cases s with | nil => cases b2 | cons => simp, hs⟩) ?_
          rfl
theorem pathE_ (s : BS) : (((s.getD ((0 : Int)).toNat 0).toNat : Int) == (47 : Int)) = (s.getD 0 0 == 47) := by
  rw [show ((0 : Int)).toNat = 0 from rfl, Bool.eq_iff_iff]
  simp only [beq_iff_eq]
  constructor
  · intro h; exact UInt8.toNat_inj.1 (by show (s.getD 0 0).toNat = 47; omega)
  · intro h; rw [h]; rfl
theorem qi_vv (s : BS) : qi_v s = (pathV s, pathB s) := by
  unfold qi_v
  rw [show qi_k8_1 s [] (1 : Int) (1 : Int) = (pcs (s.drop 1)).all nameOk from rfl, show qi_u8_2 s [] (1 : Int) (1 : Int) = rowsS (pcs (s.drop 1)) from rfl, show qi_u8_3_0 s [] (1 : Int) (1 : Int) = [] from rfl, pathE_]
  unfold pathV pathB
  cases h : s == [47] with
  | true =>
    have := eq_of_beq h
    subst this
    rfl
  | false =>
    have e2 : decide (((rowsS (pcs (s.drop 1))).length : Int) > 6) = !decide ((pcs (s.drop 1)).length ≤ 6) := by
      rw [← decide_not]; exact decide_eq_decide.2 (by unfold rowsS; rw [List.length_map]; omega)
    rw [e2]
    generalize (s == []) = p1, (s.getD 0 0 == 47) = p2, (pcs (s.drop 1)).all nameOk = p3, decide ((pcs (s.drop 1)).length ≤ 6) = p4
    cases p1 <;> cases p2 <;> cases p3 <;> cases p4 <;> rfl
def qcd_t (a0 : BS) : Tr (Bool) := (.ite ((qi_c a0) = true) (.ok ((qi_v a0).2))
  .no)
def qcd_mk (p : Bool) : Res := [(false, [⟨.bool, .sh, TC.b p⟩])]
def qcd_c (a0 : BS) : Bool := (qi_c a0)
def qcd_v (a0 : BS) : Bool := (qi_v a0).2
theorem qcd_l (a0 : BS) : (qcd_c a0) = true → (qcd_t a0).val = some (qcd_v a0) := by
  intro h
  have hc0 : (qi_c a0) = true := h
  unfold qcd_t
  exact (Tr.t hc0 rfl)
def qcd_S : List Arg → Option (Bool × Res) := fun xs => match xs with
  | [(false, [(.str, TC.s a0)])] => some ((qcd_c a0), qcd_mk (qcd_v a0))
  | _ => .none
theorem qcd_e (a0 : BS) : runF tab FT D13 live 18 noLoops [(false, [(.str, TC.s a0)])] = (qcd_t a0).run fun p => some (qcd_mk p) := by kernel_rfl
theorem qcd_s : ∀ xs r, qcd_S xs = some (true, r) → runF tab FT D13 live 18 noLoops xs = some r := by
  intro xs r h
  unfold qcd_S at h
  split at h
  · obtain ⟨h1, rfl⟩ := sp h
    exact fun_told (qcd_e _) (qcd_l _) h1
  · cases h
def D14 : Dt := also D13 18 qcd_S
theorem d14 : DOk Go.Proofs.Tryd.prog tab D14 := d13.also mixed_ok tab_ok names_ok noLoops_ok qcd_s
def qcb_t (a0 : Int) (a1 a2 a3 a4 a5 : LL) : Tr (Bool) := (.ite (((a1.length : Int) == (0 : Int)) = true) (.ite (((a2.length : Int) == (0 : Int)) = true) (.ite (((a3.length : Int) == (0 : Int)) = true) (.ok ((a4.length : Int) == (0 : Int)))
    (.ok false))
   (.ok false))
  (.ok false))
def qcb_mk (p : Bool) : Res := [(false, [⟨.bool, .sh, TC.b p⟩])]
def qcb_c (a0 : Int) (a1 a2 a3 a4 a5 : LL) : Bool := true
def qcb_v (a0 : Int) (a1 a2 a3 a4 a5 : LL) : Bool := (bif ((a1.length : Int) == (0 : Int)) then (bif ((a2.length : Int) == (0 : Int)) then (bif ((a3.length : Int) == (0 : Int)) then ((a4.length : Int) == (0 : Int)) else false) else false) else false)
theorem qcb_l (a0 : Int) (a1 a2 a3 a4 a5 : LL) : (qcb_c a0 a1 a2 a3 a4 a5) = true → (qcb_t a0 a1 a2 a3 a4 a5).val = some (qcb_v a0 a1 a2 a3 a4 a5) := by
  intro h
  skip
  unfold qcb_t qcb_v
  exact (Tr.s (Tr.s (Tr.s rfl rfl) rfl) rfl)
def qcb_S : List Arg → Option (Bool × Res) := fun xs => match xs with
  | [(true, [(.int .i64, TC.i a0), (.slice 2, TC.l a1), (.slice 2, TC.l a2), (.slice 2, TC.l a3), (.slice 2, TC.l a4), (.slice 62, TC.l a5)])] => some (true, qcb_mk (qcb_v a0 a1 a2 a3 a4 a5))
  | _ => .none
theorem qcb_e (a0 : Int) (a1 a2 a3 a4 a5 : LL) : runF tab FT D14 live 32 noLoops [(true, [(.int .i64, TC.i a0), (.slice 2, TC.l a1), (.slice 2, TC.l a2), (.slice 2, TC.l a3), (.slice 2, TC.l a4), (.slice 62, TC.l a5)])] = (qcb_t a0 a1 a2 a3 a4 a5).run fun p => some (qcb_mk p) := by kernel_rfl
theorem qcb_s : ∀ xs r, qcb_S xs = some (true, r) → runF tab FT D14 live 32 noLoops xs = some r := by
  intro xs r h
  unfold qcb_S at h
  split at h
  · obtain ⟨h1, rfl⟩ := sp h
    exact fun_told (qcb_e ..) (qcb_l _ _ _ _ _ _) rfl
  · cases h
def D15 : Dt := also D14 32 qcb_S
theorem d15 : DOk Go.Proofs.Tryd.prog tab D15 := d14.also mixed_ok tab_ok names_ok noLoops_ok qcb_s
def qcj_t (a0 a1 a2 : Int) : Tr (Bool) := (.ite ((decide (a0 ≥ a1)) = true) (.ok (decide (a0 ≤ a2)))
  (.ok false))
def qcj_mk (p : Bool) : Res := [(false, [⟨.bool, .sh, TC.b p⟩])]
def qcj_c (a0 a1 a2 : Int) : Bool := true
def qcj_v (a0 a1 a2 : Int) : Bool := (bif (decide (a0 ≥ a1)) then (decide (a0 ≤ a2)) else false)
theorem qcj_l (a0 a1 a2 : Int) : (qcj_c a0 a1 a2) = true → (qcj_t a0 a1 a2).val = some (qcj_v a0 a1 a2) := by
  intro h
  skip
  unfold qcj_t qcj_v
  exact (Tr.s rfl rfl)
def qcj_S : List Arg → Option (Bool × Res) := fun xs => match xs with
  | [(false, [(.int .i64, TC.i a0)]), (false, [(.int .i64, TC.i a1)]), (false, [(.int .i64, TC.i a2)])] => some (true, qcj_mk (qcj_v a0 a1 a2))
  | _ => .none
theorem qcj_e (a0 a1 a2 : Int) : runF tab FT D15 live 45 noLoops [(false, [(.int .i64, TC.i a0)]), (false, [(.int .i64, TC.i a1)]), (false, [(.int .i64, TC.i a2)])] = (qcj_t a0 a1 a2).run fun p => some (qcj_mk p) := by kernel_rfl
theorem qcj_s : ∀ xs r, qcj_S xs = some (true, r) → runF tab FT D15 live 45 noLoops xs = some r := by
  intro xs r h
  unfold qcj_S at h
  split at h
  · obtain ⟨h1, rfl⟩ := sp h
    exact fun_told (qcj_e ..) (qcj_l _ _ _) rfl
  · cases h
def D16 : Dt := also D15 45 qcj_S
theorem d16 : DOk Go.Proofs.Tryd.prog tab D16 := d15.also mixed_ok tab_ok names_ok noLoops_ok qcj_s
def qcm_t (a0 : Int) (a1 a2 a3 a4 a5 : LL) (a6 : Int) : Tr (Int) := (.ite ((0 : Int) ≤ a6 ∧ a6 < (a1.length : Int)) (.ite ((0 : Int) ≤ a6 ∧ a6 < (a3.length : Int)) (.ite ((0 : Int) ≤ a6 ∧ a6 < (a2.length : Int)) (.ite ((0 : Int) ≤ a6 ∧ a6 < (a4.length : Int)) (.ok (IntKind.wrap .i64 ((IntKind.wrap .i64 ((nth (row a1 a6) 0).int + (IntKind.wrap .i64 ((IntKind.wrap .i64 ((nth (row a3 a6) 0).int - (1 : Int))) * (nth (row a2 a6) 0).int)))) + (nth (row a4 a6) 0).int)))
     .no)
    .no)
   .no)
  .no)
def qcm_mk (p : Int) : Res := [(false, [⟨.int .i64, .sh, TC.i p⟩])]
def qcm_c (a0 : Int) (a1 a2 a3 a4 a5 : LL) (a6 : Int) : Bool := is (((0 : Int) ≤ a6 ∧ a6 < (a1.length : Int)) ∧ ((0 : Int) ≤ a6 ∧ a6 < (a3.length : Int)) ∧ ((0 : Int) ≤ a6 ∧ a6 < (a2.length : Int)) ∧ ((0 : Int) ≤ a6 ∧ a6 < (a4.length : Int)))
def qcm_v (a0 : Int) (a1 a2 a3 a4 a5 : LL) (a6 : Int) : Int := (IntKind.wrap .i64 ((IntKind.wrap .i64 ((nth (row a1 a6) 0).int + (IntKind.wrap .i64 ((IntKind.wrap .i64 ((nth (row a3 a6) 0).int - (1 : Int))) * (nth (row a2 a6) 0).int)))) + (nth (row a4 a6) 0).int))
theorem qcm_l (a0 : Int) (a1 a2 a3 a4 a5 : LL) (a6 : Int) : (qcm_c a0 a1 a2 a3 a4 a5 a6) = true → (qcm_t a0 a1 a2 a3 a4 a5 a6).val = some (qcm_v a0 a1 a2 a3 a4 a5 a6) := by
  intro h
  obtain ⟨hc0, hc1, hc2, hc3⟩ := is_iff.1 h
  unfold qcm_t
  exact (Tr.t hc0 (Tr.t hc1 (Tr.t hc2 (Tr.t hc3 rfl))))
def qcm_S : List Arg → Option (Bool × Res) := fun xs => match xs with
  | [(true, [(.int .i64, TC.i a0), (.slice 2, TC.l a1), (.slice 2, TC.l a2), (.slice 2, TC.l a3), (.slice 2, TC.l a4), (.slice 62, TC.l a5)]), (false, [(.int .i64, TC.i a6)])] => some ((qcm_c a0 a1 a2 a3 a4 a5 a6), qcm_mk (qcm_v a0 a1 a2 a3 a4 a5 a6))
  | _ => .none
theorem qcm_e (a0 : Int) (a1 a2 a3 a4 a5 : LL) (a6 : Int) : runF tab FT D16 live 46 noLoops [(true, [(.int .i64, TC.i a0), (.slice 2, TC.l a1), (.slice 2, TC.l a2), (.slice 2, TC.l a3), (.slice 2, TC.l a4), (.slice 62, TC.l a5)]), (false, [(.int .i64, TC.i a6)])] = (qcm_t a0 a1 a2 a3 a4 a5 a6).run fun p => some (qcm_mk p) := by kernel_rfl
theorem qcm_s : ∀ xs r, qcm_S xs = some (true, r) → runF tab FT D16 live 46 noLoops xs = some r := by
  intro xs r h
  unfold qcm_S at h
  split at h
  · obtain ⟨h1, rfl⟩ := sp h
    exact fun_told (qcm_e ..) (qcm_l _ _ _ _ _ _ _) h1
  · cases h
def D17 : Dt := also D16 46 qcm_S
theorem d17 : DOk Go.Proofs.Tryd.prog tab D17 := d16.also mixed_ok tab_ok names_ok noLoops_ok qcm_s
def qn_f5 (k : Int) (A S C B P : LL) (m i : Int) : (Unit) ⊕ ((Unit) ⊕ (Unit)) := (bif (!(qcj_v ((nth (row A i) 0).int) (0 : Int) (40 : Int))) then (.inr (.inl ())) else (bif (!(qcj_v ((nth (row C i) 0).int) (1 : Int) (40 : Int))) then (.inr (.inl ())) else (bif (!(qcj_v ((nth (row B i) 0).int) (1 : Int) (40 : Int))) then (.inr (.inl ())) else (bif (!(qcj_v ((nth (row S i) 0).int) ((nth (row B i) 0).int) (40 : Int))) then (.inr (.inl ())) else (bif (decide ((qcm_v k A S C B P i) > (40 : Int))) then (.inr (.inl ())) else (.inl ()))))))
def qn_e5 (k : Int) (A S C B P : LL) (m : Int) : (Unit) ⊕ (Unit) := .inr ()
def qn_R5 (k : Int) (A S C B P : LL) (m i : Int) : (Unit) ⊕ (Unit) := iter (fun i a => (qn_f5 k A S C B P m (i : Int))) (fun a => (qn_e5 k A S C B P m)) (A.length) 0 ()
abbrev qn_5_σ := Int × LL × LL × LL × LL × LL × Int × Int
abbrev qn_5_ω := (Unit) ⊕ (Unit)
def qn_5_step (k : Int) (A S C B P : LL) (m i : Int) : Tr (qn_5_σ ⊕ qn_5_ω) := (.ite ((decide (i < m)) = true) (.ite ((0 : Int) ≤ i ∧ i < (A.length : Int)) (.ite ((!(qcj_v ((nth (row A i) 0).int) (0 : Int) (40 : Int))) = true) (.ok (.inr (.inl ())))
    (.ite ((0 : Int) ≤ i ∧ i < (C.length : Int)) (.ite ((!(qcj_v ((nth (row C i) 0).int) (1 : Int) (40 : Int))) = true) (.ok (.inr (.inl ())))
      (.ite ((0 : Int) ≤ i ∧ i < (B.length : Int)) (.ite ((!(qcj_v ((nth (row B i) 0).int) (1 : Int) (40 : Int))) = true) (.ok (.inr (.inl ())))
        (.ite ((0 : Int) ≤ i ∧ i < (S.length : Int)) (.ite ((0 : Int) ≤ i ∧ i < (B.length : Int)) (.ite ((!(qcj_v ((nth (row S i) 0).int) ((nth (row B i) 0).int) (40 : Int))) = true) (.ok (.inr (.inl ())))
           (.ite ((qcm_c k A S C B P i) = true) (.ite ((decide ((qcm_v k A S C B P i) > (40 : Int))) = true) (.ok (.inr (.inl ())))
             (.ok (.inl (k, A, S, C, B, P, m, (IntKind.wrap .i64 (i + (1 : Int)))))))
            .no))
          .no)
         .no))
       .no))
     .no))
   .no)
  (.ok (.inr (.inr ()))))
def qn_5_st : qn_5_σ → Tr (qn_5_σ ⊕ qn_5_ω) := fun x => (qn_5_step (x.1) (x.2.1) (x.2.2.1) (x.2.2.2.1) (x.2.2.2.2.1) (x.2.2.2.2.2.1) (x.2.2.2.2.2.2.1) (x.2.2.2.2.2.2.2))
def qn_k5_1 (k : Int) (A S C B P : LL) (m i : Int) : Bool := sumIs (qn_R5 k A S C B P m i)
def qn_o5_2 (k : Int) (A S C B P : LL) (m i : Int) : Bool := is (i = 0 ∧ Typed tab (.slice 2) (.l A) ∧ m = (A.length : Int) ∧ S.length = A.length ∧ C.length = A.length ∧ B.length = A.length)
def qn_o5_3 (k : Int) (A S C B P : LL) (m i : Int) : Bool := (qn_o5_2 k A S C B P m i)
def qn_5_fin (k : Int) (A S C B P : LL) (m i : Int) : Told qn_5_ω := (.br (qn_k5_1 k A S C B P m i) (.leaf (qn_o5_2 k A S C B P m i) (.inl ())) (.leaf (qn_o5_3 k A S C B P m i) (.inr ())))
def qn_5_sl (x : qn_5_σ) : List Slot := [⟨.bx 32 [⟨.int .i64, .sh, TC.i (x.1)⟩, ⟨.slice 2, .sh, TC.l (x.2.1)⟩, ⟨.slice 2, .sh, TC.l (x.2.2.1)⟩, ⟨.slice 2, .sh, TC.l (x.2.2.2.1)⟩, ⟨.slice 2, .sh, TC.l (x.2.2.2.2.1)⟩, ⟨.slice 62, .sh, TC.l (x.2.2.2.2.2.1)⟩], ⟨0, 0⟩⟩, ⟨.val false [⟨.int .i64, .sh, TC.i (x.2.2.2.2.2.2.1)⟩], ⟨0, 0⟩⟩, ⟨.val false [⟨.int .i64, .sh, TC.i (x.2.2.2.2.2.2.2)⟩], ⟨0, 0⟩⟩]
def qn_5_out : qn_5_ω → Ex × List Slot := (Sum.elim (fun x => (.ret, [⟨.val false [⟨.bool, .sh, TC.b false⟩], ⟨0, 0⟩⟩])) (fun x => (.exit 0, [Slot.none])))
def qn_lo5 : List Slot → Option (Told (Ex × List Slot)) := fun s => match s with
  | [⟨.bx 32 [⟨.int .i64, .sh, TC.i k⟩, ⟨.slice 2, .sh, TC.l A⟩, ⟨.slice 2, .sh, TC.l S⟩, ⟨.slice 2, .sh, TC.l C⟩, ⟨.slice 2, .sh, TC.l B⟩, ⟨.slice 62, .sh, TC.l P⟩], ⟨0, 0⟩⟩, ⟨.val false [⟨.int .i64, .sh, TC.i m⟩], ⟨0, 0⟩⟩, ⟨.val false [⟨.int .i64, .sh, TC.i i⟩], ⟨0, 0⟩⟩] => some (((qn_5_fin k A S C B P m i)).map qn_5_out)
  | _ => .none
def qn_lo : LoopTeller := fun r s => bif Nat.beq r 5 then qn_lo5 s else .none
end
end Go.Proofs.YtjhbfeeaehaniaaDoor.V
