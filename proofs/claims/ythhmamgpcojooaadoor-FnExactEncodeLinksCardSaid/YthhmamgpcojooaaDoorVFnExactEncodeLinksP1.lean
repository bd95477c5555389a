/- What the functions of FnExactEncodeLinks answer. No condition. -/
import Derived.Test.YthhmamgpcojooaaDoorVFacts
namespace Go.Proofs.YthhmamgpcojooaaDoor.V
open Go
set_option maxRecDepth 100000
set_option linter.unusedVariables false
set_option linter.unusedSectionVars false
set_option linter.unusedSimpArgs false
set_option maxHeartbeats 2000000
noncomputable section
abbrev LL := List (List TC)
abbrev BS := List UInt8
theorem sp {α β : Type} {a b : α} {c d : β} (h : some (a, c) = some (b, d)) : a = b ∧ c = d := by cases h; exact ⟨rfl, rfl⟩
def letterB (c : Int) : Bool := (decide (c ≥ 65) && decide (c ≤ 90)) || (decide (c ≥ 97) && decide (c ≤ 122))
def nameB (i c : Int) : Bool := letterB c || (!(i == 0) && ((decide (c ≥ 48) && decide (c ≤ 57)) || c == 95))
def nameOk (s : BS) : Bool := decide ((s.length : Int) ≥ 1) && decide ((s.length : Int) ≤ 12) && allI (fun i : Nat => nameB (i : Int) ((s.getD ((i : Int)).toNat 0).toNat : Int)) s.length
theorem dlt {a b : Int} : decide (a < b) = !decide (a ≥ b) := by rw [← decide_not]; simp
theorem dgt {a b : Int} : decide (a > b) = !decide (a ≤ b) := by rw [← decide_not]; simp
def hdl (p : BS) : List (BS) → List (BS)
  | [] => [p]
  | x :: y => (p ++ x) :: y
def pcs : BS → List (BS)
  | [] => [[]]
  | b :: l => bif b == 47 then [] :: pcs l else hdl [b] (pcs l)
theorem hdl_ne {p : BS} {L : List (BS)} : hdl p L ≠ [] := by cases L <;> simp [hdl]
theorem pcs_cons (b : UInt8) (l : BS) : pcs (b :: l) = bif b == 47 then [] :: pcs l else hdl [b] (pcs l) := rfl
theorem pcs_ne (l : BS) : pcs l ≠ [] := by
  cases l with
  | nil => simp [pcs]
  | cons b l =>
    unfold pcs
    cases b == 47
    · exact hdl_ne
    · simp
theorem hdl_hdl {p q : BS} {L : List (BS)} : hdl p (hdl q L) = hdl (p ++ q) L := by cases L <;> simp [hdl]
theorem hdl_nil {L : List (BS)} (h : L ≠ []) : hdl [] L = L := by
  cases L with
  | nil => exact absurd rfl h
  | cons => rfl
theorem index_cons47 (b : UInt8) (l : BS) : Lib.index (b :: l) [47] = if b == 47 then 0 else if Lib.index l [47] == -1 then -1 else Lib.index l [47] + 1 := by
  conv => lhs; unfold Lib.index
  have e : ([47].isPrefixOf (b :: l)) = (b == 47) := by
    simp [List.isPrefixOf, Bool.beq_comm]
  rw [e]
theorem split_pcs : ∀ t : BS, Lib.split t [47] = pcs t
  | [] => rfl
  | b :: l => by
    have ih := split_pcs l
    have hi := index_cons47 b l
    unfold pcs
    rw [← ih]
    cases hb : b == 47 with
    | true =>
      rw [hb, if_pos rfl] at hi
      have hc := Lib.count_hit (i := 0) (sub := [47]) (by simp) hi
      unfold Lib.split
      rw [hc, Nat.add_comm 1, Lib.splitK, if_neg (by rw [hi]; decide), hi]
      rfl
    | false =>
      rw [hb, if_neg (by simp)] at hi
      by_cases hn : Lib.index l [47] = -1
      · rw [if_pos (by rw [hn]; rfl)] at hi
        unfold Lib.split
        rw [Lib.count_miss hi, Lib.count_miss hn]
        rfl
      · have hg := Lib.index_ge l [47]
        obtain ⟨i, hl⟩ : ∃ i : Nat, Lib.index l [47] = i := ⟨(Lib.index l [47]).toNat, by omega⟩
        rw [if_neg (by simpa using hn), hl] at hi
        have hi' : Lib.index (b :: l) [47] = ((i + 1 : Nat) : Int) := by rw [hi]; omega
        have c1 := Lib.count_hit (sub := [47]) (by simp) hi'
        have c2 := Lib.count_hit (sub := [47]) (by simp) hl
        have e : (b :: l).drop (i + 1 + ([47] : BS).length) = l.drop (i + ([47] : BS).length) := by
          show (b :: l).drop (i + 1 + 1) = l.drop (i + 1)
          rfl
        unfold Lib.split
        rw [c1, e, c2, Nat.add_comm 1, Lib.splitK, Lib.splitK, if_neg (by rw [hi']; intro h; have := eq_of_beq h; omega), if_neg (by rw [hl]; intro h; have := eq_of_beq h; omega), hi', hl, Int.toNat_natCast, Int.toNat_natCast, e]
        rfl
def rowsS (L : List (BS)) : LL := L.map fun x => [TC.s x]
theorem splL_slash (t : BS) : splL t [47] = rowsS (pcs t) := by unfold splL; rw [split_pcs]; rfl
def piece (s : BS) (f i : Nat) : BS := (s.take i).drop f
theorem piece_snoc {s : BS} {f i : Nat} (hf : f ≤ i) (hi : i < s.length) : piece s f (i + 1) = piece s f i ++ [s[i]] := by
  unfold piece
  rw [List.take_succ_eq_append_getElem hi, List.drop_append_of_le_length (by rw [List.length_take]; omega)]
theorem piece_self {s : BS} {i : Nat} : piece s i i = [] := by
  unfold piece
  exact List.drop_eq_nil_of_le (by rw [List.length_take]; omega)
theorem loopN_pieces {ω : Type} (s : BS) (y : LL → ω) (z : LL → ω) {step : (BS × LL × Int × Int) → Tr ((BS × LL × Int × Int) ⊕ ω)}
    (h1 : ∀ (f i : Nat) (o : LL) (hi : i < s.length), s[i] ≠ 47 → (step (s, o, (f : Int), (i : Int))).val = some (.inl (s, o, (f : Int), ((i + 1 : Nat) : Int))))
    (h2 : ∀ (f i : Nat) (o : LL), f ≤ i → i ≤ s.length → o.length ≤ i → (∀ hi : i < s.length, s[i] = 47) → nameOk (piece s f i) = true → (step (s, o, (f : Int), (i : Int))).val = some (.inl (s, o ++ [[TC.s (piece s f i)]], ((i + 1 : Nat) : Int), ((i + 1 : Nat) : Int))))
    (h3 : ∀ (f i : Nat) (o : LL), f ≤ i → i ≤ s.length → (∀ hi : i < s.length, s[i] = 47) → nameOk (piece s f i) = false → (step (s, o, (f : Int), (i : Int))).val = some (.inr (z o)))
    (h4 : ∀ (f : Nat) (o : LL), (step (s, o, (f : Int), ((s.length + 1 : Nat) : Int))).val = some (.inr (y o))) :
    ∀ (m f i : Nat) (o : LL), f ≤ i → i + m = s.length → o.length ≤ i → ∃ M, loopN step M (s, o, (f : Int), (i : Int)) = some (bif (hdl (piece s f i) (pcs (s.drop i))).all nameOk then y (o ++ rowsS (hdl (piece s f i) (pcs (s.drop i)))) else z (o ++ rowsS ((hdl (piece s f i) (pcs (s.drop i))).takeWhile nameOk)))
  | 0, f, i, o, hf, hm, ho => by
    have e0 : s.drop i = [] := List.drop_eq_nil_of_le (by omega)
    have e1 : hdl (piece s f i) (pcs (s.drop i)) = [piece s f i] := by rw [e0]; simp [pcs, hdl]
    rw [e1]
    cases hk : nameOk (piece s f i) with
    | true =>
      refine ⟨2, ?_⟩
      have a := h2 f i o hf (by omega) ho (fun hi => absurd hi (by omega)) hk
      rw [loopN_next a, show i + 1 = s.length + 1 by omega, loopN_end (h4 _ _)]
      simp [hk, rowsS]
    | false =>
      refine ⟨1, ?_⟩
      rw [loopN_end (h3 f i o hf (by omega) (fun hi => absurd hi (by omega)) hk)]
      simp [hk, rowsS]
  | m + 1, f, i, o, hf, hm, ho => by
    have hi : i < s.length := by omega
    have e0 : s.drop i = s[i] :: s.drop (i + 1) := List.drop_eq_getElem_cons hi
    by_cases hc : s[i] = 47
    · have e1 : hdl (piece s f i) (pcs (s.drop i)) = piece s f i :: pcs (s.drop (i + 1)) := by
        rw [e0, pcs_cons, hc]
        simp [hdl]
      rw [e1]
      cases hk : nameOk (piece s f i) with
      | true =>
        obtain ⟨M, ih⟩ := loopN_pieces s y z h1 h2 h3 h4 m (i + 1) (i + 1) (o ++ [[TC.s (piece s f i)]]) (Nat.le_refl _) (by omega) (by simp; omega)
        refine ⟨M + 1, ?_⟩
        rw [loopN_next (h2 f i o hf (by omega) ho (fun _ => hc) hk), ih, piece_self, hdl_nil (pcs_ne _)]
        simp [hk, rowsS]
      | false =>
        refine ⟨1, ?_⟩
        rw [loopN_end (h3 f i o hf (by omega) (fun _ => hc) hk)]
        simp [hk, rowsS]
    · have e1 : hdl (piece s f i) (pcs (s.drop i)) = hdl (piece s f (i + 1)) (pcs (s.drop (i + 1))) := by
        rw [e0, pcs_cons, show (s[i] == 47) = false from by simpa using hc]
        show hdl _ (hdl _ _) = _
        rw [hdl_hdl, piece_snoc hf hi]
      rw [e1]
      obtain ⟨M, ih⟩ := loopN_pieces s y z h1 h2 h3 h4 m f (i + 1) o (by omega) (by omega) (by omega)
      exact ⟨M + 1, (loopN_next (h1 f i o hi hc)).trans ih⟩
def pathB (s : BS) : Bool := !(s == []) && (s.getD 0 0 == 47) && ((s == [47]) || ((pcs (s.drop 1)).all nameOk && decide ((pcs (s.drop 1)).length ≤ 6)))
def pathV (s : BS) : LL := bif pathB s && !(s == [47]) then rowsS (pcs (s.drop 1)) else []
def lnIn (a : Int) : Bool := bif decide (a ≥ 1) then decide (a ≤ 255) else false
def linkB (x : List TC) : Bool := bif (nth x 2).str == [] then lnIn (nth x 1).int else ((nth x 1).int == 0) && pathB (nth x 2).str
def linkP (A : LL) (i : Int) : Bool := nameOk (nth (row A i) 0).str && (!(decide (i > 0)) || bytesLess (nth (row A (IntKind.wrap .i64 (i - (1 : Int)))) 0).str (nth (row A i) 0).str) && linkB (row A i)
theorem less_le : ∀ {a b : BS}, (bytesLess a b || (a == b)) = !(bytesLess b a)
  | [], [] => rfl
  | [], _ :: _ => rfl
  | _ :: _, [] => rfl
  | x :: a, y :: b => by
    have ih := less_le (a := a) (b := b)
    unfold bytesLess
    by_cases h : x = y
    · subst h
      simpa using ih
    · have h1 : (x == y) = false := by simpa using h
      have h2 : (y == x) = false := by simpa using fun e : y = x => h e.symm
      have h3 : ((x :: a) == (y :: b)) = false := by simp [h]
      rw [h3]
      by_cases hl : x < y
      · have hn : ¬ y < x := fun hh => absurd (UInt8.lt_trans hl hh) (UInt8.lt_irrefl _)
        simp [hl, hn, h1, h2, h]
      · have hn : y < x := by
          rcases Nat.lt_trichotomy x.toNat y.toNat with a | a | a
          · exact absurd (UInt8.lt_iff_toNat_lt.2 a) hl
          · exact absurd (UInt8.toNat_inj.1 a) h
          · exact UInt8.lt_iff_toNat_lt.2 a
        simp [hl, hn, h1, h2, h]
def linksB (A : LL) : Bool := allI (fun i : Nat => linkP A (i : Int)) A.length && decide (A.length ≤ 12)
def PathsOk (A : LL) : Prop := ∀ x, x ∈ A → (nth x 2).str.length ≤ 1048576
def slotNameOk (x : List TC) : Bool := (nth x 0).str == [] || nameOk (nth x 0).str
def lastEmpty (A : LL) : Bool := (nth (row A (IntKind.wrap .i64 ((A.length : Int) - (1 : Int)))) 0).str == []
def heapOk (A : LL) : Bool := decide ((A.length : Int) ≤ 30) && (((A.length : Int) == 0) || !(lastEmpty A)) && A.all slotNameOk
theorem lenPos (A : LL) : decide ((A.length : Int) > 0) = !((A.length : Int) == 0) := by
  rw [Bool.eq_iff_iff]
  simp only [decide_eq_true_eq, Bool.not_eq_true', beq_eq_false_iff_ne]
  omega
def slotIdx (A : LL) (s : BS) : Int := bif A.all (fun x => !((nth x 0).str == s)) then -1 else Int.ofNat (A.findIdx fun x => !(!((nth x 0).str == s)))
def cntE (A : LL) : Nat := (A.filter fun x => !((nth x 0).str == [])).length
theorem cntE_step {A : LL} {j : Nat} (h : j < A.length) : cntE (A.take (j + 1)) = cntE (A.take j) + (bif !((nth (row A (j : Int)) 0).str == []) then 1 else 0) := by
  unfold cntE
  rw [List.take_succ_eq_append_getElem h, List.filter_append, List.length_append, row_nat, getD_at h]
  cases hp : (!((nth A[j] 0).str == [])) with
  | true => simp only [List.filter_cons, hp, if_true, List.filter_nil, List.length_cons, List.length_nil, cond_true]
  | false => simp only [List.filter_cons, hp, Bool.false_eq_true, if_false, List.filter_nil, List.length_nil, cond_false]
theorem cntE_le (A : LL) : cntE A ≤ A.length := List.length_filter_le _ _
theorem byte1 (n : Int) : [[TC.i (IntKind.wrap .u8 n)]].map byteOf = bytesL n 1 := by
  show _ = [byteOf (bAt n 0)]
  unfold bAt
  rw [show Int.fdiv n (2 ^ (8 * 0)) = n from by simp]
  rfl
def putB (n : Int) (sz : Nat) (bg : Bool) : BS := bif bg then (bytesL n sz).reverse else bytesL n sz
theorem bytesL_succ {n : Int} {j : Nat} : bytesL n (j + 1) = bytesL n j ++ [byteOf (bAt n j)] := by
  unfold bytesL
  rw [← bRows_succ, List.map_append]; rfl
theorem putB_len {n : Int} {sz : Nat} {bg : Bool} : (putB n sz bg).length = sz := by
  unfold putB
  cases bg
  · exact bytesL_len
  · rw [show (bif true then (bytesL n sz).reverse else bytesL n sz) = (bytesL n sz).reverse from rfl, List.length_reverse, bytesL_len]
def hasN (B : LL) (x : List TC) : Bool := !(decide (slotIdx B (nth x 0).str < 0))
def linkBy (B : LL) (x : List TC) : BS := (bytesL (slotIdx B (nth x 0).str) 1 ++ bytesL ((nth x 2).str.length : Int) 1) ++ (bif (nth x 2).str == [] then bytesL (nth x 1).int 2 else (nth x 2).str)
def encL (A B : LL) : BS := foldI (fun i a => a ++ linkBy B (row A (i : Int))) A.length []
def allN (A B : LL) : Bool := allI (fun i : Nat => hasN B (row A (i : Int))) A.length
theorem iter_try {α ω : Type} {f : Nat → α → α ⊕ ω} {fin : α → ω} {P : Nat → Bool} {g : Nat → α → α} {w : α → ω} (h : ∀ j a, f j a = bif P j then .inl (g j a) else .inr (w a)) :
    ∀ m i a, ∃ z, iter f fin m i a = bif (List.range' i m).all P then fin ((List.range' i m).foldl (fun a i => g i a) a) else w z
  | 0, i, a => ⟨a, rfl⟩
  | m + 1, i, a => by
    unfold iter
    rw [h]
    cases hP : P i with
    | true =>
      obtain ⟨z, hz⟩ := iter_try (fin := fin) h m (i + 1) (g i a)
      refine ⟨z, ?_⟩
      show iter f fin m (i + 1) (g i a) = _
      rw [hz]
      simp [List.range'_succ, hP]
    | false => exact ⟨a, by simp [List.range'_succ, hP]⟩
def encLB (A B : LL) : Bool := (linksB A && heapOk B) && (decide (cntE B = A.length) && allN A B)
def encLV (A B : LL) : BS × Bool := bif encLB A B then (encL A B, true) else ([], false)
theorem linksB_len {A : LL} (h : linksB A = true) : A.length ≤ 12 := by
  unfold linksB at h
  rw [Bool.and_eq_true] at h
  exact of_decide_eq_true h.2
def delL (P : List TC → Bool) : LL → LL → Nat → LL × Nat
  | [], S, i => (S, i)
  | x :: xs, S, i => bif P x then delL P xs (S.set i x) (i + 1) else delL P xs S i
theorem delL_t {P : List TC → Bool} {x : List TC} {xs S : LL} {i : Nat} (h : P x = true) : delL P (x :: xs) S i = delL P xs (S.set i x) (i + 1) := by
  rw [delL, h]; rfl
theorem delL_f {P : List TC → Bool} {x : List TC} {xs S : LL} {i : Nat} (h : P x = false) : delL P (x :: xs) S i = delL P xs S i := by
  rw [delL, h]; rfl
theorem delL_ok (P : List TC → Bool) : ∀ (xs S : LL) (i : Nat), i + xs.length ≤ S.length → (delL P xs S i).1.take (delL P xs S i).2 = S.take i ++ xs.filter P ∧ (delL P xs S i).1.length = S.length ∧ (delL P xs S i).2 ≤ S.length
  | [], S, i, h => by
    refine ⟨by simp [delL], rfl, ?_⟩
    simp only [List.length_nil, Nat.add_zero] at h
    exact h
  | x :: xs, S, i, h => by
    simp only [List.length_cons] at h
    unfold delL
    cases hP : P x with
    | true =>
      obtain ⟨h1, h2, h3⟩ := delL_ok P xs (S.set i x) (i + 1) (by simp; omega)
      simp only [cond_true]
      refine ⟨?_, by rw [h2]; simp, by simpa using h3⟩
      rw [h1, List.filter_cons_of_pos hP, List.take_succ_eq_append_getElem (by simp; omega), List.getElem_set_self, List.take_set_of_le (Nat.le_refl i)]
      simp
    | false =>
      obtain ⟨h1, h2, h3⟩ := delL_ok P xs S i (by omega)
      simp only [cond_false]
      refine ⟨?_, h2, h3⟩
      rw [h1, List.filter_cons_of_neg (by simp [hP])]
theorem filter_split {P : List TC → Bool} {A : LL} {i : Nat} (hi : i < A.length) (h1 : ∀ x, x ∈ A.take i → P x = true) (h2 : P (A.getD i []) = false) : A.filter P = A.take i ++ (A.drop (i + 1)).filter P := by
  have e : A = A.take i ++ A.getD i [] :: A.drop (i + 1) := by
    rw [List.getD_eq_getElem?_getD, List.getElem?_eq_getElem hi, Option.getD_some, ← List.drop_eq_getElem_cons hi, List.take_append_drop]
  have e2 : (A.take i).filter P = A.take i := List.filter_eq_self.2 h1
  conv => lhs; rw [e]
  rw [List.filter_append, e2, List.filter_cons_of_neg (by rw [h2]; exact Bool.false_ne_true)]
theorem find_split {P : List TC → Bool} {A : LL} (h : A.all P = false) : A.findIdx (fun x => !P x) < A.length ∧ (∀ x, x ∈ A.take (A.findIdx fun x => !P x) → P x = true) ∧ P (A.getD (A.findIdx fun x => !P x) []) = false := by
  have hlt : A.findIdx (fun x => !P x) < A.length := by
    rw [List.findIdx_lt_length]
    obtain ⟨x, hx, hp⟩ := List.all_eq_false.1 h
    exact ⟨x, hx, by simpa using hp⟩
  refine ⟨hlt, fun x hx => ?_, ?_⟩
  · obtain ⟨j, hj, rfl⟩ := List.getElem_of_mem hx
    rw [List.length_take] at hj
    have := List.not_of_lt_findIdx (p := fun x => !P x) (xs := A) (i := j) (by omega)
    rw [List.getElem_take]
    simpa using this
  · have := List.findIdx_getElem (p := fun x => !P x) (xs := A) (w := hlt)
    rw [getD_at hlt]
    simpa using this
theorem row_drop {A xs : LL} {x : List TC} {j : Nat} (h : A.drop j = x :: xs) : j < A.length ∧ row A (j : Int) = x ∧ A.drop (j + 1) = xs := by
  have hj : j < A.length := by
    rcases Nat.lt_or_ge j A.length with h' | h'
    · exact h'
    · rw [List.drop_eq_nil_of_le h'] at h; cases h
  rw [List.drop_eq_getElem_cons hj] at h
  injection h with h1 h2
  exact ⟨hj, by rw [row_nat, getD_at hj]; exact h1, h2⟩
def qbu_t (a0 : BS) (a1 : Int) (a2 : BS) (a3 : Int) : Tr (Int) := (.ite ((decide ((IntKind.wrap .i64 (a3 - (a0.length : Int))) < (0 : Int))) = true) (.ok (-1 : Int))
  (.ite ((decide ((IntKind.wrap .i64 ((IntKind.wrap .i64 (a3 - (a0.length : Int))) - (a2.length : Int))) < (0 : Int))) = true) (.ok (-1 : Int))
   (.ok (IntKind.wrap .i64 ((IntKind.wrap .i64 (a3 - (a0.length : Int))) - (a2.length : Int))))))
def qbu_mk (p : Int) : Res := [(false, [⟨.int .i64, .sh, TC.i p⟩])]
def qbu_c (a0 : BS) (a1 : Int) (a2 : BS) (a3 : Int) : Bool := true
def qbu_v (a0 : BS) (a1 : Int) (a2 : BS) (a3 : Int) : Int := (bif (decide ((IntKind.wrap .i64 (a3 - (a0.length : Int))) < (0 : Int))) then (-1 : Int) else (bif (decide ((IntKind.wrap .i64 ((IntKind.wrap .i64 (a3 - (a0.length : Int))) - (a2.length : Int))) < (0 : Int))) then (-1 : Int) else (IntKind.wrap .i64 ((IntKind.wrap .i64 (a3 - (a0.length : Int))) - (a2.length : Int)))))
theorem qbu_l (a0 : BS) (a1 : Int) (a2 : BS) (a3 : Int) : (qbu_c a0 a1 a2 a3) = true → (qbu_t a0 a1 a2 a3).val = some (qbu_v a0 a1 a2 a3) := by
  intro h
  skip
  unfold qbu_t qbu_v
  exact (Tr.s rfl (Tr.s rfl rfl))
def qbu_S : List Arg → Option (Bool × Res) := fun xs => match xs with
  | [(true, [(.str, TC.s a0), (.int .i64, TC.i a1), (.str, TC.s a2)]), (false, [(.int .i64, TC.i a3)])] => some (true, qbu_mk (qbu_v a0 a1 a2 a3))
  | _ => .none
theorem qbu_e (a0 : BS) (a1 : Int) (a2 : BS) (a3 : Int) : runF tab FT D0 live 27 noLoops [(true, [(.str, TC.s a0), (.int .i64, TC.i a1), (.str, TC.s a2)]), (false, [(.int .i64, TC.i a3)])] = (qbu_t a0 a1 a2 a3).run fun p => some (qbu_mk p) := by kernel_rfl
theorem qbu_s : ∀ xs r, qbu_S xs = some (true, r) → runF tab FT D0 live 27 noLoops xs = some r := by
  intro xs r h
  unfold qbu_S at h
  split at h
  · obtain ⟨h1, rfl⟩ := sp h
    exact fun_told (qbu_e ..) (qbu_l _ _ _ _) rfl
  · cases h
def D1 : Dt := also D0 27 qbu_S
theorem d1 : DOk Go.Proofs.Tryd.prog tab D1 := d0.also mixed_ok tab_ok names_ok noLoops_ok qbu_s
abbrev qu_5_σ := LL × Int × Int
abbrev qu_5_ω := (Int) ⊕ (Int)
def qu_5_step (A : LL) (left i : Int) : Tr (qu_5_σ ⊕ qu_5_ω) := (.ite ((decide (i < (A.length : Int))) = true) (.ite ((0 : Int) ≤ i ∧ i < (A.length : Int)) (.ite ((decide ((qbu_v ((nth (row A i) 0).str) ((nth (row A i) 1).int) ((nth (row A i) 2).str) left) < (0 : Int))) = true) (.ok (.inr (.inl (qbu_v ((nth (row A i) 0).str) ((nth (row A i) 1).int) ((nth (row A i) 2).str) left))))
    (.ok (.inl (A, (qbu_v ((nth (row A i) 0).str) ((nth (row A i) 1).int) ((nth (row A i) 2).str) left), (IntKind.wrap .i64 (i + (1 : Int)))))))
   .no)
  (.ok (.inr (.inr left))))
def qu_5_st : qu_5_σ → Tr (qu_5_σ ⊕ qu_5_ω) := fun x => (qu_5_step (x.1) (x.2.1) (x.2.2))
def qu_k5_1 (A : LL) (left i : Int) : Bool := isL (loopN qu_5_st (A.length + 1) (A, left, i))
def qu_o5_2 (A : LL) (left i : Int) : Bool := is (i = 0 ∧ Typed tab (.slice 47) (.l A))
def qu_u5_2 (A : LL) (left i : Int) : Int := getL (loopN qu_5_st (A.length + 1) (A, left, i))
def qu_o5_3 (A : LL) (left i : Int) : Bool := is (i = 0 ∧ Typed tab (.slice 47) (.l A))
def qu_u5_3 (A : LL) (left i : Int) : Int := getR (loopN qu_5_st (A.length + 1) (A, left, i))
def qu_5_fin (A : LL) (left i : Int) : Told qu_5_ω := (.br (qu_k5_1 A left i) (.leaf (qu_o5_2 A left i) (.inl (qu_u5_2 A left i))) (.leaf (qu_o5_3 A left i) (.inr (qu_u5_3 A left i))))
def qu_5_sl (x : qu_5_σ) : List Slot := [⟨.val false [⟨.slice 47, .sh, TC.l (x.1)⟩], ⟨0, 0⟩⟩, ⟨.val false [⟨.int .i64, .sh, TC.i (x.2.1)⟩], ⟨0, 0⟩⟩, ⟨.val false [⟨.int .i64, .sh, TC.i (x.2.2)⟩], ⟨0, 0⟩⟩]
def qu_5_out : qu_5_ω → Ex × List Slot := (Sum.elim (fun x => (.ret, [⟨.val false [⟨.int .i64, .sh, TC.i x⟩], ⟨0, 0⟩⟩, ⟨.val false [⟨.int .i64, .sh, TC.i (-1 : Int)⟩], ⟨0, 0⟩⟩])) (fun x => (.exit 0, [⟨.val false [⟨.int .i64, .sh, TC.i x⟩], ⟨0, 0⟩⟩, Slot.none])))
def qu_lo5 : List Slot → Option (Told (Ex × List Slot)) := fun s => match s with
  | [⟨.val false [⟨.slice 47, .sh, TC.l A⟩], ⟨0, 0⟩⟩, ⟨.val false [⟨.int .i64, .sh, TC.i left⟩], ⟨0, 0⟩⟩, ⟨.val false [⟨.int .i64, .sh, TC.i i⟩], ⟨0, 0⟩⟩] => some (((qu_5_fin A left i)).map qu_5_out)
  | _ => .none
def qu_lo : LoopTeller := fun r s => bif Nat.beq r 5 then qu_lo5 s else .none
theorem qu_5_r (A : LL) (left i : Int) (fuel : Nat) : rounds (rnd tab FT D1 live 14 qu_lo 0 5) leave (fuel + 1) (qu_5_sl (A, left, i)) = ((qu_5_step A left i)).run (goOn (fun s => rounds (rnd tab FT D1 live 14 qu_lo 0 5) leave fuel (qu_5_sl s)) fun w => some (qu_5_out w)) := by kernel_rfl
theorem qu_5_h (A : LL) (left i : Int) (ow : qu_5_ω) : ((qu_5_fin A left i)).val = some ow → ∃ fuel, loopN qu_5_st fuel (A, left, i) = some ow := by
  refine auto_two (N := A.length + 1) rfl rfl rfl ?_
  intro ho
  have ho : is (i = 0 ∧ Typed tab (.slice 47) (.l A)) = true := ho.elim id id
  obtain ⟨rfl, ht⟩ := is_iff.1 ho
  have hlen : A.length ≤ 140737488351232 := by have := typed_room ht; simp only [show (tab 47).bytes = 40 from rfl] at this; omega
  refine loopN_ends (step := qu_5_st) (N := A.length) (fun i a => (A, a, (i : Int))) (fun i a hi => ?_) (fun a => ?_) A.length 0 left (by omega)
  · show (∃ a', (qu_5_step A a (i : Int)).val = _) ∨ ∃ w, (qu_5_step A a (i : Int)).val = _
    have c0 : Typed tab (.str) (.s (nth (A.getD i []) 0).str) := typed_s (typed_cell ht (A.getD i []) (mem_getD hi) 0 (by decide))
    have c2 : Typed tab (.str) (.s (nth (A.getD i []) 2).str) := typed_s (typed_cell ht (A.getD i []) (mem_getD hi) 2 (by decide))
    cases hneg : ((decide ((qbu_v ((nth (row A i) 0).str) ((nth (row A i) 1).int) ((nth (row A i) 2).str) a) < (0 : Int))))
    · apply Or.inl
      apply Exists.intro
      · unfold qu_5_step
        refine Tr.t (by simp; omega) ?_
        refine Tr.t (by first | omega | (constructor <;> omega)) ?_
        refine Tr.n (by rw [hneg]; simp) ?_
        rw [Tr.val_ok, wrap64 (i := (i : Int) + 1) (by omega) (by omega)]; rfl
    · apply Or.inr
      apply Exists.intro
      · unfold qu_5_step
        refine Tr.t (by simp; omega) ?_
        refine Tr.t (by first | omega | (constructor <;> omega)) ?_
        refine Tr.t hneg ?_
        rfl
  · apply Exists.intro
    · show (qu_5_step A a (A.length : Int)).val = _
      refine Tr.n (by simp) ?_
      rfl
theorem qu_is5 : LoopIs tab FT D1 live 14 qu_lo 0 5 := by
  refine loop_told (sl := qu_5_sl) (step := qu_5_st) (out := qu_5_out) (lor := qu_lo5) (fin := fun x => (qu_5_fin (x.1) (x.2.1) (x.2.2))) (fun _ => rfl) ?_ (fun x n => qu_5_r x.1 x.2.1 x.2.2 n) (fun x ow => qu_5_h x.1 x.2.1 x.2.2 ow)
  intro s t h
  unfold qu_lo5 at h
  split at h
  · cases h; exact ⟨(_, _, _), rfl, rfl⟩
  · cases h
def qu_t (A : LL) (left : Int) : Tr (Int) := (.ite ((decide ((IntKind.wrap .i64 (left - (A.length : Int))) < (0 : Int))) = true) (.ok (-1 : Int))
  (.ite ((qu_k5_1 A (IntKind.wrap .i64 (left - (A.length : Int))) (0 : Int)) = true) (.ite ((qu_o5_2 A (IntKind.wrap .i64 (left - (A.length : Int))) (0 : Int)) = true) (.ok (-1 : Int))
    .no)
   (.ite ((qu_o5_3 A (IntKind.wrap .i64 (left - (A.length : Int))) (0 : Int)) = true) (.ok (qu_u5_3 A (IntKind.wrap .i64 (left - (A.length : Int))) (0 : Int)))
    .no)))
def qu_mk (p : Int) : Res := [(false, [⟨.int .i64, .sh, TC.i p⟩])]
def qu_c (A : LL) (left : Int) : Bool := is (((qu_o5_2 A (IntKind.wrap .i64 (left - (A.length : Int))) (0 : Int)) = true) ∧ ((qu_o5_3 A (IntKind.wrap .i64 (left - (A.length : Int))) (0 : Int)) = true))
def qu_v (A : LL) (left : Int) : Int := (bif (decide ((IntKind.wrap .i64 (left - (A.length : Int))) < (0 : Int))) then (-1 : Int) else (bif (qu_k5_1 A (IntKind.wrap .i64 (left - (A.length : Int))) (0 : Int)) then (-1 : Int) else (qu_u5_3 A (IntKind.wrap .i64 (left - (A.length : Int))) (0 : Int))))
theorem qu_l (A : LL) (left : Int) : (qu_c A left) = true → (qu_t A left).val = some (qu_v A left) := by
  intro h
  obtain ⟨g0, g1⟩ := is_iff.1 h
  unfold qu_t qu_v
  exact (Tr.s rfl (Tr.s (Tr.t g0 rfl) (Tr.t g1 rfl)))
def qu_S : List Arg → Option (Bool × Res) := fun xs => match xs with
  | [(false, [(.slice 47, TC.l A)]), (false, [(.int .i64, TC.i left)])] => some ((qu_c A left), qu_mk (qu_v A left))
  | _ => .none
theorem qu_e (A : LL) (left : Int) : runF tab FT D1 live 14 qu_lo [(false, [(.slice 47, TC.l A)]), (false, [(.int .i64, TC.i left)])] = (qu_t A left).run fun p => some (qu_mk p) := by kernel_rfl
theorem qu_s : ∀ xs r, qu_S xs = some (true, r) → runF tab FT D1 live 14 qu_lo xs = some r := by
  intro xs r h
  unfold qu_S at h
  split at h
  · obtain ⟨h1, rfl⟩ := sp h
    exact fun_told (qu_e ..) (qu_l _ _) h1
  · cases h
def D2 : Dt := also D1 14 qu_S
theorem d2 : DOk Go.Proofs.Tryd.prog tab D2 := d1.also mixed_ok tab_ok names_ok (fnLoops_one (by kernel_rfl) qu_is5) qu_s
theorem szl {a b : BS} {n left : Int} (hl : 0 ≤ left) (hl2 : left ≤ 1048576) (ha : a.length ≤ 140737488351232) (hb : b.length ≤ 140737488351232) (h : decide (qbu_v a n b left < 0) = false) : 0 ≤ qbu_v a n b left ∧ qbu_v a n b left ≤ 1048576 ∧ b.length ≤ 1048576 := by
  have h := of_decide_eq_false h
  have e1 : IntKind.wrap .i64 (left - (a.length : Int)) = left - (a.length : Int) := wrap64 (by omega) (by omega)
  have e2 : IntKind.wrap .i64 (left - (a.length : Int) - (b.length : Int)) = left - (a.length : Int) - (b.length : Int) := wrap64 (by omega) (by omega)
  unfold qbu_v at h ⊢
  rw [e1, e2] at h ⊢
  cases h1 : decide (left - (a.length : Int) < 0) with
  | true => rw [h1] at h; exact absurd (show (-1 : Int) < 0 by decide) h
  | false =>
    rw [h1] at h
    cases h2 : decide (left - (a.length : Int) - (b.length : Int) < 0) with
    | true => rw [h2] at h; exact absurd (show (-1 : Int) < 0 by decide) h
    | false =>
      have h1 := of_decide_eq_false h1
      have h2 := of_decide_eq_false h2
      show 0 ≤ left - (a.length : Int) - (b.length : Int) ∧ left - (a.length : Int) - (b.length : Int) ≤ 1048576 ∧ b.length ≤ 1048576
      omega
theorem szl_loop {A : LL} (hA : Typed tab (.slice 47) (.l A)) : ∀ (n i : Nat) (left : Int), i + n = A.length → 0 ≤ left → left ≤ 1048576 → isL (loopN qu_5_st (n + 1) (A, left, (i : Int))) = false → ∀ j, i ≤ j → j < A.length → (nth (row A (j : Int)) 2).str.length ≤ 1048576
  | 0, i, left, hi, _, _, _ => fun j h1 h2 => by omega
  | n + 1, i, left, hi, h0, hl, hk => fun j h1 h2 => by
    have hlen := typed_room hA
    simp only [show (tab 47).bytes = 40 from rfl] at hlen
    have hx : ∀ k, k < A.length → (nth (row A (k : Int)) 0).str.length ≤ 140737488351232 ∧ (nth (row A (k : Int)) 2).str.length ≤ 140737488351232 := fun k hk => by
      have hm : row A (k : Int) ∈ A := by rw [row_nat]; exact mem_getD hk
      exact ⟨typed_str_len (typed_s ((typed_elem hA hm).2 0 (by decide))), typed_str_len (typed_s ((typed_elem hA hm).2 2 (by decide)))⟩
    have hxi := hx i (by omega)
    cases hd : decide (qbu_v (nth (row A (i : Int)) 0).str (nth (row A (i : Int)) 1).int (nth (row A (i : Int)) 2).str left < 0) with
    | true =>
      have hs : (qu_5_st (A, left, (i : Int))).val = some (.inr (.inl (qbu_v (nth (row A (i : Int)) 0).str (nth (row A (i : Int)) 1).int (nth (row A (i : Int)) 2).str left))) := by
        show (qu_5_step A left (i : Int)).val = _
        unfold qu_5_step
        exact Tr.t (by simp; omega) (Tr.t (by omega) (Tr.t hd rfl))
      rw [loopN_end hs] at hk
      cases hk
    | false =>
      obtain ⟨a1, a2, a3⟩ := szl h0 hl hxi.1 hxi.2 hd
      have hs : (qu_5_st (A, left, (i : Int))).val = some (.inl (A, qbu_v (nth (row A (i : Int)) 0).str (nth (row A (i : Int)) 1).int (nth (row A (i : Int)) 2).str left, ((i + 1 : Nat) : Int))) := by
        show (qu_5_step A left (i : Int)).val = _
        unfold qu_5_step
        refine Tr.t (by simp; omega) (Tr.t (by omega) (Tr.n (by rw [hd]; simp) ?_))
        rw [Tr.val_ok, wrap64 (i := (i : Int) + 1) (by omega) (by omega)]
        rfl
      rw [loopN_next hs] at hk
      by_cases hj : j = i
      · rw [hj]; exact a3
      · exact szl_loop hA n (i + 1) _ (by omega) a1 a2 hk j (by omega) h2
theorem paths_in {A : LL} (hA : Typed tab (.slice 47) (.l A)) (h : ¬decide (qu_v A (1048576 : Int) < 0) = true) : ∀ x, x ∈ A → (nth x 2).str.length ≤ 1048576 := fun x hx => by
  have h := of_decide_eq_false (Bool.eq_false_iff.2 h)
  have hlen := typed_room hA
  simp only [show (tab 47).bytes = 40 from rfl] at hlen
  unfold qu_v at h
  rw [wrap64 (i := 1048576 - (A.length : Int)) (by omega) (by omega)] at h
  cases h1 : decide (1048576 - (A.length : Int) < 0) with
  | true => rw [h1] at h; exact absurd (show (-1 : Int) < 0 by decide) h
  | false =>
    rw [h1] at h
    have h1 := of_decide_eq_false h1
    cases h2 : qu_k5_1 A (1048576 - (A.length : Int)) (0 : Int) with
    | true => rw [h2] at h; exact absurd (show (-1 : Int) < 0 by decide) h
    | false =>
      obtain ⟨j, hj, rfl⟩ := List.getElem_of_mem hx
      have := szl_loop hA A.length 0 _ (by omega) (by omega) (by omega) h2 j (by omega) hj
      rw [row_nat, List.getD_eq_getElem?_getD, List.getElem?_eq_getElem hj] at this
      exact this
abbrev qt_5_σ := LL × Int × Int
abbrev qt_5_ω := (Int) ⊕ (Int)
def qt_5_step (A : LL) (left i : Int) : Tr (qt_5_σ ⊕ qt_5_ω) := (.ite ((decide (i < (A.length : Int))) = true) (.ite ((0 : Int) ≤ i ∧ i < (A.length : Int)) (.ite ((decide ((IntKind.wrap .i64 (left - (((nth (row A i) 0).str).length : Int))) < (0 : Int))) = true) (.ok (.inr (.inl (IntKind.wrap .i64 (left - (((nth (row A i) 0).str).length : Int))))))
    (.ok (.inl (A, (IntKind.wrap .i64 (left - (((nth (row A i) 0).str).length : Int))), (IntKind.wrap .i64 (i + (1 : Int)))))))
   .no)
  (.ok (.inr (.inr left))))
def qt_5_st : qt_5_σ → Tr (qt_5_σ ⊕ qt_5_ω) := fun x => (qt_5_step (x.1) (x.2.1) (x.2.2))
def qt_k5_1 (A : LL) (left i : Int) : Bool := isL (loopN qt_5_st (A.length + 1) (A, left, i))
def qt_o5_2 (A : LL) (left i : Int) : Bool := is (i = 0 ∧ Typed tab (.slice 9) (.l A))
def qt_u5_2 (A : LL) (left i : Int) : Int := getL (loopN qt_5_st (A.length + 1) (A, left, i))
def qt_o5_3 (A : LL) (left i : Int) : Bool := is (i = 0 ∧ Typed tab (.slice 9) (.l A))
def qt_u5_3 (A : LL) (left i : Int) : Int := getR (loopN qt_5_st (A.length + 1) (A, left, i))
def qt_5_fin (A : LL) (left i : Int) : Told qt_5_ω := (.br (qt_k5_1 A left i) (.leaf (qt_o5_2 A left i) (.inl (qt_u5_2 A left i))) (.leaf (qt_o5_3 A left i) (.inr (qt_u5_3 A left i))))
def qt_5_sl (x : qt_5_σ) : List Slot := [⟨.val false [⟨.slice 9, .sh, TC.l (x.1)⟩], ⟨0, 0⟩⟩, ⟨.val false [⟨.int .i64, .sh, TC.i (x.2.1)⟩], ⟨0, 0⟩⟩, ⟨.val false [⟨.int .i64, .sh, TC.i (x.2.2)⟩], ⟨0, 0⟩⟩]
def qt_5_out : qt_5_ω → Ex × List Slot := (Sum.elim (fun x => (.ret, [⟨.val false [⟨.int .i64, .sh, TC.i x⟩], ⟨0, 0⟩⟩, ⟨.val false [⟨.int .i64, .sh, TC.i (-1 : Int)⟩], ⟨0, 0⟩⟩])) (fun x => (.exit 0, [⟨.val false [⟨.int .i64, .sh, TC.i x⟩], ⟨0, 0⟩⟩, Slot.none])))
def qt_lo5 : List Slot → Option (Told (Ex × List Slot)) := fun s => match s with
  | [⟨.val false [⟨.slice 9, .sh, TC.l A⟩], ⟨0, 0⟩⟩, ⟨.val false [⟨.int .i64, .sh, TC.i left⟩], ⟨0, 0⟩⟩, ⟨.val false [⟨.int .i64, .sh, TC.i i⟩], ⟨0, 0⟩⟩] => some (((qt_5_fin A left i)).map qt_5_out)
  | _ => .none
def qt_lo : LoopTeller := fun r s => bif Nat.beq r 5 then qt_lo5 s else .none
theorem qt_5_r (A : LL) (left i : Int) (fuel : Nat) : rounds (rnd tab FT D2 live 32 qt_lo 0 5) leave (fuel + 1) (qt_5_sl (A, left, i)) = ((qt_5_step A left i)).run (goOn (fun s => rounds (rnd tab FT D2 live 32 qt_lo 0 5) leave fuel (qt_5_sl s)) fun w => some (qt_5_out w)) := by kernel_rfl
theorem qt_5_h (A : LL) (left i : Int) (ow : qt_5_ω) : ((qt_5_fin A left i)).val = some ow → ∃ fuel, loopN qt_5_st fuel (A, left, i) = some ow := by
  refine auto_two (N := A.length + 1) rfl rfl rfl ?_
  intro ho
  have ho : is (i = 0 ∧ Typed tab (.slice 9) (.l A)) = true := ho.elim id id
  obtain ⟨rfl, ht⟩ := is_iff.1 ho
  have hlen : A.length ≤ 140737488351232 := by have := typed_room ht; simp only [show (tab 9).bytes = 16 from rfl] at this; omega
  refine loopN_ends (step := qt_5_st) (N := A.length) (fun i a => (A, a, (i : Int))) (fun i a hi => ?_) (fun a => ?_) A.length 0 left (by omega)
  · show (∃ a', (qt_5_step A a (i : Int)).val = _) ∨ ∃ w, (qt_5_step A a (i : Int)).val = _
    have c0 : Typed tab (.str) (.s (nth (A.getD i []) 0).str) := typed_s (typed_cell ht (A.getD i []) (mem_getD hi) 0 (by decide))
    cases hneg : ((decide ((IntKind.wrap .i64 (a - (((nth (row A i) 0).str).length : Int))) < (0 : Int))))
    · apply Or.inl
      apply Exists.intro
      · unfold qt_5_step
        refine Tr.t (by simp; omega) ?_
        refine Tr.t (by first | omega | (constructor <;> omega)) ?_
        refine Tr.n (by rw [hneg]; simp) ?_
        rw [Tr.val_ok, wrap64 (i := (i : Int) + 1) (by omega) (by omega)]; rfl
    · apply Or.inr
      apply Exists.intro
      · unfold qt_5_step
        refine Tr.t (by simp; omega) ?_
        refine Tr.t (by first | omega | (constructor <;> omega)) ?_
        refine Tr.t hneg ?_
        rfl
  · apply Exists.intro
    · show (qt_5_step A a (A.length : Int)).val = _
      refine Tr.n (by simp) ?_
      rfl
theorem qt_is5 : LoopIs tab FT D2 live 32 qt_lo 0 5 := by
  refine loop_told (sl := qt_5_sl) (step := qt_5_st) (out := qt_5_out) (lor := qt_lo5) (fin := fun x => (qt_5_fin (x.1) (x.2.1) (x.2.2))) (fun _ => rfl) ?_ (fun x n => qt_5_r x.1 x.2.1 x.2.2 n) (fun x ow => qt_5_h x.1 x.2.1 x.2.2 ow)
  intro s t h
  unfold qt_lo5 at h
  split at h
  · cases h; exact ⟨(_, _, _), rfl, rfl⟩
  · cases h
def qt_t (A : LL) (left : Int) : Tr (Int) := (.ite ((decide ((IntKind.wrap .i64 (left - (A.length : Int))) < (0 : Int))) = true) (.ok (-1 : Int))
  (.ite ((qt_k5_1 A (IntKind.wrap .i64 (left - (A.length : Int))) (0 : Int)) = true) (.ite ((qt_o5_2 A (IntKind.wrap .i64 (left - (A.length : Int))) (0 : Int)) = true) (.ok (-1 : Int))
    .no)
   (.ite ((qt_o5_3 A (IntKind.wrap .i64 (left - (A.length : Int))) (0 : Int)) = true) (.ok (qt_u5_3 A (IntKind.wrap .i64 (left - (A.length : Int))) (0 : Int)))
    .no)))
def qt_mk (p : Int) : Res := [(false, [⟨.int .i64, .sh, TC.i p⟩])]
def qt_c (A : LL) (left : Int) : Bool := is (((qt_o5_2 A (IntKind.wrap .i64 (left - (A.length : Int))) (0 : Int)) = true) ∧ ((qt_o5_3 A (IntKind.wrap .i64 (left - (A.length : Int))) (0 : Int)) = true))
def qt_v (A : LL) (left : Int) : Int := (bif (decide ((IntKind.wrap .i64 (left - (A.length : Int))) < (0 : Int))) then (-1 : Int) else (bif (qt_k5_1 A (IntKind.wrap .i64 (left - (A.length : Int))) (0 : Int)) then (-1 : Int) else (qt_u5_3 A (IntKind.wrap .i64 (left - (A.length : Int))) (0 : Int))))
theorem qt_l (A : LL) (left : Int) : (qt_c A left) = true → (qt_t A left).val = some (qt_v A left) := by
  intro h
  obtain ⟨g0, g1⟩ := is_iff.1 h
  unfold qt_t qt_v
  exact (Tr.s rfl (Tr.s (Tr.t g0 rfl) (Tr.t g1 rfl)))
def qt_S : List Arg → Option (Bool × Res) := fun xs => match xs with
  | [(false, [(.slice 9, TC.l A)]), (false, [(.int .i64, TC.i left)])] => some ((qt_c A left), qt_mk (qt_v A left))
  | _ => .none
theorem qt_e (A : LL) (left : Int) : runF tab FT D2 live 32 qt_lo [(false, [(.slice 9, TC.l A)]), (false, [(.int .i64, TC.i left)])] = (qt_t A left).run fun p => some (qt_mk p) := by kernel_rfl
theorem qt_s : ∀ xs r, qt_S xs = some (true, r) → runF tab FT D2 live 32 qt_lo xs = some r := by
  intro xs r h
  unfold qt_S at h
  split at h
  · obtain ⟨h1, rfl⟩ := sp h
    exact fun_told (qt_e ..) (qt_l _ _) h1
  · cases h
def D3 : Dt := also D2 32 qt_S
theorem d3 : DOk Go.Proofs.Tryd.prog tab D3 := d2.also mixed_ok tab_ok names_ok (fnLoops_one (by kernel_rfl) qt_is5) qt_s
def qbq_t (a0 : LL) (a1 : Int) : Tr (Int) := (.ite ((qt_c a0 a1) = true) (.ite ((decide ((qt_v a0 a1) < (0 : Int))) = true) (.ok (-1 : Int))
   (.ok (qt_v a0 a1)))
  .no)
def qbq_mk (p : Int) : Res := [(false, [⟨.int .i64, .sh, TC.i p⟩])]
def qbq_c (a0 : LL) (a1 : Int) : Bool := (qt_c a0 a1)
def qbq_v (a0 : LL) (a1 : Int) : Int := (bif (decide ((qt_v a0 a1) < (0 : Int))) then (-1 : Int) else (qt_v a0 a1))
theorem qbq_l (a0 : LL) (a1 : Int) : (qbq_c a0 a1) = true → (qbq_t a0 a1).val = some (qbq_v a0 a1) := by
  intro h
  have g0 : (qt_c a0 a1) = true := h
  unfold qbq_t qbq_v
  exact (Tr.t g0 (Tr.s rfl rfl))
def qbq_S : List Arg → Option (Bool × Res) := fun xs => match xs with
  | [(true, [(.slice 9, TC.l a0)]), (false, [(.int .i64, TC.i a1)])] => some ((qbq_c a0 a1), qbq_mk (qbq_v a0 a1))
  | _ => .none
theorem qbq_e (a0 : LL) (a1 : Int) : runF tab FT D3 live 19 noLoops [(true, [(.slice 9, TC.l a0)]), (false, [(.int .i64, TC.i a1)])] = (qbq_t a0 a1).run fun p => some (qbq_mk p) := by kernel_rfl
theorem qbq_s : ∀ xs r, qbq_S xs = some (true, r) → runF tab FT D3 live 19 noLoops xs = some r := by
  intro xs r h
  unfold qbq_S at h
  split at h
  · obtain ⟨h1, rfl⟩ := sp h
    exact fun_told (qbq_e ..) (qbq_l _ _) h1
  · cases h
def D4 : Dt := also D3 19 qbq_S
theorem d4 : DOk Go.Proofs.Tryd.prog tab D4 := d3.also mixed_ok tab_ok names_ok noLoops_ok qbq_s
def qby_t (a0 : BS) (a1 : Int) (a2 : BS) : Tr (BS × Int × BS) := .ok (a0, a1, a2)
def qby_mk (p : BS × Int × BS) : Res := [(true, [⟨.str, .sh, TC.s (p.1)⟩, ⟨.int .i64, .sh, TC.i (p.2.1)⟩, ⟨.str, .sh, TC.s (p.2.2)⟩])]
def qby_c (a0 : BS) (a1 : Int) (a2 : BS) : Bool := true
def qby_v (a0 : BS) (a1 : Int) (a2 : BS) : BS × Int × BS := (a0, a1, a2)
theorem qby_l (a0 : BS) (a1 : Int) (a2 : BS) : (qby_c a0 a1 a2) = true → (qby_t a0 a1 a2).val = some (qby_v a0 a1 a2) := by
  intro h
  skip
  unfold qby_t qby_v
  exact rfl
def qby_S : List Arg → Option (Bool × Res) := fun xs => match xs with
  | [(true, [(.str, TC.s a0), (.int .i64, TC.i a1), (.str, TC.s a2)])] => some (true, qby_mk (qby_v a0 a1 a2))
  | _ => .none
theorem qby_e (a0 : BS) (a1 : Int) (a2 : BS) : runF tab FT D4 live 29 noLoops [(true, [(.str, TC.s a0), (.int .i64, TC.i a1), (.str, TC.s a2)])] = (qby_t a0 a1 a2).run fun p => some (qby_mk p) := by kernel_rfl
theorem qby_s : ∀ xs r, qby_S xs = some (true, r) → runF tab FT D4 live 29 noLoops xs = some r := by
  intro xs r h
  unfold qby_S at h
  split at h
  · obtain ⟨h1, rfl⟩ := sp h
    exact fun_told (qby_e ..) (qby_l _ _ _) rfl
  · cases h
def D5 : Dt := also D4 29 qby_S
theorem d5 : DOk Go.Proofs.Tryd.prog tab D5 := d4.also mixed_ok tab_ok names_ok noLoops_ok qby_s
def qba_g (x : List TC) : List TC := [TC.s ((nth x 0).str), TC.i ((nth x 1).int), TC.s ((nth x 2).str)]
def qba_z : List TC := [TC.s [], TC.i (0 : Int), TC.s []]
abbrev qba_3_σ := LL × LL × Int
abbrev qba_3_ω := (LL)
def qba_3_step (A X : LL) (i : Int) : Tr (qba_3_σ ⊕ qba_3_ω) := (.ite ((decide (i < (A.length : Int))) = true) (.ite ((0 : Int) ≤ i ∧ i < (A.length : Int)) (.ite ((0 : Int) ≤ i ∧ i < (X.length : Int)) (.ok (.inl (A, (X.set (i).toNat (splice (row X i) 0 [TC.s ((nth (row A i) 0).str), TC.i ((nth (row A i) 1).int), TC.s ((nth (row A i) 2).str)])), (IntKind.wrap .i64 (i + (1 : Int))))))
    .no)
   .no)
  (.ok (.inr X)))
def qba_3_st : qba_3_σ → Tr (qba_3_σ ⊕ qba_3_ω) := fun x => (qba_3_step (x.1) (x.2.1) (x.2.2))
def qba_o3_1 (A X : LL) (i : Int) : Bool := is (Typed tab (.slice 47) (.l A) ∧ X = List.replicate A.length qba_z ∧ i = 0)
def qba_u3_1 (A X : LL) (i : Int) : LL := A.map qba_g
def qba_3_fin (A X : LL) (i : Int) : Told qba_3_ω := (.leaf (qba_o3_1 A X i) (qba_u3_1 A X i))
def qba_3_sl (x : qba_3_σ) : List Slot := [⟨.val false [⟨.slice 47, .sh, TC.l (x.1)⟩], ⟨0, 0⟩⟩, ⟨.val false [⟨.slice 48, .own true, TC.l (x.2.1)⟩], ⟨0, 0⟩⟩, ⟨.val false [⟨.int .i64, .sh, TC.i (x.2.2)⟩], ⟨0, 0⟩⟩]
def qba_3_out : qba_3_ω → Ex × List Slot := (fun x => (.exit 0, [Slot.none, ⟨.val false [⟨.slice 48, .own true, TC.l x⟩], ⟨0, 0⟩⟩]))
def qba_lo3 : List Slot → Option (Told (Ex × List Slot)) := fun s => match s with
  | [⟨.val false [⟨.slice 47, .sh, TC.l A⟩], ⟨0, 0⟩⟩, ⟨.val false [⟨.slice 48, .own true, TC.l X⟩], ⟨0, 0⟩⟩, ⟨.val false [⟨.int .i64, .sh, TC.i i⟩], ⟨0, 0⟩⟩] => some (((qba_3_fin A X i)).map qba_3_out)
  | _ => .none
def qba_lo : LoopTeller := fun r s => bif Nat.beq r 3 then qba_lo3 s else .none
theorem qba_3_r (A X : LL) (i : Int) (fuel : Nat) : rounds (rnd tab FT D5 live 16 qba_lo 0 3) leave (fuel + 1) (qba_3_sl (A, X, i)) = ((qba_3_step A X i)).run (goOn (fun s => rounds (rnd tab FT D5 live 16 qba_lo 0 3) leave fuel (qba_3_sl s)) fun w => some (qba_3_out w)) := by kernel_rfl
theorem qba_3_h (A X : LL) (i : Int) (ow : qba_3_ω) : ((qba_3_fin A X i)).val = some ow → ∃ fuel, loopN qba_3_st fuel (A, X, i) = some ow := by
  intro h
  simp only [qba_3_fin, Told.val] at h
  split at h
  · rename_i ho
    obtain ⟨ht, rfl, rfl⟩ := is_iff.1 ho
    cases h
    have hlen : A.length ≤ 140737488351232 := by have := typed_room ht; simp only [show (tab 47).bytes = 40 from rfl] at this; omega
    have key := loopN_copy (step := qba_3_st) A (List.replicate A.length qba_z) qba_g (fun Y i => (A, Y, (i : Int))) (A.map qba_g) (by simp) (fun x hx i _ => by rw [(List.mem_replicate.1 hx).2]; exact Nat.le_refl 3) (fun Y i hi hl => ?_) ?_ A.length 0 (by omega)
    · rw [copied_zero] at key
      exact ⟨_, key⟩
    · have c0 : Typed tab (.str) (.s (nth (A.getD i []) 0).str) := typed_s (typed_cell ht (A.getD i []) (mem_getD hi) 0 (by decide))
      have c2 : Typed tab (.str) (.s (nth (A.getD i []) 2).str) := typed_s (typed_cell ht (A.getD i []) (mem_getD hi) 2 (by decide))
      show (qba_3_step A Y (i : Int)).val = _
      unfold qba_3_step
      refine Tr.t (by simp; omega) ?_
      refine Tr.t (by constructor <;> omega) ?_
      refine Tr.t (by constructor <;> omega) ?_
      repeat (refine Tr.t (by first | (apply is_true; and_intros <;> (first | rfl | assumption | (first | (apply is_true; and_intros <;> (first | rfl | assumption | (first | (apply is_true; and_intros <;> (first | rfl | assumption | (first | (apply is_true; and_intros <;> (first | rfl | assumption)))))))))))) ?_)
      rw [Tr.val_ok, wrap64 (i := (i : Int) + 1) (by omega) (by omega)]; rfl
    · show (qba_3_step A (A.map qba_g) (A.length : Int)).val = _
      refine Tr.n (by simp) ?_
      rfl
  · cases h
theorem qba_is3 : LoopIs tab FT D5 live 16 qba_lo 0 3 := by
  refine loop_told (sl := qba_3_sl) (step := qba_3_st) (out := qba_3_out) (lor := qba_lo3) (fin := fun x => (qba_3_fin (x.1) (x.2.1) (x.2.2))) (fun _ => rfl) ?_ (fun x n => qba_3_r x.1 x.2.1 x.2.2 n) (fun x ow => qba_3_h x.1 x.2.1 x.2.2 ow)
  intro s t h
  unfold qba_lo3 at h
  split at h
  · cases h; exact ⟨(_, _, _), rfl, rfl⟩
  · cases h
def qba_t (A : LL) : Tr (LL) := (.ite (0 ≤ (A.length : Int) ∧ (A.length : Int) ≤ (A.length : Int) ∧ (A.length : Int) * 40 ≤ 140737488355328 ∧ (A.length : Int) ≤ 140737488355328) (.ite ((qba_o3_1 A (List.replicate ((A.length : Int)).toNat [TC.s [], TC.i (0 : Int), TC.s []]) (0 : Int)) = true) (.ok (qba_u3_1 A (List.replicate ((A.length : Int)).toNat [TC.s [], TC.i (0 : Int), TC.s []]) (0 : Int)))
   .no)
  .no)
def qba_mk (p : LL) : Res := [(false, [⟨.slice 48, .own true, TC.l p⟩])]
def qba_c (A : LL) : Bool := is (Typed tab (.slice 47) (.l A))
def qba_v (A : LL) : LL := A.map qba_g
theorem qba_l (A : LL) : (qba_c A) = true → (qba_t A).val = some (qba_v A) := by
  intro h
  have ht := is_iff.1 h
  have hb := typed_room ht
  simp only [show (tab 47).bytes = 40 from rfl] at hb
  unfold qba_t
  refine Tr.t (by omega) ?_
  refine Tr.t (is_true ⟨ht, by rfl, rfl⟩) ?_
  rfl
def qba_S : List Arg → Option (Bool × Res) := fun xs => match xs with
  | [(false, [(.slice 47, TC.l A)])] => some ((qba_c A), qba_mk (qba_v A))
  | _ => .none
theorem qba_e (A : LL) : runF tab FT D5 live 16 qba_lo [(false, [(.slice 47, TC.l A)])] = (qba_t A).run fun p => some (qba_mk p) := by kernel_rfl
theorem qba_s : ∀ xs r, qba_S xs = some (true, r) → runF tab FT D5 live 16 qba_lo xs = some r := by
  intro xs r h
  unfold qba_S at h
  split at h
  · obtain ⟨h1, rfl⟩ := sp h
    exact fun_told (qba_e _) (qba_l _) h1
  · cases h
def D6 : Dt := also D5 16 qba_S
theorem d6 : DOk Go.Proofs.Tryd.prog tab D6 := d5.also mixed_ok tab_ok names_ok (fnLoops_one (by kernel_rfl) qba_is3) qba_s
theorem qba_ty {A : LL} (h : Typed tab (.slice 47) (.l A)) : Typed tab (.slice 48) (.l (A.map qba_g)) := by
  refine typed_map h (by decide) fun x _ _ hx => ⟨rfl, fun k hk => ?_⟩
  match k, hk with
    | 0, _ => exact typed_s (hx 0 (by decide))
    | 1, _ => exact typed_i (hx 1 (by decide))
    | 2, _ => exact typed_s (hx 2 (by decide))
def qx_g (x : List TC) : List TC := [TC.s ((nth x 0).str)]
def qx_z : List TC := [TC.s []]
abbrev qx_3_σ := LL × LL × Int
abbrev qx_3_ω := (LL)
def qx_3_step (A X : LL) (i : Int) : Tr (qx_3_σ ⊕ qx_3_ω) := (.ite ((decide (i < (A.length : Int))) = true) (.ite ((0 : Int) ≤ i ∧ i < (A.length : Int)) (.ite ((0 : Int) ≤ i ∧ i < (X.length : Int)) (.ok (.inl (A, (X.set (i).toNat (splice (row X i) 0 [TC.s ((nth (row A i) 0).str)])), (IntKind.wrap .i64 (i + (1 : Int))))))
    .no)
   .no)
  (.ok (.inr X)))
def qx_3_st : qx_3_σ → Tr (qx_3_σ ⊕ qx_3_ω) := fun x => (qx_3_step (x.1) (x.2.1) (x.2.2))
def qx_o3_1 (A X : LL) (i : Int) : Bool := is (Typed tab (.slice 9) (.l A) ∧ X = List.replicate A.length qx_z ∧ i = 0)
def qx_u3_1 (A X : LL) (i : Int) : LL := A.map qx_g
def qx_3_fin (A X : LL) (i : Int) : Told qx_3_ω := (.leaf (qx_o3_1 A X i) (qx_u3_1 A X i))
def qx_3_sl (x : qx_3_σ) : List Slot := [⟨.val false [⟨.slice 9, .sh, TC.l (x.1)⟩], ⟨0, 0⟩⟩, ⟨.val false [⟨.slice 9, .own true, TC.l (x.2.1)⟩], ⟨0, 0⟩⟩, ⟨.val false [⟨.int .i64, .sh, TC.i (x.2.2)⟩], ⟨0, 0⟩⟩]
def qx_3_out : qx_3_ω → Ex × List Slot := (fun x => (.exit 0, [Slot.none, ⟨.val false [⟨.slice 9, .own true, TC.l x⟩], ⟨0, 0⟩⟩]))
def qx_lo3 : List Slot → Option (Told (Ex × List Slot)) := fun s => match s with
  | [⟨.val false [⟨.slice 9, .sh, TC.l A⟩], ⟨0, 0⟩⟩, ⟨.val false [⟨.slice 9, .own true, TC.l X⟩], ⟨0, 0⟩⟩, ⟨.val false [⟨.int .i64, .sh, TC.i i⟩], ⟨0, 0⟩⟩] => some (((qx_3_fin A X i)).map qx_3_out)
  | _ => .none
def qx_lo : LoopTeller := fun r s => bif Nat.beq r 3 then qx_lo3 s else .none
theorem qx_3_r (A X : LL) (i : Int) (fuel : Nat) : rounds (rnd tab FT D6 live 37 qx_lo 0 3) leave (fuel + 1) (qx_3_sl (A, X, i)) = ((qx_3_step A X i)).run (goOn (fun s => rounds (rnd tab FT D6 live 37 qx_lo 0 3) leave fuel (qx_3_sl s)) fun w => some (qx_3_out w)) := by kernel_rfl
theorem qx_3_h (A X : LL) (i : Int) (ow : qx_3_ω) : ((qx_3_fin A X i)).val = some ow → ∃ fuel, loopN qx_3_st fuel (A, X, i) = some ow := by
  intro h
  simp only [qx_3_fin, Told.val] at h
  split at h
  · rename_i ho
    obtain ⟨ht, rfl, rfl⟩ := is_iff.1 ho
    cases h
    have hlen : A.length ≤ 140737488351232 := by have := typed_room ht; simp only [show (tab 9).bytes = 16 from rfl] at this; omega
    have key := loopN_copy (step := qx_3_st) A (List.replicate A.length qx_z) qx_g (fun Y i => (A, Y, (i : Int))) (A.map qx_g) (by simp) (fun x hx i _ => by rw [(List.mem_replicate.1 hx).2]; exact Nat.le_refl 1) (fun Y i hi hl => ?_) ?_ A.length 0 (by omega)
    · rw [copied_zero] at key
      exact ⟨_, key⟩
    · have c0 : Typed tab (.str) (.s (nth (A.getD i []) 0).str) := typed_s (typed_cell ht (A.getD i []) (mem_getD hi) 0 (by decide))
      show (qx_3_step A Y (i : Int)).val = _
      unfold qx_3_step
      refine Tr.t (by simp; omega) ?_
      refine Tr.t (by constructor <;> omega) ?_
      refine Tr.t (by constructor <;> omega) ?_
      repeat (refine Tr.t (by first | (apply is_true; and_intros <;> (first | rfl | assumption | (first | (apply is_true; and_intros <;> (first | rfl | assumption | (first | (apply is_true; and_intros <;> (first | rfl | assumption | (first | (apply is_true; and_intros <;> (first | rfl | assumption)))))))))))) ?_)
      rw [Tr.val_ok, wrap64 (i := (i : Int) + 1) (by omega) (by omega)]; rfl
    · show (qx_3_step A (A.map qx_g) (A.length : Int)).val = _
      refine Tr.n (by simp) ?_
      rfl
  · cases h
theorem qx_is3 : LoopIs tab FT D6 live 37 qx_lo 0 3 := by
  refine loop_told (sl := qx_3_sl) (step := qx_3_st) (out := qx_3_out) (lor := qx_lo3) (fin := fun x => (qx_3_fin (x.1) (x.2.1) (x.2.2))) (fun _ => rfl) ?_ (fun x n => qx_3_r x.1 x.2.1 x.2.2 n) (fun x ow => qx_3_h x.1 x.2.1 x.2.2 ow)
  intro s t h
  unfold qx_lo3 at h
  split at h
  · cases h; exact ⟨(_, _, _), rfl, rfl⟩
  · cases h
def qx_t (A : LL) : Tr (LL) := (.ite (0 ≤ (A.length : Int) ∧ (A.length : Int) ≤ (A.length : Int) ∧ (A.length : Int) * 16 ≤ 140737488355328 ∧ (A.length : Int) ≤ 140737488355328) (.ite ((qx_o3_1 A (List.replicate ((A.length : Int)).toNat [TC.s []]) (0 : Int)) = true) (.ok (qx_u3_1 A (List.replicate ((A.length : Int)).toNat [TC.s []]) (0 : Int)))
   .no)
  .no)
def qx_mk (p : LL) : Res := [(false, [⟨.slice 9, .own true, TC.l p⟩])]
def qx_c (A : LL) : Bool := is (Typed tab (.slice 9) (.l A))
def qx_v (A : LL) : LL := A.map qx_g
theorem qx_l (A : LL) : (qx_c A) = true → (qx_t A).val = some (qx_v A) := by
  intro h
  have ht := is_iff.1 h
  have hb := typed_room ht
  simp only [show (tab 9).bytes = 16 from rfl] at hb
  unfold qx_t
  refine Tr.t (by omega) ?_
  refine Tr.t (is_true ⟨ht, by rfl, rfl⟩) ?_
  rfl
def qx_S : List Arg → Option (Bool × Res) := fun xs => match xs with
  | [(false, [(.slice 9, TC.l A)])] => some ((qx_c A), qx_mk (qx_v A))
  | _ => .none
theorem qx_e (A : LL) : runF tab FT D6 live 37 qx_lo [(false, [(.slice 9, TC.l A)])] = (qx_t A).run fun p => some (qx_mk p) := by kernel_rfl
theorem qx_s : ∀ xs r, qx_S xs = some (true, r) → runF tab FT D6 live 37 qx_lo xs = some r := by
  intro xs r h
  unfold qx_S at h
  split at h
  · obtain ⟨h1, rfl⟩ := sp h
    exact fun_told (qx_e _) (qx_l _) h1
  · cases h
def D7 : Dt := also D6 37 qx_S
theorem d7 : DOk Go.Proofs.Tryd.prog tab D7 := d6.also mixed_ok tab_ok names_ok (fnLoops_one (by kernel_rfl) qx_is3) qx_s
theorem qx_ty {A : LL} (h : Typed tab (.slice 9) (.l A)) : Typed tab (.slice 9) (.l (A.map qx_g)) := by
  refine typed_map h (by decide) fun x _ _ hx => ⟨rfl, fun k hk => ?_⟩
  match k, hk with
    | 0, _ => exact typed_s (hx 0 (by decide))
def qbn_t (x0 : LL) : Tr (LL) := (.ite ((qx_c x0) = true) (.ok (qx_v x0))
  .no)
def qbn_mk (p : LL) : Res := [(true, [⟨.slice 9, .own true, TC.l p⟩])]
def qbn_c (x0 : LL) : Bool := is (Typed tab (.slice 9) (.l x0))
def qbn_v (x0 : LL) : LL := (qx_v x0)
theorem qbn_l (x0 : LL) : (qbn_c x0) = true → (qbn_t x0).val = some (qbn_v x0) := by
  intro h
  have t0 := is_iff.1 h
  unfold qbn_t
  repeat (refine Tr.t (by first | (apply is_true; and_intros <;> (first | rfl | assumption | (first | (apply is_true; and_intros <;> (first | rfl | assumption | (first | (apply is_true; and_intros <;> (first | rfl | assumption | (first | (apply is_true; and_intros <;> (first | rfl | assumption)))))))))))) ?_)
  rfl
def qbn_S : List Arg → Option (Bool × Res) := fun xs => match xs with
  | [(true, [(.slice 9, TC.l x0)])] => some ((qbn_c x0), qbn_mk (qbn_v x0))
  | _ => .none
theorem qbn_e (x0 : LL) : runF tab FT D7 live 21 noLoops [(true, [(.slice 9, TC.l x0)])] = (qbn_t x0).run fun p => some (qbn_mk p) := by kernel_rfl
theorem qbn_s : ∀ xs r, qbn_S xs = some (true, r) → runF tab FT D7 live 21 noLoops xs = some r := by
  intro xs r h
  unfold qbn_S at h
  split at h
  · obtain ⟨h1, rfl⟩ := sp h
    exact fun_told (qbn_e _) (qbn_l _) h1
  · cases h
def D8 : Dt := also D7 21 qbn_S
theorem d8 : DOk Go.Proofs.Tryd.prog tab D8 := d7.also mixed_ok tab_ok names_ok noLoops_ok qbn_s
def qbp_t (a0 : Int) : Tr (Bool) := (.ite ((decide (a0 ≥ (65 : Int))) = true) (.ite ((decide (a0 ≤ (90 : Int))) = true) (.ok true)
   (.ite ((decide (a0 ≥ (97 : Int))) = true) (.ok (decide (a0 ≤ (122 : Int))))
    (.ok false)))
  (.ite ((decide (a0 ≥ (97 : Int))) = true) (.ok (decide (a0 ≤ (122 : Int))))
   (.ok false)))
def qbp_mk (p : Bool) : Res := [(false, [⟨.bool, .sh, TC.b p⟩])]
def qbp_c (a0 : Int) : Bool := true
def qbp_v (a0 : Int) : Bool := (bif (decide (a0 ≥ (65 : Int))) then (bif (decide (a0 ≤ (90 : Int))) then true else (bif (decide (a0 ≥ (97 : Int))) then (decide (a0 ≤ (122 : Int))) else false)) else (bif (decide (a0 ≥ (97 : Int))) then (decide (a0 ≤ (122 : Int))) else false))
theorem qbp_l (a0 : Int) : (qbp_c a0) = true → (qbp_t a0).val = some (qbp_v a0) := by
  intro h
  skip
  unfold qbp_t qbp_v
  exact (Tr.s (Tr.s rfl (Tr.s rfl rfl)) (Tr.s rfl rfl))
def qbp_S : List Arg → Option (Bool × Res) := fun xs => match xs with
  | [(false, [(.int .u8, TC.i a0)])] => some (true, qbp_mk (qbp_v a0))
  | _ => .none
theorem qbp_e (a0 : Int) : runF tab FT D8 live 56 noLoops [(false, [(.int .u8, TC.i a0)])] = (qbp_t a0).run fun p => some (qbp_mk p) := by kernel_rfl
theorem qbp_s : ∀ xs r, qbp_S xs = some (true, r) → runF tab FT D8 live 56 noLoops xs = some r := by
  intro xs r h
  unfold qbp_S at h
  split at h
  · obtain ⟨h1, rfl⟩ := sp h
    exact fun_told (qbp_e _) (qbp_l _) rfl
  · cases h
def D9 : Dt := also D8 56 qbp_S
theorem d9 : DOk Go.Proofs.Tryd.prog tab D9 := d8.also mixed_ok tab_ok names_ok noLoops_ok qbp_s
def qh_f4 (s : BS) (i : Int) : (Unit) ⊕ ((Unit) ⊕ (Unit)) := (bif (!(qbp_v ((s.getD (i).toNat 0).toNat : Int))) then (bif (decide (((s.getD (i).toNat 0).toNat : Int) ≥ (48 : Int))) then (bif (!(decide (((s.getD (i).toNat 0).toNat : Int) ≤ (57 : Int)))) then (bif (!(((s.getD (i).toNat 0).toNat : Int) == (95 : Int))) then (.inr (.inl ())) else (.inl ())) else (.inl ())) else (bif (!(((s.getD (i).toNat 0).toNat : Int) == (95 : Int))) then (.inr (.inl ())) else (.inl ()))) else (.inl ()))
def qh_e4 (s : BS) : (Unit) ⊕ (Unit) := .inr ()
def qh_R4 (s : BS) (i : Int) : (Unit) ⊕ (Unit) := iter (fun i a => (qh_f4 s ((i + 1 : Nat) : Int))) (fun a => (qh_e4 s)) (s.length - 1) 0 ()
abbrev qh_4_σ := BS × Int
abbrev qh_4_ω := (Unit) ⊕ (Unit)
def qh_4_step (s : BS) (i : Int) : Tr (qh_4_σ ⊕ qh_4_ω) := (.ite ((decide (i < (s.length : Int))) = true) (.ite ((0 : Int) ≤ i ∧ i < (s.length : Int)) (.ite ((!(qbp_v ((s.getD (i).toNat 0).toNat : Int))) = true) (.ite ((0 : Int) ≤ i ∧ i < (s.length : Int)) (.ite ((decide (((s.getD (i).toNat 0).toNat : Int) ≥ (48 : Int))) = true) (.ite ((0 : Int) ≤ i ∧ i < (s.length : Int)) (.ite ((!(decide (((s.getD (i).toNat 0).toNat : Int) ≤ (57 : Int)))) = true) (.ite ((0 : Int) ≤ i ∧ i < (s.length : Int)) (.ite ((!(((s.getD (i).toNat 0).toNat : Int) == (95 : Int))) = true) (.ok (.inr (.inl ())))
          (.ok (.inl (s, (IntKind.wrap .i64 (i + (1 : Int)))))))
         .no)
        (.ok (.inl (s, (IntKind.wrap .i64 (i + (1 : Int)))))))
       .no)
      (.ite ((0 : Int) ≤ i ∧ i < (s.length : Int)) (.ite ((!(((s.getD (i).toNat 0).toNat : Int) == (95 : Int))) = true) (.ok (.inr (.inl ())))
        (.ok (.inl (s, (IntKind.wrap .i64 (i + (1 : Int)))))))
       .no))
     .no)
    (.ok (.inl (s, (IntKind.wrap .i64 (i + (1 : Int)))))))
   .no)
  (.ok (.inr (.inr ()))))
def qh_4_st : qh_4_σ → Tr (qh_4_σ ⊕ qh_4_ω) := fun x => (qh_4_step (x.1) (x.2))
def qh_k4_1 (s : BS) (i : Int) : Bool := sumIs (qh_R4 s i)
def qh_o4_2 (s : BS) (i : Int) : Bool := is (i = 1 ∧ s.length ≤ 140737488355328)
def qh_o4_3 (s : BS) (i : Int) : Bool := is (i = 1 ∧ s.length ≤ 140737488355328)
def qh_4_fin (s : BS) (i : Int) : Told qh_4_ω := (.br (qh_k4_1 s i) (.leaf (qh_o4_2 s i) (.inl ())) (.leaf (qh_o4_3 s i) (.inr ())))
def qh_4_sl (x : qh_4_σ) : List Slot := [⟨.val false [⟨.str, .sh, TC.s (x.1)⟩], ⟨0, 0⟩⟩, ⟨.val false [⟨.int .i64, .sh, TC.i (x.2)⟩], ⟨0, 0⟩⟩]
def qh_4_out : qh_4_ω → Ex × List Slot := (Sum.elim (fun x => (.ret, [⟨.val false [⟨.bool, .sh, TC.b false⟩], ⟨0, 0⟩⟩])) (fun x => (.exit 0, [Slot.none])))
def qh_lo4 : List Slot → Option (Told (Ex × List Slot)) := fun s => match s with
  | [⟨.val false [⟨.str, .sh, TC.s s⟩], ⟨0, 0⟩⟩, ⟨.val false [⟨.int .i64, .sh, TC.i i⟩], ⟨0, 0⟩⟩] => some (((qh_4_fin s i)).map qh_4_out)
  | _ => .none
def qh_lo : LoopTeller := fun r s => bif Nat.beq r 4 then qh_lo4 s else .none
theorem qh_4_r (s : BS) (i : Int) (fuel : Nat) : rounds (rnd tab FT D9 live 40 qh_lo 0 4) leave (fuel + 1) (qh_4_sl (s, i)) = ((qh_4_step s i)).run (goOn (fun s => rounds (rnd tab FT D9 live 40 qh_lo 0 4) leave fuel (qh_4_sl s)) fun w => some (qh_4_out w)) := by kernel_rfl
theorem qh_f4_eq (s : BS) (i : Int) : qh_f4 s i = bif (letterB ((s.getD (i).toNat 0).toNat : Int) || ((decide (((s.getD (i).toNat 0).toNat : Int) ≥ 48) && decide (((s.getD (i).toNat 0).toNat : Int) ≤ 57)) || ((s.getD (i).toNat 0).toNat : Int) == 95)) then Sum.inl () else Sum.inr (Sum.inl ()) := by
  unfold qh_f4 letterB
  simp only [qbp_v, dlt, dgt]
  generalize ((s.getD i.toNat 0).toNat : Int) = c
  generalize decide (c ≥ 65) = p0, decide (c ≤ 90) = p1, decide (c ≥ 97) = p2, decide (c ≤ 122) = p3, decide (c ≥ 48) = p4, decide (c ≤ 57) = p5, (c == 95) = p6
  cases p0 <;> cases p1 <;> cases p2 <;> cases p3 <;> cases p4 <;> cases p5 <;> cases p6 <;> rfl
theorem qh_R4_eq (s : BS)  : qh_R4 s 1 = bif allI (fun i : Nat => (letterB ((s.getD (((i + 1 : Nat) : Int)).toNat 0).toNat : Int) || ((decide (((s.getD (((i + 1 : Nat) : Int)).toNat 0).toNat : Int) ≥ 48) && decide (((s.getD (((i + 1 : Nat) : Int)).toNat 0).toNat : Int) ≤ 57)) || ((s.getD (((i + 1 : Nat) : Int)).toNat 0).toNat : Int) == 95))) (s.length - 1) then Sum.inr () else (Sum.inl ()) := by
  unfold qh_R4
  exact (iter_all (P := (fun i : Nat => (letterB ((s.getD (((i + 1 : Nat) : Int)).toNat 0).toNat : Int) || ((decide (((s.getD (((i + 1 : Nat) : Int)).toNat 0).toNat : Int) ≥ 48) && decide (((s.getD (((i + 1 : Nat) : Int)).toNat 0).toNat : Int) ≤ 57)) || ((s.getD (((i + 1 : Nat) : Int)).toNat 0).toNat : Int) == 95)))) (g := fun _ a => a) (w := Sum.inl ()) fun j a _ => qh_f4_eq s _)
theorem qh_4_h (s : BS) (i : Int) (ow : qh_4_ω) : ((qh_4_fin s i)).val = some ow → ∃ fuel, loopN qh_4_st fuel (s, i) = some ow := by
  refine auto_const (R := (qh_R4 s i)) rfl (iter_onR (f := (fun i a => (qh_f4 s ((i + 1 : Nat) : Int)))) (fin := (fun a => (qh_e4 s))) (Q := endsAs () ()) (fun i a => by unfold qh_f4; exact (onR_bif (onR_bif (onR_bif (onR_bif rfl trivial) trivial) (onR_bif rfl trivial)) trivial)) (fun _ => rfl) _ _ _) ?_
  intro ho
  have ho : is (i = 1 ∧ s.length ≤ 140737488355328) = true := ho.elim id id
  obtain ⟨rfl, hs⟩ := is_iff.1 ho
  skip
  refine ⟨(s.length - 1) + 1, ?_⟩
  refine iter_loop (step := qh_4_st) (s.length - 1) (fun i a => (qh_f4 s ((i + 1 : Nat) : Int))) (fun a => (qh_e4 s)) (fun i a => (s, ((i + 1 : Nat) : Int))) (fun _ _ => True) trivial (fun i a hi hI => ⟨?_, fun _ _ => trivial⟩) (fun a hI => ?_)
  · show (qh_4_step s ((i + 1 : Nat) : Int)).val = _
    unfold qh_4_step qh_f4
    skip
    refine Tr.t (by simp; omega) ?_
    exact (Tr.t (by first | omega | (constructor <;> omega)) (Tr.bf (Tr.t (by first | omega | (constructor <;> omega)) (Tr.bf (Tr.t (by first | omega | (constructor <;> omega)) (Tr.bf (Tr.t (by first | omega | (constructor <;> omega)) (Tr.bf rfl (by rw [Tr.val_ok, wrap64 (i := ((i + 1 : Nat) : Int) + 1) (by omega) (by omega)]; rfl))) (by rw [Tr.val_ok, wrap64 (i := ((i + 1 : Nat) : Int) + 1) (by omega) (by omega)]; rfl))) (Tr.t (by first | omega | (constructor <;> omega)) (Tr.bf rfl (by rw [Tr.val_ok, wrap64 (i := ((i + 1 : Nat) : Int) + 1) (by omega) (by omega)]; rfl))))) (by rw [Tr.val_ok, wrap64 (i := ((i + 1 : Nat) : Int) + 1) (by omega) (by omega)]; rfl)))
  · show (qh_4_step s ((s.length - 1 + 1 : Nat) : Int)).val = _
    refine Tr.n (by first | (simp; done) | (simp; omega) | omega) ?_
    rfl
theorem qh_is4 : LoopIs tab FT D9 live 40 qh_lo 0 4 := by
  refine loop_told (sl := qh_4_sl) (step := qh_4_st) (out := qh_4_out) (lor := qh_lo4) (fin := fun x => (qh_4_fin (x.1) (x.2))) (fun _ => rfl) ?_ (fun x n => qh_4_r x.1 x.2 n) (fun x ow => qh_4_h x.1 x.2 ow)
  intro s t h
  unfold qh_lo4 at h
  split at h
  · cases h; exact ⟨(_, _), rfl, rfl⟩
  · cases h
def qh_t (s : BS) : Tr (Bool) := (.ite (((s.length : Int) == (0 : Int)) = true) (.ok false)
  (.ite ((decide ((s.length : Int) > (12 : Int))) = true) (.ok false)
   (.ite ((0 : Int) ≤ (0 : Int) ∧ (0 : Int) < (s.length : Int)) (.ite ((!(qbp_v ((s.getD ((0 : Int)).toNat 0).toNat : Int))) = true) (.ok false)
     (.ite ((qh_k4_1 s (1 : Int)) = true) (.ite ((qh_o4_2 s (1 : Int)) = true) (.ok false)
       .no)
      (.ite ((qh_o4_3 s (1 : Int)) = true) (.ok true)
       .no)))
    .no)))
def qh_mk (p : Bool) : Res := [(false, [⟨.bool, .sh, TC.b p⟩])]
def qh_c (s : BS) : Bool := (bif ((s.length : Int) == (0 : Int)) then true else (bif (decide ((s.length : Int) > (12 : Int))) then true else (is ((0 : Int) ≤ (0 : Int) ∧ (0 : Int) < (s.length : Int)) && (bif (!(qbp_v ((s.getD ((0 : Int)).toNat 0).toNat : Int))) then true else (bif (qh_k4_1 s (1 : Int)) then ((qh_o4_2 s (1 : Int)) && true) else ((qh_o4_3 s (1 : Int)) && true))))))
def qh_v (s : BS) : Bool := (bif ((s.length : Int) == (0 : Int)) then false else (bif (decide ((s.length : Int) > (12 : Int))) then false else (bif (!(qbp_v ((s.getD ((0 : Int)).toNat 0).toNat : Int))) then false else (bif (qh_k4_1 s (1 : Int)) then false else true))))
theorem qh_l (s : BS) : (qh_c s) = true → (qh_t s).val = some (qh_v s) := by
  unfold qh_t qh_v qh_c
  exact fun h => (Tr.ss h (fun h => rfl) (fun h => (Tr.ss h (fun h => rfl) (fun h => (Tr.gs h fun h => (Tr.ss h (fun h => rfl) (fun h => (Tr.ss h (fun h => (Tr.gb h fun h => rfl)) (fun h => (Tr.gb h fun h => rfl))))))))))
def qh_S : List Arg → Option (Bool × Res) := fun xs => match xs with
  | [(false, [(.str, TC.s s)])] => some ((qh_c s), qh_mk (qh_v s))
  | _ => .none
theorem qh_e (s : BS) : runF tab FT D9 live 40 qh_lo [(false, [(.str, TC.s s)])] = (qh_t s).run fun p => some (qh_mk p) := by kernel_rfl
theorem qh_s : ∀ xs r, qh_S xs = some (true, r) → runF tab FT D9 live 40 qh_lo xs = some r := by
  intro xs r h
  unfold qh_S at h
  split at h
  · obtain ⟨h1, rfl⟩ := sp h
    exact fun_told (qh_e _) (qh_l _) h1
  · cases h
def D10 : Dt := also D9 40 qh_S
theorem d10 : DOk Go.Proofs.Tryd.prog tab D10 := d9.also mixed_ok tab_ok names_ok (fnLoops_one (by kernel_rfl) qh_is4) qh_s
theorem qh_cc {s : BS} (hs : Typed tab (.str) (.s s)) : (qh_c s) = true := by
  unfold qh_c
  refine bifT (fun b1 => ?_) (fun b1 => ?_)
  · skip
    rfl
  · skip
    refine bifT (fun b2 => ?_) (fun b2 => ?_)
    · skip
      rfl
    · skip
      refine andT (is_true (by exact ⟨by omega, by have h2 := ne_of_beq_false b1; omega⟩)) ?_
      refine bifT (fun b3 => ?_) (fun b3 => ?_)
      · skip
        rfl
      · skip
        refine bifT (fun b4 => ?_) (fun b4 => ?_)
        · skip
          refine andT (by exact is_true ⟨rfl, by have := typed_str_len hs; omega⟩) ?_
          rfl
        · skip
          refine andT (by exact is_true ⟨rfl, by have := typed_str_len hs; omega⟩) ?_
          rfl
theorem qh_vv (s : BS) : qh_v s = nameOk s := by
  unfold qh_v qh_k4_1
  rw [qh_R4_eq]
  have e3 : qbp_v ((s.getD ((0 : Int)).toNat 0).toNat : Int) = nameB ((0 : Nat) : Int) ((s.getD (((0 : Nat) : Int)).toNat 0).toNat : Int) := by
    unfold qbp_v nameB letterB
    generalize ((s.getD ((0 : Int)).toNat 0).toNat : Int) = c
    generalize decide (c ≥ 65) = p1, decide (c ≤ 90) = p2, decide (c ≥ 97) = p3, decide (c ≤ 122) = p4
    cases p1 <;> cases p2 <;> cases p3 <;> cases p4 <;> rfl
  rw [e3]
  cases h0 : s.length with
  | zero =>
    have : s = [] := List.eq_nil_of_length_eq_zero h0
    subst this
    rfl
  | succ n =>
    have e2 : allI (fun i : Nat => nameB ((i + 1 : Nat) : Int) ((s.getD (((i + 1 : Nat) : Int)).toNat 0).toNat : Int)) n = allI (fun i : Nat => (letterB ((s.getD (((i + 1 : Nat) : Int)).toNat 0).toNat : Int) || ((decide (((s.getD (((i + 1 : Nat) : Int)).toNat 0).toNat : Int) ≥ 48) && decide (((s.getD (((i + 1 : Nat) : Int)).toNat 0).toNat : Int) ≤ 57)) || ((s.getD (((i + 1 : Nat) : Int)).toNat 0).toNat : Int) == 95))) n := allI_congr fun i _ => by
      unfold nameB
      rw [show (((i + 1 : Nat) : Int) == 0) = false from by simp; omega]
      rfl
    unfold nameOk
    rw [h0, allI_head, e2, Nat.add_sub_cancel]
    rw [show (((n + 1 : Nat) : Int) == 0) = false from by simp; omega, show decide (((n + 1 : Nat) : Int) ≥ 1) = true from by simp; omega, dgt]
    generalize nameB ((0 : Nat) : Int) ((s.getD (((0 : Nat) : Int)).toNat 0).toNat : Int) = q1
    generalize allI (fun i : Nat => (letterB ((s.getD (((i + 1 : Nat) : Int)).toNat 0).toNat : Int) || ((decide (((s.getD (((i + 1 : Nat) : Int)).toNat 0).toNat : Int) ≥ 48) && decide (((s.getD (((i + 1 : Nat) : Int)).toNat 0).toNat : Int) ≤ 57)) || ((s.getD (((i + 1 : Nat) : Int)).toNat 0).toNat : Int) == 95))) n = q2
    generalize decide (((n + 1 : Nat) : Int) ≤ 12) = q3
    cases q1 <;> cases q2 <;> cases q3 <;> rfl
def qbx_t (a0 a1 a2 : Int) : Tr (Bool) := (.ite ((decide (a0 ≥ a1)) = true) (.ok (decide (a0 ≤ a2)))
  (.ok false))
def qbx_mk (p : Bool) : Res := [(false, [⟨.bool, .sh, TC.b p⟩])]
def qbx_c (a0 a1 a2 : Int) : Bool := true
def qbx_v (a0 a1 a2 : Int) : Bool := (bif (decide (a0 ≥ a1)) then (decide (a0 ≤ a2)) else false)
theorem qbx_l (a0 a1 a2 : Int) : (qbx_c a0 a1 a2) = true → (qbx_t a0 a1 a2).val = some (qbx_v a0 a1 a2) := by
  intro h
  skip
  unfold qbx_t qbx_v
  exact (Tr.s rfl rfl)
def qbx_S : List Arg → Option (Bool × Res) := fun xs => match xs with
  | [(false, [(.int .i64, TC.i a0)]), (false, [(.int .i64, TC.i a1)]), (false, [(.int .i64, TC.i a2)])] => some (true, qbx_mk (qbx_v a0 a1 a2))
  | _ => .none
theorem qbx_e (a0 a1 a2 : Int) : runF tab FT D10 live 46 noLoops [(false, [(.int .i64, TC.i a0)]), (false, [(.int .i64, TC.i a1)]), (false, [(.int .i64, TC.i a2)])] = (qbx_t a0 a1 a2).run fun p => some (qbx_mk p) := by kernel_rfl
theorem qbx_s : ∀ xs r, qbx_S xs = some (true, r) → runF tab FT D10 live 46 noLoops xs = some r := by
  intro xs r h
  unfold qbx_S at h
  split at h
  · obtain ⟨h1, rfl⟩ := sp h
    exact fun_told (qbx_e ..) (qbx_l _ _ _) rfl
  · cases h
def D11 : Dt := also D10 46 qbx_S
theorem d11 : DOk Go.Proofs.Tryd.prog tab D11 := d10.also mixed_ok tab_ok names_ok noLoops_ok qbx_s
abbrev qc_8_σ := BS × LL × Int × Int
abbrev qc_8_ω := (LL × LL) ⊕ (LL)
def qc_8_step (s : BS) (o : LL) (f i : Int) : Tr (qc_8_σ ⊕ qc_8_ω) := (.ite ((decide (i ≤ (s.length : Int))) = true) (.ite ((decide (i < (s.length : Int))) = true) (.ite ((0 : Int) ≤ i ∧ i < (s.length : Int)) (.ite ((!(((s.getD (i).toNat 0).toNat : Int) == (47 : Int))) = true) (.ok (.inl (s, o, f, (IntKind.wrap .i64 (i + (1 : Int))))))
     (.ite ((0 : Int) ≤ f ∧ f ≤ i ∧ i ≤ (s.length : Int)) (.ite ((qh_c ((s.take (i).toNat).drop (f).toNat)) = true) (.ite ((!(qh_v ((s.take (i).toNat).drop (f).toNat))) = true) (.ok (.inr (.inl ([], o))))
        (.ite ((0 : Int) ≤ f ∧ f ≤ i ∧ i ≤ (s.length : Int)) (.ite (roomFor (tab 9) (o ++ [[TC.s ((s.take (i).toNat).drop (f).toNat)]]).length) (.ok (.inl (s, (o ++ [[TC.s ((s.take (i).toNat).drop (f).toNat)]]), (IntKind.wrap .i64 (i + (1 : Int))), (IntKind.wrap .i64 (i + (1 : Int))))))
          .no)
         .no))
       .no)
      .no))
    .no)
   (.ite ((0 : Int) ≤ f ∧ f ≤ i ∧ i ≤ (s.length : Int)) (.ite ((qh_c ((s.take (i).toNat).drop (f).toNat)) = true) (.ite ((!(qh_v ((s.take (i).toNat).drop (f).toNat))) = true) (.ok (.inr (.inl ([], o))))
      (.ite ((0 : Int) ≤ f ∧ f ≤ i ∧ i ≤ (s.length : Int)) (.ite (roomFor (tab 9) (o ++ [[TC.s ((s.take (i).toNat).drop (f).toNat)]]).length) (.ok (.inl (s, (o ++ [[TC.s ((s.take (i).toNat).drop (f).toNat)]]), (IntKind.wrap .i64 (i + (1 : Int))), (IntKind.wrap .i64 (i + (1 : Int))))))
        .no)
       .no))
     .no)
    .no))
  (.ok (.inr (.inr o))))
def qc_8_st : qc_8_σ → Tr (qc_8_σ ⊕ qc_8_ω) := fun x => (qc_8_step (x.1) (x.2.1) (x.2.2.1) (x.2.2.2))
def qc_k8_1 (s : BS) (o : LL) (f i : Int) : Bool := (pcs (s.drop 1)).all nameOk
def qc_o8_2 (s : BS) (o : LL) (f i : Int) : Bool := is (o = [] ∧ f = 1 ∧ i = 1 ∧ 1 ≤ s.length ∧ s.length ≤ 1048576)
def qc_u8_2 (s : BS) (o : LL) (f i : Int) : LL := rowsS (pcs (s.drop 1))
def qc_o8_3 (s : BS) (o : LL) (f i : Int) : Bool := is (o = [] ∧ f = 1 ∧ i = 1 ∧ 1 ≤ s.length ∧ s.length ≤ 1048576)
def qc_u8_3_0 (s : BS) (o : LL) (f i : Int) : LL := []
def qc_u8_3_1 (s : BS) (o : LL) (f i : Int) : LL := rowsS ((pcs (s.drop 1)).takeWhile nameOk)
def qc_8_fin (s : BS) (o : LL) (f i : Int) : Told qc_8_ω := (.br (qc_k8_1 s o f i) (.leaf (qc_o8_2 s o f i) (.inr (qc_u8_2 s o f i))) (.leaf (qc_o8_3 s o f i) (.inl ((qc_u8_3_0 s o f i), (qc_u8_3_1 s o f i)))))
def qc_8_sl (x : qc_8_σ) : List Slot := [⟨.val false [⟨.str, .sh, TC.s (x.1)⟩], ⟨0, 0⟩⟩, ⟨.val false [⟨.slice 9, .own true, TC.l (x.2.1)⟩], ⟨0, 0⟩⟩, ⟨.val false [⟨.int .i64, .sh, TC.i (x.2.2.1)⟩], ⟨0, 0⟩⟩, ⟨.val false [⟨.int .i64, .sh, TC.i (x.2.2.2)⟩], ⟨0, 0⟩⟩]
def qc_8_out : qc_8_ω → Ex × List Slot := (Sum.elim (fun x => (.ret, [⟨.val false [⟨.slice 9, .own true, TC.l (x.1)⟩], ⟨0, 0⟩⟩, ⟨.val false [⟨.bool, .sh, TC.b false⟩], ⟨0, 0⟩⟩, ⟨.val false [⟨.slice 9, .own true, TC.l (x.2)⟩], ⟨0, 0⟩⟩])) (fun x => (.exit 0, [Slot.none, Slot.none, ⟨.val false [⟨.slice 9, .own true, TC.l x⟩], ⟨0, 0⟩⟩])))
def qc_lo8 : List Slot → Option (Told (Ex × List Slot)) := fun s => match s with
  | [⟨.val false [⟨.str, .sh, TC.s s⟩], ⟨0, 0⟩⟩, ⟨.val false [⟨.slice 9, .own true, TC.l o⟩], ⟨0, 0⟩⟩, ⟨.val false [⟨.int .i64, .sh, TC.i f⟩], ⟨0, 0⟩⟩, ⟨.val false [⟨.int .i64, .sh, TC.i i⟩], ⟨0, 0⟩⟩] => some (((qc_8_fin s o f i)).map qc_8_out)
  | _ => .none
def qc_lo : LoopTeller := fun r s => bif Nat.beq r 8 then qc_lo8 s else .none
theorem qc_8_r (s : BS) (o : LL) (f i : Int) (fuel : Nat) : rounds (rnd tab FT D11 live 24 qc_lo 0 8) leave (fuel + 1) (qc_8_sl (s, o, f, i)) = ((qc_8_step s o f i)).run (goOn (fun s => rounds (rnd tab FT D11 live 24 qc_lo 0 8) leave fuel (qc_8_sl s)) fun w => some (qc_8_out w)) := by kernel_rfl
theorem qc_8_h (s : BS) (o : LL) (f i : Int) (ow : qc_8_ω) : ((qc_8_fin s o f i)).val = some ow → ∃ fuel, loopN qc_8_st fuel (s, o, f, i) = some ow := by
  intro h
  refine auto_br (K := (pcs (s.drop 1)).all nameOk) rfl (fun ho => ?_) h
  have ho := ho.elim id id
  obtain ⟨rfl, rfl, rfl, h0, hs⟩ := is_iff.1 ho
  show ∃ M, loopN qc_8_st M (s, [], 1, 1) = some (bif (pcs (s.drop 1)).all nameOk then .inr (rowsS (pcs (s.drop 1))) else .inl ([], rowsS ((pcs (s.drop 1)).takeWhile nameOk)))
  have hc : ∀ f i, qh_c (piece s f i) = true := fun f i => qh_cc (.str _ (by unfold piece reachBytes; rw [List.length_drop, List.length_take]; omega))
  have key := loopN_pieces (step := qc_8_st) s (fun o => .inr o) (fun o => .inl ([], o)) (fun f i o hi hc7 => ?_) (fun f i o hf hi ho h7 hk => ?_) (fun f i o hf hi h7 hk => ?_) (fun f o => ?_) (s.length - 1) 1 1 [] (Nat.le_refl _) (by omega) (Nat.zero_le _)
  · rw [piece_self, hdl_nil (pcs_ne _), List.nil_append, List.nil_append] at key
    exact key
  · show (qc_8_step s o (f : Int) (i : Int)).val = _
    unfold qc_8_step
    have e7 : (!(((s.getD ((i : Int)).toNat 0).toNat : Int) == (47 : Int))) = true := by
      rw [Int.toNat_natCast, List.getD_eq_getElem?_getD, List.getElem?_eq_getElem hi]
      simp only [Option.getD_some, Bool.not_eq_true', beq_eq_false_iff_ne]
      exact fun e => hc7 (UInt8.toNat_inj.1 (by show s[i].toNat = 47; omega))
    refine Tr.t (by simp; omega) (Tr.t (by simp; omega) (Tr.t (by omega) (Tr.t e7 ?_)))
    rw [Tr.val_ok, wrap64 (i := (i : Int) + 1) (by omega) (by omega)]
    rfl
  · show (qc_8_step s o (f : Int) (i : Int)).val = _
    unfold qc_8_step
    have hv : ¬(!(qh_v (piece s f i))) = true := fun h => nomatch ((show (!(qh_v (piece s f i))) = false from by rw [qh_vv, hk]; rfl).symm.trans h)
    have hr : roomFor (tab 9) (o ++ [[TC.s (piece s f i)]]).length := by
      unfold roomFor
      rw [List.length_append, show (tab 9).bytes = 16 from rfl]
      simp only [List.length_cons, List.length_nil]
      constructor <;> omega
    refine Tr.t (by simp; omega) ?_
    have e7 : i < s.length → ¬(!(((s.getD ((i : Int)).toNat 0).toNat : Int) == (47 : Int))) = true := fun hl => by
      rw [Int.toNat_natCast, List.getD_eq_getElem?_getD, List.getElem?_eq_getElem hl]
      simp only [Option.getD_some, h7 hl]
      decide
    by_cases hl : i < s.length
    · refine Tr.t (by simp; omega) (Tr.t (by omega) (Tr.n (e7 hl) (Tr.t ⟨by omega, by omega, by omega⟩ (Tr.t (hc f i) (Tr.n hv (Tr.t ⟨by omega, by omega, by omega⟩ (Tr.t hr ?_)))))))
      rw [Tr.val_ok, wrap64 (i := (i : Int) + 1) (by omega) (by omega)]
      rfl
    · refine Tr.n (by simp; omega) (Tr.t ⟨by omega, by omega, by omega⟩ (Tr.t (hc f i) (Tr.n hv (Tr.t ⟨by omega, by omega, by omega⟩ (Tr.t hr ?_)))))
      rw [Tr.val_ok, wrap64 (i := (i : Int) + 1) (by omega) (by omega)]
      rfl
  · show (qc_8_step s o (f : Int) (i : Int)).val = _
    unfold qc_8_step
    have hv : (!(qh_v (piece s f i))) = true := by rw [qh_vv, hk]; rfl
    refine Tr.t (by simp; omega) ?_
    have e7 : i < s.length → ¬(!(((s.getD ((i : Int)).toNat 0).toNat : Int) == (47 : Int))) = true := fun hl => by
      rw [Int.toNat_natCast, List.getD_eq_getElem?_getD, List.getElem?_eq_getElem hl]
      simp only [Option.getD_some, h7 hl]
      decide
    by_cases hl : i < s.length
    · exact Tr.t (by simp; omega) (Tr.t (by omega) (Tr.n (e7 hl) (Tr.t ⟨by omega, by omega, by omega⟩ (Tr.t (hc f i) (Tr.t hv rfl)))))
    · exact Tr.n (by simp; omega) (Tr.t ⟨by omega, by omega, by omega⟩ (Tr.t (hc f i) (Tr.t hv rfl)))
  · show (qc_8_step s o (f : Int) ((s.length + 1 : Nat) : Int)).val = _
    unfold qc_8_step
    exact Tr.n (by simp; omega) rfl
theorem qc_is8 : LoopIs tab FT D11 live 24 qc_lo 0 8 := by
  refine loop_told (sl := qc_8_sl) (step := qc_8_st) (out := qc_8_out) (lor := qc_lo8) (fin := fun x => (qc_8_fin (x.1) (x.2.1) (x.2.2.1) (x.2.2.2))) (fun _ => rfl) ?_ (fun x n => qc_8_r x.1 x.2.1 x.2.2.1 x.2.2.2 n) (fun x ow => qc_8_h x.1 x.2.1 x.2.2.1 x.2.2.2 ow)
  intro s t h
  unfold qc_lo8 at h
  split at h
  · cases h; exact ⟨(_, _, _, _), rfl, rfl⟩
  · cases h
def qc_t (s : BS) : Tr (LL × Bool) := (.ite ((s == [47]) = true) (.ok ([], true))
  (.ite ((s == []) = true) (.ok ([], false))
   (.ite ((0 : Int) ≤ (0 : Int) ∧ (0 : Int) < (s.length : Int)) (.ite ((!(((s.getD ((0 : Int)).toNat 0).toNat : Int) == (47 : Int))) = true) (.ok ([], false))
     (.ite ((qc_k8_1 s [] (1 : Int) (1 : Int)) = true) (.ite ((qc_o8_2 s [] (1 : Int) (1 : Int)) = true) (.ite ((decide (((qc_u8_2 s [] (1 : Int) (1 : Int)).length : Int) > (6 : Int))) = true) (.ok ([], false))
        (.ok ((qc_u8_2 s [] (1 : Int) (1 : Int)), true)))
       .no)
      (.ite ((qc_o8_3 s [] (1 : Int) (1 : Int)) = true) (.ok ((qc_u8_3_0 s [] (1 : Int) (1 : Int)), false))
       .no)))
    .no)))
def qc_mk (p : LL × Bool) : Res := [(false, [⟨.slice 9, .own true, TC.l (p.1)⟩]), (false, [⟨.bool, .sh, TC.b (p.2)⟩])]
def qc_c (s : BS) : Bool := (bif (s == [47]) then true else (bif (s == []) then true else (is ((0 : Int) ≤ (0 : Int) ∧ (0 : Int) < (s.length : Int)) && (bif (!(((s.getD ((0 : Int)).toNat 0).toNat : Int) == (47 : Int))) then true else (bif (qc_k8_1 s [] (1 : Int) (1 : Int)) then ((qc_o8_2 s [] (1 : Int) (1 : Int)) && (bif (decide (((qc_u8_2 s [] (1 : Int) (1 : Int)).length : Int) > (6 : Int))) then true else true)) else ((qc_o8_3 s [] (1 : Int) (1 : Int)) && true))))))
def qc_v (s : BS) : LL × Bool := (bif (s == [47]) then ([], true) else (bif (s == []) then ([], false) else (bif (!(((s.getD ((0 : Int)).toNat 0).toNat : Int) == (47 : Int))) then ([], false) else (bif (qc_k8_1 s [] (1 : Int) (1 : Int)) then (bif (decide (((qc_u8_2 s [] (1 : Int) (1 : Int)).length : Int) > (6 : Int))) then ([], false) else ((qc_u8_2 s [] (1 : Int) (1 : Int)), true)) else ((qc_u8_3_0 s [] (1 : Int) (1 : Int)), false)))))
theorem qc_l (s : BS) : (qc_c s) = true → (qc_t s).val = some (qc_v s) := by
  unfold qc_t qc_v qc_c
  exact fun h => (Tr.ss h (fun h => rfl) (fun h => (Tr.ss h (fun h => rfl) (fun h => (Tr.gs h fun h => (Tr.ss h (fun h => rfl) (fun h => (Tr.ss h (fun h => (Tr.gb h fun h => (Tr.ss h (fun h => rfl) (fun h => rfl)))) (fun h => (Tr.gb h fun h => rfl))))))))))
def qc_S : List Arg → Option (Bool × Res) := fun xs => match xs with
  | [(false, [(.str, TC.s s)])] => some ((qc_c s), qc_mk (qc_v s))
  | _ => .none
theorem qc_e (s : BS) : runF tab FT D11 live 24 qc_lo [(false, [(.str, TC.s s)])] = (qc_t s).run fun p => some (qc_mk p) := by kernel_rfl
theorem qc_s : ∀ xs r, qc_S xs = some (true, r) → runF tab FT D11 live 24 qc_lo xs = some r := by
  intro xs r h
  unfold qc_S at h
  split at h
  · obtain ⟨h1, rfl⟩ := sp h
    exact fun_told (qc_e _) (qc_l _) h1
  · cases h
def D12 : Dt := also D11 24 qc_S
theorem d12 : DOk Go.Proofs.Tryd.prog tab D12 := d11.also mixed_ok tab_ok names_ok (fnLoops_one (by kernel_rfl) qc_is8) qc_s
theorem qc_cc {s : BS} (hs : s.length ≤ 1048576) : (qc_c s) = true := by
  unfold qc_c
  refine bifT (fun b1 => ?_) (fun b1 => ?_)
  · skip
    rfl
  · skip
    refine bifT (fun b2 => ?_) (fun b2 => ?_)
    · skip
      rfl
    · skip
      refine andT (is_true (by cases s with | nil => cases b2 | cons => first | (simp; done) | (simp; omega))) ?_
      refine bifT (fun b3 => ?_) (fun b3 => ?_)
      · skip
        rfl
      · skip
        refine bifT (fun b4 => ?_) (fun b4 => ?_)
        · skip
          refine andT (by exact is_true ⟨rfl, rfl, rfl, by cases s with | nil => cases b2 | cons => simp, hs⟩) ?_
          refine bifT (fun b5 => ?_) (fun b5 => ?_)
          · skip
            rfl
          · skip
            rfl
        · skip
          refine andT (by exact is_true ⟨rfl, rfl, rfl, by cases s with | nil => cases b2 | cons => simp, hs⟩) ?_
          rfl
theorem pathE_ (s : BS) : (((s.getD ((0 : Int)).toNat 0).toNat : Int) == (47 : Int)) = (s.getD 0 0 == 47) := by
  rw [show ((0 : Int)).toNat = 0 from rfl, Bool.eq_iff_iff]
  simp only [beq_iff_eq]
  constructor
  · intro h; exact UInt8.toNat_inj.1 (by show (s.getD 0 0).toNat = 47; omega)
  · intro h; rw [h]; rfl
theorem qc_vv (s : BS) : qc_v s = (pathV s, pathB s) := by
  unfold qc_v
  rw [show qc_k8_1 s [] (1 : Int) (1 : Int) = (pcs (s.drop 1)).all nameOk from rfl, show qc_u8_2 s [] (1 : Int) (1 : Int) = rowsS (pcs (s.drop 1)) from rfl, show qc_u8_3_0 s [] (1 : Int) (1 : Int) = [] from rfl, pathE_]
  unfold pathV pathB
  cases h : s == [47] with
  | true =>
    have := eq_of_beq h
    subst this
    rfl
  | false =>
    have e2 : decide (((rowsS (pcs (s.drop 1))).length : Int) > 6) = !decide ((pcs (s.drop 1)).length ≤ 6) := by
      rw [← decide_not]; exact decide_eq_decide.2 (by unfold rowsS; rw [List.length_map]; omega)
    rw [e2]
    generalize (s == []) = p1, (s.getD 0 0 == 47) = p2, (pcs (s.drop 1)).all nameOk = p3, decide ((pcs (s.drop 1)).length ≤ 6) = p4
    cases p1 <;> cases p2 <;> cases p3 <;> cases p4 <;> rfl
def qbo_t (a0 : BS) : Tr (Bool) := (.ite ((qc_c a0) = true) (.ok ((qc_v a0).2))
  .no)
def qbo_mk (p : Bool) : Res := [(false, [⟨.bool, .sh, TC.b p⟩])]
def qbo_c (a0 : BS) : Bool := (qc_c a0)
def qbo_v (a0 : BS) : Bool := (qc_v a0).2
theorem qbo_l (a0 : BS) : (qbo_c a0) = true → (qbo_t a0).val = some (qbo_v a0) := by
  intro h
  have hc0 : (qc_c a0) = true := h
  unfold qbo_t
  exact (Tr.t hc0 rfl)
def qbo_S : List Arg → Option (Bool × Res) := fun xs => match xs with
  | [(false, [(.str, TC.s a0)])] => some ((qbo_c a0), qbo_mk (qbo_v a0))
  | _ => .none
theorem qbo_e (a0 : BS) : runF tab FT D12 live 7 noLoops [(false, [(.str, TC.s a0)])] = (qbo_t a0).run fun p => some (qbo_mk p) := by kernel_rfl
theorem qbo_s : ∀ xs r, qbo_S xs = some (true, r) → runF tab FT D12 live 7 noLoops xs = some r := by
  intro xs r h
  unfold qbo_S at h
  split at h
  · obtain ⟨h1, rfl⟩ := sp h
    exact fun_told (qbo_e _) (qbo_l _) h1
  · cases h
def D13 : Dt := also D12 7 qbo_S
theorem d13 : DOk Go.Proofs.Tryd.prog tab D13 := d12.also mixed_ok tab_ok names_ok noLoops_ok qbo_s
theorem lnIn_s {a : Int} : qbx_v a 1 255 = lnIn a := rfl
def ql_f2 (A : LL) (i : Int) : (Unit) ⊕ ((LL) ⊕ (LL)) := (bif (!(qh_v ((nth (row A i) 0).str))) then (.inr (.inl A)) else (bif (decide (i > (0 : Int))) then (bif (!(bytesLess ((nth (row A (IntKind.wrap .i64 (i - (1 : Int)))) 0).str) ((nth (row A i) 0).str))) then (.inr (.inl A)) else (bif ((nth (row A i) 2).str == []) then (bif (!(qbx_v ((nth (row A i) 1).int) (1 : Int) (255 : Int))) then (.inr (.inl A)) else (bif (!((nth (row A i) 2).str == [])) then (bif (!((nth (row A i) 1).int == (0 : Int))) then (.inr (.inl A)) else (bif (!(qbo_v ((nth (row A i) 2).str))) then (.inr (.inl A)) else (.inl ()))) else (.inl ()))) else (bif (!((nth (row A i) 2).str == [])) then (bif (!((nth (row A i) 1).int == (0 : Int))) then (.inr (.inl A)) else (bif (!(qbo_v ((nth (row A i) 2).str))) then (.inr (.inl A)) else (.inl ()))) else (.inl ())))) else (bif ((nth (row A i) 2).str == []) then (bif (!(qbx_v ((nth (row A i) 1).int) (1 : Int) (255 : Int))) then (.inr (.inl A)) else (bif (!((nth (row A i) 2).str == [])) then (bif (!((nth (row A i) 1).int == (0 : Int))) then (.inr (.inl A)) else (bif (!(qbo_v ((nth (row A i) 2).str))) then (.inr (.inl A)) else (.inl ()))) else (.inl ()))) else (bif (!((nth (row A i) 2).str == [])) then (bif (!((nth (row A i) 1).int == (0 : Int))) then (.inr (.inl A)) else (bif (!(qbo_v ((nth (row A i) 2).str))) then (.inr (.inl A)) else (.inl ()))) else (.inl ())))))
def ql_e2 (A : LL) : (LL) ⊕ (LL) := .inr A
def ql_R2 (A : LL) (i : Int) : (LL) ⊕ (LL) := iter (fun i a => (ql_f2 A (i : Int))) (fun a => (ql_e2 A)) (A.length) 0 ()
abbrev ql_2_σ := LL × Int
abbrev ql_2_ω := (LL) ⊕ (LL)
def ql_2_step (A : LL) (i : Int) : Tr (ql_2_σ ⊕ ql_2_ω) := (.ite ((decide (i < (A.length : Int))) = true) (.ite ((0 : Int) ≤ i ∧ i < (A.length : Int)) (.ite ((qh_c ((nth (row A i) 0).str)) = true) (.ite ((!(qh_v ((nth (row A i) 0).str))) = true) (.ok (.inr (.inl A)))
     (.ite ((decide (i > (0 : Int))) = true) (.ite ((0 : Int) ≤ (IntKind.wrap .i64 (i - (1 : Int))) ∧ (IntKind.wrap .i64 (i - (1 : Int))) < (A.length : Int)) (.ite ((!(bytesLess ((nth (row A (IntKind.wrap .i64 (i - (1 : Int)))) 0).str) ((nth (row A i) 0).str))) = true) (.ok (.inr (.inl A)))
        (.ite (((nth (row A i) 2).str == []) = true) (.ite ((!(qbx_v ((nth (row A i) 1).int) (1 : Int) (255 : Int))) = true) (.ok (.inr (.inl A)))
          (.ite ((!((nth (row A i) 2).str == [])) = true) (.ite ((!((nth (row A i) 1).int == (0 : Int))) = true) (.ok (.inr (.inl A)))
            (.ite ((qbo_c ((nth (row A i) 2).str)) = true) (.ite ((!(qbo_v ((nth (row A i) 2).str))) = true) (.ok (.inr (.inl A)))
              (.ok (.inl (A, (IntKind.wrap .i64 (i + (1 : Int)))))))
             .no))
           (.ok (.inl (A, (IntKind.wrap .i64 (i + (1 : Int))))))))
         (.ite ((!((nth (row A i) 2).str == [])) = true) (.ite ((!((nth (row A i) 1).int == (0 : Int))) = true) (.ok (.inr (.inl A)))
           (.ite ((qbo_c ((nth (row A i) 2).str)) = true) (.ite ((!(qbo_v ((nth (row A i) 2).str))) = true) (.ok (.inr (.inl A)))
             (.ok (.inl (A, (IntKind.wrap .i64 (i + (1 : Int)))))))
            .no))
          (.ok (.inl (A, (IntKind.wrap .i64 (i + (1 : Int)))))))))
       .no)
      (.ite (((nth (row A i) 2).str == []) = true) (.ite ((!(qbx_v ((nth (row A i) 1).int) (1 : Int) (255 : Int))) = true) (.ok (.inr (.inl A)))
        (.ite ((!((nth (row A i) 2).str == [])) = true) (.ite ((!((nth (row A i) 1).int == (0 : Int))) = true) (.ok (.inr (.inl A)))
          (.ite ((qbo_c ((nth (row A i) 2).str)) = true) (.ite ((!(qbo_v ((nth (row A i) 2).str))) = true) (.ok (.inr (.inl A)))
            (.ok (.inl (A, (IntKind.wrap .i64 (i + (1 : Int)))))))
           .no))
         (.ok (.inl (A, (IntKind.wrap .i64 (i + (1 : Int))))))))
       (.ite ((!((nth (row A i) 2).str == [])) = true) (.ite ((!((nth (row A i) 1).int == (0 : Int))) = true) (.ok (.inr (.inl A)))
         (.ite ((qbo_c ((nth (row A i) 2).str)) = true) (.ite ((!(qbo_v ((nth (row A i) 2).str))) = true) (.ok (.inr (.inl A)))
           (.ok (.inl (A, (IntKind.wrap .i64 (i + (1 : Int)))))))
          .no))
        (.ok (.inl (A, (IntKind.wrap .i64 (i + (1 : Int))))))))))
    .no)
   .no)
  (.ok (.inr (.inr A))))
def ql_2_st : ql_2_σ → Tr (ql_2_σ ⊕ ql_2_ω) := fun x => (ql_2_step (x.1) (x.2))
def ql_k2_1 (A : LL) (i : Int) : Bool := sumIs (ql_R2 A i)
def ql_o2_2 (A : LL) (i : Int) : Bool := is (i = 0 ∧ Typed tab (.slice 48) (.l A) ∧ PathsOk A)
def ql_o2_3 (A : LL) (i : Int) : Bool := is (i = 0 ∧ Typed tab (.slice 48) (.l A) ∧ PathsOk A)
def ql_2_fin (A : LL) (i : Int) : Told ql_2_ω := (.br (ql_k2_1 A i) (.leaf (ql_o2_2 A i) (.inl A)) (.leaf (ql_o2_3 A i) (.inr A)))
def ql_2_sl (x : ql_2_σ) : List Slot := [⟨.val false [⟨.slice 48, .sh, TC.l (x.1)⟩], ⟨0, 0⟩⟩, ⟨.val false [⟨.int .i64, .sh, TC.i (x.2)⟩], ⟨0, 0⟩⟩]
def ql_2_out : ql_2_ω → Ex × List Slot := (Sum.elim (fun x => (.ret, [⟨.val false [⟨.slice 48, .sh, TC.l x⟩], ⟨0, 0⟩⟩, ⟨.val false [⟨.bool, .sh, TC.b false⟩], ⟨0, 0⟩⟩])) (fun x => (.exit 0, [⟨.val false [⟨.slice 48, .sh, TC.l x⟩], ⟨0, 0⟩⟩, Slot.none])))
def ql_lo2 : List Slot → Option (Told (Ex × List Slot)) := fun s => match s with
  | [⟨.val false [⟨.slice 48, .sh, TC.l A⟩], ⟨0, 0⟩⟩, ⟨.val false [⟨.int .i64, .sh, TC.i i⟩], ⟨0, 0⟩⟩] => some (((ql_2_fin A i)).map ql_2_out)
  | _ => .none
def ql_lo : LoopTeller := fun r s => bif Nat.beq r 2 then ql_lo2 s else .none
theorem ql_2_r (A : LL) (i : Int) (fuel : Nat) : rounds (rnd tab FT D13 live 28 ql_lo 0 2) leave (fuel + 1) (ql_2_sl (A, i)) = ((ql_2_step A i)).run (goOn (fun s => rounds (rnd tab FT D13 live 28 ql_lo 0 2) leave fuel (ql_2_sl s)) fun w => some (ql_2_out w)) := by kernel_rfl
theorem ql_f2_eq (A : LL) (i : Int) : ql_f2 A i = bif linkP A i then Sum.inl () else Sum.inr (Sum.inl A) := by
  unfold ql_f2 linkP linkB qbo_v
  simp only [qh_vv, qc_vv, lnIn_s]
  generalize nameOk (nth (row A i) 0).str = p0, decide (i > (0 : Int)) = p1, bytesLess (nth (row A (IntKind.wrap .i64 (i - (1 : Int)))) 0).str (nth (row A i) 0).str = p2, ((nth (row A i) 2).str == []) = p3, ((nth (row A i) 1).int == 0) = p4, pathB (nth (row A i) 2).str = p5, lnIn (nth (row A i) 1).int = p6
  cases p0 <;> cases p1 <;> cases p2 <;> cases p3 <;> cases p4 <;> cases p5 <;> cases p6 <;> rfl
theorem ql_R2_eq (A : LL)  : ql_R2 A 0 = bif allI (fun i : Nat => linkP A (i : Int)) (A.length) then Sum.inr A else (Sum.inl A) := by
  unfold ql_R2
  exact (iter_all (P := (fun i : Nat => linkP A (i : Int))) (g := fun _ a => a) (w := Sum.inl A) fun j a _ => ql_f2_eq A _)
theorem ql_2_h (A : LL) (i : Int) (ow : ql_2_ω) : ((ql_2_fin A i)).val = some ow → ∃ fuel, loopN ql_2_st fuel (A, i) = some ow := by
  refine auto_const (R := (ql_R2 A i)) rfl (iter_onR (f := (fun i a => (ql_f2 A (i : Int)))) (fin := (fun a => (ql_e2 A))) (Q := endsAs A A) (fun i a => by unfold ql_f2; exact (onR_bif rfl (onR_bif (onR_bif rfl (onR_bif (onR_bif rfl (onR_bif (onR_bif rfl (onR_bif rfl trivial)) trivial)) (onR_bif (onR_bif rfl (onR_bif rfl trivial)) trivial))) (onR_bif (onR_bif rfl (onR_bif (onR_bif rfl (onR_bif rfl trivial)) trivial)) (onR_bif (onR_bif rfl (onR_bif rfl trivial)) trivial))))) (fun _ => rfl) _ _ _) ?_
  intro ho
  have ho : is (i = 0 ∧ Typed tab (.slice 48) (.l A) ∧ PathsOk A) = true := ho.elim id id
  obtain ⟨rfl, ht, hP⟩ := is_iff.1 ho
  have hlen : A.length ≤ 140737488351232 := by have := typed_room ht; simp only [show (tab 48).bytes = 40 from rfl] at this; omega
  refine ⟨(A.length) + 1, ?_⟩
  refine iter_loop (step := ql_2_st) (A.length) (fun i a => (ql_f2 A (i : Int))) (fun a => (ql_e2 A)) (fun i a => (A, (i : Int))) (fun _ _ => True) trivial (fun i a hi hI => ⟨?_, fun _ _ => trivial⟩) (fun a hI => ?_)
  · show (ql_2_step A (i : Int)).val = _
    unfold ql_2_step ql_f2
    have c0 : Typed tab (.str) (.s (nth (A.getD i []) 0).str) := typed_s (typed_cell ht (A.getD i []) (mem_getD hi) 0 (by decide))
    have c2 : Typed tab (.str) (.s (nth (A.getD i []) 2).str) := typed_s (typed_cell ht (A.getD i []) (mem_getD hi) 2 (by decide))
    refine Tr.t (by simp; omega) ?_
    exact (Tr.t (by first | omega | (constructor <;> omega) | (simp only [decide_eq_true_eq] at *; rw [wrap64 (by omega) (by omega)]; constructor <;> omega) | (exact qc_cc (hP _ (mem_getD (by omega))))) (Tr.t (by first | (simp only [decide_eq_true_eq] at *; rw [wrap64 (by omega) (by omega)]; constructor <;> omega) | (exact qc_cc (hP _ (mem_getD (by omega)))) | (first | (apply qh_cc <;> assumption) | (first | (apply is_true; and_intros <;> (first | rfl | assumption | (apply qh_cc <;> assumption) | (apply qc_cc <;> assumption) | (first | (apply is_true; and_intros <;> (first | rfl | assumption | (apply qh_cc <;> assumption) | (apply qc_cc <;> assumption))) | (apply qh_cc <;> assumption) | (apply qc_cc <;> assumption)))) | (apply qh_cc <;> assumption) | (apply qc_cc <;> assumption)))) (Tr.bh (fun _ => rfl) (fun _ => (Tr.bh (fun _ => (Tr.t (by first | omega | (constructor <;> omega) | (simp only [decide_eq_true_eq] at *; rw [wrap64 (by omega) (by omega)]; constructor <;> omega) | (exact qc_cc (hP _ (mem_getD (by omega))))) (Tr.bh (fun _ => rfl) (fun _ => (Tr.bh (fun _ => (Tr.bh (fun _ => rfl) (fun _ => (Tr.bh (fun _ => (Tr.bh (fun _ => rfl) (fun _ => (Tr.t (by first | (simp only [decide_eq_true_eq] at *; rw [wrap64 (by omega) (by omega)]; constructor <;> omega) | (exact qc_cc (hP _ (mem_getD (by omega)))) | (first | (apply is_true; and_intros <;> (first | rfl | assumption | (apply qh_cc <;> assumption) | (apply qc_cc <;> assumption) | (first | (apply is_true; and_intros <;> (first | rfl | assumption | (apply qh_cc <;> assumption) | (apply qc_cc <;> assumption) | (first | (apply is_true; and_intros <;> (first | rfl | assumption | (apply qh_cc <;> assumption) | (apply qc_cc <;> assumption))) | (apply qh_cc <;> assumption) | (apply qc_cc <;> assumption)))) | (apply qh_cc <;> assumption) | (apply qc_cc <;> assumption)))) | (apply qh_cc <;> assumption) | (apply qc_cc <;> assumption))) (Tr.bh (fun _ => rfl) (fun _ => (by rw [Tr.val_ok, wrap64 (i := (i : Int) + 1) (by omega) (by omega)]; rfl))))))) (fun _ => (by rw [Tr.val_ok, wrap64 (i := (i : Int) + 1) (by omega) (by omega)]; rfl)))))) (fun _ => (Tr.bh (fun _ => (Tr.bh (fun _ => rfl) (fun _ => (Tr.t (by first | (simp only [decide_eq_true_eq] at *; rw [wrap64 (by omega) (by omega)]; constructor <;> omega) | (exact qc_cc (hP _ (mem_getD (by omega)))) | (first | (apply is_true; and_intros <;> (first | rfl | assumption | (apply qh_cc <;> assumption) | (apply qc_cc <;> assumption) | (first | (apply is_true; and_intros <;> (first | rfl | assumption | (apply qh_cc <;> assumption) | (apply qc_cc <;> assumption) | (first | (apply is_true; and_intros <;> (first | rfl | assumption | (apply qh_cc <;> assumption) | (apply qc_cc <;> assumption))) | (apply qh_cc <;> assumption) | (apply qc_cc <;> assumption)))) | (apply qh_cc <;> assumption) | (apply qc_cc <;> assumption)))) | (apply qh_cc <;> assumption) | (apply qc_cc <;> assumption))) (Tr.bh (fun _ => rfl) (fun _ => (by rw [Tr.val_ok, wrap64 (i := (i : Int) + 1) (by omega) (by omega)]; rfl))))))) (fun _ => (by rw [Tr.val_ok, wrap64 (i := (i : Int) + 1) (by omega) (by omega)]; rfl))))))))) (fun _ => (Tr.bh (fun _ => (Tr.bh (fun _ => rfl) (fun _ => (Tr.bh (fun _ => (Tr.bh (fun _ => rfl) (fun _ => (Tr.t (by first | (simp only [decide_eq_true_eq] at *; rw [wrap64 (by omega) (by omega)]; constructor <;> omega) | (exact qc_cc (hP _ (mem_getD (by omega)))) | (first | (apply is_true; and_intros <;> (first | rfl | assumption | (apply qh_cc <;> assumption) | (apply qc_cc <;> assumption) | (first | (apply is_true; and_intros <;> (first | rfl | assumption | (apply qh_cc <;> assumption) | (apply qc_cc <;> assumption) | (first | (apply is_true; and_intros <;> (first | rfl | assumption | (apply qh_cc <;> assumption) | (apply qc_cc <;> assumption))) | (apply qh_cc <;> assumption) | (apply qc_cc <;> assumption)))) | (apply qh_cc <;> assumption) | (apply qc_cc <;> assumption)))) | (apply qh_cc <;> assumption) | (apply qc_cc <;> assumption))) (Tr.bh (fun _ => rfl) (fun _ => (by rw [Tr.val_ok, wrap64 (i := (i : Int) + 1) (by omega) (by omega)]; rfl))))))) (fun _ => (by rw [Tr.val_ok, wrap64 (i := (i : Int) + 1) (by omega) (by omega)]; rfl)))))) (fun _ => (Tr.bh (fun _ => (Tr.bh (fun _ => rfl) (fun _ => (Tr.t (by first | (simp only [decide_eq_true_eq] at *; rw [wrap64 (by omega) (by omega)]; constructor <;> omega) | (exact qc_cc (hP _ (mem_getD (by omega)))) | (first | (apply is_true; and_intros <;> (first | rfl | assumption | (apply qh_cc <;> assumption) | (apply qc_cc <;> assumption) | (first | (apply is_true; and_intros <;> (first | rfl | assumption | (apply qh_cc <;> assumption) | (apply qc_cc <;> assumption) | (first | (apply is_true; and_intros <;> (first | rfl | assumption | (apply qh_cc <;> assumption) | (apply qc_cc <;> assumption))) | (apply qh_cc <;> assumption) | (apply qc_cc <;> assumption)))) | (apply qh_cc <;> assumption) | (apply qc_cc <;> assumption)))) | (apply qh_cc <;> assumption) | (apply qc_cc <;> assumption))) (Tr.bh (fun _ => rfl) (fun _ => (by rw [Tr.val_ok, wrap64 (i := (i : Int) + 1) (by omega) (by omega)]; rfl))))))) (fun _ => (by rw [Tr.val_ok, wrap64 (i := (i : Int) + 1) (by omega) (by omega)]; rfl)))))))))))
  · show (ql_2_step A (A.length : Int)).val = _
    refine Tr.n (by first | (simp; done) | (simp; omega) | omega) ?_
    rfl
theorem ql_is2 : LoopIs tab FT D13 live 28 ql_lo 0 2 := by
  refine loop_told (sl := ql_2_sl) (step := ql_2_st) (out := ql_2_out) (lor := ql_lo2) (fin := fun x => (ql_2_fin (x.1) (x.2))) (fun _ => rfl) ?_ (fun x n => ql_2_r x.1 x.2 n) (fun x ow => ql_2_h x.1 x.2 ow)
  intro s t h
  unfold ql_lo2 at h
  split at h
  · cases h; exact ⟨(_, _), rfl, rfl⟩
  · cases h
def ql_t (A : LL) : Tr (Bool) := (.ite ((ql_k2_1 A (0 : Int)) = true) (.ite ((ql_o2_2 A (0 : Int)) = true) (.ok false)
   .no)
  (.ite ((ql_o2_3 A (0 : Int)) = true) (.ok (decide ((A.length : Int) ≤ (12 : Int))))
   .no))
def ql_mk (p : Bool) : Res := [(false, [⟨.bool, .sh, TC.b p⟩])]
def ql_c (A : LL) : Bool := (bif (ql_k2_1 A (0 : Int)) then ((ql_o2_2 A (0 : Int)) && true) else ((ql_o2_3 A (0 : Int)) && true))
def ql_v (A : LL) : Bool := (bif (ql_k2_1 A (0 : Int)) then false else (decide ((A.length : Int) ≤ (12 : Int))))
theorem ql_l (A : LL) : (ql_c A) = true → (ql_t A).val = some (ql_v A) := by
  unfold ql_t ql_v ql_c
  exact fun h => (Tr.ss h (fun h => (Tr.gb h fun h => rfl)) (fun h => (Tr.gb h fun h => rfl)))
def ql_S : List Arg → Option (Bool × Res) := fun xs => match xs with
  | [(false, [(.slice 48, TC.l A)])] => some ((ql_c A), ql_mk (ql_v A))
  | _ => .none
theorem ql_e (A : LL) : runF tab FT D13 live 28 ql_lo [(false, [(.slice 48, TC.l A)])] = (ql_t A).run fun p => some (ql_mk p) := by kernel_rfl
theorem ql_s : ∀ xs r, ql_S xs = some (true, r) → runF tab FT D13 live 28 ql_lo xs = some r := by
  intro xs r h
  unfold ql_S at h
  split at h
  · obtain ⟨h1, rfl⟩ := sp h
    exact fun_told (ql_e _) (ql_l _) h1
  · cases h
def D14 : Dt := also D13 28 ql_S
theorem d14 : DOk Go.Proofs.Tryd.prog tab D14 := d13.also mixed_ok tab_ok names_ok (fnLoops_one (by kernel_rfl) ql_is2) ql_s
theorem ql_cc {A : LL} (hA : Typed tab (.slice 48) (.l A)) (hP : PathsOk A) : (ql_c A) = true := by
  unfold ql_c
  refine bifT (fun b1 => ?_) (fun b1 => ?_)
  · skip
    refine andT (by exact is_true ⟨rfl, hA, hP⟩) ?_
    rfl
  · skip
    refine andT (by exact is_true ⟨rfl, hA, hP⟩) ?_
    rfl
theorem ql_vv (A : LL) : ql_v A = linksB A := by
  unfold ql_v ql_k2_1
  rw [ql_R2_eq]
  unfold linksB
  rw [show decide ((A.length : Int) ≤ 12) = decide (A.length ≤ 12) from decide_eq_decide.2 (by omega)]
  generalize allI (fun i : Nat => linkP A (i : Int)) A.length = p1, decide (A.length ≤ 12) = p2
  cases p1 <;> cases p2 <;> rfl
def qo_f5 (A : LL) (m i : Int) : (Unit) ⊕ ((Unit) ⊕ (Unit)) := (bif (!((nth (row A i) 0).str == [])) then (bif (!(qh_v ((nth (row A i) 0).str))) then (.inr (.inl ())) else (.inl ())) else (.inl ()))
def qo_e5 (A : LL) (m : Int) : (Unit) ⊕ (Unit) := .inr ()
def qo_R5 (A : LL) (m i : Int) : (Unit) ⊕ (Unit) := iter (fun i a => (qo_f5 A m (i : Int))) (fun a => (qo_e5 A m)) (A.length) 0 ()
abbrev qo_5_σ := LL × Int × Int
abbrev qo_5_ω := (Unit) ⊕ (Unit)
def qo_5_step (A : LL) (m i : Int) : Tr (qo_5_σ ⊕ qo_5_ω) := (.ite ((decide (i < m)) = true) (.ite ((0 : Int) ≤ i ∧ i < (A.length : Int)) (.ite ((!((nth (row A i) 0).str == [])) = true) (.ite ((0 : Int) ≤ i ∧ i < (A.length : Int)) (.ite ((qh_c ((nth (row A i) 0).str)) = true) (.ite ((!(qh_v ((nth (row A i) 0).str))) = true) (.ok (.inr (.inl ())))
       (.ok (.inl (A, m, (IntKind.wrap .i64 (i + (1 : Int)))))))
      .no)
     .no)
    (.ok (.inl (A, m, (IntKind.wrap .i64 (i + (1 : Int)))))))
   .no)
  (.ok (.inr (.inr ()))))
def qo_5_st : qo_5_σ → Tr (qo_5_σ ⊕ qo_5_ω) := fun x => (qo_5_step (x.1) (x.2.1) (x.2.2))
def qo_k5_1 (A : LL) (m i : Int) : Bool := sumIs (qo_R5 A m i)
def qo_o5_2 (A : LL) (m i : Int) : Bool := is (i = 0 ∧ Typed tab (.slice 9) (.l A) ∧ m = (A.length : Int))
def qo_o5_3 (A : LL) (m i : Int) : Bool := is (i = 0 ∧ Typed tab (.slice 9) (.l A) ∧ m = (A.length : Int))
def qo_5_fin (A : LL) (m i : Int) : Told qo_5_ω := (.br (qo_k5_1 A m i) (.leaf (qo_o5_2 A m i) (.inl ())) (.leaf (qo_o5_3 A m i) (.inr ())))
def qo_5_sl (x : qo_5_σ) : List Slot := [⟨.bx 40 [⟨.slice 9, .sh, TC.l (x.1)⟩], ⟨0, 0⟩⟩, ⟨.val false [⟨.int .i64, .sh, TC.i (x.2.1)⟩], ⟨0, 0⟩⟩, ⟨.val false [⟨.int .i64, .sh, TC.i (x.2.2)⟩], ⟨0, 0⟩⟩]
def qo_5_out : qo_5_ω → Ex × List Slot := (Sum.elim (fun x => (.ret, [⟨.val false [⟨.bool, .sh, TC.b false⟩], ⟨0, 0⟩⟩])) (fun x => (.exit 0, [Slot.none])))
def qo_lo5 : List Slot → Option (Told (Ex × List Slot)) := fun s => match s with
  | [⟨.bx 40 [⟨.slice 9, .sh, TC.l A⟩], ⟨0, 0⟩⟩, ⟨.val false [⟨.int .i64, .sh, TC.i m⟩], ⟨0, 0⟩⟩, ⟨.val false [⟨.int .i64, .sh, TC.i i⟩], ⟨0, 0⟩⟩] => some (((qo_5_fin A m i)).map qo_5_out)
  | _ => .none
def qo_lo : LoopTeller := fun r s => bif Nat.beq r 5 then qo_lo5 s else .none
theorem qo_5_r (A : LL) (m i : Int) (fuel : Nat) : rounds (rnd tab FT D14 live 33 qo_lo 0 5) leave (fuel + 1) (qo_5_sl (A, m, i)) = ((qo_5_step A m i)).run (goOn (fun s => rounds (rnd tab FT D14 live 33 qo_lo 0 5) leave fuel (qo_5_sl s)) fun w => some (qo_5_out w)) := by kernel_rfl
theorem qo_f5_eq (A : LL) (m i : Int) : qo_f5 A m i = bif slotNameOk (row A i) then Sum.inl () else Sum.inr (Sum.inl ()) := by
  unfold qo_f5 slotNameOk
  simp only [qh_vv]
  generalize ((nth (row A i) 0).str == []) = p0, nameOk (nth (row A i) 0).str = p1
  cases p0 <;> cases p1 <;> rfl
theorem qo_R5_eq (A : LL) (m : Int)  : qo_R5 A m 0 = bif allI (fun i : Nat => slotNameOk (row A (i : Int))) (A.length) then Sum.inr () else (Sum.inl ()) := by
  unfold qo_R5
  exact (iter_all (P := (fun i : Nat => slotNameOk (row A (i : Int)))) (g := fun _ a => a) (w := Sum.inl ()) fun j a _ => qo_f5_eq A m _)
theorem qo_5_h (A : LL) (m i : Int) (ow : qo_5_ω) : ((qo_5_fin A m i)).val = some ow → ∃ fuel, loopN qo_5_st fuel (A, m, i) = some ow := by
  refine auto_const (R := (qo_R5 A m i)) rfl (iter_onR (f := (fun i a => (qo_f5 A m (i : Int)))) (fin := (fun a => (qo_e5 A m))) (Q := endsAs () ()) (fun i a => by unfold qo_f5; exact (onR_bif (onR_bif rfl trivial) trivial)) (fun _ => rfl) _ _ _) ?_
  intro ho
  have ho : is (i = 0 ∧ Typed tab (.slice 9) (.l A) ∧ m = (A.length : Int)) = true := ho.elim id id
  obtain ⟨rfl, ht, rfl⟩ := is_iff.1 ho
  have hlen : A.length ≤ 140737488351232 := by have := typed_room ht; simp only [show (tab 9).bytes = 16 from rfl] at this; omega
  refine ⟨(A.length) + 1, ?_⟩
  refine iter_loop (step := qo_5_st) (A.length) (fun i a => (qo_f5 A (A.length : Int) (i : Int))) (fun a => (qo_e5 A (A.length : Int))) (fun i a => (A, (A.length : Int), (i : Int))) (fun _ _ => True) trivial (fun i a hi hI => ⟨?_, fun _ _ => trivial⟩) (fun a hI => ?_)
  · show (qo_5_step A (A.length : Int) (i : Int)).val = _
    unfold qo_5_step qo_f5
    have c0 : Typed tab (.str) (.s (nth (A.getD i []) 0).str) := typed_s (typed_cell ht (A.getD i []) (mem_getD hi) 0 (by decide))
    refine Tr.t (by simp; omega) ?_
    exact (Tr.t (by first | omega | (constructor <;> omega)) (Tr.bf (Tr.t (by first | omega | (constructor <;> omega)) (Tr.t (by first | (first | (apply qh_cc <;> assumption) | (first | (apply is_true; and_intros <;> (first | rfl | assumption | (apply qh_cc <;> assumption) | (apply qc_cc <;> assumption) | (apply ql_cc <;> assumption) | (first | (apply is_true; and_intros <;> (first | rfl | assumption | (apply qh_cc <;> assumption) | (apply qc_cc <;> assumption) | (apply ql_cc <;> assumption))) | (apply qh_cc <;> assumption) | (apply qc_cc <;> assumption) | (apply ql_cc <;> assumption)))) | (apply qh_cc <;> assumption) | (apply qc_cc <;> assumption) | (apply ql_cc <;> assumption)))) (Tr.bf rfl (by rw [Tr.val_ok, wrap64 (i := (i : Int) + 1) (by omega) (by omega)]; rfl)))) (by rw [Tr.val_ok, wrap64 (i := (i : Int) + 1) (by omega) (by omega)]; rfl)))
  · show (qo_5_step A (A.length : Int) (A.length : Int)).val = _
    refine Tr.n (by first | (simp; done) | (simp; omega) | omega) ?_
    rfl
theorem qo_is5 : LoopIs tab FT D14 live 33 qo_lo 0 5 := by
  refine loop_told (sl := qo_5_sl) (step := qo_5_st) (out := qo_5_out) (lor := qo_lo5) (fin := fun x => (qo_5_fin (x.1) (x.2.1) (x.2.2))) (fun _ => rfl) ?_ (fun x n => qo_5_r x.1 x.2.1 x.2.2 n) (fun x ow => qo_5_h x.1 x.2.1 x.2.2 ow)
  intro s t h
  unfold qo_lo5 at h
  split at h
  · cases h; exact ⟨(_, _, _), rfl, rfl⟩
  · cases h
def qo_t (A : LL) : Tr (Bool) := (.ite ((decide ((A.length : Int) > (30 : Int))) = true) (.ok false)
  (.ite ((decide ((A.length : Int) > (0 : Int))) = true) (.ite ((0 : Int) ≤ (IntKind.wrap .i64 ((A.length : Int) - (1 : Int))) ∧ (IntKind.wrap .i64 ((A.length : Int) - (1 : Int))) < (A.length : Int)) (.ite (((nth (row A (IntKind.wrap .i64 ((A.length : Int) - (1 : Int)))) 0).str == []) = true) (.ok false)
     (.ite ((qo_k5_1 A (A.length : Int) (0 : Int)) = true) (.ite ((qo_o5_2 A (A.length : Int) (0 : Int)) = true) (.ok false)
       .no)
      (.ite ((qo_o5_3 A (A.length : Int) (0 : Int)) = true) (.ok true)
       .no)))
    .no)
   (.ite ((qo_k5_1 A (A.length : Int) (0 : Int)) = true) (.ite ((qo_o5_2 A (A.length : Int) (0 : Int)) = true) (.ok false)
     .no)
    (.ite ((qo_o5_3 A (A.length : Int) (0 : Int)) = true) (.ok true)
     .no))))
def qo_mk (p : Bool) : Res := [(false, [⟨.bool, .sh, TC.b p⟩])]
def qo_c (A : LL) : Bool := (bif (decide ((A.length : Int) > (30 : Int))) then true else (bif (decide ((A.length : Int) > (0 : Int))) then (is ((0 : Int) ≤ (IntKind.wrap .i64 ((A.length : Int) - (1 : Int))) ∧ (IntKind.wrap .i64 ((A.length : Int) - (1 : Int))) < (A.length : Int)) && (bif ((nth (row A (IntKind.wrap .i64 ((A.length : Int) - (1 : Int)))) 0).str == []) then true else (bif (qo_k5_1 A (A.length : Int) (0 : Int)) then ((qo_o5_2 A (A.length : Int) (0 : Int)) && true) else ((qo_o5_3 A (A.length : Int) (0 : Int)) && true)))) else (bif (qo_k5_1 A (A.length : Int) (0 : Int)) then ((qo_o5_2 A (A.length : Int) (0 : Int)) && true) else ((qo_o5_3 A (A.length : Int) (0 : Int)) && true))))
def qo_v (A : LL) : Bool := (bif (decide ((A.length : Int) > (30 : Int))) then false else (bif (decide ((A.length : Int) > (0 : Int))) then (bif ((nth (row A (IntKind.wrap .i64 ((A.length : Int) - (1 : Int)))) 0).str == []) then false else (bif (qo_k5_1 A (A.length : Int) (0 : Int)) then false else true)) else (bif (qo_k5_1 A (A.length : Int) (0 : Int)) then false else true)))
theorem qo_l (A : LL) : (qo_c A) = true → (qo_t A).val = some (qo_v A) := by
  unfold qo_t qo_v qo_c
  exact fun h => (Tr.ss h (fun h => rfl) (fun h => (Tr.ss h (fun h => (Tr.gs h fun h => (Tr.ss h (fun h => rfl) (fun h => (Tr.ss h (fun h => (Tr.gb h fun h => rfl)) (fun h => (Tr.gb h fun h => rfl))))))) (fun h => (Tr.ss h (fun h => (Tr.gb h fun h => rfl)) (fun h => (Tr.gb h fun h => rfl)))))))
def qo_S : List Arg → Option (Bool × Res) := fun xs => match xs with
  | [(true, [(.slice 9, TC.l A)])] => some ((qo_c A), qo_mk (qo_v A))
  | _ => .none
theorem qo_e (A : LL) : runF tab FT D14 live 33 qo_lo [(true, [(.slice 9, TC.l A)])] = (qo_t A).run fun p => some (qo_mk p) := by kernel_rfl
theorem qo_s : ∀ xs r, qo_S xs = some (true, r) → runF tab FT D14 live 33 qo_lo xs = some r := by
  intro xs r h
  unfold qo_S at h
  split at h
  · obtain ⟨h1, rfl⟩ := sp h
    exact fun_told (qo_e _) (qo_l _) h1
  · cases h
def D15 : Dt := also D14 33 qo_S
theorem d15 : DOk Go.Proofs.Tryd.prog tab D15 := d14.also mixed_ok tab_ok names_ok (fnLoops_one (by kernel_rfl) qo_is5) qo_s
theorem qo_cc {A : LL} (hA : Typed tab (.slice 9) (.l A)) : (qo_c A) = true := by
  unfold qo_c
  refine bifT (fun b1 => ?_) (fun b1 => ?_)
  · skip
    rfl
  · skip
    refine bifT (fun b2 => ?_) (fun b2 => ?_)
    · skip
      refine andT (is_true (by have hl := typed_room hA; simp only [show (tab 9).bytes = 16 from rfl] at hl; have hb := of_decide_eq_true b2; rw [wrap64 (by omega) (by omega)]; constructor <;> omega)) ?_
      refine bifT (fun b3 => ?_) (fun b3 => ?_)
      · skip
        rfl
      · skip
        refine bifT (fun b4 => ?_) (fun b4 => ?_)
        · skip
          refine andT (by first | (apply is_true; and_intros <;> (first | rfl | assumption | (apply qh_cc <;> assumption) | (apply qc_cc <;> assumption) | (apply ql_cc <;> assumption) | (first | (apply is_true; and_intros <;> (first | rfl | assumption | (apply qh_cc <;> assumption) | (apply qc_cc <;> assumption) | (apply ql_cc <;> assumption) | (first | (apply is_true; and_intros <;> (first | rfl | assumption | (apply qh_cc <;> assumption) | (apply qc_cc <;> assumption) | (apply ql_cc <;> assumption) | (first | (apply is_true; and_intros <;> (first | rfl | assumption | (apply qh_cc <;> assumption) | (apply qc_cc <;> assumption) | (apply ql_cc <;> assumption))) | (apply qh_cc <;> assumption) | (apply qc_cc <;> assumption) | (apply ql_cc <;> assumption)))) | (apply qh_cc <;> assumption) | (apply qc_cc <;> assumption) | (apply ql_cc <;> assumption)))) | (apply qh_cc <;> assumption) | (apply qc_cc <;> assumption) | (apply ql_cc <;> assumption)))) | (apply qh_cc <;> assumption) | (apply qc_cc <;> assumption) | (apply ql_cc <;> assumption)) ?_
          rfl
        · skip
          refine andT (by first | (apply is_true; and_intros <;> (first | rfl | assumption | (apply qh_cc <;> assumption) | (apply qc_cc <;> assumption) | (apply ql_cc <;> assumption) | (first | (apply is_true; and_intros <;> (first | rfl | assumption | (apply qh_cc <;> assumption) | (apply qc_cc <;> assumption) | (apply ql_cc <;> assumption) | (first | (apply is_true; and_intros <;> (first | rfl | assumption | (apply qh_cc <;> assumption) | (apply qc_cc <;> assumption) | (apply ql_cc <;> assumption) | (first | (apply is_true; and_intros <;> (first | rfl | assumption | (apply qh_cc <;> assumption) | (apply qc_cc <;> assumption) | (apply ql_cc <;> assumption))) | (apply qh_cc <;> assumption) | (apply qc_cc <;> assumption) | (apply ql_cc <;> assumption)))) | (apply qh_cc <;> assumption) | (apply qc_cc <;> assumption) | (apply ql_cc <;> assumption)))) | (apply qh_cc <;> assumption) | (apply qc_cc <;> assumption) | (apply ql_cc <;> assumption)))) | (apply qh_cc <;> assumption) | (apply qc_cc <;> assumption) | (apply ql_cc <;> assumption)) ?_
          rfl
    · skip
      refine bifT (fun b5 => ?_) (fun b5 => ?_)
      · skip
        refine andT (by first | (apply is_true; and_intros <;> (first | rfl | assumption | (apply qh_cc <;> assumption) | (apply qc_cc <;> assumption) | (apply ql_cc <;> assumption) | (first | (apply is_true; and_intros <;> (first | rfl | assumption | (apply qh_cc <;> assumption) | (apply qc_cc <;> assumption) | (apply ql_cc <;> assumption) | (first | (apply is_true; and_intros <;> (first | rfl | assumption | (apply qh_cc <;> assumption) | (apply qc_cc <;> assumption) | (apply ql_cc <;> assumption) | (first | (apply is_true; and_intros <;> (first | rfl | assumption | (apply qh_cc <;> assumption) | (apply qc_cc <;> assumption) | (apply ql_cc <;> assumption))) | (apply qh_cc <;> assumption) | (apply qc_cc <;> assumption) | (apply ql_cc <;> assumption)))) | (apply qh_cc <;> assumption) | (apply qc_cc <;> assumption) | (apply ql_cc <;> assumption)))) | (apply qh_cc <;> assumption) | (apply qc_cc <;> assumption) | (apply ql_cc <;> assumption)))) | (apply qh_cc <;> assumption) | (apply qc_cc <;> assumption) | (apply ql_cc <;> assumption)) ?_
        rfl
      · skip
        refine andT (by first | (apply is_true; and_intros <;> (first | rfl | assumption | (apply qh_cc <;> assumption) | (apply qc_cc <;> assumption) | (apply ql_cc <;> assumption) | (first | (apply is_true; and_intros <;> (first | rfl | assumption | (apply qh_cc <;> assumption) | (apply qc_cc <;> assumption) | (apply ql_cc <;> assumption) | (first | (apply is_true; and_intros <;> (first | rfl | assumption | (apply qh_cc <;> assumption) | (apply qc_cc <;> assumption) | (apply ql_cc <;> assumption) | (first | (apply is_true; and_intros <;> (first | rfl | assumption | (apply qh_cc <;> assumption) | (apply qc_cc <;> assumption) | (apply ql_cc <;> assumption))) | (apply qh_cc <;> assumption) | (apply qc_cc <;> assumption) | (apply ql_cc <;> assumption)))) | (apply qh_cc <;> assumption) | (apply qc_cc <;> assumption) | (apply ql_cc <;> assumption)))) | (apply qh_cc <;> assumption) | (apply qc_cc <;> assumption) | (apply ql_cc <;> assumption)))) | (apply qh_cc <;> assumption) | (apply qc_cc <;> assumption) | (apply ql_cc <;> assumption)) ?_
        rfl
theorem qo_vv (A : LL) : qo_v A = heapOk A := by
  unfold qo_v qo_k5_1
  rw [qo_R5_eq, allI_rows, dgt, lenPos]
  unfold heapOk lastEmpty
  generalize decide ((A.length : Int) ≤ 30) = p1, ((A.length : Int) == 0) = p2, ((nth (row A (IntKind.wrap .i64 ((A.length : Int) - (1 : Int)))) 0).str == []) = p3, A.all slotNameOk = p4
  cases p1 <;> cases p2 <;> cases p3 <;> cases p4 <;> rfl
abbrev qbb_3_σ := LL × Int × Int
abbrev qbb_3_ω := (Int)
def qbb_3_step (A : LL) (n i : Int) : Tr (qbb_3_σ ⊕ qbb_3_ω) := (.ite ((decide (i < (A.length : Int))) = true) (.ite ((0 : Int) ≤ i ∧ i < (A.length : Int)) (.ite ((!((nth (row A i) 0).str == [])) = true) (.ok (.inl (A, (IntKind.wrap .i64 (n + (1 : Int))), (IntKind.wrap .i64 (i + (1 : Int))))))
    (.ok (.inl (A, n, (IntKind.wrap .i64 (i + (1 : Int)))))))
   .no)
  (.ok (.inr n)))
def qbb_3_st : qbb_3_σ → Tr (qbb_3_σ ⊕ qbb_3_ω) := fun x => (qbb_3_step (x.1) (x.2.1) (x.2.2))
def qbb_o3_1 (A : LL) (n i : Int) : Bool := is (n = 0 ∧ i = 0 ∧ Typed tab (.slice 9) (.l A))
def qbb_u3_1 (A : LL) (n i : Int) : Int := ((cntE A : Nat) : Int)
def qbb_3_fin (A : LL) (n i : Int) : Told qbb_3_ω := (.leaf (qbb_o3_1 A n i) (qbb_u3_1 A n i))
def qbb_3_sl (x : qbb_3_σ) : List Slot := [⟨.bx 40 [⟨.slice 9, .sh, TC.l (x.1)⟩], ⟨0, 0⟩⟩, ⟨.val false [⟨.int .i64, .sh, TC.i (x.2.1)⟩], ⟨0, 0⟩⟩, ⟨.val false [⟨.int .i64, .sh, TC.i (x.2.2)⟩], ⟨0, 0⟩⟩]
def qbb_3_out : qbb_3_ω → Ex × List Slot := (fun x => (.exit 0, [Slot.none, ⟨.val false [⟨.int .i64, .sh, TC.i x⟩], ⟨0, 0⟩⟩]))
def qbb_lo3 : List Slot → Option (Told (Ex × List Slot)) := fun s => match s with
  | [⟨.bx 40 [⟨.slice 9, .sh, TC.l A⟩], ⟨0, 0⟩⟩, ⟨.val false [⟨.int .i64, .sh, TC.i n⟩], ⟨0, 0⟩⟩, ⟨.val false [⟨.int .i64, .sh, TC.i i⟩], ⟨0, 0⟩⟩] => some (((qbb_3_fin A n i)).map qbb_3_out)
  | _ => .none
def qbb_lo : LoopTeller := fun r s => bif Nat.beq r 3 then qbb_lo3 s else .none
theorem qbb_3_r (A : LL) (n i : Int) (fuel : Nat) : rounds (rnd tab FT D15 live 34 qbb_lo 0 3) leave (fuel + 1) (qbb_3_sl (A, n, i)) = ((qbb_3_step A n i)).run (goOn (fun s => rounds (rnd tab FT D15 live 34 qbb_lo 0 3) leave fuel (qbb_3_sl s)) fun w => some (qbb_3_out w)) := by kernel_rfl
theorem qbb_3_h (A : LL) (n i : Int) (ow : qbb_3_ω) : ((qbb_3_fin A n i)).val = some ow → ∃ fuel, loopN qbb_3_st fuel (A, n, i) = some ow := by
  intro h
  refine auto_leaf (R := ((cntE A : Nat) : Int)) (fun ho => ?_) h
  obtain ⟨rfl, rfl, ht⟩ := is_iff.1 ho
  have hlen : A.length ≤ 140737488351232 := by have := typed_room ht; simp only [show (tab 9).bytes = 16 from rfl] at this; omega
  have key := loopN_run (step := qbb_3_st) (N := A.length) (fun j => (A, ((cntE (A.take j) : Nat) : Int), (j : Int))) (w := ((cntE A : Nat) : Int)) (fun j hj => ?_) ?_ A.length 0 (by omega)
  · exact ⟨_, key⟩
  · show (qbb_3_step A ((cntE (A.take j) : Nat) : Int) (j : Int)).val = _
    unfold qbb_3_step
    have hc := cntE_le (A.take j)
    rw [List.length_take] at hc
    rw [cntE_step hj]
    refine Tr.t (by simp; omega) (Tr.t (by omega) ?_)
    cases hp : (!((nth (row A (j : Int)) 0).str == [])) with
    | true =>
      refine Tr.t rfl ?_
      rw [Tr.val_ok, wrap64 (i := (j : Int) + 1) (by omega) (by omega), wrap64 (i := ((cntE (A.take j) : Nat) : Int) + 1) (by omega) (by omega)]
      rfl
    | false =>
      refine Tr.n Bool.false_ne_true ?_
      rw [Tr.val_ok, wrap64 (i := (j : Int) + 1) (by omega) (by omega)]
      rfl
  · show (qbb_3_step A ((cntE (A.take A.length) : Nat) : Int) (A.length : Int)).val = _
    unfold qbb_3_step
    rw [List.take_length]
    refine Tr.n (by simp) ?_
    rfl
theorem qbb_is3 : LoopIs tab FT D15 live 34 qbb_lo 0 3 := by
  refine loop_told (sl := qbb_3_sl) (step := qbb_3_st) (out := qbb_3_out) (lor := qbb_lo3) (fin := fun x => (qbb_3_fin (x.1) (x.2.1) (x.2.2))) (fun _ => rfl) ?_ (fun x n => qbb_3_r x.1 x.2.1 x.2.2 n) (fun x ow => qbb_3_h x.1 x.2.1 x.2.2 ow)
  intro s t h
  unfold qbb_lo3 at h
  split at h
  · cases h; exact ⟨(_, _, _), rfl, rfl⟩
  · cases h
def qbb_t (A : LL) : Tr (Int) := (.ite ((qbb_o3_1 A (0 : Int) (0 : Int)) = true) (.ok (qbb_u3_1 A (0 : Int) (0 : Int)))
  .no)
def qbb_mk (p : Int) : Res := [(false, [⟨.int .i64, .sh, TC.i p⟩])]
def qbb_c (A : LL) : Bool := (qbb_o3_1 A (0 : Int) (0 : Int))
def qbb_v (A : LL) : Int := (qbb_u3_1 A (0 : Int) (0 : Int))
theorem qbb_l (A : LL) : (qbb_c A) = true → (qbb_t A).val = some (qbb_v A) := by
  intro h
  have hc0 : (qbb_o3_1 A (0 : Int) (0 : Int)) = true := h
  unfold qbb_t
  exact (Tr.t hc0 rfl)
def qbb_S : List Arg → Option (Bool × Res) := fun xs => match xs with
  | [(true, [(.slice 9, TC.l A)])] => some ((qbb_c A), qbb_mk (qbb_v A))
  | _ => .none
theorem qbb_e (A : LL) : runF tab FT D15 live 34 qbb_lo [(true, [(.slice 9, TC.l A)])] = (qbb_t A).run fun p => some (qbb_mk p) := by kernel_rfl
theorem qbb_s : ∀ xs r, qbb_S xs = some (true, r) → runF tab FT D15 live 34 qbb_lo xs = some r := by
  intro xs r h
  unfold qbb_S at h
  split at h
  · obtain ⟨h1, rfl⟩ := sp h
    exact fun_told (qbb_e _) (qbb_l _) h1
  · cases h
def D16 : Dt := also D15 34 qbb_S
theorem d16 : DOk Go.Proofs.Tryd.prog tab D16 := d15.also mixed_ok tab_ok names_ok (fnLoops_one (by kernel_rfl) qbb_is3) qbb_s
theorem qbb_vv (A : LL) : qbb_v A = ((cntE A : Nat) : Int) := rfl
abbrev qw_2_σ := BS × LL × Int
abbrev qw_2_ω := (Int) ⊕ (Unit)
def qw_2_step (s : BS) (A : LL) (i : Int) : Tr (qw_2_σ ⊕ qw_2_ω) := (.ite ((decide (i < (A.length : Int))) = true) (.ite ((0 : Int) ≤ i ∧ i < (A.length : Int)) (.ite (((nth (row A i) 0).str == s) = true) (.ok (.inr (.inl i)))
    (.ok (.inl (s, A, (IntKind.wrap .i64 (i + (1 : Int)))))))
   .no)
  (.ok (.inr (.inr ()))))
def qw_2_st : qw_2_σ → Tr (qw_2_σ ⊕ qw_2_ω) := fun x => (qw_2_step (x.1) (x.2.1) (x.2.2))
def qw_k2_1 (s : BS) (A : LL) (i : Int) : Bool := A.all (fun x => !((nth x 0).str == s))
def qw_o2_2 (s : BS) (A : LL) (i : Int) : Bool := is (i = 0 ∧ Typed tab (.slice 9) (.l A))
def qw_o2_3 (s : BS) (A : LL) (i : Int) : Bool := is (i = 0 ∧ Typed tab (.slice 9) (.l A))
def qw_u2_3 (s : BS) (A : LL) (i : Int) : Int := (Int.ofNat (A.findIdx fun x => !(fun x => !((nth x 0).str == s)) x))
def qw_2_fin (s : BS) (A : LL) (i : Int) : Told qw_2_ω := (.br (qw_k2_1 s A i) (.leaf (qw_o2_2 s A i) (.inr ())) (.leaf (qw_o2_3 s A i) (.inl (qw_u2_3 s A i))))
def qw_2_sl (x : qw_2_σ) : List Slot := [⟨.val false [⟨.str, .sh, TC.s (x.1)⟩], ⟨0, 0⟩⟩, ⟨.bx 40 [⟨.slice 9, .sh, TC.l (x.2.1)⟩], ⟨0, 0⟩⟩, ⟨.val false [⟨.int .i64, .sh, TC.i (x.2.2)⟩], ⟨0, 0⟩⟩]
def qw_2_out : qw_2_ω → Ex × List Slot := (Sum.elim (fun x => (.ret, [⟨.val false [⟨.int .i64, .sh, TC.i x⟩], ⟨0, 0⟩⟩])) (fun x => (.exit 0, [Slot.none])))
def qw_lo2 : List Slot → Option (Told (Ex × List Slot)) := fun s => match s with
  | [⟨.val false [⟨.str, .sh, TC.s s⟩], ⟨0, 0⟩⟩, ⟨.bx 40 [⟨.slice 9, .sh, TC.l A⟩], ⟨0, 0⟩⟩, ⟨.val false [⟨.int .i64, .sh, TC.i i⟩], ⟨0, 0⟩⟩] => some (((qw_2_fin s A i)).map qw_2_out)
  | _ => .none
def qw_lo : LoopTeller := fun r s => bif Nat.beq r 2 then qw_lo2 s else .none
theorem qw_2_r (s : BS) (A : LL) (i : Int) (fuel : Nat) : rounds (rnd tab FT D16 live 35 qw_lo 0 2) leave (fuel + 1) (qw_2_sl (s, A, i)) = ((qw_2_step s A i)).run (goOn (fun s => rounds (rnd tab FT D16 live 35 qw_lo 0 2) leave fuel (qw_2_sl s)) fun w => some (qw_2_out w)) := by kernel_rfl
theorem qw_2_h (s : BS) (A : LL) (i : Int) (ow : qw_2_ω) : ((qw_2_fin s A i)).val = some ow → ∃ fuel, loopN qw_2_st fuel (s, A, i) = some ow := by
  intro h
  have key : Typed tab (.slice 9) (.l A) → loopN qw_2_st (A.length + 1) (s, A, (0 : Int)) = some (if A.all (fun x => !((nth x 0).str == s)) = true then (.inr ()) else (.inl (Int.ofNat (A.findIdx fun x => !(fun x => !((nth x 0).str == s)) x)))) := by
    intro ht
    have hlen : A.length ≤ 140737488351232 := by have := typed_room ht; simp only [show (tab 9).bytes = 16 from rfl] at this; omega
    have key := loopN_scan (step := qw_2_st) A [] (fun x => !((nth x 0).str == s)) (fun a _ => a) (fun i a => (s, A, (i : Int))) (fun a => (.inr ())) (fun i a => (.inl (i : Int))) (fun i a hi => ?_) (fun a => ?_) A.length 0 () (by omega)
    · first | (rw [Nat.zero_add] at key; exact key) | exact key
    · have c0 : Typed tab (.str) (.s (nth (A.getD i []) 0).str) := typed_s (typed_cell ht (A.getD i []) (mem_getD hi) 0 (by decide))
      show (qw_2_step s A (i : Int)).val = _
      unfold qw_2_step
      refine Tr.t (by simp; omega) ?_
      skip
      refine Tr.t (by first | omega | (constructor <;> omega)) ?_
      refine Tr.b2 (fun hP => ?_) (fun _ => rfl)
      rw [Tr.val_ok, wrap64 (i := (i : Int) + 1) (by omega) (by omega)]; rfl
    · show (qw_2_step s A (A.length : Int)).val = _
      refine Tr.n (by simp) ?_
      rfl
  simp only [qw_2_fin, Told.val] at h
  cases hk : A.all (fun x => !((nth x 0).str == s)) with
  | true =>
    rw [if_pos (show qw_k2_1 s A i = true from hk)] at h
    split at h
    · rename_i ho
      obtain ⟨rfl, ht⟩ := is_iff.1 ho
      cases h
      refine ⟨_, (key ht).trans ?_⟩
      rw [hk]; rfl
    · cases h
  | false =>
    rw [if_neg (show ¬qw_k2_1 s A i = true from by rw [show qw_k2_1 s A i = (A.all (fun x => !((nth x 0).str == s))) from rfl, hk]; simp)] at h
    split at h
    · rename_i ho
      obtain ⟨rfl, ht⟩ := is_iff.1 ho
      cases h
      refine ⟨_, (key ht).trans ?_⟩
      rw [hk]; rfl
    · cases h
theorem qw_is2 : LoopIs tab FT D16 live 35 qw_lo 0 2 := by
  refine loop_told (sl := qw_2_sl) (step := qw_2_st) (out := qw_2_out) (lor := qw_lo2) (fin := fun x => (qw_2_fin (x.1) (x.2.1) (x.2.2))) (fun _ => rfl) ?_ (fun x n => qw_2_r x.1 x.2.1 x.2.2 n) (fun x ow => qw_2_h x.1 x.2.1 x.2.2 ow)
  intro s t h
  unfold qw_lo2 at h
  split at h
  · cases h; exact ⟨(_, _, _), rfl, rfl⟩
  · cases h
def qw_t (A : LL) (s : BS) : Tr (Int) := (.ite ((qw_k2_1 s A (0 : Int)) = true) (.ite ((qw_o2_2 s A (0 : Int)) = true) (.ok (-1 : Int))
   .no)
  (.ite ((qw_o2_3 s A (0 : Int)) = true) (.ok (qw_u2_3 s A (0 : Int)))
   .no))
def qw_mk (p : Int) : Res := [(false, [⟨.int .i64, .sh, TC.i p⟩])]
def qw_c (A : LL) (s : BS) : Bool := is (((qw_o2_2 s A (0 : Int)) = true) ∧ ((qw_o2_3 s A (0 : Int)) = true))
def qw_v (A : LL) (s : BS) : Int := (bif (qw_k2_1 s A (0 : Int)) then (-1 : Int) else (qw_u2_3 s A (0 : Int)))
theorem qw_l (A : LL) (s : BS) : (qw_c A s) = true → (qw_t A s).val = some (qw_v A s) := by
  intro h
  obtain ⟨g0, g1⟩ := is_iff.1 h
  unfold qw_t qw_v
  exact (Tr.s (Tr.t g0 rfl) (Tr.t g1 rfl))
def qw_S : List Arg → Option (Bool × Res) := fun xs => match xs with
  | [(true, [(.slice 9, TC.l A)]), (false, [(.str, TC.s s)])] => some ((qw_c A s), qw_mk (qw_v A s))
  | _ => .none
theorem qw_e (A : LL) (s : BS) : runF tab FT D16 live 35 qw_lo [(true, [(.slice 9, TC.l A)]), (false, [(.str, TC.s s)])] = (qw_t A s).run fun p => some (qw_mk p) := by kernel_rfl
theorem qw_s : ∀ xs r, qw_S xs = some (true, r) → runF tab FT D16 live 35 qw_lo xs = some r := by
  intro xs r h
  unfold qw_S at h
  split at h
  · obtain ⟨h1, rfl⟩ := sp h
    exact fun_told (qw_e ..) (qw_l _ _) h1
  · cases h
def D17 : Dt := also D16 35 qw_S
theorem d17 : DOk Go.Proofs.Tryd.prog tab D17 := d16.also mixed_ok tab_ok names_ok (fnLoops_one (by kernel_rfl) qw_is2) qw_s
theorem qw_vv (A : LL) (s : BS) : qw_v A s = slotIdx A s := rfl
def qbm_t (n : Int) : Tr (BS) := .ok ([[TC.i (IntKind.wrap .u8 n)]].map byteOf)
def qbm_mk (p : BS) : Res := [(false, [⟨.str, .sh, TC.s p⟩])]
def qbm_c (n : Int) : Bool := true
def qbm_v (n : Int) : BS := hid (bytesL n 1)
theorem qbm_l (n : Int) : (qbm_c n) = true → (qbm_t n).val = some (qbm_v n) := by
  intro _
  unfold qbm_t qbm_v
  rw [hid_eq, ← byte1]
  rfl
def qbm_S : List Arg → Option (Bool × Res) := fun xs => match xs with
  | [(false, [(.int .i64, TC.i n)])] => some (true, qbm_mk (qbm_v n))
  | _ => .none
theorem qbm_e (n : Int) : runF tab FT D17 live 48 noLoops [(false, [(.int .i64, TC.i n)])] = (qbm_t n).run fun p => some (qbm_mk p) := by kernel_rfl
theorem qbm_s : ∀ xs r, qbm_S xs = some (true, r) → runF tab FT D17 live 48 noLoops xs = some r := by
  intro xs r h
  unfold qbm_S at h
  split at h
  · obtain ⟨h1, rfl⟩ := sp h
    exact fun_told (qbm_e _) (qbm_l _) rfl
  · cases h
def D18 : Dt := also D17 48 qbm_S
theorem d18 : DOk Go.Proofs.Tryd.prog tab D18 := d17.also mixed_ok tab_ok names_ok noLoops_ok qbm_s
theorem qbm_h {n : Int} : qbm_v n = bytesL n 1 := hid_eq _
theorem qbm_len {n : Int} : (qbm_v n).length = 1 := by rw [qbm_h]; exact bytesL_len
abbrev qbd_3_σ := Int × Int × Bool × BS × Int
abbrev qbd_3_ω := (BS)
def qbd_3_step (n size : Int) (bg : Bool) (out : BS) (k : Int) : Tr (qbd_3_σ ⊕ qbd_3_ω) := (.ite ((decide (k < size)) = true) (.ite (0 ≤ (IntKind.wrap .u64 (IntKind.wrap .i64 ((8 : Int) * k)))) (.ite (bg = true) (.ite ((((qbm_v (bits .i64 (fun a b => a &&& b) (Int.fdiv n (2 ^ (min ((IntKind.wrap .u64 (IntKind.wrap .i64 ((8 : Int) * k)))).toNat 64))) (255 : Int))).length + out.length : Nat) : Int) ≤ 9223372036854775807) (.ok (.inl (n, size, bg, ((qbm_v (bits .i64 (fun a b => a &&& b) (Int.fdiv n (2 ^ (min ((IntKind.wrap .u64 (IntKind.wrap .i64 ((8 : Int) * k)))).toNat 64))) (255 : Int))) ++ out), (IntKind.wrap .i64 (k + (1 : Int))))))
     .no)
    (.ite (((out.length + (qbm_v (bits .i64 (fun a b => a &&& b) (Int.fdiv n (2 ^ (min ((IntKind.wrap .u64 (IntKind.wrap .i64 ((8 : Int) * k)))).toNat 64))) (255 : Int))).length : Nat) : Int) ≤ 9223372036854775807) (.ok (.inl (n, size, bg, (out ++ (qbm_v (bits .i64 (fun a b => a &&& b) (Int.fdiv n (2 ^ (min ((IntKind.wrap .u64 (IntKind.wrap .i64 ((8 : Int) * k)))).toNat 64))) (255 : Int)))), (IntKind.wrap .i64 (k + (1 : Int))))))
     .no))
   .no)
  (.ok (.inr out)))
def qbd_3_st : qbd_3_σ → Tr (qbd_3_σ ⊕ qbd_3_ω) := fun x => (qbd_3_step (x.1) (x.2.1) (x.2.2.1) (x.2.2.2.1) (x.2.2.2.2))
def qbd_o3_1 (n size : Int) (bg : Bool) (out : BS) (k : Int) : Bool := is (∃ sz : Nat, size = (sz : Int) ∧ sz ≤ 8 ∧ out = [] ∧ k = 0)
def qbd_u3_1 (n size : Int) (bg : Bool) (out : BS) (k : Int) : BS := putB n size.toNat bg
def qbd_3_fin (n size : Int) (bg : Bool) (out : BS) (k : Int) : Told qbd_3_ω := (.leaf (qbd_o3_1 n size bg out k) (qbd_u3_1 n size bg out k))
def qbd_3_sl (x : qbd_3_σ) : List Slot := [⟨.val false [⟨.int .i64, .sh, TC.i (x.1)⟩], ⟨0, 0⟩⟩, ⟨.val false [⟨.int .i64, .sh, TC.i (x.2.1)⟩], ⟨0, 0⟩⟩, ⟨.val false [⟨.bool, .sh, TC.b (x.2.2.1)⟩], ⟨0, 0⟩⟩, ⟨.val false [⟨.str, .sh, TC.s (x.2.2.2.1)⟩], ⟨0, 0⟩⟩, ⟨.val false [⟨.int .i64, .sh, TC.i (x.2.2.2.2)⟩], ⟨0, 0⟩⟩]
def qbd_3_out : qbd_3_ω → Ex × List Slot := (fun x => (.exit 0, [Slot.none, ⟨.val false [⟨.str, .sh, TC.s x⟩], ⟨0, 0⟩⟩]))
def qbd_lo3 : List Slot → Option (Told (Ex × List Slot)) := fun s => match s with
  | [⟨.val false [⟨.int .i64, .sh, TC.i n⟩], ⟨0, 0⟩⟩, ⟨.val false [⟨.int .i64, .sh, TC.i size⟩], ⟨0, 0⟩⟩, ⟨.val false [⟨.bool, .sh, TC.b bg⟩], ⟨0, 0⟩⟩, ⟨.val false [⟨.str, .sh, TC.s out⟩], ⟨0, 0⟩⟩, ⟨.val false [⟨.int .i64, .sh, TC.i k⟩], ⟨0, 0⟩⟩] => some (((qbd_3_fin n size bg out k)).map qbd_3_out)
  | _ => .none
def qbd_lo : LoopTeller := fun r s => bif Nat.beq r 3 then qbd_lo3 s else .none
theorem qbd_3_r (n size : Int) (bg : Bool) (out : BS) (k : Int) (fuel : Nat) : rounds (rnd tab FT D18 live 49 qbd_lo 0 3) leave (fuel + 1) (qbd_3_sl (n, size, bg, out, k)) = ((qbd_3_step n size bg out k)).run (goOn (fun s => rounds (rnd tab FT D18 live 49 qbd_lo 0 3) leave fuel (qbd_3_sl s)) fun w => some (qbd_3_out w)) := by kernel_rfl
theorem qbd_3_h (n size : Int) (bg : Bool) (out : BS) (k : Int) (ow : qbd_3_ω) : ((qbd_3_fin n size bg out k)).val = some ow → ∃ fuel, loopN qbd_3_st fuel (n, size, bg, out, k) = some ow := by
  intro h
  refine auto_leaf (R := putB n size.toNat bg) (fun ho => ?_) h
  obtain ⟨sz, rfl, h8, rfl, rfl⟩ := is_iff.1 ho
  refine ⟨sz + 1, Eq.trans (congrArg (loopN qbd_3_st (sz + 1)) (by cases bg <;> rfl)) (loopN_run (step := qbd_3_st) (N := sz) (fun j => (n, (sz : Int), bg, putB n j bg, (j : Int))) (fun j hj => ?_) ?_ sz 0 (by omega))⟩
  · have e1 : IntKind.wrap .u64 (IntKind.wrap .i64 ((8 : Int) * (j : Int))) = ((8 * j : Nat) : Int) := by
      rw [wrap64 (by omega) (by omega), IntKind.wrap_u64]; omega
    have eb : qbm_v (bits .i64 (fun a b => a &&& b) (Int.fdiv n (2 ^ (8 * j))) (255 : Int)) = [byteOf (bAt n j)] := by
      rw [qbm_h]
      show [byteOf (bAt _ 0)] = _
      unfold bAt
      rw [show Int.fdiv (bits .i64 (fun a b => a &&& b) (Int.fdiv n (2 ^ (8 * j))) (255 : Int)) (2 ^ (8 * 0)) = bits .i64 (fun a b => a &&& b) (Int.fdiv n (2 ^ (8 * j))) (255 : Int) from by simp, u8_and]
    show (qbd_3_step n (sz : Int) bg (putB n j bg) (j : Int)).val = _
    unfold qbd_3_step
    rw [e1, Int.toNat_natCast, Nat.min_eq_left (by omega), eb]
    refine Tr.t (by simp; omega) ?_
    refine Tr.t (by omega) ?_
    have hl := putB_len (n := n) (sz := j) (bg := bg)
    cases bg with
    | true =>
      refine Tr.t rfl ?_
      refine Tr.t (by rw [hl, List.length_singleton]; omega) ?_
      rw [Tr.val_ok, wrap64 (i := (j : Int) + 1) (by omega) (by omega)]
      have e2 : putB n (j + 1) true = [byteOf (bAt n j)] ++ putB n j true := by
        show (bytesL n (j + 1)).reverse = _ ++ (bytesL n j).reverse
        rw [bytesL_succ, List.reverse_append]; rfl
      rw [e2]; rfl
    | false =>
      refine Tr.n (by simp) ?_
      refine Tr.t (by rw [hl, List.length_singleton]; omega) ?_
      rw [Tr.val_ok, wrap64 (i := (j : Int) + 1) (by omega) (by omega)]
      have e2 : putB n (j + 1) false = putB n j false ++ [byteOf (bAt n j)] := bytesL_succ
      rw [e2]; rfl
  · show (qbd_3_step n (sz : Int) bg (putB n sz bg) (sz : Int)).val = _
    unfold qbd_3_step
    refine Tr.n (by simp) ?_
    rfl
theorem qbd_is3 : LoopIs tab FT D18 live 49 qbd_lo 0 3 := by
  refine loop_told (sl := qbd_3_sl) (step := qbd_3_st) (out := qbd_3_out) (lor := qbd_lo3) (fin := fun x => (qbd_3_fin (x.1) (x.2.1) (x.2.2.1) (x.2.2.2.1) (x.2.2.2.2))) (fun _ => rfl) ?_ (fun x n => qbd_3_r x.1 x.2.1 x.2.2.1 x.2.2.2.1 x.2.2.2.2 n) (fun x ow => qbd_3_h x.1 x.2.1 x.2.2.1 x.2.2.2.1 x.2.2.2.2 ow)
  intro s t h
  unfold qbd_lo3 at h
  split at h
  · cases h; exact ⟨(_, _, _, _, _), rfl, rfl⟩
  · cases h
def qbd_t (n size : Int) (bg : Bool) : Tr (BS) := (.ite ((qbd_o3_1 n size bg [] (0 : Int)) = true) (.ok (qbd_u3_1 n size bg [] (0 : Int)))
  .no)
def qbd_mk (p : BS) : Res := [(false, [⟨.str, .sh, TC.s p⟩])]
def qbd_c (n size : Int) (bg : Bool) : Bool := is (∃ sz : Nat, size = (sz : Int) ∧ sz ≤ 8)
def qbd_v (n size : Int) (bg : Bool) : BS := hid (putB n size.toNat bg)
theorem qbd_l (n size : Int) (bg : Bool) : (qbd_c n size bg) = true → (qbd_t n size bg).val = some (qbd_v n size bg) := by
  intro h
  obtain ⟨sz, rfl, h8⟩ := is_iff.1 h
  unfold qbd_t qbd_v
  rw [hid_eq]
  refine Tr.t (is_true ⟨sz, rfl, h8, rfl, rfl⟩) ?_
  rfl
def qbd_S : List Arg → Option (Bool × Res) := fun xs => match xs with
  | [(false, [(.int .i64, TC.i n)]), (false, [(.int .i64, TC.i size)]), (false, [(.bool, TC.b bg)])] => some ((qbd_c n size bg), qbd_mk (qbd_v n size bg))
  | _ => .none
theorem qbd_e (n size : Int) (bg : Bool) : runF tab FT D18 live 49 qbd_lo [(false, [(.int .i64, TC.i n)]), (false, [(.int .i64, TC.i size)]), (false, [(.bool, TC.b bg)])] = (qbd_t n size bg).run fun p => some (qbd_mk p) := by kernel_rfl
theorem qbd_s : ∀ xs r, qbd_S xs = some (true, r) → runF tab FT D18 live 49 qbd_lo xs = some r := by
  intro xs r h
  unfold qbd_S at h
  split at h
  · obtain ⟨h1, rfl⟩ := sp h
    exact fun_told (qbd_e ..) (qbd_l _ _ _) h1
  · cases h
def D19 : Dt := also D18 49 qbd_S
theorem d19 : DOk Go.Proofs.Tryd.prog tab D19 := d18.also mixed_ok tab_ok names_ok (fnLoops_one (by kernel_rfl) qbd_is3) qbd_s
theorem qbd_h {n size : Int} {bg : Bool} : qbd_v n size bg = putB n size.toNat bg := hid_eq _
def qj_f3 (A B : LL) (i : Int) (s : BS) : (BS) ⊕ ((BS)) := (bif ((nth (row A i) 2).str == []) then (.inl ((s ++ ((qbm_v (qw_v B ((nth (row A i) 0).str))) ++ (qbm_v (((nth (row A i) 2).str).length : Int)))) ++ (qbd_v ((nth (row A i) 1).int) (2 : Int) false))) else (.inl ((s ++ ((qbm_v (qw_v B ((nth (row A i) 0).str))) ++ (qbm_v (((nth (row A i) 2).str).length : Int)))) ++ (nth (row A i) 2).str)))
def qj_e3 (A B : LL) (s : BS) : (BS) := s
def qj_R3 (A B : LL) (s : BS) (i : Int) : (BS) := iter (fun i a => (qj_f3 A B (i : Int) a)) (fun a => (qj_e3 A B a)) (A.length) 0 s
abbrev qj_3_σ := LL × LL × BS × Int
abbrev qj_3_ω := (BS)
def qj_3_step (A B : LL) (s : BS) (i : Int) : Tr (qj_3_σ ⊕ qj_3_ω) := (.ite ((decide (i < (A.length : Int))) = true) (.ite ((0 : Int) ≤ i ∧ i < (A.length : Int)) (.ite ((qw_c B ((nth (row A i) 0).str)) = true) (.ite ((((qbm_v (qw_v B ((nth (row A i) 0).str))).length + (qbm_v (((nth (row A i) 2).str).length : Int)).length : Nat) : Int) ≤ 9223372036854775807) (.ite (((s.length + ((qbm_v (qw_v B ((nth (row A i) 0).str))) ++ (qbm_v (((nth (row A i) 2).str).length : Int))).length : Nat) : Int) ≤ 9223372036854775807) (.ite (((nth (row A i) 2).str == []) = true) (.ite ((qbd_c ((nth (row A i) 1).int) (2 : Int) false) = true) (.ite ((((s ++ ((qbm_v (qw_v B ((nth (row A i) 0).str))) ++ (qbm_v (((nth (row A i) 2).str).length : Int)))).length + (qbd_v ((nth (row A i) 1).int) (2 : Int) false).length : Nat) : Int) ≤ 9223372036854775807) (.ok (.inl (A, B, ((s ++ ((qbm_v (qw_v B ((nth (row A i) 0).str))) ++ (qbm_v (((nth (row A i) 2).str).length : Int)))) ++ (qbd_v ((nth (row A i) 1).int) (2 : Int) false)), (IntKind.wrap .i64 (i + (1 : Int))))))
         .no)
        .no)
       (.ite ((((s ++ ((qbm_v (qw_v B ((nth (row A i) 0).str))) ++ (qbm_v (((nth (row A i) 2).str).length : Int)))).length + ((nth (row A i) 2).str).length : Nat) : Int) ≤ 9223372036854775807) (.ok (.inl (A, B, ((s ++ ((qbm_v (qw_v B ((nth (row A i) 0).str))) ++ (qbm_v (((nth (row A i) 2).str).length : Int)))) ++ (nth (row A i) 2).str), (IntKind.wrap .i64 (i + (1 : Int))))))
        .no))
      .no)
     .no)
    .no)
   .no)
  (.ok (.inr s)))
def qj_3_st : qj_3_σ → Tr (qj_3_σ ⊕ qj_3_ω) := fun x => (qj_3_step (x.1) (x.2.1) (x.2.2.1) (x.2.2.2))
def qj_o3_1 (A B : LL) (s : BS) (i : Int) : Bool := is (i = 0 ∧ Typed tab (.slice 48) (.l A) ∧ s.length ≤ 8 ∧ A.length ≤ 64 ∧ PathsOk A ∧ Typed tab (.slice 9) (.l B))
def qj_u3_1 (A B : LL) (s : BS) (i : Int) : BS := (qj_R3 A B s i)
def qj_3_fin (A B : LL) (s : BS) (i : Int) : Told qj_3_ω := (.leaf (qj_o3_1 A B s i) (qj_u3_1 A B s i))
def qj_3_sl (x : qj_3_σ) : List Slot := [⟨.val false [⟨.slice 48, .sh, TC.l (x.1)⟩], ⟨0, 0⟩⟩, ⟨.bx 40 [⟨.slice 9, .sh, TC.l (x.2.1)⟩], ⟨0, 0⟩⟩, ⟨.val false [⟨.str, .sh, TC.s (x.2.2.1)⟩], ⟨0, 0⟩⟩, ⟨.val false [⟨.int .i64, .sh, TC.i (x.2.2.2)⟩], ⟨0, 0⟩⟩]
def qj_3_out : qj_3_ω → Ex × List Slot := (fun x => (.exit 0, [Slot.none, ⟨.val false [⟨.str, .sh, TC.s x⟩], ⟨0, 0⟩⟩]))
def qj_lo3 : List Slot → Option (Told (Ex × List Slot)) := fun s => match s with
  | [⟨.val false [⟨.slice 48, .sh, TC.l A⟩], ⟨0, 0⟩⟩, ⟨.bx 40 [⟨.slice 9, .sh, TC.l B⟩], ⟨0, 0⟩⟩, ⟨.val false [⟨.str, .sh, TC.s s⟩], ⟨0, 0⟩⟩, ⟨.val false [⟨.int .i64, .sh, TC.i i⟩], ⟨0, 0⟩⟩] => some (((qj_3_fin A B s i)).map qj_3_out)
  | _ => .none
def qj_lo : LoopTeller := fun r s => bif Nat.beq r 3 then qj_lo3 s else .none
theorem qj_3_r (A B : LL) (s : BS) (i : Int) (fuel : Nat) : rounds (rnd tab FT D19 live 36 qj_lo 0 3) leave (fuel + 1) (qj_3_sl (A, B, s, i)) = ((qj_3_step A B s i)).run (goOn (fun s => rounds (rnd tab FT D19 live 36 qj_lo 0 3) leave fuel (qj_3_sl s)) fun w => some (qj_3_out w)) := by kernel_rfl
theorem qj_3_h (A B : LL) (s : BS) (i : Int) (ow : qj_3_ω) : ((qj_3_fin A B s i)).val = some ow → ∃ fuel, loopN qj_3_st fuel (A, B, s, i) = some ow := by
  refine auto_leaf (R := (qj_R3 A B s i)) ?_
  intro ho
  have ho : is (i = 0 ∧ Typed tab (.slice 48) (.l A) ∧ s.length ≤ 8 ∧ A.length ≤ 64 ∧ PathsOk A ∧ Typed tab (.slice 9) (.l B)) = true := ho
  obtain ⟨rfl, ht, hs0, hlim, hP, hB⟩ := is_iff.1 ho
  have hlen : A.length ≤ 140737488351232 := by have := typed_room ht; simp only [show (tab 48).bytes = 40 from rfl] at this; omega
  refine ⟨(A.length) + 1, ?_⟩
  refine iter_loop (step := qj_3_st) (A.length) (fun i a => (qj_f3 A B (i : Int) a)) (fun a => (qj_e3 A B a)) (fun i a => (A, B, a, (i : Int))) (fun i (a : BS) => a.length ≤ 8 + 1048584 * i) (by simpa using hs0) (fun i a hi hI => ⟨?_, fun a' h => by
    unfold qj_f3 at h
    have hI : a.length ≤ 8 + 1048584 * i := hI
    have c0 : (nth (row A (i : Int)) 2).str.length ≤ 1048576 := hP _ (mem_getD (by omega))
    have e0 : (qbm_v (qw_v B (nth (row A (i : Int)) 0).str)).length = 1 := qbm_len
    have e1 : (qbm_v (((nth (row A (i : Int)) 2).str).length : Int)).length = 1 := qbm_len
    have e2 : (qbd_v (nth (row A (i : Int)) 1).int 2 false).length = 2 := by rw [qbd_h]; exact bytesL_len
    cases hc0 : (nth (row A (i : Int)) 2).str == [] <;> rw [hc0] at h <;> (cases h; show List.length _ ≤ 8 + 1048584 * (i + 1); simp only [List.length_append]; omega)⟩) (fun a hI => ?_)
  · show (qj_3_step A B a (i : Int)).val = _
    unfold qj_3_step qj_f3
    have c0 : Typed tab (.str) (.s (nth (A.getD i []) 0).str) := typed_s (typed_cell ht (A.getD i []) (mem_getD hi) 0 (by decide))
    have c2 : Typed tab (.str) (.s (nth (A.getD i []) 2).str) := typed_s (typed_cell ht (A.getD i []) (mem_getD hi) 2 (by decide))
    have hI : a.length ≤ 8 + 1048584 * i := hI
    have c0 : (nth (row A (i : Int)) 2).str.length ≤ 1048576 := hP _ (mem_getD (by omega))
    have e0 : (qbm_v (qw_v B (nth (row A (i : Int)) 0).str)).length = 1 := qbm_len
    have e1 : (qbm_v (((nth (row A (i : Int)) 2).str).length : Int)).length = 1 := qbm_len
    have e2 : (qbd_v (nth (row A (i : Int)) 1).int 2 false).length = 2 := by rw [qbd_h]; exact bytesL_len
    refine Tr.t (by simp; omega) ?_
    exact (Tr.t (by first | omega | (constructor <;> omega) | (simp only [List.length_append]; omega) | (exact is_true ⟨2, rfl, by omega⟩) | (exact is_true ⟨2, rfl, by omega, rfl, rfl⟩)) (Tr.t (by first | (simp only [List.length_append]; omega) | (exact is_true ⟨2, rfl, by omega⟩) | (exact is_true ⟨2, rfl, by omega, rfl, rfl⟩) | (first | (apply is_true; and_intros <;> (first | rfl | assumption | (apply qh_cc <;> assumption) | (apply qc_cc <;> assumption) | (apply ql_cc <;> assumption) | (apply qo_cc <;> assumption) | (first | (apply is_true; and_intros <;> (first | rfl | assumption | (apply qh_cc <;> assumption) | (apply qc_cc <;> assumption) | (apply ql_cc <;> assumption) | (apply qo_cc <;> assumption) | (first | (apply is_true; and_intros <;> (first | rfl | assumption | (apply qh_cc <;> assumption) | (apply qc_cc <;> assumption) | (apply ql_cc <;> assumption) | (apply qo_cc <;> assumption))) | (apply qh_cc <;> assumption) | (apply qc_cc <;> assumption) | (apply ql_cc <;> assumption) | (apply qo_cc <;> assumption)))) | (apply qh_cc <;> assumption) | (apply qc_cc <;> assumption) | (apply ql_cc <;> assumption) | (apply qo_cc <;> assumption)))) | (apply qh_cc <;> assumption) | (apply qc_cc <;> assumption) | (apply ql_cc <;> assumption) | (apply qo_cc <;> assumption))) (Tr.t (by first | omega | (constructor <;> omega) | (simp only [List.length_append]; omega) | (exact is_true ⟨2, rfl, by omega⟩) | (exact is_true ⟨2, rfl, by omega, rfl, rfl⟩)) (Tr.t (by first | omega | (constructor <;> omega) | (simp only [List.length_append]; omega) | (exact is_true ⟨2, rfl, by omega⟩) | (exact is_true ⟨2, rfl, by omega, rfl, rfl⟩)) (Tr.bf (Tr.t (by first | (simp only [List.length_append]; omega) | (exact is_true ⟨2, rfl, by omega⟩) | (exact is_true ⟨2, rfl, by omega, rfl, rfl⟩) | (first | (apply is_true; and_intros <;> (first | rfl | assumption | (apply qh_cc <;> assumption) | (apply qc_cc <;> assumption) | (apply ql_cc <;> assumption) | (apply qo_cc <;> assumption) | (first | (apply is_true; and_intros <;> (first | rfl | assumption | (apply qh_cc <;> assumption) | (apply qc_cc <;> assumption) | (apply ql_cc <;> assumption) | (apply qo_cc <;> assumption) | (first | (apply is_true; and_intros <;> (first | rfl | assumption | (apply qh_cc <;> assumption) | (apply qc_cc <;> assumption) | (apply ql_cc <;> assumption) | (apply qo_cc <;> assumption))) | (apply qh_cc <;> assumption) | (apply qc_cc <;> assumption) | (apply ql_cc <;> assumption) | (apply qo_cc <;> assumption)))) | (apply qh_cc <;> assumption) | (apply qc_cc <;> assumption) | (apply ql_cc <;> assumption) | (apply qo_cc <;> assumption)))) | (apply qh_cc <;> assumption) | (apply qc_cc <;> assumption) | (apply ql_cc <;> assumption) | (apply qo_cc <;> assumption))) (Tr.t (by first | omega | (constructor <;> omega) | (simp only [List.length_append]; omega) | (exact is_true ⟨2, rfl, by omega⟩) | (exact is_true ⟨2, rfl, by omega, rfl, rfl⟩)) (by rw [Tr.val_ok, wrap64 (i := (i : Int) + 1) (by omega) (by omega)]; rfl))) (Tr.t (by first | omega | (constructor <;> omega) | (simp only [List.length_append]; omega) | (exact is_true ⟨2, rfl, by omega⟩) | (exact is_true ⟨2, rfl, by omega, rfl, rfl⟩)) (by rw [Tr.val_ok, wrap64 (i := (i : Int) + 1) (by omega) (by omega)]; rfl)))))))
  · show (qj_3_step A B a (A.length : Int)).val = _
    refine Tr.n (by first | (simp; done) | (simp; omega) | omega) ?_
    rfl
theorem qj_is3 : LoopIs tab FT D19 live 36 qj_lo 0 3 := by
  refine loop_told (sl := qj_3_sl) (step := qj_3_st) (out := qj_3_out) (lor := qj_lo3) (fin := fun x => (qj_3_fin (x.1) (x.2.1) (x.2.2.1) (x.2.2.2))) (fun _ => rfl) ?_ (fun x n => qj_3_r x.1 x.2.1 x.2.2.1 x.2.2.2 n) (fun x ow => qj_3_h x.1 x.2.1 x.2.2.1 x.2.2.2 ow)
  intro s t h
  unfold qj_lo3 at h
  split at h
  · cases h; exact ⟨(_, _, _, _), rfl, rfl⟩
  · cases h
def qj_t (A B : LL) : Tr (BS) := (.ite ((qj_o3_1 A B [] (0 : Int)) = true) (.ok (qj_u3_1 A B [] (0 : Int)))
  .no)
def qj_mk (p : BS) : Res := [(false, [⟨.str, .sh, TC.s p⟩])]
def qj_c (A B : LL) : Bool := ((qj_o3_1 A B [] (0 : Int)) && true)
def qj_v (A B : LL) : BS := (qj_u3_1 A B [] (0 : Int))
theorem qj_l (A B : LL) : (qj_c A B) = true → (qj_t A B).val = some (qj_v A B) := by
  unfold qj_t qj_v qj_c
  exact fun h => (Tr.gb h fun h => rfl)
def qj_S : List Arg → Option (Bool × Res) := fun xs => match xs with
  | [(false, [(.slice 48, TC.l A)]), (true, [(.slice 9, TC.l B)])] => some ((qj_c A B), qj_mk (qj_v A B))
  | _ => .none
theorem qj_e (A B : LL) : runF tab FT D19 live 36 qj_lo [(false, [(.slice 48, TC.l A)]), (true, [(.slice 9, TC.l B)])] = (qj_t A B).run fun p => some (qj_mk p) := by kernel_rfl
theorem qj_s : ∀ xs r, qj_S xs = some (true, r) → runF tab FT D19 live 36 qj_lo xs = some r := by
  intro xs r h
  unfold qj_S at h
  split at h
  · obtain ⟨h1, rfl⟩ := sp h
    exact fun_told (qj_e ..) (qj_l _ _) h1
  · cases h
def D20 : Dt := also D19 36 qj_S
theorem d20 : DOk Go.Proofs.Tryd.prog tab D20 := d19.also mixed_ok tab_ok names_ok (fnLoops_one (by kernel_rfl) qj_is3) qj_s
theorem qj_cc {A : LL} {B : LL} (hA : Typed tab (.slice 48) (.l A)) (hP : PathsOk A) (hB : Typed tab (.slice 9) (.l B)) (hl : A.length ≤ 12) : (qj_c A B) = true := by
  unfold qj_c
  refine andT (by exact is_true ⟨rfl, hA, by simp, by omega, hP, hB⟩) ?_
  rfl
theorem qj_vv (A B : LL) : qj_v A B = encL A B := by
  show qj_R3 A B [] 0 = _
  unfold qj_R3
  refine iter_each (g := fun i a => a ++ linkBy B (row A (i : Int))) (fin := fun a => qj_e3 A B a) fun j a hj => ?_
  unfold qj_f3 linkBy
  rw [qbm_h, qbm_h, qbd_h, show qw_v B (nth (row A (j : Int)) 0).str = slotIdx B (nth (row A (j : Int)) 0).str from rfl, show putB (nth (row A (j : Int)) 1).int ((2 : Int)).toNat false = bytesL (nth (row A (j : Int)) 1).int 2 from rfl]
  cases (nth (row A (j : Int)) 2).str == [] <;> simp only [cond_true, cond_false, List.append_assoc]
def qe_f4 (A B : LL) (i : Int) : (Unit) ⊕ ((LL × LL) ⊕ (LL × LL)) := (bif (decide ((qw_v B ((nth (row A i) 0).str)) < (0 : Int))) then (.inr (.inl (A, B))) else (.inl ()))
def qe_e4 (A B : LL) : (LL × LL) ⊕ (LL × LL) := .inr (A, B)
def qe_R4 (A B : LL) (i : Int) : (LL × LL) ⊕ (LL × LL) := iter (fun i a => (qe_f4 A B (i : Int))) (fun a => (qe_e4 A B)) (A.length) 0 ()
abbrev qe_4_σ := LL × LL × Int
abbrev qe_4_ω := (LL × LL) ⊕ (LL × LL)
def qe_4_step (A B : LL) (i : Int) : Tr (qe_4_σ ⊕ qe_4_ω) := (.ite ((decide (i < (A.length : Int))) = true) (.ite ((0 : Int) ≤ i ∧ i < (A.length : Int)) (.ite ((qw_c B ((nth (row A i) 0).str)) = true) (.ite ((decide ((qw_v B ((nth (row A i) 0).str)) < (0 : Int))) = true) (.ok (.inr (.inl (A, B))))
     (.ok (.inl (A, B, (IntKind.wrap .i64 (i + (1 : Int)))))))
    .no)
   .no)
  (.ok (.inr (.inr (A, B)))))
def qe_4_st : qe_4_σ → Tr (qe_4_σ ⊕ qe_4_ω) := fun x => (qe_4_step (x.1) (x.2.1) (x.2.2))
def qe_k4_1 (A B : LL) (i : Int) : Bool := sumIs (qe_R4 A B i)
def qe_o4_2 (A B : LL) (i : Int) : Bool := is (i = 0 ∧ Typed tab (.slice 48) (.l A) ∧ Typed tab (.slice 9) (.l B))
def qe_o4_3 (A B : LL) (i : Int) : Bool := is (i = 0 ∧ Typed tab (.slice 48) (.l A) ∧ Typed tab (.slice 9) (.l B))
def qe_4_fin (A B : LL) (i : Int) : Told qe_4_ω := (.br (qe_k4_1 A B i) (.leaf (qe_o4_2 A B i) (.inl (A, B))) (.leaf (qe_o4_3 A B i) (.inr (A, B))))
def qe_4_sl (x : qe_4_σ) : List Slot := [⟨.val false [⟨.slice 48, .sh, TC.l (x.1)⟩], ⟨0, 0⟩⟩, ⟨.bx 40 [⟨.slice 9, .sh, TC.l (x.2.1)⟩], ⟨0, 0⟩⟩, ⟨.val false [⟨.int .i64, .sh, TC.i (x.2.2)⟩], ⟨0, 0⟩⟩]
def qe_4_out : qe_4_ω → Ex × List Slot := (Sum.elim (fun x => (.ret, [⟨.val false [⟨.slice 48, .sh, TC.l (x.1)⟩], ⟨0, 0⟩⟩, ⟨.bx 40 [⟨.slice 9, .sh, TC.l (x.2)⟩], ⟨0, 0⟩⟩, ⟨.val false [⟨.str, .sh, TC.s []⟩], ⟨0, 0⟩⟩, ⟨.val false [⟨.bool, .sh, TC.b false⟩], ⟨0, 0⟩⟩])) (fun x => (.exit 0, [⟨.val false [⟨.slice 48, .sh, TC.l (x.1)⟩], ⟨0, 0⟩⟩, ⟨.bx 40 [⟨.slice 9, .sh, TC.l (x.2)⟩], ⟨0, 0⟩⟩, Slot.none, Slot.none])))
def qe_lo4 : List Slot → Option (Told (Ex × List Slot)) := fun s => match s with
  | [⟨.val false [⟨.slice 48, .sh, TC.l A⟩], ⟨0, 0⟩⟩, ⟨.bx 40 [⟨.slice 9, .sh, TC.l B⟩], ⟨0, 0⟩⟩, ⟨.val false [⟨.int .i64, .sh, TC.i i⟩], ⟨0, 0⟩⟩] => some (((qe_4_fin A B i)).map qe_4_out)
  | _ => .none
def qe_lo : LoopTeller := fun r s => bif Nat.beq r 4 then qe_lo4 s else .none
theorem qe_4_r (A B : LL) (i : Int) (fuel : Nat) : rounds (rnd tab FT D20 live 20 qe_lo 0 4) leave (fuel + 1) (qe_4_sl (A, B, i)) = ((qe_4_step A B i)).run (goOn (fun s => rounds (rnd tab FT D20 live 20 qe_lo 0 4) leave fuel (qe_4_sl s)) fun w => some (qe_4_out w)) := by kernel_rfl
theorem qe_f4_eq (A B : LL) (i : Int) : qe_f4 A B i = bif hasN B (row A i) then Sum.inl () else Sum.inr (Sum.inl (A, B)) := by
  unfold qe_f4 hasN
  rw [show qw_v B (nth (row A i) 0).str = slotIdx B (nth (row A i) 0).str from rfl]
  generalize decide (slotIdx B (nth (row A i) 0).str < 0) = p0
  cases p0 <;> rfl
theorem qe_R4_eq (A B : LL)  : qe_R4 A B 0 = bif allI (fun i : Nat => hasN B (row A (i : Int))) (A.length) then Sum.inr (A, B) else (Sum.inl (A, B)) := by
  unfold qe_R4
  exact (iter_all (P := (fun i : Nat => hasN B (row A (i : Int)))) (g := fun _ a => a) (w := Sum.inl (A, B)) fun j a _ => qe_f4_eq A B _)
theorem qe_4_h (A B : LL) (i : Int) (ow : qe_4_ω) : ((qe_4_fin A B i)).val = some ow → ∃ fuel, loopN qe_4_st fuel (A, B, i) = some ow := by
  refine auto_const (R := (qe_R4 A B i)) rfl (iter_onR (f := (fun i a => (qe_f4 A B (i : Int)))) (fin := (fun a => (qe_e4 A B))) (Q := endsAs (A, B) (A, B)) (fun i a => by unfold qe_f4; exact (onR_bif rfl trivial)) (fun _ => rfl) _ _ _) ?_
  intro ho
  have ho : is (i = 0 ∧ Typed tab (.slice 48) (.l A) ∧ Typed tab (.slice 9) (.l B)) = true := ho.elim id id
  obtain ⟨rfl, ht, hB⟩ := is_iff.1 ho
  have hlen : A.length ≤ 140737488351232 := by have := typed_room ht; simp only [show (tab 48).bytes = 40 from rfl] at this; omega
  refine ⟨(A.length) + 1, ?_⟩
  refine iter_loop (step := qe_4_st) (A.length) (fun i a => (qe_f4 A B (i : Int))) (fun a => (qe_e4 A B)) (fun i a => (A, B, (i : Int))) (fun _ _ => True) trivial (fun i a hi hI => ⟨?_, fun _ _ => trivial⟩) (fun a hI => ?_)
  · show (qe_4_step A B (i : Int)).val = _
    unfold qe_4_step qe_f4
    have c0 : Typed tab (.str) (.s (nth (A.getD i []) 0).str) := typed_s (typed_cell ht (A.getD i []) (mem_getD hi) 0 (by decide))
    have c2 : Typed tab (.str) (.s (nth (A.getD i []) 2).str) := typed_s (typed_cell ht (A.getD i []) (mem_getD hi) 2 (by decide))
    refine Tr.t (by simp; omega) ?_
    exact (Tr.t (by first | omega | (constructor <;> omega)) (Tr.t (by first | (first | (apply is_true; and_intros <;> (first | rfl | assumption | (apply qh_cc <;> assumption) | (apply qc_cc <;> assumption) | (apply ql_cc <;> assumption) | (apply qo_cc <;> assumption) | (first | (apply is_true; and_intros <;> (first | rfl | assumption | (apply qh_cc <;> assumption) | (apply qc_cc <;> assumption) | (apply ql_cc <;> assumption) | (apply qo_cc <;> assumption) | (first | (apply is_true; and_intros <;> (first | rfl | assumption | (apply qh_cc <;> assumption) | (apply qc_cc <;> assumption) | (apply ql_cc <;> assumption) | (apply qo_cc <;> assumption))) | (apply qh_cc <;> assumption) | (apply qc_cc <;> assumption) | (apply ql_cc <;> assumption) | (apply qo_cc <;> assumption)))) | (apply qh_cc <;> assumption) | (apply qc_cc <;> assumption) | (apply ql_cc <;> assumption) | (apply qo_cc <;> assumption)))) | (apply qh_cc <;> assumption) | (apply qc_cc <;> assumption) | (apply ql_cc <;> assumption) | (apply qo_cc <;> assumption))) (Tr.bf rfl (by rw [Tr.val_ok, wrap64 (i := (i : Int) + 1) (by omega) (by omega)]; rfl))))
  · show (qe_4_step A B (A.length : Int)).val = _
    refine Tr.n (by first | (simp; done) | (simp; omega) | omega) ?_
    rfl
theorem qe_is4 : LoopIs tab FT D20 live 20 qe_lo 0 4 := by
  refine loop_told (sl := qe_4_sl) (step := qe_4_st) (out := qe_4_out) (lor := qe_lo4) (fin := fun x => (qe_4_fin (x.1) (x.2.1) (x.2.2))) (fun _ => rfl) ?_ (fun x n => qe_4_r x.1 x.2.1 x.2.2 n) (fun x ow => qe_4_h x.1 x.2.1 x.2.2 ow)
  intro s t h
  unfold qe_lo4 at h
  split at h
  · cases h; exact ⟨(_, _, _), rfl, rfl⟩
  · cases h
def qe_t (A B : LL) : Tr (BS × Bool) := (.ite ((ql_c A) = true) (.ite ((!(ql_v A)) = true) (.ok ([], false))
   (.ite ((qo_c B) = true) (.ite ((!(qo_v B)) = true) (.ok ([], false))
     (.ite ((qbb_c B) = true) (.ite ((!((qbb_v B) == (A.length : Int))) = true) (.ok ([], false))
       (.ite ((qe_k4_1 A B (0 : Int)) = true) (.ite ((qe_o4_2 A B (0 : Int)) = true) (.ok ([], false))
         .no)
        (.ite ((qe_o4_3 A B (0 : Int)) = true) (.ite ((qj_c A B) = true) (.ok ((qj_v A B), true))
          .no)
         .no)))
      .no))
    .no))
  .no)
def qe_mk (p : BS × Bool) : Res := [(false, [⟨.str, .sh, TC.s (p.1)⟩]), (false, [⟨.bool, .sh, TC.b (p.2)⟩])]
def qe_c (A B : LL) : Bool := ((ql_c A) && (bif (!(ql_v A)) then true else ((qo_c B) && (bif (!(qo_v B)) then true else ((qbb_c B) && (bif (!((qbb_v B) == (A.length : Int))) then true else (bif (qe_k4_1 A B (0 : Int)) then ((qe_o4_2 A B (0 : Int)) && true) else ((qe_o4_3 A B (0 : Int)) && ((qj_c A B) && true)))))))))
def qe_v (A B : LL) : BS × Bool := (bif (!(ql_v A)) then ([], false) else (bif (!(qo_v B)) then ([], false) else (bif (!((qbb_v B) == (A.length : Int))) then ([], false) else (bif (qe_k4_1 A B (0 : Int)) then ([], false) else ((qj_v A B), true)))))
theorem qe_l (A B : LL) : (qe_c A B) = true → (qe_t A B).val = some (qe_v A B) := by
  unfold qe_t qe_v qe_c
  exact fun h => (Tr.gb h fun h => (Tr.ss h (fun h => rfl) (fun h => (Tr.gb h fun h => (Tr.ss h (fun h => rfl) (fun h => (Tr.gb h fun h => (Tr.ss h (fun h => rfl) (fun h => (Tr.ss h (fun h => (Tr.gb h fun h => rfl)) (fun h => (Tr.gb h fun h => (Tr.gb h fun h => rfl)))))))))))))
def qe_S : List Arg → Option (Bool × Res) := fun xs => match xs with
  | [(false, [(.slice 48, TC.l A)]), (true, [(.slice 9, TC.l B)])] => some ((qe_c A B), qe_mk (qe_v A B))
  | _ => .none
theorem qe_e (A B : LL) : runF tab FT D20 live 20 qe_lo [(false, [(.slice 48, TC.l A)]), (true, [(.slice 9, TC.l B)])] = (qe_t A B).run fun p => some (qe_mk p) := by kernel_rfl
theorem qe_s : ∀ xs r, qe_S xs = some (true, r) → runF tab FT D20 live 20 qe_lo xs = some r := by
  intro xs r h
  unfold qe_S at h
  split at h
  · obtain ⟨h1, rfl⟩ := sp h
    exact fun_told (qe_e ..) (qe_l _ _) h1
  · cases h
def D21 : Dt := also D20 20 qe_S
theorem d21 : DOk Go.Proofs.Tryd.prog tab D21 := d20.also mixed_ok tab_ok names_ok (fnLoops_one (by kernel_rfl) qe_is4) qe_s
theorem qe_cc {A : LL} {B : LL} (hA : Typed tab (.slice 48) (.l A)) (hP : PathsOk A) (hB : Typed tab (.slice 9) (.l B)) : (qe_c A B) = true := by
  unfold qe_c
  refine andT (by exact ql_cc hA hP) ?_
  refine bifT (fun b1 => ?_) (fun b1 => ?_)
  · skip
    rfl
  · skip
    refine andT (by exact qo_cc hB) ?_
    refine bifT (fun b2 => ?_) (fun b2 => ?_)
    · skip
      rfl
    · skip
      refine andT (by exact is_true ⟨rfl, rfl, hB⟩) ?_
      refine bifT (fun b3 => ?_) (fun b3 => ?_)
      · skip
        rfl
      · skip
        refine bifT (fun b4 => ?_) (fun b4 => ?_)
        · skip
          refine andT (by exact is_true ⟨rfl, hA, hB⟩) ?_
          rfl
        · skip
          refine andT (by exact is_true ⟨rfl, hA, hB⟩) ?_
          refine andT (by exact qj_cc hA hP hB (linksB_len ((ql_vv _).symm.trans (notF b1)))) ?_
          rfl
theorem qe_vv (A B : LL) : qe_v A B = encLV A B := by
  unfold qe_v
  rw [ql_vv, qo_vv, qj_vv, show qe_k4_1 A B (0 : Int) = sumIs (qe_R4 A B 0) from rfl, qe_R4_eq, show ((qbb_v B) == (A.length : Int)) = decide (cntE B = A.length) from by
    show (((cntE B : Nat) : Int) == (A.length : Int)) = _
    rw [Bool.eq_iff_iff]; simp only [beq_iff_eq, decide_eq_true_eq]; omega]
  unfold encLV encLB allN
  generalize linksB A = p1, heapOk B = p2, decide (cntE B = A.length) = p3, allI (fun i : Nat => hasN B (row A (i : Int))) A.length = p4
  cases p1 <;> cases p2 <;> cases p3 <;> cases p4 <;> rfl
def qm_f2 (s : BS) (m i : Int) : (Unit) ⊕ ((BS) ⊕ (BS)) := (bif (decide (((s.getD (i).toNat 0).toNat : Int) ≥ (65 : Int))) then (bif (decide (((s.getD (i).toNat 0).toNat : Int) ≤ (90 : Int))) then (.inl ()) else (bif (decide (((s.getD (i).toNat 0).toNat : Int) ≥ (97 : Int))) then (bif (!(decide (((s.getD (i).toNat 0).toNat : Int) ≤ (122 : Int)))) then (bif (i == (0 : Int)) then (.inr (.inl s)) else (bif (decide (((s.getD (i).toNat 0).toNat : Int) < (48 : Int))) then (bif (!(((s.getD (i).toNat 0).toNat : Int) == (95 : Int))) then (.inr (.inl s)) else (.inl ())) else (bif (decide (((s.getD (i).toNat 0).toNat : Int) > (57 : Int))) then (bif (!(((s.getD (i).toNat 0).toNat : Int) == (95 : Int))) then (.inr (.inl s)) else (.inl ())) else (.inl ())))) else (.inl ())) else (bif (i == (0 : Int)) then (.inr (.inl s)) else (bif (decide (((s.getD (i).toNat 0).toNat : Int) < (48 : Int))) then (bif (!(((s.getD (i).toNat 0).toNat : Int) == (95 : Int))) then (.inr (.inl s)) else (.inl ())) else (bif (decide (((s.getD (i).toNat 0).toNat : Int) > (57 : Int))) then (bif (!(((s.getD (i).toNat 0).toNat : Int) == (95 : Int))) then (.inr (.inl s)) else (.inl ())) else (.inl ())))))) else (bif (decide (((s.getD (i).toNat 0).toNat : Int) ≥ (97 : Int))) then (bif (!(decide (((s.getD (i).toNat 0).toNat : Int) ≤ (122 : Int)))) then (bif (i == (0 : Int)) then (.inr (.inl s)) else (bif (decide (((s.getD (i).toNat 0).toNat : Int) < (48 : Int))) then (bif (!(((s.getD (i).toNat 0).toNat : Int) == (95 : Int))) then (.inr (.inl s)) else (.inl ())) else (bif (decide (((s.getD (i).toNat 0).toNat : Int) > (57 : Int))) then (bif (!(((s.getD (i).toNat 0).toNat : Int) == (95 : Int))) then (.inr (.inl s)) else (.inl ())) else (.inl ())))) else (.inl ())) else (bif (i == (0 : Int)) then (.inr (.inl s)) else (bif (decide (((s.getD (i).toNat 0).toNat : Int) < (48 : Int))) then (bif (!(((s.getD (i).toNat 0).toNat : Int) == (95 : Int))) then (.inr (.inl s)) else (.inl ())) else (bif (decide (((s.getD (i).toNat 0).toNat : Int) > (57 : Int))) then (bif (!(((s.getD (i).toNat 0).toNat : Int) == (95 : Int))) then (.inr (.inl s)) else (.inl ())) else (.inl ()))))))
def qm_e2 (s : BS) (m : Int) : (BS) ⊕ (BS) := .inr s
def qm_R2 (s : BS) (m i : Int) : (BS) ⊕ (BS) := iter (fun i a => (qm_f2 s m (i : Int))) (fun a => (qm_e2 s m)) (s.length) 0 ()
abbrev qm_2_σ := BS × Int × Int
abbrev qm_2_ω := (BS) ⊕ (BS)
def qm_2_step (s : BS) (m i : Int) : Tr (qm_2_σ ⊕ qm_2_ω) := (.ite ((decide (i < m)) = true) (.ite ((0 : Int) ≤ i ∧ i < (s.length : Int)) (.ite ((decide (((s.getD (i).toNat 0).toNat : Int) ≥ (65 : Int))) = true) (.ite ((decide (((s.getD (i).toNat 0).toNat : Int) ≤ (90 : Int))) = true) (.ok (.inl (s, m, (IntKind.wrap .i64 (i + (1 : Int))))))
     (.ite ((decide (((s.getD (i).toNat 0).toNat : Int) ≥ (97 : Int))) = true) (.ite ((!(decide (((s.getD (i).toNat 0).toNat : Int) ≤ (122 : Int)))) = true) (.ite ((i == (0 : Int)) = true) (.ok (.inr (.inl s)))
        (.ite ((decide (((s.getD (i).toNat 0).toNat : Int) < (48 : Int))) = true) (.ite ((!(((s.getD (i).toNat 0).toNat : Int) == (95 : Int))) = true) (.ok (.inr (.inl s)))
          (.ok (.inl (s, m, (IntKind.wrap .i64 (i + (1 : Int)))))))
         (.ite ((decide (((s.getD (i).toNat 0).toNat : Int) > (57 : Int))) = true) (.ite ((!(((s.getD (i).toNat 0).toNat : Int) == (95 : Int))) = true) (.ok (.inr (.inl s)))
           (.ok (.inl (s, m, (IntKind.wrap .i64 (i + (1 : Int)))))))
          (.ok (.inl (s, m, (IntKind.wrap .i64 (i + (1 : Int)))))))))
       (.ok (.inl (s, m, (IntKind.wrap .i64 (i + (1 : Int)))))))
      (.ite ((i == (0 : Int)) = true) (.ok (.inr (.inl s)))
       (.ite ((decide (((s.getD (i).toNat 0).toNat : Int) < (48 : Int))) = true) (.ite ((!(((s.getD (i).toNat 0).toNat : Int) == (95 : Int))) = true) (.ok (.inr (.inl s)))
         (.ok (.inl (s, m, (IntKind.wrap .i64 (i + (1 : Int)))))))
        (.ite ((decide (((s.getD (i).toNat 0).toNat : Int) > (57 : Int))) = true) (.ite ((!(((s.getD (i).toNat 0).toNat : Int) == (95 : Int))) = true) (.ok (.inr (.inl s)))
          (.ok (.inl (s, m, (IntKind.wrap .i64 (i + (1 : Int)))))))
         (.ok (.inl (s, m, (IntKind.wrap .i64 (i + (1 : Int)))))))))))
    (.ite ((decide (((s.getD (i).toNat 0).toNat : Int) ≥ (97 : Int))) = true) (.ite ((!(decide (((s.getD (i).toNat 0).toNat : Int) ≤ (122 : Int)))) = true) (.ite ((i == (0 : Int)) = true) (.ok (.inr (.inl s)))
       (.ite ((decide (((s.getD (i).toNat 0).toNat : Int) < (48 : Int))) = true) (.ite ((!(((s.getD (i).toNat 0).toNat : Int) == (95 : Int))) = true) (.ok (.inr (.inl s)))
         (.ok (.inl (s, m, (IntKind.wrap .i64 (i + (1 : Int)))))))
        (.ite ((decide (((s.getD (i).toNat 0).toNat : Int) > (57 : Int))) = true) (.ite ((!(((s.getD (i).toNat 0).toNat : Int) == (95 : Int))) = true) (.ok (.inr (.inl s)))
          (.ok (.inl (s, m, (IntKind.wrap .i64 (i + (1 : Int)))))))
         (.ok (.inl (s, m, (IntKind.wrap .i64 (i + (1 : Int)))))))))
      (.ok (.inl (s, m, (IntKind.wrap .i64 (i + (1 : Int)))))))
     (.ite ((i == (0 : Int)) = true) (.ok (.inr (.inl s)))
      (.ite ((decide (((s.getD (i).toNat 0).toNat : Int) < (48 : Int))) = true) (.ite ((!(((s.getD (i).toNat 0).toNat : Int) == (95 : Int))) = true) (.ok (.inr (.inl s)))
        (.ok (.inl (s, m, (IntKind.wrap .i64 (i + (1 : Int)))))))
       (.ite ((decide (((s.getD (i).toNat 0).toNat : Int) > (57 : Int))) = true) (.ite ((!(((s.getD (i).toNat 0).toNat : Int) == (95 : Int))) = true) (.ok (.inr (.inl s)))
         (.ok (.inl (s, m, (IntKind.wrap .i64 (i + (1 : Int)))))))
        (.ok (.inl (s, m, (IntKind.wrap .i64 (i + (1 : Int)))))))))))
   .no)
  (.ok (.inr (.inr s))))
def qm_2_st : qm_2_σ → Tr (qm_2_σ ⊕ qm_2_ω) := fun x => (qm_2_step (x.1) (x.2.1) (x.2.2))
def qm_k2_1 (s : BS) (m i : Int) : Bool := sumIs (qm_R2 s m i)
def qm_o2_2 (s : BS) (m i : Int) : Bool := is (i = 0 ∧ s.length ≤ 140737488355328 ∧ m = (s.length : Int))
def qm_o2_3 (s : BS) (m i : Int) : Bool := is (i = 0 ∧ s.length ≤ 140737488355328 ∧ m = (s.length : Int))
def qm_2_fin (s : BS) (m i : Int) : Told qm_2_ω := (.br (qm_k2_1 s m i) (.leaf (qm_o2_2 s m i) (.inl s)) (.leaf (qm_o2_3 s m i) (.inr s)))
def qm_2_sl (x : qm_2_σ) : List Slot := [⟨.val false [⟨.str, .sh, TC.s (x.1)⟩], ⟨0, 0⟩⟩, ⟨.val false [⟨.int .i64, .sh, TC.i (x.2.1)⟩], ⟨0, 0⟩⟩, ⟨.val false [⟨.int .i64, .sh, TC.i (x.2.2)⟩], ⟨0, 0⟩⟩]
def qm_2_out : qm_2_ω → Ex × List Slot := (Sum.elim (fun x => (.ret, [⟨.val false [⟨.str, .sh, TC.s x⟩], ⟨0, 0⟩⟩, ⟨.val false [⟨.bool, .sh, TC.b false⟩], ⟨0, 0⟩⟩])) (fun x => (.exit 0, [⟨.val false [⟨.str, .sh, TC.s x⟩], ⟨0, 0⟩⟩, Slot.none])))
def qm_lo2 : List Slot → Option (Told (Ex × List Slot)) := fun s => match s with
  | [⟨.val false [⟨.str, .sh, TC.s s⟩], ⟨0, 0⟩⟩, ⟨.val false [⟨.int .i64, .sh, TC.i m⟩], ⟨0, 0⟩⟩, ⟨.val false [⟨.int .i64, .sh, TC.i i⟩], ⟨0, 0⟩⟩] => some (((qm_2_fin s m i)).map qm_2_out)
  | _ => .none
def qm_lo : LoopTeller := fun r s => bif Nat.beq r 2 then qm_lo2 s else .none
theorem qm_2_r (s : BS) (m i : Int) (fuel : Nat) : rounds (rnd tab FT D21 live 45 qm_lo 0 2) leave (fuel + 1) (qm_2_sl (s, m, i)) = ((qm_2_step s m i)).run (goOn (fun s => rounds (rnd tab FT D21 live 45 qm_lo 0 2) leave fuel (qm_2_sl s)) fun w => some (qm_2_out w)) := by kernel_rfl
theorem qm_f2_eq (s : BS) (m i : Int) : qm_f2 s m i = bif nameB i ((s.getD (i).toNat 0).toNat : Int) then Sum.inl () else Sum.inr (Sum.inl s) := by
  unfold qm_f2 nameB letterB
  simp only [dlt, dgt]
  generalize ((s.getD i.toNat 0).toNat : Int) = c
  generalize decide (c ≥ 65) = p0, decide (c ≤ 90) = p1, decide (c ≥ 97) = p2, decide (c ≤ 122) = p3, decide (c ≥ 48) = p4, decide (c ≤ 57) = p5, (c == 95) = p6, (i == 0) = p7
  cases p0 <;> cases p1 <;> cases p2 <;> cases p3 <;> cases p4 <;> cases p5 <;> cases p6 <;> cases p7 <;> rfl
theorem qm_R2_eq (s : BS) (m : Int)  : qm_R2 s m 0 = bif allI (fun i : Nat => nameB (i : Int) ((s.getD ((i : Int)).toNat 0).toNat : Int)) (s.length) then Sum.inr s else (Sum.inl s) := by
  unfold qm_R2
  exact (iter_all (P := (fun i : Nat => nameB (i : Int) ((s.getD ((i : Int)).toNat 0).toNat : Int))) (g := fun _ a => a) (w := Sum.inl s) fun j a _ => qm_f2_eq s m _)
theorem qm_2_h (s : BS) (m i : Int) (ow : qm_2_ω) : ((qm_2_fin s m i)).val = some ow → ∃ fuel, loopN qm_2_st fuel (s, m, i) = some ow := by
  refine auto_const (R := (qm_R2 s m i)) rfl (iter_onR (f := (fun i a => (qm_f2 s m (i : Int)))) (fin := (fun a => (qm_e2 s m))) (Q := endsAs s s) (fun i a => by unfold qm_f2; exact (onR_bif (onR_bif trivial (onR_bif (onR_bif (onR_bif rfl (onR_bif (onR_bif rfl trivial) (onR_bif (onR_bif rfl trivial) trivial))) trivial) (onR_bif rfl (onR_bif (onR_bif rfl trivial) (onR_bif (onR_bif rfl trivial) trivial))))) (onR_bif (onR_bif (onR_bif rfl (onR_bif (onR_bif rfl trivial) (onR_bif (onR_bif rfl trivial) trivial))) trivial) (onR_bif rfl (onR_bif (onR_bif rfl trivial) (onR_bif (onR_bif rfl trivial) trivial)))))) (fun _ => rfl) _ _ _) ?_
  intro ho
  have ho : is (i = 0 ∧ s.length ≤ 140737488355328 ∧ m = (s.length : Int)) = true := ho.elim id id
  obtain ⟨rfl, hs, rfl⟩ := is_iff.1 ho
  skip
  refine ⟨(s.length) + 1, ?_⟩
  refine iter_loop (step := qm_2_st) (s.length) (fun i a => (qm_f2 s (s.length : Int) (i : Int))) (fun a => (qm_e2 s (s.length : Int))) (fun i a => (s, (s.length : Int), (i : Int))) (fun _ _ => True) trivial (fun i a hi hI => ⟨?_, fun _ _ => trivial⟩) (fun a hI => ?_)
  · show (qm_2_step s (s.length : Int) (i : Int)).val = _
    unfold qm_2_step qm_f2
    skip
    refine Tr.t (by simp; omega) ?_
    exact (Tr.t (by first | omega | (constructor <;> omega)) (Tr.bf (Tr.bf (by rw [Tr.val_ok, wrap64 (i := (i : Int) + 1) (by omega) (by omega)]; rfl) (Tr.bf (Tr.bf (Tr.bf rfl (Tr.bf (Tr.bf rfl (by rw [Tr.val_ok, wrap64 (i := (i : Int) + 1) (by omega) (by omega)]; rfl)) (Tr.bf (Tr.bf rfl (by rw [Tr.val_ok, wrap64 (i := (i : Int) + 1) (by omega) (by omega)]; rfl)) (by rw [Tr.val_ok, wrap64 (i := (i : Int) + 1) (by omega) (by omega)]; rfl)))) (by rw [Tr.val_ok, wrap64 (i := (i : Int) + 1) (by omega) (by omega)]; rfl)) (Tr.bf rfl (Tr.bf (Tr.bf rfl (by rw [Tr.val_ok, wrap64 (i := (i : Int) + 1) (by omega) (by omega)]; rfl)) (Tr.bf (Tr.bf rfl (by rw [Tr.val_ok, wrap64 (i := (i : Int) + 1) (by omega) (by omega)]; rfl)) (by rw [Tr.val_ok, wrap64 (i := (i : Int) + 1) (by omega) (by omega)]; rfl)))))) (Tr.bf (Tr.bf (Tr.bf rfl (Tr.bf (Tr.bf rfl (by rw [Tr.val_ok, wrap64 (i := (i : Int) + 1) (by omega) (by omega)]; rfl)) (Tr.bf (Tr.bf rfl (by rw [Tr.val_ok, wrap64 (i := (i : Int) + 1) (by omega) (by omega)]; rfl)) (by rw [Tr.val_ok, wrap64 (i := (i : Int) + 1) (by omega) (by omega)]; rfl)))) (by rw [Tr.val_ok, wrap64 (i := (i : Int) + 1) (by omega) (by omega)]; rfl)) (Tr.bf rfl (Tr.bf (Tr.bf rfl (by rw [Tr.val_ok, wrap64 (i := (i : Int) + 1) (by omega) (by omega)]; rfl)) (Tr.bf (Tr.bf rfl (by rw [Tr.val_ok, wrap64 (i := (i : Int) + 1) (by omega) (by omega)]; rfl)) (by rw [Tr.val_ok, wrap64 (i := (i : Int) + 1) (by omega) (by omega)]; rfl)))))))
  · show (qm_2_step s (s.length : Int) (s.length : Int)).val = _
    refine Tr.n (by first | (simp; done) | (simp; omega) | omega) ?_
    rfl
theorem qm_is2 : LoopIs tab FT D21 live 45 qm_lo 0 2 := by
  refine loop_told (sl := qm_2_sl) (step := qm_2_st) (out := qm_2_out) (lor := qm_lo2) (fin := fun x => (qm_2_fin (x.1) (x.2.1) (x.2.2))) (fun _ => rfl) ?_ (fun x n => qm_2_r x.1 x.2.1 x.2.2 n) (fun x ow => qm_2_h x.1 x.2.1 x.2.2 ow)
  intro s t h
  unfold qm_lo2 at h
  split at h
  · cases h; exact ⟨(_, _, _), rfl, rfl⟩
  · cases h
def qm_t (s : BS) : Tr (Bool) := (.ite ((qm_k2_1 s (s.length : Int) (0 : Int)) = true) (.ite ((qm_o2_2 s (s.length : Int) (0 : Int)) = true) (.ok false)
   .no)
  (.ite ((qm_o2_3 s (s.length : Int) (0 : Int)) = true) (.ite ((decide ((s.length : Int) ≥ (1 : Int))) = true) (.ok (decide ((s.length : Int) ≤ (12 : Int))))
    (.ok false))
   .no))
def qm_mk (p : Bool) : Res := [(false, [⟨.bool, .sh, TC.b p⟩])]
def qm_c (s : BS) : Bool := (bif (qm_k2_1 s (s.length : Int) (0 : Int)) then ((qm_o2_2 s (s.length : Int) (0 : Int)) && true) else ((qm_o2_3 s (s.length : Int) (0 : Int)) && (bif (decide ((s.length : Int) ≥ (1 : Int))) then true else true)))
def qm_v (s : BS) : Bool := (bif (qm_k2_1 s (s.length : Int) (0 : Int)) then false else (bif (decide ((s.length : Int) ≥ (1 : Int))) then (decide ((s.length : Int) ≤ (12 : Int))) else false))
theorem qm_l (s : BS) : (qm_c s) = true → (qm_t s).val = some (qm_v s) := by
  unfold qm_t qm_v qm_c
  exact fun h => (Tr.ss h (fun h => (Tr.gb h fun h => rfl)) (fun h => (Tr.gb h fun h => (Tr.ss h (fun h => rfl) (fun h => rfl)))))
def qm_S : List Arg → Option (Bool × Res) := fun xs => match xs with
  | [(false, [(.str, TC.s s)])] => some ((qm_c s), qm_mk (qm_v s))
  | _ => .none
theorem qm_e (s : BS) : runF tab FT D21 live 45 qm_lo [(false, [(.str, TC.s s)])] = (qm_t s).run fun p => some (qm_mk p) := by kernel_rfl
theorem qm_s : ∀ xs r, qm_S xs = some (true, r) → runF tab FT D21 live 45 qm_lo xs = some r := by
  intro xs r h
  unfold qm_S at h
  split at h
  · obtain ⟨h1, rfl⟩ := sp h
    exact fun_told (qm_e _) (qm_l _) h1
  · cases h
def D22 : Dt := also D21 45 qm_S
theorem d22 : DOk Go.Proofs.Tryd.prog tab D22 := d21.also mixed_ok tab_ok names_ok (fnLoops_one (by kernel_rfl) qm_is2) qm_s
theorem qm_cc {s : BS} (hs : Typed tab (.str) (.s s)) : (qm_c s) = true := by
  unfold qm_c
  refine bifT (fun b1 => ?_) (fun b1 => ?_)
  · skip
    refine andT (by exact is_true ⟨rfl, by have := typed_str_len hs; omega, rfl⟩) ?_
    rfl
  · skip
    refine andT (by exact is_true ⟨rfl, by have := typed_str_len hs; omega, rfl⟩) ?_
    refine bifT (fun b2 => ?_) (fun b2 => ?_)
    · skip
      rfl
    · skip
      rfl
theorem qm_vv (s : BS) : qm_v s = nameOk s := by
  unfold qm_v qm_k2_1 nameOk
  rw [qm_R2_eq]
  generalize allI (fun i : Nat => nameB (i : Int) ((s.getD ((i : Int)).toNat 0).toNat : Int)) s.length = q
  cases q
  · simp [sumIs]
  · show (bif decide ((s.length : Int) ≥ 1) then decide ((s.length : Int) ≤ 12) else false) = (decide ((s.length : Int) ≥ 1) && decide ((s.length : Int) ≤ 12) && true)
    generalize decide ((s.length : Int) ≥ 1) = q1, decide ((s.length : Int) ≤ 12) = q2
    cases q1 <;> cases q2 <;> rfl
def qbv_t (a0 a1 a2 : Int) : Tr (Bool) := (.ite ((decide (a0 ≥ a1)) = true) (.ok (decide (a0 ≤ a2)))
  (.ok false))
def qbv_mk (p : Bool) : Res := [(false, [⟨.bool, .sh, TC.b p⟩])]
def qbv_c (a0 a1 a2 : Int) : Bool := true
def qbv_v (a0 a1 a2 : Int) : Bool := (bif (decide (a0 ≥ a1)) then (decide (a0 ≤ a2)) else false)
theorem qbv_l (a0 a1 a2 : Int) : (qbv_c a0 a1 a2) = true → (qbv_t a0 a1 a2).val = some (qbv_v a0 a1 a2) := by
  intro h
  skip
  unfold qbv_t qbv_v
  exact (Tr.s rfl rfl)
def qbv_S : List Arg → Option (Bool × Res) := fun xs => match xs with
  | [(false, [(.int .i64, TC.i a0)]), (false, [(.int .i64, TC.i a1)]), (false, [(.int .i64, TC.i a2)])] => some (true, qbv_mk (qbv_v a0 a1 a2))
  | _ => .none
theorem qbv_e (a0 a1 a2 : Int) : runF tab FT D22 live 47 noLoops [(false, [(.int .i64, TC.i a0)]), (false, [(.int .i64, TC.i a1)]), (false, [(.int .i64, TC.i a2)])] = (qbv_t a0 a1 a2).run fun p => some (qbv_mk p) := by kernel_rfl
theorem qbv_s : ∀ xs r, qbv_S xs = some (true, r) → runF tab FT D22 live 47 noLoops xs = some r := by
  intro xs r h
  unfold qbv_S at h
  split at h
  · obtain ⟨h1, rfl⟩ := sp h
    exact fun_told (qbv_e ..) (qbv_l _ _ _) rfl
  · cases h
end
end Go.Proofs.YthhmamgpcojooaaDoor.V
