/- What the functions of FnExactValidLinks answer. No condition. -/
import Derived.Test.YthhmamgpcojooaaDoorVFacts
namespace Go.Proofs.YthhmamgpcojooaaDoor.V
open Go
set_option maxRecDepth 100000
set_option linter.unusedVariables false
set_option linter.unusedSectionVars false
set_option linter.unusedSimpArgs false
set_option maxHeartbeats 2000000
noncomputable section
abbrev LL := List (List TC)
abbrev BS := List UInt8
theorem sp {α β : Type} {a b : α} {c d : β} (h : some (a, c) = some (b, d)) : a = b ∧ c = d := by cases h; exact ⟨rfl, rfl⟩
def letterB (c : Int) : Bool := (decide (c ≥ 65) && decide (c ≤ 90)) || (decide (c ≥ 97) && decide (c ≤ 122))
def nameB (i c : Int) : Bool := letterB c || (!(i == 0) && ((decide (c ≥ 48) && decide (c ≤ 57)) || c == 95))
def nameOk (s : BS) : Bool := decide ((s.length : Int) ≥ 1) && decide ((s.length : Int) ≤ 12) && allI (fun i : Nat => nameB (i : Int) ((s.getD ((i : Int)).toNat 0).toNat : Int)) s.length
theorem dlt {a b : Int} : decide (a < b) = !decide (a ≥ b) := by rw [← decide_not]; simp
theorem dgt {a b : Int} : decide (a > b) = !decide (a ≤ b) := by rw [← decide_not]; simp
def hdl (p : BS) : List (BS) → List (BS)
  | [] => [p]
  | x :: y => (p ++ x) :: y
def pcs : BS → List (BS)
  | [] => [[]]
  | b :: l => bif b == 47 then [] :: pcs l else hdl [b] (pcs l)
theorem hdl_ne {p : BS} {L : List (BS)} : hdl p L ≠ [] := by cases L <;> simp [hdl]
theorem pcs_cons (b : UInt8) (l : BS) : pcs (b :: l) = bif b == 47 then [] :: pcs l else hdl [b] (pcs l) := rfl
theorem pcs_ne (l : BS) : pcs l ≠ [] := by
  cases l with
  | nil => simp [pcs]
  | cons b l =>
    unfold pcs
    cases b == 47
    · exact hdl_ne
    · simp
theorem hdl_hdl {p q : BS} {L : List (BS)} : hdl p (hdl q L) = hdl (p ++ q) L := by cases L <;> simp [hdl]
theorem hdl_nil {L : List (BS)} (h : L ≠ []) : hdl [] L = L := by
  cases L with
  | nil => exact absurd rfl h
  | cons => rfl
theorem index_cons47 (b : UInt8) (l : BS) : Lib.index (b :: l) [47] = if b == 47 then 0 else if Lib.index l [47] == -1 then -1 else Lib.index l [47] + 1 := by
  conv => lhs; unfold Lib.index
  have e : ([47].isPrefixOf (b :: l)) = (b == 47) := by
    simp [List.isPrefixOf, Bool.beq_comm]
  rw [e]
theorem split_pcs : ∀ t : BS, Lib.split t [47] = pcs t
  | [] => rfl
  | b :: l => by
    have ih := split_pcs l
    have hi := index_cons47 b l
    unfold pcs
    rw [← ih]
    cases hb : b == 47 with
    | true =>
      rw [hb, if_pos rfl] at hi
      have hc := Lib.count_hit (i := 0) (sub := [47]) (by simp) hi
      unfold Lib.split
      rw [hc, Nat.add_comm 1, Lib.splitK, if_neg (by rw [hi]; decide), hi]
      rfl
    | false =>
      rw [hb, if_neg (by simp)] at hi
      by_cases hn : Lib.index l [47] = -1
      · rw [if_pos (by rw [hn]; rfl)] at hi
        unfold Lib.split
        rw [Lib.count_miss hi, Lib.count_miss hn]
        rfl
      · have hg := Lib.index_ge l [47]
        obtain ⟨i, hl⟩ : ∃ i : Nat, Lib.index l [47] = i := ⟨(Lib.index l [47]).toNat, by omega⟩
        rw [if_neg (by simpa using hn), hl] at hi
        have hi' : Lib.index (b :: l) [47] = ((i + 1 : Nat) : Int) := by rw [hi]; omega
        have c1 := Lib.count_hit (sub := [47]) (by simp) hi'
        have c2 := Lib.count_hit (sub := [47]) (by simp) hl
        have e : (b :: l).drop (i + 1 + ([47] : BS).length) = l.drop (i + ([47] : BS).length) := by
          show (b :: l).drop (i + 1 + 1) = l.drop (i + 1)
          rfl
        unfold Lib.split
        rw [c1, e, c2, Nat.add_comm 1, Lib.splitK, Lib.splitK, if_neg (by rw [hi']; intro h; have := eq_of_beq h; omega), if_neg (by rw [hl]; intro h; have := eq_of_beq h; omega), hi', hl, Int.toNat_natCast, Int.toNat_natCast, e]
        rfl
def rowsS (L : List (BS)) : LL := L.map fun x => [TC.s x]
theorem splL_slash (t : BS) : splL t [47] = rowsS (pcs t) := by unfold splL; rw [split_pcs]; rfl
def piece (s : BS) (f i : Nat) : BS := (s.take i).drop f
theorem piece_snoc {s : BS} {f i : Nat} (hf : f ≤ i) (hi : i < s.length) : piece s f (i + 1) = piece s f i ++ [s[i]] := by
  unfold piece
  rw [List.take_succ_eq_append_getElem hi, List.drop_append_of_le_length (by rw [List.length_take]; omega)]
theorem piece_self {s : BS} {i : Nat} : piece s i i = [] := by
  unfold piece
  exact List.drop_eq_nil_of_le (by rw [List.length_take]; omega)
theorem loopN_pieces {ω : Type} (s : BS) (y : LL → ω) (z : LL → ω) {step : (BS × LL × Int × Int) → Tr ((BS × LL × Int × Int) ⊕ ω)}
    (h1 : ∀ (f i : Nat) (o : LL) (hi : i < s.length), s[i] ≠ 47 → (step (s, o, (f : Int), (i : Int))).val = some (.inl (s, o, (f : Int), ((i + 1 : Nat) : Int))))
    (h2 : ∀ (f i : Nat) (o : LL), f ≤ i → i ≤ s.length → o.length ≤ i → (∀ hi : i < s.length, s[i] = 47) → nameOk (piece s f i) = true → (step (s, o, (f : Int), (i : Int))).val = some (.inl (s, o ++ [[TC.s (piece s f i)]], ((i + 1 : Nat) : Int), ((i + 1 : Nat) : Int))))
    (h3 : ∀ (f i : Nat) (o : LL), f ≤ i → i ≤ s.length → (∀ hi : i < s.length, s[i] = 47) → nameOk (piece s f i) = false → (step (s, o, (f : Int), (i : Int))).val = some (.inr (z o)))
    (h4 : ∀ (f : Nat) (o : LL), (step (s, o, (f : Int), ((s.length + 1 : Nat) : Int))).val = some (.inr (y o))) :
    ∀ (m f i : Nat) (o : LL), f ≤ i → i + m = s.length → o.length ≤ i → ∃ M, loopN step M (s, o, (f : Int), (i : Int)) = some (bif (hdl (piece s f i) (pcs (s.drop i))).all nameOk then y (o ++ rowsS (hdl (piece s f i) (pcs (s.drop i)))) else z (o ++ rowsS ((hdl (piece s f i) (pcs (s.drop i))).takeWhile nameOk)))
  | 0, f, i, o, hf, hm, ho => by
    have e0 : s.drop i = [] := List.drop_eq_nil_of_le (by omega)
    have e1 : hdl (piece s f i) (pcs (s.drop i)) = [piece s f i] := by rw [e0]; simp [pcs, hdl]
    rw [e1]
    cases hk : nameOk (piece s f i) with
    | true =>
      refine ⟨2, ?_⟩
      have a := h2 f i o hf (by omega) ho (fun hi => absurd hi (by omega)) hk
      rw [loopN_next a, show i + 1 = s.length + 1 by omega, loopN_end (h4 _ _)]
      simp [hk, rowsS]
    | false =>
      refine ⟨1, ?_⟩
      rw [loopN_end (h3 f i o hf (by omega) (fun hi => absurd hi (by omega)) hk)]
      simp [hk, rowsS]
  | m + 1, f, i, o, hf, hm, ho => by
    have hi : i < s.length := by omega
    have e0 : s.drop i = s[i] :: s.drop (i + 1) := List.drop_eq_getElem_cons hi
    by_cases hc : s[i] = 47
    · have e1 : hdl (piece s f i) (pcs (s.drop i)) = piece s f i :: pcs (s.drop (i + 1)) := by
        rw [e0, pcs_cons, hc]
        simp [hdl]
      rw [e1]
      cases hk : nameOk (piece s f i) with
      | true =>
        obtain ⟨M, ih⟩ := loopN_pieces s y z h1 h2 h3 h4 m (i + 1) (i + 1) (o ++ [[TC.s (piece s f i)]]) (Nat.le_refl _) (by omega) (by simp; omega)
        refine ⟨M + 1, ?_⟩
        rw [loopN_next (h2 f i o hf (by omega) ho (fun _ => hc) hk), ih, piece_self, hdl_nil (pcs_ne _)]
        simp [hk, rowsS]
      | false =>
        refine ⟨1, ?_⟩
        rw [loopN_end (h3 f i o hf (by omega) (fun _ => hc) hk)]
        simp [hk, rowsS]
    · have e1 : hdl (piece s f i) (pcs (s.drop i)) = hdl (piece s f (i + 1)) (pcs (s.drop (i + 1))) := by
        rw [e0, pcs_cons, show (s[i] == 47) = false from by simpa using hc]
        show hdl _ (hdl _ _) = _
        rw [hdl_hdl, piece_snoc hf hi]
      rw [e1]
      obtain ⟨M, ih⟩ := loopN_pieces s y z h1 h2 h3 h4 m f (i + 1) o (by omega) (by omega) (by omega)
      exact ⟨M + 1, (loopN_next (h1 f i o hi hc)).trans ih⟩
def pathB (s : BS) : Bool := !(s == []) && (s.getD 0 0 == 47) && ((s == [47]) || ((pcs (s.drop 1)).all nameOk && decide ((pcs (s.drop 1)).length ≤ 6)))
def pathV (s : BS) : LL := bif pathB s && !(s == [47]) then rowsS (pcs (s.drop 1)) else []
def lnIn (a : Int) : Bool := bif decide (a ≥ 1) then decide (a ≤ 255) else false
def linkB (x : List TC) : Bool := bif (nth x 2).str == [] then lnIn (nth x 1).int else ((nth x 1).int == 0) && pathB (nth x 2).str
def linkP (A : LL) (i : Int) : Bool := nameOk (nth (row A i) 0).str && (!(decide (i > 0)) || bytesLess (nth (row A (IntKind.wrap .i64 (i - (1 : Int)))) 0).str (nth (row A i) 0).str) && linkB (row A i)
theorem less_le : ∀ {a b : BS}, (bytesLess a b || (a == b)) = !(bytesLess b a)
  | [], [] => rfl
  | [], _ :: _ => rfl
  | _ :: _, [] => rfl
  | x :: a, y :: b => by
    have ih := less_le (a := a) (b := b)
    unfold bytesLess
    by_cases h : x = y
    · subst h
      simpa using ih
    · have h1 : (x == y) = false := by simpa using h
      have h2 : (y == x) = false := by simpa using fun e : y = x => h e.symm
      have h3 : ((x :: a) == (y :: b)) = false := by simp [h]
      rw [h3]
      by_cases hl : x < y
      · have hn : ¬ y < x := fun hh => absurd (UInt8.lt_trans hl hh) (UInt8.lt_irrefl _)
        simp [hl, hn, h1, h2, h]
      · have hn : y < x := by
          rcases Nat.lt_trichotomy x.toNat y.toNat with a | a | a
          · exact absurd (UInt8.lt_iff_toNat_lt.2 a) hl
          · exact absurd (UInt8.toNat_inj.1 a) h
          · exact UInt8.lt_iff_toNat_lt.2 a
        simp [hl, hn, h1, h2, h]
def linksB (A : LL) : Bool := allI (fun i : Nat => linkP A (i : Int)) A.length && decide (A.length ≤ 12)
def PathsOk (A : LL) : Prop := ∀ x, x ∈ A → (nth x 2).str.length ≤ 1048576
def qu_t (a0 : BS) (a1 : Int) (a2 : BS) (a3 : Int) : Tr (Int) := (.ite ((decide ((IntKind.wrap .i64 (a3 - (a0.length : Int))) < (0 : Int))) = true) (.ok (-1 : Int))
  (.ite ((decide ((IntKind.wrap .i64 ((IntKind.wrap .i64 (a3 - (a0.length : Int))) - (a2.length : Int))) < (0 : Int))) = true) (.ok (-1 : Int))
   (.ok (IntKind.wrap .i64 ((IntKind.wrap .i64 (a3 - (a0.length : Int))) - (a2.length : Int))))))
def qu_mk (p : Int) : Res := [(false, [⟨.int .i64, .sh, TC.i p⟩])]
def qu_c (a0 : BS) (a1 : Int) (a2 : BS) (a3 : Int) : Bool := true
def qu_v (a0 : BS) (a1 : Int) (a2 : BS) (a3 : Int) : Int := (bif (decide ((IntKind.wrap .i64 (a3 - (a0.length : Int))) < (0 : Int))) then (-1 : Int) else (bif (decide ((IntKind.wrap .i64 ((IntKind.wrap .i64 (a3 - (a0.length : Int))) - (a2.length : Int))) < (0 : Int))) then (-1 : Int) else (IntKind.wrap .i64 ((IntKind.wrap .i64 (a3 - (a0.length : Int))) - (a2.length : Int)))))
theorem qu_l (a0 : BS) (a1 : Int) (a2 : BS) (a3 : Int) : (qu_c a0 a1 a2 a3) = true → (qu_t a0 a1 a2 a3).val = some (qu_v a0 a1 a2 a3) := by
  intro h
  skip
  unfold qu_t qu_v
  exact (Tr.s rfl (Tr.s rfl rfl))
def qu_S : List Arg → Option (Bool × Res) := fun xs => match xs with
  | [(true, [(.str, TC.s a0), (.int .i64, TC.i a1), (.str, TC.s a2)]), (false, [(.int .i64, TC.i a3)])] => some (true, qu_mk (qu_v a0 a1 a2 a3))
  | _ => .none
theorem qu_e (a0 : BS) (a1 : Int) (a2 : BS) (a3 : Int) : runF tab FT D0 live 27 noLoops [(true, [(.str, TC.s a0), (.int .i64, TC.i a1), (.str, TC.s a2)]), (false, [(.int .i64, TC.i a3)])] = (qu_t a0 a1 a2 a3).run fun p => some (qu_mk p) := by kernel_rfl
theorem qu_s : ∀ xs r, qu_S xs = some (true, r) → runF tab FT D0 live 27 noLoops xs = some r := by
  intro xs r h
  unfold qu_S at h
  split at h
  · obtain ⟨h1, rfl⟩ := sp h
    exact fun_told (qu_e ..) (qu_l _ _ _ _) rfl
  · cases h
def D1 : Dt := also D0 27 qu_S
theorem d1 : DOk Go.Proofs.Tryd.prog tab D1 := d0.also mixed_ok tab_ok names_ok noLoops_ok qu_s
abbrev qg_5_σ := LL × Int × Int
abbrev qg_5_ω := (Int) ⊕ (Int)
def qg_5_step (A : LL) (left i : Int) : Tr (qg_5_σ ⊕ qg_5_ω) := (.ite ((decide (i < (A.length : Int))) = true) (.ite ((0 : Int) ≤ i ∧ i < (A.length : Int)) (.ite ((decide ((qu_v ((nth (row A i) 0).str) ((nth (row A i) 1).int) ((nth (row A i) 2).str) left) < (0 : Int))) = true) (.ok (.inr (.inl (qu_v ((nth (row A i) 0).str) ((nth (row A i) 1).int) ((nth (row A i) 2).str) left))))
    (.ok (.inl (A, (qu_v ((nth (row A i) 0).str) ((nth (row A i) 1).int) ((nth (row A i) 2).str) left), (IntKind.wrap .i64 (i + (1 : Int)))))))
   .no)
  (.ok (.inr (.inr left))))
def qg_5_st : qg_5_σ → Tr (qg_5_σ ⊕ qg_5_ω) := fun x => (qg_5_step (x.1) (x.2.1) (x.2.2))
def qg_k5_1 (A : LL) (left i : Int) : Bool := isL (loopN qg_5_st (A.length + 1) (A, left, i))
def qg_o5_2 (A : LL) (left i : Int) : Bool := is (i = 0 ∧ Typed tab (.slice 47) (.l A))
def qg_u5_2 (A : LL) (left i : Int) : Int := getL (loopN qg_5_st (A.length + 1) (A, left, i))
def qg_o5_3 (A : LL) (left i : Int) : Bool := is (i = 0 ∧ Typed tab (.slice 47) (.l A))
def qg_u5_3 (A : LL) (left i : Int) : Int := getR (loopN qg_5_st (A.length + 1) (A, left, i))
def qg_5_fin (A : LL) (left i : Int) : Told qg_5_ω := (.br (qg_k5_1 A left i) (.leaf (qg_o5_2 A left i) (.inl (qg_u5_2 A left i))) (.leaf (qg_o5_3 A left i) (.inr (qg_u5_3 A left i))))
def qg_5_sl (x : qg_5_σ) : List Slot := [⟨.val false [⟨.slice 47, .sh, TC.l (x.1)⟩], ⟨0, 0⟩⟩, ⟨.val false [⟨.int .i64, .sh, TC.i (x.2.1)⟩], ⟨0, 0⟩⟩, ⟨.val false [⟨.int .i64, .sh, TC.i (x.2.2)⟩], ⟨0, 0⟩⟩]
def qg_5_out : qg_5_ω → Ex × List Slot := (Sum.elim (fun x => (.ret, [⟨.val false [⟨.int .i64, .sh, TC.i x⟩], ⟨0, 0⟩⟩, ⟨.val false [⟨.int .i64, .sh, TC.i (-1 : Int)⟩], ⟨0, 0⟩⟩])) (fun x => (.exit 0, [⟨.val false [⟨.int .i64, .sh, TC.i x⟩], ⟨0, 0⟩⟩, Slot.none])))
def qg_lo5 : List Slot → Option (Told (Ex × List Slot)) := fun s => match s with
  | [⟨.val false [⟨.slice 47, .sh, TC.l A⟩], ⟨0, 0⟩⟩, ⟨.val false [⟨.int .i64, .sh, TC.i left⟩], ⟨0, 0⟩⟩, ⟨.val false [⟨.int .i64, .sh, TC.i i⟩], ⟨0, 0⟩⟩] => some (((qg_5_fin A left i)).map qg_5_out)
  | _ => .none
def qg_lo : LoopTeller := fun r s => bif Nat.beq r 5 then qg_lo5 s else .none
theorem qg_5_r (A : LL) (left i : Int) (fuel : Nat) : rounds (rnd tab FT D1 live 14 qg_lo 0 5) leave (fuel + 1) (qg_5_sl (A, left, i)) = ((qg_5_step A left i)).run (goOn (fun s => rounds (rnd tab FT D1 live 14 qg_lo 0 5) leave fuel (qg_5_sl s)) fun w => some (qg_5_out w)) := by kernel_rfl
theorem qg_5_h (A : LL) (left i : Int) (ow : qg_5_ω) : ((qg_5_fin A left i)).val = some ow → ∃ fuel, loopN qg_5_st fuel (A, left, i) = some ow := by
  refine auto_two (N := A.length + 1) rfl rfl rfl ?_
  intro ho
  have ho : is (i = 0 ∧ Typed tab (.slice 47) (.l A)) = true := ho.elim id id
  obtain ⟨rfl, ht⟩ := is_iff.1 ho
  have hlen : A.length ≤ 140737488351232 := by have := typed_room ht; simp only [show (tab 47).bytes = 40 from rfl] at this; omega
  refine loopN_ends (step := qg_5_st) (N := A.length) (fun i a => (A, a, (i : Int))) (fun i a hi => ?_) (fun a => ?_) A.length 0 left (by omega)
  · show (∃ a', (qg_5_step A a (i : Int)).val = _) ∨ ∃ w, (qg_5_step A a (i : Int)).val = _
    have c0 : Typed tab (.str) (.s (nth (A.getD i []) 0).str) := typed_s (typed_cell ht (A.getD i []) (mem_getD hi) 0 (by decide))
    have c2 : Typed tab (.str) (.s (nth (A.getD i []) 2).str) := typed_s (typed_cell ht (A.getD i []) (mem_getD hi) 2 (by decide))
    cases hneg : ((decide ((qu_v ((nth (row A i) 0).str) ((nth (row A i) 1).int) ((nth (row A i) 2).str) a) < (0 : Int))))
    · apply Or.inl
      apply Exists.intro
      · unfold qg_5_step
        refine Tr.t (by simp; omega) ?_
        refine Tr.t (by first | omega | (constructor <;> omega)) ?_
        refine Tr.n (by rw [hneg]; simp) ?_
        rw [Tr.val_ok, wrap64 (i := (i : Int) + 1) (by omega) (by omega)]; rfl
    · apply Or.inr
      apply Exists.intro
      · unfold qg_5_step
        refine Tr.t (by simp; omega) ?_
        refine Tr.t (by first | omega | (constructor <;> omega)) ?_
        refine Tr.t hneg ?_
        rfl
  · apply Exists.intro
    · show (qg_5_step A a (A.length : Int)).val = _
      refine Tr.n (by simp) ?_
      rfl
theorem qg_is5 : LoopIs tab FT D1 live 14 qg_lo 0 5 := by
  refine loop_told (sl := qg_5_sl) (step := qg_5_st) (out := qg_5_out) (lor := qg_lo5) (fin := fun x => (qg_5_fin (x.1) (x.2.1) (x.2.2))) (fun _ => rfl) ?_ (fun x n => qg_5_r x.1 x.2.1 x.2.2 n) (fun x ow => qg_5_h x.1 x.2.1 x.2.2 ow)
  intro s t h
  unfold qg_lo5 at h
  split at h
  · cases h; exact ⟨(_, _, _), rfl, rfl⟩
  · cases h
def qg_t (A : LL) (left : Int) : Tr (Int) := (.ite ((decide ((IntKind.wrap .i64 (left - (A.length : Int))) < (0 : Int))) = true) (.ok (-1 : Int))
  (.ite ((qg_k5_1 A (IntKind.wrap .i64 (left - (A.length : Int))) (0 : Int)) = true) (.ite ((qg_o5_2 A (IntKind.wrap .i64 (left - (A.length : Int))) (0 : Int)) = true) (.ok (-1 : Int))
    .no)
   (.ite ((qg_o5_3 A (IntKind.wrap .i64 (left - (A.length : Int))) (0 : Int)) = true) (.ok (qg_u5_3 A (IntKind.wrap .i64 (left - (A.length : Int))) (0 : Int)))
    .no)))
def qg_mk (p : Int) : Res := [(false, [⟨.int .i64, .sh, TC.i p⟩])]
def qg_c (A : LL) (left : Int) : Bool := is (((qg_o5_2 A (IntKind.wrap .i64 (left - (A.length : Int))) (0 : Int)) = true) ∧ ((qg_o5_3 A (IntKind.wrap .i64 (left - (A.length : Int))) (0 : Int)) = true))
def qg_v (A : LL) (left : Int) : Int := (bif (decide ((IntKind.wrap .i64 (left - (A.length : Int))) < (0 : Int))) then (-1 : Int) else (bif (qg_k5_1 A (IntKind.wrap .i64 (left - (A.length : Int))) (0 : Int)) then (-1 : Int) else (qg_u5_3 A (IntKind.wrap .i64 (left - (A.length : Int))) (0 : Int))))
theorem qg_l (A : LL) (left : Int) : (qg_c A left) = true → (qg_t A left).val = some (qg_v A left) := by
  intro h
  obtain ⟨g0, g1⟩ := is_iff.1 h
  unfold qg_t qg_v
  exact (Tr.s rfl (Tr.s (Tr.t g0 rfl) (Tr.t g1 rfl)))
def qg_S : List Arg → Option (Bool × Res) := fun xs => match xs with
  | [(false, [(.slice 47, TC.l A)]), (false, [(.int .i64, TC.i left)])] => some ((qg_c A left), qg_mk (qg_v A left))
  | _ => .none
theorem qg_e (A : LL) (left : Int) : runF tab FT D1 live 14 qg_lo [(false, [(.slice 47, TC.l A)]), (false, [(.int .i64, TC.i left)])] = (qg_t A left).run fun p => some (qg_mk p) := by kernel_rfl
theorem qg_s : ∀ xs r, qg_S xs = some (true, r) → runF tab FT D1 live 14 qg_lo xs = some r := by
  intro xs r h
  unfold qg_S at h
  split at h
  · obtain ⟨h1, rfl⟩ := sp h
    exact fun_told (qg_e ..) (qg_l _ _) h1
  · cases h
def D2 : Dt := also D1 14 qg_S
theorem d2 : DOk Go.Proofs.Tryd.prog tab D2 := d1.also mixed_ok tab_ok names_ok (fnLoops_one (by kernel_rfl) qg_is5) qg_s
theorem szl {a b : BS} {n left : Int} (hl : 0 ≤ left) (hl2 : left ≤ 1048576) (ha : a.length ≤ 140737488351232) (hb : b.length ≤ 140737488351232) (h : decide (qu_v a n b left < 0) = false) : 0 ≤ qu_v a n b left ∧ qu_v a n b left ≤ 1048576 ∧ b.length ≤ 1048576 := by
  have h := of_decide_eq_false h
  have e1 : IntKind.wrap .i64 (left - (a.length : Int)) = left - (a.length : Int) := wrap64 (by omega) (by omega)
  have e2 : IntKind.wrap .i64 (left - (a.length : Int) - (b.length : Int)) = left - (a.length : Int) - (b.length : Int) := wrap64 (by omega) (by omega)
  unfold qu_v at h ⊢
  rw [e1, e2] at h ⊢
  cases h1 : decide (left - (a.length : Int) < 0) with
  | true => rw [h1] at h; exact absurd (show (-1 : Int) < 0 by decide) h
  | false =>
    rw [h1] at h
    cases h2 : decide (left - (a.length : Int) - (b.length : Int) < 0) with
    | true => rw [h2] at h; exact absurd (show (-1 : Int) < 0 by decide) h
    | false =>
      have h1 := of_decide_eq_false h1
      have h2 := of_decide_eq_false h2
      show 0 ≤ left - (a.length : Int) - (b.length : Int) ∧ left - (a.length : Int) - (b.length : Int) ≤ 1048576 ∧ b.length ≤ 1048576
      omega
theorem szl_loop {A : LL} (hA : Typed tab (.slice 47) (.l A)) : ∀ (n i : Nat) (left : Int), i + n = A.length → 0 ≤ left → left ≤ 1048576 → isL (loopN qg_5_st (n + 1) (A, left, (i : Int))) = false → ∀ j, i ≤ j → j < A.length → (nth (row A (j : Int)) 2).str.length ≤ 1048576
  | 0, i, left, hi, _, _, _ => fun j h1 h2 => by omega
  | n + 1, i, left, hi, h0, hl, hk => fun j h1 h2 => by
    have hlen := typed_room hA
    simp only [show (tab 47).bytes = 40 from rfl] at hlen
    have hx : ∀ k, k < A.length → (nth (row A (k : Int)) 0).str.length ≤ 140737488351232 ∧ (nth (row A (k : Int)) 2).str.length ≤ 140737488351232 := fun k hk => by
      have hm : row A (k : Int) ∈ A := by rw [row_nat]; exact mem_getD hk
      exact ⟨typed_str_len (typed_s ((typed_elem hA hm).2 0 (by decide))), typed_str_len (typed_s ((typed_elem hA hm).2 2 (by decide)))⟩
    have hxi := hx i (by omega)
    cases hd : decide (qu_v (nth (row A (i : Int)) 0).str (nth (row A (i : Int)) 1).int (nth (row A (i : Int)) 2).str left < 0) with
    | true =>
      have hs : (qg_5_st (A, left, (i : Int))).val = some (.inr (.inl (qu_v (nth (row A (i : Int)) 0).str (nth (row A (i : Int)) 1).int (nth (row A (i : Int)) 2).str left))) := by
        show (qg_5_step A left (i : Int)).val = _
        unfold qg_5_step
        exact Tr.t (by simp; omega) (Tr.t (by omega) (Tr.t hd rfl))
      rw [loopN_end hs] at hk
      cases hk
    | false =>
      obtain ⟨a1, a2, a3⟩ := szl h0 hl hxi.1 hxi.2 hd
      have hs : (qg_5_st (A, left, (i : Int))).val = some (.inl (A, qu_v (nth (row A (i : Int)) 0).str (nth (row A (i : Int)) 1).int (nth (row A (i : Int)) 2).str left, ((i + 1 : Nat) : Int))) := by
        show (qg_5_step A left (i : Int)).val = _
        unfold qg_5_step
        refine Tr.t (by simp; omega) (Tr.t (by omega) (Tr.n (by rw [hd]; simp) ?_))
        rw [Tr.val_ok, wrap64 (i := (i : Int) + 1) (by omega) (by omega)]
        rfl
      rw [loopN_next hs] at hk
      by_cases hj : j = i
      · rw [hj]; exact a3
      · exact szl_loop hA n (i + 1) _ (by omega) a1 a2 hk j (by omega) h2
theorem paths_in {A : LL} (hA : Typed tab (.slice 47) (.l A)) (h : ¬decide (qg_v A (1048576 : Int) < 0) = true) : ∀ x, x ∈ A → (nth x 2).str.length ≤ 1048576 := fun x hx => by
  have h := of_decide_eq_false (Bool.eq_false_iff.2 h)
  have hlen := typed_room hA
  simp only [show (tab 47).bytes = 40 from rfl] at hlen
  unfold qg_v at h
  rw [wrap64 (i := 1048576 - (A.length : Int)) (by omega) (by omega)] at h
  cases h1 : decide (1048576 - (A.length : Int) < 0) with
  | true => rw [h1] at h; exact absurd (show (-1 : Int) < 0 by decide) h
  | false =>
    rw [h1] at h
    have h1 := of_decide_eq_false h1
    cases h2 : qg_k5_1 A (1048576 - (A.length : Int)) (0 : Int) with
    | true => rw [h2] at h; exact absurd (show (-1 : Int) < 0 by decide) h
    | false =>
      obtain ⟨j, hj, rfl⟩ := List.getElem_of_mem hx
      have := szl_loop hA A.length 0 _ (by omega) (by omega) (by omega) h2 j (by omega) hj
      rw [row_nat, List.getD_eq_getElem?_getD, List.getElem?_eq_getElem hj] at this
      exact this
def qz_t (a0 : BS) (a1 : Int) (a2 : BS) : Tr (BS × Int × BS) := .ok (a0, a1, a2)
def qz_mk (p : BS × Int × BS) : Res := [(true, [⟨.str, .sh, TC.s (p.1)⟩, ⟨.int .i64, .sh, TC.i (p.2.1)⟩, ⟨.str, .sh, TC.s (p.2.2)⟩])]
def qz_c (a0 : BS) (a1 : Int) (a2 : BS) : Bool := true
def qz_v (a0 : BS) (a1 : Int) (a2 : BS) : BS × Int × BS := (a0, a1, a2)
theorem qz_l (a0 : BS) (a1 : Int) (a2 : BS) : (qz_c a0 a1 a2) = true → (qz_t a0 a1 a2).val = some (qz_v a0 a1 a2) := by
  intro h
  skip
  unfold qz_t qz_v
  exact rfl
def qz_S : List Arg → Option (Bool × Res) := fun xs => match xs with
  | [(true, [(.str, TC.s a0), (.int .i64, TC.i a1), (.str, TC.s a2)])] => some (true, qz_mk (qz_v a0 a1 a2))
  | _ => .none
theorem qz_e (a0 : BS) (a1 : Int) (a2 : BS) : runF tab FT D2 live 29 noLoops [(true, [(.str, TC.s a0), (.int .i64, TC.i a1), (.str, TC.s a2)])] = (qz_t a0 a1 a2).run fun p => some (qz_mk p) := by kernel_rfl
theorem qz_s : ∀ xs r, qz_S xs = some (true, r) → runF tab FT D2 live 29 noLoops xs = some r := by
  intro xs r h
  unfold qz_S at h
  split at h
  · obtain ⟨h1, rfl⟩ := sp h
    exact fun_told (qz_e ..) (qz_l _ _ _) rfl
  · cases h
def D3 : Dt := also D2 29 qz_S
theorem d3 : DOk Go.Proofs.Tryd.prog tab D3 := d2.also mixed_ok tab_ok names_ok noLoops_ok qz_s
def qh_g (x : List TC) : List TC := [TC.s ((nth x 0).str), TC.i ((nth x 1).int), TC.s ((nth x 2).str)]
def qh_z : List TC := [TC.s [], TC.i (0 : Int), TC.s []]
abbrev qh_3_σ := LL × LL × Int
abbrev qh_3_ω := (LL)
def qh_3_step (A X : LL) (i : Int) : Tr (qh_3_σ ⊕ qh_3_ω) := (.ite ((decide (i < (A.length : Int))) = true) (.ite ((0 : Int) ≤ i ∧ i < (A.length : Int)) (.ite ((0 : Int) ≤ i ∧ i < (X.length : Int)) (.ok (.inl (A, (X.set (i).toNat (splice (row X i) 0 [TC.s ((nth (row A i) 0).str), TC.i ((nth (row A i) 1).int), TC.s ((nth (row A i) 2).str)])), (IntKind.wrap .i64 (i + (1 : Int))))))
    .no)
   .no)
  (.ok (.inr X)))
def qh_3_st : qh_3_σ → Tr (qh_3_σ ⊕ qh_3_ω) := fun x => (qh_3_step (x.1) (x.2.1) (x.2.2))
def qh_o3_1 (A X : LL) (i : Int) : Bool := is (Typed tab (.slice 47) (.l A) ∧ X = List.replicate A.length qh_z ∧ i = 0)
def qh_u3_1 (A X : LL) (i : Int) : LL := A.map qh_g
def qh_3_fin (A X : LL) (i : Int) : Told qh_3_ω := (.leaf (qh_o3_1 A X i) (qh_u3_1 A X i))
def qh_3_sl (x : qh_3_σ) : List Slot := [⟨.val false [⟨.slice 47, .sh, TC.l (x.1)⟩], ⟨0, 0⟩⟩, ⟨.val false [⟨.slice 48, .own true, TC.l (x.2.1)⟩], ⟨0, 0⟩⟩, ⟨.val false [⟨.int .i64, .sh, TC.i (x.2.2)⟩], ⟨0, 0⟩⟩]
def qh_3_out : qh_3_ω → Ex × List Slot := (fun x => (.exit 0, [Slot.none, ⟨.val false [⟨.slice 48, .own true, TC.l x⟩], ⟨0, 0⟩⟩]))
def qh_lo3 : List Slot → Option (Told (Ex × List Slot)) := fun s => match s with
  | [⟨.val false [⟨.slice 47, .sh, TC.l A⟩], ⟨0, 0⟩⟩, ⟨.val false [⟨.slice 48, .own true, TC.l X⟩], ⟨0, 0⟩⟩, ⟨.val false [⟨.int .i64, .sh, TC.i i⟩], ⟨0, 0⟩⟩] => some (((qh_3_fin A X i)).map qh_3_out)
  | _ => .none
def qh_lo : LoopTeller := fun r s => bif Nat.beq r 3 then qh_lo3 s else .none
theorem qh_3_r (A X : LL) (i : Int) (fuel : Nat) : rounds (rnd tab FT D3 live 16 qh_lo 0 3) leave (fuel + 1) (qh_3_sl (A, X, i)) = ((qh_3_step A X i)).run (goOn (fun s => rounds (rnd tab FT D3 live 16 qh_lo 0 3) leave fuel (qh_3_sl s)) fun w => some (qh_3_out w)) := by kernel_rfl
theorem qh_3_h (A X : LL) (i : Int) (ow : qh_3_ω) : ((qh_3_fin A X i)).val = some ow → ∃ fuel, loopN qh_3_st fuel (A, X, i) = some ow := by
  intro h
  simp only [qh_3_fin, Told.val] at h
  split at h
  · rename_i ho
    obtain ⟨ht, rfl, rfl⟩ := is_iff.1 ho
    cases h
    have hlen : A.length ≤ 140737488351232 := by have := typed_room ht; simp only [show (tab 47).bytes = 40 from rfl] at this; omega
    have key := loopN_copy (step := qh_3_st) A (List.replicate A.length qh_z) qh_g (fun Y i => (A, Y, (i : Int))) (A.map qh_g) (by simp) (fun x hx i _ => by rw [(List.mem_replicate.1 hx).2]; exact Nat.le_refl 3) (fun Y i hi hl => ?_) ?_ A.length 0 (by omega)
    · rw [copied_zero] at key
      exact ⟨_, key⟩
    · have c0 : Typed tab (.str) (.s (nth (A.getD i []) 0).str) := typed_s (typed_cell ht (A.getD i []) (mem_getD hi) 0 (by decide))
      have c2 : Typed tab (.str) (.s (nth (A.getD i []) 2).str) := typed_s (typed_cell ht (A.getD i []) (mem_getD hi) 2 (by decide))
      show (qh_3_step A Y (i : Int)).val = _
      unfold qh_3_step
      refine Tr.t (by simp; omega) ?_
      refine Tr.t (by constructor <;> omega) ?_
      refine Tr.t (by constructor <;> omega) ?_
      repeat (refine Tr.t (by first | (apply is_true; and_intros <;> (first | rfl | assumption | (first | (apply is_true; and_intros <;> (first | rfl | assumption | (first | (apply is_true; and_intros <;> (first | rfl | assumption | (first | (apply is_true; and_intros <;> (first | rfl | assumption)))))))))))) ?_)
      rw [Tr.val_ok, wrap64 (i := (i : Int) + 1) (by omega) (by omega)]; rfl
    · show (qh_3_step A (A.map qh_g) (A.length : Int)).val = _
      refine Tr.n (by simp) ?_
      rfl
  · cases h
theorem qh_is3 : LoopIs tab FT D3 live 16 qh_lo 0 3 := by
  refine loop_told (sl := qh_3_sl) (step := qh_3_st) (out := qh_3_out) (lor := qh_lo3) (fin := fun x => (qh_3_fin (x.1) (x.2.1) (x.2.2))) (fun _ => rfl) ?_ (fun x n => qh_3_r x.1 x.2.1 x.2.2 n) (fun x ow => qh_3_h x.1 x.2.1 x.2.2 ow)
  intro s t h
  unfold qh_lo3 at h
  split at h
  · cases h; exact ⟨(_, _, _), rfl, rfl⟩
  · cases h
def qh_t (A : LL) : Tr (LL) := (.ite (0 ≤ (A.length : Int) ∧ (A.length : Int) ≤ (A.length : Int) ∧ (A.length : Int) * 40 ≤ 140737488355328 ∧ (A.length : Int) ≤ 140737488355328) (.ite ((qh_o3_1 A (List.replicate ((A.length : Int)).toNat [TC.s [], TC.i (0 : Int), TC.s []]) (0 : Int)) = true) (.ok (qh_u3_1 A (List.replicate ((A.length : Int)).toNat [TC.s [], TC.i (0 : Int), TC.s []]) (0 : Int)))
   .no)
  .no)
def qh_mk (p : LL) : Res := [(false, [⟨.slice 48, .own true, TC.l p⟩])]
def qh_c (A : LL) : Bool := is (Typed tab (.slice 47) (.l A))
def qh_v (A : LL) : LL := A.map qh_g
theorem qh_l (A : LL) : (qh_c A) = true → (qh_t A).val = some (qh_v A) := by
  intro h
  have ht := is_iff.1 h
  have hb := typed_room ht
  simp only [show (tab 47).bytes = 40 from rfl] at hb
  unfold qh_t
  refine Tr.t (by omega) ?_
  refine Tr.t (is_true ⟨ht, by rfl, rfl⟩) ?_
  rfl
def qh_S : List Arg → Option (Bool × Res) := fun xs => match xs with
  | [(false, [(.slice 47, TC.l A)])] => some ((qh_c A), qh_mk (qh_v A))
  | _ => .none
theorem qh_e (A : LL) : runF tab FT D3 live 16 qh_lo [(false, [(.slice 47, TC.l A)])] = (qh_t A).run fun p => some (qh_mk p) := by kernel_rfl
theorem qh_s : ∀ xs r, qh_S xs = some (true, r) → runF tab FT D3 live 16 qh_lo xs = some r := by
  intro xs r h
  unfold qh_S at h
  split at h
  · obtain ⟨h1, rfl⟩ := sp h
    exact fun_told (qh_e _) (qh_l _) h1
  · cases h
def D4 : Dt := also D3 16 qh_S
theorem d4 : DOk Go.Proofs.Tryd.prog tab D4 := d3.also mixed_ok tab_ok names_ok (fnLoops_one (by kernel_rfl) qh_is3) qh_s
theorem qh_ty {A : LL} (h : Typed tab (.slice 47) (.l A)) : Typed tab (.slice 48) (.l (A.map qh_g)) := by
  refine typed_map h (by decide) fun x _ _ hx => ⟨rfl, fun k hk => ?_⟩
  match k, hk with
    | 0, _ => exact typed_s (hx 0 (by decide))
    | 1, _ => exact typed_i (hx 1 (by decide))
    | 2, _ => exact typed_s (hx 2 (by decide))
def qr_t (a0 : Int) : Tr (Bool) := (.ite ((decide (a0 ≥ (65 : Int))) = true) (.ite ((decide (a0 ≤ (90 : Int))) = true) (.ok true)
   (.ite ((decide (a0 ≥ (97 : Int))) = true) (.ok (decide (a0 ≤ (122 : Int))))
    (.ok false)))
  (.ite ((decide (a0 ≥ (97 : Int))) = true) (.ok (decide (a0 ≤ (122 : Int))))
   (.ok false)))
def qr_mk (p : Bool) : Res := [(false, [⟨.bool, .sh, TC.b p⟩])]
def qr_c (a0 : Int) : Bool := true
def qr_v (a0 : Int) : Bool := (bif (decide (a0 ≥ (65 : Int))) then (bif (decide (a0 ≤ (90 : Int))) then true else (bif (decide (a0 ≥ (97 : Int))) then (decide (a0 ≤ (122 : Int))) else false)) else (bif (decide (a0 ≥ (97 : Int))) then (decide (a0 ≤ (122 : Int))) else false))
theorem qr_l (a0 : Int) : (qr_c a0) = true → (qr_t a0).val = some (qr_v a0) := by
  intro h
  skip
  unfold qr_t qr_v
  exact (Tr.s (Tr.s rfl (Tr.s rfl rfl)) (Tr.s rfl rfl))
def qr_S : List Arg → Option (Bool × Res) := fun xs => match xs with
  | [(false, [(.int .u8, TC.i a0)])] => some (true, qr_mk (qr_v a0))
  | _ => .none
theorem qr_e (a0 : Int) : runF tab FT D4 live 56 noLoops [(false, [(.int .u8, TC.i a0)])] = (qr_t a0).run fun p => some (qr_mk p) := by kernel_rfl
theorem qr_s : ∀ xs r, qr_S xs = some (true, r) → runF tab FT D4 live 56 noLoops xs = some r := by
  intro xs r h
  unfold qr_S at h
  split at h
  · obtain ⟨h1, rfl⟩ := sp h
    exact fun_told (qr_e _) (qr_l _) rfl
  · cases h
def D5 : Dt := also D4 56 qr_S
theorem d5 : DOk Go.Proofs.Tryd.prog tab D5 := d4.also mixed_ok tab_ok names_ok noLoops_ok qr_s
def qd_f4 (s : BS) (i : Int) : (Unit) ⊕ ((Unit) ⊕ (Unit)) := (bif (!(qr_v ((s.getD (i).toNat 0).toNat : Int))) then (bif (decide (((s.getD (i).toNat 0).toNat : Int) ≥ (48 : Int))) then (bif (!(decide (((s.getD (i).toNat 0).toNat : Int) ≤ (57 : Int)))) then (bif (!(((s.getD (i).toNat 0).toNat : Int) == (95 : Int))) then (.inr (.inl ())) else (.inl ())) else (.inl ())) else (bif (!(((s.getD (i).toNat 0).toNat : Int) == (95 : Int))) then (.inr (.inl ())) else (.inl ()))) else (.inl ()))
def qd_e4 (s : BS) : (Unit) ⊕ (Unit) := .inr ()
def qd_R4 (s : BS) (i : Int) : (Unit) ⊕ (Unit) := iter (fun i a => (qd_f4 s ((i + 1 : Nat) : Int))) (fun a => (qd_e4 s)) (s.length - 1) 0 ()
abbrev qd_4_σ := BS × Int
abbrev qd_4_ω := (Unit) ⊕ (Unit)
def qd_4_step (s : BS) (i : Int) : Tr (qd_4_σ ⊕ qd_4_ω) := (.ite ((decide (i < (s.length : Int))) = true) (.ite ((0 : Int) ≤ i ∧ i < (s.length : Int)) (.ite ((!(qr_v ((s.getD (i).toNat 0).toNat : Int))) = true) (.ite ((0 : Int) ≤ i ∧ i < (s.length : Int)) (.ite ((decide (((s.getD (i).toNat 0).toNat : Int) ≥ (48 : Int))) = true) (.ite ((0 : Int) ≤ i ∧ i < (s.length : Int)) (.ite ((!(decide (((s.getD (i).toNat 0).toNat : Int) ≤ (57 : Int)))) = true) (.ite ((0 : Int) ≤ i ∧ i < (s.length : Int)) (.ite ((!(((s.getD (i).toNat 0).toNat : Int) == (95 : Int))) = true) (.ok (.inr (.inl ())))
          (.ok (.inl (s, (IntKind.wrap .i64 (i + (1 : Int)))))))
         .no)
        (.ok (.inl (s, (IntKind.wrap .i64 (i + (1 : Int)))))))
       .no)
      (.ite ((0 : Int) ≤ i ∧ i < (s.length : Int)) (.ite ((!(((s.getD (i).toNat 0).toNat : Int) == (95 : Int))) = true) (.ok (.inr (.inl ())))
        (.ok (.inl (s, (IntKind.wrap .i64 (i + (1 : Int)))))))
       .no))
     .no)
    (.ok (.inl (s, (IntKind.wrap .i64 (i + (1 : Int)))))))
   .no)
  (.ok (.inr (.inr ()))))
def qd_4_st : qd_4_σ → Tr (qd_4_σ ⊕ qd_4_ω) := fun x => (qd_4_step (x.1) (x.2))
def qd_k4_1 (s : BS) (i : Int) : Bool := sumIs (qd_R4 s i)
def qd_o4_2 (s : BS) (i : Int) : Bool := is (i = 1 ∧ s.length ≤ 140737488355328)
def qd_o4_3 (s : BS) (i : Int) : Bool := is (i = 1 ∧ s.length ≤ 140737488355328)
def qd_4_fin (s : BS) (i : Int) : Told qd_4_ω := (.br (qd_k4_1 s i) (.leaf (qd_o4_2 s i) (.inl ())) (.leaf (qd_o4_3 s i) (.inr ())))
def qd_4_sl (x : qd_4_σ) : List Slot := [⟨.val false [⟨.str, .sh, TC.s (x.1)⟩], ⟨0, 0⟩⟩, ⟨.val false [⟨.int .i64, .sh, TC.i (x.2)⟩], ⟨0, 0⟩⟩]
def qd_4_out : qd_4_ω → Ex × List Slot := (Sum.elim (fun x => (.ret, [⟨.val false [⟨.bool, .sh, TC.b false⟩], ⟨0, 0⟩⟩])) (fun x => (.exit 0, [Slot.none])))
def qd_lo4 : List Slot → Option (Told (Ex × List Slot)) := fun s => match s with
  | [⟨.val false [⟨.str, .sh, TC.s s⟩], ⟨0, 0⟩⟩, ⟨.val false [⟨.int .i64, .sh, TC.i i⟩], ⟨0, 0⟩⟩] => some (((qd_4_fin s i)).map qd_4_out)
  | _ => .none
def qd_lo : LoopTeller := fun r s => bif Nat.beq r 4 then qd_lo4 s else .none
theorem qd_4_r (s : BS) (i : Int) (fuel : Nat) : rounds (rnd tab FT D5 live 40 qd_lo 0 4) leave (fuel + 1) (qd_4_sl (s, i)) = ((qd_4_step s i)).run (goOn (fun s => rounds (rnd tab FT D5 live 40 qd_lo 0 4) leave fuel (qd_4_sl s)) fun w => some (qd_4_out w)) := by kernel_rfl
theorem qd_f4_eq (s : BS) (i : Int) : qd_f4 s i = bif (letterB ((s.getD (i).toNat 0).toNat : Int) || ((decide (((s.getD (i).toNat 0).toNat : Int) ≥ 48) && decide (((s.getD (i).toNat 0).toNat : Int) ≤ 57)) || ((s.getD (i).toNat 0).toNat : Int) == 95)) then Sum.inl () else Sum.inr (Sum.inl ()) := by
  unfold qd_f4 letterB
  simp only [qr_v, dlt, dgt]
  generalize ((s.getD i.toNat 0).toNat : Int) = c
  generalize decide (c ≥ 65) = p0, decide (c ≤ 90) = p1, decide (c ≥ 97) = p2, decide (c ≤ 122) = p3, decide (c ≥ 48) = p4, decide (c ≤ 57) = p5, (c == 95) = p6
  cases p0 <;> cases p1 <;> cases p2 <;> cases p3 <;> cases p4 <;> cases p5 <;> cases p6 <;> rfl
theorem qd_R4_eq (s : BS)  : qd_R4 s 1 = bif allI (fun i : Nat => (letterB ((s.getD (((i + 1 : Nat) : Int)).toNat 0).toNat : Int) || ((decide (((s.getD (((i + 1 : Nat) : Int)).toNat 0).toNat : Int) ≥ 48) && decide (((s.getD (((i + 1 : Nat) : Int)).toNat 0).toNat : Int) ≤ 57)) || ((s.getD (((i + 1 : Nat) : Int)).toNat 0).toNat : Int) == 95))) (s.length - 1) then Sum.inr () else (Sum.inl ()) := by
  unfold qd_R4
  exact (iter_all (P := (fun i : Nat => (letterB ((s.getD (((i + 1 : Nat) : Int)).toNat 0).toNat : Int) || ((decide (((s.getD (((i + 1 : Nat) : Int)).toNat 0).toNat : Int) ≥ 48) && decide (((s.getD (((i + 1 : Nat) : Int)).toNat 0).toNat : Int) ≤ 57)) || ((s.getD (((i + 1 : Nat) : Int)).toNat 0).toNat : Int) == 95)))) (g := fun _ a => a) (w := Sum.inl ()) fun j a _ => qd_f4_eq s _)
theorem qd_4_h (s : BS) (i : Int) (ow : qd_4_ω) : ((qd_4_fin s i)).val = some ow → ∃ fuel, loopN qd_4_st fuel (s, i) = some ow := by
  refine auto_const (R := (qd_R4 s i)) rfl (iter_onR (f := (fun i a => (qd_f4 s ((i + 1 : Nat) : Int)))) (fin := (fun a => (qd_e4 s))) (Q := endsAs () ()) (fun i a => by unfold qd_f4; exact (onR_bif (onR_bif (onR_bif (onR_bif rfl trivial) trivial) (onR_bif rfl trivial)) trivial)) (fun _ => rfl) _ _ _) ?_
  intro ho
  have ho : is (i = 1 ∧ s.length ≤ 140737488355328) = true := ho.elim id id
  obtain ⟨rfl, hs⟩ := is_iff.1 ho
  skip
  refine ⟨(s.length - 1) + 1, ?_⟩
  refine iter_loop (step := qd_4_st) (s.length - 1) (fun i a => (qd_f4 s ((i + 1 : Nat) : Int))) (fun a => (qd_e4 s)) (fun i a => (s, ((i + 1 : Nat) : Int))) (fun _ _ => True) trivial (fun i a hi hI => ⟨?_, fun _ _ => trivial⟩) (fun a hI => ?_)
  · show (qd_4_step s ((i + 1 : Nat) : Int)).val = _
    unfold qd_4_step qd_f4
    skip
    refine Tr.t (by simp; omega) ?_
    exact (Tr.t (by first | omega | (constructor <;> omega)) (Tr.bf (Tr.t (by first | omega | (constructor <;> omega)) (Tr.bf (Tr.t (by first | omega | (constructor <;> omega)) (Tr.bf (Tr.t (by first | omega | (constructor <;> omega)) (Tr.bf rfl (by rw [Tr.val_ok, wrap64 (i := ((i + 1 : Nat) : Int) + 1) (by omega) (by omega)]; rfl))) (by rw [Tr.val_ok, wrap64 (i := ((i + 1 : Nat) : Int) + 1) (by omega) (by omega)]; rfl))) (Tr.t (by first | omega | (constructor <;> omega)) (Tr.bf rfl (by rw [Tr.val_ok, wrap64 (i := ((i + 1 : Nat) : Int) + 1) (by omega) (by omega)]; rfl))))) (by rw [Tr.val_ok, wrap64 (i := ((i + 1 : Nat) : Int) + 1) (by omega) (by omega)]; rfl)))
  · show (qd_4_step s ((s.length - 1 + 1 : Nat) : Int)).val = _
    refine Tr.n (by first | (simp; done) | (simp; omega) | omega) ?_
    rfl
theorem qd_is4 : LoopIs tab FT D5 live 40 qd_lo 0 4 := by
  refine loop_told (sl := qd_4_sl) (step := qd_4_st) (out := qd_4_out) (lor := qd_lo4) (fin := fun x => (qd_4_fin (x.1) (x.2))) (fun _ => rfl) ?_ (fun x n => qd_4_r x.1 x.2 n) (fun x ow => qd_4_h x.1 x.2 ow)
  intro s t h
  unfold qd_lo4 at h
  split at h
  · cases h; exact ⟨(_, _), rfl, rfl⟩
  · cases h
def qd_t (s : BS) : Tr (Bool) := (.ite (((s.length : Int) == (0 : Int)) = true) (.ok false)
  (.ite ((decide ((s.length : Int) > (12 : Int))) = true) (.ok false)
   (.ite ((0 : Int) ≤ (0 : Int) ∧ (0 : Int) < (s.length : Int)) (.ite ((!(qr_v ((s.getD ((0 : Int)).toNat 0).toNat : Int))) = true) (.ok false)
     (.ite ((qd_k4_1 s (1 : Int)) = true) (.ite ((qd_o4_2 s (1 : Int)) = true) (.ok false)
       .no)
      (.ite ((qd_o4_3 s (1 : Int)) = true) (.ok true)
       .no)))
    .no)))
def qd_mk (p : Bool) : Res := [(false, [⟨.bool, .sh, TC.b p⟩])]
def qd_c (s : BS) : Bool := (bif ((s.length : Int) == (0 : Int)) then true else (bif (decide ((s.length : Int) > (12 : Int))) then true else (is ((0 : Int) ≤ (0 : Int) ∧ (0 : Int) < (s.length : Int)) && (bif (!(qr_v ((s.getD ((0 : Int)).toNat 0).toNat : Int))) then true else (bif (qd_k4_1 s (1 : Int)) then ((qd_o4_2 s (1 : Int)) && true) else ((qd_o4_3 s (1 : Int)) && true))))))
def qd_v (s : BS) : Bool := (bif ((s.length : Int) == (0 : Int)) then false else (bif (decide ((s.length : Int) > (12 : Int))) then false else (bif (!(qr_v ((s.getD ((0 : Int)).toNat 0).toNat : Int))) then false else (bif (qd_k4_1 s (1 : Int)) then false else true))))
theorem qd_l (s : BS) : (qd_c s) = true → (qd_t s).val = some (qd_v s) := by
  unfold qd_t qd_v qd_c
  exact fun h => (Tr.ss h (fun h => rfl) (fun h => (Tr.ss h (fun h => rfl) (fun h => (Tr.gs h fun h => (Tr.ss h (fun h => rfl) (fun h => (Tr.ss h (fun h => (Tr.gb h fun h => rfl)) (fun h => (Tr.gb h fun h => rfl))))))))))
def qd_S : List Arg → Option (Bool × Res) := fun xs => match xs with
  | [(false, [(.str, TC.s s)])] => some ((qd_c s), qd_mk (qd_v s))
  | _ => .none
theorem qd_e (s : BS) : runF tab FT D5 live 40 qd_lo [(false, [(.str, TC.s s)])] = (qd_t s).run fun p => some (qd_mk p) := by kernel_rfl
theorem qd_s : ∀ xs r, qd_S xs = some (true, r) → runF tab FT D5 live 40 qd_lo xs = some r := by
  intro xs r h
  unfold qd_S at h
  split at h
  · obtain ⟨h1, rfl⟩ := sp h
    exact fun_told (qd_e _) (qd_l _) h1
  · cases h
def D6 : Dt := also D5 40 qd_S
theorem d6 : DOk Go.Proofs.Tryd.prog tab D6 := d5.also mixed_ok tab_ok names_ok (fnLoops_one (by kernel_rfl) qd_is4) qd_s
theorem qd_cc {s : BS} (hs : Typed tab (.str) (.s s)) : (qd_c s) = true := by
  unfold qd_c
  refine bifT (fun b1 => ?_) (fun b1 => ?_)
  · skip
    rfl
  · skip
    refine bifT (fun b2 => ?_) (fun b2 => ?_)
    · skip
      rfl
    · skip
      refine andT (is_true (by exact ⟨by omega, by have h2 := ne_of_beq_false b1; omega⟩)) ?_
      refine bifT (fun b3 => ?_) (fun b3 => ?_)
      · skip
        rfl
      · skip
        refine bifT (fun b4 => ?_) (fun b4 => ?_)
        · skip
          refine andT (by exact is_true ⟨rfl, by have := typed_str_len hs; omega⟩) ?_
          rfl
        · skip
          refine andT (by exact is_true ⟨rfl, by have := typed_str_len hs; omega⟩) ?_
          rfl
theorem qd_vv (s : BS) : qd_v s = nameOk s := by
  unfold qd_v qd_k4_1
  rw [qd_R4_eq]
  have e3 : qr_v ((s.getD ((0 : Int)).toNat 0).toNat : Int) = nameB ((0 : Nat) : Int) ((s.getD (((0 : Nat) : Int)).toNat 0).toNat : Int) := by
    unfold qr_v nameB letterB
    generalize ((s.getD ((0 : Int)).toNat 0).toNat : Int) = c
    generalize decide (c ≥ 65) = p1, decide (c ≤ 90) = p2, decide (c ≥ 97) = p3, decide (c ≤ 122) = p4
    cases p1 <;> cases p2 <;> cases p3 <;> cases p4 <;> rfl
  rw [e3]
  cases h0 : s.length with
  | zero =>
    have : s = [] := List.eq_nil_of_length_eq_zero h0
    subst this
    rfl
  | succ n =>
    have e2 : allI (fun i : Nat => nameB ((i + 1 : Nat) : Int) ((s.getD (((i + 1 : Nat) : Int)).toNat 0).toNat : Int)) n = allI (fun i : Nat => (letterB ((s.getD (((i + 1 : Nat) : Int)).toNat 0).toNat : Int) || ((decide (((s.getD (((i + 1 : Nat) : Int)).toNat 0).toNat : Int) ≥ 48) && decide (((s.getD (((i + 1 : Nat) : Int)).toNat 0).toNat : Int) ≤ 57)) || ((s.getD (((i + 1 : Nat) : Int)).toNat 0).toNat : Int) == 95))) n := allI_congr fun i _ => by
      unfold nameB
      rw [show (((i + 1 : Nat) : Int) == 0) = false from by simp; omega]
      rfl
    unfold nameOk
    rw [h0, allI_head, e2, Nat.add_sub_cancel]
    rw [show (((n + 1 : Nat) : Int) == 0) = false from by simp; omega, show decide (((n + 1 : Nat) : Int) ≥ 1) = true from by simp; omega, dgt]
    generalize nameB ((0 : Nat) : Int) ((s.getD (((0 : Nat) : Int)).toNat 0).toNat : Int) = q1
    generalize allI (fun i : Nat => (letterB ((s.getD (((i + 1 : Nat) : Int)).toNat 0).toNat : Int) || ((decide (((s.getD (((i + 1 : Nat) : Int)).toNat 0).toNat : Int) ≥ 48) && decide (((s.getD (((i + 1 : Nat) : Int)).toNat 0).toNat : Int) ≤ 57)) || ((s.getD (((i + 1 : Nat) : Int)).toNat 0).toNat : Int) == 95))) n = q2
    generalize decide (((n + 1 : Nat) : Int) ≤ 12) = q3
    cases q1 <;> cases q2 <;> cases q3 <;> rfl
def qy_t (a0 a1 a2 : Int) : Tr (Bool) := (.ite ((decide (a0 ≥ a1)) = true) (.ok (decide (a0 ≤ a2)))
  (.ok false))
def qy_mk (p : Bool) : Res := [(false, [⟨.bool, .sh, TC.b p⟩])]
def qy_c (a0 a1 a2 : Int) : Bool := true
def qy_v (a0 a1 a2 : Int) : Bool := (bif (decide (a0 ≥ a1)) then (decide (a0 ≤ a2)) else false)
theorem qy_l (a0 a1 a2 : Int) : (qy_c a0 a1 a2) = true → (qy_t a0 a1 a2).val = some (qy_v a0 a1 a2) := by
  intro h
  skip
  unfold qy_t qy_v
  exact (Tr.s rfl rfl)
def qy_S : List Arg → Option (Bool × Res) := fun xs => match xs with
  | [(false, [(.int .i64, TC.i a0)]), (false, [(.int .i64, TC.i a1)]), (false, [(.int .i64, TC.i a2)])] => some (true, qy_mk (qy_v a0 a1 a2))
  | _ => .none
theorem qy_e (a0 a1 a2 : Int) : runF tab FT D6 live 46 noLoops [(false, [(.int .i64, TC.i a0)]), (false, [(.int .i64, TC.i a1)]), (false, [(.int .i64, TC.i a2)])] = (qy_t a0 a1 a2).run fun p => some (qy_mk p) := by kernel_rfl
theorem qy_s : ∀ xs r, qy_S xs = some (true, r) → runF tab FT D6 live 46 noLoops xs = some r := by
  intro xs r h
  unfold qy_S at h
  split at h
  · obtain ⟨h1, rfl⟩ := sp h
    exact fun_told (qy_e ..) (qy_l _ _ _) rfl
  · cases h
def D7 : Dt := also D6 46 qy_S
theorem d7 : DOk Go.Proofs.Tryd.prog tab D7 := d6.also mixed_ok tab_ok names_ok noLoops_ok qy_s
abbrev qb_8_σ := BS × LL × Int × Int
abbrev qb_8_ω := (LL × LL) ⊕ (LL)
def qb_8_step (s : BS) (o : LL) (f i : Int) : Tr (qb_8_σ ⊕ qb_8_ω) := (.ite ((decide (i ≤ (s.length : Int))) = true) (.ite ((decide (i < (s.length : Int))) = true) (.ite ((0 : Int) ≤ i ∧ i < (s.length : Int)) (.ite ((!(((s.getD (i).toNat 0).toNat : Int) == (47 : Int))) = true) (.ok (.inl (s, o, f, (IntKind.wrap .i64 (i + (1 : Int))))))
     (.ite ((0 : Int) ≤ f ∧ f ≤ i ∧ i ≤ (s.length : Int)) (.ite ((qd_c ((s.take (i).toNat).drop (f).toNat)) = true) (.ite ((!(qd_v ((s.take (i).toNat).drop (f).toNat))) = true) (.ok (.inr (.inl ([], o))))
        (.ite ((0 : Int) ≤ f ∧ f ≤ i ∧ i ≤ (s.length : Int)) (.ite (roomFor (tab 9) (o ++ [[TC.s ((s.take (i).toNat).drop (f).toNat)]]).length) (.ok (.inl (s, (o ++ [[TC.s ((s.take (i).toNat).drop (f).toNat)]]), (IntKind.wrap .i64 (i + (1 : Int))), (IntKind.wrap .i64 (i + (1 : Int))))))
          .no)
         .no))
       .no)
      .no))
    .no)
   (.ite ((0 : Int) ≤ f ∧ f ≤ i ∧ i ≤ (s.length : Int)) (.ite ((qd_c ((s.take (i).toNat).drop (f).toNat)) = true) (.ite ((!(qd_v ((s.take (i).toNat).drop (f).toNat))) = true) (.ok (.inr (.inl ([], o))))
      (.ite ((0 : Int) ≤ f ∧ f ≤ i ∧ i ≤ (s.length : Int)) (.ite (roomFor (tab 9) (o ++ [[TC.s ((s.take (i).toNat).drop (f).toNat)]]).length) (.ok (.inl (s, (o ++ [[TC.s ((s.take (i).toNat).drop (f).toNat)]]), (IntKind.wrap .i64 (i + (1 : Int))), (IntKind.wrap .i64 (i + (1 : Int))))))
        .no)
       .no))
     .no)
    .no))
  (.ok (.inr (.inr o))))
def qb_8_st : qb_8_σ → Tr (qb_8_σ ⊕ qb_8_ω) := fun x => (qb_8_step (x.1) (x.2.1) (x.2.2.1) (x.2.2.2))
def qb_k8_1 (s : BS) (o : LL) (f i : Int) : Bool := (pcs (s.drop 1)).all nameOk
def qb_o8_2 (s : BS) (o : LL) (f i : Int) : Bool := is (o = [] ∧ f = 1 ∧ i = 1 ∧ 1 ≤ s.length ∧ s.length ≤ 1048576)
def qb_u8_2 (s : BS) (o : LL) (f i : Int) : LL := rowsS (pcs (s.drop 1))
def qb_o8_3 (s : BS) (o : LL) (f i : Int) : Bool := is (o = [] ∧ f = 1 ∧ i = 1 ∧ 1 ≤ s.length ∧ s.length ≤ 1048576)
def qb_u8_3_0 (s : BS) (o : LL) (f i : Int) : LL := []
def qb_u8_3_1 (s : BS) (o : LL) (f i : Int) : LL := rowsS ((pcs (s.drop 1)).takeWhile nameOk)
def qb_8_fin (s : BS) (o : LL) (f i : Int) : Told qb_8_ω := (.br (qb_k8_1 s o f i) (.leaf (qb_o8_2 s o f i) (.inr (qb_u8_2 s o f i))) (.leaf (qb_o8_3 s o f i) (.inl ((qb_u8_3_0 s o f i), (qb_u8_3_1 s o f i)))))
def qb_8_sl (x : qb_8_σ) : List Slot := [⟨.val false [⟨.str, .sh, TC.s (x.1)⟩], ⟨0, 0⟩⟩, ⟨.val false [⟨.slice 9, .own true, TC.l (x.2.1)⟩], ⟨0, 0⟩⟩, ⟨.val false [⟨.int .i64, .sh, TC.i (x.2.2.1)⟩], ⟨0, 0⟩⟩, ⟨.val false [⟨.int .i64, .sh, TC.i (x.2.2.2)⟩], ⟨0, 0⟩⟩]
def qb_8_out : qb_8_ω → Ex × List Slot := (Sum.elim (fun x => (.ret, [⟨.val false [⟨.slice 9, .own true, TC.l (x.1)⟩], ⟨0, 0⟩⟩, ⟨.val false [⟨.bool, .sh, TC.b false⟩], ⟨0, 0⟩⟩, ⟨.val false [⟨.slice 9, .own true, TC.l (x.2)⟩], ⟨0, 0⟩⟩])) (fun x => (.exit 0, [Slot.none, Slot.none, ⟨.val false [⟨.slice 9, .own true, TC.l x⟩], ⟨0, 0⟩⟩])))
def qb_lo8 : List Slot → Option (Told (Ex × List Slot)) := fun s => match s with
  | [⟨.val false [⟨.str, .sh, TC.s s⟩], ⟨0, 0⟩⟩, ⟨.val false [⟨.slice 9, .own true, TC.l o⟩], ⟨0, 0⟩⟩, ⟨.val false [⟨.int .i64, .sh, TC.i f⟩], ⟨0, 0⟩⟩, ⟨.val false [⟨.int .i64, .sh, TC.i i⟩], ⟨0, 0⟩⟩] => some (((qb_8_fin s o f i)).map qb_8_out)
  | _ => .none
def qb_lo : LoopTeller := fun r s => bif Nat.beq r 8 then qb_lo8 s else .none
theorem qb_8_r (s : BS) (o : LL) (f i : Int) (fuel : Nat) : rounds (rnd tab FT D7 live 24 qb_lo 0 8) leave (fuel + 1) (qb_8_sl (s, o, f, i)) = ((qb_8_step s o f i)).run (goOn (fun s => rounds (rnd tab FT D7 live 24 qb_lo 0 8) leave fuel (qb_8_sl s)) fun w => some (qb_8_out w)) := by kernel_rfl
theorem qb_8_h (s : BS) (o : LL) (f i : Int) (ow : qb_8_ω) : ((qb_8_fin s o f i)).val = some ow → ∃ fuel, loopN qb_8_st fuel (s, o, f, i) = some ow := by
  intro h
  refine auto_br (K := (pcs (s.drop 1)).all nameOk) rfl (fun ho => ?_) h
  have ho := ho.elim id id
  obtain ⟨rfl, rfl, rfl, h0, hs⟩ := is_iff.1 ho
  show ∃ M, loopN qb_8_st M (s, [], 1, 1) = some (bif (pcs (s.drop 1)).all nameOk then .inr (rowsS (pcs (s.drop 1))) else .inl ([], rowsS ((pcs (s.drop 1)).takeWhile nameOk)))
  have hc : ∀ f i, qd_c (piece s f i) = true := fun f i => qd_cc (.str _ (by unfold piece reachBytes; rw [List.length_drop, List.length_take]; omega))
  have key := loopN_pieces (step := qb_8_st) s (fun o => .inr o) (fun o => .inl ([], o)) (fun f i o hi hc7 => ?_) (fun f i o hf hi ho h7 hk => ?_) (fun f i o hf hi h7 hk => ?_) (fun f o => ?_) (s.length - 1) 1 1 [] (Nat.le_refl _) (by omega) (Nat.zero_le _)
  · rw [piece_self, hdl_nil (pcs_ne _), List.nil_append, List.nil_append] at key
    exact key
  · show (qb_8_step s o (f : Int) (i : Int)).val = _
    unfold qb_8_step
    have e7 : (!(((s.getD ((i : Int)).toNat 0).toNat : Int) == (47 : Int))) = true := by
      rw [Int.toNat_natCast, List.getD_eq_getElem?_getD, List.getElem?_eq_getElem hi]
      simp only [Option.getD_some, Bool.not_eq_true', beq_eq_false_iff_ne]
      exact fun e => hc7 (UInt8.toNat_inj.1 (by show s[i].toNat = 47; omega))
    refine Tr.t (by simp; omega) (Tr.t (by simp; omega) (Tr.t (by omega) (Tr.t e7 ?_)))
    rw [Tr.val_ok, wrap64 (i := (i : Int) + 1) (by omega) (by omega)]
    rfl
  · show (qb_8_step s o (f : Int) (i : Int)).val = _
    unfold qb_8_step
    have hv : ¬(!(qd_v (piece s f i))) = true := fun h => nomatch ((show (!(qd_v (piece s f i))) = false from by rw [qd_vv, hk]; rfl).symm.trans h)
    have hr : roomFor (tab 9) (o ++ [[TC.s (piece s f i)]]).length := by
      unfold roomFor
      rw [List.length_append, show (tab 9).bytes = 16 from rfl]
      simp only [List.length_cons, List.length_nil]
      constructor <;> omega
    refine Tr.t (by simp; omega) ?_
    have e7 : i < s.length → ¬(!(((s.getD ((i : Int)).toNat 0).toNat : Int) == (47 : Int))) = true := fun hl => by
      rw [Int.toNat_natCast, List.getD_eq_getElem?_getD, List.getElem?_eq_getElem hl]
      simp only [Option.getD_some, h7 hl]
      decide
    by_cases hl : i < s.length
    · refine Tr.t (by simp; omega) (Tr.t (by omega) (Tr.n (e7 hl) (Tr.t ⟨by omega, by omega, by omega⟩ (Tr.t (hc f i) (Tr.n hv (Tr.t ⟨by omega, by omega, by omega⟩ (Tr.t hr ?_)))))))
      rw [Tr.val_ok, wrap64 (i := (i : Int) + 1) (by omega) (by omega)]
      rfl
    · refine Tr.n (by simp; omega) (Tr.t ⟨by omega, by omega, by omega⟩ (Tr.t (hc f i) (Tr.n hv (Tr.t ⟨by omega, by omega, by omega⟩ (Tr.t hr ?_)))))
      rw [Tr.val_ok, wrap64 (i := (i : Int) + 1) (by omega) (by omega)]
      rfl
  · show (qb_8_step s o (f : Int) (i : Int)).val = _
    unfold qb_8_step
    have hv : (!(qd_v (piece s f i))) = true := by rw [qd_vv, hk]; rfl
    refine Tr.t (by simp; omega) ?_
    have e7 : i < s.length → ¬(!(((s.getD ((i : Int)).toNat 0).toNat : Int) == (47 : Int))) = true := fun hl => by
      rw [Int.toNat_natCast, List.getD_eq_getElem?_getD, List.getElem?_eq_getElem hl]
      simp only [Option.getD_some, h7 hl]
      decide
    by_cases hl : i < s.length
    · exact Tr.t (by simp; omega) (Tr.t (by omega) (Tr.n (e7 hl) (Tr.t ⟨by omega, by omega, by omega⟩ (Tr.t (hc f i) (Tr.t hv rfl)))))
    · exact Tr.n (by simp; omega) (Tr.t ⟨by omega, by omega, by omega⟩ (Tr.t (hc f i) (Tr.t hv rfl)))
  · show (qb_8_step s o (f : Int) ((s.length + 1 : Nat) : Int)).val = _
    unfold qb_8_step
    exact Tr.n (by simp; omega) rfl
theorem qb_is8 : LoopIs tab FT D7 live 24 qb_lo 0 8 := by
  refine loop_told (sl := qb_8_sl) (step := qb_8_st) (out := qb_8_out) (lor := qb_lo8) (fin := fun x => (qb_8_fin (x.1) (x.2.1) (x.2.2.1) (x.2.2.2))) (fun _ => rfl) ?_ (fun x n => qb_8_r x.1 x.2.1 x.2.2.1 x.2.2.2 n) (fun x ow => qb_8_h x.1 x.2.1 x.2.2.1 x.2.2.2 ow)
  intro s t h
  unfold qb_lo8 at h
  split at h
  · cases h; exact ⟨(_, _, _, _), rfl, rfl⟩
  · cases h
def qb_t (s : BS) : Tr (LL × Bool) := (.ite ((s == [47]) = true) (.ok ([], true))
  (.ite ((s == []) = true) (.ok ([], false))
   (.ite ((0 : Int) ≤ (0 : Int) ∧ (0 : Int) < (s.length : Int)) (.ite ((!(((s.getD ((0 : Int)).toNat 0).toNat : Int) == (47 : Int))) = true) (.ok ([], false))
     (.ite ((qb_k8_1 s [] (1 : Int) (1 : Int)) = true) (.ite ((qb_o8_2 s [] (1 : Int) (1 : Int)) = true) (.ite ((decide (((qb_u8_2 s [] (1 : Int) (1 : Int)).length : Int) > (6 : Int))) = true) (.ok ([], false))
        (.ok ((qb_u8_2 s [] (1 : Int) (1 : Int)), true)))
       .no)
      (.ite ((qb_o8_3 s [] (1 : Int) (1 : Int)) = true) (.ok ((qb_u8_3_0 s [] (1 : Int) (1 : Int)), false))
       .no)))
    .no)))
def qb_mk (p : LL × Bool) : Res := [(false, [⟨.slice 9, .own true, TC.l (p.1)⟩]), (false, [⟨.bool, .sh, TC.b (p.2)⟩])]
def qb_c (s : BS) : Bool := (bif (s == [47]) then true else (bif (s == []) then true else (is ((0 : Int) ≤ (0 : Int) ∧ (0 : Int) < (s.length : Int)) && (bif (!(((s.getD ((0 : Int)).toNat 0).toNat : Int) == (47 : Int))) then true else (bif (qb_k8_1 s [] (1 : Int) (1 : Int)) then ((qb_o8_2 s [] (1 : Int) (1 : Int)) && (bif (decide (((qb_u8_2 s [] (1 : Int) (1 : Int)).length : Int) > (6 : Int))) then true else true)) else ((qb_o8_3 s [] (1 : Int) (1 : Int)) && true))))))
def qb_v (s : BS) : LL × Bool := (bif (s == [47]) then ([], true) else (bif (s == []) then ([], false) else (bif (!(((s.getD ((0 : Int)).toNat 0).toNat : Int) == (47 : Int))) then ([], false) else (bif (qb_k8_1 s [] (1 : Int) (1 : Int)) then (bif (decide (((qb_u8_2 s [] (1 : Int) (1 : Int)).length : Int) > (6 : Int))) then ([], false) else ((qb_u8_2 s [] (1 : Int) (1 : Int)), true)) else ((qb_u8_3_0 s [] (1 : Int) (1 : Int)), false)))))
theorem qb_l (s : BS) : (qb_c s) = true → (qb_t s).val = some (qb_v s) := by
  unfold qb_t qb_v qb_c
  exact fun h => (Tr.ss h (fun h => rfl) (fun h => (Tr.ss h (fun h => rfl) (fun h => (Tr.gs h fun h => (Tr.ss h (fun h => rfl) (fun h => (Tr.ss h (fun h => (Tr.gb h fun h => (Tr.ss h (fun h => rfl) (fun h => rfl)))) (fun h => (Tr.gb h fun h => rfl))))))))))
def qb_S : List Arg → Option (Bool × Res) := fun xs => match xs with
  | [(false, [(.str, TC.s s)])] => some ((qb_c s), qb_mk (qb_v s))
  | _ => .none
theorem qb_e (s : BS) : runF tab FT D7 live 24 qb_lo [(false, [(.str, TC.s s)])] = (qb_t s).run fun p => some (qb_mk p) := by kernel_rfl
theorem qb_s : ∀ xs r, qb_S xs = some (true, r) → runF tab FT D7 live 24 qb_lo xs = some r := by
  intro xs r h
  unfold qb_S at h
  split at h
  · obtain ⟨h1, rfl⟩ := sp h
    exact fun_told (qb_e _) (qb_l _) h1
  · cases h
def D8 : Dt := also D7 24 qb_S
theorem d8 : DOk Go.Proofs.Tryd.prog tab D8 := d7.also mixed_ok tab_ok names_ok (fnLoops_one (by kernel_rfl) qb_is8) qb_s
theorem qb_cc {s : BS} (hs : s.length ≤ 1048576) : (qb_c s) = true := by
  unfold qb_c
  refine bifT (fun b1 => ?_) (fun b1 => ?_)
  · skip
    rfl
  · skip
    refine bifT (fun b2 => ?_) (fun b2 => ?_)
    · skip
      rfl
    · skip
      refine andT (is_true (by cases s with | nil => cases b2 | cons => first | (simp; done) | (simp; omega))) ?_
      refine bifT (fun b3 => ?_) (fun b3 => ?_)
      · skip
        rfl
      · skip
        refine bifT (fun b4 => ?_) (fun b4 => ?_)
        · skip
          refine andT (by exact is_true ⟨rfl, rfl, rfl, by cases s with | nil => cases b2 | cons => simp, hs⟩) ?_
          refine bifT (fun b5 => ?_) (fun b5 => ?_)
          · skip
            rfl
          · skip
            rfl
        · skip
          refine andT (by exact is_true ⟨rfl, rfl, rfl, by cases s with | nil => cases b2 | cons => simp, hs⟩) ?_
          rfl
theorem pathE_ (s : BS) : (((s.getD ((0 : Int)).toNat 0).toNat : Int) == (47 : Int)) = (s.getD 0 0 == 47) := by
  rw [show ((0 : Int)).toNat = 0 from rfl, Bool.eq_iff_iff]
  simp only [beq_iff_eq]
  constructor
  · intro h; exact UInt8.toNat_inj.1 (by show (s.getD 0 0).toNat = 47; omega)
  · intro h; rw [h]; rfl
theorem qb_vv (s : BS) : qb_v s = (pathV s, pathB s) := by
  unfold qb_v
  rw [show qb_k8_1 s [] (1 : Int) (1 : Int) = (pcs (s.drop 1)).all nameOk from rfl, show qb_u8_2 s [] (1 : Int) (1 : Int) = rowsS (pcs (s.drop 1)) from rfl, show qb_u8_3_0 s [] (1 : Int) (1 : Int) = [] from rfl, pathE_]
  unfold pathV pathB
  cases h : s == [47] with
  | true =>
    have := eq_of_beq h
    subst this
    rfl
  | false =>
    have e2 : decide (((rowsS (pcs (s.drop 1))).length : Int) > 6) = !decide ((pcs (s.drop 1)).length ≤ 6) := by
      rw [← decide_not]; exact decide_eq_decide.2 (by unfold rowsS; rw [List.length_map]; omega)
    rw [e2]
    generalize (s == []) = p1, (s.getD 0 0 == 47) = p2, (pcs (s.drop 1)).all nameOk = p3, decide ((pcs (s.drop 1)).length ≤ 6) = p4
    cases p1 <;> cases p2 <;> cases p3 <;> cases p4 <;> rfl
def qq_t (a0 : BS) : Tr (Bool) := (.ite ((qb_c a0) = true) (.ok ((qb_v a0).2))
  .no)
def qq_mk (p : Bool) : Res := [(false, [⟨.bool, .sh, TC.b p⟩])]
def qq_c (a0 : BS) : Bool := (qb_c a0)
def qq_v (a0 : BS) : Bool := (qb_v a0).2
theorem qq_l (a0 : BS) : (qq_c a0) = true → (qq_t a0).val = some (qq_v a0) := by
  intro h
  have hc0 : (qb_c a0) = true := h
  unfold qq_t
  exact (Tr.t hc0 rfl)
def qq_S : List Arg → Option (Bool × Res) := fun xs => match xs with
  | [(false, [(.str, TC.s a0)])] => some ((qq_c a0), qq_mk (qq_v a0))
  | _ => .none
theorem qq_e (a0 : BS) : runF tab FT D8 live 7 noLoops [(false, [(.str, TC.s a0)])] = (qq_t a0).run fun p => some (qq_mk p) := by kernel_rfl
theorem qq_s : ∀ xs r, qq_S xs = some (true, r) → runF tab FT D8 live 7 noLoops xs = some r := by
  intro xs r h
  unfold qq_S at h
  split at h
  · obtain ⟨h1, rfl⟩ := sp h
    exact fun_told (qq_e _) (qq_l _) h1
  · cases h
def D9 : Dt := also D8 7 qq_S
theorem d9 : DOk Go.Proofs.Tryd.prog tab D9 := d8.also mixed_ok tab_ok names_ok noLoops_ok qq_s
theorem lnIn_s {a : Int} : qy_v a 1 255 = lnIn a := rfl
def qf_f2 (A : LL) (i : Int) : (Unit) ⊕ ((LL) ⊕ (LL)) := (bif (!(qd_v ((nth (row A i) 0).str))) then (.inr (.inl A)) else (bif (decide (i > (0 : Int))) then (bif (!(bytesLess ((nth (row A (IntKind.wrap .i64 (i - (1 : Int)))) 0).str) ((nth (row A i) 0).str))) then (.inr (.inl A)) else (bif ((nth (row A i) 2).str == []) then (bif (!(qy_v ((nth (row A i) 1).int) (1 : Int) (255 : Int))) then (.inr (.inl A)) else (bif (!((nth (row A i) 2).str == [])) then (bif (!((nth (row A i) 1).int == (0 : Int))) then (.inr (.inl A)) else (bif (!(qq_v ((nth (row A i) 2).str))) then (.inr (.inl A)) else (.inl ()))) else (.inl ()))) else (bif (!((nth (row A i) 2).str == [])) then (bif (!((nth (row A i) 1).int == (0 : Int))) then (.inr (.inl A)) else (bif (!(qq_v ((nth (row A i) 2).str))) then (.inr (.inl A)) else (.inl ()))) else (.inl ())))) else (bif ((nth (row A i) 2).str == []) then (bif (!(qy_v ((nth (row A i) 1).int) (1 : Int) (255 : Int))) then (.inr (.inl A)) else (bif (!((nth (row A i) 2).str == [])) then (bif (!((nth (row A i) 1).int == (0 : Int))) then (.inr (.inl A)) else (bif (!(qq_v ((nth (row A i) 2).str))) then (.inr (.inl A)) else (.inl ()))) else (.inl ()))) else (bif (!((nth (row A i) 2).str == [])) then (bif (!((nth (row A i) 1).int == (0 : Int))) then (.inr (.inl A)) else (bif (!(qq_v ((nth (row A i) 2).str))) then (.inr (.inl A)) else (.inl ()))) else (.inl ())))))
def qf_e2 (A : LL) : (LL) ⊕ (LL) := .inr A
def qf_R2 (A : LL) (i : Int) : (LL) ⊕ (LL) := iter (fun i a => (qf_f2 A (i : Int))) (fun a => (qf_e2 A)) (A.length) 0 ()
abbrev qf_2_σ := LL × Int
abbrev qf_2_ω := (LL) ⊕ (LL)
def qf_2_step (A : LL) (i : Int) : Tr (qf_2_σ ⊕ qf_2_ω) := (.ite ((decide (i < (A.length : Int))) = true) (.ite ((0 : Int) ≤ i ∧ i < (A.length : Int)) (.ite ((qd_c ((nth (row A i) 0).str)) = true) (.ite ((!(qd_v ((nth (row A i) 0).str))) = true) (.ok (.inr (.inl A)))
     (.ite ((decide (i > (0 : Int))) = true) (.ite ((0 : Int) ≤ (IntKind.wrap .i64 (i - (1 : Int))) ∧ (IntKind.wrap .i64 (i - (1 : Int))) < (A.length : Int)) (.ite ((!(bytesLess ((nth (row A (IntKind.wrap .i64 (i - (1 : Int)))) 0).str) ((nth (row A i) 0).str))) = true) (.ok (.inr (.inl A)))
        (.ite (((nth (row A i) 2).str == []) = true) (.ite ((!(qy_v ((nth (row A i) 1).int) (1 : Int) (255 : Int))) = true) (.ok (.inr (.inl A)))
          (.ite ((!((nth (row A i) 2).str == [])) = true) (.ite ((!((nth (row A i) 1).int == (0 : Int))) = true) (.ok (.inr (.inl A)))
            (.ite ((qq_c ((nth (row A i) 2).str)) = true) (.ite ((!(qq_v ((nth (row A i) 2).str))) = true) (.ok (.inr (.inl A)))
              (.ok (.inl (A, (IntKind.wrap .i64 (i + (1 : Int)))))))
             .no))
           (.ok (.inl (A, (IntKind.wrap .i64 (i + (1 : Int))))))))
         (.ite ((!((nth (row A i) 2).str == [])) = true) (.ite ((!((nth (row A i) 1).int == (0 : Int))) = true) (.ok (.inr (.inl A)))
           (.ite ((qq_c ((nth (row A i) 2).str)) = true) (.ite ((!(qq_v ((nth (row A i) 2).str))) = true) (.ok (.inr (.inl A)))
             (.ok (.inl (A, (IntKind.wrap .i64 (i + (1 : Int)))))))
            .no))
          (.ok (.inl (A, (IntKind.wrap .i64 (i + (1 : Int)))))))))
       .no)
      (.ite (((nth (row A i) 2).str == []) = true) (.ite ((!(qy_v ((nth (row A i) 1).int) (1 : Int) (255 : Int))) = true) (.ok (.inr (.inl A)))
        (.ite ((!((nth (row A i) 2).str == [])) = true) (.ite ((!((nth (row A i) 1).int == (0 : Int))) = true) (.ok (.inr (.inl A)))
          (.ite ((qq_c ((nth (row A i) 2).str)) = true) (.ite ((!(qq_v ((nth (row A i) 2).str))) = true) (.ok (.inr (.inl A)))
            (.ok (.inl (A, (IntKind.wrap .i64 (i + (1 : Int)))))))
           .no))
         (.ok (.inl (A, (IntKind.wrap .i64 (i + (1 : Int))))))))
       (.ite ((!((nth (row A i) 2).str == [])) = true) (.ite ((!((nth (row A i) 1).int == (0 : Int))) = true) (.ok (.inr (.inl A)))
         (.ite ((qq_c ((nth (row A i) 2).str)) = true) (.ite ((!(qq_v ((nth (row A i) 2).str))) = true) (.ok (.inr (.inl A)))
           (.ok (.inl (A, (IntKind.wrap .i64 (i + (1 : Int)))))))
          .no))
        (.ok (.inl (A, (IntKind.wrap .i64 (i + (1 : Int))))))))))
    .no)
   .no)
  (.ok (.inr (.inr A))))
def qf_2_st : qf_2_σ → Tr (qf_2_σ ⊕ qf_2_ω) := fun x => (qf_2_step (x.1) (x.2))
def qf_k2_1 (A : LL) (i : Int) : Bool := sumIs (qf_R2 A i)
def qf_o2_2 (A : LL) (i : Int) : Bool := is (i = 0 ∧ Typed tab (.slice 48) (.l A) ∧ PathsOk A)
def qf_o2_3 (A : LL) (i : Int) : Bool := is (i = 0 ∧ Typed tab (.slice 48) (.l A) ∧ PathsOk A)
def qf_2_fin (A : LL) (i : Int) : Told qf_2_ω := (.br (qf_k2_1 A i) (.leaf (qf_o2_2 A i) (.inl A)) (.leaf (qf_o2_3 A i) (.inr A)))
def qf_2_sl (x : qf_2_σ) : List Slot := [⟨.val false [⟨.slice 48, .sh, TC.l (x.1)⟩], ⟨0, 0⟩⟩, ⟨.val false [⟨.int .i64, .sh, TC.i (x.2)⟩], ⟨0, 0⟩⟩]
def qf_2_out : qf_2_ω → Ex × List Slot := (Sum.elim (fun x => (.ret, [⟨.val false [⟨.slice 48, .sh, TC.l x⟩], ⟨0, 0⟩⟩, ⟨.val false [⟨.bool, .sh, TC.b false⟩], ⟨0, 0⟩⟩])) (fun x => (.exit 0, [⟨.val false [⟨.slice 48, .sh, TC.l x⟩], ⟨0, 0⟩⟩, Slot.none])))
def qf_lo2 : List Slot → Option (Told (Ex × List Slot)) := fun s => match s with
  | [⟨.val false [⟨.slice 48, .sh, TC.l A⟩], ⟨0, 0⟩⟩, ⟨.val false [⟨.int .i64, .sh, TC.i i⟩], ⟨0, 0⟩⟩] => some (((qf_2_fin A i)).map qf_2_out)
  | _ => .none
def qf_lo : LoopTeller := fun r s => bif Nat.beq r 2 then qf_lo2 s else .none
theorem qf_2_r (A : LL) (i : Int) (fuel : Nat) : rounds (rnd tab FT D9 live 28 qf_lo 0 2) leave (fuel + 1) (qf_2_sl (A, i)) = ((qf_2_step A i)).run (goOn (fun s => rounds (rnd tab FT D9 live 28 qf_lo 0 2) leave fuel (qf_2_sl s)) fun w => some (qf_2_out w)) := by kernel_rfl
theorem qf_f2_eq (A : LL) (i : Int) : qf_f2 A i = bif linkP A i then Sum.inl () else Sum.inr (Sum.inl A) := by
  unfold qf_f2 linkP linkB qq_v
  simp only [qd_vv, qb_vv, lnIn_s]
  generalize nameOk (nth (row A i) 0).str = p0, decide (i > (0 : Int)) = p1, bytesLess (nth (row A (IntKind.wrap .i64 (i - (1 : Int)))) 0).str (nth (row A i) 0).str = p2, ((nth (row A i) 2).str == []) = p3, ((nth (row A i) 1).int == 0) = p4, pathB (nth (row A i) 2).str = p5, lnIn (nth (row A i) 1).int = p6
  cases p0 <;> cases p1 <;> cases p2 <;> cases p3 <;> cases p4 <;> cases p5 <;> cases p6 <;> rfl
theorem qf_R2_eq (A : LL)  : qf_R2 A 0 = bif allI (fun i : Nat => linkP A (i : Int)) (A.length) then Sum.inr A else (Sum.inl A) := by
  unfold qf_R2
  exact (iter_all (P := (fun i : Nat => linkP A (i : Int))) (g := fun _ a => a) (w := Sum.inl A) fun j a _ => qf_f2_eq A _)
theorem qf_2_h (A : LL) (i : Int) (ow : qf_2_ω) : ((qf_2_fin A i)).val = some ow → ∃ fuel, loopN qf_2_st fuel (A, i) = some ow := by
  refine auto_const (R := (qf_R2 A i)) rfl (iter_onR (f := (fun i a => (qf_f2 A (i : Int)))) (fin := (fun a => (qf_e2 A))) (Q := endsAs A A) (fun i a => by unfold qf_f2; exact (onR_bif rfl (onR_bif (onR_bif rfl (onR_bif (onR_bif rfl (onR_bif (onR_bif rfl (onR_bif rfl trivial)) trivial)) (onR_bif (onR_bif rfl (onR_bif rfl trivial)) trivial))) (onR_bif (onR_bif rfl (onR_bif (onR_bif rfl (onR_bif rfl trivial)) trivial)) (onR_bif (onR_bif rfl (onR_bif rfl trivial)) trivial))))) (fun _ => rfl) _ _ _) ?_
  intro ho
  have ho : is (i = 0 ∧ Typed tab (.slice 48) (.l A) ∧ PathsOk A) = true := ho.elim id id
  obtain ⟨rfl, ht, hP⟩ := is_iff.1 ho
  have hlen : A.length ≤ 140737488351232 := by have := typed_room ht; simp only [show (tab 48).bytes = 40 from rfl] at this; omega
  refine ⟨(A.length) + 1, ?_⟩
  refine iter_loop (step := qf_2_st) (A.length) (fun i a => (qf_f2 A (i : Int))) (fun a => (qf_e2 A)) (fun i a => (A, (i : Int))) (fun _ _ => True) trivial (fun i a hi hI => ⟨?_, fun _ _ => trivial⟩) (fun a hI => ?_)
  · show (qf_2_step A (i : Int)).val = _
    unfold qf_2_step qf_f2
    have c0 : Typed tab (.str) (.s (nth (A.getD i []) 0).str) := typed_s (typed_cell ht (A.getD i []) (mem_getD hi) 0 (by decide))
    have c2 : Typed tab (.str) (.s (nth (A.getD i []) 2).str) := typed_s (typed_cell ht (A.getD i []) (mem_getD hi) 2 (by decide))
    refine Tr.t (by simp; omega) ?_
    exact (Tr.t (by first | omega | (constructor <;> omega) | (simp only [decide_eq_true_eq] at *; rw [wrap64 (by omega) (by omega)]; constructor <;> omega) | (exact qb_cc (hP _ (mem_getD (by omega))))) (Tr.t (by first | (simp only [decide_eq_true_eq] at *; rw [wrap64 (by omega) (by omega)]; constructor <;> omega) | (exact qb_cc (hP _ (mem_getD (by omega)))) | (first | (apply qd_cc <;> assumption) | (first | (apply is_true; and_intros <;> (first | rfl | assumption | (apply qd_cc <;> assumption) | (apply qb_cc <;> assumption) | (first | (apply is_true; and_intros <;> (first | rfl | assumption | (apply qd_cc <;> assumption) | (apply qb_cc <;> assumption))) | (apply qd_cc <;> assumption) | (apply qb_cc <;> assumption)))) | (apply qd_cc <;> assumption) | (apply qb_cc <;> assumption)))) (Tr.bh (fun _ => rfl) (fun _ => (Tr.bh (fun _ => (Tr.t (by first | omega | (constructor <;> omega) | (simp only [decide_eq_true_eq] at *; rw [wrap64 (by omega) (by omega)]; constructor <;> omega) | (exact qb_cc (hP _ (mem_getD (by omega))))) (Tr.bh (fun _ => rfl) (fun _ => (Tr.bh (fun _ => (Tr.bh (fun _ => rfl) (fun _ => (Tr.bh (fun _ => (Tr.bh (fun _ => rfl) (fun _ => (Tr.t (by first | (simp only [decide_eq_true_eq] at *; rw [wrap64 (by omega) (by omega)]; constructor <;> omega) | (exact qb_cc (hP _ (mem_getD (by omega)))) | (first | (apply is_true; and_intros <;> (first | rfl | assumption | (apply qd_cc <;> assumption) | (apply qb_cc <;> assumption) | (first | (apply is_true; and_intros <;> (first | rfl | assumption | (apply qd_cc <;> assumption) | (apply qb_cc <;> assumption) | (first | (apply is_true; and_intros <;> (first | rfl | assumption | (apply qd_cc <;> assumption) | (apply qb_cc <;> assumption))) | (apply qd_cc <;> assumption) | (apply qb_cc <;> assumption)))) | (apply qd_cc <;> assumption) | (apply qb_cc <;> assumption)))) | (apply qd_cc <;> assumption) | (apply qb_cc <;> assumption))) (Tr.bh (fun _ => rfl) (fun _ => (by rw [Tr.val_ok, wrap64 (i := (i : Int) + 1) (by omega) (by omega)]; rfl))))))) (fun _ => (by rw [Tr.val_ok, wrap64 (i := (i : Int) + 1) (by omega) (by omega)]; rfl)))))) (fun _ => (Tr.bh (fun _ => (Tr.bh (fun _ => rfl) (fun _ => (Tr.t (by first | (simp only [decide_eq_true_eq] at *; rw [wrap64 (by omega) (by omega)]; constructor <;> omega) | (exact qb_cc (hP _ (mem_getD (by omega)))) | (first | (apply is_true; and_intros <;> (first | rfl | assumption | (apply qd_cc <;> assumption) | (apply qb_cc <;> assumption) | (first | (apply is_true; and_intros <;> (first | rfl | assumption | (apply qd_cc <;> assumption) | (apply qb_cc <;> assumption) | (first | (apply is_true; and_intros <;> (first | rfl | assumption | (apply qd_cc <;> assumption) | (apply qb_cc <;> assumption))) | (apply qd_cc <;> assumption) | (apply qb_cc <;> assumption)))) | (apply qd_cc <;> assumption) | (apply qb_cc <;> assumption)))) | (apply qd_cc <;> assumption) | (apply qb_cc <;> assumption))) (Tr.bh (fun _ => rfl) (fun _ => (by rw [Tr.val_ok, wrap64 (i := (i : Int) + 1) (by omega) (by omega)]; rfl))))))) (fun _ => (by rw [Tr.val_ok, wrap64 (i := (i : Int) + 1) (by omega) (by omega)]; rfl))))))))) (fun _ => (Tr.bh (fun _ => (Tr.bh (fun _ => rfl) (fun _ => (Tr.bh (fun _ => (Tr.bh (fun _ => rfl) (fun _ => (Tr.t (by first | (simp only [decide_eq_true_eq] at *; rw [wrap64 (by omega) (by omega)]; constructor <;> omega) | (exact qb_cc (hP _ (mem_getD (by omega)))) | (first | (apply is_true; and_intros <;> (first | rfl | assumption | (apply qd_cc <;> assumption) | (apply qb_cc <;> assumption) | (first | (apply is_true; and_intros <;> (first | rfl | assumption | (apply qd_cc <;> assumption) | (apply qb_cc <;> assumption) | (first | (apply is_true; and_intros <;> (first | rfl | assumption | (apply qd_cc <;> assumption) | (apply qb_cc <;> assumption))) | (apply qd_cc <;> assumption) | (apply qb_cc <;> assumption)))) | (apply qd_cc <;> assumption) | (apply qb_cc <;> assumption)))) | (apply qd_cc <;> assumption) | (apply qb_cc <;> assumption))) (Tr.bh (fun _ => rfl) (fun _ => (by rw [Tr.val_ok, wrap64 (i := (i : Int) + 1) (by omega) (by omega)]; rfl))))))) (fun _ => (by rw [Tr.val_ok, wrap64 (i := (i : Int) + 1) (by omega) (by omega)]; rfl)))))) (fun _ => (Tr.bh (fun _ => (Tr.bh (fun _ => rfl) (fun _ => (Tr.t (by first | (simp only [decide_eq_true_eq] at *; rw [wrap64 (by omega) (by omega)]; constructor <;> omega) | (exact qb_cc (hP _ (mem_getD (by omega)))) | (first | (apply is_true; and_intros <;> (first | rfl | assumption | (apply qd_cc <;> assumption) | (apply qb_cc <;> assumption) | (first | (apply is_true; and_intros <;> (first | rfl | assumption | (apply qd_cc <;> assumption) | (apply qb_cc <;> assumption) | (first | (apply is_true; and_intros <;> (first | rfl | assumption | (apply qd_cc <;> assumption) | (apply qb_cc <;> assumption))) | (apply qd_cc <;> assumption) | (apply qb_cc <;> assumption)))) | (apply qd_cc <;> assumption) | (apply qb_cc <;> assumption)))) | (apply qd_cc <;> assumption) | (apply qb_cc <;> assumption))) (Tr.bh (fun _ => rfl) (fun _ => (by rw [Tr.val_ok, wrap64 (i := (i : Int) + 1) (by omega) (by omega)]; rfl))))))) (fun _ => (by rw [Tr.val_ok, wrap64 (i := (i : Int) + 1) (by omega) (by omega)]; rfl)))))))))))
  · show (qf_2_step A (A.length : Int)).val = _
    refine Tr.n (by first | (simp; done) | (simp; omega) | omega) ?_
    rfl
theorem qf_is2 : LoopIs tab FT D9 live 28 qf_lo 0 2 := by
  refine loop_told (sl := qf_2_sl) (step := qf_2_st) (out := qf_2_out) (lor := qf_lo2) (fin := fun x => (qf_2_fin (x.1) (x.2))) (fun _ => rfl) ?_ (fun x n => qf_2_r x.1 x.2 n) (fun x ow => qf_2_h x.1 x.2 ow)
  intro s t h
  unfold qf_lo2 at h
  split at h
  · cases h; exact ⟨(_, _), rfl, rfl⟩
  · cases h
def qf_t (A : LL) : Tr (Bool) := (.ite ((qf_k2_1 A (0 : Int)) = true) (.ite ((qf_o2_2 A (0 : Int)) = true) (.ok false)
   .no)
  (.ite ((qf_o2_3 A (0 : Int)) = true) (.ok (decide ((A.length : Int) ≤ (12 : Int))))
   .no))
def qf_mk (p : Bool) : Res := [(false, [⟨.bool, .sh, TC.b p⟩])]
def qf_c (A : LL) : Bool := (bif (qf_k2_1 A (0 : Int)) then ((qf_o2_2 A (0 : Int)) && true) else ((qf_o2_3 A (0 : Int)) && true))
def qf_v (A : LL) : Bool := (bif (qf_k2_1 A (0 : Int)) then false else (decide ((A.length : Int) ≤ (12 : Int))))
theorem qf_l (A : LL) : (qf_c A) = true → (qf_t A).val = some (qf_v A) := by
  unfold qf_t qf_v qf_c
  exact fun h => (Tr.ss h (fun h => (Tr.gb h fun h => rfl)) (fun h => (Tr.gb h fun h => rfl)))
def qf_S : List Arg → Option (Bool × Res) := fun xs => match xs with
  | [(false, [(.slice 48, TC.l A)])] => some ((qf_c A), qf_mk (qf_v A))
  | _ => .none
theorem qf_e (A : LL) : runF tab FT D9 live 28 qf_lo [(false, [(.slice 48, TC.l A)])] = (qf_t A).run fun p => some (qf_mk p) := by kernel_rfl
theorem qf_s : ∀ xs r, qf_S xs = some (true, r) → runF tab FT D9 live 28 qf_lo xs = some r := by
  intro xs r h
  unfold qf_S at h
  split at h
  · obtain ⟨h1, rfl⟩ := sp h
    exact fun_told (qf_e _) (qf_l _) h1
  · cases h
def D10 : Dt := also D9 28 qf_S
theorem d10 : DOk Go.Proofs.Tryd.prog tab D10 := d9.also mixed_ok tab_ok names_ok (fnLoops_one (by kernel_rfl) qf_is2) qf_s
theorem qf_cc {A : LL} (hA : Typed tab (.slice 48) (.l A)) (hP : PathsOk A) : (qf_c A) = true := by
  unfold qf_c
  refine bifT (fun b1 => ?_) (fun b1 => ?_)
  · skip
    refine andT (by exact is_true ⟨rfl, hA, hP⟩) ?_
    rfl
  · skip
    refine andT (by exact is_true ⟨rfl, hA, hP⟩) ?_
    rfl
theorem qf_vv (A : LL) : qf_v A = linksB A := by
  unfold qf_v qf_k2_1
  rw [qf_R2_eq]
  unfold linksB
  rw [show decide ((A.length : Int) ≤ 12) = decide (A.length ≤ 12) from decide_eq_decide.2 (by omega)]
  generalize allI (fun i : Nat => linkP A (i : Int)) A.length = p1, decide (A.length ≤ 12) = p2
  cases p1 <;> cases p2 <;> rfl
def qs_t (a0 : LL) : Tr (Bool) := (.ite ((qf_c a0) = true) (.ok (qf_v a0))
  .no)
def qs_mk (p : Bool) : Res := [(false, [⟨.bool, .sh, TC.b p⟩])]
def qs_c (a0 : LL) : Bool := (qf_c a0)
def qs_v (a0 : LL) : Bool := (qf_v a0)
theorem qs_l (a0 : LL) : (qs_c a0) = true → (qs_t a0).val = some (qs_v a0) := by
  intro h
  have hc0 : (qf_c a0) = true := h
  unfold qs_t
  exact (Tr.t hc0 rfl)
def qs_S : List Arg → Option (Bool × Res) := fun xs => match xs with
  | [(false, [(.slice 48, TC.l a0)])] => some ((qs_c a0), qs_mk (qs_v a0))
  | _ => .none
theorem qs_e (a0 : LL) : runF tab FT D10 live 15 noLoops [(false, [(.slice 48, TC.l a0)])] = (qs_t a0).run fun p => some (qs_mk p) := by kernel_rfl
theorem qs_s : ∀ xs r, qs_S xs = some (true, r) → runF tab FT D10 live 15 noLoops xs = some r := by
  intro xs r h
  unfold qs_S at h
  split at h
  · obtain ⟨h1, rfl⟩ := sp h
    exact fun_told (qs_e _) (qs_l _) h1
  · cases h
def D11 : Dt := also D10 15 qs_S
theorem d11 : DOk Go.Proofs.Tryd.prog tab D11 := d10.also mixed_ok tab_ok names_ok noLoops_ok qs_s
def qe_f2 (s : BS) (m i : Int) : (Unit) ⊕ ((BS) ⊕ (BS)) := (bif (decide (((s.getD (i).toNat 0).toNat : Int) ≥ (65 : Int))) then (bif (decide (((s.getD (i).toNat 0).toNat : Int) ≤ (90 : Int))) then (.inl ()) else (bif (decide (((s.getD (i).toNat 0).toNat : Int) ≥ (97 : Int))) then (bif (!(decide (((s.getD (i).toNat 0).toNat : Int) ≤ (122 : Int)))) then (bif (i == (0 : Int)) then (.inr (.inl s)) else (bif (decide (((s.getD (i).toNat 0).toNat : Int) < (48 : Int))) then (bif (!(((s.getD (i).toNat 0).toNat : Int) == (95 : Int))) then (.inr (.inl s)) else (.inl ())) else (bif (decide (((s.getD (i).toNat 0).toNat : Int) > (57 : Int))) then (bif (!(((s.getD (i).toNat 0).toNat : Int) == (95 : Int))) then (.inr (.inl s)) else (.inl ())) else (.inl ())))) else (.inl ())) else (bif (i == (0 : Int)) then (.inr (.inl s)) else (bif (decide (((s.getD (i).toNat 0).toNat : Int) < (48 : Int))) then (bif (!(((s.getD (i).toNat 0).toNat : Int) == (95 : Int))) then (.inr (.inl s)) else (.inl ())) else (bif (decide (((s.getD (i).toNat 0).toNat : Int) > (57 : Int))) then (bif (!(((s.getD (i).toNat 0).toNat : Int) == (95 : Int))) then (.inr (.inl s)) else (.inl ())) else (.inl ())))))) else (bif (decide (((s.getD (i).toNat 0).toNat : Int) ≥ (97 : Int))) then (bif (!(decide (((s.getD (i).toNat 0).toNat : Int) ≤ (122 : Int)))) then (bif (i == (0 : Int)) then (.inr (.inl s)) else (bif (decide (((s.getD (i).toNat 0).toNat : Int) < (48 : Int))) then (bif (!(((s.getD (i).toNat 0).toNat : Int) == (95 : Int))) then (.inr (.inl s)) else (.inl ())) else (bif (decide (((s.getD (i).toNat 0).toNat : Int) > (57 : Int))) then (bif (!(((s.getD (i).toNat 0).toNat : Int) == (95 : Int))) then (.inr (.inl s)) else (.inl ())) else (.inl ())))) else (.inl ())) else (bif (i == (0 : Int)) then (.inr (.inl s)) else (bif (decide (((s.getD (i).toNat 0).toNat : Int) < (48 : Int))) then (bif (!(((s.getD (i).toNat 0).toNat : Int) == (95 : Int))) then (.inr (.inl s)) else (.inl ())) else (bif (decide (((s.getD (i).toNat 0).toNat : Int) > (57 : Int))) then (bif (!(((s.getD (i).toNat 0).toNat : Int) == (95 : Int))) then (.inr (.inl s)) else (.inl ())) else (.inl ()))))))
def qe_e2 (s : BS) (m : Int) : (BS) ⊕ (BS) := .inr s
def qe_R2 (s : BS) (m i : Int) : (BS) ⊕ (BS) := iter (fun i a => (qe_f2 s m (i : Int))) (fun a => (qe_e2 s m)) (s.length) 0 ()
abbrev qe_2_σ := BS × Int × Int
abbrev qe_2_ω := (BS) ⊕ (BS)
def qe_2_step (s : BS) (m i : Int) : Tr (qe_2_σ ⊕ qe_2_ω) := (.ite ((decide (i < m)) = true) (.ite ((0 : Int) ≤ i ∧ i < (s.length : Int)) (.ite ((decide (((s.getD (i).toNat 0).toNat : Int) ≥ (65 : Int))) = true) (.ite ((decide (((s.getD (i).toNat 0).toNat : Int) ≤ (90 : Int))) = true) (.ok (.inl (s, m, (IntKind.wrap .i64 (i + (1 : Int))))))
     (.ite ((decide (((s.getD (i).toNat 0).toNat : Int) ≥ (97 : Int))) = true) (.ite ((!(decide (((s.getD (i).toNat 0).toNat : Int) ≤ (122 : Int)))) = true) (.ite ((i == (0 : Int)) = true) (.ok (.inr (.inl s)))
        (.ite ((decide (((s.getD (i).toNat 0).toNat : Int) < (48 : Int))) = true) (.ite ((!(((s.getD (i).toNat 0).toNat : Int) == (95 : Int))) = true) (.ok (.inr (.inl s)))
          (.ok (.inl (s, m, (IntKind.wrap .i64 (i + (1 : Int)))))))
         (.ite ((decide (((s.getD (i).toNat 0).toNat : Int) > (57 : Int))) = true) (.ite ((!(((s.getD (i).toNat 0).toNat : Int) == (95 : Int))) = true) (.ok (.inr (.inl s)))
           (.ok (.inl (s, m, (IntKind.wrap .i64 (i + (1 : Int)))))))
          (.ok (.inl (s, m, (IntKind.wrap .i64 (i + (1 : Int)))))))))
       (.ok (.inl (s, m, (IntKind.wrap .i64 (i + (1 : Int)))))))
      (.ite ((i == (0 : Int)) = true) (.ok (.inr (.inl s)))
       (.ite ((decide (((s.getD (i).toNat 0).toNat : Int) < (48 : Int))) = true) (.ite ((!(((s.getD (i).toNat 0).toNat : Int) == (95 : Int))) = true) (.ok (.inr (.inl s)))
         (.ok (.inl (s, m, (IntKind.wrap .i64 (i + (1 : Int)))))))
        (.ite ((decide (((s.getD (i).toNat 0).toNat : Int) > (57 : Int))) = true) (.ite ((!(((s.getD (i).toNat 0).toNat : Int) == (95 : Int))) = true) (.ok (.inr (.inl s)))
          (.ok (.inl (s, m, (IntKind.wrap .i64 (i + (1 : Int)))))))
         (.ok (.inl (s, m, (IntKind.wrap .i64 (i + (1 : Int)))))))))))
    (.ite ((decide (((s.getD (i).toNat 0).toNat : Int) ≥ (97 : Int))) = true) (.ite ((!(decide (((s.getD (i).toNat 0).toNat : Int) ≤ (122 : Int)))) = true) (.ite ((i == (0 : Int)) = true) (.ok (.inr (.inl s)))
       (.ite ((decide (((s.getD (i).toNat 0).toNat : Int) < (48 : Int))) = true) (.ite ((!(((s.getD (i).toNat 0).toNat : Int) == (95 : Int))) = true) (.ok (.inr (.inl s)))
         (.ok (.inl (s, m, (IntKind.wrap .i64 (i + (1 : Int)))))))
        (.ite ((decide (((s.getD (i).toNat 0).toNat : Int) > (57 : Int))) = true) (.ite ((!(((s.getD (i).toNat 0).toNat : Int) == (95 : Int))) = true) (.ok (.inr (.inl s)))
          (.ok (.inl (s, m, (IntKind.wrap .i64 (i + (1 : Int)))))))
         (.ok (.inl (s, m, (IntKind.wrap .i64 (i + (1 : Int)))))))))
      (.ok (.inl (s, m, (IntKind.wrap .i64 (i + (1 : Int)))))))
     (.ite ((i == (0 : Int)) = true) (.ok (.inr (.inl s)))
      (.ite ((decide (((s.getD (i).toNat 0).toNat : Int) < (48 : Int))) = true) (.ite ((!(((s.getD (i).toNat 0).toNat : Int) == (95 : Int))) = true) (.ok (.inr (.inl s)))
        (.ok (.inl (s, m, (IntKind.wrap .i64 (i + (1 : Int)))))))
       (.ite ((decide (((s.getD (i).toNat 0).toNat : Int) > (57 : Int))) = true) (.ite ((!(((s.getD (i).toNat 0).toNat : Int) == (95 : Int))) = true) (.ok (.inr (.inl s)))
         (.ok (.inl (s, m, (IntKind.wrap .i64 (i + (1 : Int)))))))
        (.ok (.inl (s, m, (IntKind.wrap .i64 (i + (1 : Int)))))))))))
   .no)
  (.ok (.inr (.inr s))))
def qe_2_st : qe_2_σ → Tr (qe_2_σ ⊕ qe_2_ω) := fun x => (qe_2_step (x.1) (x.2.1) (x.2.2))
def qe_k2_1 (s : BS) (m i : Int) : Bool := sumIs (qe_R2 s m i)
def qe_o2_2 (s : BS) (m i : Int) : Bool := is (i = 0 ∧ s.length ≤ 140737488355328 ∧ m = (s.length : Int))
def qe_o2_3 (s : BS) (m i : Int) : Bool := is (i = 0 ∧ s.length ≤ 140737488355328 ∧ m = (s.length : Int))
def qe_2_fin (s : BS) (m i : Int) : Told qe_2_ω := (.br (qe_k2_1 s m i) (.leaf (qe_o2_2 s m i) (.inl s)) (.leaf (qe_o2_3 s m i) (.inr s)))
def qe_2_sl (x : qe_2_σ) : List Slot := [⟨.val false [⟨.str, .sh, TC.s (x.1)⟩], ⟨0, 0⟩⟩, ⟨.val false [⟨.int .i64, .sh, TC.i (x.2.1)⟩], ⟨0, 0⟩⟩, ⟨.val false [⟨.int .i64, .sh, TC.i (x.2.2)⟩], ⟨0, 0⟩⟩]
def qe_2_out : qe_2_ω → Ex × List Slot := (Sum.elim (fun x => (.ret, [⟨.val false [⟨.str, .sh, TC.s x⟩], ⟨0, 0⟩⟩, ⟨.val false [⟨.bool, .sh, TC.b false⟩], ⟨0, 0⟩⟩])) (fun x => (.exit 0, [⟨.val false [⟨.str, .sh, TC.s x⟩], ⟨0, 0⟩⟩, Slot.none])))
def qe_lo2 : List Slot → Option (Told (Ex × List Slot)) := fun s => match s with
  | [⟨.val false [⟨.str, .sh, TC.s s⟩], ⟨0, 0⟩⟩, ⟨.val false [⟨.int .i64, .sh, TC.i m⟩], ⟨0, 0⟩⟩, ⟨.val false [⟨.int .i64, .sh, TC.i i⟩], ⟨0, 0⟩⟩] => some (((qe_2_fin s m i)).map qe_2_out)
  | _ => .none
def qe_lo : LoopTeller := fun r s => bif Nat.beq r 2 then qe_lo2 s else .none
theorem qe_2_r (s : BS) (m i : Int) (fuel : Nat) : rounds (rnd tab FT D11 live 45 qe_lo 0 2) leave (fuel + 1) (qe_2_sl (s, m, i)) = ((qe_2_step s m i)).run (goOn (fun s => rounds (rnd tab FT D11 live 45 qe_lo 0 2) leave fuel (qe_2_sl s)) fun w => some (qe_2_out w)) := by kernel_rfl
theorem qe_f2_eq (s : BS) (m i : Int) : qe_f2 s m i = bif nameB i ((s.getD (i).toNat 0).toNat : Int) then Sum.inl () else Sum.inr (Sum.inl s) := by
  unfold qe_f2 nameB letterB
  simp only [dlt, dgt]
  generalize ((s.getD i.toNat 0).toNat : Int) = c
  generalize decide (c ≥ 65) = p0, decide (c ≤ 90) = p1, decide (c ≥ 97) = p2, decide (c ≤ 122) = p3, decide (c ≥ 48) = p4, decide (c ≤ 57) = p5, (c == 95) = p6, (i == 0) = p7
  cases p0 <;> cases p1 <;> cases p2 <;> cases p3 <;> cases p4 <;> cases p5 <;> cases p6 <;> cases p7 <;> rfl
theorem qe_R2_eq (s : BS) (m : Int)  : qe_R2 s m 0 = bif allI (fun i : Nat => nameB (i : Int) ((s.getD ((i : Int)).toNat 0).toNat : Int)) (s.length) then Sum.inr s else (Sum.inl s) := by
  unfold qe_R2
  exact (iter_all (P := (fun i : Nat => nameB (i : Int) ((s.getD ((i : Int)).toNat 0).toNat : Int))) (g := fun _ a => a) (w := Sum.inl s) fun j a _ => qe_f2_eq s m _)
theorem qe_2_h (s : BS) (m i : Int) (ow : qe_2_ω) : ((qe_2_fin s m i)).val = some ow → ∃ fuel, loopN qe_2_st fuel (s, m, i) = some ow := by
  refine auto_const (R := (qe_R2 s m i)) rfl (iter_onR (f := (fun i a => (qe_f2 s m (i : Int)))) (fin := (fun a => (qe_e2 s m))) (Q := endsAs s s) (fun i a => by unfold qe_f2; exact (onR_bif (onR_bif trivial (onR_bif (onR_bif (onR_bif rfl (onR_bif (onR_bif rfl trivial) (onR_bif (onR_bif rfl trivial) trivial))) trivial) (onR_bif rfl (onR_bif (onR_bif rfl trivial) (onR_bif (onR_bif rfl trivial) trivial))))) (onR_bif (onR_bif (onR_bif rfl (onR_bif (onR_bif rfl trivial) (onR_bif (onR_bif rfl trivial) trivial))) trivial) (onR_bif rfl (onR_bif (onR_bif rfl trivial) (onR_bif (onR_bif rfl trivial) trivial)))))) (fun _ => rfl) _ _ _) ?_
  intro ho
  have ho : is (i = 0 ∧ s.length ≤ 140737488355328 ∧ m = (s.length : Int)) = true := ho.elim id id
  obtain ⟨rfl, hs, rfl⟩ := is_iff.1 ho
  skip
  refine ⟨(s.length) + 1, ?_⟩
  refine iter_loop (step := qe_2_st) (s.length) (fun i a => (qe_f2 s (s.length : Int) (i : Int))) (fun a => (qe_e2 s (s.length : Int))) (fun i a => (s, (s.length : Int), (i : Int))) (fun _ _ => True) trivial (fun i a hi hI => ⟨?_, fun _ _ => trivial⟩) (fun a hI => ?_)
  · show (qe_2_step s (s.length : Int) (i : Int)).val = _
    unfold qe_2_step qe_f2
    skip
    refine Tr.t (by simp; omega) ?_
    exact (Tr.t (by first | omega | (constructor <;> omega)) (Tr.bf (Tr.bf (by rw [Tr.val_ok, wrap64 (i := (i : Int) + 1) (by omega) (by omega)]; rfl) (Tr.bf (Tr.bf (Tr.bf rfl (Tr.bf (Tr.bf rfl (by rw [Tr.val_ok, wrap64 (i := (i : Int) + 1) (by omega) (by omega)]; rfl)) (Tr.bf (Tr.bf rfl (by rw [Tr.val_ok, wrap64 (i := (i : Int) + 1) (by omega) (by omega)]; rfl)) (by rw [Tr.val_ok, wrap64 (i := (i : Int) + 1) (by omega) (by omega)]; rfl)))) (by rw [Tr.val_ok, wrap64 (i := (i : Int) + 1) (by omega) (by omega)]; rfl)) (Tr.bf rfl (Tr.bf (Tr.bf rfl (by rw [Tr.val_ok, wrap64 (i := (i : Int) + 1) (by omega) (by omega)]; rfl)) (Tr.bf (Tr.bf rfl (by rw [Tr.val_ok, wrap64 (i := (i : Int) + 1) (by omega) (by omega)]; rfl)) (by rw [Tr.val_ok, wrap64 (i := (i : Int) + 1) (by omega) (by omega)]; rfl)))))) (Tr.bf (Tr.bf (Tr.bf rfl (Tr.bf (Tr.bf rfl (by rw [Tr.val_ok, wrap64 (i := (i : Int) + 1) (by omega) (by omega)]; rfl)) (Tr.bf (Tr.bf rfl (by rw [Tr.val_ok, wrap64 (i := (i : Int) + 1) (by omega) (by omega)]; rfl)) (by rw [Tr.val_ok, wrap64 (i := (i : Int) + 1) (by omega) (by omega)]; rfl)))) (by rw [Tr.val_ok, wrap64 (i := (i : Int) + 1) (by omega) (by omega)]; rfl)) (Tr.bf rfl (Tr.bf (Tr.bf rfl (by rw [Tr.val_ok, wrap64 (i := (i : Int) + 1) (by omega) (by omega)]; rfl)) (Tr.bf (Tr.bf rfl (by rw [Tr.val_ok, wrap64 (i := (i : Int) + 1) (by omega) (by omega)]; rfl)) (by rw [Tr.val_ok, wrap64 (i := (i : Int) + 1) (by omega) (by omega)]; rfl)))))))
  · show (qe_2_step s (s.length : Int) (s.length : Int)).val = _
    refine Tr.n (by first | (simp; done) | (simp; omega) | omega) ?_
    rfl
theorem qe_is2 : LoopIs tab FT D11 live 45 qe_lo 0 2 := by
  refine loop_told (sl := qe_2_sl) (step := qe_2_st) (out := qe_2_out) (lor := qe_lo2) (fin := fun x => (qe_2_fin (x.1) (x.2.1) (x.2.2))) (fun _ => rfl) ?_ (fun x n => qe_2_r x.1 x.2.1 x.2.2 n) (fun x ow => qe_2_h x.1 x.2.1 x.2.2 ow)
  intro s t h
  unfold qe_lo2 at h
  split at h
  · cases h; exact ⟨(_, _, _), rfl, rfl⟩
  · cases h
def qe_t (s : BS) : Tr (Bool) := (.ite ((qe_k2_1 s (s.length : Int) (0 : Int)) = true) (.ite ((qe_o2_2 s (s.length : Int) (0 : Int)) = true) (.ok false)
   .no)
  (.ite ((qe_o2_3 s (s.length : Int) (0 : Int)) = true) (.ite ((decide ((s.length : Int) ≥ (1 : Int))) = true) (.ok (decide ((s.length : Int) ≤ (12 : Int))))
    (.ok false))
   .no))
def qe_mk (p : Bool) : Res := [(false, [⟨.bool, .sh, TC.b p⟩])]
def qe_c (s : BS) : Bool := (bif (qe_k2_1 s (s.length : Int) (0 : Int)) then ((qe_o2_2 s (s.length : Int) (0 : Int)) && true) else ((qe_o2_3 s (s.length : Int) (0 : Int)) && (bif (decide ((s.length : Int) ≥ (1 : Int))) then true else true)))
def qe_v (s : BS) : Bool := (bif (qe_k2_1 s (s.length : Int) (0 : Int)) then false else (bif (decide ((s.length : Int) ≥ (1 : Int))) then (decide ((s.length : Int) ≤ (12 : Int))) else false))
theorem qe_l (s : BS) : (qe_c s) = true → (qe_t s).val = some (qe_v s) := by
  unfold qe_t qe_v qe_c
  exact fun h => (Tr.ss h (fun h => (Tr.gb h fun h => rfl)) (fun h => (Tr.gb h fun h => (Tr.ss h (fun h => rfl) (fun h => rfl)))))
def qe_S : List Arg → Option (Bool × Res) := fun xs => match xs with
  | [(false, [(.str, TC.s s)])] => some ((qe_c s), qe_mk (qe_v s))
  | _ => .none
theorem qe_e (s : BS) : runF tab FT D11 live 45 qe_lo [(false, [(.str, TC.s s)])] = (qe_t s).run fun p => some (qe_mk p) := by kernel_rfl
theorem qe_s : ∀ xs r, qe_S xs = some (true, r) → runF tab FT D11 live 45 qe_lo xs = some r := by
  intro xs r h
  unfold qe_S at h
  split at h
  · obtain ⟨h1, rfl⟩ := sp h
    exact fun_told (qe_e _) (qe_l _) h1
  · cases h
def D12 : Dt := also D11 45 qe_S
theorem d12 : DOk Go.Proofs.Tryd.prog tab D12 := d11.also mixed_ok tab_ok names_ok (fnLoops_one (by kernel_rfl) qe_is2) qe_s
theorem qe_cc {s : BS} (hs : Typed tab (.str) (.s s)) : (qe_c s) = true := by
  unfold qe_c
  refine bifT (fun b1 => ?_) (fun b1 => ?_)
  · skip
    refine andT (by exact is_true ⟨rfl, by have := typed_str_len hs; omega, rfl⟩) ?_
    rfl
  · skip
    refine andT (by exact is_true ⟨rfl, by have := typed_str_len hs; omega, rfl⟩) ?_
    refine bifT (fun b2 => ?_) (fun b2 => ?_)
    · skip
      rfl
    · skip
      rfl
theorem qe_vv (s : BS) : qe_v s = nameOk s := by
  unfold qe_v qe_k2_1 nameOk
  rw [qe_R2_eq]
  generalize allI (fun i : Nat => nameB (i : Int) ((s.getD ((i : Int)).toNat 0).toNat : Int)) s.length = q
  cases q
  · simp [sumIs]
  · show (bif decide ((s.length : Int) ≥ 1) then decide ((s.length : Int) ≤ 12) else false) = (decide ((s.length : Int) ≥ 1) && decide ((s.length : Int) ≤ 12) && true)
    generalize decide ((s.length : Int) ≥ 1) = q1, decide ((s.length : Int) ≤ 12) = q2
    cases q1 <;> cases q2 <;> rfl
def qw_t (a0 a1 a2 : Int) : Tr (Bool) := (.ite ((decide (a0 ≥ a1)) = true) (.ok (decide (a0 ≤ a2)))
  (.ok false))
def qw_mk (p : Bool) : Res := [(false, [⟨.bool, .sh, TC.b p⟩])]
def qw_c (a0 a1 a2 : Int) : Bool := true
def qw_v (a0 a1 a2 : Int) : Bool := (bif (decide (a0 ≥ a1)) then (decide (a0 ≤ a2)) else false)
theorem qw_l (a0 a1 a2 : Int) : (qw_c a0 a1 a2) = true → (qw_t a0 a1 a2).val = some (qw_v a0 a1 a2) := by
  intro h
  skip
  unfold qw_t qw_v
  exact (Tr.s rfl rfl)
def qw_S : List Arg → Option (Bool × Res) := fun xs => match xs with
  | [(false, [(.int .i64, TC.i a0)]), (false, [(.int .i64, TC.i a1)]), (false, [(.int .i64, TC.i a2)])] => some (true, qw_mk (qw_v a0 a1 a2))
  | _ => .none
theorem qw_e (a0 a1 a2 : Int) : runF tab FT D12 live 47 noLoops [(false, [(.int .i64, TC.i a0)]), (false, [(.int .i64, TC.i a1)]), (false, [(.int .i64, TC.i a2)])] = (qw_t a0 a1 a2).run fun p => some (qw_mk p) := by kernel_rfl
theorem qw_s : ∀ xs r, qw_S xs = some (true, r) → runF tab FT D12 live 47 noLoops xs = some r := by
  intro xs r h
  unfold qw_S at h
  split at h
  · obtain ⟨h1, rfl⟩ := sp h
    exact fun_told (qw_e ..) (qw_l _ _ _) rfl
  · cases h
def D13 : Dt := also D12 47 qw_S
theorem d13 : DOk Go.Proofs.Tryd.prog tab D13 := d12.also mixed_ok tab_ok names_ok noLoops_ok qw_s
def qo_t (a0 a1 : BS) : Tr (Bool) := (.ite ((decide ((a0.length : Int) ≥ (a1.length : Int))) = true) (.ite ((0 : Int) ≤ (0 : Int) ∧ (0 : Int) ≤ (a1.length : Int) ∧ (a1.length : Int) ≤ (a0.length : Int)) (.ok (((a0.take ((a1.length : Int)).toNat).drop ((0 : Int)).toNat) == a1))
   .no)
  (.ok false))
def qo_mk (p : Bool) : Res := [(false, [⟨.bool, .sh, TC.b p⟩])]
def qo_c (a0 a1 : BS) : Bool := (bif (decide ((a0.length : Int) ≥ (a1.length : Int))) then (is ((0 : Int) ≤ (0 : Int) ∧ (0 : Int) ≤ (a1.length : Int) ∧ (a1.length : Int) ≤ (a0.length : Int)) && true) else true)
def qo_v (a0 a1 : BS) : Bool := (bif (decide ((a0.length : Int) ≥ (a1.length : Int))) then (((a0.take ((a1.length : Int)).toNat).drop ((0 : Int)).toNat) == a1) else false)
theorem qo_l (a0 a1 : BS) : (qo_c a0 a1) = true → (qo_t a0 a1).val = some (qo_v a0 a1) := by
  unfold qo_t qo_v qo_c
  exact fun h => (Tr.ss h (fun h => (Tr.gs h fun h => rfl)) (fun h => rfl))
def qo_S : List Arg → Option (Bool × Res) := fun xs => match xs with
  | [(false, [(.str, TC.s a0)]), (false, [(.str, TC.s a1)])] => some ((qo_c a0 a1), qo_mk (qo_v a0 a1))
  | _ => .none
theorem qo_e (a0 a1 : BS) : runF tab FT D13 live 64 noLoops [(false, [(.str, TC.s a0)]), (false, [(.str, TC.s a1)])] = (qo_t a0 a1).run fun p => some (qo_mk p) := by kernel_rfl
theorem qo_s : ∀ xs r, qo_S xs = some (true, r) → runF tab FT D13 live 64 noLoops xs = some r := by
  intro xs r h
  unfold qo_S at h
  split at h
  · obtain ⟨h1, rfl⟩ := sp h
    exact fun_told (qo_e ..) (qo_l _ _) h1
  · cases h
def D14 : Dt := also D13 64 qo_S
theorem d14 : DOk Go.Proofs.Tryd.prog tab D14 := d13.also mixed_ok tab_ok names_ok noLoops_ok qo_s
def qn_t (a0 a1 : BS) : Tr (BS × Bool) := (.ite ((qo_c a0 a1) = true) (.ite ((!(qo_v a0 a1)) = true) (.ok (a0, false))
   (.ite ((0 : Int) ≤ (a1.length : Int) ∧ (a1.length : Int) ≤ (a0.length : Int) ∧ (a0.length : Int) ≤ (a0.length : Int)) (.ok (((a0.take ((a0.length : Int)).toNat).drop ((a1.length : Int)).toNat), true))
    .no))
  .no)
def qn_mk (p : BS × Bool) : Res := [(false, [⟨.str, .sh, TC.s (p.1)⟩]), (false, [⟨.bool, .sh, TC.b (p.2)⟩])]
def qn_c (a0 a1 : BS) : Bool := ((qo_c a0 a1) && (bif (!(qo_v a0 a1)) then true else (is ((0 : Int) ≤ (a1.length : Int) ∧ (a1.length : Int) ≤ (a0.length : Int) ∧ (a0.length : Int) ≤ (a0.length : Int)) && true)))
def qn_v (a0 a1 : BS) : BS × Bool := (bif (!(qo_v a0 a1)) then (a0, false) else (((a0.take ((a0.length : Int)).toNat).drop ((a1.length : Int)).toNat), true))
theorem qn_l (a0 a1 : BS) : (qn_c a0 a1) = true → (qn_t a0 a1).val = some (qn_v a0 a1) := by
  unfold qn_t qn_v qn_c
  exact fun h => (Tr.gb h fun h => (Tr.ss h (fun h => rfl) (fun h => (Tr.gs h fun h => rfl))))
def qn_S : List Arg → Option (Bool × Res) := fun xs => match xs with
  | [(false, [(.str, TC.s a0)]), (false, [(.str, TC.s a1)])] => some ((qn_c a0 a1), qn_mk (qn_v a0 a1))
  | _ => .none
theorem qn_e (a0 a1 : BS) : runF tab FT D14 live 57 noLoops [(false, [(.str, TC.s a0)]), (false, [(.str, TC.s a1)])] = (qn_t a0 a1).run fun p => some (qn_mk p) := by kernel_rfl
theorem qn_s : ∀ xs r, qn_S xs = some (true, r) → runF tab FT D14 live 57 noLoops xs = some r := by
  intro xs r h
  unfold qn_S at h
  split at h
  · obtain ⟨h1, rfl⟩ := sp h
    exact fun_told (qn_e ..) (qn_l _ _) h1
  · cases h
def D15 : Dt := also D14 57 qn_S
theorem d15 : DOk Go.Proofs.Tryd.prog tab D15 := d14.also mixed_ok tab_ok names_ok noLoops_ok qn_s
def qm_t (a0 a1 : BS) : Tr (BS × Bool) := (.ite ((qn_c a0 a1) = true) (.ok ((qn_v a0 a1).1, (qn_v a0 a1).2))
  .no)
def qm_mk (p : BS × Bool) : Res := [(false, [⟨.str, .sh, TC.s (p.1)⟩]), (false, [⟨.bool, .sh, TC.b (p.2)⟩])]
def qm_c (a0 a1 : BS) : Bool := (qn_c a0 a1)
def qm_v (a0 a1 : BS) : BS × Bool := ((qn_v a0 a1).1, (qn_v a0 a1).2)
theorem qm_l (a0 a1 : BS) : (qm_c a0 a1) = true → (qm_t a0 a1).val = some (qm_v a0 a1) := by
  intro h
  have hc0 : (qn_c a0 a1) = true := h
  unfold qm_t
  exact (Tr.t hc0 rfl)
def qm_S : List Arg → Option (Bool × Res) := fun xs => match xs with
  | [(false, [(.str, TC.s a0)]), (false, [(.str, TC.s a1)])] => some ((qm_c a0 a1), qm_mk (qm_v a0 a1))
  | _ => .none
theorem qm_e (a0 a1 : BS) : runF tab FT D15 live 41 noLoops [(false, [(.str, TC.s a0)]), (false, [(.str, TC.s a1)])] = (qm_t a0 a1).run fun p => some (qm_mk p) := by kernel_rfl
theorem qm_s : ∀ xs r, qm_S xs = some (true, r) → runF tab FT D15 live 41 noLoops xs = some r := by
  intro xs r h
  unfold qm_S at h
  split at h
  · obtain ⟨h1, rfl⟩ := sp h
    exact fun_told (qm_e ..) (qm_l _ _) h1
  · cases h
def D16 : Dt := also D15 41 qm_S
theorem d16 : DOk Go.Proofs.Tryd.prog tab D16 := d15.also mixed_ok tab_ok names_ok noLoops_ok qm_s
def qv_c (s p : BS) : Bool := is (s.length < 4294967281 ∧ 1 ≤ p.length)
def qv_v (s p : BS) : LL := splL s p
def qv_mk (p : LL) : Res := [(false, [⟨.slice 9, .own true, TC.l p⟩])]
def qv_S : List Arg → Option (Bool × Res) := fun xs => match xs with
  | [(false, [(.str, TC.s s)]), (false, [(.str, TC.s p)])] => some ((qv_c s p), qv_mk (qv_v s p))
  | _ => .none
def D17 : Dt := also D16 42 qv_S
theorem d17 : DOk Go.Proofs.Tryd.prog tab D17 := d16.alsoC names_ok (c := _) Go.Proofs.Tryd.func42 rfl (by
  intro xs r h w S hargs0 hS hG hargs
  unfold qv_S at h
  split at h
  · rename_i s p
    obtain ⟨h1, rfl⟩ := sp h
    obtain ⟨h2, h3⟩ := is_iff.1 h1
    obtain ⟨u, us, rfl, ha, hr⟩ := args_cons hargs
    obtain ⟨u2, us2, rfl, hb, hr⟩ := args_cons hr
    cases args_nil hr
    rw [rep_str' (arg_rep ha), rep_str' (arg_rep hb)]
    exact split_told lays146 split_str split_cts split_gl hG h2 h3
  · cases h)
def qp_t (a0 : BS) : Tr (Bool) := (.ite ((qe_c a0) = true) (.ok (!(qe_v a0)))
  .no)
def qp_mk (p : Bool) : Res := [(false, [⟨.bool, .sh, TC.b p⟩])]
def qp_c (a0 : BS) : Bool := (qe_c a0)
def qp_v (a0 : BS) : Bool := (!(qe_v a0))
theorem qp_l (a0 : BS) : (qp_c a0) = true → (qp_t a0).val = some (qp_v a0) := by
  intro h
  have hc0 : (qe_c a0) = true := h
  unfold qp_t
  exact (Tr.t hc0 rfl)
def qp_S : List Arg → Option (Bool × Res) := fun xs => match xs with
  | [(false, [(.str, TC.s a0)])] => some ((qp_c a0), qp_mk (qp_v a0))
  | _ => .none
theorem qp_e (a0 : BS) : runF tab FT D17 live 44 noLoops [(false, [(.str, TC.s a0)])] = (qp_t a0).run fun p => some (qp_mk p) := by kernel_rfl
theorem qp_s : ∀ xs r, qp_S xs = some (true, r) → runF tab FT D17 live 44 noLoops xs = some r := by
  intro xs r h
  unfold qp_S at h
  split at h
  · obtain ⟨h1, rfl⟩ := sp h
    exact fun_told (qp_e _) (qp_l _) h1
  · cases h
def D18 : Dt := also D17 44 qp_S
theorem d18 : DOk Go.Proofs.Tryd.prog tab D18 := d17.also mixed_ok tab_ok names_ok noLoops_ok qp_s
abbrev qa_2_σ := LL × Int × Int
abbrev qa_2_ω := (Int) ⊕ (Unit)
def qa_2_step (A : LL) (m i : Int) : Tr (qa_2_σ ⊕ qa_2_ω) := (.ite ((decide (i < m)) = true) (.ite ((0 : Int) ≤ i ∧ i < (A.length : Int)) (.ite ((qp_c ((nth (row A i) 0).str)) = true) (.ite ((qp_v ((nth (row A i) 0).str)) = true) (.ok (.inr (.inl i)))
     (.ok (.inl (A, m, (IntKind.wrap .i64 (i + (1 : Int)))))))
    .no)
   .no)
  (.ok (.inr (.inr ()))))
def qa_2_st : qa_2_σ → Tr (qa_2_σ ⊕ qa_2_ω) := fun x => (qa_2_step (x.1) (x.2.1) (x.2.2))
def qa_k2_1 (A : LL) (m i : Int) : Bool := A.all (fun x => !(qp_v ((nth x 0).str)))
def qa_o2_2 (A : LL) (m i : Int) : Bool := is (i = 0 ∧ Typed tab (.slice 9) (.l A) ∧ m = (A.length : Int))
def qa_o2_3 (A : LL) (m i : Int) : Bool := is (i = 0 ∧ Typed tab (.slice 9) (.l A) ∧ m = (A.length : Int))
def qa_u2_3 (A : LL) (m i : Int) : Int := (Int.ofNat (A.findIdx fun x => !(fun x => !(qp_v ((nth x 0).str))) x))
def qa_2_fin (A : LL) (m i : Int) : Told qa_2_ω := (.br (qa_k2_1 A m i) (.leaf (qa_o2_2 A m i) (.inr ())) (.leaf (qa_o2_3 A m i) (.inl (qa_u2_3 A m i))))
def qa_2_sl (x : qa_2_σ) : List Slot := [⟨.val false [⟨.slice 9, .sh, TC.l (x.1)⟩], ⟨0, 0⟩⟩, ⟨.val false [⟨.func, .sh, TC.f 44 []⟩], ⟨0, 0⟩⟩, ⟨.val false [⟨.int .i64, .sh, TC.i (x.2.1)⟩], ⟨0, 0⟩⟩, ⟨.val false [⟨.int .i64, .sh, TC.i (x.2.2)⟩], ⟨0, 0⟩⟩]
def qa_2_out : qa_2_ω → Ex × List Slot := (Sum.elim (fun x => (.ret, [⟨.val false [⟨.int .i64, .sh, TC.i x⟩], ⟨0, 0⟩⟩])) (fun x => (.exit 0, [Slot.none])))
def qa_lo2 : List Slot → Option (Told (Ex × List Slot)) := fun s => match s with
  | [⟨.val false [⟨.slice 9, .sh, TC.l A⟩], ⟨0, 0⟩⟩, ⟨.val false [⟨.func, .sh, TC.f 44 []⟩], ⟨0, 0⟩⟩, ⟨.val false [⟨.int .i64, .sh, TC.i m⟩], ⟨0, 0⟩⟩, ⟨.val false [⟨.int .i64, .sh, TC.i i⟩], ⟨0, 0⟩⟩] => some (((qa_2_fin A m i)).map qa_2_out)
  | _ => .none
def qa_lo : LoopTeller := fun r s => bif Nat.beq r 2 then qa_lo2 s else .none
theorem qa_2_r (A : LL) (m i : Int) (fuel : Nat) : rounds (rnd tab FT D18 live 59 qa_lo 0 2) leave (fuel + 1) (qa_2_sl (A, m, i)) = ((qa_2_step A m i)).run (goOn (fun s => rounds (rnd tab FT D18 live 59 qa_lo 0 2) leave fuel (qa_2_sl s)) fun w => some (qa_2_out w)) := by kernel_rfl
theorem qa_2_h (A : LL) (m i : Int) (ow : qa_2_ω) : ((qa_2_fin A m i)).val = some ow → ∃ fuel, loopN qa_2_st fuel (A, m, i) = some ow := by
  intro h
  have key : Typed tab (.slice 9) (.l A) → loopN qa_2_st (A.length + 1) (A, (A.length : Int), (0 : Int)) = some (if A.all (fun x => !(qp_v ((nth x 0).str))) = true then (.inr ()) else (.inl (Int.ofNat (A.findIdx fun x => !(fun x => !(qp_v ((nth x 0).str))) x)))) := by
    intro ht
    have hlen : A.length ≤ 140737488351232 := by have := typed_room ht; simp only [show (tab 9).bytes = 16 from rfl] at this; omega
    have key := loopN_scan (step := qa_2_st) A [] (fun x => !(qp_v ((nth x 0).str))) (fun a _ => a) (fun i a => (A, (A.length : Int), (i : Int))) (fun a => (.inr ())) (fun i a => (.inl (i : Int))) (fun i a hi => ?_) (fun a => ?_) A.length 0 () (by omega)
    · first | (rw [Nat.zero_add] at key; exact key) | exact key
    · have c0 : Typed tab (.str) (.s (nth (A.getD i []) 0).str) := typed_s (typed_cell ht (A.getD i []) (mem_getD hi) 0 (by decide))
      show (qa_2_step A (A.length : Int) (i : Int)).val = _
      unfold qa_2_step
      refine Tr.t (by simp; omega) ?_
      skip
      refine Tr.t (by first | omega | (constructor <;> omega)) ?_
      refine Tr.t (by first | (apply is_true; and_intros <;> (first | rfl | assumption | (apply qd_cc <;> assumption) | (apply qb_cc <;> assumption) | (apply qf_cc <;> assumption) | (apply qe_cc <;> assumption) | (first | (apply is_true; and_intros <;> (first | rfl | assumption | (apply qd_cc <;> assumption) | (apply qb_cc <;> assumption) | (apply qf_cc <;> assumption) | (apply qe_cc <;> assumption) | (first | (apply is_true; and_intros <;> (first | rfl | assumption | (apply qd_cc <;> assumption) | (apply qb_cc <;> assumption) | (apply qf_cc <;> assumption) | (apply qe_cc <;> assumption) | (first | (apply is_true; and_intros <;> (first | rfl | assumption | (apply qd_cc <;> assumption) | (apply qb_cc <;> assumption) | (apply qf_cc <;> assumption) | (apply qe_cc <;> assumption))) | (apply qd_cc <;> assumption) | (apply qb_cc <;> assumption) | (apply qf_cc <;> assumption) | (apply qe_cc <;> assumption)))) | (apply qd_cc <;> assumption) | (apply qb_cc <;> assumption) | (apply qf_cc <;> assumption) | (apply qe_cc <;> assumption)))) | (apply qd_cc <;> assumption) | (apply qb_cc <;> assumption) | (apply qf_cc <;> assumption) | (apply qe_cc <;> assumption)))) | (apply qd_cc <;> assumption) | (apply qb_cc <;> assumption) | (apply qf_cc <;> assumption) | (apply qe_cc <;> assumption)) ?_
      refine Tr.b2 (fun hP => ?_) (fun _ => rfl)
      rw [Tr.val_ok, wrap64 (i := (i : Int) + 1) (by omega) (by omega)]; rfl
    · show (qa_2_step A (A.length : Int) (A.length : Int)).val = _
      refine Tr.n (by simp) ?_
      rfl
  simp only [qa_2_fin, Told.val] at h
  cases hk : A.all (fun x => !(qp_v ((nth x 0).str))) with
  | true =>
    rw [if_pos (show qa_k2_1 A m i = true from hk)] at h
    split at h
    · rename_i ho
      obtain ⟨rfl, ht, rfl⟩ := is_iff.1 ho
      cases h
      refine ⟨_, (key ht).trans ?_⟩
      rw [hk]; rfl
    · cases h
  | false =>
    rw [if_neg (show ¬qa_k2_1 A m i = true from by rw [show qa_k2_1 A m i = (A.all (fun x => !(qp_v ((nth x 0).str)))) from rfl, hk]; simp)] at h
    split at h
    · rename_i ho
      obtain ⟨rfl, ht, rfl⟩ := is_iff.1 ho
      cases h
      refine ⟨_, (key ht).trans ?_⟩
      rw [hk]; rfl
    · cases h
theorem qa_is2 : LoopIs tab FT D18 live 59 qa_lo 0 2 := by
  refine loop_told (sl := qa_2_sl) (step := qa_2_st) (out := qa_2_out) (lor := qa_lo2) (fin := fun x => (qa_2_fin (x.1) (x.2.1) (x.2.2))) (fun _ => rfl) ?_ (fun x n => qa_2_r x.1 x.2.1 x.2.2 n) (fun x ow => qa_2_h x.1 x.2.1 x.2.2 ow)
  intro s t h
  unfold qa_lo2 at h
  split at h
  · cases h; exact ⟨(_, _, _), rfl, rfl⟩
  · cases h
def qa_t (A : LL) : Tr (Int) := (.ite ((qa_k2_1 A (A.length : Int) (0 : Int)) = true) (.ite ((qa_o2_2 A (A.length : Int) (0 : Int)) = true) (.ok (-1 : Int))
   .no)
  (.ite ((qa_o2_3 A (A.length : Int) (0 : Int)) = true) (.ok (qa_u2_3 A (A.length : Int) (0 : Int)))
   .no))
def qa_mk (p : Int) : Res := [(false, [⟨.int .i64, .sh, TC.i p⟩])]
def qa_c (A : LL) : Bool := is (Typed tab (.slice 9) (.l A))
def qa_v (A : LL) : Int := if (A.all (fun x => !(qp_v ((nth x 0).str)))) = true then -1 else (Int.ofNat (A.findIdx fun x => !(fun x => !(qp_v ((nth x 0).str))) x))
theorem qa_l (A : LL) : (qa_c A) = true → (qa_t A).val = some (qa_v A) := by
  intro h
  have ht := is_iff.1 h
  unfold qa_t
  cases hk : A.all (fun x => !(qp_v ((nth x 0).str))) with
  | true =>
    refine Tr.t (show A.all (fun x => !(qp_v ((nth x 0).str))) = true from hk) ?_
    refine Tr.t (is_true ⟨rfl, ht, rfl⟩) ?_
    show _ = some (qa_v A ); unfold qa_v; rw [if_pos hk]; rfl
  | false =>
    refine Tr.n (show ¬A.all (fun x => !(qp_v ((nth x 0).str))) = true from by rw [hk]; simp) ?_
    refine Tr.t (is_true ⟨rfl, ht, rfl⟩) ?_
    show _ = some (qa_v A ); unfold qa_v; rw [if_neg (by rw [hk]; simp)]; rfl
def qa_S : List Arg → Option (Bool × Res) := fun xs => match xs with
  | [(false, [(.slice 9, TC.l A)]), (false, [(.func, TC.f 44 [])])] => some ((qa_c A), qa_mk (qa_v A))
  | _ => .none
theorem qa_e (A : LL) : runF tab FT D18 live 59 qa_lo [(false, [(.slice 9, TC.l A)]), (false, [(.func, TC.f 44 [])])] = (qa_t A).run fun p => some (qa_mk p) := by kernel_rfl
theorem qa_s : ∀ xs r, qa_S xs = some (true, r) → runF tab FT D18 live 59 qa_lo xs = some r := by
  intro xs r h
  unfold qa_S at h
  split at h
  · obtain ⟨h1, rfl⟩ := sp h
    exact fun_told (qa_e _) (qa_l _) h1
  · cases h
def D19 : Dt := also D18 59 qa_S
theorem d19 : DOk Go.Proofs.Tryd.prog tab D19 := d18.also mixed_ok tab_ok names_ok (fnLoops_one (by kernel_rfl) qa_is2) qa_s
def qj_t (A : LL) : Tr (Bool) := (.ite ((qa_c A) = true) (.ok (decide ((qa_v A) ≥ (0 : Int))))
  .no)
def qj_mk (p : Bool) : Res := [(false, [⟨.bool, .sh, TC.b p⟩])]
def qj_c (A : LL) : Bool := is (Typed tab (.slice 9) (.l A))
def qj_v (A : LL) : Bool := !(A.all (fun x => !(qp_v ((nth x 0).str))))
theorem qj_l (A : LL) : (qj_c A) = true → (qj_t A).val = some (qj_v A) := by
  intro h
  have ht := is_iff.1 h
  unfold qj_t
  refine Tr.t (is_true ht) ?_
  show some (decide (qa_v A  ≥ 0)) = some (!(A.all (fun x => !(qp_v ((nth x 0).str)))))
  unfold qa_v
  cases hk : A.all (fun x => !(qp_v ((nth x 0).str))) <;> simp
def qj_S : List Arg → Option (Bool × Res) := fun xs => match xs with
  | [(false, [(.slice 9, TC.l A)]), (false, [(.func, TC.f 44 [])])] => some ((qj_c A), qj_mk (qj_v A))
  | _ => .none
theorem qj_e (A : LL) : runF tab FT D19 live 43 noLoops [(false, [(.slice 9, TC.l A)]), (false, [(.func, TC.f 44 [])])] = (qj_t A).run fun p => some (qj_mk p) := by kernel_rfl
theorem qj_s : ∀ xs r, qj_S xs = some (true, r) → runF tab FT D19 live 43 noLoops xs = some r := by
  intro xs r h
  unfold qj_S at h
  split at h
  · obtain ⟨h1, rfl⟩ := sp h
    exact fun_told (qj_e _) (qj_l _) h1
  · cases h
def D20 : Dt := also D19 43 qj_S
theorem d20 : DOk Go.Proofs.Tryd.prog tab D20 := d19.also mixed_ok tab_ok names_ok noLoops_ok qj_s
def qi_t (s : BS) : Tr (LL × Bool) := (.ite ((s == [47]) = true) (.ok ([], true))
  (.ite ((qm_c s [47]) = true) (.ite ((qv_c ((qm_v s [47]).1) [47]) = true) (.ite ((!(qm_v s [47]).2) = true) (.ok ([], false))
     (.ite ((decide (((qv_v ((qm_v s [47]).1) [47]).length : Int) > (6 : Int))) = true) (.ok ([], false))
      (.ite ((qj_c (qv_v ((qm_v s [47]).1) [47])) = true) (.ite ((qj_v (qv_v ((qm_v s [47]).1) [47])) = true) (.ok ([], false))
        (.ok ((qv_v ((qm_v s [47]).1) [47]), true)))
       .no)))
    .no)
   .no))
def qi_mk (p : LL × Bool) : Res := [(false, [⟨.slice 9, .own true, TC.l (p.1)⟩]), (false, [⟨.bool, .sh, TC.b (p.2)⟩])]
def qi_c (s : BS) : Bool := (bif (s == [47]) then true else ((qm_c s [47]) && ((qv_c ((qm_v s [47]).1) [47]) && (bif (!(qm_v s [47]).2) then true else (bif (decide (((qv_v ((qm_v s [47]).1) [47]).length : Int) > (6 : Int))) then true else ((qj_c (qv_v ((qm_v s [47]).1) [47])) && (bif (qj_v (qv_v ((qm_v s [47]).1) [47])) then true else true)))))))
def qi_v (s : BS) : LL × Bool := (bif (s == [47]) then ([], true) else (bif (!(qm_v s [47]).2) then ([], false) else (bif (decide (((qv_v ((qm_v s [47]).1) [47]).length : Int) > (6 : Int))) then ([], false) else (bif (qj_v (qv_v ((qm_v s [47]).1) [47])) then ([], false) else ((qv_v ((qm_v s [47]).1) [47]), true)))))
theorem qi_l (s : BS) : (qi_c s) = true → (qi_t s).val = some (qi_v s) := by
  unfold qi_t qi_v qi_c
  exact fun h => (Tr.ss h (fun h => rfl) (fun h => (Tr.gb h fun h => (Tr.gb h fun h => (Tr.ss h (fun h => rfl) (fun h => (Tr.ss h (fun h => rfl) (fun h => (Tr.gb h fun h => (Tr.ss h (fun h => rfl) (fun h => rfl)))))))))))
def qi_S : List Arg → Option (Bool × Res) := fun xs => match xs with
  | [(false, [(.str, TC.s s)])] => some ((qi_c s), qi_mk (qi_v s))
  | _ => .none
theorem qi_e (s : BS) : runF tab FT D20 live 25 noLoops [(false, [(.str, TC.s s)])] = (qi_t s).run fun p => some (qi_mk p) := by kernel_rfl
theorem qi_s : ∀ xs r, qi_S xs = some (true, r) → runF tab FT D20 live 25 noLoops xs = some r := by
  intro xs r h
  unfold qi_S at h
  split at h
  · obtain ⟨h1, rfl⟩ := sp h
    exact fun_told (qi_e _) (qi_l _) h1
  · cases h
def D21 : Dt := also D20 25 qi_S
theorem d21 : DOk Go.Proofs.Tryd.prog tab D21 := d20.also mixed_ok tab_ok names_ok noLoops_ok qi_s
theorem cut_c (s : BS) : qm_c s [47] = true := by
  unfold qm_c qn_c qo_c
  cases s with
  | nil => rfl
  | cons b l =>
    rw [show decide (((b :: l).length : Int) ≥ (([47] : BS).length : Int)) = true from by simp; omega, is_true (show (0 : Int) ≤ (0 : Int) ∧ (0 : Int) ≤ (([47] : BS).length : Int) ∧ (([47] : BS).length : Int) ≤ ((b :: l).length : Int) from by simp; omega),
      is_true (show (0 : Int) ≤ (([47] : BS).length : Int) ∧ (([47] : BS).length : Int) ≤ ((b :: l).length : Int) ∧ ((b :: l).length : Int) ≤ ((b :: l).length : Int) from by simp; omega)]
    cases qo_v (b :: l) [47] <;> rfl
theorem cut_v (s : BS) : qm_v s [47] = bif (!(s == []) && (s.getD 0 0 == 47)) then (s.drop 1, true) else (s, false) := by
  unfold qm_v qn_v qo_v
  cases s with
  | nil => rfl
  | cons b l =>
    rw [show decide (((b :: l).length : Int) ≥ (([47] : BS).length : Int)) = true from by simp; omega]
    rw [show ((((b :: l).take ((([47] : BS).length : Int)).toNat).drop ((0 : Int)).toNat) == ([47] : BS)) = (b == 47) from by
      show ([b] == [47]) = _
      rw [Bool.eq_iff_iff]; simp]
    rw [show (((b :: l).take (((b :: l).length : Int)).toNat).drop ((([47] : BS).length : Int)).toNat) = l from by
      show ((b :: l).take (b :: l).length).drop 1 = l
      rw [List.take_length]; rfl]
    show _ = bif (!false && (b == 47)) then (l, true) else _
    cases b == 47 <;> rfl
theorem pcs_len : ∀ t : BS, (pcs t).length ≤ t.length + 1 ∧ ∀ x, x ∈ pcs t → x.length ≤ t.length
  | [] => ⟨by simp [pcs], fun x hx => by simp [pcs] at hx; subst hx; simp⟩
  | b :: l => by
    obtain ⟨h1, h2⟩ := pcs_len l
    rw [pcs_cons]
    cases b == 47 with
    | true =>
      refine ⟨by simp; omega, fun x hx => ?_⟩
      rcases List.mem_cons.1 hx with rfl | hx
      · simp
      · have := h2 x hx; simp; omega
    | false =>
      show (hdl [b] (pcs l)).length ≤ _ ∧ ∀ x, x ∈ hdl [b] (pcs l) → _
      cases hp : pcs l with
      | nil => exact absurd hp (pcs_ne l)
      | cons y z =>
        rw [hp] at h1 h2
        refine ⟨by simp [hdl] at h1 ⊢; omega, fun x hx => ?_⟩
        rcases List.mem_cons.1 hx with rfl | hx
        · have := h2 y List.mem_cons_self; simp; omega
        · have := h2 x (List.mem_cons_of_mem _ hx); simp; omega
theorem pcs_typed {t : BS} (h : t.length ≤ 1048576) : Typed tab (.slice 9) (.l (rowsS (pcs t))) := by
  obtain ⟨h1, h2⟩ := pcs_len t
  have hl : (rowsS (pcs t)).length ≤ 1048577 := by unfold rowsS; rw [List.length_map]; omega
  refine .slice _ _ (by rw [show (tab 9).bytes = 16 from rfl]; unfold reachBytes; omega) (by unfold maxLen; omega) (fun x hx => ?_) (fun x hx k hk => ?_)
  · obtain ⟨y, _, rfl⟩ := List.mem_map.1 hx
    rfl
  · obtain ⟨y, hy, rfl⟩ := List.mem_map.1 hx
    have hk : k < 1 := hk
    obtain rfl : k = 0 := by omega
    exact .str _ (by have := h2 y hy; unfold reachBytes; omega)
theorem cut_len (s : BS) : (qm_v s [47]).1.length ≤ s.length := by
  rw [cut_v]
  cases (!(s == []) && (s.getD 0 0 == 47))
  · exact Nat.le_refl _
  · show (s.drop 1).length ≤ _
    rw [List.length_drop]; omega
theorem qi_cc {s : BS} (hs : s.length ≤ 1048576) : qi_c s = true := by
  have h1 := cut_len s
  have a1 := cut_c s
  have a2 : qv_c ((qm_v s [47]).1) [47] = true := is_true ⟨by omega, by simp⟩
  have a3 : qj_c (qv_v ((qm_v s [47]).1) [47]) = true := by
    unfold qv_v
    rw [splL_slash]
    exact is_true (pcs_typed (by omega))
  unfold qi_c
  rw [a1, a2, a3]
  generalize (s == [47]) = p1, (qm_v s [47]).2 = p2, decide (((qv_v ((qm_v s [47]).1) [47]).length : Int) > (6 : Int)) = p3, qj_v (qv_v ((qm_v s [47]).1) [47]) = p4
  cases p1 <;> cases p2 <;> cases p3 <;> cases p4 <;> rfl
theorem qi_vv (s : BS) : qi_v s = (pathV s, pathB s) := by
  unfold qi_v qj_v qv_v
  simp only [splL_slash]
  rw [show (fun x : List TC => !(qp_v (nth x 0).str)) = fun x => nameOk (nth x 0).str from by
    funext x
    unfold qp_v
    rw [qe_vv, Bool.not_not]]
  have ha : ∀ L : List (BS), (rowsS L).all (fun x => nameOk (nth x 0).str) = L.all nameOk := fun L => by
    unfold rowsS
    rw [List.all_map]
    rfl
  rw [ha, cut_v]
  unfold pathV pathB
  cases h : s == [47] with
  | true =>
    have := eq_of_beq h
    subst this
    rfl
  | false =>
    have e2 : ∀ L : List (BS), decide (((rowsS L).length : Int) > 6) = !decide (L.length ≤ 6) := fun L => by
      rw [← decide_not]; exact decide_eq_decide.2 (by unfold rowsS; rw [List.length_map]; omega)
    rw [e2]
    generalize (s == []) = p1, (s.getD 0 0 == 47) = p2
    cases p1 <;> cases p2 <;> first
      | rfl
      | (show (bif !decide ((pcs (s.drop 1)).length ≤ 6) then _ else bif !((pcs (s.drop 1)).all nameOk) then _ else _) = _
         generalize (pcs (s.drop 1)).all nameOk = p3, decide ((pcs (s.drop 1)).length ≤ 6) = p4
         cases p3 <;> cases p4 <;> rfl)
def qt_t (a0 : BS) : Tr (Bool) := (.ite ((qi_c a0) = true) (.ok ((qi_v a0).2))
  .no)
def qt_mk (p : Bool) : Res := [(false, [⟨.bool, .sh, TC.b p⟩])]
def qt_c (a0 : BS) : Bool := (qi_c a0)
def qt_v (a0 : BS) : Bool := (qi_v a0).2
theorem qt_l (a0 : BS) : (qt_c a0) = true → (qt_t a0).val = some (qt_v a0) := by
  intro h
  have hc0 : (qi_c a0) = true := h
  unfold qt_t
  exact (Tr.t hc0 rfl)
def qt_S : List Arg → Option (Bool × Res) := fun xs => match xs with
  | [(false, [(.str, TC.s a0)])] => some ((qt_c a0), qt_mk (qt_v a0))
  | _ => .none
theorem qt_e (a0 : BS) : runF tab FT D21 live 8 noLoops [(false, [(.str, TC.s a0)])] = (qt_t a0).run fun p => some (qt_mk p) := by kernel_rfl
theorem qt_s : ∀ xs r, qt_S xs = some (true, r) → runF tab FT D21 live 8 noLoops xs = some r := by
  intro xs r h
  unfold qt_S at h
  split at h
  · obtain ⟨h1, rfl⟩ := sp h
    exact fun_told (qt_e _) (qt_l _) h1
  · cases h
def D22 : Dt := also D21 8 qt_S
theorem d22 : DOk Go.Proofs.Tryd.prog tab D22 := d21.also mixed_ok tab_ok names_ok noLoops_ok qt_s
def qk_t (a : BS) (b : Int) (c : BS) : Tr (Bool) := (.ite ((qe_c a) = true) (.ite ((!(qe_v a)) = true) (.ok false)
   (.ite ((c == []) = true) (.ok (qw_v b (1 : Int) (255 : Int)))
    (.ite ((b == (0 : Int)) = true) (.ite ((qt_c c) = true) (.ok (qt_v c))
      .no)
     (.ok false))))
  .no)
def qk_mk (p : Bool) : Res := [(false, [⟨.bool, .sh, TC.b p⟩])]
def qk_c (a : BS) (b : Int) (c : BS) : Bool := ((qe_c a) && (bif (!(qe_v a)) then true else (bif (c == []) then true else (bif (b == (0 : Int)) then ((qt_c c) && true) else true))))
def qk_v (a : BS) (b : Int) (c : BS) : Bool := (bif (!(qe_v a)) then false else (bif (c == []) then (qw_v b (1 : Int) (255 : Int)) else (bif (b == (0 : Int)) then (qt_v c) else false)))
theorem qk_l (a : BS) (b : Int) (c : BS) : (qk_c a b c) = true → (qk_t a b c).val = some (qk_v a b c) := by
  unfold qk_t qk_v qk_c
  exact fun h => (Tr.gb h fun h => (Tr.ss h (fun h => rfl) (fun h => (Tr.ss h (fun h => rfl) (fun h => (Tr.ss h (fun h => (Tr.gb h fun h => rfl)) (fun h => rfl)))))))
def qk_S : List Arg → Option (Bool × Res) := fun xs => match xs with
  | [(true, [(.str, TC.s a), (.int .i64, TC.i b), (.str, TC.s c)])] => some ((qk_c a b c), qk_mk (qk_v a b c))
  | _ => .none
theorem qk_e (a : BS) (b : Int) (c : BS) : runF tab FT D22 live 30 noLoops [(true, [(.str, TC.s a), (.int .i64, TC.i b), (.str, TC.s c)])] = (qk_t a b c).run fun p => some (qk_mk p) := by kernel_rfl
theorem qk_s : ∀ xs r, qk_S xs = some (true, r) → runF tab FT D22 live 30 noLoops xs = some r := by
  intro xs r h
  unfold qk_S at h
  split at h
  · obtain ⟨h1, rfl⟩ := sp h
    exact fun_told (qk_e ..) (qk_l _ _ _) h1
  · cases h
def D23 : Dt := also D22 30 qk_S
theorem d23 : DOk Go.Proofs.Tryd.prog tab D23 := d22.also mixed_ok tab_ok names_ok noLoops_ok qk_s
theorem qk_cc {a : BS} {b : Int} {c : BS} (ha : Typed tab (.str) (.s a)) (hc : c.length ≤ 1048576) : (qk_c a b c) = true := by
  unfold qk_c
  refine andT (by exact qe_cc ha) ?_
  refine bifT (fun b1 => ?_) (fun b1 => ?_)
  · skip
    rfl
  · skip
    refine bifT (fun b2 => ?_) (fun b2 => ?_)
    · skip
      rfl
    · skip
      refine bifT (fun b3 => ?_) (fun b3 => ?_)
      · skip
        refine andT (by exact qi_cc hc) ?_
        rfl
      · skip
        rfl
theorem qk_vv (x : List TC) : qk_v (nth x 0).str (nth x 1).int (nth x 2).str = (nameOk (nth x 0).str && linkB x) := by
  unfold qk_v linkB
  rw [qe_vv, show qt_v (nth x 2).str = pathB (nth x 2).str from by unfold qt_v; rw [qi_vv], show qw_v (nth x 1).int 1 255 = lnIn (nth x 1).int from by
    unfold qw_v lnIn; first | rfl | (generalize decide ((nth x 1).int ≥ 1) = p1, decide ((nth x 1).int ≤ 255) = p2; cases p1 <;> cases p2 <;> rfl)]
  generalize nameOk (nth x 0).str = p1, ((nth x 2).str == []) = p2, lnIn (nth x 1).int = p3, ((nth x 1).int == 0) = p4, pathB (nth x 2).str = p5
  cases p1 <;> cases p2 <;> cases p3 <;> cases p4 <;> cases p5 <;> rfl
def qc_f2 (A X : LL) (m i : Int) : (Unit) ⊕ ((LL) ⊕ (LL)) := (bif (!(qk_v ((nth (row X i) 0).str) ((nth (row X i) 1).int) ((nth (row X i) 2).str))) then (.inr (.inl A)) else (bif (decide (i > (0 : Int))) then (bif (bytesLess ((nth (row X i) 0).str) ((nth (row A (IntKind.wrap .i64 (i - (1 : Int)))) 0).str) || ((nth (row X i) 0).str == (nth (row A (IntKind.wrap .i64 (i - (1 : Int)))) 0).str)) then (.inr (.inl A)) else (.inl ())) else (.inl ())))
def qc_e2 (A X : LL) (m : Int) : (LL) ⊕ (LL) := .inr A
def qc_R2 (A X : LL) (m i : Int) : (LL) ⊕ (LL) := iter (fun i a => (qc_f2 A X m (i : Int))) (fun a => (qc_e2 A X m)) (A.length) 0 ()
abbrev qc_2_σ := LL × LL × Int × Int
abbrev qc_2_ω := (LL) ⊕ (LL)
def qc_2_step (A X : LL) (m i : Int) : Tr (qc_2_σ ⊕ qc_2_ω) := (.ite ((decide (i < m)) = true) (.ite ((0 : Int) ≤ i ∧ i < (X.length : Int)) (.ite ((qk_c ((nth (row X i) 0).str) ((nth (row X i) 1).int) ((nth (row X i) 2).str)) = true) (.ite ((!(qk_v ((nth (row X i) 0).str) ((nth (row X i) 1).int) ((nth (row X i) 2).str))) = true) (.ok (.inr (.inl A)))
     (.ite ((decide (i > (0 : Int))) = true) (.ite ((0 : Int) ≤ (IntKind.wrap .i64 (i - (1 : Int))) ∧ (IntKind.wrap .i64 (i - (1 : Int))) < (A.length : Int)) (.ite ((bytesLess ((nth (row X i) 0).str) ((nth (row A (IntKind.wrap .i64 (i - (1 : Int)))) 0).str) || ((nth (row X i) 0).str == (nth (row A (IntKind.wrap .i64 (i - (1 : Int)))) 0).str)) = true) (.ok (.inr (.inl A)))
        (.ok (.inl (A, X, m, (IntKind.wrap .i64 (i + (1 : Int)))))))
       .no)
      (.ok (.inl (A, X, m, (IntKind.wrap .i64 (i + (1 : Int))))))))
    .no)
   .no)
  (.ok (.inr (.inr A))))
def qc_2_st : qc_2_σ → Tr (qc_2_σ ⊕ qc_2_ω) := fun x => (qc_2_step (x.1) (x.2.1) (x.2.2.1) (x.2.2.2))
def qc_k2_1 (A X : LL) (m i : Int) : Bool := sumIs (qc_R2 A X m i)
def qc_o2_2 (A X : LL) (m i : Int) : Bool := is (i = 0 ∧ Typed tab (.slice 48) (.l A) ∧ m = (A.length : Int) ∧ A = X ∧ PathsOk A)
def qc_o2_3 (A X : LL) (m i : Int) : Bool := is (i = 0 ∧ Typed tab (.slice 48) (.l A) ∧ m = (A.length : Int) ∧ A = X ∧ PathsOk A)
def qc_2_fin (A X : LL) (m i : Int) : Told qc_2_ω := (.br (qc_k2_1 A X m i) (.leaf (qc_o2_2 A X m i) (.inl A)) (.leaf (qc_o2_3 A X m i) (.inr A)))
def qc_2_sl (x : qc_2_σ) : List Slot := [⟨.val false [⟨.slice 48, .sh, TC.l (x.1)⟩], ⟨0, 0⟩⟩, ⟨.val false [⟨.slice 48, .sh, TC.l (x.2.1)⟩], ⟨0, 0⟩⟩, ⟨.val false [⟨.int .i64, .sh, TC.i (x.2.2.1)⟩], ⟨0, 0⟩⟩, ⟨.val false [⟨.int .i64, .sh, TC.i (x.2.2.2)⟩], ⟨0, 0⟩⟩]
def qc_2_out : qc_2_ω → Ex × List Slot := (Sum.elim (fun x => (.ret, [⟨.val false [⟨.slice 48, .sh, TC.l x⟩], ⟨0, 0⟩⟩, ⟨.val false [⟨.bool, .sh, TC.b false⟩], ⟨0, 0⟩⟩])) (fun x => (.exit 0, [⟨.val false [⟨.slice 48, .sh, TC.l x⟩], ⟨0, 0⟩⟩, Slot.none])))
def qc_lo2 : List Slot → Option (Told (Ex × List Slot)) := fun s => match s with
  | [⟨.val false [⟨.slice 48, .sh, TC.l A⟩], ⟨0, 0⟩⟩, ⟨.val false [⟨.slice 48, .sh, TC.l X⟩], ⟨0, 0⟩⟩, ⟨.val false [⟨.int .i64, .sh, TC.i m⟩], ⟨0, 0⟩⟩, ⟨.val false [⟨.int .i64, .sh, TC.i i⟩], ⟨0, 0⟩⟩] => some (((qc_2_fin A X m i)).map qc_2_out)
  | _ => .none
def qc_lo : LoopTeller := fun r s => bif Nat.beq r 2 then qc_lo2 s else .none
theorem qc_2_r (A X : LL) (m i : Int) (fuel : Nat) : rounds (rnd tab FT D23 live 17 qc_lo 0 2) leave (fuel + 1) (qc_2_sl (A, X, m, i)) = ((qc_2_step A X m i)).run (goOn (fun s => rounds (rnd tab FT D23 live 17 qc_lo 0 2) leave fuel (qc_2_sl s)) fun w => some (qc_2_out w)) := by kernel_rfl
theorem qc_f2_eq (A : LL) (m i : Int) : qc_f2 A A m i = bif linkP A i then Sum.inl () else Sum.inr (Sum.inl A) := by
  unfold qc_f2 linkP
  simp only [qk_vv, less_le]
  generalize nameOk (nth (row A i) 0).str = p0, decide (i > (0 : Int)) = p1, bytesLess (nth (row A (IntKind.wrap .i64 (i - (1 : Int)))) 0).str (nth (row A i) 0).str = p2, linkB (row A i) = p3
  cases p0 <;> cases p1 <;> cases p2 <;> cases p3 <;> rfl
theorem qc_R2_eq (A : LL) (m : Int) : qc_R2 A A m 0 = bif allI (fun i : Nat => linkP A (i : Int)) A.length then Sum.inr A else Sum.inl A := by
  unfold qc_R2
  exact (iter_all (P := fun i : Nat => linkP A (i : Int)) (g := fun _ a => a) (w := Sum.inl A) fun j a _ => qc_f2_eq A m _)
theorem qc_2_h (A X : LL) (m i : Int) (ow : qc_2_ω) : ((qc_2_fin A X m i)).val = some ow → ∃ fuel, loopN qc_2_st fuel (A, X, m, i) = some ow := by
  refine auto_const (R := (qc_R2 A X m i)) rfl (iter_onR (f := (fun i a => (qc_f2 A X m (i : Int)))) (fin := (fun a => (qc_e2 A X m))) (Q := endsAs A A) (fun i a => by unfold qc_f2; exact (onR_bif rfl (onR_bif (onR_bif rfl trivial) trivial))) (fun _ => rfl) _ _ _) ?_
  intro ho
  have ho : is (i = 0 ∧ Typed tab (.slice 48) (.l A) ∧ m = (A.length : Int) ∧ A = X ∧ PathsOk A) = true := ho.elim id id
  obtain ⟨rfl, ht, rfl, rfl, hP⟩ := is_iff.1 ho
  have hlen : A.length ≤ 140737488351232 := by have := typed_room ht; simp only [show (tab 48).bytes = 40 from rfl] at this; omega
  refine ⟨(A.length) + 1, ?_⟩
  refine iter_loop (step := qc_2_st) (A.length) (fun i a => (qc_f2 A A (A.length : Int) (i : Int))) (fun a => (qc_e2 A A (A.length : Int))) (fun i a => (A, A, (A.length : Int), (i : Int))) (fun _ _ => True) trivial (fun i a hi hI => ⟨?_, fun _ _ => trivial⟩) (fun a hI => ?_)
  · show (qc_2_step A A (A.length : Int) (i : Int)).val = _
    unfold qc_2_step qc_f2
    have c0 : Typed tab (.str) (.s (nth (A.getD i []) 0).str) := typed_s (typed_cell ht (A.getD i []) (mem_getD hi) 0 (by decide))
    have c2 : Typed tab (.str) (.s (nth (A.getD i []) 2).str) := typed_s (typed_cell ht (A.getD i []) (mem_getD hi) 2 (by decide))
    refine Tr.t (by simp; omega) ?_
    exact (Tr.t (by first | omega | (constructor <;> omega) | (simp only [decide_eq_true_eq] at *; rw [wrap64 (by omega) (by omega)]; constructor <;> omega) | (exact qk_cc (by assumption) (hP _ (mem_getD (by omega))))) (Tr.t (by first | (simp only [decide_eq_true_eq] at *; rw [wrap64 (by omega) (by omega)]; constructor <;> omega) | (exact qk_cc (by assumption) (hP _ (mem_getD (by omega)))) | (first | (apply qk_cc <;> assumption) | (first | (apply is_true; and_intros <;> (first | rfl | assumption | (apply qd_cc <;> assumption) | (apply qb_cc <;> assumption) | (apply qf_cc <;> assumption) | (apply qe_cc <;> assumption) | (apply qk_cc <;> assumption) | (first | (apply is_true; and_intros <;> (first | rfl | assumption | (apply qd_cc <;> assumption) | (apply qb_cc <;> assumption) | (apply qf_cc <;> assumption) | (apply qe_cc <;> assumption) | (apply qk_cc <;> assumption))) | (apply qd_cc <;> assumption) | (apply qb_cc <;> assumption) | (apply qf_cc <;> assumption) | (apply qe_cc <;> assumption) | (apply qk_cc <;> assumption)))) | (apply qd_cc <;> assumption) | (apply qb_cc <;> assumption) | (apply qf_cc <;> assumption) | (apply qe_cc <;> assumption) | (apply qk_cc <;> assumption)))) (Tr.bh (fun _ => rfl) (fun _ => (Tr.bh (fun _ => (Tr.t (by first | omega | (constructor <;> omega) | (simp only [decide_eq_true_eq] at *; rw [wrap64 (by omega) (by omega)]; constructor <;> omega) | (exact qk_cc (by assumption) (hP _ (mem_getD (by omega))))) (Tr.bh (fun _ => rfl) (fun _ => (by rw [Tr.val_ok, wrap64 (i := (i : Int) + 1) (by omega) (by omega)]; rfl))))) (fun _ => (by rw [Tr.val_ok, wrap64 (i := (i : Int) + 1) (by omega) (by omega)]; rfl)))))))
  · show (qc_2_step A A (A.length : Int) (A.length : Int)).val = _
    refine Tr.n (by first | (simp; done) | (simp; omega) | omega) ?_
    rfl
theorem qc_is2 : LoopIs tab FT D23 live 17 qc_lo 0 2 := by
  refine loop_told (sl := qc_2_sl) (step := qc_2_st) (out := qc_2_out) (lor := qc_lo2) (fin := fun x => (qc_2_fin (x.1) (x.2.1) (x.2.2.1) (x.2.2.2))) (fun _ => rfl) ?_ (fun x n => qc_2_r x.1 x.2.1 x.2.2.1 x.2.2.2 n) (fun x ow => qc_2_h x.1 x.2.1 x.2.2.1 x.2.2.2 ow)
  intro s t h
  unfold qc_lo2 at h
  split at h
  · cases h; exact ⟨(_, _, _, _), rfl, rfl⟩
  · cases h
def qc_t (A : LL) : Tr (Bool) := (.ite ((qc_k2_1 A A (A.length : Int) (0 : Int)) = true) (.ite ((qc_o2_2 A A (A.length : Int) (0 : Int)) = true) (.ok false)
   .no)
  (.ite ((qc_o2_3 A A (A.length : Int) (0 : Int)) = true) (.ok (decide ((A.length : Int) ≤ (12 : Int))))
   .no))
def qc_mk (p : Bool) : Res := [(false, [⟨.bool, .sh, TC.b p⟩])]
def qc_c (A : LL) : Bool := (bif (qc_k2_1 A A (A.length : Int) (0 : Int)) then ((qc_o2_2 A A (A.length : Int) (0 : Int)) && true) else ((qc_o2_3 A A (A.length : Int) (0 : Int)) && true))
def qc_v (A : LL) : Bool := (bif (qc_k2_1 A A (A.length : Int) (0 : Int)) then false else (decide ((A.length : Int) ≤ (12 : Int))))
theorem qc_l (A : LL) : (qc_c A) = true → (qc_t A).val = some (qc_v A) := by
  unfold qc_t qc_v qc_c
  exact fun h => (Tr.ss h (fun h => (Tr.gb h fun h => rfl)) (fun h => (Tr.gb h fun h => rfl)))
def qc_S : List Arg → Option (Bool × Res) := fun xs => match xs with
  | [(false, [(.slice 48, TC.l A)])] => some ((qc_c A), qc_mk (qc_v A))
  | _ => .none
theorem qc_e (A : LL) : runF tab FT D23 live 17 qc_lo [(false, [(.slice 48, TC.l A)])] = (qc_t A).run fun p => some (qc_mk p) := by kernel_rfl
theorem qc_s : ∀ xs r, qc_S xs = some (true, r) → runF tab FT D23 live 17 qc_lo xs = some r := by
  intro xs r h
  unfold qc_S at h
  split at h
  · obtain ⟨h1, rfl⟩ := sp h
    exact fun_told (qc_e _) (qc_l _) h1
  · cases h
def D24 : Dt := also D23 17 qc_S
theorem d24 : DOk Go.Proofs.Tryd.prog tab D24 := d23.also mixed_ok tab_ok names_ok (fnLoops_one (by kernel_rfl) qc_is2) qc_s
theorem qc_cc {A : LL} (hA : Typed tab (.slice 48) (.l A)) (hP : PathsOk A) : (qc_c A) = true := by
  unfold qc_c
  refine bifT (fun b1 => ?_) (fun b1 => ?_)
  · skip
    refine andT (by exact is_true ⟨rfl, hA, rfl, rfl, hP⟩) ?_
    rfl
  · skip
    refine andT (by exact is_true ⟨rfl, hA, rfl, rfl, hP⟩) ?_
    rfl
theorem qc_vv (A : LL) : qc_v A = linksB A := by
  unfold qc_v qc_k2_1
  rw [qc_R2_eq]
  unfold linksB
  rw [show decide ((A.length : Int) ≤ 12) = decide (A.length ≤ 12) from decide_eq_decide.2 (by omega)]
  generalize allI (fun i : Nat => linkP A (i : Int)) A.length = p1, decide (A.length ≤ 12) = p2
  cases p1 <;> cases p2 <;> rfl
def qx_t (x0 : BS) (x1 : Int) (x2 y0 : BS) (y1 : Int) (y2 : BS) : Tr (Bool) := (.ite ((!(x0 == y0)) = true) (.ok false)
  (.ite ((!(x1 == y1)) = true) (.ok false)
   (.ite ((!(x2 == y2)) = true) (.ok false)
    (.ok true))))
def qx_mk (p : Bool) : Res := [(false, [⟨.bool, .sh, TC.b p⟩])]
def qx_c (x0 : BS) (x1 : Int) (x2 y0 : BS) (y1 : Int) (y2 : BS) : Bool := is (x0 = y0 ∧ x1 = y1 ∧ x2 = y2 ∧ Typed tab (.str) (.s x0) ∧ Typed tab (.str) (.s x2))
def qx_v (x0 : BS) (x1 : Int) (x2 y0 : BS) (y1 : Int) (y2 : BS) : Bool := true
theorem qx_l (x0 : BS) (x1 : Int) (x2 y0 : BS) (y1 : Int) (y2 : BS) : (qx_c x0 x1 x2 y0 y1 y2) = true → (qx_t x0 x1 x2 y0 y1 y2).val = some (qx_v x0 x1 x2 y0 y1 y2) := by
  intro h
  obtain ⟨rfl, rfl, rfl, t0, t1⟩ := is_iff.1 h
  unfold qx_t
  refine Tr.n (by simp) ?_
  refine Tr.n (by simp) ?_
  refine Tr.n (by simp) ?_
  rfl
def qx_S : List Arg → Option (Bool × Res) := fun xs => match xs with
  | [(true, [(.str, TC.s x0), (.int .i64, TC.i x1), (.str, TC.s x2)]), (true, [(.str, TC.s y0), (.int .i64, TC.i y1), (.str, TC.s y2)])] => some ((qx_c x0 x1 x2 y0 y1 y2), qx_mk (qx_v x0 x1 x2 y0 y1 y2))
  | _ => .none
theorem qx_e (x0 : BS) (x1 : Int) (x2 y0 : BS) (y1 : Int) (y2 : BS) : runF tab FT D24 live 31 noLoops [(true, [(.str, TC.s x0), (.int .i64, TC.i x1), (.str, TC.s x2)]), (true, [(.str, TC.s y0), (.int .i64, TC.i y1), (.str, TC.s y2)])] = (qx_t x0 x1 x2 y0 y1 y2).run fun p => some (qx_mk p) := by kernel_rfl
theorem qx_s : ∀ xs r, qx_S xs = some (true, r) → runF tab FT D24 live 31 noLoops xs = some r := by
  intro xs r h
  unfold qx_S at h
  split at h
  · obtain ⟨h1, rfl⟩ := sp h
    exact fun_told (qx_e ..) (qx_l _ _ _ _ _ _) h1
  · cases h
def D25 : Dt := also D24 31 qx_S
theorem d25 : DOk Go.Proofs.Tryd.prog tab D25 := d24.also mixed_ok tab_ok names_ok noLoops_ok qx_s
abbrev ql_4_σ := LL × LL × Int
abbrev ql_4_ω := (Unit) ⊕ (Unit)
def ql_4_step (A C : LL) (i : Int) : Tr (ql_4_σ ⊕ ql_4_ω) := (.ite ((decide (i < (A.length : Int))) = true) (.ite ((0 : Int) ≤ i ∧ i < (A.length : Int)) (.ite ((0 : Int) ≤ i ∧ i < (C.length : Int)) (.ite ((qx_c ((nth (row A i) 0).str) ((nth (row A i) 1).int) ((nth (row A i) 2).str) ((nth (row C i) 0).str) ((nth (row C i) 1).int) ((nth (row C i) 2).str)) = true) (.ite ((!(qx_v ((nth (row A i) 0).str) ((nth (row A i) 1).int) ((nth (row A i) 2).str) ((nth (row C i) 0).str) ((nth (row C i) 1).int) ((nth (row C i) 2).str))) = true) (.ok (.inr (.inl ())))
      (.ok (.inl (A, C, (IntKind.wrap .i64 (i + (1 : Int)))))))
     .no)
    .no)
   .no)
  (.ok (.inr (.inr ()))))
def ql_4_st : ql_4_σ → Tr (ql_4_σ ⊕ ql_4_ω) := fun x => (ql_4_step (x.1) (x.2.1) (x.2.2))
def ql_o4_1 (A C : LL) (i : Int) : Bool := is (A = C ∧ i = 0 ∧ Typed tab (.slice 48) (.l A))
def ql_4_fin (A C : LL) (i : Int) : Told ql_4_ω := (.leaf (ql_o4_1 A C i) (.inr ()))
def ql_4_sl (x : ql_4_σ) : List Slot := [⟨.val false [⟨.slice 48, .sh, TC.l (x.1)⟩], ⟨0, 0⟩⟩, ⟨.val false [⟨.slice 48, .sh, TC.l (x.2.1)⟩], ⟨0, 0⟩⟩, ⟨.val false [⟨.int .i64, .sh, TC.i (x.2.2)⟩], ⟨0, 0⟩⟩]
def ql_4_out : ql_4_ω → Ex × List Slot := (Sum.elim (fun x => (.ret, [⟨.val false [⟨.bool, .sh, TC.b false⟩], ⟨0, 0⟩⟩])) (fun x => (.exit 0, [Slot.none])))
def ql_lo4 : List Slot → Option (Told (Ex × List Slot)) := fun s => match s with
  | [⟨.val false [⟨.slice 48, .sh, TC.l A⟩], ⟨0, 0⟩⟩, ⟨.val false [⟨.slice 48, .sh, TC.l C⟩], ⟨0, 0⟩⟩, ⟨.val false [⟨.int .i64, .sh, TC.i i⟩], ⟨0, 0⟩⟩] => some (((ql_4_fin A C i)).map ql_4_out)
  | _ => .none
def ql_lo : LoopTeller := fun r s => bif Nat.beq r 4 then ql_lo4 s else .none
theorem ql_4_r (A C : LL) (i : Int) (fuel : Nat) : rounds (rnd tab FT D25 live 18 ql_lo 0 4) leave (fuel + 1) (ql_4_sl (A, C, i)) = ((ql_4_step A C i)).run (goOn (fun s => rounds (rnd tab FT D25 live 18 ql_lo 0 4) leave fuel (ql_4_sl s)) fun w => some (ql_4_out w)) := by kernel_rfl
theorem ql_4_h (A C : LL) (i : Int) (ow : ql_4_ω) : ((ql_4_fin A C i)).val = some ow → ∃ fuel, loopN ql_4_st fuel (A, C, i) = some ow := by
  intro h
  simp only [ql_4_fin, Told.val] at h
  split at h
  · rename_i ho
    obtain ⟨rfl, rfl, ht⟩ := is_iff.1 ho
    cases h
    have hlen : A.length ≤ 140737488351232 := by have := typed_room ht; simp only [show (tab 48).bytes = 40 from rfl] at this; omega
    refine ⟨_, loopN_run (N := A.length) (fun i => (A, A, (i : Int))) (fun i hi => ?_) ?_ A.length 0 (by omega)⟩
    · have c0 : Typed tab (.str) (.s (nth (A.getD i []) 0).str) := typed_s (typed_cell ht (A.getD i []) (mem_getD hi) 0 (by decide))
      have c2 : Typed tab (.str) (.s (nth (A.getD i []) 2).str) := typed_s (typed_cell ht (A.getD i []) (mem_getD hi) 2 (by decide))
      show (ql_4_step A A (i : Int)).val = _
      unfold ql_4_step
      refine Tr.t (by simp; omega) ?_
      refine Tr.t (by constructor <;> omega) ?_
      refine Tr.t (by constructor <;> omega) ?_
      refine Tr.t (by first | (apply is_true; and_intros <;> (first | rfl | assumption | (apply qd_cc <;> assumption) | (apply qb_cc <;> assumption) | (apply qf_cc <;> assumption) | (apply qe_cc <;> assumption) | (apply qk_cc <;> assumption) | (apply qc_cc <;> assumption) | (first | (apply is_true; and_intros <;> (first | rfl | assumption | (apply qd_cc <;> assumption) | (apply qb_cc <;> assumption) | (apply qf_cc <;> assumption) | (apply qe_cc <;> assumption) | (apply qk_cc <;> assumption) | (apply qc_cc <;> assumption) | (first | (apply is_true; and_intros <;> (first | rfl | assumption | (apply qd_cc <;> assumption) | (apply qb_cc <;> assumption) | (apply qf_cc <;> assumption) | (apply qe_cc <;> assumption) | (apply qk_cc <;> assumption) | (apply qc_cc <;> assumption) | (first | (apply is_true; and_intros <;> (first | rfl | assumption | (apply qd_cc <;> assumption) | (apply qb_cc <;> assumption) | (apply qf_cc <;> assumption) | (apply qe_cc <;> assumption) | (apply qk_cc <;> assumption) | (apply qc_cc <;> assumption))) | (apply qd_cc <;> assumption) | (apply qb_cc <;> assumption) | (apply qf_cc <;> assumption) | (apply qe_cc <;> assumption) | (apply qk_cc <;> assumption) | (apply qc_cc <;> assumption)))) | (apply qd_cc <;> assumption) | (apply qb_cc <;> assumption) | (apply qf_cc <;> assumption) | (apply qe_cc <;> assumption) | (apply qk_cc <;> assumption) | (apply qc_cc <;> assumption)))) | (apply qd_cc <;> assumption) | (apply qb_cc <;> assumption) | (apply qf_cc <;> assumption) | (apply qe_cc <;> assumption) | (apply qk_cc <;> assumption) | (apply qc_cc <;> assumption)))) | (apply qd_cc <;> assumption) | (apply qb_cc <;> assumption) | (apply qf_cc <;> assumption) | (apply qe_cc <;> assumption) | (apply qk_cc <;> assumption) | (apply qc_cc <;> assumption)) ?_
      refine Tr.n (by simp [qx_v]) ?_
      rw [Tr.val_ok, wrap64 (i := (i : Int) + 1) (by omega) (by omega)]; rfl
    · show (ql_4_step A A (A.length : Int)).val = _
      refine Tr.n (by simp) ?_
      rfl
  · cases h
theorem ql_is4 : LoopIs tab FT D25 live 18 ql_lo 0 4 := by
  refine loop_told (sl := ql_4_sl) (step := ql_4_st) (out := ql_4_out) (lor := ql_lo4) (fin := fun x => (ql_4_fin (x.1) (x.2.1) (x.2.2))) (fun _ => rfl) ?_ (fun x n => ql_4_r x.1 x.2.1 x.2.2 n) (fun x ow => ql_4_h x.1 x.2.1 x.2.2 ow)
  intro s t h
  unfold ql_lo4 at h
  split at h
  · cases h; exact ⟨(_, _, _), rfl, rfl⟩
  · cases h
def ql_t (A C : LL) : Tr (Bool) := (.ite ((!((A.length : Int) == (C.length : Int))) = true) (.ok false)
  (.ite ((ql_o4_1 A C (0 : Int)) = true) (.ok true)
   .no))
def ql_mk (p : Bool) : Res := [(false, [⟨.bool, .sh, TC.b p⟩])]
def ql_c (A C : LL) : Bool := is (A = C ∧ Typed tab (.slice 48) (.l A))
def ql_v (A C : LL) : Bool := true
theorem ql_l (A C : LL) : (ql_c A C) = true → (ql_t A C).val = some (ql_v A C) := by
  intro h
  obtain ⟨rfl, ht⟩ := is_iff.1 h
  unfold ql_t
  refine Tr.n (by simp) ?_
  refine Tr.t (by first | (apply is_true; and_intros <;> (first | rfl | assumption | (apply qd_cc <;> assumption) | (apply qb_cc <;> assumption) | (apply qf_cc <;> assumption) | (apply qe_cc <;> assumption) | (apply qk_cc <;> assumption) | (apply qc_cc <;> assumption) | (first | (apply is_true; and_intros <;> (first | rfl | assumption | (apply qd_cc <;> assumption) | (apply qb_cc <;> assumption) | (apply qf_cc <;> assumption) | (apply qe_cc <;> assumption) | (apply qk_cc <;> assumption) | (apply qc_cc <;> assumption) | (first | (apply is_true; and_intros <;> (first | rfl | assumption | (apply qd_cc <;> assumption) | (apply qb_cc <;> assumption) | (apply qf_cc <;> assumption) | (apply qe_cc <;> assumption) | (apply qk_cc <;> assumption) | (apply qc_cc <;> assumption) | (first | (apply is_true; and_intros <;> (first | rfl | assumption | (apply qd_cc <;> assumption) | (apply qb_cc <;> assumption) | (apply qf_cc <;> assumption) | (apply qe_cc <;> assumption) | (apply qk_cc <;> assumption) | (apply qc_cc <;> assumption))) | (apply qd_cc <;> assumption) | (apply qb_cc <;> assumption) | (apply qf_cc <;> assumption) | (apply qe_cc <;> assumption) | (apply qk_cc <;> assumption) | (apply qc_cc <;> assumption)))) | (apply qd_cc <;> assumption) | (apply qb_cc <;> assumption) | (apply qf_cc <;> assumption) | (apply qe_cc <;> assumption) | (apply qk_cc <;> assumption) | (apply qc_cc <;> assumption)))) | (apply qd_cc <;> assumption) | (apply qb_cc <;> assumption) | (apply qf_cc <;> assumption) | (apply qe_cc <;> assumption) | (apply qk_cc <;> assumption) | (apply qc_cc <;> assumption)))) | (apply qd_cc <;> assumption) | (apply qb_cc <;> assumption) | (apply qf_cc <;> assumption) | (apply qe_cc <;> assumption) | (apply qk_cc <;> assumption) | (apply qc_cc <;> assumption)) ?_
  rfl
def ql_S : List Arg → Option (Bool × Res) := fun xs => match xs with
  | [(false, [(.slice 48, TC.l A)]), (false, [(.slice 48, TC.l C)])] => some ((ql_c A C), ql_mk (ql_v A C))
  | _ => .none
theorem ql_e (A C : LL) : runF tab FT D25 live 18 ql_lo [(false, [(.slice 48, TC.l A)]), (false, [(.slice 48, TC.l C)])] = (ql_t A C).run fun p => some (ql_mk p) := by kernel_rfl
theorem ql_s : ∀ xs r, ql_S xs = some (true, r) → runF tab FT D25 live 18 ql_lo xs = some r := by
  intro xs r h
  unfold ql_S at h
  split at h
  · obtain ⟨h1, rfl⟩ := sp h
    exact fun_told (ql_e ..) (ql_l _ _) h1
  · cases h
def D26 : Dt := also D25 18 ql_S
theorem d26 : DOk Go.Proofs.Tryd.prog tab D26 := d25.also mixed_ok tab_ok names_ok (fnLoops_one (by kernel_rfl) ql_is4) ql_s
def laws_FnExactValidLinks_t (x0 : LL) : Tr Bool := (.ite ((qg_c x0 (1048576 : Int)) = true) (.ite ((decide ((qg_v x0 (1048576 : Int)) < (0 : Int))) = true) (.ok true)
   (.ite ((qh_c x0) = true) (.ite ((qs_c (qh_v x0)) = true) (.ite ((qh_c x0) = true) (.ite ((qc_c (qh_v x0)) = true) (.ite ((!((qc_v (qh_v x0)) == (qs_v (qh_v x0)))) = true) (.ok false)
        (.ite ((qh_c x0) = true) (.ite ((ql_c (qh_v x0) (qh_v x0)) = true) (.ite ((!(ql_v (qh_v x0) (qh_v x0))) = true) (.ok false)
           (.ok true))
          .no)
         .no))
       .no)
      .no)
     .no)
    .no))
  .no)
theorem laws_FnExactValidLinks_e (x0 : LL) : runF tab FT D26 live 5 noLoops [(false, [(.slice 47, TC.l x0)])] = (laws_FnExactValidLinks_t x0).run fun p => some [(false, [⟨.bool, .sh, .b p⟩])] := by kernel_rfl
theorem paths_g {A : LL} (h : ∀ x, x ∈ A → (nth x 2).str.length ≤ 1048576) : PathsOk (qh_v A) := fun x hx => by
  obtain ⟨y, hy, rfl⟩ := List.mem_map.1 (show x ∈ A.map qh_g from hx)
  exact h y hy
theorem laws_FnExactValidLinks_p (x0 : LL) (h0 : Typed tab (.slice 47) (.l x0)) : (laws_FnExactValidLinks_t x0).val = some true := by
  have t0_48 := qh_ty h0
  unfold laws_FnExactValidLinks_t
  have e1 : qs_v (qh_v x0) = qc_v (qh_v x0) := by unfold qs_v; rw [qf_vv, qc_vv]
  try rw [e1]
  refine Tr.t (by first | exact (by first | (apply is_true; and_intros <;> (first | rfl | assumption | (apply qd_cc <;> assumption) | (apply qb_cc <;> assumption) | (apply qf_cc <;> assumption) | (apply qe_cc <;> assumption) | (apply qk_cc <;> assumption) | (apply qc_cc <;> assumption) | (first | (apply is_true; and_intros <;> (first | rfl | assumption | (apply qd_cc <;> assumption) | (apply qb_cc <;> assumption) | (apply qf_cc <;> assumption) | (apply qe_cc <;> assumption) | (apply qk_cc <;> assumption) | (apply qc_cc <;> assumption) | (first | (apply is_true; and_intros <;> (first | rfl | assumption | (apply qd_cc <;> assumption) | (apply qb_cc <;> assumption) | (apply qf_cc <;> assumption) | (apply qe_cc <;> assumption) | (apply qk_cc <;> assumption) | (apply qc_cc <;> assumption) | (first | (apply is_true; and_intros <;> (first | rfl | assumption | (apply qd_cc <;> assumption) | (apply qb_cc <;> assumption) | (apply qf_cc <;> assumption) | (apply qe_cc <;> assumption) | (apply qk_cc <;> assumption) | (apply qc_cc <;> assumption))) | (apply qd_cc <;> assumption) | (apply qb_cc <;> assumption) | (apply qf_cc <;> assumption) | (apply qe_cc <;> assumption) | (apply qk_cc <;> assumption) | (apply qc_cc <;> assumption)))) | (apply qd_cc <;> assumption) | (apply qb_cc <;> assumption) | (apply qf_cc <;> assumption) | (apply qe_cc <;> assumption) | (apply qk_cc <;> assumption) | (apply qc_cc <;> assumption)))) | (apply qd_cc <;> assumption) | (apply qb_cc <;> assumption) | (apply qf_cc <;> assumption) | (apply qe_cc <;> assumption) | (apply qk_cc <;> assumption) | (apply qc_cc <;> assumption)))) | (apply qd_cc <;> assumption) | (apply qb_cc <;> assumption) | (apply qf_cc <;> assumption) | (apply qe_cc <;> assumption) | (apply qk_cc <;> assumption) | (apply qc_cc <;> assumption)) | simp [*]) ?_
  refine Tr.yk (fun hk0 => ?_)
  refine Tr.t (by first | exact (by first | (apply is_true; and_intros <;> (first | rfl | assumption | (apply qd_cc <;> assumption) | (apply qb_cc <;> assumption) | (apply qf_cc <;> assumption) | (apply qe_cc <;> assumption) | (apply qk_cc <;> assumption) | (apply qc_cc <;> assumption) | (first | (apply is_true; and_intros <;> (first | rfl | assumption | (apply qd_cc <;> assumption) | (apply qb_cc <;> assumption) | (apply qf_cc <;> assumption) | (apply qe_cc <;> assumption) | (apply qk_cc <;> assumption) | (apply qc_cc <;> assumption) | (first | (apply is_true; and_intros <;> (first | rfl | assumption | (apply qd_cc <;> assumption) | (apply qb_cc <;> assumption) | (apply qf_cc <;> assumption) | (apply qe_cc <;> assumption) | (apply qk_cc <;> assumption) | (apply qc_cc <;> assumption) | (first | (apply is_true; and_intros <;> (first | rfl | assumption | (apply qd_cc <;> assumption) | (apply qb_cc <;> assumption) | (apply qf_cc <;> assumption) | (apply qe_cc <;> assumption) | (apply qk_cc <;> assumption) | (apply qc_cc <;> assumption))) | (apply qd_cc <;> assumption) | (apply qb_cc <;> assumption) | (apply qf_cc <;> assumption) | (apply qe_cc <;> assumption) | (apply qk_cc <;> assumption) | (apply qc_cc <;> assumption)))) | (apply qd_cc <;> assumption) | (apply qb_cc <;> assumption) | (apply qf_cc <;> assumption) | (apply qe_cc <;> assumption) | (apply qk_cc <;> assumption) | (apply qc_cc <;> assumption)))) | (apply qd_cc <;> assumption) | (apply qb_cc <;> assumption) | (apply qf_cc <;> assumption) | (apply qe_cc <;> assumption) | (apply qk_cc <;> assumption) | (apply qc_cc <;> assumption)))) | (apply qd_cc <;> assumption) | (apply qb_cc <;> assumption) | (apply qf_cc <;> assumption) | (apply qe_cc <;> assumption) | (apply qk_cc <;> assumption) | (apply qc_cc <;> assumption)) | simp [*]) ?_
  refine Tr.t (by exact qf_cc t0_48 (paths_g (paths_in h0 hk0))) ?_
  refine Tr.t (by first | exact (by first | (apply is_true; and_intros <;> (first | rfl | assumption | (apply qd_cc <;> assumption) | (apply qb_cc <;> assumption) | (apply qf_cc <;> assumption) | (apply qe_cc <;> assumption) | (apply qk_cc <;> assumption) | (apply qc_cc <;> assumption) | (first | (apply is_true; and_intros <;> (first | rfl | assumption | (apply qd_cc <;> assumption) | (apply qb_cc <;> assumption) | (apply qf_cc <;> assumption) | (apply qe_cc <;> assumption) | (apply qk_cc <;> assumption) | (apply qc_cc <;> assumption) | (first | (apply is_true; and_intros <;> (first | rfl | assumption | (apply qd_cc <;> assumption) | (apply qb_cc <;> assumption) | (apply qf_cc <;> assumption) | (apply qe_cc <;> assumption) | (apply qk_cc <;> assumption) | (apply qc_cc <;> assumption) | (first | (apply is_true; and_intros <;> (first | rfl | assumption | (apply qd_cc <;> assumption) | (apply qb_cc <;> assumption) | (apply qf_cc <;> assumption) | (apply qe_cc <;> assumption) | (apply qk_cc <;> assumption) | (apply qc_cc <;> assumption))) | (apply qd_cc <;> assumption) | (apply qb_cc <;> assumption) | (apply qf_cc <;> assumption) | (apply qe_cc <;> assumption) | (apply qk_cc <;> assumption) | (apply qc_cc <;> assumption)))) | (apply qd_cc <;> assumption) | (apply qb_cc <;> assumption) | (apply qf_cc <;> assumption) | (apply qe_cc <;> assumption) | (apply qk_cc <;> assumption) | (apply qc_cc <;> assumption)))) | (apply qd_cc <;> assumption) | (apply qb_cc <;> assumption) | (apply qf_cc <;> assumption) | (apply qe_cc <;> assumption) | (apply qk_cc <;> assumption) | (apply qc_cc <;> assumption)))) | (apply qd_cc <;> assumption) | (apply qb_cc <;> assumption) | (apply qf_cc <;> assumption) | (apply qe_cc <;> assumption) | (apply qk_cc <;> assumption) | (apply qc_cc <;> assumption)) | simp [*]) ?_
  refine Tr.t (by exact qc_cc t0_48 (paths_g (paths_in h0 hk0))) ?_
  refine Tr.n (by first | (simp [qu_v, qg_k5_1, qg_u5_2, qg_u5_3, qg_v, qz_v, qh_u3_1, qh_v, qr_v, qd_k4_1, qd_vv, qy_v, qb_k8_1, qb_u8_2, qb_u8_3_0, qb_u8_3_1, qb_vv, qq_v, qf_k2_1, qf_vv, qs_v, qe_k2_1, qe_vv, qw_v, qo_v, qn_v, qm_v, qv_v, qp_v, qa_k2_1, qa_u2_3, qa_v, qj_v, qi_vv, qt_v, qk_vv, qc_k2_1, qc_vv, qx_v, ql_v]; done) | (simp only [qu_v, qg_k5_1, qg_u5_2, qg_u5_3, qg_v, qz_v, qh_u3_1, qh_v, qr_v, qd_k4_1, qd_vv, qy_v, qb_k8_1, qb_u8_2, qb_u8_3_0, qb_u8_3_1, qb_vv, qq_v, qf_k2_1, qf_vv, qs_v, qe_k2_1, qe_vv, qw_v, qo_v, qn_v, qm_v, qv_v, qp_v, qa_k2_1, qa_u2_3, qa_v, qj_v, qi_vv, qt_v, qk_vv, qc_k2_1, qc_vv, qx_v, ql_v, nth0, nth1, nth2, nth3, nth4, nth5, int_i, bool_b, str_s, list_l, cells_p, Bool.not_eq_true, bne_self_eq_false, beq_self_eq_true, Bool.not_true]; done) | (simp [qu_v, qg_k5_1, qg_u5_2, qg_u5_3, qg_v, qz_v, qh_u3_1, qh_v, qr_v, qd_k4_1, qd_vv, qy_v, qb_k8_1, qb_u8_2, qb_u8_3_0, qb_u8_3_1, qb_vv, qq_v, qf_k2_1, qf_vv, qs_v, qe_k2_1, qe_vv, qw_v, qo_v, qn_v, qm_v, qv_v, qp_v, qa_k2_1, qa_u2_3, qa_v, qj_v, qi_vv, qt_v, qk_vv, qc_k2_1, qc_vv, qx_v, ql_v, nth0, nth1, nth2, nth3, nth4, nth5, int_i, bool_b, str_s, list_l, cells_p]; done) | (simp [qu_v, qg_k5_1, qg_u5_2, qg_u5_3, qg_v, qz_v, qh_u3_1, qh_v, qr_v, qd_k4_1, qd_vv, qy_v, qb_k8_1, qb_u8_2, qb_u8_3_0, qb_u8_3_1, qb_vv, qq_v, qf_k2_1, qf_vv, qs_v, qe_k2_1, qe_vv, qw_v, qo_v, qn_v, qm_v, qv_v, qp_v, qa_k2_1, qa_u2_3, qa_v, qj_v, qi_vv, qt_v, qk_vv, qc_k2_1, qc_vv, qx_v, ql_v, nth0, nth1, nth2, nth3, nth4, nth5, int_i, bool_b, str_s, list_l, cells_p] <;> rfl)) ?_
  refine Tr.t (by first | exact (by first | (apply is_true; and_intros <;> (first | rfl | assumption | (apply qd_cc <;> assumption) | (apply qb_cc <;> assumption) | (apply qf_cc <;> assumption) | (apply qe_cc <;> assumption) | (apply qk_cc <;> assumption) | (apply qc_cc <;> assumption) | (first | (apply is_true; and_intros <;> (first | rfl | assumption | (apply qd_cc <;> assumption) | (apply qb_cc <;> assumption) | (apply qf_cc <;> assumption) | (apply qe_cc <;> assumption) | (apply qk_cc <;> assumption) | (apply qc_cc <;> assumption) | (first | (apply is_true; and_intros <;> (first | rfl | assumption | (apply qd_cc <;> assumption) | (apply qb_cc <;> assumption) | (apply qf_cc <;> assumption) | (apply qe_cc <;> assumption) | (apply qk_cc <;> assumption) | (apply qc_cc <;> assumption) | (first | (apply is_true; and_intros <;> (first | rfl | assumption | (apply qd_cc <;> assumption) | (apply qb_cc <;> assumption) | (apply qf_cc <;> assumption) | (apply qe_cc <;> assumption) | (apply qk_cc <;> assumption) | (apply qc_cc <;> assumption))) | (apply qd_cc <;> assumption) | (apply qb_cc <;> assumption) | (apply qf_cc <;> assumption) | (apply qe_cc <;> assumption) | (apply qk_cc <;> assumption) | (apply qc_cc <;> assumption)))) | (apply qd_cc <;> assumption) | (apply qb_cc <;> assumption) | (apply qf_cc <;> assumption) | (apply qe_cc <;> assumption) | (apply qk_cc <;> assumption) | (apply qc_cc <;> assumption)))) | (apply qd_cc <;> assumption) | (apply qb_cc <;> assumption) | (apply qf_cc <;> assumption) | (apply qe_cc <;> assumption) | (apply qk_cc <;> assumption) | (apply qc_cc <;> assumption)))) | (apply qd_cc <;> assumption) | (apply qb_cc <;> assumption) | (apply qf_cc <;> assumption) | (apply qe_cc <;> assumption) | (apply qk_cc <;> assumption) | (apply qc_cc <;> assumption)) | simp [*]) ?_
  refine Tr.t (by first | exact (by first | (apply is_true; and_intros <;> (first | rfl | assumption | (apply qd_cc <;> assumption) | (apply qb_cc <;> assumption) | (apply qf_cc <;> assumption) | (apply qe_cc <;> assumption) | (apply qk_cc <;> assumption) | (apply qc_cc <;> assumption) | (first | (apply is_true; and_intros <;> (first | rfl | assumption | (apply qd_cc <;> assumption) | (apply qb_cc <;> assumption) | (apply qf_cc <;> assumption) | (apply qe_cc <;> assumption) | (apply qk_cc <;> assumption) | (apply qc_cc <;> assumption) | (first | (apply is_true; and_intros <;> (first | rfl | assumption | (apply qd_cc <;> assumption) | (apply qb_cc <;> assumption) | (apply qf_cc <;> assumption) | (apply qe_cc <;> assumption) | (apply qk_cc <;> assumption) | (apply qc_cc <;> assumption) | (first | (apply is_true; and_intros <;> (first | rfl | assumption | (apply qd_cc <;> assumption) | (apply qb_cc <;> assumption) | (apply qf_cc <;> assumption) | (apply qe_cc <;> assumption) | (apply qk_cc <;> assumption) | (apply qc_cc <;> assumption))) | (apply qd_cc <;> assumption) | (apply qb_cc <;> assumption) | (apply qf_cc <;> assumption) | (apply qe_cc <;> assumption) | (apply qk_cc <;> assumption) | (apply qc_cc <;> assumption)))) | (apply qd_cc <;> assumption) | (apply qb_cc <;> assumption) | (apply qf_cc <;> assumption) | (apply qe_cc <;> assumption) | (apply qk_cc <;> assumption) | (apply qc_cc <;> assumption)))) | (apply qd_cc <;> assumption) | (apply qb_cc <;> assumption) | (apply qf_cc <;> assumption) | (apply qe_cc <;> assumption) | (apply qk_cc <;> assumption) | (apply qc_cc <;> assumption)))) | (apply qd_cc <;> assumption) | (apply qb_cc <;> assumption) | (apply qf_cc <;> assumption) | (apply qe_cc <;> assumption) | (apply qk_cc <;> assumption) | (apply qc_cc <;> assumption)) | simp [*]) ?_
  refine Tr.n (by first | (simp [qu_v, qg_k5_1, qg_u5_2, qg_u5_3, qg_v, qz_v, qh_u3_1, qh_v, qr_v, qd_k4_1, qd_vv, qy_v, qb_k8_1, qb_u8_2, qb_u8_3_0, qb_u8_3_1, qb_vv, qq_v, qf_k2_1, qf_vv, qs_v, qe_k2_1, qe_vv, qw_v, qo_v, qn_v, qm_v, qv_v, qp_v, qa_k2_1, qa_u2_3, qa_v, qj_v, qi_vv, qt_v, qk_vv, qc_k2_1, qc_vv, qx_v, ql_v]; done) | (simp only [qu_v, qg_k5_1, qg_u5_2, qg_u5_3, qg_v, qz_v, qh_u3_1, qh_v, qr_v, qd_k4_1, qd_vv, qy_v, qb_k8_1, qb_u8_2, qb_u8_3_0, qb_u8_3_1, qb_vv, qq_v, qf_k2_1, qf_vv, qs_v, qe_k2_1, qe_vv, qw_v, qo_v, qn_v, qm_v, qv_v, qp_v, qa_k2_1, qa_u2_3, qa_v, qj_v, qi_vv, qt_v, qk_vv, qc_k2_1, qc_vv, qx_v, ql_v, nth0, nth1, nth2, nth3, nth4, nth5, int_i, bool_b, str_s, list_l, cells_p, Bool.not_eq_true, bne_self_eq_false, beq_self_eq_true, Bool.not_true]; done) | (simp [qu_v, qg_k5_1, qg_u5_2, qg_u5_3, qg_v, qz_v, qh_u3_1, qh_v, qr_v, qd_k4_1, qd_vv, qy_v, qb_k8_1, qb_u8_2, qb_u8_3_0, qb_u8_3_1, qb_vv, qq_v, qf_k2_1, qf_vv, qs_v, qe_k2_1, qe_vv, qw_v, qo_v, qn_v, qm_v, qv_v, qp_v, qa_k2_1, qa_u2_3, qa_v, qj_v, qi_vv, qt_v, qk_vv, qc_k2_1, qc_vv, qx_v, ql_v, nth0, nth1, nth2, nth3, nth4, nth5, int_i, bool_b, str_s, list_l, cells_p]; done) | (simp [qu_v, qg_k5_1, qg_u5_2, qg_u5_3, qg_v, qz_v, qh_u3_1, qh_v, qr_v, qd_k4_1, qd_vv, qy_v, qb_k8_1, qb_u8_2, qb_u8_3_0, qb_u8_3_1, qb_vv, qq_v, qf_k2_1, qf_vv, qs_v, qe_k2_1, qe_vv, qw_v, qo_v, qn_v, qm_v, qv_v, qp_v, qa_k2_1, qa_u2_3, qa_v, qj_v, qi_vv, qt_v, qk_vv, qc_k2_1, qc_vv, qx_v, ql_v, nth0, nth1, nth2, nth3, nth4, nth5, int_i, bool_b, str_s, list_l, cells_p] <;> rfl)) ?_
  rfl
theorem laws_FnExactValidLinks_pure : ∀ xs, ArgsTyped tab [28] xs → runF tab FT D26 live 5 noLoops xs = yes := by
  intro xs h
  cases h with | cons l0 g0 h =>
  obtain ⟨z0_0, rfl⟩ := len_1 l0
  have q0 := g0 0 (by decide)
  have q0 : Typed tab (.slice 47) z0_0 := q0
  obtain ⟨y0, rfl⟩ := typed_slice q0
  cases h
  refine (laws_FnExactValidLinks_e y0).trans ?_
  rw [Tr.run_eq, laws_FnExactValidLinks_p y0 q0]
  rfl
end
end Go.Proofs.YthhmamgpcojooaaDoor.V
