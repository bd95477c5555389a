/- What the functions of FnExactSplitPath answer. No condition. -/
import Derived.Test.YthhmamgpcojooaaDoorVFacts
namespace Go.Proofs.YthhmamgpcojooaaDoor.V
open Go
set_option maxRecDepth 100000
set_option linter.unusedVariables false
set_option linter.unusedSectionVars false
set_option linter.unusedSimpArgs false
set_option maxHeartbeats 2000000
noncomputable section
abbrev LL := List (List TC)
abbrev BS := List UInt8
theorem sp {α β : Type} {a b : α} {c d : β} (h : some (a, c) = some (b, d)) : a = b ∧ c = d := by cases h; exact ⟨rfl, rfl⟩
def letterB (c : Int) : Bool := (decide (c ≥ 65) && decide (c ≤ 90)) || (decide (c ≥ 97) && decide (c ≤ 122))
def nameB (i c : Int) : Bool := letterB c || (!(i == 0) && ((decide (c ≥ 48) && decide (c ≤ 57)) || c == 95))
def nameOk (s : BS) : Bool := decide ((s.length : Int) ≥ 1) && decide ((s.length : Int) ≤ 12) && allI (fun i : Nat => nameB (i : Int) ((s.getD ((i : Int)).toNat 0).toNat : Int)) s.length
theorem dlt {a b : Int} : decide (a < b) = !decide (a ≥ b) := by rw [← decide_not]; simp
theorem dgt {a b : Int} : decide (a > b) = !decide (a ≤ b) := by rw [← decide_not]; simp
def hdl (p : BS) : List (BS) → List (BS)
  | [] => [p]
  | x :: y => (p ++ x) :: y
def pcs : BS → List (BS)
  | [] => [[]]
  | b :: l => bif b == 47 then [] :: pcs l else hdl [b] (pcs l)
theorem hdl_ne {p : BS} {L : List (BS)} : hdl p L ≠ [] := by cases L <;> simp [hdl]
theorem pcs_cons (b : UInt8) (l : BS) : pcs (b :: l) = bif b == 47 then [] :: pcs l else hdl [b] (pcs l) := rfl
theorem pcs_ne (l : BS) : pcs l ≠ [] := by
  cases l with
  | nil => simp [pcs]
  | cons b l =>
    unfold pcs
    cases b == 47
    · exact hdl_ne
    · simp
theorem hdl_hdl {p q : BS} {L : List (BS)} : hdl p (hdl q L) = hdl (p ++ q) L := by cases L <;> simp [hdl]
theorem hdl_nil {L : List (BS)} (h : L ≠ []) : hdl [] L = L := by
  cases L with
  | nil => exact absurd rfl h
  | cons => rfl
theorem index_cons47 (b : UInt8) (l : BS) : Lib.index (b :: l) [47] = if b == 47 then 0 else if Lib.index l [47] == -1 then -1 else Lib.index l [47] + 1 := by
  conv => lhs; unfold Lib.index
  have e : ([47].isPrefixOf (b :: l)) = (b == 47) := by
    simp [List.isPrefixOf, Bool.beq_comm]
  rw [e]
theorem split_pcs : ∀ t : BS, Lib.split t [47] = pcs t
  | [] => rfl
  | b :: l => by
    have ih := split_pcs l
    have hi := index_cons47 b l
    unfold pcs
    rw [← ih]
    cases hb : b == 47 with
    | true =>
      rw [hb, if_pos rfl] at hi
      have hc := Lib.count_hit (i := 0) (sub := [47]) (by simp) hi
      unfold Lib.split
      rw [hc, Nat.add_comm 1, Lib.splitK, if_neg (by rw [hi]; decide), hi]
      rfl
    | false =>
      rw [hb, if_neg (by simp)] at hi
      by_cases hn : Lib.index l [47] = -1
      · rw [if_pos (by rw [hn]; rfl)] at hi
        unfold Lib.split
        rw [Lib.count_miss hi, Lib.count_miss hn]
        rfl
      · have hg := Lib.index_ge l [47]
        obtain ⟨i, hl⟩ : ∃ i : Nat, Lib.index l [47] = i := ⟨(Lib.index l [47]).toNat, by omega⟩
        rw [if_neg (by simpa using hn), hl] at hi
        have hi' : Lib.index (b :: l) [47] = ((i + 1 : Nat) : Int) := by rw [hi]; omega
        have c1 := Lib.count_hit (sub := [47]) (by simp) hi'
        have c2 := Lib.count_hit (sub := [47]) (by simp) hl
        have e : (b :: l).drop (i + 1 + ([47] : BS).length) = l.drop (i + ([47] : BS).length) := by
          show (b :: l).drop (i + 1 + 1) = l.drop (i + 1)
          rfl
        unfold Lib.split
        rw [c1, e, c2, Nat.add_comm 1, Lib.splitK, Lib.splitK, if_neg (by rw [hi']; intro h; have := eq_of_beq h; omega), if_neg (by rw [hl]; intro h; have := eq_of_beq h; omega), hi', hl, Int.toNat_natCast, Int.toNat_natCast, e]
        rfl
def rowsS (L : List (BS)) : LL := L.map fun x => [TC.s x]
theorem splL_slash (t : BS) : splL t [47] = rowsS (pcs t) := by unfold splL; rw [split_pcs]; rfl
def piece (s : BS) (f i : Nat) : BS := (s.take i).drop f
theorem piece_snoc {s : BS} {f i : Nat} (hf : f ≤ i) (hi : i < s.length) : piece s f (i + 1) = piece s f i ++ [s[i]] := by
  unfold piece
  rw [List.take_succ_eq_append_getElem hi, List.drop_append_of_le_length (by rw [List.length_take]; omega)]
theorem piece_self {s : BS} {i : Nat} : piece s i i = [] := by
  unfold piece
  exact List.drop_eq_nil_of_le (by rw [List.length_take]; omega)
theorem loopN_pieces {ω : Type} (s : BS) (y : LL → ω) (z : LL → ω) {step : (BS × LL × Int × Int) → Tr ((BS × LL × Int × Int) ⊕ ω)}
    (h1 : ∀ (f i : Nat) (o : LL) (hi : i < s.length), s[i] ≠ 47 → (step (s, o, (f : Int), (i : Int))).val = some (.inl (s, o, (f : Int), ((i + 1 : Nat) : Int))))
    (h2 : ∀ (f i : Nat) (o : LL), f ≤ i → i ≤ s.length → o.length ≤ i → (∀ hi : i < s.length, s[i] = 47) → nameOk (piece s f i) = true → (step (s, o, (f : Int), (i : Int))).val = some (.inl (s, o ++ [[TC.s (piece s f i)]], ((i + 1 : Nat) : Int), ((i + 1 : Nat) : Int))))
    (h3 : ∀ (f i : Nat) (o : LL), f ≤ i → i ≤ s.length → (∀ hi : i < s.length, s[i] = 47) → nameOk (piece s f i) = false → (step (s, o, (f : Int), (i : Int))).val = some (.inr (z o)))
    (h4 : ∀ (f : Nat) (o : LL), (step (s, o, (f : Int), ((s.length + 1 : Nat) : Int))).val = some (.inr (y o))) :
    ∀ (m f i : Nat) (o : LL), f ≤ i → i + m = s.length → o.length ≤ i → ∃ M, loopN step M (s, o, (f : Int), (i : Int)) = some (bif (hdl (piece s f i) (pcs (s.drop i))).all nameOk then y (o ++ rowsS (hdl (piece s f i) (pcs (s.drop i)))) else z (o ++ rowsS ((hdl (piece s f i) (pcs (s.drop i))).takeWhile nameOk)))
  | 0, f, i, o, hf, hm, ho => by
    have e0 : s.drop i = [] := List.drop_eq_nil_of_le (by omega)
    have e1 : hdl (piece s f i) (pcs (s.drop i)) = [piece s f i] := by rw [e0]; simp [pcs, hdl]
    rw [e1]
    cases hk : nameOk (piece s f i) with
    | true =>
      refine ⟨2, ?_⟩
      have a := h2 f i o hf (by omega) ho (fun hi => absurd hi (by omega)) hk
      rw [loopN_next a, show i + 1 = s.length + 1 by omega, loopN_end (h4 _ _)]
      simp [hk, rowsS]
    | false =>
      refine ⟨1, ?_⟩
      rw [loopN_end (h3 f i o hf (by omega) (fun hi => absurd hi (by omega)) hk)]
      simp [hk, rowsS]
  | m + 1, f, i, o, hf, hm, ho => by
    have hi : i < s.length := by omega
    have e0 : s.drop i = s[i] :: s.drop (i + 1) := List.drop_eq_getElem_cons hi
    by_cases hc : s[i] = 47
    · have e1 : hdl (piece s f i) (pcs (s.drop i)) = piece s f i :: pcs (s.drop (i + 1)) := by
        rw [e0, pcs_cons, hc]
        simp [hdl]
      rw [e1]
      cases hk : nameOk (piece s f i) with
      | true =>
        obtain ⟨M, ih⟩ := loopN_pieces s y z h1 h2 h3 h4 m (i + 1) (i + 1) (o ++ [[TC.s (piece s f i)]]) (Nat.le_refl _) (by omega) (by simp; omega)
        refine ⟨M + 1, ?_⟩
        rw [loopN_next (h2 f i o hf (by omega) ho (fun _ => hc) hk), ih, piece_self, hdl_nil (pcs_ne _)]
        simp [hk, rowsS]
      | false =>
        refine ⟨1, ?_⟩
        rw [loopN_end (h3 f i o hf (by omega) (fun _ => hc) hk)]
        simp [hk, rowsS]
    · have e1 : hdl (piece s f i) (pcs (s.drop i)) = hdl (piece s f (i + 1)) (pcs (s.drop (i + 1))) := by
        rw [e0, pcs_cons, show (s[i] == 47) = false from by simpa using hc]
        show hdl _ (hdl _ _) = _
        rw [hdl_hdl, piece_snoc hf hi]
      rw [e1]
      obtain ⟨M, ih⟩ := loopN_pieces s y z h1 h2 h3 h4 m f (i + 1) o (by omega) (by omega) (by omega)
      exact ⟨M + 1, (loopN_next (h1 f i o hi hc)).trans ih⟩
def pathB (s : BS) : Bool := !(s == []) && (s.getD 0 0 == 47) && ((s == [47]) || ((pcs (s.drop 1)).all nameOk && decide ((pcs (s.drop 1)).length ≤ 6)))
def pathV (s : BS) : LL := bif pathB s && !(s == [47]) then rowsS (pcs (s.drop 1)) else []
def digT (k : Int) : BS := [[TC.i (IntKind.wrap .u8 (IntKind.wrap .i64 ((48 : Int) + (Int.tmod k (10 : Int)))))]].map byteOf
theorem digT_len (k : Int) : (digT k).length ≤ 1 := Nat.le_refl 1
def qq_t (a0 : Int) : Tr (Bool) := (.ite ((decide (a0 ≥ (65 : Int))) = true) (.ite ((decide (a0 ≤ (90 : Int))) = true) (.ok true)
   (.ite ((decide (a0 ≥ (97 : Int))) = true) (.ok (decide (a0 ≤ (122 : Int))))
    (.ok false)))
  (.ite ((decide (a0 ≥ (97 : Int))) = true) (.ok (decide (a0 ≤ (122 : Int))))
   (.ok false)))
def qq_mk (p : Bool) : Res := [(false, [⟨.bool, .sh, TC.b p⟩])]
def qq_c (a0 : Int) : Bool := true
def qq_v (a0 : Int) : Bool := (bif (decide (a0 ≥ (65 : Int))) then (bif (decide (a0 ≤ (90 : Int))) then true else (bif (decide (a0 ≥ (97 : Int))) then (decide (a0 ≤ (122 : Int))) else false)) else (bif (decide (a0 ≥ (97 : Int))) then (decide (a0 ≤ (122 : Int))) else false))
theorem qq_l (a0 : Int) : (qq_c a0) = true → (qq_t a0).val = some (qq_v a0) := by
  intro h
  skip
  unfold qq_t qq_v
  exact (Tr.s (Tr.s rfl (Tr.s rfl rfl)) (Tr.s rfl rfl))
def qq_S : List Arg → Option (Bool × Res) := fun xs => match xs with
  | [(false, [(.int .u8, TC.i a0)])] => some (true, qq_mk (qq_v a0))
  | _ => .none
theorem qq_e (a0 : Int) : runF tab FT D0 live 56 noLoops [(false, [(.int .u8, TC.i a0)])] = (qq_t a0).run fun p => some (qq_mk p) := by kernel_rfl
theorem qq_s : ∀ xs r, qq_S xs = some (true, r) → runF tab FT D0 live 56 noLoops xs = some r := by
  intro xs r h
  unfold qq_S at h
  split at h
  · obtain ⟨h1, rfl⟩ := sp h
    exact fun_told (qq_e _) (qq_l _) rfl
  · cases h
def D1 : Dt := also D0 56 qq_S
theorem d1 : DOk Go.Proofs.Tryd.prog tab D1 := d0.also mixed_ok tab_ok names_ok noLoops_ok qq_s
def qe_f4 (s : BS) (i : Int) : (Unit) ⊕ ((Unit) ⊕ (Unit)) := (bif (!(qq_v ((s.getD (i).toNat 0).toNat : Int))) then (bif (decide (((s.getD (i).toNat 0).toNat : Int) ≥ (48 : Int))) then (bif (!(decide (((s.getD (i).toNat 0).toNat : Int) ≤ (57 : Int)))) then (bif (!(((s.getD (i).toNat 0).toNat : Int) == (95 : Int))) then (.inr (.inl ())) else (.inl ())) else (.inl ())) else (bif (!(((s.getD (i).toNat 0).toNat : Int) == (95 : Int))) then (.inr (.inl ())) else (.inl ()))) else (.inl ()))
def qe_e4 (s : BS) : (Unit) ⊕ (Unit) := .inr ()
def qe_R4 (s : BS) (i : Int) : (Unit) ⊕ (Unit) := iter (fun i a => (qe_f4 s ((i + 1 : Nat) : Int))) (fun a => (qe_e4 s)) (s.length - 1) 0 ()
abbrev qe_4_σ := BS × Int
abbrev qe_4_ω := (Unit) ⊕ (Unit)
def qe_4_step (s : BS) (i : Int) : Tr (qe_4_σ ⊕ qe_4_ω) := (.ite ((decide (i < (s.length : Int))) = true) (.ite ((0 : Int) ≤ i ∧ i < (s.length : Int)) (.ite ((!(qq_v ((s.getD (i).toNat 0).toNat : Int))) = true) (.ite ((0 : Int) ≤ i ∧ i < (s.length : Int)) (.ite ((decide (((s.getD (i).toNat 0).toNat : Int) ≥ (48 : Int))) = true) (.ite ((0 : Int) ≤ i ∧ i < (s.length : Int)) (.ite ((!(decide (((s.getD (i).toNat 0).toNat : Int) ≤ (57 : Int)))) = true) (.ite ((0 : Int) ≤ i ∧ i < (s.length : Int)) (.ite ((!(((s.getD (i).toNat 0).toNat : Int) == (95 : Int))) = true) (.ok (.inr (.inl ())))
          (.ok (.inl (s, (IntKind.wrap .i64 (i + (1 : Int)))))))
         .no)
        (.ok (.inl (s, (IntKind.wrap .i64 (i + (1 : Int)))))))
       .no)
      (.ite ((0 : Int) ≤ i ∧ i < (s.length : Int)) (.ite ((!(((s.getD (i).toNat 0).toNat : Int) == (95 : Int))) = true) (.ok (.inr (.inl ())))
        (.ok (.inl (s, (IntKind.wrap .i64 (i + (1 : Int)))))))
       .no))
     .no)
    (.ok (.inl (s, (IntKind.wrap .i64 (i + (1 : Int)))))))
   .no)
  (.ok (.inr (.inr ()))))
def qe_4_st : qe_4_σ → Tr (qe_4_σ ⊕ qe_4_ω) := fun x => (qe_4_step (x.1) (x.2))
def qe_k4_1 (s : BS) (i : Int) : Bool := sumIs (qe_R4 s i)
def qe_o4_2 (s : BS) (i : Int) : Bool := is (i = 1 ∧ s.length ≤ 140737488355328)
def qe_o4_3 (s : BS) (i : Int) : Bool := is (i = 1 ∧ s.length ≤ 140737488355328)
def qe_4_fin (s : BS) (i : Int) : Told qe_4_ω := (.br (qe_k4_1 s i) (.leaf (qe_o4_2 s i) (.inl ())) (.leaf (qe_o4_3 s i) (.inr ())))
def qe_4_sl (x : qe_4_σ) : List Slot := [⟨.val false [⟨.str, .sh, TC.s (x.1)⟩], ⟨0, 0⟩⟩, ⟨.val false [⟨.int .i64, .sh, TC.i (x.2)⟩], ⟨0, 0⟩⟩]
def qe_4_out : qe_4_ω → Ex × List Slot := (Sum.elim (fun x => (.ret, [⟨.val false [⟨.bool, .sh, TC.b false⟩], ⟨0, 0⟩⟩])) (fun x => (.exit 0, [Slot.none])))
def qe_lo4 : List Slot → Option (Told (Ex × List Slot)) := fun s => match s with
  | [⟨.val false [⟨.str, .sh, TC.s s⟩], ⟨0, 0⟩⟩, ⟨.val false [⟨.int .i64, .sh, TC.i i⟩], ⟨0, 0⟩⟩] => some (((qe_4_fin s i)).map qe_4_out)
  | _ => .none
def qe_lo : LoopTeller := fun r s => bif Nat.beq r 4 then qe_lo4 s else .none
theorem qe_4_r (s : BS) (i : Int) (fuel : Nat) : rounds (rnd tab FT D1 live 40 qe_lo 0 4) leave (fuel + 1) (qe_4_sl (s, i)) = ((qe_4_step s i)).run (goOn (fun s => rounds (rnd tab FT D1 live 40 qe_lo 0 4) leave fuel (qe_4_sl s)) fun w => some (qe_4_out w)) := by kernel_rfl
theorem qe_f4_eq (s : BS) (i : Int) : qe_f4 s i = bif (letterB ((s.getD (i).toNat 0).toNat : Int) || ((decide (((s.getD (i).toNat 0).toNat : Int) ≥ 48) && decide (((s.getD (i).toNat 0).toNat : Int) ≤ 57)) || ((s.getD (i).toNat 0).toNat : Int) == 95)) then Sum.inl () else Sum.inr (Sum.inl ()) := by
  unfold qe_f4 letterB
  simp only [qq_v, dlt, dgt]
  generalize ((s.getD i.toNat 0).toNat : Int) = c
  generalize decide (c ≥ 65) = p0, decide (c ≤ 90) = p1, decide (c ≥ 97) = p2, decide (c ≤ 122) = p3, decide (c ≥ 48) = p4, decide (c ≤ 57) = p5, (c == 95) = p6
  cases p0 <;> cases p1 <;> cases p2 <;> cases p3 <;> cases p4 <;> cases p5 <;> cases p6 <;> rfl
theorem qe_R4_eq (s : BS)  : qe_R4 s 1 = bif allI (fun i : Nat => (letterB ((s.getD (((i + 1 : Nat) : Int)).toNat 0).toNat : Int) || ((decide (((s.getD (((i + 1 : Nat) : Int)).toNat 0).toNat : Int) ≥ 48) && decide (((s.getD (((i + 1 : Nat) : Int)).toNat 0).toNat : Int) ≤ 57)) || ((s.getD (((i + 1 : Nat) : Int)).toNat 0).toNat : Int) == 95))) (s.length - 1) then Sum.inr () else (Sum.inl ()) := by
  unfold qe_R4
  exact (iter_all (P := (fun i : Nat => (letterB ((s.getD (((i + 1 : Nat) : Int)).toNat 0).toNat : Int) || ((decide (((s.getD (((i + 1 : Nat) : Int)).toNat 0).toNat : Int) ≥ 48) && decide (((s.getD (((i + 1 : Nat) : Int)).toNat 0).toNat : Int) ≤ 57)) || ((s.getD (((i + 1 : Nat) : Int)).toNat 0).toNat : Int) == 95)))) (g := fun _ a => a) (w := Sum.inl ()) fun j a _ => qe_f4_eq s _)
theorem qe_4_h (s : BS) (i : Int) (ow : qe_4_ω) : ((qe_4_fin s i)).val = some ow → ∃ fuel, loopN qe_4_st fuel (s, i) = some ow := by
  refine auto_const (R := (qe_R4 s i)) rfl (iter_onR (f := (fun i a => (qe_f4 s ((i + 1 : Nat) : Int)))) (fin := (fun a => (qe_e4 s))) (Q := endsAs () ()) (fun i a => by unfold qe_f4; exact (onR_bif (onR_bif (onR_bif (onR_bif rfl trivial) trivial) (onR_bif rfl trivial)) trivial)) (fun _ => rfl) _ _ _) ?_
  intro ho
  have ho : is (i = 1 ∧ s.length ≤ 140737488355328) = true := ho.elim id id
  obtain ⟨rfl, hs⟩ := is_iff.1 ho
  skip
  refine ⟨(s.length - 1) + 1, ?_⟩
  refine iter_loop (step := qe_4_st) (s.length - 1) (fun i a => (qe_f4 s ((i + 1 : Nat) : Int))) (fun a => (qe_e4 s)) (fun i a => (s, ((i + 1 : Nat) : Int))) (fun _ _ => True) trivial (fun i a hi hI => ⟨?_, fun _ _ => trivial⟩) (fun a hI => ?_)
  · show (qe_4_step s ((i + 1 : Nat) : Int)).val = _
    unfold qe_4_step qe_f4
    skip
    refine Tr.t (by simp; omega) ?_
    exact (Tr.t (by first | omega | (constructor <;> omega)) (Tr.bf (Tr.t (by first | omega | (constructor <;> omega)) (Tr.bf (Tr.t (by first | omega | (constructor <;> omega)) (Tr.bf (Tr.t (by first | omega | (constructor <;> omega)) (Tr.bf rfl (by rw [Tr.val_ok, wrap64 (i := ((i + 1 : Nat) : Int) + 1) (by omega) (by omega)]; rfl))) (by rw [Tr.val_ok, wrap64 (i := ((i + 1 : Nat) : Int) + 1) (by omega) (by omega)]; rfl))) (Tr.t (by first | omega | (constructor <;> omega)) (Tr.bf rfl (by rw [Tr.val_ok, wrap64 (i := ((i + 1 : Nat) : Int) + 1) (by omega) (by omega)]; rfl))))) (by rw [Tr.val_ok, wrap64 (i := ((i + 1 : Nat) : Int) + 1) (by omega) (by omega)]; rfl)))
  · show (qe_4_step s ((s.length - 1 + 1 : Nat) : Int)).val = _
    refine Tr.n (by first | (simp; done) | (simp; omega) | omega) ?_
    rfl
theorem qe_is4 : LoopIs tab FT D1 live 40 qe_lo 0 4 := by
  refine loop_told (sl := qe_4_sl) (step := qe_4_st) (out := qe_4_out) (lor := qe_lo4) (fin := fun x => (qe_4_fin (x.1) (x.2))) (fun _ => rfl) ?_ (fun x n => qe_4_r x.1 x.2 n) (fun x ow => qe_4_h x.1 x.2 ow)
  intro s t h
  unfold qe_lo4 at h
  split at h
  · cases h; exact ⟨(_, _), rfl, rfl⟩
  · cases h
def qe_t (s : BS) : Tr (Bool) := (.ite (((s.length : Int) == (0 : Int)) = true) (.ok false)
  (.ite ((decide ((s.length : Int) > (12 : Int))) = true) (.ok false)
   (.ite ((0 : Int) ≤ (0 : Int) ∧ (0 : Int) < (s.length : Int)) (.ite ((!(qq_v ((s.getD ((0 : Int)).toNat 0).toNat : Int))) = true) (.ok false)
     (.ite ((qe_k4_1 s (1 : Int)) = true) (.ite ((qe_o4_2 s (1 : Int)) = true) (.ok false)
       .no)
      (.ite ((qe_o4_3 s (1 : Int)) = true) (.ok true)
       .no)))
    .no)))
def qe_mk (p : Bool) : Res := [(false, [⟨.bool, .sh, TC.b p⟩])]
def qe_c (s : BS) : Bool := (bif ((s.length : Int) == (0 : Int)) then true else (bif (decide ((s.length : Int) > (12 : Int))) then true else (is ((0 : Int) ≤ (0 : Int) ∧ (0 : Int) < (s.length : Int)) && (bif (!(qq_v ((s.getD ((0 : Int)).toNat 0).toNat : Int))) then true else (bif (qe_k4_1 s (1 : Int)) then ((qe_o4_2 s (1 : Int)) && true) else ((qe_o4_3 s (1 : Int)) && true))))))
def qe_v (s : BS) : Bool := (bif ((s.length : Int) == (0 : Int)) then false else (bif (decide ((s.length : Int) > (12 : Int))) then false else (bif (!(qq_v ((s.getD ((0 : Int)).toNat 0).toNat : Int))) then false else (bif (qe_k4_1 s (1 : Int)) then false else true))))
theorem qe_l (s : BS) : (qe_c s) = true → (qe_t s).val = some (qe_v s) := by
  unfold qe_t qe_v qe_c
  exact fun h => (Tr.ss h (fun h => rfl) (fun h => (Tr.ss h (fun h => rfl) (fun h => (Tr.gs h fun h => (Tr.ss h (fun h => rfl) (fun h => (Tr.ss h (fun h => (Tr.gb h fun h => rfl)) (fun h => (Tr.gb h fun h => rfl))))))))))
def qe_S : List Arg → Option (Bool × Res) := fun xs => match xs with
  | [(false, [(.str, TC.s s)])] => some ((qe_c s), qe_mk (qe_v s))
  | _ => .none
theorem qe_e (s : BS) : runF tab FT D1 live 40 qe_lo [(false, [(.str, TC.s s)])] = (qe_t s).run fun p => some (qe_mk p) := by kernel_rfl
theorem qe_s : ∀ xs r, qe_S xs = some (true, r) → runF tab FT D1 live 40 qe_lo xs = some r := by
  intro xs r h
  unfold qe_S at h
  split at h
  · obtain ⟨h1, rfl⟩ := sp h
    exact fun_told (qe_e _) (qe_l _) h1
  · cases h
def D2 : Dt := also D1 40 qe_S
theorem d2 : DOk Go.Proofs.Tryd.prog tab D2 := d1.also mixed_ok tab_ok names_ok (fnLoops_one (by kernel_rfl) qe_is4) qe_s
theorem qe_cc {s : BS} (hs : Typed tab (.str) (.s s)) : (qe_c s) = true := by
  unfold qe_c
  refine bifT (fun b1 => ?_) (fun b1 => ?_)
  · skip
    rfl
  · skip
    refine bifT (fun b2 => ?_) (fun b2 => ?_)
    · skip
      rfl
    · skip
      refine andT (is_true (by exact ⟨by omega, by have h2 := ne_of_beq_false b1; omega⟩)) ?_
      refine bifT (fun b3 => ?_) (fun b3 => ?_)
      · skip
        rfl
      · skip
        refine bifT (fun b4 => ?_) (fun b4 => ?_)
        · skip
          refine andT (by exact is_true ⟨rfl, by have := typed_str_len hs; omega⟩) ?_
          rfl
        · skip
          refine andT (by exact is_true ⟨rfl, by have := typed_str_len hs; omega⟩) ?_
          rfl
theorem qe_vv (s : BS) : qe_v s = nameOk s := by
  unfold qe_v qe_k4_1
  rw [qe_R4_eq]
  have e3 : qq_v ((s.getD ((0 : Int)).toNat 0).toNat : Int) = nameB ((0 : Nat) : Int) ((s.getD (((0 : Nat) : Int)).toNat 0).toNat : Int) := by
    unfold qq_v nameB letterB
    generalize ((s.getD ((0 : Int)).toNat 0).toNat : Int) = c
    generalize decide (c ≥ 65) = p1, decide (c ≤ 90) = p2, decide (c ≥ 97) = p3, decide (c ≤ 122) = p4
    cases p1 <;> cases p2 <;> cases p3 <;> cases p4 <;> rfl
  rw [e3]
  cases h0 : s.length with
  | zero =>
    have : s = [] := List.eq_nil_of_length_eq_zero h0
    subst this
    rfl
  | succ n =>
    have e2 : allI (fun i : Nat => nameB ((i + 1 : Nat) : Int) ((s.getD (((i + 1 : Nat) : Int)).toNat 0).toNat : Int)) n = allI (fun i : Nat => (letterB ((s.getD (((i + 1 : Nat) : Int)).toNat 0).toNat : Int) || ((decide (((s.getD (((i + 1 : Nat) : Int)).toNat 0).toNat : Int) ≥ 48) && decide (((s.getD (((i + 1 : Nat) : Int)).toNat 0).toNat : Int) ≤ 57)) || ((s.getD (((i + 1 : Nat) : Int)).toNat 0).toNat : Int) == 95))) n := allI_congr fun i _ => by
      unfold nameB
      rw [show (((i + 1 : Nat) : Int) == 0) = false from by simp; omega]
      rfl
    unfold nameOk
    rw [h0, allI_head, e2, Nat.add_sub_cancel]
    rw [show (((n + 1 : Nat) : Int) == 0) = false from by simp; omega, show decide (((n + 1 : Nat) : Int) ≥ 1) = true from by simp; omega, dgt]
    generalize nameB ((0 : Nat) : Int) ((s.getD (((0 : Nat) : Int)).toNat 0).toNat : Int) = q1
    generalize allI (fun i : Nat => (letterB ((s.getD (((i + 1 : Nat) : Int)).toNat 0).toNat : Int) || ((decide (((s.getD (((i + 1 : Nat) : Int)).toNat 0).toNat : Int) ≥ 48) && decide (((s.getD (((i + 1 : Nat) : Int)).toNat 0).toNat : Int) ≤ 57)) || ((s.getD (((i + 1 : Nat) : Int)).toNat 0).toNat : Int) == 95))) n = q2
    generalize decide (((n + 1 : Nat) : Int) ≤ 12) = q3
    cases q1 <;> cases q2 <;> cases q3 <;> rfl
abbrev qb_8_σ := BS × LL × Int × Int
abbrev qb_8_ω := (LL × LL) ⊕ (LL)
def qb_8_step (s : BS) (o : LL) (f i : Int) : Tr (qb_8_σ ⊕ qb_8_ω) := (.ite ((decide (i ≤ (s.length : Int))) = true) (.ite ((decide (i < (s.length : Int))) = true) (.ite ((0 : Int) ≤ i ∧ i < (s.length : Int)) (.ite ((!(((s.getD (i).toNat 0).toNat : Int) == (47 : Int))) = true) (.ok (.inl (s, o, f, (IntKind.wrap .i64 (i + (1 : Int))))))
     (.ite ((0 : Int) ≤ f ∧ f ≤ i ∧ i ≤ (s.length : Int)) (.ite ((qe_c ((s.take (i).toNat).drop (f).toNat)) = true) (.ite ((!(qe_v ((s.take (i).toNat).drop (f).toNat))) = true) (.ok (.inr (.inl ([], o))))
        (.ite ((0 : Int) ≤ f ∧ f ≤ i ∧ i ≤ (s.length : Int)) (.ite (roomFor (tab 9) (o ++ [[TC.s ((s.take (i).toNat).drop (f).toNat)]]).length) (.ok (.inl (s, (o ++ [[TC.s ((s.take (i).toNat).drop (f).toNat)]]), (IntKind.wrap .i64 (i + (1 : Int))), (IntKind.wrap .i64 (i + (1 : Int))))))
          .no)
         .no))
       .no)
      .no))
    .no)
   (.ite ((0 : Int) ≤ f ∧ f ≤ i ∧ i ≤ (s.length : Int)) (.ite ((qe_c ((s.take (i).toNat).drop (f).toNat)) = true) (.ite ((!(qe_v ((s.take (i).toNat).drop (f).toNat))) = true) (.ok (.inr (.inl ([], o))))
      (.ite ((0 : Int) ≤ f ∧ f ≤ i ∧ i ≤ (s.length : Int)) (.ite (roomFor (tab 9) (o ++ [[TC.s ((s.take (i).toNat).drop (f).toNat)]]).length) (.ok (.inl (s, (o ++ [[TC.s ((s.take (i).toNat).drop (f).toNat)]]), (IntKind.wrap .i64 (i + (1 : Int))), (IntKind.wrap .i64 (i + (1 : Int))))))
        .no)
       .no))
     .no)
    .no))
  (.ok (.inr (.inr o))))
def qb_8_st : qb_8_σ → Tr (qb_8_σ ⊕ qb_8_ω) := fun x => (qb_8_step (x.1) (x.2.1) (x.2.2.1) (x.2.2.2))
def qb_k8_1 (s : BS) (o : LL) (f i : Int) : Bool := (pcs (s.drop 1)).all nameOk
def qb_o8_2 (s : BS) (o : LL) (f i : Int) : Bool := is (o = [] ∧ f = 1 ∧ i = 1 ∧ 1 ≤ s.length ∧ s.length ≤ 1048576)
def qb_u8_2 (s : BS) (o : LL) (f i : Int) : LL := rowsS (pcs (s.drop 1))
def qb_o8_3 (s : BS) (o : LL) (f i : Int) : Bool := is (o = [] ∧ f = 1 ∧ i = 1 ∧ 1 ≤ s.length ∧ s.length ≤ 1048576)
def qb_u8_3_0 (s : BS) (o : LL) (f i : Int) : LL := []
def qb_u8_3_1 (s : BS) (o : LL) (f i : Int) : LL := rowsS ((pcs (s.drop 1)).takeWhile nameOk)
def qb_8_fin (s : BS) (o : LL) (f i : Int) : Told qb_8_ω := (.br (qb_k8_1 s o f i) (.leaf (qb_o8_2 s o f i) (.inr (qb_u8_2 s o f i))) (.leaf (qb_o8_3 s o f i) (.inl ((qb_u8_3_0 s o f i), (qb_u8_3_1 s o f i)))))
def qb_8_sl (x : qb_8_σ) : List Slot := [⟨.val false [⟨.str, .sh, TC.s (x.1)⟩], ⟨0, 0⟩⟩, ⟨.val false [⟨.slice 9, .own true, TC.l (x.2.1)⟩], ⟨0, 0⟩⟩, ⟨.val false [⟨.int .i64, .sh, TC.i (x.2.2.1)⟩], ⟨0, 0⟩⟩, ⟨.val false [⟨.int .i64, .sh, TC.i (x.2.2.2)⟩], ⟨0, 0⟩⟩]
def qb_8_out : qb_8_ω → Ex × List Slot := (Sum.elim (fun x => (.ret, [⟨.val false [⟨.slice 9, .own true, TC.l (x.1)⟩], ⟨0, 0⟩⟩, ⟨.val false [⟨.bool, .sh, TC.b false⟩], ⟨0, 0⟩⟩, ⟨.val false [⟨.slice 9, .own true, TC.l (x.2)⟩], ⟨0, 0⟩⟩])) (fun x => (.exit 0, [Slot.none, Slot.none, ⟨.val false [⟨.slice 9, .own true, TC.l x⟩], ⟨0, 0⟩⟩])))
def qb_lo8 : List Slot → Option (Told (Ex × List Slot)) := fun s => match s with
  | [⟨.val false [⟨.str, .sh, TC.s s⟩], ⟨0, 0⟩⟩, ⟨.val false [⟨.slice 9, .own true, TC.l o⟩], ⟨0, 0⟩⟩, ⟨.val false [⟨.int .i64, .sh, TC.i f⟩], ⟨0, 0⟩⟩, ⟨.val false [⟨.int .i64, .sh, TC.i i⟩], ⟨0, 0⟩⟩] => some (((qb_8_fin s o f i)).map qb_8_out)
  | _ => .none
def qb_lo : LoopTeller := fun r s => bif Nat.beq r 8 then qb_lo8 s else .none
theorem qb_8_r (s : BS) (o : LL) (f i : Int) (fuel : Nat) : rounds (rnd tab FT D2 live 24 qb_lo 0 8) leave (fuel + 1) (qb_8_sl (s, o, f, i)) = ((qb_8_step s o f i)).run (goOn (fun s => rounds (rnd tab FT D2 live 24 qb_lo 0 8) leave fuel (qb_8_sl s)) fun w => some (qb_8_out w)) := by kernel_rfl
theorem qb_8_h (s : BS) (o : LL) (f i : Int) (ow : qb_8_ω) : ((qb_8_fin s o f i)).val = some ow → ∃ fuel, loopN qb_8_st fuel (s, o, f, i) = some ow := by
  intro h
  refine auto_br (K := (pcs (s.drop 1)).all nameOk) rfl (fun ho => ?_) h
  have ho := ho.elim id id
  obtain ⟨rfl, rfl, rfl, h0, hs⟩ := is_iff.1 ho
  show ∃ M, loopN qb_8_st M (s, [], 1, 1) = some (bif (pcs (s.drop 1)).all nameOk then .inr (rowsS (pcs (s.drop 1))) else .inl ([], rowsS ((pcs (s.drop 1)).takeWhile nameOk)))
  have hc : ∀ f i, qe_c (piece s f i) = true := fun f i => qe_cc (.str _ (by unfold piece reachBytes; rw [List.length_drop, List.length_take]; omega))
  have key := loopN_pieces (step := qb_8_st) s (fun o => .inr o) (fun o => .inl ([], o)) (fun f i o hi hc7 => ?_) (fun f i o hf hi ho h7 hk => ?_) (fun f i o hf hi h7 hk => ?_) (fun f o => ?_) (s.length - 1) 1 1 [] (Nat.le_refl _) (by omega) (Nat.zero_le _)
  · rw [piece_self, hdl_nil (pcs_ne _), List.nil_append, List.nil_append] at key
    exact key
  · show (qb_8_step s o (f : Int) (i : Int)).val = _
    unfold qb_8_step
    have e7 : (!(((s.getD ((i : Int)).toNat 0).toNat : Int) == (47 : Int))) = true := by
      rw [Int.toNat_natCast, List.getD_eq_getElem?_getD, List.getElem?_eq_getElem hi]
      simp only [Option.getD_some, Bool.not_eq_true', beq_eq_false_iff_ne]
      exact fun e => hc7 (UInt8.toNat_inj.1 (by show s[i].toNat = 47; omega))
    refine Tr.t (by simp; omega) (Tr.t (by simp; omega) (Tr.t (by omega) (Tr.t e7 ?_)))
    rw [Tr.val_ok, wrap64 (i := (i : Int) + 1) (by omega) (by omega)]
    rfl
  · show (qb_8_step s o (f : Int) (i : Int)).val = _
    unfold qb_8_step
    have hv : ¬(!(qe_v (piece s f i))) = true := fun h => nomatch ((show (!(qe_v (piece s f i))) = false from by rw [qe_vv, hk]; rfl).symm.trans h)
    have hr : roomFor (tab 9) (o ++ [[TC.s (piece s f i)]]).length := by
      unfold roomFor
      rw [List.length_append, show (tab 9).bytes = 16 from rfl]
      simp only [List.length_cons, List.length_nil]
      constructor <;> omega
    refine Tr.t (by simp; omega) ?_
    have e7 : i < s.length → ¬(!(((s.getD ((i : Int)).toNat 0).toNat : Int) == (47 : Int))) = true := fun hl => by
      rw [Int.toNat_natCast, List.getD_eq_getElem?_getD, List.getElem?_eq_getElem hl]
      simp only [Option.getD_some, h7 hl]
      decide
    by_cases hl : i < s.length
    · refine Tr.t (by simp; omega) (Tr.t (by omega) (Tr.n (e7 hl) (Tr.t ⟨by omega, by omega, by omega⟩ (Tr.t (hc f i) (Tr.n hv (Tr.t ⟨by omega, by omega, by omega⟩ (Tr.t hr ?_)))))))
      rw [Tr.val_ok, wrap64 (i := (i : Int) + 1) (by omega) (by omega)]
      rfl
    · refine Tr.n (by simp; omega) (Tr.t ⟨by omega, by omega, by omega⟩ (Tr.t (hc f i) (Tr.n hv (Tr.t ⟨by omega, by omega, by omega⟩ (Tr.t hr ?_)))))
      rw [Tr.val_ok, wrap64 (i := (i : Int) + 1) (by omega) (by omega)]
      rfl
  · show (qb_8_step s o (f : Int) (i : Int)).val = _
    unfold qb_8_step
    have hv : (!(qe_v (piece s f i))) = true := by rw [qe_vv, hk]; rfl
    refine Tr.t (by simp; omega) ?_
    have e7 : i < s.length → ¬(!(((s.getD ((i : Int)).toNat 0).toNat : Int) == (47 : Int))) = true := fun hl => by
      rw [Int.toNat_natCast, List.getD_eq_getElem?_getD, List.getElem?_eq_getElem hl]
      simp only [Option.getD_some, h7 hl]
      decide
    by_cases hl : i < s.length
    · exact Tr.t (by simp; omega) (Tr.t (by omega) (Tr.n (e7 hl) (Tr.t ⟨by omega, by omega, by omega⟩ (Tr.t (hc f i) (Tr.t hv rfl)))))
    · exact Tr.n (by simp; omega) (Tr.t ⟨by omega, by omega, by omega⟩ (Tr.t (hc f i) (Tr.t hv rfl)))
  · show (qb_8_step s o (f : Int) ((s.length + 1 : Nat) : Int)).val = _
    unfold qb_8_step
    exact Tr.n (by simp; omega) rfl
theorem qb_is8 : LoopIs tab FT D2 live 24 qb_lo 0 8 := by
  refine loop_told (sl := qb_8_sl) (step := qb_8_st) (out := qb_8_out) (lor := qb_lo8) (fin := fun x => (qb_8_fin (x.1) (x.2.1) (x.2.2.1) (x.2.2.2))) (fun _ => rfl) ?_ (fun x n => qb_8_r x.1 x.2.1 x.2.2.1 x.2.2.2 n) (fun x ow => qb_8_h x.1 x.2.1 x.2.2.1 x.2.2.2 ow)
  intro s t h
  unfold qb_lo8 at h
  split at h
  · cases h; exact ⟨(_, _, _, _), rfl, rfl⟩
  · cases h
def qb_t (s : BS) : Tr (LL × Bool) := (.ite ((s == [47]) = true) (.ok ([], true))
  (.ite ((s == []) = true) (.ok ([], false))
   (.ite ((0 : Int) ≤ (0 : Int) ∧ (0 : Int) < (s.length : Int)) (.ite ((!(((s.getD ((0 : Int)).toNat 0).toNat : Int) == (47 : Int))) = true) (.ok ([], false))
     (.ite ((qb_k8_1 s [] (1 : Int) (1 : Int)) = true) (.ite ((qb_o8_2 s [] (1 : Int) (1 : Int)) = true) (.ite ((decide (((qb_u8_2 s [] (1 : Int) (1 : Int)).length : Int) > (6 : Int))) = true) (.ok ([], false))
        (.ok ((qb_u8_2 s [] (1 : Int) (1 : Int)), true)))
       .no)
      (.ite ((qb_o8_3 s [] (1 : Int) (1 : Int)) = true) (.ok ((qb_u8_3_0 s [] (1 : Int) (1 : Int)), false))
       .no)))
    .no)))
def qb_mk (p : LL × Bool) : Res := [(false, [⟨.slice 9, .own true, TC.l (p.1)⟩]), (false, [⟨.bool, .sh, TC.b (p.2)⟩])]
def qb_c (s : BS) : Bool := (bif (s == [47]) then true else (bif (s == []) then true else (is ((0 : Int) ≤ (0 : Int) ∧ (0 : Int) < (s.length : Int)) && (bif (!(((s.getD ((0 : Int)).toNat 0).toNat : Int) == (47 : Int))) then true else (bif (qb_k8_1 s [] (1 : Int) (1 : Int)) then ((qb_o8_2 s [] (1 : Int) (1 : Int)) && (bif (decide (((qb_u8_2 s [] (1 : Int) (1 : Int)).length : Int) > (6 : Int))) then true else true)) else ((qb_o8_3 s [] (1 : Int) (1 : Int)) && true))))))
def qb_v (s : BS) : LL × Bool := (bif (s == [47]) then ([], true) else (bif (s == []) then ([], false) else (bif (!(((s.getD ((0 : Int)).toNat 0).toNat : Int) == (47 : Int))) then ([], false) else (bif (qb_k8_1 s [] (1 : Int) (1 : Int)) then (bif (decide (((qb_u8_2 s [] (1 : Int) (1 : Int)).length : Int) > (6 : Int))) then ([], false) else ((qb_u8_2 s [] (1 : Int) (1 : Int)), true)) else ((qb_u8_3_0 s [] (1 : Int) (1 : Int)), false)))))
theorem qb_l (s : BS) : (qb_c s) = true → (qb_t s).val = some (qb_v s) := by
  unfold qb_t qb_v qb_c
  exact fun h => (Tr.ss h (fun h => rfl) (fun h => (Tr.ss h (fun h => rfl) (fun h => (Tr.gs h fun h => (Tr.ss h (fun h => rfl) (fun h => (Tr.ss h (fun h => (Tr.gb h fun h => (Tr.ss h (fun h => rfl) (fun h => rfl)))) (fun h => (Tr.gb h fun h => rfl))))))))))
def qb_S : List Arg → Option (Bool × Res) := fun xs => match xs with
  | [(false, [(.str, TC.s s)])] => some ((qb_c s), qb_mk (qb_v s))
  | _ => .none
theorem qb_e (s : BS) : runF tab FT D2 live 24 qb_lo [(false, [(.str, TC.s s)])] = (qb_t s).run fun p => some (qb_mk p) := by kernel_rfl
theorem qb_s : ∀ xs r, qb_S xs = some (true, r) → runF tab FT D2 live 24 qb_lo xs = some r := by
  intro xs r h
  unfold qb_S at h
  split at h
  · obtain ⟨h1, rfl⟩ := sp h
    exact fun_told (qb_e _) (qb_l _) h1
  · cases h
def D3 : Dt := also D2 24 qb_S
theorem d3 : DOk Go.Proofs.Tryd.prog tab D3 := d2.also mixed_ok tab_ok names_ok (fnLoops_one (by kernel_rfl) qb_is8) qb_s
theorem qb_cc {s : BS} (hs : s.length ≤ 1048576) : (qb_c s) = true := by
  unfold qb_c
  refine bifT (fun b1 => ?_) (fun b1 => ?_)
  · skip
    rfl
  · skip
    refine bifT (fun b2 => ?_) (fun b2 => ?_)
    · skip
      rfl
    · skip
      refine andT (is_true (by cases s with | nil => cases b2 | cons => first | (simp; done) | (simp; omega))) ?_
      refine bifT (fun b3 => ?_) (fun b3 => ?_)
      · skip
        rfl
      · skip
        refine bifT (fun b4 => ?_) (fun b4 => ?_)
        · skip
          refine andT (by exact is_true ⟨rfl, rfl, rfl, by cases s with | nil => cases b2 | cons => simp, hs⟩) ?_
          refine bifT (fun b5 => ?_) (fun b5 => ?_)
          · skip
            rfl
          · skip
            rfl
        · skip
          refine andT (by exact is_true ⟨rfl, rfl, rfl, by cases s with | nil => cases b2 | cons => simp, hs⟩) ?_
          rfl
theorem pathE_ (s : BS) : (((s.getD ((0 : Int)).toNat 0).toNat : Int) == (47 : Int)) = (s.getD 0 0 == 47) := by
  rw [show ((0 : Int)).toNat = 0 from rfl, Bool.eq_iff_iff]
  simp only [beq_iff_eq]
  constructor
  · intro h; exact UInt8.toNat_inj.1 (by show (s.getD 0 0).toNat = 47; omega)
  · intro h; rw [h]; rfl
theorem qb_vv (s : BS) : qb_v s = (pathV s, pathB s) := by
  unfold qb_v
  rw [show qb_k8_1 s [] (1 : Int) (1 : Int) = (pcs (s.drop 1)).all nameOk from rfl, show qb_u8_2 s [] (1 : Int) (1 : Int) = rowsS (pcs (s.drop 1)) from rfl, show qb_u8_3_0 s [] (1 : Int) (1 : Int) = [] from rfl, pathE_]
  unfold pathV pathB
  cases h : s == [47] with
  | true =>
    have := eq_of_beq h
    subst this
    rfl
  | false =>
    have e2 : decide (((rowsS (pcs (s.drop 1))).length : Int) > 6) = !decide ((pcs (s.drop 1)).length ≤ 6) := by
      rw [← decide_not]; exact decide_eq_decide.2 (by unfold rowsS; rw [List.length_map]; omega)
    rw [e2]
    generalize (s == []) = p1, (s.getD 0 0 == 47) = p2, (pcs (s.drop 1)).all nameOk = p3, decide ((pcs (s.drop 1)).length ≤ 6) = p4
    cases p1 <;> cases p2 <;> cases p3 <;> cases p4 <;> rfl
def qp_t (a0 : BS) : Tr (LL × Bool) := (.ite ((qb_c a0) = true) (.ok ((qb_v a0).1, (qb_v a0).2))
  .no)
def qp_mk (p : LL × Bool) : Res := [(false, [⟨.slice 9, .own true, TC.l (p.1)⟩]), (false, [⟨.bool, .sh, TC.b (p.2)⟩])]
def qp_c (a0 : BS) : Bool := (qb_c a0)
def qp_v (a0 : BS) : LL × Bool := ((qb_v a0).1, (qb_v a0).2)
theorem qp_l (a0 : BS) : (qp_c a0) = true → (qp_t a0).val = some (qp_v a0) := by
  intro h
  have hc0 : (qb_c a0) = true := h
  unfold qp_t
  exact (Tr.t hc0 rfl)
def qp_S : List Arg → Option (Bool × Res) := fun xs => match xs with
  | [(false, [(.str, TC.s a0)])] => some ((qp_c a0), qp_mk (qp_v a0))
  | _ => .none
theorem qp_e (a0 : BS) : runF tab FT D3 live 9 noLoops [(false, [(.str, TC.s a0)])] = (qp_t a0).run fun p => some (qp_mk p) := by kernel_rfl
theorem qp_s : ∀ xs r, qp_S xs = some (true, r) → runF tab FT D3 live 9 noLoops xs = some r := by
  intro xs r h
  unfold qp_S at h
  split at h
  · obtain ⟨h1, rfl⟩ := sp h
    exact fun_told (qp_e _) (qp_l _) h1
  · cases h
def D4 : Dt := also D3 9 qp_S
theorem d4 : DOk Go.Proofs.Tryd.prog tab D4 := d3.also mixed_ok tab_ok names_ok noLoops_ok qp_s
def qm_t (a0 a1 : BS) : Tr (Bool) := (.ite ((decide ((a0.length : Int) ≥ (a1.length : Int))) = true) (.ite ((0 : Int) ≤ (0 : Int) ∧ (0 : Int) ≤ (a1.length : Int) ∧ (a1.length : Int) ≤ (a0.length : Int)) (.ok (((a0.take ((a1.length : Int)).toNat).drop ((0 : Int)).toNat) == a1))
   .no)
  (.ok false))
def qm_mk (p : Bool) : Res := [(false, [⟨.bool, .sh, TC.b p⟩])]
def qm_c (a0 a1 : BS) : Bool := (bif (decide ((a0.length : Int) ≥ (a1.length : Int))) then (is ((0 : Int) ≤ (0 : Int) ∧ (0 : Int) ≤ (a1.length : Int) ∧ (a1.length : Int) ≤ (a0.length : Int)) && true) else true)
def qm_v (a0 a1 : BS) : Bool := (bif (decide ((a0.length : Int) ≥ (a1.length : Int))) then (((a0.take ((a1.length : Int)).toNat).drop ((0 : Int)).toNat) == a1) else false)
theorem qm_l (a0 a1 : BS) : (qm_c a0 a1) = true → (qm_t a0 a1).val = some (qm_v a0 a1) := by
  unfold qm_t qm_v qm_c
  exact fun h => (Tr.ss h (fun h => (Tr.gs h fun h => rfl)) (fun h => rfl))
def qm_S : List Arg → Option (Bool × Res) := fun xs => match xs with
  | [(false, [(.str, TC.s a0)]), (false, [(.str, TC.s a1)])] => some ((qm_c a0 a1), qm_mk (qm_v a0 a1))
  | _ => .none
theorem qm_e (a0 a1 : BS) : runF tab FT D4 live 64 noLoops [(false, [(.str, TC.s a0)]), (false, [(.str, TC.s a1)])] = (qm_t a0 a1).run fun p => some (qm_mk p) := by kernel_rfl
theorem qm_s : ∀ xs r, qm_S xs = some (true, r) → runF tab FT D4 live 64 noLoops xs = some r := by
  intro xs r h
  unfold qm_S at h
  split at h
  · obtain ⟨h1, rfl⟩ := sp h
    exact fun_told (qm_e ..) (qm_l _ _) h1
  · cases h
def D5 : Dt := also D4 64 qm_S
theorem d5 : DOk Go.Proofs.Tryd.prog tab D5 := d4.also mixed_ok tab_ok names_ok noLoops_ok qm_s
def ql_t (a0 a1 : BS) : Tr (BS × Bool) := (.ite ((qm_c a0 a1) = true) (.ite ((!(qm_v a0 a1)) = true) (.ok (a0, false))
   (.ite ((0 : Int) ≤ (a1.length : Int) ∧ (a1.length : Int) ≤ (a0.length : Int) ∧ (a0.length : Int) ≤ (a0.length : Int)) (.ok (((a0.take ((a0.length : Int)).toNat).drop ((a1.length : Int)).toNat), true))
    .no))
  .no)
def ql_mk (p : BS × Bool) : Res := [(false, [⟨.str, .sh, TC.s (p.1)⟩]), (false, [⟨.bool, .sh, TC.b (p.2)⟩])]
def ql_c (a0 a1 : BS) : Bool := ((qm_c a0 a1) && (bif (!(qm_v a0 a1)) then true else (is ((0 : Int) ≤ (a1.length : Int) ∧ (a1.length : Int) ≤ (a0.length : Int) ∧ (a0.length : Int) ≤ (a0.length : Int)) && true)))
def ql_v (a0 a1 : BS) : BS × Bool := (bif (!(qm_v a0 a1)) then (a0, false) else (((a0.take ((a0.length : Int)).toNat).drop ((a1.length : Int)).toNat), true))
theorem ql_l (a0 a1 : BS) : (ql_c a0 a1) = true → (ql_t a0 a1).val = some (ql_v a0 a1) := by
  unfold ql_t ql_v ql_c
  exact fun h => (Tr.gb h fun h => (Tr.ss h (fun h => rfl) (fun h => (Tr.gs h fun h => rfl))))
def ql_S : List Arg → Option (Bool × Res) := fun xs => match xs with
  | [(false, [(.str, TC.s a0)]), (false, [(.str, TC.s a1)])] => some ((ql_c a0 a1), ql_mk (ql_v a0 a1))
  | _ => .none
theorem ql_e (a0 a1 : BS) : runF tab FT D5 live 57 noLoops [(false, [(.str, TC.s a0)]), (false, [(.str, TC.s a1)])] = (ql_t a0 a1).run fun p => some (ql_mk p) := by kernel_rfl
theorem ql_s : ∀ xs r, ql_S xs = some (true, r) → runF tab FT D5 live 57 noLoops xs = some r := by
  intro xs r h
  unfold ql_S at h
  split at h
  · obtain ⟨h1, rfl⟩ := sp h
    exact fun_told (ql_e ..) (ql_l _ _) h1
  · cases h
def D6 : Dt := also D5 57 ql_S
theorem d6 : DOk Go.Proofs.Tryd.prog tab D6 := d5.also mixed_ok tab_ok names_ok noLoops_ok ql_s
def qk_t (a0 a1 : BS) : Tr (BS × Bool) := (.ite ((ql_c a0 a1) = true) (.ok ((ql_v a0 a1).1, (ql_v a0 a1).2))
  .no)
def qk_mk (p : BS × Bool) : Res := [(false, [⟨.str, .sh, TC.s (p.1)⟩]), (false, [⟨.bool, .sh, TC.b (p.2)⟩])]
def qk_c (a0 a1 : BS) : Bool := (ql_c a0 a1)
def qk_v (a0 a1 : BS) : BS × Bool := ((ql_v a0 a1).1, (ql_v a0 a1).2)
theorem qk_l (a0 a1 : BS) : (qk_c a0 a1) = true → (qk_t a0 a1).val = some (qk_v a0 a1) := by
  intro h
  have hc0 : (ql_c a0 a1) = true := h
  unfold qk_t
  exact (Tr.t hc0 rfl)
def qk_S : List Arg → Option (Bool × Res) := fun xs => match xs with
  | [(false, [(.str, TC.s a0)]), (false, [(.str, TC.s a1)])] => some ((qk_c a0 a1), qk_mk (qk_v a0 a1))
  | _ => .none
theorem qk_e (a0 a1 : BS) : runF tab FT D6 live 41 noLoops [(false, [(.str, TC.s a0)]), (false, [(.str, TC.s a1)])] = (qk_t a0 a1).run fun p => some (qk_mk p) := by kernel_rfl
theorem qk_s : ∀ xs r, qk_S xs = some (true, r) → runF tab FT D6 live 41 noLoops xs = some r := by
  intro xs r h
  unfold qk_S at h
  split at h
  · obtain ⟨h1, rfl⟩ := sp h
    exact fun_told (qk_e ..) (qk_l _ _) h1
  · cases h
def D7 : Dt := also D6 41 qk_S
theorem d7 : DOk Go.Proofs.Tryd.prog tab D7 := d6.also mixed_ok tab_ok names_ok noLoops_ok qk_s
def qr_c (s p : BS) : Bool := is (s.length < 4294967281 ∧ 1 ≤ p.length)
def qr_v (s p : BS) : LL := splL s p
def qr_mk (p : LL) : Res := [(false, [⟨.slice 9, .own true, TC.l p⟩])]
def qr_S : List Arg → Option (Bool × Res) := fun xs => match xs with
  | [(false, [(.str, TC.s s)]), (false, [(.str, TC.s p)])] => some ((qr_c s p), qr_mk (qr_v s p))
  | _ => .none
def D8 : Dt := also D7 42 qr_S
theorem d8 : DOk Go.Proofs.Tryd.prog tab D8 := d7.alsoC names_ok (c := _) Go.Proofs.Tryd.func42 rfl (by
  intro xs r h w S hargs0 hS hG hargs
  unfold qr_S at h
  split at h
  · rename_i s p
    obtain ⟨h1, rfl⟩ := sp h
    obtain ⟨h2, h3⟩ := is_iff.1 h1
    obtain ⟨u, us, rfl, ha, hr⟩ := args_cons hargs
    obtain ⟨u2, us2, rfl, hb, hr⟩ := args_cons hr
    cases args_nil hr
    rw [rep_str' (arg_rep ha), rep_str' (arg_rep hb)]
    exact split_told lays146 split_str split_cts split_gl hG h2 h3
  · cases h)
def qf_f2 (s : BS) (m i : Int) : (Unit) ⊕ ((BS) ⊕ (BS)) := (bif (decide (((s.getD (i).toNat 0).toNat : Int) ≥ (65 : Int))) then (bif (decide (((s.getD (i).toNat 0).toNat : Int) ≤ (90 : Int))) then (.inl ()) else (bif (decide (((s.getD (i).toNat 0).toNat : Int) ≥ (97 : Int))) then (bif (!(decide (((s.getD (i).toNat 0).toNat : Int) ≤ (122 : Int)))) then (bif (i == (0 : Int)) then (.inr (.inl s)) else (bif (decide (((s.getD (i).toNat 0).toNat : Int) < (48 : Int))) then (bif (!(((s.getD (i).toNat 0).toNat : Int) == (95 : Int))) then (.inr (.inl s)) else (.inl ())) else (bif (decide (((s.getD (i).toNat 0).toNat : Int) > (57 : Int))) then (bif (!(((s.getD (i).toNat 0).toNat : Int) == (95 : Int))) then (.inr (.inl s)) else (.inl ())) else (.inl ())))) else (.inl ())) else (bif (i == (0 : Int)) then (.inr (.inl s)) else (bif (decide (((s.getD (i).toNat 0).toNat : Int) < (48 : Int))) then (bif (!(((s.getD (i).toNat 0).toNat : Int) == (95 : Int))) then (.inr (.inl s)) else (.inl ())) else (bif (decide (((s.getD (i).toNat 0).toNat : Int) > (57 : Int))) then (bif (!(((s.getD (i).toNat 0).toNat : Int) == (95 : Int))) then (.inr (.inl s)) else (.inl ())) else (.inl ())))))) else (bif (decide (((s.getD (i).toNat 0).toNat : Int) ≥ (97 : Int))) then (bif (!(decide (((s.getD (i).toNat 0).toNat : Int) ≤ (122 : Int)))) then (bif (i == (0 : Int)) then (.inr (.inl s)) else (bif (decide (((s.getD (i).toNat 0).toNat : Int) < (48 : Int))) then (bif (!(((s.getD (i).toNat 0).toNat : Int) == (95 : Int))) then (.inr (.inl s)) else (.inl ())) else (bif (decide (((s.getD (i).toNat 0).toNat : Int) > (57 : Int))) then (bif (!(((s.getD (i).toNat 0).toNat : Int) == (95 : Int))) then (.inr (.inl s)) else (.inl ())) else (.inl ())))) else (.inl ())) else (bif (i == (0 : Int)) then (.inr (.inl s)) else (bif (decide (((s.getD (i).toNat 0).toNat : Int) < (48 : Int))) then (bif (!(((s.getD (i).toNat 0).toNat : Int) == (95 : Int))) then (.inr (.inl s)) else (.inl ())) else (bif (decide (((s.getD (i).toNat 0).toNat : Int) > (57 : Int))) then (bif (!(((s.getD (i).toNat 0).toNat : Int) == (95 : Int))) then (.inr (.inl s)) else (.inl ())) else (.inl ()))))))
def qf_e2 (s : BS) (m : Int) : (BS) ⊕ (BS) := .inr s
def qf_R2 (s : BS) (m i : Int) : (BS) ⊕ (BS) := iter (fun i a => (qf_f2 s m (i : Int))) (fun a => (qf_e2 s m)) (s.length) 0 ()
abbrev qf_2_σ := BS × Int × Int
abbrev qf_2_ω := (BS) ⊕ (BS)
def qf_2_step (s : BS) (m i : Int) : Tr (qf_2_σ ⊕ qf_2_ω) := (.ite ((decide (i < m)) = true) (.ite ((0 : Int) ≤ i ∧ i < (s.length : Int)) (.ite ((decide (((s.getD (i).toNat 0).toNat : Int) ≥ (65 : Int))) = true) (.ite ((decide (((s.getD (i).toNat 0).toNat : Int) ≤ (90 : Int))) = true) (.ok (.inl (s, m, (IntKind.wrap .i64 (i + (1 : Int))))))
     (.ite ((decide (((s.getD (i).toNat 0).toNat : Int) ≥ (97 : Int))) = true) (.ite ((!(decide (((s.getD (i).toNat 0).toNat : Int) ≤ (122 : Int)))) = true) (.ite ((i == (0 : Int)) = true) (.ok (.inr (.inl s)))
        (.ite ((decide (((s.getD (i).toNat 0).toNat : Int) < (48 : Int))) = true) (.ite ((!(((s.getD (i).toNat 0).toNat : Int) == (95 : Int))) = true) (.ok (.inr (.inl s)))
          (.ok (.inl (s, m, (IntKind.wrap .i64 (i + (1 : Int)))))))
         (.ite ((decide (((s.getD (i).toNat 0).toNat : Int) > (57 : Int))) = true) (.ite ((!(((s.getD (i).toNat 0).toNat : Int) == (95 : Int))) = true) (.ok (.inr (.inl s)))
           (.ok (.inl (s, m, (IntKind.wrap .i64 (i + (1 : Int)))))))
          (.ok (.inl (s, m, (IntKind.wrap .i64 (i + (1 : Int)))))))))
       (.ok (.inl (s, m, (IntKind.wrap .i64 (i + (1 : Int)))))))
      (.ite ((i == (0 : Int)) = true) (.ok (.inr (.inl s)))
       (.ite ((decide (((s.getD (i).toNat 0).toNat : Int) < (48 : Int))) = true) (.ite ((!(((s.getD (i).toNat 0).toNat : Int) == (95 : Int))) = true) (.ok (.inr (.inl s)))
         (.ok (.inl (s, m, (IntKind.wrap .i64 (i + (1 : Int)))))))
        (.ite ((decide (((s.getD (i).toNat 0).toNat : Int) > (57 : Int))) = true) (.ite ((!(((s.getD (i).toNat 0).toNat : Int) == (95 : Int))) = true) (.ok (.inr (.inl s)))
          (.ok (.inl (s, m, (IntKind.wrap .i64 (i + (1 : Int)))))))
         (.ok (.inl (s, m, (IntKind.wrap .i64 (i + (1 : Int)))))))))))
    (.ite ((decide (((s.getD (i).toNat 0).toNat : Int) ≥ (97 : Int))) = true) (.ite ((!(decide (((s.getD (i).toNat 0).toNat : Int) ≤ (122 : Int)))) = true) (.ite ((i == (0 : Int)) = true) (.ok (.inr (.inl s)))
       (.ite ((decide (((s.getD (i).toNat 0).toNat : Int) < (48 : Int))) = true) (.ite ((!(((s.getD (i).toNat 0).toNat : Int) == (95 : Int))) = true) (.ok (.inr (.inl s)))
         (.ok (.inl (s, m, (IntKind.wrap .i64 (i + (1 : Int)))))))
        (.ite ((decide (((s.getD (i).toNat 0).toNat : Int) > (57 : Int))) = true) (.ite ((!(((s.getD (i).toNat 0).toNat : Int) == (95 : Int))) = true) (.ok (.inr (.inl s)))
          (.ok (.inl (s, m, (IntKind.wrap .i64 (i + (1 : Int)))))))
         (.ok (.inl (s, m, (IntKind.wrap .i64 (i + (1 : Int)))))))))
      (.ok (.inl (s, m, (IntKind.wrap .i64 (i + (1 : Int)))))))
     (.ite ((i == (0 : Int)) = true) (.ok (.inr (.inl s)))
      (.ite ((decide (((s.getD (i).toNat 0).toNat : Int) < (48 : Int))) = true) (.ite ((!(((s.getD (i).toNat 0).toNat : Int) == (95 : Int))) = true) (.ok (.inr (.inl s)))
        (.ok (.inl (s, m, (IntKind.wrap .i64 (i + (1 : Int)))))))
       (.ite ((decide (((s.getD (i).toNat 0).toNat : Int) > (57 : Int))) = true) (.ite ((!(((s.getD (i).toNat 0).toNat : Int) == (95 : Int))) = true) (.ok (.inr (.inl s)))
         (.ok (.inl (s, m, (IntKind.wrap .i64 (i + (1 : Int)))))))
        (.ok (.inl (s, m, (IntKind.wrap .i64 (i + (1 : Int)))))))))))
   .no)
  (.ok (.inr (.inr s))))
def qf_2_st : qf_2_σ → Tr (qf_2_σ ⊕ qf_2_ω) := fun x => (qf_2_step (x.1) (x.2.1) (x.2.2))
def qf_k2_1 (s : BS) (m i : Int) : Bool := sumIs (qf_R2 s m i)
def qf_o2_2 (s : BS) (m i : Int) : Bool := is (i = 0 ∧ s.length ≤ 140737488355328 ∧ m = (s.length : Int))
def qf_o2_3 (s : BS) (m i : Int) : Bool := is (i = 0 ∧ s.length ≤ 140737488355328 ∧ m = (s.length : Int))
def qf_2_fin (s : BS) (m i : Int) : Told qf_2_ω := (.br (qf_k2_1 s m i) (.leaf (qf_o2_2 s m i) (.inl s)) (.leaf (qf_o2_3 s m i) (.inr s)))
def qf_2_sl (x : qf_2_σ) : List Slot := [⟨.val false [⟨.str, .sh, TC.s (x.1)⟩], ⟨0, 0⟩⟩, ⟨.val false [⟨.int .i64, .sh, TC.i (x.2.1)⟩], ⟨0, 0⟩⟩, ⟨.val false [⟨.int .i64, .sh, TC.i (x.2.2)⟩], ⟨0, 0⟩⟩]
def qf_2_out : qf_2_ω → Ex × List Slot := (Sum.elim (fun x => (.ret, [⟨.val false [⟨.str, .sh, TC.s x⟩], ⟨0, 0⟩⟩, ⟨.val false [⟨.bool, .sh, TC.b false⟩], ⟨0, 0⟩⟩])) (fun x => (.exit 0, [⟨.val false [⟨.str, .sh, TC.s x⟩], ⟨0, 0⟩⟩, Slot.none])))
def qf_lo2 : List Slot → Option (Told (Ex × List Slot)) := fun s => match s with
  | [⟨.val false [⟨.str, .sh, TC.s s⟩], ⟨0, 0⟩⟩, ⟨.val false [⟨.int .i64, .sh, TC.i m⟩], ⟨0, 0⟩⟩, ⟨.val false [⟨.int .i64, .sh, TC.i i⟩], ⟨0, 0⟩⟩] => some (((qf_2_fin s m i)).map qf_2_out)
  | _ => .none
def qf_lo : LoopTeller := fun r s => bif Nat.beq r 2 then qf_lo2 s else .none
theorem qf_2_r (s : BS) (m i : Int) (fuel : Nat) : rounds (rnd tab FT D8 live 45 qf_lo 0 2) leave (fuel + 1) (qf_2_sl (s, m, i)) = ((qf_2_step s m i)).run (goOn (fun s => rounds (rnd tab FT D8 live 45 qf_lo 0 2) leave fuel (qf_2_sl s)) fun w => some (qf_2_out w)) := by kernel_rfl
theorem qf_f2_eq (s : BS) (m i : Int) : qf_f2 s m i = bif nameB i ((s.getD (i).toNat 0).toNat : Int) then Sum.inl () else Sum.inr (Sum.inl s) := by
  unfold qf_f2 nameB letterB
  simp only [dlt, dgt]
  generalize ((s.getD i.toNat 0).toNat : Int) = c
  generalize decide (c ≥ 65) = p0, decide (c ≤ 90) = p1, decide (c ≥ 97) = p2, decide (c ≤ 122) = p3, decide (c ≥ 48) = p4, decide (c ≤ 57) = p5, (c == 95) = p6, (i == 0) = p7
  cases p0 <;> cases p1 <;> cases p2 <;> cases p3 <;> cases p4 <;> cases p5 <;> cases p6 <;> cases p7 <;> rfl
theorem qf_R2_eq (s : BS) (m : Int)  : qf_R2 s m 0 = bif allI (fun i : Nat => nameB (i : Int) ((s.getD ((i : Int)).toNat 0).toNat : Int)) (s.length) then Sum.inr s else (Sum.inl s) := by
  unfold qf_R2
  exact (iter_all (P := (fun i : Nat => nameB (i : Int) ((s.getD ((i : Int)).toNat 0).toNat : Int))) (g := fun _ a => a) (w := Sum.inl s) fun j a _ => qf_f2_eq s m _)
theorem qf_2_h (s : BS) (m i : Int) (ow : qf_2_ω) : ((qf_2_fin s m i)).val = some ow → ∃ fuel, loopN qf_2_st fuel (s, m, i) = some ow := by
  refine auto_const (R := (qf_R2 s m i)) rfl (iter_onR (f := (fun i a => (qf_f2 s m (i : Int)))) (fin := (fun a => (qf_e2 s m))) (Q := endsAs s s) (fun i a => by unfold qf_f2; exact (onR_bif (onR_bif trivial (onR_bif (onR_bif (onR_bif rfl (onR_bif (onR_bif rfl trivial) (onR_bif (onR_bif rfl trivial) trivial))) trivial) (onR_bif rfl (onR_bif (onR_bif rfl trivial) (onR_bif (onR_bif rfl trivial) trivial))))) (onR_bif (onR_bif (onR_bif rfl (onR_bif (onR_bif rfl trivial) (onR_bif (onR_bif rfl trivial) trivial))) trivial) (onR_bif rfl (onR_bif (onR_bif rfl trivial) (onR_bif (onR_bif rfl trivial) trivial)))))) (fun _ => rfl) _ _ _) ?_
  intro ho
  have ho : is (i = 0 ∧ s.length ≤ 140737488355328 ∧ m = (s.length : Int)) = true := ho.elim id id
  obtain ⟨rfl, hs, rfl⟩ := is_iff.1 ho
  skip
  refine ⟨(s.length) + 1, ?_⟩
  refine iter_loop (step := qf_2_st) (s.length) (fun i a => (qf_f2 s (s.length : Int) (i : Int))) (fun a => (qf_e2 s (s.length : Int))) (fun i a => (s, (s.length : Int), (i : Int))) (fun _ _ => True) trivial (fun i a hi hI => ⟨?_, fun _ _ => trivial⟩) (fun a hI => ?_)
  · show (qf_2_step s (s.length : Int) (i : Int)).val = _
    unfold qf_2_step qf_f2
    skip
    refine Tr.t (by simp; omega) ?_
    exact (Tr.t (by first | omega | (constructor <;> omega)) (Tr.bf (Tr.bf (by rw [Tr.val_ok, wrap64 (i := (i : Int) + 1) (by omega) (by omega)]; rfl) (Tr.bf (Tr.bf (Tr.bf rfl (Tr.bf (Tr.bf rfl (by rw [Tr.val_ok, wrap64 (i := (i : Int) + 1) (by omega) (by omega)]; rfl)) (Tr.bf (Tr.bf rfl (by rw [Tr.val_ok, wrap64 (i := (i : Int) + 1) (by omega) (by omega)]; rfl)) (by rw [Tr.val_ok, wrap64 (i := (i : Int) + 1) (by omega) (by omega)]; rfl)))) (by rw [Tr.val_ok, wrap64 (i := (i : Int) + 1) (by omega) (by omega)]; rfl)) (Tr.bf rfl (Tr.bf (Tr.bf rfl (by rw [Tr.val_ok, wrap64 (i := (i : Int) + 1) (by omega) (by omega)]; rfl)) (Tr.bf (Tr.bf rfl (by rw [Tr.val_ok, wrap64 (i := (i : Int) + 1) (by omega) (by omega)]; rfl)) (by rw [Tr.val_ok, wrap64 (i := (i : Int) + 1) (by omega) (by omega)]; rfl)))))) (Tr.bf (Tr.bf (Tr.bf rfl (Tr.bf (Tr.bf rfl (by rw [Tr.val_ok, wrap64 (i := (i : Int) + 1) (by omega) (by omega)]; rfl)) (Tr.bf (Tr.bf rfl (by rw [Tr.val_ok, wrap64 (i := (i : Int) + 1) (by omega) (by omega)]; rfl)) (by rw [Tr.val_ok, wrap64 (i := (i : Int) + 1) (by omega) (by omega)]; rfl)))) (by rw [Tr.val_ok, wrap64 (i := (i : Int) + 1) (by omega) (by omega)]; rfl)) (Tr.bf rfl (Tr.bf (Tr.bf rfl (by rw [Tr.val_ok, wrap64 (i := (i : Int) + 1) (by omega) (by omega)]; rfl)) (Tr.bf (Tr.bf rfl (by rw [Tr.val_ok, wrap64 (i := (i : Int) + 1) (by omega) (by omega)]; rfl)) (by rw [Tr.val_ok, wrap64 (i := (i : Int) + 1) (by omega) (by omega)]; rfl)))))))
  · show (qf_2_step s (s.length : Int) (s.length : Int)).val = _
    refine Tr.n (by first | (simp; done) | (simp; omega) | omega) ?_
    rfl
theorem qf_is2 : LoopIs tab FT D8 live 45 qf_lo 0 2 := by
  refine loop_told (sl := qf_2_sl) (step := qf_2_st) (out := qf_2_out) (lor := qf_lo2) (fin := fun x => (qf_2_fin (x.1) (x.2.1) (x.2.2))) (fun _ => rfl) ?_ (fun x n => qf_2_r x.1 x.2.1 x.2.2 n) (fun x ow => qf_2_h x.1 x.2.1 x.2.2 ow)
  intro s t h
  unfold qf_lo2 at h
  split at h
  · cases h; exact ⟨(_, _, _), rfl, rfl⟩
  · cases h
def qf_t (s : BS) : Tr (Bool) := (.ite ((qf_k2_1 s (s.length : Int) (0 : Int)) = true) (.ite ((qf_o2_2 s (s.length : Int) (0 : Int)) = true) (.ok false)
   .no)
  (.ite ((qf_o2_3 s (s.length : Int) (0 : Int)) = true) (.ite ((decide ((s.length : Int) ≥ (1 : Int))) = true) (.ok (decide ((s.length : Int) ≤ (12 : Int))))
    (.ok false))
   .no))
def qf_mk (p : Bool) : Res := [(false, [⟨.bool, .sh, TC.b p⟩])]
def qf_c (s : BS) : Bool := (bif (qf_k2_1 s (s.length : Int) (0 : Int)) then ((qf_o2_2 s (s.length : Int) (0 : Int)) && true) else ((qf_o2_3 s (s.length : Int) (0 : Int)) && (bif (decide ((s.length : Int) ≥ (1 : Int))) then true else true)))
def qf_v (s : BS) : Bool := (bif (qf_k2_1 s (s.length : Int) (0 : Int)) then false else (bif (decide ((s.length : Int) ≥ (1 : Int))) then (decide ((s.length : Int) ≤ (12 : Int))) else false))
theorem qf_l (s : BS) : (qf_c s) = true → (qf_t s).val = some (qf_v s) := by
  unfold qf_t qf_v qf_c
  exact fun h => (Tr.ss h (fun h => (Tr.gb h fun h => rfl)) (fun h => (Tr.gb h fun h => (Tr.ss h (fun h => rfl) (fun h => rfl)))))
def qf_S : List Arg → Option (Bool × Res) := fun xs => match xs with
  | [(false, [(.str, TC.s s)])] => some ((qf_c s), qf_mk (qf_v s))
  | _ => .none
theorem qf_e (s : BS) : runF tab FT D8 live 45 qf_lo [(false, [(.str, TC.s s)])] = (qf_t s).run fun p => some (qf_mk p) := by kernel_rfl
theorem qf_s : ∀ xs r, qf_S xs = some (true, r) → runF tab FT D8 live 45 qf_lo xs = some r := by
  intro xs r h
  unfold qf_S at h
  split at h
  · obtain ⟨h1, rfl⟩ := sp h
    exact fun_told (qf_e _) (qf_l _) h1
  · cases h
def D9 : Dt := also D8 45 qf_S
theorem d9 : DOk Go.Proofs.Tryd.prog tab D9 := d8.also mixed_ok tab_ok names_ok (fnLoops_one (by kernel_rfl) qf_is2) qf_s
theorem qf_cc {s : BS} (hs : Typed tab (.str) (.s s)) : (qf_c s) = true := by
  unfold qf_c
  refine bifT (fun b1 => ?_) (fun b1 => ?_)
  · skip
    refine andT (by exact is_true ⟨rfl, by have := typed_str_len hs; omega, rfl⟩) ?_
    rfl
  · skip
    refine andT (by exact is_true ⟨rfl, by have := typed_str_len hs; omega, rfl⟩) ?_
    refine bifT (fun b2 => ?_) (fun b2 => ?_)
    · skip
      rfl
    · skip
      rfl
theorem qf_vv (s : BS) : qf_v s = nameOk s := by
  unfold qf_v qf_k2_1 nameOk
  rw [qf_R2_eq]
  generalize allI (fun i : Nat => nameB (i : Int) ((s.getD ((i : Int)).toNat 0).toNat : Int)) s.length = q
  cases q
  · simp [sumIs]
  · show (bif decide ((s.length : Int) ≥ 1) then decide ((s.length : Int) ≤ 12) else false) = (decide ((s.length : Int) ≥ 1) && decide ((s.length : Int) ≤ 12) && true)
    generalize decide ((s.length : Int) ≥ 1) = q1, decide ((s.length : Int) ≤ 12) = q2
    cases q1 <;> cases q2 <;> rfl
def qn_t (a0 : BS) : Tr (Bool) := (.ite ((qf_c a0) = true) (.ok (!(qf_v a0)))
  .no)
def qn_mk (p : Bool) : Res := [(false, [⟨.bool, .sh, TC.b p⟩])]
def qn_c (a0 : BS) : Bool := (qf_c a0)
def qn_v (a0 : BS) : Bool := (!(qf_v a0))
theorem qn_l (a0 : BS) : (qn_c a0) = true → (qn_t a0).val = some (qn_v a0) := by
  intro h
  have hc0 : (qf_c a0) = true := h
  unfold qn_t
  exact (Tr.t hc0 rfl)
def qn_S : List Arg → Option (Bool × Res) := fun xs => match xs with
  | [(false, [(.str, TC.s a0)])] => some ((qn_c a0), qn_mk (qn_v a0))
  | _ => .none
theorem qn_e (a0 : BS) : runF tab FT D9 live 44 noLoops [(false, [(.str, TC.s a0)])] = (qn_t a0).run fun p => some (qn_mk p) := by kernel_rfl
theorem qn_s : ∀ xs r, qn_S xs = some (true, r) → runF tab FT D9 live 44 noLoops xs = some r := by
  intro xs r h
  unfold qn_S at h
  split at h
  · obtain ⟨h1, rfl⟩ := sp h
    exact fun_told (qn_e _) (qn_l _) h1
  · cases h
def D10 : Dt := also D9 44 qn_S
theorem d10 : DOk Go.Proofs.Tryd.prog tab D10 := d9.also mixed_ok tab_ok names_ok noLoops_ok qn_s
abbrev qa_2_σ := LL × Int × Int
abbrev qa_2_ω := (Int) ⊕ (Unit)
def qa_2_step (A : LL) (m i : Int) : Tr (qa_2_σ ⊕ qa_2_ω) := (.ite ((decide (i < m)) = true) (.ite ((0 : Int) ≤ i ∧ i < (A.length : Int)) (.ite ((qn_c ((nth (row A i) 0).str)) = true) (.ite ((qn_v ((nth (row A i) 0).str)) = true) (.ok (.inr (.inl i)))
     (.ok (.inl (A, m, (IntKind.wrap .i64 (i + (1 : Int)))))))
    .no)
   .no)
  (.ok (.inr (.inr ()))))
def qa_2_st : qa_2_σ → Tr (qa_2_σ ⊕ qa_2_ω) := fun x => (qa_2_step (x.1) (x.2.1) (x.2.2))
def qa_k2_1 (A : LL) (m i : Int) : Bool := A.all (fun x => !(qn_v ((nth x 0).str)))
def qa_o2_2 (A : LL) (m i : Int) : Bool := is (i = 0 ∧ Typed tab (.slice 9) (.l A) ∧ m = (A.length : Int))
def qa_o2_3 (A : LL) (m i : Int) : Bool := is (i = 0 ∧ Typed tab (.slice 9) (.l A) ∧ m = (A.length : Int))
def qa_u2_3 (A : LL) (m i : Int) : Int := (Int.ofNat (A.findIdx fun x => !(fun x => !(qn_v ((nth x 0).str))) x))
def qa_2_fin (A : LL) (m i : Int) : Told qa_2_ω := (.br (qa_k2_1 A m i) (.leaf (qa_o2_2 A m i) (.inr ())) (.leaf (qa_o2_3 A m i) (.inl (qa_u2_3 A m i))))
def qa_2_sl (x : qa_2_σ) : List Slot := [⟨.val false [⟨.slice 9, .sh, TC.l (x.1)⟩], ⟨0, 0⟩⟩, ⟨.val false [⟨.func, .sh, TC.f 44 []⟩], ⟨0, 0⟩⟩, ⟨.val false [⟨.int .i64, .sh, TC.i (x.2.1)⟩], ⟨0, 0⟩⟩, ⟨.val false [⟨.int .i64, .sh, TC.i (x.2.2)⟩], ⟨0, 0⟩⟩]
def qa_2_out : qa_2_ω → Ex × List Slot := (Sum.elim (fun x => (.ret, [⟨.val false [⟨.int .i64, .sh, TC.i x⟩], ⟨0, 0⟩⟩])) (fun x => (.exit 0, [Slot.none])))
def qa_lo2 : List Slot → Option (Told (Ex × List Slot)) := fun s => match s with
  | [⟨.val false [⟨.slice 9, .sh, TC.l A⟩], ⟨0, 0⟩⟩, ⟨.val false [⟨.func, .sh, TC.f 44 []⟩], ⟨0, 0⟩⟩, ⟨.val false [⟨.int .i64, .sh, TC.i m⟩], ⟨0, 0⟩⟩, ⟨.val false [⟨.int .i64, .sh, TC.i i⟩], ⟨0, 0⟩⟩] => some (((qa_2_fin A m i)).map qa_2_out)
  | _ => .none
def qa_lo : LoopTeller := fun r s => bif Nat.beq r 2 then qa_lo2 s else .none
theorem qa_2_r (A : LL) (m i : Int) (fuel : Nat) : rounds (rnd tab FT D10 live 59 qa_lo 0 2) leave (fuel + 1) (qa_2_sl (A, m, i)) = ((qa_2_step A m i)).run (goOn (fun s => rounds (rnd tab FT D10 live 59 qa_lo 0 2) leave fuel (qa_2_sl s)) fun w => some (qa_2_out w)) := by kernel_rfl
theorem qa_2_h (A : LL) (m i : Int) (ow : qa_2_ω) : ((qa_2_fin A m i)).val = some ow → ∃ fuel, loopN qa_2_st fuel (A, m, i) = some ow := by
  intro h
  have key : Typed tab (.slice 9) (.l A) → loopN qa_2_st (A.length + 1) (A, (A.length : Int), (0 : Int)) = some (if A.all (fun x => !(qn_v ((nth x 0).str))) = true then (.inr ()) else (.inl (Int.ofNat (A.findIdx fun x => !(fun x => !(qn_v ((nth x 0).str))) x)))) := by
    intro ht
    have hlen : A.length ≤ 140737488351232 := by have := typed_room ht; simp only [show (tab 9).bytes = 16 from rfl] at this; omega
    have key := loopN_scan (step := qa_2_st) A [] (fun x => !(qn_v ((nth x 0).str))) (fun a _ => a) (fun i a => (A, (A.length : Int), (i : Int))) (fun a => (.inr ())) (fun i a => (.inl (i : Int))) (fun i a hi => ?_) (fun a => ?_) A.length 0 () (by omega)
    · first | (rw [Nat.zero_add] at key; exact key) | exact key
    · have c0 : Typed tab (.str) (.s (nth (A.getD i []) 0).str) := typed_s (typed_cell ht (A.getD i []) (mem_getD hi) 0 (by decide))
      show (qa_2_step A (A.length : Int) (i : Int)).val = _
      unfold qa_2_step
      refine Tr.t (by simp; omega) ?_
      skip
      refine Tr.t (by first | omega | (constructor <;> omega)) ?_
      refine Tr.t (by first | (apply is_true; and_intros <;> (first | rfl | assumption | (apply qe_cc <;> assumption) | (apply qb_cc <;> assumption) | (apply qf_cc <;> assumption) | (first | (apply is_true; and_intros <;> (first | rfl | assumption | (apply qe_cc <;> assumption) | (apply qb_cc <;> assumption) | (apply qf_cc <;> assumption) | (first | (apply is_true; and_intros <;> (first | rfl | assumption | (apply qe_cc <;> assumption) | (apply qb_cc <;> assumption) | (apply qf_cc <;> assumption) | (first | (apply is_true; and_intros <;> (first | rfl | assumption | (apply qe_cc <;> assumption) | (apply qb_cc <;> assumption) | (apply qf_cc <;> assumption))) | (apply qe_cc <;> assumption) | (apply qb_cc <;> assumption) | (apply qf_cc <;> assumption)))) | (apply qe_cc <;> assumption) | (apply qb_cc <;> assumption) | (apply qf_cc <;> assumption)))) | (apply qe_cc <;> assumption) | (apply qb_cc <;> assumption) | (apply qf_cc <;> assumption)))) | (apply qe_cc <;> assumption) | (apply qb_cc <;> assumption) | (apply qf_cc <;> assumption)) ?_
      refine Tr.b2 (fun hP => ?_) (fun _ => rfl)
      rw [Tr.val_ok, wrap64 (i := (i : Int) + 1) (by omega) (by omega)]; rfl
    · show (qa_2_step A (A.length : Int) (A.length : Int)).val = _
      refine Tr.n (by simp) ?_
      rfl
  simp only [qa_2_fin, Told.val] at h
  cases hk : A.all (fun x => !(qn_v ((nth x 0).str))) with
  | true =>
    rw [if_pos (show qa_k2_1 A m i = true from hk)] at h
    split at h
    · rename_i ho
      obtain ⟨rfl, ht, rfl⟩ := is_iff.1 ho
      cases h
      refine ⟨_, (key ht).trans ?_⟩
      rw [hk]; rfl
    · cases h
  | false =>
    rw [if_neg (show ¬qa_k2_1 A m i = true from by rw [show qa_k2_1 A m i = (A.all (fun x => !(qn_v ((nth x 0).str)))) from rfl, hk]; simp)] at h
    split at h
    · rename_i ho
      obtain ⟨rfl, ht, rfl⟩ := is_iff.1 ho
      cases h
      refine ⟨_, (key ht).trans ?_⟩
      rw [hk]; rfl
    · cases h
theorem qa_is2 : LoopIs tab FT D10 live 59 qa_lo 0 2 := by
  refine loop_told (sl := qa_2_sl) (step := qa_2_st) (out := qa_2_out) (lor := qa_lo2) (fin := fun x => (qa_2_fin (x.1) (x.2.1) (x.2.2))) (fun _ => rfl) ?_ (fun x n => qa_2_r x.1 x.2.1 x.2.2 n) (fun x ow => qa_2_h x.1 x.2.1 x.2.2 ow)
  intro s t h
  unfold qa_lo2 at h
  split at h
  · cases h; exact ⟨(_, _, _), rfl, rfl⟩
  · cases h
def qa_t (A : LL) : Tr (Int) := (.ite ((qa_k2_1 A (A.length : Int) (0 : Int)) = true) (.ite ((qa_o2_2 A (A.length : Int) (0 : Int)) = true) (.ok (-1 : Int))
   .no)
  (.ite ((qa_o2_3 A (A.length : Int) (0 : Int)) = true) (.ok (qa_u2_3 A (A.length : Int) (0 : Int)))
   .no))
def qa_mk (p : Int) : Res := [(false, [⟨.int .i64, .sh, TC.i p⟩])]
def qa_c (A : LL) : Bool := is (Typed tab (.slice 9) (.l A))
def qa_v (A : LL) : Int := if (A.all (fun x => !(qn_v ((nth x 0).str)))) = true then -1 else (Int.ofNat (A.findIdx fun x => !(fun x => !(qn_v ((nth x 0).str))) x))
theorem qa_l (A : LL) : (qa_c A) = true → (qa_t A).val = some (qa_v A) := by
  intro h
  have ht := is_iff.1 h
  unfold qa_t
  cases hk : A.all (fun x => !(qn_v ((nth x 0).str))) with
  | true =>
    refine Tr.t (show A.all (fun x => !(qn_v ((nth x 0).str))) = true from hk) ?_
    refine Tr.t (is_true ⟨rfl, ht, rfl⟩) ?_
    show _ = some (qa_v A ); unfold qa_v; rw [if_pos hk]; rfl
  | false =>
    refine Tr.n (show ¬A.all (fun x => !(qn_v ((nth x 0).str))) = true from by rw [hk]; simp) ?_
    refine Tr.t (is_true ⟨rfl, ht, rfl⟩) ?_
    show _ = some (qa_v A ); unfold qa_v; rw [if_neg (by rw [hk]; simp)]; rfl
def qa_S : List Arg → Option (Bool × Res) := fun xs => match xs with
  | [(false, [(.slice 9, TC.l A)]), (false, [(.func, TC.f 44 [])])] => some ((qa_c A), qa_mk (qa_v A))
  | _ => .none
theorem qa_e (A : LL) : runF tab FT D10 live 59 qa_lo [(false, [(.slice 9, TC.l A)]), (false, [(.func, TC.f 44 [])])] = (qa_t A).run fun p => some (qa_mk p) := by kernel_rfl
theorem qa_s : ∀ xs r, qa_S xs = some (true, r) → runF tab FT D10 live 59 qa_lo xs = some r := by
  intro xs r h
  unfold qa_S at h
  split at h
  · obtain ⟨h1, rfl⟩ := sp h
    exact fun_told (qa_e _) (qa_l _) h1
  · cases h
def D11 : Dt := also D10 59 qa_S
theorem d11 : DOk Go.Proofs.Tryd.prog tab D11 := d10.also mixed_ok tab_ok names_ok (fnLoops_one (by kernel_rfl) qa_is2) qa_s
def qj_t (A : LL) : Tr (Bool) := (.ite ((qa_c A) = true) (.ok (decide ((qa_v A) ≥ (0 : Int))))
  .no)
def qj_mk (p : Bool) : Res := [(false, [⟨.bool, .sh, TC.b p⟩])]
def qj_c (A : LL) : Bool := is (Typed tab (.slice 9) (.l A))
def qj_v (A : LL) : Bool := !(A.all (fun x => !(qn_v ((nth x 0).str))))
theorem qj_l (A : LL) : (qj_c A) = true → (qj_t A).val = some (qj_v A) := by
  intro h
  have ht := is_iff.1 h
  unfold qj_t
  refine Tr.t (is_true ht) ?_
  show some (decide (qa_v A  ≥ 0)) = some (!(A.all (fun x => !(qn_v ((nth x 0).str)))))
  unfold qa_v
  cases hk : A.all (fun x => !(qn_v ((nth x 0).str))) <;> simp
def qj_S : List Arg → Option (Bool × Res) := fun xs => match xs with
  | [(false, [(.slice 9, TC.l A)]), (false, [(.func, TC.f 44 [])])] => some ((qj_c A), qj_mk (qj_v A))
  | _ => .none
theorem qj_e (A : LL) : runF tab FT D11 live 43 noLoops [(false, [(.slice 9, TC.l A)]), (false, [(.func, TC.f 44 [])])] = (qj_t A).run fun p => some (qj_mk p) := by kernel_rfl
theorem qj_s : ∀ xs r, qj_S xs = some (true, r) → runF tab FT D11 live 43 noLoops xs = some r := by
  intro xs r h
  unfold qj_S at h
  split at h
  · obtain ⟨h1, rfl⟩ := sp h
    exact fun_told (qj_e _) (qj_l _) h1
  · cases h
def D12 : Dt := also D11 43 qj_S
theorem d12 : DOk Go.Proofs.Tryd.prog tab D12 := d11.also mixed_ok tab_ok names_ok noLoops_ok qj_s
def qi_t (s : BS) : Tr (LL × Bool) := (.ite ((s == [47]) = true) (.ok ([], true))
  (.ite ((qk_c s [47]) = true) (.ite ((qr_c ((qk_v s [47]).1) [47]) = true) (.ite ((!(qk_v s [47]).2) = true) (.ok ([], false))
     (.ite ((decide (((qr_v ((qk_v s [47]).1) [47]).length : Int) > (6 : Int))) = true) (.ok ([], false))
      (.ite ((qj_c (qr_v ((qk_v s [47]).1) [47])) = true) (.ite ((qj_v (qr_v ((qk_v s [47]).1) [47])) = true) (.ok ([], false))
        (.ok ((qr_v ((qk_v s [47]).1) [47]), true)))
       .no)))
    .no)
   .no))
def qi_mk (p : LL × Bool) : Res := [(false, [⟨.slice 9, .own true, TC.l (p.1)⟩]), (false, [⟨.bool, .sh, TC.b (p.2)⟩])]
def qi_c (s : BS) : Bool := (bif (s == [47]) then true else ((qk_c s [47]) && ((qr_c ((qk_v s [47]).1) [47]) && (bif (!(qk_v s [47]).2) then true else (bif (decide (((qr_v ((qk_v s [47]).1) [47]).length : Int) > (6 : Int))) then true else ((qj_c (qr_v ((qk_v s [47]).1) [47])) && (bif (qj_v (qr_v ((qk_v s [47]).1) [47])) then true else true)))))))
def qi_v (s : BS) : LL × Bool := (bif (s == [47]) then ([], true) else (bif (!(qk_v s [47]).2) then ([], false) else (bif (decide (((qr_v ((qk_v s [47]).1) [47]).length : Int) > (6 : Int))) then ([], false) else (bif (qj_v (qr_v ((qk_v s [47]).1) [47])) then ([], false) else ((qr_v ((qk_v s [47]).1) [47]), true)))))
theorem qi_l (s : BS) : (qi_c s) = true → (qi_t s).val = some (qi_v s) := by
  unfold qi_t qi_v qi_c
  exact fun h => (Tr.ss h (fun h => rfl) (fun h => (Tr.gb h fun h => (Tr.gb h fun h => (Tr.ss h (fun h => rfl) (fun h => (Tr.ss h (fun h => rfl) (fun h => (Tr.gb h fun h => (Tr.ss h (fun h => rfl) (fun h => rfl)))))))))))
def qi_S : List Arg → Option (Bool × Res) := fun xs => match xs with
  | [(false, [(.str, TC.s s)])] => some ((qi_c s), qi_mk (qi_v s))
  | _ => .none
theorem qi_e (s : BS) : runF tab FT D12 live 25 noLoops [(false, [(.str, TC.s s)])] = (qi_t s).run fun p => some (qi_mk p) := by kernel_rfl
theorem qi_s : ∀ xs r, qi_S xs = some (true, r) → runF tab FT D12 live 25 noLoops xs = some r := by
  intro xs r h
  unfold qi_S at h
  split at h
  · obtain ⟨h1, rfl⟩ := sp h
    exact fun_told (qi_e _) (qi_l _) h1
  · cases h
def D13 : Dt := also D12 25 qi_S
theorem d13 : DOk Go.Proofs.Tryd.prog tab D13 := d12.also mixed_ok tab_ok names_ok noLoops_ok qi_s
theorem cut_c (s : BS) : qk_c s [47] = true := by
  unfold qk_c ql_c qm_c
  cases s with
  | nil => rfl
  | cons b l =>
    rw [show decide (((b :: l).length : Int) ≥ (([47] : BS).length : Int)) = true from by simp; omega, is_true (show (0 : Int) ≤ (0 : Int) ∧ (0 : Int) ≤ (([47] : BS).length : Int) ∧ (([47] : BS).length : Int) ≤ ((b :: l).length : Int) from by simp; omega),
      is_true (show (0 : Int) ≤ (([47] : BS).length : Int) ∧ (([47] : BS).length : Int) ≤ ((b :: l).length : Int) ∧ ((b :: l).length : Int) ≤ ((b :: l).length : Int) from by simp; omega)]
    cases qm_v (b :: l) [47] <;> rfl
theorem cut_v (s : BS) : qk_v s [47] = bif (!(s == []) && (s.getD 0 0 == 47)) then (s.drop 1, true) else (s, false) := by
  unfold qk_v ql_v qm_v
  cases s with
  | nil => rfl
  | cons b l =>
    rw [show decide (((b :: l).length : Int) ≥ (([47] : BS).length : Int)) = true from by simp; omega]
    rw [show ((((b :: l).take ((([47] : BS).length : Int)).toNat).drop ((0 : Int)).toNat) == ([47] : BS)) = (b == 47) from by
      show ([b] == [47]) = _
      rw [Bool.eq_iff_iff]; simp]
    rw [show (((b :: l).take (((b :: l).length : Int)).toNat).drop ((([47] : BS).length : Int)).toNat) = l from by
      show ((b :: l).take (b :: l).length).drop 1 = l
      rw [List.take_length]; rfl]
    show _ = bif (!false && (b == 47)) then (l, true) else _
    cases b == 47 <;> rfl
theorem pcs_len : ∀ t : BS, (pcs t).length ≤ t.length + 1 ∧ ∀ x, x ∈ pcs t → x.length ≤ t.length
  | [] => ⟨by simp [pcs], fun x hx => by simp [pcs] at hx; subst hx; simp⟩
  | b :: l => by
    obtain ⟨h1, h2⟩ := pcs_len l
    rw [pcs_cons]
    cases b == 47 with
    | true =>
      refine ⟨by simp; omega, fun x hx => ?_⟩
      rcases List.mem_cons.1 hx with rfl | hx
      · simp
      · have := h2 x hx; simp; omega
    | false =>
      show (hdl [b] (pcs l)).length ≤ _ ∧ ∀ x, x ∈ hdl [b] (pcs l) → _
      cases hp : pcs l with
      | nil => exact absurd hp (pcs_ne l)
      | cons y z =>
        rw [hp] at h1 h2
        refine ⟨by simp [hdl] at h1 ⊢; omega, fun x hx => ?_⟩
        rcases List.mem_cons.1 hx with rfl | hx
        · have := h2 y List.mem_cons_self; simp; omega
        · have := h2 x (List.mem_cons_of_mem _ hx); simp; omega
theorem pcs_typed {t : BS} (h : t.length ≤ 1048576) : Typed tab (.slice 9) (.l (rowsS (pcs t))) := by
  obtain ⟨h1, h2⟩ := pcs_len t
  have hl : (rowsS (pcs t)).length ≤ 1048577 := by unfold rowsS; rw [List.length_map]; omega
  refine .slice _ _ (by rw [show (tab 9).bytes = 16 from rfl]; unfold reachBytes; omega) (by unfold maxLen; omega) (fun x hx => ?_) (fun x hx k hk => ?_)
  · obtain ⟨y, _, rfl⟩ := List.mem_map.1 hx
    rfl
  · obtain ⟨y, hy, rfl⟩ := List.mem_map.1 hx
    have hk : k < 1 := hk
    obtain rfl : k = 0 := by omega
    exact .str _ (by have := h2 y hy; unfold reachBytes; omega)
theorem cut_len (s : BS) : (qk_v s [47]).1.length ≤ s.length := by
  rw [cut_v]
  cases (!(s == []) && (s.getD 0 0 == 47))
  · exact Nat.le_refl _
  · show (s.drop 1).length ≤ _
    rw [List.length_drop]; omega
theorem qi_cc {s : BS} (hs : s.length ≤ 1048576) : qi_c s = true := by
  have h1 := cut_len s
  have a1 := cut_c s
  have a2 : qr_c ((qk_v s [47]).1) [47] = true := is_true ⟨by omega, by simp⟩
  have a3 : qj_c (qr_v ((qk_v s [47]).1) [47]) = true := by
    unfold qr_v
    rw [splL_slash]
    exact is_true (pcs_typed (by omega))
  unfold qi_c
  rw [a1, a2, a3]
  generalize (s == [47]) = p1, (qk_v s [47]).2 = p2, decide (((qr_v ((qk_v s [47]).1) [47]).length : Int) > (6 : Int)) = p3, qj_v (qr_v ((qk_v s [47]).1) [47]) = p4
  cases p1 <;> cases p2 <;> cases p3 <;> cases p4 <;> rfl
theorem qi_vv (s : BS) : qi_v s = (pathV s, pathB s) := by
  unfold qi_v qj_v qr_v
  simp only [splL_slash]
  rw [show (fun x : List TC => !(qn_v (nth x 0).str)) = fun x => nameOk (nth x 0).str from by
    funext x
    unfold qn_v
    rw [qf_vv, Bool.not_not]]
  have ha : ∀ L : List (BS), (rowsS L).all (fun x => nameOk (nth x 0).str) = L.all nameOk := fun L => by
    unfold rowsS
    rw [List.all_map]
    rfl
  rw [ha, cut_v]
  unfold pathV pathB
  cases h : s == [47] with
  | true =>
    have := eq_of_beq h
    subst this
    rfl
  | false =>
    have e2 : ∀ L : List (BS), decide (((rowsS L).length : Int) > 6) = !decide (L.length ≤ 6) := fun L => by
      rw [← decide_not]; exact decide_eq_decide.2 (by unfold rowsS; rw [List.length_map]; omega)
    rw [e2]
    generalize (s == []) = p1, (s.getD 0 0 == 47) = p2
    cases p1 <;> cases p2 <;> first
      | rfl
      | (show (bif !decide ((pcs (s.drop 1)).length ≤ 6) then _ else bif !((pcs (s.drop 1)).all nameOk) then _ else _) = _
         generalize (pcs (s.drop 1)).all nameOk = p3, decide ((pcs (s.drop 1)).length ≤ 6) = p4
         cases p3 <;> cases p4 <;> rfl)
def qo_t (a0 : BS) : Tr (LL × Bool) := (.ite ((qi_c a0) = true) (.ok ((qi_v a0).1, (qi_v a0).2))
  .no)
def qo_mk (p : LL × Bool) : Res := [(false, [⟨.slice 9, .own true, TC.l (p.1)⟩]), (false, [⟨.bool, .sh, TC.b (p.2)⟩])]
def qo_c (a0 : BS) : Bool := (qi_c a0)
def qo_v (a0 : BS) : LL × Bool := ((qi_v a0).1, (qi_v a0).2)
theorem qo_l (a0 : BS) : (qo_c a0) = true → (qo_t a0).val = some (qo_v a0) := by
  intro h
  have hc0 : (qi_c a0) = true := h
  unfold qo_t
  exact (Tr.t hc0 rfl)
def qo_S : List Arg → Option (Bool × Res) := fun xs => match xs with
  | [(false, [(.str, TC.s a0)])] => some ((qo_c a0), qo_mk (qo_v a0))
  | _ => .none
theorem qo_e (a0 : BS) : runF tab FT D13 live 10 noLoops [(false, [(.str, TC.s a0)])] = (qo_t a0).run fun p => some (qo_mk p) := by kernel_rfl
theorem qo_s : ∀ xs r, qo_S xs = some (true, r) → runF tab FT D13 live 10 noLoops xs = some r := by
  intro xs r h
  unfold qo_S at h
  split at h
  · obtain ⟨h1, rfl⟩ := sp h
    exact fun_told (qo_e _) (qo_l _) h1
  · cases h
def D14 : Dt := also D13 10 qo_S
theorem d14 : DOk Go.Proofs.Tryd.prog tab D14 := d13.also mixed_ok tab_ok names_ok noLoops_ok qo_s
abbrev qh_4_σ := LL × LL × Int
abbrev qh_4_ω := (Unit) ⊕ (Unit)
def qh_4_step (A C : LL) (i : Int) : Tr (qh_4_σ ⊕ qh_4_ω) := (.ite ((decide (i < (A.length : Int))) = true) (.ite ((0 : Int) ≤ i ∧ i < (A.length : Int)) (.ite ((0 : Int) ≤ i ∧ i < (C.length : Int)) (.ite ((!((nth (row A i) 0).str == (nth (row C i) 0).str)) = true) (.ok (.inr (.inl ())))
     (.ok (.inl (A, C, (IntKind.wrap .i64 (i + (1 : Int)))))))
    .no)
   .no)
  (.ok (.inr (.inr ()))))
def qh_4_st : qh_4_σ → Tr (qh_4_σ ⊕ qh_4_ω) := fun x => (qh_4_step (x.1) (x.2.1) (x.2.2))
def qh_o4_1 (A C : LL) (i : Int) : Bool := is (A = C ∧ i = 0 ∧ Typed tab (.slice 9) (.l A))
def qh_4_fin (A C : LL) (i : Int) : Told qh_4_ω := (.leaf (qh_o4_1 A C i) (.inr ()))
def qh_4_sl (x : qh_4_σ) : List Slot := [⟨.val false [⟨.slice 9, .sh, TC.l (x.1)⟩], ⟨0, 0⟩⟩, ⟨.val false [⟨.slice 9, .sh, TC.l (x.2.1)⟩], ⟨0, 0⟩⟩, ⟨.val false [⟨.int .i64, .sh, TC.i (x.2.2)⟩], ⟨0, 0⟩⟩]
def qh_4_out : qh_4_ω → Ex × List Slot := (Sum.elim (fun x => (.ret, [⟨.val false [⟨.bool, .sh, TC.b false⟩], ⟨0, 0⟩⟩])) (fun x => (.exit 0, [Slot.none])))
def qh_lo4 : List Slot → Option (Told (Ex × List Slot)) := fun s => match s with
  | [⟨.val false [⟨.slice 9, .sh, TC.l A⟩], ⟨0, 0⟩⟩, ⟨.val false [⟨.slice 9, .sh, TC.l C⟩], ⟨0, 0⟩⟩, ⟨.val false [⟨.int .i64, .sh, TC.i i⟩], ⟨0, 0⟩⟩] => some (((qh_4_fin A C i)).map qh_4_out)
  | _ => .none
def qh_lo : LoopTeller := fun r s => bif Nat.beq r 4 then qh_lo4 s else .none
theorem qh_4_r (A C : LL) (i : Int) (fuel : Nat) : rounds (rnd tab FT D14 live 11 qh_lo 0 4) leave (fuel + 1) (qh_4_sl (A, C, i)) = ((qh_4_step A C i)).run (goOn (fun s => rounds (rnd tab FT D14 live 11 qh_lo 0 4) leave fuel (qh_4_sl s)) fun w => some (qh_4_out w)) := by kernel_rfl
theorem qh_4_h (A C : LL) (i : Int) (ow : qh_4_ω) : ((qh_4_fin A C i)).val = some ow → ∃ fuel, loopN qh_4_st fuel (A, C, i) = some ow := by
  intro h
  simp only [qh_4_fin, Told.val] at h
  split at h
  · rename_i ho
    obtain ⟨rfl, rfl, ht⟩ := is_iff.1 ho
    cases h
    have hlen : A.length ≤ 140737488351232 := by have := typed_room ht; simp only [show (tab 9).bytes = 16 from rfl] at this; omega
    refine ⟨_, loopN_run (N := A.length) (fun i => (A, A, (i : Int))) (fun i hi => ?_) ?_ A.length 0 (by omega)⟩
    · have c0 : Typed tab (.str) (.s (nth (A.getD i []) 0).str) := typed_s (typed_cell ht (A.getD i []) (mem_getD hi) 0 (by decide))
      show (qh_4_step A A (i : Int)).val = _
      unfold qh_4_step
      refine Tr.t (by simp; omega) ?_
      refine Tr.t (by constructor <;> omega) ?_
      refine Tr.t (by constructor <;> omega) ?_
      refine Tr.n (by simp) ?_
      rw [Tr.val_ok, wrap64 (i := (i : Int) + 1) (by omega) (by omega)]; rfl
    · show (qh_4_step A A (A.length : Int)).val = _
      refine Tr.n (by simp) ?_
      rfl
  · cases h
theorem qh_is4 : LoopIs tab FT D14 live 11 qh_lo 0 4 := by
  refine loop_told (sl := qh_4_sl) (step := qh_4_st) (out := qh_4_out) (lor := qh_lo4) (fin := fun x => (qh_4_fin (x.1) (x.2.1) (x.2.2))) (fun _ => rfl) ?_ (fun x n => qh_4_r x.1 x.2.1 x.2.2 n) (fun x ow => qh_4_h x.1 x.2.1 x.2.2 ow)
  intro s t h
  unfold qh_lo4 at h
  split at h
  · cases h; exact ⟨(_, _, _), rfl, rfl⟩
  · cases h
def qh_t (A C : LL) : Tr (Bool) := (.ite ((!((A.length : Int) == (C.length : Int))) = true) (.ok false)
  (.ite ((qh_o4_1 A C (0 : Int)) = true) (.ok true)
   .no))
def qh_mk (p : Bool) : Res := [(false, [⟨.bool, .sh, TC.b p⟩])]
def qh_c (A C : LL) : Bool := is (A = C ∧ Typed tab (.slice 9) (.l A))
def qh_v (A C : LL) : Bool := true
theorem qh_l (A C : LL) : (qh_c A C) = true → (qh_t A C).val = some (qh_v A C) := by
  intro h
  obtain ⟨rfl, ht⟩ := is_iff.1 h
  unfold qh_t
  refine Tr.n (by simp) ?_
  refine Tr.t (by first | (apply is_true; and_intros <;> (first | rfl | assumption | (apply qe_cc <;> assumption) | (apply qb_cc <;> assumption) | (apply qf_cc <;> assumption) | (first | (apply is_true; and_intros <;> (first | rfl | assumption | (apply qe_cc <;> assumption) | (apply qb_cc <;> assumption) | (apply qf_cc <;> assumption) | (first | (apply is_true; and_intros <;> (first | rfl | assumption | (apply qe_cc <;> assumption) | (apply qb_cc <;> assumption) | (apply qf_cc <;> assumption) | (first | (apply is_true; and_intros <;> (first | rfl | assumption | (apply qe_cc <;> assumption) | (apply qb_cc <;> assumption) | (apply qf_cc <;> assumption))) | (apply qe_cc <;> assumption) | (apply qb_cc <;> assumption) | (apply qf_cc <;> assumption)))) | (apply qe_cc <;> assumption) | (apply qb_cc <;> assumption) | (apply qf_cc <;> assumption)))) | (apply qe_cc <;> assumption) | (apply qb_cc <;> assumption) | (apply qf_cc <;> assumption)))) | (apply qe_cc <;> assumption) | (apply qb_cc <;> assumption) | (apply qf_cc <;> assumption)) ?_
  rfl
def qh_S : List Arg → Option (Bool × Res) := fun xs => match xs with
  | [(false, [(.slice 9, TC.l A)]), (false, [(.slice 9, TC.l C)])] => some ((qh_c A C), qh_mk (qh_v A C))
  | _ => .none
theorem qh_e (A C : LL) : runF tab FT D14 live 11 qh_lo [(false, [(.slice 9, TC.l A)]), (false, [(.slice 9, TC.l C)])] = (qh_t A C).run fun p => some (qh_mk p) := by kernel_rfl
theorem qh_s : ∀ xs r, qh_S xs = some (true, r) → runF tab FT D14 live 11 qh_lo xs = some r := by
  intro xs r h
  unfold qh_S at h
  split at h
  · obtain ⟨h1, rfl⟩ := sp h
    exact fun_told (qh_e ..) (qh_l _ _) h1
  · cases h
def D15 : Dt := also D14 11 qh_S
theorem d15 : DOk Go.Proofs.Tryd.prog tab D15 := d14.also mixed_ok tab_ok names_ok (fnLoops_one (by kernel_rfl) qh_is4) qh_s
abbrev qg_4_σ := Int × BS
abbrev qg_4_ω := (BS)
def qg_4_step (k : Int) (s : BS) : Tr (qg_4_σ ⊕ qg_4_ω) := (.ite ((decide (k > (0 : Int))) = true) (.ite (((([[TC.i (IntKind.wrap .u8 (IntKind.wrap .i64 ((48 : Int) + (Int.tmod k (10 : Int)))))]].map byteOf).length + s.length : Nat) : Int) ≤ 9223372036854775807) (.ok (.inl ((IntKind.wrap .i64 (Int.tdiv k (10 : Int))), (([[TC.i (IntKind.wrap .u8 (IntKind.wrap .i64 ((48 : Int) + (Int.tmod k (10 : Int)))))]].map byteOf) ++ s))))
   .no)
  (.ok (.inr s)))
def qg_4_st : qg_4_σ → Tr (qg_4_σ ⊕ qg_4_ω) := fun x => (qg_4_step (x.1) (x.2))
def qg_o4_1 (k : Int) (s : BS) : Bool := is (0 ≤ k ∧ k ≤ 4611686018427387904 ∧ s.length ≤ 16)
def qg_u4_1 (k : Int) (s : BS) : BS := digitsF digT 19 k s
def qg_4_fin (k : Int) (s : BS) : Told qg_4_ω := (.leaf (qg_o4_1 k s) (qg_u4_1 k s))
def qg_4_sl (x : qg_4_σ) : List Slot := [⟨.val false [⟨.int .i64, .sh, TC.i (x.1)⟩], ⟨0, 0⟩⟩, ⟨.val false [⟨.str, .sh, TC.s (x.2)⟩], ⟨0, 0⟩⟩]
def qg_4_out : qg_4_ω → Ex × List Slot := (fun x => (.exit 0, [Slot.none, ⟨.val false [⟨.str, .sh, TC.s x⟩], ⟨0, 0⟩⟩]))
def qg_lo4 : List Slot → Option (Told (Ex × List Slot)) := fun s => match s with
  | [⟨.val false [⟨.int .i64, .sh, TC.i k⟩], ⟨0, 0⟩⟩, ⟨.val false [⟨.str, .sh, TC.s s⟩], ⟨0, 0⟩⟩] => some (((qg_4_fin k s)).map qg_4_out)
  | _ => .none
def qg_lo : LoopTeller := fun r s => bif Nat.beq r 4 then qg_lo4 s else .none
theorem qg_4_r (k : Int) (s : BS) (fuel : Nat) : rounds (rnd tab FT D15 live 26 qg_lo 0 4) leave (fuel + 1) (qg_4_sl (k, s)) = ((qg_4_step k s)).run (goOn (fun s => rounds (rnd tab FT D15 live 26 qg_lo 0 4) leave fuel (qg_4_sl s)) fun w => some (qg_4_out w)) := by kernel_rfl
theorem qg_4_h (k : Int) (s : BS) (ow : qg_4_ω) : ((qg_4_fin k s)).val = some ow → ∃ fuel, loopN qg_4_st fuel (k, s) = some ow := by
  intro h
  refine auto_leaf (R := digitsF digT 19 k s) (fun ho => ?_) h
  obtain ⟨h0, h1, h2⟩ := is_iff.1 ho
  refine ⟨20, loopN_digits (step := qg_4_st) digT digT_len (fun k s => (k, s)) (fun s => s) 4611686018427387904 (fun k s h0 h1 h2 => ?_) (fun k s h0 => ?_) 19 k s (by have : (10 : Int) ^ 19 = 10000000000000000000 := rfl; omega) h1 (by omega)⟩
  · show (qg_4_step k s).val = _
    unfold qg_4_step
    refine Tr.t (by simpa using h0) ?_
    refine Tr.t (by simp only [List.length_map, List.length_singleton]; omega) ?_
    rw [Tr.val_ok, tdiv10 (by omega) (by omega)]
    rfl
  · show (qg_4_step k s).val = _
    unfold qg_4_step
    refine Tr.n (by simpa using h0) ?_
    rfl
theorem qg_is4 : LoopIs tab FT D15 live 26 qg_lo 0 4 := by
  refine loop_told (sl := qg_4_sl) (step := qg_4_st) (out := qg_4_out) (lor := qg_lo4) (fin := fun x => (qg_4_fin (x.1) (x.2))) (fun _ => rfl) ?_ (fun x n => qg_4_r x.1 x.2 n) (fun x ow => qg_4_h x.1 x.2 ow)
  intro s t h
  unfold qg_lo4 at h
  split at h
  · cases h; exact ⟨(_, _), rfl, rfl⟩
  · cases h
def qg_t (k : Int) : Tr (BS) := (.ite ((decide (k ≤ (0 : Int))) = true) (.ok ([109, 48]))
  (.ite ((qg_o4_1 k []) = true) (.ite ((([109].length + (qg_u4_1 k []).length : Nat) : Int) ≤ 9223372036854775807) (.ok ([109] ++ (qg_u4_1 k [])))
    .no)
   .no))
def qg_mk (p : BS) : Res := [(false, [⟨.str, .sh, TC.s p⟩])]
def qg_c (k : Int) : Bool := (bif (decide (k ≤ (0 : Int))) then true else ((qg_o4_1 k []) && (is ((([109].length + (qg_u4_1 k []).length : Nat) : Int) ≤ 9223372036854775807) && true)))
def qg_v (k : Int) : BS := hid ((bif (decide (k ≤ (0 : Int))) then [109, 48] else ([109] ++ (qg_u4_1 k []))))
theorem qg_l (k : Int) : (qg_c k) = true → (qg_t k).val = some (qg_v k) := by
  unfold qg_t qg_v qg_c
  rw [hid_eq]
  exact fun h => (Tr.ss h (fun h => rfl) (fun h => (Tr.gb h fun h => (Tr.gs h fun h => rfl))))
def qg_S : List Arg → Option (Bool × Res) := fun xs => match xs with
  | [(false, [(.int .i64, TC.i k)])] => some ((qg_c k), qg_mk (qg_v k))
  | _ => .none
theorem qg_e (k : Int) : runF tab FT D15 live 26 qg_lo [(false, [(.int .i64, TC.i k)])] = (qg_t k).run fun p => some (qg_mk p) := by kernel_rfl
theorem qg_s : ∀ xs r, qg_S xs = some (true, r) → runF tab FT D15 live 26 qg_lo xs = some r := by
  intro xs r h
  unfold qg_S at h
  split at h
  · obtain ⟨h1, rfl⟩ := sp h
    exact fun_told (qg_e _) (qg_l _) h1
  · cases h
def D16 : Dt := also D15 26 qg_S
theorem d16 : DOk Go.Proofs.Tryd.prog tab D16 := d15.also mixed_ok tab_ok names_ok (fnLoops_one (by kernel_rfl) qg_is4) qg_s
theorem qg_cc {k : Int} (h0 : 0 ≤ k) (h1 : k ≤ 4611686018427387904) : (qg_c k) = true := by
  unfold qg_c
  refine bifT (fun b1 => ?_) (fun b1 => ?_)
  · skip
    rfl
  · skip
    refine andT (by exact is_true ⟨h0, h1, by decide⟩) ?_
    refine andT (is_true (by have := digitsF_len digT_len 19 k []; simp only [qg_u4_1, List.length_cons, List.length_nil] at *; omega)) ?_
    rfl
def mkR_9 (k : Int) : List TC := [TC.s (qg_v k)]
def mkL_9 (k : Int) (n : Nat) : LL := madeL (fun i => mkR_9 (k + 1 * (i : Int))) n
theorem mkL_9_length {k : Int} {n : Nat} : (mkL_9 k n).length = n := madeL_length
abbrev qc_2_σ := Int × Int × LL
abbrev qc_2_ω := (Int × LL)
def qc_2_step (k i : Int) (A : LL) : Tr (qc_2_σ ⊕ qc_2_ω) := (.ite ((decide (i < (A.length : Int))) = true) (.ite ((qg_c k) = true) (.ite ((0 : Int) ≤ i ∧ i < (A.length : Int)) (.ok (.inl ((IntKind.wrap .i64 (k + (1 : Int))), (IntKind.wrap .i64 (i + (1 : Int))), (A.set (i).toNat (splice (row A i) 0 [TC.s (qg_v k)])))))
    .no)
   .no)
  (.ok (.inr (k, A))))
def qc_2_st : qc_2_σ → Tr (qc_2_σ ⊕ qc_2_ω) := fun x => (qc_2_step (x.1) (x.2.1) (x.2.2))
def qc_o2_1 (k i : Int) (A : LL) : Bool := is ((∀ x, x ∈ A → x.length = 1) ∧ A.length ≤ 140737488351232 ∧ 0 ≤ k ∧ k ≤ 2305843009213693952 ∧ i = 0)
def qc_u2_1_0 (k i : Int) (A : LL) : Int := k + 1 * (A.length : Int)
def qc_u2_1_1 (k i : Int) (A : LL) : LL := mkL_9 k A.length
def qc_2_fin (k i : Int) (A : LL) : Told qc_2_ω := (.leaf (qc_o2_1 k i A) ((qc_u2_1_0 k i A), (qc_u2_1_1 k i A)))
def qc_2_sl (x : qc_2_σ) : List Slot := [⟨.gal false 0 1, ⟨0, 0⟩⟩, ⟨.val false [⟨.int .i64, .sh, TC.i (x.1)⟩], ⟨0, 0⟩⟩, ⟨.val false [⟨.int .i64, .sh, TC.i (x.2.1)⟩], ⟨0, 0⟩⟩, ⟨.gv [⟨.slice 9, .own true, TC.l (x.2.2)⟩], ⟨0, 0⟩⟩]
def qc_2_out : qc_2_ω → Ex × List Slot := (fun x => (.exit 0, [⟨.val false [⟨.int .i64, .sh, TC.i (x.1)⟩], ⟨0, 0⟩⟩, Slot.none, ⟨.gv [⟨.slice 9, .own true, TC.l (x.2)⟩], ⟨0, 0⟩⟩]))
def qc_lo2 : List Slot → Option (Told (Ex × List Slot)) := fun s => match s with
  | [⟨.gal false 0 1, ⟨0, 0⟩⟩, ⟨.val false [⟨.int .i64, .sh, TC.i k⟩], ⟨0, 0⟩⟩, ⟨.val false [⟨.int .i64, .sh, TC.i i⟩], ⟨0, 0⟩⟩, ⟨.gv [⟨.slice 9, .own true, TC.l A⟩], ⟨0, 0⟩⟩] => some (((qc_2_fin k i A)).map qc_2_out)
  | _ => .none
def qc_lo : LoopTeller := fun r s => bif Nat.beq r 2 then qc_lo2 s else .none
theorem qc_2_r (k i : Int) (A : LL) (fuel : Nat) : rounds (rnd tab FT D16 live 12 qc_lo 0 2) leave (fuel + 1) (qc_2_sl (k, i, A)) = ((qc_2_step k i A)).run (goOn (fun s => rounds (rnd tab FT D16 live 12 qc_lo 0 2) leave fuel (qc_2_sl s)) fun w => some (qc_2_out w)) := by kernel_rfl
theorem qc_2_h (k i : Int) (A : LL) (ow : qc_2_ω) : ((qc_2_fin k i A)).val = some ow → ∃ fuel, loopN qc_2_st fuel (k, i, A) = some ow := by
  intro h
  refine auto_leaf (R := (k + 1 * (A.length : Int), mkL_9 k A.length)) (fun ho => ?_) h
  obtain ⟨hr, hl, h0, h1, rfl⟩ := is_iff.1 ho
  have key := loopN_over (step := qc_2_st) A 1 (fun i => mkR_9 (k + 1 * (i : Int))) (fun Y i => (k + 1 * (i : Int), (i : Int), Y)) (k + 1 * (A.length : Int), mkL_9 k A.length) hr (fun _ => rfl) (fun Y i hi hY hy => ?_) ?_ A.length 0 (by omega)
  · exact ⟨A.length + 1, Eq.trans (congrArg (loopN qc_2_st (A.length + 1)) (by simp [madeL])) key⟩
  · obtain ⟨kk, hkk⟩ : ∃ kk : Int, kk = k + 1 * (i : Int) := ⟨_, rfl⟩
    have hk0 : 0 ≤ kk := by omega
    have hk1 : kk + 1 ≤ 4611686018427387904 := by omega
    have hy : ∃ y0, row Y (i : Int) = [y0] := len_1 hy
    obtain ⟨y0, hy⟩ := hy
    have hiY : i < Y.length := by omega
    show (qc_2_step (k + 1 * (i : Int)) (i : Int) Y).val = _
    rw [← hkk]
    unfold qc_2_step
    rw [wrap64 (i := kk + 1) (by omega) (by omega)]
    try rw [wrap64 (i := kk) (by omega) (by omega)]
    refine Tr.t (by simp; omega) ?_
    refine Tr.t (qg_cc (by omega) (by omega)) ?_
    refine Tr.t (by constructor <;> (try simp only [List.length_set]) <;> omega) ?_
    rw [Tr.val_ok, wrap64 (i := (i : Int) + 1) (by omega) (by omega)]
    simp only [Int.toNat_natCast, hy, row_set, List.length_set, hiY, List.set_set]
    show some (Sum.inl (_, _, _)) = some (Sum.inl (_, _, _))
    rw [show k + 1 * ((i + 1 : Nat) : Int) = kk + 1 from by omega]
    rfl
  · show (qc_2_step (k + 1 * (A.length : Int)) (A.length : Int) (mkL_9 k A.length)).val = _
    unfold qc_2_step
    refine Tr.n (by simp [mkL_9_length]) ?_
    rfl
theorem qc_is2 : LoopIs tab FT D16 live 12 qc_lo 0 2 := by
  refine loop_told (sl := qc_2_sl) (step := qc_2_st) (out := qc_2_out) (lor := qc_lo2) (fin := fun x => (qc_2_fin (x.1) (x.2.1) (x.2.2))) (fun _ => rfl) ?_ (fun x n => qc_2_r x.1 x.2.1 x.2.2 n) (fun x ow => qc_2_h x.1 x.2.1 x.2.2 ow)
  intro s t h
  unfold qc_lo2 at h
  split at h
  · cases h; exact ⟨(_, _, _), rfl, rfl⟩
  · cases h
def qc_t (A : LL) (k : Int) : Tr (LL × Int) := (.ite ((qc_o2_1 k (0 : Int) A) = true) (.ok ((qc_u2_1_1 k (0 : Int) A), (qc_u2_1_0 k (0 : Int) A)))
  .no)
def qc_mk (p : LL × Int) : Res := [(true, [⟨.slice 9, .own true, TC.l (p.1)⟩]), (false, [⟨.int .i64, .sh, TC.i (p.2)⟩])]
def qc_c (A : LL) (k : Int) : Bool := is ((∀ x, x ∈ A → x.length = 1) ∧ A.length ≤ 140737488351232 ∧ 0 ≤ k ∧ k ≤ 2305843009213693952)
def qc_v (A : LL) (k : Int) : LL × Int := (mkL_9 k A.length, k + 1 * (A.length : Int))
theorem qc_l (A : LL) (k : Int) : (qc_c A k) = true → (qc_t A k).val = some (qc_v A k) := by
  intro h
  obtain ⟨hr, hl, h0, h1⟩ := is_iff.1 h
  unfold qc_t
  exact Tr.t (is_true ⟨hr, hl, h0, h1, rfl⟩) rfl
def qc_S : List Arg → Option (Bool × Res) := fun xs => match xs with
  | [(false, [(.slice 9, TC.l A)]), (false, [(.int .i64, TC.i k)])] => some ((qc_c A k), qc_mk (qc_v A k))
  | _ => .none
theorem qc_e (A : LL) (k : Int) : runFW false tab FT D16 live 12 qc_lo (false, [(.slice 9, TC.l A)]) [(false, [(.int .i64, TC.i k)])] = (qc_t A k).run fun p => some (qc_mk p) := by kernel_rfl
theorem qc_s0 : ∀ ys r, qc_S ys = some (true, r) → ∀ a0 xs, ys = a0 :: xs → runFW false tab FT D16 live 12 qc_lo a0 xs = some r := by
  intro ys r h
  unfold qc_S at h
  split at h
  · obtain ⟨h1, rfl⟩ := sp h
    intro a0 xs e
    cases e
    exact fun_toldW (qc_e ..) (qc_l _ _) h1
  · cases h
theorem qc_s : ∀ a0 xs r, qc_S (a0 :: xs) = some (true, r) → runFW false tab FT D16 live 12 qc_lo a0 xs = some r := fun a0 xs r h => qc_s0 _ r h a0 xs rfl
def D17 : Dt := alsoW D16 12 qc_S
theorem d17 : DOk Go.Proofs.Tryd.prog tab D17 := d16.alsoW mixed_ok tab_ok names_ok (fnLoops_one (by kernel_rfl) qc_is2) qc_s
theorem qc_cc {A : LL} {k : Int} (ht : Typed tab (.slice 9) (.l A)) (hl : A.length ≤ 140737488351232) (h0 : 0 ≤ k) (h1 : k ≤ 2305843009213693952) : qc_c A k = true := is_true ⟨typed_rows ht rfl, hl, h0, h1⟩
theorem qc_v2 {A : LL} {k : Int} : (qc_v A k).2 = k + 1 * (A.length : Int) := rfl
abbrev qd_2_σ := LL × Int × Int
abbrev qd_2_ω := (Int) ⊕ (Int)
def qd_2_step (A : LL) (k i : Int) : Tr (qd_2_σ ⊕ qd_2_ω) := (.ite ((decide (i < (A.length : Int))) = true) (.ite ((0 : Int) ≤ i ∧ i < (A.length : Int)) (.ite ((qg_c k) = true) (.ite ((!((nth (row A i) 0).str == (qg_v k))) = true) (.ok (.inr (.inl k)))
     (.ok (.inl (A, (IntKind.wrap .i64 (k + (1 : Int))), (IntKind.wrap .i64 (i + (1 : Int)))))))
    .no)
   .no)
  (.ok (.inr (.inr k))))
def qd_2_st : qd_2_σ → Tr (qd_2_σ ⊕ qd_2_ω) := fun x => (qd_2_step (x.1) (x.2.1) (x.2.2))
def qd_o2_1 (A : LL) (k i : Int) : Bool := is (A = mkL_9 k A.length ∧ A.length ≤ 140737488351232 ∧ 0 ≤ k ∧ k ≤ 2305843009213693952 ∧ i = 0)
def qd_u2_1 (A : LL) (k i : Int) : Int := k + 1 * (A.length : Int)
def qd_2_fin (A : LL) (k i : Int) : Told qd_2_ω := (.leaf (qd_o2_1 A k i) (.inr (qd_u2_1 A k i)))
def qd_2_sl (x : qd_2_σ) : List Slot := [⟨.val false [⟨.slice 9, .sh, TC.l (x.1)⟩], ⟨0, 0⟩⟩, ⟨.val false [⟨.int .i64, .sh, TC.i (x.2.1)⟩], ⟨0, 0⟩⟩, ⟨.val false [⟨.int .i64, .sh, TC.i (x.2.2)⟩], ⟨0, 0⟩⟩]
def qd_2_out : qd_2_ω → Ex × List Slot := (Sum.elim (fun x => (.ret, [⟨.val false [⟨.int .i64, .sh, TC.i x⟩], ⟨0, 0⟩⟩, ⟨.val false [⟨.int .i64, .sh, TC.i (-1 : Int)⟩], ⟨0, 0⟩⟩])) (fun x => (.exit 0, [⟨.val false [⟨.int .i64, .sh, TC.i x⟩], ⟨0, 0⟩⟩, Slot.none])))
def qd_lo2 : List Slot → Option (Told (Ex × List Slot)) := fun s => match s with
  | [⟨.val false [⟨.slice 9, .sh, TC.l A⟩], ⟨0, 0⟩⟩, ⟨.val false [⟨.int .i64, .sh, TC.i k⟩], ⟨0, 0⟩⟩, ⟨.val false [⟨.int .i64, .sh, TC.i i⟩], ⟨0, 0⟩⟩] => some (((qd_2_fin A k i)).map qd_2_out)
  | _ => .none
def qd_lo : LoopTeller := fun r s => bif Nat.beq r 2 then qd_lo2 s else .none
theorem qd_2_r (A : LL) (k i : Int) (fuel : Nat) : rounds (rnd tab FT D17 live 13 qd_lo 0 2) leave (fuel + 1) (qd_2_sl (A, k, i)) = ((qd_2_step A k i)).run (goOn (fun s => rounds (rnd tab FT D17 live 13 qd_lo 0 2) leave fuel (qd_2_sl s)) fun w => some (qd_2_out w)) := by kernel_rfl
theorem qd_2_h (A : LL) (k i : Int) (ow : qd_2_ω) : ((qd_2_fin A k i)).val = some ow → ∃ fuel, loopN qd_2_st fuel (A, k, i) = some ow := by
  intro h
  refine auto_leaf (R := Sum.inr (k + 1 * (A.length : Int))) (fun ho => ?_) h
  obtain ⟨hA, hl, h0, h1, rfl⟩ := is_iff.1 ho
  have key := loopN_run (step := qd_2_st) (N := A.length) (w := Sum.inr (k + 1 * (A.length : Int))) (fun i => (A, k + 1 * (i : Int), (i : Int))) (fun i hi => ?_) ?_ A.length 0 (by omega)
  · exact ⟨A.length + 1, Eq.trans (congrArg (loopN qd_2_st (A.length + 1)) (by simp)) key⟩
  · obtain ⟨kk, hkk⟩ : ∃ kk : Int, kk = k + 1 * (i : Int) := ⟨_, rfl⟩
    have hk0 : 0 ≤ kk := by omega
    have hk1 : kk + 1 ≤ 4611686018427387904 := by omega
    have hrow : row A (i : Int) = mkR_9 kk := by
      rw [hA]
      unfold mkL_9
      rw [row_madeL hi, hkk]
    show (qd_2_step A (k + 1 * (i : Int)) (i : Int)).val = _
    rw [← hkk]
    unfold qd_2_step
    rw [hrow]
    rw [wrap64 (i := kk + 1) (by omega) (by omega)]
    try rw [wrap64 (i := kk) (by omega) (by omega)]
    refine Tr.t (by simp; omega) ?_
    refine Tr.t (by constructor <;> omega) ?_
    refine Tr.t (qg_cc (by omega) (by omega)) ?_
    refine Tr.n (by simp [nth, mkR_9, TC.str, TC.int, TC.bool]) ?_
    rw [Tr.val_ok, wrap64 (i := (i : Int) + 1) (by omega) (by omega)]
    show some (Sum.inl (_, _, _)) = some (Sum.inl (_, _, _))
    rw [show k + 1 * ((i + 1 : Nat) : Int) = kk + 1 from by omega]
    rfl
  · show (qd_2_step A (k + 1 * (A.length : Int)) (A.length : Int)).val = _
    unfold qd_2_step
    refine Tr.n (by simp) ?_
    rfl
theorem qd_is2 : LoopIs tab FT D17 live 13 qd_lo 0 2 := by
  refine loop_told (sl := qd_2_sl) (step := qd_2_st) (out := qd_2_out) (lor := qd_lo2) (fin := fun x => (qd_2_fin (x.1) (x.2.1) (x.2.2))) (fun _ => rfl) ?_ (fun x n => qd_2_r x.1 x.2.1 x.2.2 n) (fun x ow => qd_2_h x.1 x.2.1 x.2.2 ow)
  intro s t h
  unfold qd_lo2 at h
  split at h
  · cases h; exact ⟨(_, _, _), rfl, rfl⟩
  · cases h
def qd_t (A : LL) (k : Int) : Tr (Int) := (.ite ((qd_o2_1 A k (0 : Int)) = true) (.ok (qd_u2_1 A k (0 : Int)))
  .no)
def qd_mk (p : Int) : Res := [(false, [⟨.int .i64, .sh, TC.i p⟩])]
def qd_c (A : LL) (k : Int) : Bool := is (A = mkL_9 k A.length ∧ A.length ≤ 140737488351232 ∧ 0 ≤ k ∧ k ≤ 2305843009213693952)
def qd_v (A : LL) (k : Int) : Int := k + 1 * (A.length : Int)
theorem qd_l (A : LL) (k : Int) : (qd_c A k) = true → (qd_t A k).val = some (qd_v A k) := by
  intro h
  obtain ⟨hr, hl, h0, h1⟩ := is_iff.1 h
  unfold qd_t
  exact Tr.t (is_true ⟨hr, hl, h0, h1, rfl⟩) rfl
def qd_S : List Arg → Option (Bool × Res) := fun xs => match xs with
  | [(false, [(.slice 9, TC.l A)]), (false, [(.int .i64, TC.i k)])] => some ((qd_c A k), qd_mk (qd_v A k))
  | _ => .none
theorem qd_e (A : LL) (k : Int) : runF tab FT D17 live 13 qd_lo [(false, [(.slice 9, TC.l A)]), (false, [(.int .i64, TC.i k)])] = (qd_t A k).run fun p => some (qd_mk p) := by kernel_rfl
theorem qd_s : ∀ xs r, qd_S xs = some (true, r) → runF tab FT D17 live 13 qd_lo xs = some r := by
  intro xs r h
  unfold qd_S at h
  split at h
  · obtain ⟨h1, rfl⟩ := sp h
    exact fun_told (qd_e ..) (qd_l _ _) h1
  · cases h
def D18 : Dt := also D17 13 qd_S
theorem d18 : DOk Go.Proofs.Tryd.prog tab D18 := d17.also mixed_ok tab_ok names_ok (fnLoops_one (by kernel_rfl) qd_is2) qd_s
theorem qd_cc {A : LL} {k : Int} (hl : A.length ≤ 140737488351232) (h0 : 0 ≤ k) (h1 : k ≤ 2305843009213693952) : qd_c (qc_v A k).1 k = true := is_true ⟨by show mkL_9 k A.length = mkL_9 k (mkL_9 k A.length).length; rw [mkL_9_length], by show (mkL_9 k A.length).length ≤ _; rw [mkL_9_length]; exact hl, h0, h1⟩
theorem qd_vm {A : LL} {k : Int} : qd_v (qc_v A k).1 k = (qc_v A k).2 := by
  show k + 1 * ((mkL_9 k A.length).length : Int) = k + 1 * (A.length : Int)
  rw [mkL_9_length]
def laws_FnExactSplitPath_t (x0 : BS) : Tr Bool := (.ite ((decide ((x0.length : Int) > (1048576 : Int))) = true) (.ok true)
  (.ite ((qp_c x0) = true) (.ite ((qo_c x0) = true) (.ite ((qh_c ((qo_v x0).1) ((qp_v x0).1)) = true) (.ite ((!(qh_v ((qo_v x0).1) ((qp_v x0).1))) = true) (.ok false)
      (.ite ((!((qo_v x0).2 == (qp_v x0).2)) = true) (.ok false)
       (.ite ((qc_c ((qo_v x0).1) (1 : Int)) = true) (.ite ((qd_c ((qc_v ((qo_v x0).1) (1 : Int)).1) (1 : Int)) = true) (.ite ((decide ((qd_v ((qc_v ((qo_v x0).1) (1 : Int)).1) (1 : Int)) < (0 : Int))) = true) (.ok false)
          (.ite ((!((qd_v ((qc_v ((qo_v x0).1) (1 : Int)).1) (1 : Int)) == (qc_v ((qo_v x0).1) (1 : Int)).2)) = true) (.ok false)
           (.ite ((qo_c x0) = true) (.ite ((qh_c ((qo_v x0).1) ((qp_v x0).1)) = true) (.ite ((!(qh_v ((qo_v x0).1) ((qp_v x0).1))) = true) (.ok false)
              (.ite ((!((qo_v x0).2 == (qp_v x0).2)) = true) (.ok false)
               (.ite ((qd_c ((qc_v ((qo_v x0).1) (1 : Int)).1) (1 : Int)) = true) (.ite ((decide ((qd_v ((qc_v ((qo_v x0).1) (1 : Int)).1) (1 : Int)) < (0 : Int))) = true) (.ok false)
                 (.ite ((!((qd_v ((qc_v ((qo_v x0).1) (1 : Int)).1) (1 : Int)) == (qc_v ((qo_v x0).1) (1 : Int)).2)) = true) (.ok false)
                  (.ok true)))
                .no)))
             .no)
            .no)))
         .no)
        .no)))
     .no)
    .no)
   .no))
theorem laws_FnExactSplitPath_e (x0 : BS) : runF tab FT D18 live 4 noLoops [(false, [(.str, TC.s x0)])] = (laws_FnExactSplitPath_t x0).run fun p => some [(false, [⟨.bool, .sh, .b p⟩])] := by kernel_rfl
theorem sp_i (s : BS) : qo_v s = (pathV s, pathB s) := by unfold qo_v; rw [qi_vv]
theorem sp_s (s : BS) : qp_v s = (pathV s, pathB s) := by unfold qp_v; rw [qb_vv]
theorem pathV_ty {s : BS} (hs : s.length ≤ 1048576) : Typed tab (.slice 9) (.l (pathV s)) := by
  unfold pathV
  cases pathB s && !(s == [47]) with
  | true => exact pcs_typed (by rw [List.length_drop]; omega)
  | false => exact .slice _ _ (by simp) (by simp) (fun _ h => by cases h) (fun _ h => by cases h)
theorem pathV_len {s : BS} (hs : s.length ≤ 1048576) : (pathV s).length ≤ 1048577 := by
  have := typed_room (pathV_ty hs)
  unfold pathV
  cases pathB s && !(s == [47]) with
  | true =>
    have := (pcs_len (s.drop 1)).1
    rw [List.length_drop] at this
    show (rowsS (pcs (s.drop 1))).length ≤ _
    unfold rowsS
    rw [List.length_map]
    omega
  | false => exact Nat.zero_le _
theorem laws_FnExactSplitPath_p (x0 : BS) (h0 : Typed tab (.str) (.s x0)) : (laws_FnExactSplitPath_t x0).val = some true := by
  unfold laws_FnExactSplitPath_t
  refine Tr.yk (fun hk0 => ?_)
  refine Tr.t (by exact qb_cc (by simp at hk0; omega)) ?_
  refine Tr.t (by exact qi_cc (by simp at hk0; omega)) ?_
  refine Tr.t (by rw [sp_i, sp_s]; exact is_true ⟨rfl, pathV_ty (by simp at hk0; omega)⟩) ?_
  refine Tr.n (by first | (rw [sp_i, sp_s]; first | (simp; done) | (simp [qh_v]; done)) | (rw [qd_vm]; first | (simp; done) | (rw [qc_v2]; simp; omega))) ?_
  refine Tr.n (by first | (rw [sp_i, sp_s]; first | (simp; done) | (simp [qh_v]; done)) | (rw [qd_vm]; first | (simp; done) | (rw [qc_v2]; simp; omega))) ?_
  refine Tr.t (by rw [sp_i]; exact qc_cc (pathV_ty (by simp at hk0; omega)) (by have := pathV_len (s := x0) (by simp at hk0; omega); show (pathV x0).length ≤ _; omega) (by decide) (by decide)) ?_
  refine Tr.t (by rw [sp_i]; exact qd_cc (by have := pathV_len (s := x0) (by simp at hk0; omega); show (pathV x0).length ≤ _; omega) (by decide) (by decide)) ?_
  refine Tr.n (by first | (rw [sp_i, sp_s]; first | (simp; done) | (simp [qh_v]; done)) | (rw [qd_vm]; first | (simp; done) | (rw [qc_v2]; simp; omega))) ?_
  refine Tr.n (by first | (rw [sp_i, sp_s]; first | (simp; done) | (simp [qh_v]; done)) | (rw [qd_vm]; first | (simp; done) | (rw [qc_v2]; simp; omega))) ?_
  refine Tr.t (by exact qi_cc (by simp at hk0; omega)) ?_
  refine Tr.t (by rw [sp_i, sp_s]; exact is_true ⟨rfl, pathV_ty (by simp at hk0; omega)⟩) ?_
  refine Tr.n (by first | (rw [sp_i, sp_s]; first | (simp; done) | (simp [qh_v]; done)) | (rw [qd_vm]; first | (simp; done) | (rw [qc_v2]; simp; omega))) ?_
  refine Tr.n (by first | (rw [sp_i, sp_s]; first | (simp; done) | (simp [qh_v]; done)) | (rw [qd_vm]; first | (simp; done) | (rw [qc_v2]; simp; omega))) ?_
  refine Tr.t (by rw [sp_i]; exact qd_cc (by have := pathV_len (s := x0) (by simp at hk0; omega); show (pathV x0).length ≤ _; omega) (by decide) (by decide)) ?_
  refine Tr.n (by first | (rw [sp_i, sp_s]; first | (simp; done) | (simp [qh_v]; done)) | (rw [qd_vm]; first | (simp; done) | (rw [qc_v2]; simp; omega))) ?_
  refine Tr.n (by first | (rw [sp_i, sp_s]; first | (simp; done) | (simp [qh_v]; done)) | (rw [qd_vm]; first | (simp; done) | (rw [qc_v2]; simp; omega))) ?_
  rfl
theorem laws_FnExactSplitPath_pure : ∀ xs, ArgsTyped tab [9] xs → runF tab FT D18 live 4 noLoops xs = yes := by
  intro xs h
  cases h with | cons l0 g0 h =>
  obtain ⟨z0_0, rfl⟩ := len_1 l0
  have q0 := g0 0 (by decide)
  have q0 : Typed tab (.str) z0_0 := q0
  obtain ⟨y0, rfl⟩ := typed_str q0
  cases h
  refine (laws_FnExactSplitPath_e y0).trans ?_
  rw [Tr.run_eq, laws_FnExactSplitPath_p y0 q0]
  rfl
end
end Go.Proofs.YthhmamgpcojooaaDoor.V
