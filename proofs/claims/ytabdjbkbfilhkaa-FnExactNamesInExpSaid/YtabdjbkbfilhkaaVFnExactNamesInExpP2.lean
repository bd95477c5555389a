/- What the functions of FnExactNamesInExp answer. No condition. -/
import Derived.Test.YtabdjbkbfilhkaaVFnExactNamesInExpP1
namespace Go.Proofs.Ytabdjbkbfilhkaa.V
open Go
set_option maxRecDepth 100000
set_option linter.unusedVariables false
set_option linter.unusedSectionVars false
set_option linter.unusedSimpArgs false
set_option maxHeartbeats 2000000
noncomputable section
section
variable [i_laws_szExp : qq_O]
variable [g_laws_szExp : qq_G]
section
variable [i_laws_toExp : qc_O]
variable [g_laws_toExp : qc_G]
section
variable [i_spec_l25Size : qh_O]
variable [g_spec_l25Size : qh_G]
section
variable [i_spec_l25Names : qg_O]
variable [g_spec_l25Names : qg_G]
theorem qb_2_h (A : LL) (s : BS) (m i : Int) (ow : qb_2_ω) : ((qb_2_fin A s m i)).val = some ow → ∃ fuel, loopN qb_2_st fuel (A, s, m, i) = some ow := by
  intro h
  have key : Typed tab (.slice 9) (.l A) → loopN qb_2_st (A.length + 1) (A, s, (A.length : Int), (0 : Int)) = some (if A.all (fun x => !(s == (nth x 0).str)) = true then (.inr ()) else (.inl (Int.ofNat (A.findIdx fun x => !(fun x => !(s == (nth x 0).str)) x)))) := by
    intro ht
    have hlen : A.length ≤ 140737488351232 := by have := typed_room ht; simp only [show (tab 9).bytes = 16 from rfl] at this; omega
    have key := loopN_scan (step := qb_2_st) A [] (fun x => !(s == (nth x 0).str)) (fun a _ => a) (fun i a => (A, s, (A.length : Int), (i : Int))) (fun a => (.inr ())) (fun i a => (.inl (i : Int))) (fun i a hi => ?_) (fun a => ?_) A.length 0 () (by omega)
    · first | (rw [Nat.zero_add] at key; exact key) | exact key
    · have c0 : Typed tab (.str) (.s (nth (A.getD i []) 0).str) := typed_s (typed_cell ht (A.getD i []) (mem_getD hi) 0 (by decide))
      show (qb_2_step A s (A.length : Int) (i : Int)).val = _
      unfold qb_2_step
      refine Tr.t (by simp; omega) ?_
      skip
      refine Tr.t (by first | omega | (constructor <;> omega)) ?_
      refine Tr.b2 (fun hP => ?_) (fun _ => rfl)
      rw [Tr.val_ok, wrap64 (i := (i : Int) + 1) (by omega) (by omega)]; rfl
    · show (qb_2_step A s (A.length : Int) (A.length : Int)).val = _
      refine Tr.n (by simp) ?_
      rfl
  simp only [qb_2_fin, Told.val] at h
  cases hk : A.all (fun x => !(s == (nth x 0).str)) with
  | true =>
    rw [if_pos (show qb_k2_1 A s m i = true from hk)] at h
    split at h
    · rename_i ho
      obtain ⟨rfl, ht, rfl⟩ := is_iff.1 ho
      cases h
      refine ⟨_, (key ht).trans ?_⟩
      rw [hk]; rfl
    · cases h
  | false =>
    rw [if_neg (show ¬qb_k2_1 A s m i = true from by rw [show qb_k2_1 A s m i = (A.all (fun x => !(s == (nth x 0).str))) from rfl, hk]; simp)] at h
    split at h
    · rename_i ho
      obtain ⟨rfl, ht, rfl⟩ := is_iff.1 ho
      cases h
      refine ⟨_, (key ht).trans ?_⟩
      rw [hk]; rfl
    · cases h
theorem qb_is2 : LoopIs tab FT D22 live 72 qb_lo 0 2 := by
  refine loop_told (sl := qb_2_sl) (step := qb_2_st) (out := qb_2_out) (lor := qb_lo2) (fin := fun x => (qb_2_fin (x.1) (x.2.1) (x.2.2.1) (x.2.2.2))) (fun _ => rfl) ?_ (fun x n => qb_2_r x.1 x.2.1 x.2.2.1 x.2.2.2 n) (fun x ow => qb_2_h x.1 x.2.1 x.2.2.1 x.2.2.2 ow)
  intro s t h
  unfold qb_lo2 at h
  split at h
  · cases h; exact ⟨(_, _, _, _), rfl, rfl⟩
  · cases h
def qb_t (A : LL) (s : BS) : Tr (Int) := (.ite ((qb_k2_1 A s (A.length : Int) (0 : Int)) = true) (.ite ((qb_o2_2 A s (A.length : Int) (0 : Int)) = true) (.ok (-1 : Int))
   .no)
  (.ite ((qb_o2_3 A s (A.length : Int) (0 : Int)) = true) (.ok (qb_u2_3 A s (A.length : Int) (0 : Int)))
   .no))
def qb_mk (p : Int) : Res := [(false, [⟨.int .i64, .sh, TC.i p⟩])]
def qb_c (A : LL) (s : BS) : Bool := is (((qb_o2_2 A s (A.length : Int) (0 : Int)) = true) ∧ ((qb_o2_3 A s (A.length : Int) (0 : Int)) = true))
def qb_v (A : LL) (s : BS) : Int := (bif (qb_k2_1 A s (A.length : Int) (0 : Int)) then (-1 : Int) else (qb_u2_3 A s (A.length : Int) (0 : Int)))
theorem qb_l (A : LL) (s : BS) : (qb_c A s) = true → (qb_t A s).val = some (qb_v A s) := by
  intro h
  obtain ⟨g0, g1⟩ := is_iff.1 h
  unfold qb_t qb_v
  exact (Tr.s (Tr.t g0 rfl) (Tr.t g1 rfl))
def qb_S : List Arg → Option (Bool × Res) := fun xs => match xs with
  | [(false, [(.slice 9, TC.l A)]), (false, [(.str, TC.s s)])] => some ((qb_c A s), qb_mk (qb_v A s))
  | _ => .none
theorem qb_e (A : LL) (s : BS) : runF tab FT D22 live 72 qb_lo [(false, [(.slice 9, TC.l A)]), (false, [(.str, TC.s s)])] = (qb_t A s).run fun p => some (qb_mk p) := by kernel_rfl
theorem qb_s : ∀ xs r, qb_S xs = some (true, r) → runF tab FT D22 live 72 qb_lo xs = some r := by
  intro xs r h
  unfold qb_S at h
  split at h
  · obtain ⟨h1, rfl⟩ := sp h
    exact fun_told (qb_e ..) (qb_l _ _) h1
  · cases h
def D23 : Dt := also D22 72 qb_S
theorem d23 : DOk Go.Proofs.Try.prog tab D23 := d22.also mixed_ok tab_ok names_ok (fnLoops_one (by kernel_rfl) qb_is2) qb_s
def qbb_t (a0 : LL) (a1 : BS) : Tr (Bool) := (.ite ((qb_c a0 a1) = true) (.ok (decide ((qb_v a0 a1) ≥ (0 : Int))))
  .no)
def qbb_mk (p : Bool) : Res := [(false, [⟨.bool, .sh, TC.b p⟩])]
def qbb_c (a0 : LL) (a1 : BS) : Bool := (qb_c a0 a1)
def qbb_v (a0 : LL) (a1 : BS) : Bool := (decide ((qb_v a0 a1) ≥ (0 : Int)))
theorem qbb_l (a0 : LL) (a1 : BS) : (qbb_c a0 a1) = true → (qbb_t a0 a1).val = some (qbb_v a0 a1) := by
  intro h
  have hc0 : (qb_c a0 a1) = true := h
  unfold qbb_t
  exact (Tr.t hc0 rfl)
def qbb_S : List Arg → Option (Bool × Res) := fun xs => match xs with
  | [(false, [(.slice 9, TC.l a0)]), (false, [(.str, TC.s a1)])] => some ((qbb_c a0 a1), qbb_mk (qbb_v a0 a1))
  | _ => .none
theorem qbb_e (a0 : LL) (a1 : BS) : runF tab FT D23 live 70 noLoops [(false, [(.slice 9, TC.l a0)]), (false, [(.str, TC.s a1)])] = (qbb_t a0 a1).run fun p => some (qbb_mk p) := by kernel_rfl
theorem qbb_s : ∀ xs r, qbb_S xs = some (true, r) → runF tab FT D23 live 70 noLoops xs = some r := by
  intro xs r h
  unfold qbb_S at h
  split at h
  · obtain ⟨h1, rfl⟩ := sp h
    exact fun_told (qbb_e ..) (qbb_l _ _) h1
  · cases h
def D24 : Dt := also D23 70 qbb_S
theorem d24 : DOk Go.Proofs.Try.prog tab D24 := d23.also mixed_ok tab_ok names_ok noLoops_ok qbb_s
def qbd_t (a0 : BS) : Tr (Bool) := (.ite ((qbb_c [[TC.s [115, 117, 109]], [TC.s [109, 105, 110]], [TC.s [109, 97, 120]], [TC.s [99, 111, 117, 110, 116]]] a0) = true) (.ok (qbb_v [[TC.s [115, 117, 109]], [TC.s [109, 105, 110]], [TC.s [109, 97, 120]], [TC.s [99, 111, 117, 110, 116]]] a0))
  .no)
def qbd_mk (p : Bool) : Res := [(false, [⟨.bool, .sh, TC.b p⟩])]
def qbd_c (a0 : BS) : Bool := (qbb_c [[TC.s [115, 117, 109]], [TC.s [109, 105, 110]], [TC.s [109, 97, 120]], [TC.s [99, 111, 117, 110, 116]]] a0)
def qbd_v (a0 : BS) : Bool := (qbb_v [[TC.s [115, 117, 109]], [TC.s [109, 105, 110]], [TC.s [109, 97, 120]], [TC.s [99, 111, 117, 110, 116]]] a0)
theorem qbd_l (a0 : BS) : (qbd_c a0) = true → (qbd_t a0).val = some (qbd_v a0) := by
  intro h
  have hc0 : (qbb_c [[TC.s [115, 117, 109]], [TC.s [109, 105, 110]], [TC.s [109, 97, 120]], [TC.s [99, 111, 117, 110, 116]]] a0) = true := h
  unfold qbd_t
  exact (Tr.t hc0 rfl)
def qbd_S : List Arg → Option (Bool × Res) := fun xs => match xs with
  | [(false, [(.str, TC.s a0)])] => some ((qbd_c a0), qbd_mk (qbd_v a0))
  | _ => .none
theorem qbd_e (a0 : BS) : runF tab FT D24 live 62 noLoops [(false, [(.str, TC.s a0)])] = (qbd_t a0).run fun p => some (qbd_mk p) := by kernel_rfl
theorem qbd_s : ∀ xs r, qbd_S xs = some (true, r) → runF tab FT D24 live 62 noLoops xs = some r := by
  intro xs r h
  unfold qbd_S at h
  split at h
  · obtain ⟨h1, rfl⟩ := sp h
    exact fun_told (qbd_e _) (qbd_l _) h1
  · cases h
def D25 : Dt := also D24 62 qbd_S
theorem d25 : DOk Go.Proofs.Try.prog tab D25 := d24.also mixed_ok tab_ok names_ok noLoops_ok qbd_s
open Go.RowKit Go.Proofs Go.Maps Go.ChangeShapes Go.WideMaps in
theorem wpList_insert_own {H : Type} {P : Program} (w : World) {ops : Array Oper} {rest : List Oper} {o : Oper} {a : Act} {Q : Exit → Act → World → Prop}
    (hg : o.guard = none) (m x v : Operand) (t : TypeId) (hop : o.op = Op.insert t m x v)
    (k e : TypeId) (K : Keyed P k) (ht : P.underlying t = some (.map k e)) (R : Value → Option (DataW H × List MemPlace)) (b n : Nat) (D : DataW H)
    (hm : a.eval m = .map (some b)) (hown : w.ownsMap P k R b n D) (hn : n < maxLen) (key val : Value) (kl : Lit) (hx : a.eval x = key) (hv : a.eval v = val) (hkey : keyOf P k key = some kl)
    (d : DataW H) (ps : List MemPlace) (hval : R val = some (d, ps))
    (hK : ∀ w', w'.ownsMap P k R b (n + 1) (D.put kl d) → w.grownBy w' (some b) → wpList P ops Q rest (a.put o.dst undef) w') :
    wpList P ops Q (o :: rest) a w := by
  refine wpList_plain hg fun K' hK' => ?_
  obtain ⟨w', hrun, r1, r2⟩ := hown.update K ht hn hkey hval
  unfold Oper.wp
  simp [execOp, hop, hm, hx, hv, hrun, Result.andThen]
  exact hK' _ _ (hK w' r1 r2)

open Go.RowKit Go.Proofs in
theorem isRed_calls {w : World} {s : BS} (hG : intGl tab w) (h : qbd_c s = true) : Calls Go.Proofs.Try.prog 62 #[.string ⟨s.toArray⟩] w fun e w' => e = .returned (.bool (qbd_v s)) ∧ Below w.heap.size w w' := by
  have h0 := told_calls mixed_ok tab_ok d24 noLoops_ok (qbd_s [(false, [(.str, TC.s s)])] (qbd_mk (qbd_v s)) (by show some (qbd_c s, _) = _; rw [h])) (S := fun _ => False) (vals := [.string ⟨s.toArray⟩]) ⟨fun _ h => h.elim, hG⟩ (.cons (arg_one (.str s)) .nil)
  refine h0.2.mono fun e w' he => ?_
  obtain ⟨v, rfl, fq, ⟨h1, _⟩, _, _, hb⟩ := he
  obtain ⟨us, rfl, hc, _⟩ := h1
  obtain ⟨u, us', rfl, hu, hn⟩ : ∃ u us', us = u :: us' ∧ CellRel tab w' (fun b => b < w'.heap.size ∧ (False ∨ w.heap.size ≤ b) ∧ b ∉ fq) ⟨.bool, .sh, TC.b (qbd_v s)⟩ u [] ∧ us' = [] := by
    cases hc with
    | cons h1 h2 => cases h2; exact ⟨_, _, rfl, by have := h1; unfold CellRel at this ⊢; exact ⟨this.1, rfl⟩, rfl⟩
  subst hn
  have : u = .bool (qbd_v s) := by
    have := hu.1
    cases this; rfl
  subst this
  exact ⟨rfl, hb⟩
open Go.RowKit Go.Proofs in
theorem kids_form {w : World} {S : Nat → Prop} {K : LL} {u : Value} (hr : RepC tab w S (.slice 31) u (.l K)) (hS : ∀ b, S b → b < w.heap.size) :
    ∃ a cap, u = .slice a K.length cap ∧ (K.length = 2 → ∃ ad : Addr, a = some ad ∧ ad.block < w.heap.size ∧ w.cell? ⟨ad.block, ad.off + 5, none⟩ = some (.int .i64 (nth (row K (1 : Int)) 0).int) ∧ w.cell? ⟨ad.block, ad.off + 6, none⟩ = some (.int .i64 (nth (row K (1 : Int)) 1).int)) := by
  cases hr with
  | nil => exact ⟨_, _, rfl, fun h => by cases h⟩
  | slice _ a _ cap us h1 h2 h3 h4 =>
    have ri : ∀ (v : Value) (c : TC), RepC tab w S (.int .i64) v c → v = .int .i64 c.int := fun v c h => by cases h; rfl
    refine ⟨_, _, rfl, fun hl => ⟨a, rfl, hS _ (h3 0 (by rw [hl]; decide)).1, ?_, ?_⟩⟩
    · show w.cell? (a.add 5) = _
      rw [(h3 5 (by rw [hl]; decide)).2]
      exact congrArg some (ri _ _ (h4 5 (by rw [hl]; decide)))
    · show w.cell? (a.add 6) = _
      rw [(h3 6 (by rw [hl]; decide)).2]
      exact congrArg some (ri _ _ (h4 6 (by rw [hl]; decide)))
open Go.RowKit Go.Proofs in
theorem callOk_red {w : World} {S : Nat → Prop} {s : BS} {K : LL} {u : Value} (hG : intGl tab w) (hr : RepC tab w S (.slice 31) u (.l K)) (hS : ∀ b, S b → b < w.heap.size) (hred : qbd_c s = true) (hv : qbd_v s = true) :
    Calls Go.Proofs.Try.prog 46 #[.string ⟨s.toArray⟩, u] w fun e w' => e = .returned (.bool (redK K)) ∧ Below w.heap.size w w' := by
  obtain ⟨a, cap, rfl, h2⟩ := kids_form hr hS
  have hI := isRed_calls hG hred
  rw [hv] at hI
  clear hr
  by_cases l1 : K.length = 1
  · have e : redK K = true := by unfold redK; rw [l1]; rfl
    rw [l1, e]
    clear h2
    go_enter Go.Proofs.Try.func46, Go.Proofs.Try.ntmps46
    go_wp2_with (go_at_call 62; refine hI.mono ?_; rintro e w1 ⟨rfl, hB⟩)
    clear hI
    go_wp2
    go_ret
    exact ⟨rfl, hB⟩
  · by_cases l2 : K.length = 2
    · obtain ⟨ad, rfl, hb, c5, c6⟩ := h2 l2
      have e : redK K = (((nth (row K (1 : Int)) 0).int == 1) && decide ((nth (row K (1 : Int)) 1).int < 3)) := by unfold redK; rw [l2]; rfl
      rw [l2, e]
      generalize (nth (row K (1 : Int)) 0).int = x at c5 ⊢
      generalize (nth (row K (1 : Int)) 1).int = y at c6 ⊢
      clear h2 e
      cases hx : (x == 1) with
      | false =>
        go_enter Go.Proofs.Try.func46, Go.Proofs.Try.ntmps46
        go_wp2_with (go_at_call 62; refine hI.mono ?_; rintro e w1 ⟨rfl, hB⟩; have d5 := (hB.cell (p := ⟨ad.block, ad.off + 5, none⟩) hb).trans c5; have d6 := (hB.cell (p := ⟨ad.block, ad.off + 6, none⟩) hb).trans c6)
        clear hI
        go_wp2
        go_ret
        exact ⟨rfl, hB⟩
      | true =>
        go_enter Go.Proofs.Try.func46, Go.Proofs.Try.ntmps46
        go_wp2_with (go_at_call 62; refine hI.mono ?_; rintro e w1 ⟨rfl, hB⟩; have d5 := (hB.cell (p := ⟨ad.block, ad.off + 5, none⟩) hb).trans c5; have d6 := (hB.cell (p := ⟨ad.block, ad.off + 6, none⟩) hb).trans c6)
        clear hI
        go_wp2
        go_ret
        exact ⟨rfl, hB⟩
    · have e : redK K = false := by
        unfold redK
        rw [show ((K.length : Int) == 1) = false from by simpa using by omega, show ((K.length : Int) == 2) = false from by simpa using by omega]
        rfl
      rw [e]
      have n1 : ((K.length : Int) == 1) = false := by simpa using by omega
      have n2 : ((K.length : Int) == 2) = false := by simpa using by omega
      clear h2 e
      go_enter Go.Proofs.Try.func46, Go.Proofs.Try.ntmps46
      go_wp2_with (go_at_call 62; refine hI.mono ?_; rintro e w1 ⟨rfl, hB⟩)
      clear hI
      go_wp2
      go_ret
      exact ⟨rfl, hB⟩
open Go.RowKit Go.Proofs Go.Maps Go.ChangeShapes Go.WideMaps in
theorem args_map (s : BS) :
    Maps.has (((((DataW.map ([] : List (Lit × DataW Unit))).put (.string [97, 98, 115]) (.lit (.int .i64 1))).put (.string [116, 114, 97, 110, 115, 112, 111, 115, 101]) (.lit (.int .i64 1))).put (.string [105, 111, 116, 97]) (.lit (.int .i64 1))).put (.string [109, 97, 116, 109, 117, 108]) (.lit (.int .i64 2)) |>.put (.string [119, 104, 101, 114, 101]) (.lit (.int .i64 3))) (.string s) = !(argN s == 0) ∧
    (((((DataW.map ([] : List (Lit × DataW Unit))).put (.string [97, 98, 115]) (.lit (.int .i64 1))).put (.string [116, 114, 97, 110, 115, 112, 111, 115, 101]) (.lit (.int .i64 1))).put (.string [105, 111, 116, 97]) (.lit (.int .i64 1))).put (.string [109, 97, 116, 109, 117, 108]) (.lit (.int .i64 2)) |>.put (.string [119, 104, 101, 114, 101]) (.lit (.int .i64 3))).atKey (.string s) (.lit (.int .i64 0)) = .lit (.int .i64 (argN s)) := by
  have ne : ∀ {a b : BS}, a ≠ b → (Lit.string a) ≠ .string b := fun h e => h (by cases e; rfl)
  have hm : ∀ l : BS, WideAt.IsKeyLit (.string l) := fun l => trivial
  have hD := isMap_empty (H := Unit)
  unfold argN
  by_cases h5 : s = [119, 104, 101, 114, 101]
  · subst h5
    exact ⟨(has_put_same ((((hD.put _ _).put _ _).put _ _).put _ _) (hm _) _).trans rfl, (atKey_put_same ((((hD.put _ _).put _ _).put _ _).put _ _) (hm _) _ _).trans rfl⟩
  rw [has_put_other (ne h5), atKey_put_other (ne h5)]
  by_cases h4 : s = [109, 97, 116, 109, 117, 108]
  · subst h4
    exact ⟨(has_put_same (((hD.put _ _).put _ _).put _ _) (hm _) _).trans rfl, (atKey_put_same (((hD.put _ _).put _ _).put _ _) (hm _) _ _).trans rfl⟩
  rw [has_put_other (ne h4), atKey_put_other (ne h4)]
  by_cases h3 : s = [105, 111, 116, 97]
  · subst h3
    exact ⟨(has_put_same ((hD.put _ _).put _ _) (hm _) _).trans rfl, (atKey_put_same ((hD.put _ _).put _ _) (hm _) _ _).trans rfl⟩
  rw [has_put_other (ne h3), atKey_put_other (ne h3)]
  by_cases h2 : s = [116, 114, 97, 110, 115, 112, 111, 115, 101]
  · subst h2
    exact ⟨(has_put_same (hD.put _ _) (hm _) _).trans rfl, (atKey_put_same (hD.put _ _) (hm _) _ _).trans rfl⟩
  rw [has_put_other (ne h2), atKey_put_other (ne h2)]
  by_cases h1 : s = [97, 98, 115]
  · subst h1
    exact ⟨(has_put_same hD (hm _) _).trans rfl, (atKey_put_same hD (hm _) _ _).trans rfl⟩
  rw [has_put_other (ne h1), atKey_put_other (ne h1)]
  have b1 : (s == [97, 98, 115]) = false := by simpa using h1
  have b2 : (s == [116, 114, 97, 110, 115, 112, 111, 115, 101]) = false := by simpa using h2
  have b3 : (s == [105, 111, 116, 97]) = false := by simpa using h3
  have b4 : (s == [109, 97, 116, 109, 117, 108]) = false := by simpa using h4
  have b5 : (s == [119, 104, 101, 114, 101]) = false := by simpa using h5
  rw [b1, b2, b3, b4, b5]
  exact ⟨rfl, rfl⟩
open Go.RowKit Go.Proofs Go.Maps Go.ChangeShapes Go.WideMaps in
theorem callOk_map {w : World} {S : Nat → Prop} {s : BS} {K : LL} {u : Value} (hG : intGl tab w) (hr : RepC tab w S (.slice 31) u (.l K)) (hS : ∀ b, S b → b < w.heap.size) (hl : s.length ≤ 140737488351232) (hred : qbd_c s = true) (hv : qbd_v s = false) :
    Calls Go.Proofs.Try.prog 46 #[.string ⟨s.toArray⟩, u] w fun e w' => e = .returned (.bool (mapK s K)) ∧ Below w.heap.size w w' := by
  obtain ⟨a, cap, rfl, -⟩ := kids_form hr hS
  have hI := isRed_calls hG hred
  rw [hv] at hI
  clear hr
  have hmm := @run_makeMap Go.Proofs.Try.prog
  have law : Keyed Go.Proofs.Try.prog 9 := string_keyed Go.Proofs.Try.underlying9
  have zero3 : ∀ w, (zeroValue 3).run Go.Proofs.Try.prog w = .ok (.int .i64 0) w := fun w => by kernel_rfl
  have hkey : ∀ l : BS, l.length ≤ 140737488351232 → keyOf Go.Proofs.Try.prog 9 (.string ⟨l.toArray⟩) = some (.string l) := fun l hl => keyOf_string_mk Go.Proofs.Try.underlying9 (by show l.length ≤ maxLen; unfold maxLen; omega)
  have hm5 := args_map s
  cases hz : (argN s == 0) with
  | true =>
    rw [hz] at hm5
    have e : mapK s K = false := by unfold mapK; rw [hz]; rfl
    rw [e]
    go_enter Go.Proofs.Try.func46, Go.Proofs.Try.ntmps46
    go_wp2_with (first
      | (go_at_call 62; refine hI.mono ?_; rintro e w1 ⟨rfl, hB⟩; have hown := World.ownsMap_made (H := Unit) w1 Go.Proofs.Try.prog 9 (plainElem Go.Proofs.Try.prog 3); have hB2 := hB.alloc hB.size (.map #[] 0))
      | (refine wpList_insert_own _ rfl _ _ _ 91 rfl 9 3 law Go.Proofs.Try.underlying91 _ w1.heap.size _ _ rfl hown (by unfold maxLen; omega) _ _ _ rfl rfl (hkey _ (by decide)) _ [] (plainElem_int Go.Proofs.Try.underlying3 (by decide)) ?_; intro w2 hown2 hgrow2; have hown := hown2; have hB2 := hB2.grown hgrow2 hB2.size (fun j hj => by cases hj; exact hB.size); clear hown2 hgrow2)
      | (refine wpList_lookup_own_ok_int _ rfl _ _ 91 rfl 9 3 .i64 law Go.Proofs.Try.underlying91 Go.Proofs.Try.underlying3 (zero3 _) w1.heap.size _ _ rfl hown _ _ rfl (hkey s hl) ?_; intro c hat hwc; rw [hm5.1]))
    go_ret
    exact ⟨rfl, hB2⟩
  | false =>
    rw [hz] at hm5
    have e : mapK s K = ((K.length : Int) == argN s) := by unfold mapK; rw [hz]; rfl
    rw [e]
    go_enter Go.Proofs.Try.func46, Go.Proofs.Try.ntmps46
    go_wp2_with (first
      | (go_at_call 62; refine hI.mono ?_; rintro e w1 ⟨rfl, hB⟩; have hown := World.ownsMap_made (H := Unit) w1 Go.Proofs.Try.prog 9 (plainElem Go.Proofs.Try.prog 3); have hB2 := hB.alloc hB.size (.map #[] 0))
      | (refine wpList_insert_own _ rfl _ _ _ 91 rfl 9 3 law Go.Proofs.Try.underlying91 _ w1.heap.size _ _ rfl hown (by unfold maxLen; omega) _ _ _ rfl rfl (hkey _ (by decide)) _ [] (plainElem_int Go.Proofs.Try.underlying3 (by decide)) ?_; intro w2 hown2 hgrow2; have hown := hown2; have hB2 := hB2.grown hgrow2 hB2.size (fun j hj => by cases hj; exact hB.size); clear hown2 hgrow2)
      | (refine wpList_lookup_own_ok_int _ rfl _ _ 91 rfl 9 3 .i64 law Go.Proofs.Try.underlying91 Go.Proofs.Try.underlying3 (zero3 _) w1.heap.size _ _ rfl hown _ _ rfl (hkey s hl) ?_; intro c hat hwc; rw [hm5.1]; rw [hm5.2] at hat; obtain rfl : argN s = c := (by injection hat with hat; injection hat)))
    go_ret
    exact ⟨rfl, hB2⟩
open Go.RowKit Go.Proofs in
theorem callOk_calls {w : World} {S : Nat → Prop} {s : BS} {K : LL} {u : Value} (hG : intGl tab w) (hr : RepC tab w S (.slice 31) u (.l K)) (hS : ∀ b, S b → b < w.heap.size) (hl : s.length ≤ 140737488351232) (hred : qbd_c s = true) :
    Calls Go.Proofs.Try.prog 46 #[.string ⟨s.toArray⟩, u] w fun e w' => e = .returned (.bool (bif qbd_v s then redK K else mapK s K)) ∧ Below w.heap.size w w' := by
  cases hv : qbd_v s with
  | true => exact callOk_red hG hr hS hred hv
  | false => exact callOk_map hG hr hS hl hred hv

def qbv_c (s : BS) (K : LL) : Bool := is (Typed tab (.slice 31) (.l K) ∧ s.length ≤ 140737488351232 ∧ qbd_c s = true)
def qbv_v (s : BS) (K : LL) : Bool := bif qbd_v s then redK K else mapK s K
def qbv_mk (p : Bool) : Res := [(false, [⟨.bool, .sh, TC.b p⟩])]
def qbv_S : List Arg → Option (Bool × Res) := fun xs => match xs with
  | [(false, [(.str, TC.s s)]), (false, [(.slice 31, TC.l K)])] => some ((qbv_c s K), qbv_mk (qbv_v s K))
  | _ => .none
def D26 : Dt := also D25 46 qbv_S
theorem d26 : DOk Go.Proofs.Try.prog tab D26 := d25.alsoC names_ok (c := _) Go.Proofs.Try.func46 rfl (by
  intro xs r h w S hargs0 hS hG hargs
  unfold qbv_S at h
  split at h
  · rename_i s K
    obtain ⟨h1, rfl⟩ := sp h
    obtain ⟨h2, h3, h4⟩ := is_iff.1 h1
    obtain ⟨u, us, rfl, ha, hr⟩ := args_cons hargs
    obtain ⟨u2, us2, rfl, hb, hr2⟩ := args_cons hr
    cases args_nil hr2
    cases rep_str' (arg_rep ha)
    refine (callOk_calls hG (arg_rep hb) hS h3 h4).mono ?_
    rintro e w' ⟨rfl, hB⟩
    exact ⟨_, rfl, plain_flat rfl (.bool _) hB⟩
  · cases h)
def qbs_t (a0 a1 : Int) (a2 : Bool) : Tr (Bool) := (.ite ((!(qbl_v a0 (0 : Int) (40 : Int))) = true) (.ok false)
  (.ite (a2 = true) (.ok (a1 == (0 : Int)))
   (.ite ((a1 == (-1 : Int)) = true) (.ok true)
    (.ok (qbl_v a1 a0 (40 : Int))))))
def qbs_mk (p : Bool) : Res := [(false, [⟨.bool, .sh, TC.b p⟩])]
def qbs_c (a0 a1 : Int) (a2 : Bool) : Bool := true
def qbs_v (a0 a1 : Int) (a2 : Bool) : Bool := (bif (!(qbl_v a0 (0 : Int) (40 : Int))) then false else (bif a2 then (a1 == (0 : Int)) else (bif (a1 == (-1 : Int)) then true else (qbl_v a1 a0 (40 : Int)))))
theorem qbs_l (a0 a1 : Int) (a2 : Bool) : (qbs_c a0 a1 a2) = true → (qbs_t a0 a1 a2).val = some (qbs_v a0 a1 a2) := by
  intro h
  skip
  unfold qbs_t qbs_v
  exact (Tr.s rfl (Tr.s rfl (Tr.s rfl rfl)))
def qbs_S : List Arg → Option (Bool × Res) := fun xs => match xs with
  | [(true, [(.int .i64, TC.i a0), (.int .i64, TC.i a1), (.bool, TC.b a2)])] => some (true, qbs_mk (qbs_v a0 a1 a2))
  | _ => .none
theorem qbs_e (a0 a1 : Int) (a2 : Bool) : runF tab FT D26 live 49 noLoops [(true, [(.int .i64, TC.i a0), (.int .i64, TC.i a1), (.bool, TC.b a2)])] = (qbs_t a0 a1 a2).run fun p => some (qbs_mk p) := by kernel_rfl
theorem qbs_s : ∀ xs r, qbs_S xs = some (true, r) → runF tab FT D26 live 49 noLoops xs = some r := by
  intro xs r h
  unfold qbs_S at h
  split at h
  · obtain ⟨h1, rfl⟩ := sp h
    exact fun_told (qbs_e ..) (qbs_l _ _ _) rfl
  · cases h
def D27 : Dt := also D26 49 qbs_S
theorem d27 : DOk Go.Proofs.Try.prog tab D27 := d26.also mixed_ok tab_ok names_ok noLoops_ok qbs_s
def qbe_t (a0 a1 : Int) (a2 : Bool) : Tr (Bool) := .ok (!(qbs_v a0 a1 a2))
def qbe_mk (p : Bool) : Res := [(false, [⟨.bool, .sh, TC.b p⟩])]
def qbe_c (a0 a1 : Int) (a2 : Bool) : Bool := true
def qbe_v (a0 a1 : Int) (a2 : Bool) : Bool := (!(qbs_v a0 a1 a2))
theorem qbe_l (a0 a1 : Int) (a2 : Bool) : (qbe_c a0 a1 a2) = true → (qbe_t a0 a1 a2).val = some (qbe_v a0 a1 a2) := by
  intro h
  skip
  unfold qbe_t qbe_v
  exact rfl
def qbe_S : List Arg → Option (Bool × Res) := fun xs => match xs with
  | [(true, [(.int .i64, TC.i a0), (.int .i64, TC.i a1), (.bool, TC.b a2)])] => some (true, qbe_mk (qbe_v a0 a1 a2))
  | _ => .none
theorem qbe_e (a0 a1 : Int) (a2 : Bool) : runF tab FT D27 live 48 noLoops [(true, [(.int .i64, TC.i a0), (.int .i64, TC.i a1), (.bool, TC.b a2)])] = (qbe_t a0 a1 a2).run fun p => some (qbe_mk p) := by kernel_rfl
theorem qbe_s : ∀ xs r, qbe_S xs = some (true, r) → runF tab FT D27 live 48 noLoops xs = some r := by
  intro xs r h
  unfold qbe_S at h
  split at h
  · obtain ⟨h1, rfl⟩ := sp h
    exact fun_told (qbe_e ..) (qbe_l _ _ _) rfl
  · cases h
def D28 : Dt := also D27 48 qbe_S
theorem d28 : DOk Go.Proofs.Try.prog tab D28 := d27.also mixed_ok tab_ok names_ok noLoops_ok qbe_s
abbrev qa_2_σ := LL × Int × Int
abbrev qa_2_ω := (Int) ⊕ (Unit)
def qa_2_step (A : LL) (m i : Int) : Tr (qa_2_σ ⊕ qa_2_ω) := (.ite ((decide (i < m)) = true) (.ite ((0 : Int) ≤ i ∧ i < (A.length : Int)) (.ite ((qbe_v ((nth (row A i) 0).int) ((nth (row A i) 1).int) ((nth (row A i) 2).bool)) = true) (.ok (.inr (.inl i)))
    (.ok (.inl (A, m, (IntKind.wrap .i64 (i + (1 : Int)))))))
   .no)
  (.ok (.inr (.inr ()))))
def qa_2_st : qa_2_σ → Tr (qa_2_σ ⊕ qa_2_ω) := fun x => (qa_2_step (x.1) (x.2.1) (x.2.2))
def qa_k2_1 (A : LL) (m i : Int) : Bool := A.all (fun x => !(qbe_v ((nth x 0).int) ((nth x 1).int) ((nth x 2).bool)))
def qa_o2_2 (A : LL) (m i : Int) : Bool := is (i = 0 ∧ Typed tab (.slice 59) (.l A) ∧ m = (A.length : Int))
def qa_o2_3 (A : LL) (m i : Int) : Bool := is (i = 0 ∧ Typed tab (.slice 59) (.l A) ∧ m = (A.length : Int))
def qa_u2_3 (A : LL) (m i : Int) : Int := (Int.ofNat (A.findIdx fun x => !(fun x => !(qbe_v ((nth x 0).int) ((nth x 1).int) ((nth x 2).bool))) x))
def qa_2_fin (A : LL) (m i : Int) : Told qa_2_ω := (.br (qa_k2_1 A m i) (.leaf (qa_o2_2 A m i) (.inr ())) (.leaf (qa_o2_3 A m i) (.inl (qa_u2_3 A m i))))
def qa_2_sl (x : qa_2_σ) : List Slot := [⟨.val false [⟨.slice 59, .sh, TC.l (x.1)⟩], ⟨0, 0⟩⟩, ⟨.val false [⟨.func, .sh, TC.f 48 []⟩], ⟨0, 0⟩⟩, ⟨.val false [⟨.int .i64, .sh, TC.i (x.2.1)⟩], ⟨0, 0⟩⟩, ⟨.val false [⟨.int .i64, .sh, TC.i (x.2.2)⟩], ⟨0, 0⟩⟩]
def qa_2_out : qa_2_ω → Ex × List Slot := (Sum.elim (fun x => (.ret, [⟨.val false [⟨.int .i64, .sh, TC.i x⟩], ⟨0, 0⟩⟩])) (fun x => (.exit 0, [Slot.none])))
def qa_lo2 : List Slot → Option (Told (Ex × List Slot)) := fun s => match s with
  | [⟨.val false [⟨.slice 59, .sh, TC.l A⟩], ⟨0, 0⟩⟩, ⟨.val false [⟨.func, .sh, TC.f 48 []⟩], ⟨0, 0⟩⟩, ⟨.val false [⟨.int .i64, .sh, TC.i m⟩], ⟨0, 0⟩⟩, ⟨.val false [⟨.int .i64, .sh, TC.i i⟩], ⟨0, 0⟩⟩] => some (((qa_2_fin A m i)).map qa_2_out)
  | _ => .none
def qa_lo : LoopTeller := fun r s => bif Nat.beq r 2 then qa_lo2 s else .none
theorem qa_2_r (A : LL) (m i : Int) (fuel : Nat) : rounds (rnd tab FT D28 live 63 qa_lo 0 2) leave (fuel + 1) (qa_2_sl (A, m, i)) = ((qa_2_step A m i)).run (goOn (fun s => rounds (rnd tab FT D28 live 63 qa_lo 0 2) leave fuel (qa_2_sl s)) fun w => some (qa_2_out w)) := by kernel_rfl
theorem qa_2_h (A : LL) (m i : Int) (ow : qa_2_ω) : ((qa_2_fin A m i)).val = some ow → ∃ fuel, loopN qa_2_st fuel (A, m, i) = some ow := by
  intro h
  have key : Typed tab (.slice 59) (.l A) → loopN qa_2_st (A.length + 1) (A, (A.length : Int), (0 : Int)) = some (if A.all (fun x => !(qbe_v ((nth x 0).int) ((nth x 1).int) ((nth x 2).bool))) = true then (.inr ()) else (.inl (Int.ofNat (A.findIdx fun x => !(fun x => !(qbe_v ((nth x 0).int) ((nth x 1).int) ((nth x 2).bool))) x)))) := by
    intro ht
    have hlen : A.length ≤ 140737488351232 := by have := typed_room ht; simp only [show (tab 59).bytes = 24 from rfl] at this; omega
    have key := loopN_scan (step := qa_2_st) A [] (fun x => !(qbe_v ((nth x 0).int) ((nth x 1).int) ((nth x 2).bool))) (fun a _ => a) (fun i a => (A, (A.length : Int), (i : Int))) (fun a => (.inr ())) (fun i a => (.inl (i : Int))) (fun i a hi => ?_) (fun a => ?_) A.length 0 () (by omega)
    · first | (rw [Nat.zero_add] at key; exact key) | exact key
    · skip
      show (qa_2_step A (A.length : Int) (i : Int)).val = _
      unfold qa_2_step
      refine Tr.t (by simp; omega) ?_
      skip
      refine Tr.t (by first | omega | (constructor <;> omega)) ?_
      refine Tr.b2 (fun hP => ?_) (fun _ => rfl)
      rw [Tr.val_ok, wrap64 (i := (i : Int) + 1) (by omega) (by omega)]; rfl
    · show (qa_2_step A (A.length : Int) (A.length : Int)).val = _
      refine Tr.n (by simp) ?_
      rfl
  simp only [qa_2_fin, Told.val] at h
  cases hk : A.all (fun x => !(qbe_v ((nth x 0).int) ((nth x 1).int) ((nth x 2).bool))) with
  | true =>
    rw [if_pos (show qa_k2_1 A m i = true from hk)] at h
    split at h
    · rename_i ho
      obtain ⟨rfl, ht, rfl⟩ := is_iff.1 ho
      cases h
      refine ⟨_, (key ht).trans ?_⟩
      rw [hk]; rfl
    · cases h
  | false =>
    rw [if_neg (show ¬qa_k2_1 A m i = true from by rw [show qa_k2_1 A m i = (A.all (fun x => !(qbe_v ((nth x 0).int) ((nth x 1).int) ((nth x 2).bool)))) from rfl, hk]; simp)] at h
    split at h
    · rename_i ho
      obtain ⟨rfl, ht, rfl⟩ := is_iff.1 ho
      cases h
      refine ⟨_, (key ht).trans ?_⟩
      rw [hk]; rfl
    · cases h
theorem qa_is2 : LoopIs tab FT D28 live 63 qa_lo 0 2 := by
  refine loop_told (sl := qa_2_sl) (step := qa_2_st) (out := qa_2_out) (lor := qa_lo2) (fin := fun x => (qa_2_fin (x.1) (x.2.1) (x.2.2))) (fun _ => rfl) ?_ (fun x n => qa_2_r x.1 x.2.1 x.2.2 n) (fun x ow => qa_2_h x.1 x.2.1 x.2.2 ow)
  intro s t h
  unfold qa_lo2 at h
  split at h
  · cases h; exact ⟨(_, _, _), rfl, rfl⟩
  · cases h
def qa_t (A : LL) : Tr (Int) := (.ite ((qa_k2_1 A (A.length : Int) (0 : Int)) = true) (.ite ((qa_o2_2 A (A.length : Int) (0 : Int)) = true) (.ok (-1 : Int))
   .no)
  (.ite ((qa_o2_3 A (A.length : Int) (0 : Int)) = true) (.ok (qa_u2_3 A (A.length : Int) (0 : Int)))
   .no))
def qa_mk (p : Int) : Res := [(false, [⟨.int .i64, .sh, TC.i p⟩])]
def qa_c (A : LL) : Bool := is (Typed tab (.slice 59) (.l A))
def qa_v (A : LL) : Int := if (A.all (fun x => !(qbe_v ((nth x 0).int) ((nth x 1).int) ((nth x 2).bool)))) = true then -1 else (Int.ofNat (A.findIdx fun x => !(fun x => !(qbe_v ((nth x 0).int) ((nth x 1).int) ((nth x 2).bool))) x))
theorem qa_l (A : LL) : (qa_c A) = true → (qa_t A).val = some (qa_v A) := by
  intro h
  have ht := is_iff.1 h
  unfold qa_t
  cases hk : A.all (fun x => !(qbe_v ((nth x 0).int) ((nth x 1).int) ((nth x 2).bool))) with
  | true =>
    refine Tr.t (show A.all (fun x => !(qbe_v ((nth x 0).int) ((nth x 1).int) ((nth x 2).bool))) = true from hk) ?_
    refine Tr.t (is_true ⟨rfl, ht, rfl⟩) ?_
    show _ = some (qa_v A ); unfold qa_v; rw [if_pos hk]; rfl
  | false =>
    refine Tr.n (show ¬A.all (fun x => !(qbe_v ((nth x 0).int) ((nth x 1).int) ((nth x 2).bool))) = true from by rw [hk]; simp) ?_
    refine Tr.t (is_true ⟨rfl, ht, rfl⟩) ?_
    show _ = some (qa_v A ); unfold qa_v; rw [if_neg (by rw [hk]; simp)]; rfl
def qa_S : List Arg → Option (Bool × Res) := fun xs => match xs with
  | [(false, [(.slice 59, TC.l A)]), (false, [(.func, TC.f 48 [])])] => some ((qa_c A), qa_mk (qa_v A))
  | _ => .none
theorem qa_e (A : LL) : runF tab FT D28 live 63 qa_lo [(false, [(.slice 59, TC.l A)]), (false, [(.func, TC.f 48 [])])] = (qa_t A).run fun p => some (qa_mk p) := by kernel_rfl
theorem qa_s : ∀ xs r, qa_S xs = some (true, r) → runF tab FT D28 live 63 qa_lo xs = some r := by
  intro xs r h
  unfold qa_S at h
  split at h
  · obtain ⟨h1, rfl⟩ := sp h
    exact fun_told (qa_e _) (qa_l _) h1
  · cases h
def D29 : Dt := also D28 63 qa_S
theorem d29 : DOk Go.Proofs.Try.prog tab D29 := d28.also mixed_ok tab_ok names_ok (fnLoops_one (by kernel_rfl) qa_is2) qa_s
def qt_t (A : LL) : Tr (Bool) := (.ite ((qa_c A) = true) (.ok (decide ((qa_v A) ≥ (0 : Int))))
  .no)
def qt_mk (p : Bool) : Res := [(false, [⟨.bool, .sh, TC.b p⟩])]
def qt_c (A : LL) : Bool := is (Typed tab (.slice 59) (.l A))
def qt_v (A : LL) : Bool := !(A.all (fun x => !(qbe_v ((nth x 0).int) ((nth x 1).int) ((nth x 2).bool))))
theorem qt_l (A : LL) : (qt_c A) = true → (qt_t A).val = some (qt_v A) := by
  intro h
  have ht := is_iff.1 h
  unfold qt_t
  refine Tr.t (is_true ht) ?_
  show some (decide (qa_v A  ≥ 0)) = some (!(A.all (fun x => !(qbe_v ((nth x 0).int) ((nth x 1).int) ((nth x 2).bool)))))
  unfold qa_v
  cases hk : A.all (fun x => !(qbe_v ((nth x 0).int) ((nth x 1).int) ((nth x 2).bool))) <;> simp
def qt_S : List Arg → Option (Bool × Res) := fun xs => match xs with
  | [(false, [(.slice 59, TC.l A)]), (false, [(.func, TC.f 48 [])])] => some ((qt_c A), qt_mk (qt_v A))
  | _ => .none
theorem qt_e (A : LL) : runF tab FT D29 live 47 noLoops [(false, [(.slice 59, TC.l A)]), (false, [(.func, TC.f 48 [])])] = (qt_t A).run fun p => some (qt_mk p) := by kernel_rfl
theorem qt_s : ∀ xs r, qt_S xs = some (true, r) → runF tab FT D29 live 47 noLoops xs = some r := by
  intro xs r h
  unfold qt_S at h
  split at h
  · obtain ⟨h1, rfl⟩ := sp h
    exact fun_told (qt_e _) (qt_l _) h1
  · cases h
def D30 : Dt := also D29 47 qt_S
theorem d30 : DOk Go.Proofs.Try.prog tab D30 := d29.also mixed_ok tab_ok names_ok noLoops_ok qt_s
def qv_t (k n : Int) (tx : BS) (K R : LL) : Tr (Bool) := (.ite ((k == (1 : Int)) = true) (.ite ((qbl_v n (0 : Int) (1000000000000 : Int)) = true) (.ite (((K.length : Int) == (0 : Int)) = true) (.ite ((n == n) = true) (.ite ((tx == []) = true) (.ok ((R.length : Int) == (0 : Int)))
      (.ok false))
     (.ok false))
    (.ok false))
   (.ok false))
  (.ite ((k == (2 : Int)) = true) (.ite ((qp_c tx) = true) (.ite ((qp_v tx) = true) (.ite (((K.length : Int) == (0 : Int)) = true) (.ite ((n == (0 : Int)) = true) (.ite ((tx == tx) = true) (.ok ((R.length : Int) == (0 : Int)))
        (.ok false))
       (.ok false))
      (.ok false))
     (.ok false))
    .no)
   (.ite ((k == (3 : Int)) = true) (.ite ((qbv_c tx K) = true) (.ite ((qbv_v tx K) = true) (.ite (((K.length : Int) == (K.length : Int)) = true) (.ite ((n == (0 : Int)) = true) (.ite ((tx == tx) = true) (.ok ((R.length : Int) == (0 : Int)))
         (.ok false))
        (.ok false))
       (.ok false))
      (.ok false))
     .no)
    (.ite ((k == (4 : Int)) = true) (.ite ((qbl_v (R.length : Int) (1 : Int) (3 : Int)) = true) (.ite ((qt_c R) = true) (.ite ((!(qt_v R)) = true) (.ite (((K.length : Int) == (1 : Int)) = true) (.ite ((n == (0 : Int)) = true) (.ite ((tx == []) = true) (.ok ((R.length : Int) == (R.length : Int)))
           (.ok false))
          (.ok false))
         (.ok false))
        (.ok false))
       .no)
      (.ok false))
     (.ite ((k == (5 : Int)) = true) (.ite (((K.length : Int) == (1 : Int)) = true) (.ite ((n == (0 : Int)) = true) (.ite ((tx == []) = true) (.ok ((R.length : Int) == (0 : Int)))
         (.ok false))
        (.ok false))
       (.ok false))
      (.ite ((qbl_v k (6 : Int) (16 : Int)) = true) (.ite (((K.length : Int) == (2 : Int)) = true) (.ite ((n == (0 : Int)) = true) (.ite ((tx == []) = true) (.ok ((R.length : Int) == (0 : Int)))
          (.ok false))
         (.ok false))
        (.ok false))
       (.ok false)))))))
def qv_mk (p : Bool) : Res := [(false, [⟨.bool, .sh, TC.b p⟩])]
def qv_c (k n : Int) (tx : BS) (K R : LL) : Bool := is (((qp_c tx) = true) ∧ ((qbv_c tx K) = true) ∧ ((qt_c R) = true))
def qv_v (k n : Int) (tx : BS) (K R : LL) : Bool := (bif (k == (1 : Int)) then (bif (qbl_v n (0 : Int) (1000000000000 : Int)) then (bif ((K.length : Int) == (0 : Int)) then (bif (n == n) then (bif (tx == []) then ((R.length : Int) == (0 : Int)) else false) else false) else false) else false) else (bif (k == (2 : Int)) then (bif (qp_v tx) then (bif ((K.length : Int) == (0 : Int)) then (bif (n == (0 : Int)) then (bif (tx == tx) then ((R.length : Int) == (0 : Int)) else false) else false) else false) else false) else (bif (k == (3 : Int)) then (bif (qbv_v tx K) then (bif ((K.length : Int) == (K.length : Int)) then (bif (n == (0 : Int)) then (bif (tx == tx) then ((R.length : Int) == (0 : Int)) else false) else false) else false) else false) else (bif (k == (4 : Int)) then (bif (qbl_v (R.length : Int) (1 : Int) (3 : Int)) then (bif (!(qt_v R)) then (bif ((K.length : Int) == (1 : Int)) then (bif (n == (0 : Int)) then (bif (tx == []) then ((R.length : Int) == (R.length : Int)) else false) else false) else false) else false) else false) else (bif (k == (5 : Int)) then (bif ((K.length : Int) == (1 : Int)) then (bif (n == (0 : Int)) then (bif (tx == []) then ((R.length : Int) == (0 : Int)) else false) else false) else false) else (bif (qbl_v k (6 : Int) (16 : Int)) then (bif ((K.length : Int) == (2 : Int)) then (bif (n == (0 : Int)) then (bif (tx == []) then ((R.length : Int) == (0 : Int)) else false) else false) else false) else false))))))
theorem qv_l (k n : Int) (tx : BS) (K R : LL) : (qv_c k n tx K R) = true → (qv_t k n tx K R).val = some (qv_v k n tx K R) := by
  intro h
  obtain ⟨g0, g1, g2⟩ := is_iff.1 h
  unfold qv_t qv_v
  exact (Tr.s (Tr.s (Tr.s (Tr.s (Tr.s rfl rfl) rfl) rfl) rfl) (Tr.s (Tr.t g0 (Tr.s (Tr.s (Tr.s (Tr.s rfl rfl) rfl) rfl) rfl)) (Tr.s (Tr.t g1 (Tr.s (Tr.s (Tr.s (Tr.s rfl rfl) rfl) rfl) rfl)) (Tr.s (Tr.s (Tr.t g2 (Tr.s (Tr.s (Tr.s (Tr.s rfl rfl) rfl) rfl) rfl)) rfl) (Tr.s (Tr.s (Tr.s (Tr.s rfl rfl) rfl) rfl) (Tr.s (Tr.s (Tr.s (Tr.s rfl rfl) rfl) rfl) rfl))))))
def qv_S : List Arg → Option (Bool × Res) := fun xs => match xs with
  | [(true, [(.int .i64, TC.i k), (.int .i64, TC.i n), (.str, TC.s tx), (.slice 31, TC.l K), (.slice 59, TC.l R)])] => some ((qv_c k n tx K R), qv_mk (qv_v k n tx K R))
  | _ => .none
theorem qv_e (k n : Int) (tx : BS) (K R : LL) : runF tab FT D30 live 33 noLoops [(true, [(.int .i64, TC.i k), (.int .i64, TC.i n), (.str, TC.s tx), (.slice 31, TC.l K), (.slice 59, TC.l R)])] = (qv_t k n tx K R).run fun p => some (qv_mk p) := by kernel_rfl
theorem qv_s : ∀ xs r, qv_S xs = some (true, r) → runF tab FT D30 live 33 noLoops xs = some r := by
  intro xs r h
  unfold qv_S at h
  split at h
  · obtain ⟨h1, rfl⟩ := sp h
    exact fun_told (qv_e ..) (qv_l _ _ _ _ _) h1
  · cases h
def D31 : Dt := also D30 33 qv_S
theorem d31 : DOk Go.Proofs.Try.prog tab D31 := d30.also mixed_ok tab_ok names_ok noLoops_ok qv_s
theorem red_v (s : BS) : qbd_v s = redS s := by
  have e : qbd_v s = decide ((bif ([[TC.s [115, 117, 109]], [TC.s [109, 105, 110]], [TC.s [109, 97, 120]], [TC.s [99, 111, 117, 110, 116]]] : LL).all (fun x => !(s == (nth x 0).str)) then (-1 : Int) else qb_u2_3 [[TC.s [115, 117, 109]], [TC.s [109, 105, 110]], [TC.s [109, 97, 120]], [TC.s [99, 111, 117, 110, 116]]] s 4 0) ≥ 0) := rfl
  rw [e]
  have e2 : ([[TC.s [115, 117, 109]], [TC.s [109, 105, 110]], [TC.s [109, 97, 120]], [TC.s [99, 111, 117, 110, 116]]] : LL).all (fun x => !(s == (nth x 0).str)) = !(redS s) := by
    show (!(s == [115, 117, 109]) && (!(s == [109, 105, 110]) && (!(s == [109, 97, 120]) && (!(s == [99, 111, 117, 110, 116]) && true)))) = _
    unfold redS
    cases s == [115, 117, 109] <;> cases s == [109, 105, 110] <;> cases s == [109, 97, 120] <;> cases s == [99, 111, 117, 110, 116] <;> rfl
  rw [e2]
  cases redS s with
  | false => rfl
  | true =>
    have h0 : (qb_u2_3 [[TC.s [115, 117, 109]], [TC.s [109, 105, 110]], [TC.s [109, 97, 120]], [TC.s [99, 111, 117, 110, 116]]] s 4 0) ≥ 0 := Int.natCast_nonneg _
    show decide (qb_u2_3 _ s 4 0 ≥ 0) = true
    exact decide_eq_true h0
theorem red_c (s : BS) : qbd_c s = true := by
  have ht : Typed tab (.slice 9) (.l [[TC.s [115, 117, 109]], [TC.s [109, 105, 110]], [TC.s [109, 97, 120]], [TC.s [99, 111, 117, 110, 116]]]) := by
    have hx : ∀ x, x ∈ ([[TC.s [115, 117, 109]], [TC.s [109, 105, 110]], [TC.s [109, 97, 120]], [TC.s [99, 111, 117, 110, 116]]] : LL) → ∃ l : BS, x = [TC.s l] ∧ l.length ≤ 5 := fun x hx => by
      simp only [List.mem_cons, List.not_mem_nil, or_false] at hx
      rcases hx with rfl | rfl | rfl | rfl <;> exact ⟨_, rfl, by decide⟩
    refine .slice _ _ (by decide) (by decide) (fun x hm => ?_) (fun x hm k hk => ?_)
    · obtain ⟨l, rfl, _⟩ := hx x hm; rfl
    · obtain ⟨l, rfl, hl⟩ := hx x hm
      have : k = 0 := by have : k < 1 := hk; omega
      subst this
      exact .str l (by show l.length ≤ 140737488351232; omega)
  show qb_c _ s = true
  exact is_true ⟨is_true ⟨rfl, ht, rfl⟩, is_true ⟨rfl, ht, rfl⟩⟩
theorem qv_cc {k n : Int} {tx : BS} {K R : LL} (t2 : Typed tab .str (.s tx)) (t3 : Typed tab (.slice 31) (.l K)) (t4 : Typed tab (.slice 59) (.l R)) : qv_c k n tx K R = true :=
  is_true ⟨qp_cc t2, is_true ⟨t3, typed_str_len t2, red_c tx⟩, is_true t4⟩
theorem qv_vv (k n : Int) (tx : BS) (K R : LL) : qv_v k n tx K R = nodeB k n tx K R := by
  have hin : ∀ a b c : Int, qbl_v a b c = inX a b c := fun _ _ _ => rfl
  have hcall : qbv_v tx K = callB tx K := by
    show (bif qbd_v tx then redK K else mapK tx K) = _
    rw [red_v]; rfl
  have hR : qt_v R = !(R.all ranB) := by
    unfold qt_v
    refine congrArg (fun b => !b) (congrArg (fun p => R.all p) (funext fun x => ?_))
    unfold qbe_v
    rw [Bool.not_not]
    rfl
  unfold qv_v
  rw [hcall, hR, qp_vv]
  simp only [hin]
  unfold nodeB
  by_cases k1 : k = 1
  · subst k1
    rw [beq_self_eq_true n]
    cases inX n 0 1000000000000 <;> cases (tx == ([] : BS)) <;> cases ((K.length : Int) == 0) <;> cases ((R.length : Int) == 0) <;> rfl
  rw [show (k == 1) = false from by simpa using k1]
  by_cases k2 : k = 2
  · subst k2
    rw [beq_self_eq_true tx]
    cases (n == 0) <;> cases nameOk tx <;> cases ((K.length : Int) == 0) <;> cases ((R.length : Int) == 0) <;> rfl
  rw [show (k == 2) = false from by simpa using k2]
  by_cases k3 : k = 3
  · subst k3
    rw [beq_self_eq_true tx, beq_self_eq_true (K.length : Int)]
    cases (n == 0) <;> cases callB tx K <;> cases ((R.length : Int) == 0) <;> rfl
  rw [show (k == 3) = false from by simpa using k3]
  by_cases k4 : k = 4
  · subst k4
    rw [beq_self_eq_true (R.length : Int)]
    cases (n == 0) <;> cases inX (R.length : Int) 1 3 <;> cases R.all ranB <;> cases (tx == ([] : BS)) <;> cases ((K.length : Int) == 1) <;> rfl
  rw [show (k == 4) = false from by simpa using k4]
  by_cases k5 : k = 5
  · subst k5
    cases (n == 0) <;> cases ((R.length : Int) == 0) <;> cases (tx == ([] : BS)) <;> cases ((K.length : Int) == 1) <;> rfl
  rw [show (k == 5) = false from by simpa using k5]
  cases inX k 6 16 <;> cases (n == 0) <;> cases ((R.length : Int) == 0) <;> cases (tx == ([] : BS)) <;> cases ((K.length : Int) == 2) <;> rfl
section
class qd_O where n : Nat
variable [i_impl_Exp_count : qd_O]
def qd_rc (k n : Int) (tx : BS) (K R : LL) (left : Int) : Bool := is (rowsDep K < qd_O.n ∧ Typed tab (.slice 31) (.l K) ∧ Typed tab (.slice 59) (.l R) ∧ Typed tab .str (.s tx) ∧ 0 ≤ left ∧ left ≤ 40)
def qd_rv (k n : Int) (tx : BS) (K R : LL) (left : Int) : Int × Bool := cntV k n tx K R left
def qd_rmk (p : Int × Bool) : Res := [(false, [⟨.int .i64, .sh, TC.i (p.1)⟩]), (false, [⟨.bool, .sh, TC.b (p.2)⟩])]
def qd_rS : List Arg → Option (Bool × Res) := fun xs => match xs with
  | [(true, [(.int .i64, TC.i k), (.int .i64, TC.i n), (.str, TC.s tx), (.slice 31, TC.l K), (.slice 59, TC.l R)]), (false, [(.int .i64, TC.i left)])] => some ((qd_rc k n tx K R left), qd_rmk (qd_rv k n tx K R left))
  | _ => .none
def D32 : Dt := also D31 21 qd_rS
class qd_G : Prop where ok : DOk Go.Proofs.Try.prog tab D32
variable [g_impl_Exp_count : qd_G]
theorem d32 : DOk Go.Proofs.Try.prog tab D32 := qd_G.ok
abbrev qd_6_σ := Int × Int × Int × BS × LL × LL × LL × Int × Int
abbrev qd_6_ω := (Int) ⊕ (Int)
def qd_6_step (left k n : Int) (tx : BS) (K R Q : LL) (m i : Int) : Tr (qd_6_σ ⊕ qd_6_ω) := (.ite ((decide (i < m)) = true) (.ite ((0 : Int) ≤ i ∧ i < (Q.length : Int)) (.ite ((qd_rc ((nth (row Q i) 0).int) ((nth (row Q i) 1).int) ((nth (row Q i) 2).str) ((nth (row Q i) 3).list) ((nth (row Q i) 4).list) left) = true) (.ite ((!(qd_rv ((nth (row Q i) 0).int) ((nth (row Q i) 1).int) ((nth (row Q i) 2).str) ((nth (row Q i) 3).list) ((nth (row Q i) 4).list) left).2) = true) (.ok (.inr (.inl ((qd_rv ((nth (row Q i) 0).int) ((nth (row Q i) 1).int) ((nth (row Q i) 2).str) ((nth (row Q i) 3).list) ((nth (row Q i) 4).list) left).1))))
     (.ok (.inl ((qd_rv ((nth (row Q i) 0).int) ((nth (row Q i) 1).int) ((nth (row Q i) 2).str) ((nth (row Q i) 3).list) ((nth (row Q i) 4).list) left).1, k, n, tx, K, R, Q, m, (IntKind.wrap .i64 (i + (1 : Int)))))))
    .no)
   .no)
  (.ok (.inr (.inr left))))
def qd_6_st : qd_6_σ → Tr (qd_6_σ ⊕ qd_6_ω) := fun x => (qd_6_step (x.1) (x.2.1) (x.2.2.1) (x.2.2.2.1) (x.2.2.2.2.1) (x.2.2.2.2.2.1) (x.2.2.2.2.2.2.1) (x.2.2.2.2.2.2.2.1) (x.2.2.2.2.2.2.2.2))
def qd_k6_1 (left k n : Int) (tx : BS) (K R Q : LL) (m i : Int) : Bool := (Q.all okX && decide ((sumX Q : Int) ≤ left))
def qd_o6_2 (left k n : Int) (tx : BS) (K R Q : LL) (m i : Int) : Bool := is (i = 0 ∧ m = (Q.length : Int) ∧ Q.length ≤ 140737488355328 ∧ 0 ≤ left ∧ left ≤ 40 ∧ ∀ (x : List TC) (l : Int), x ∈ Q → 0 ≤ l → l ≤ 40 → qd_rc (nth x 0).int (nth x 1).int (nth x 2).str (nth x 3).list (nth x 4).list l = true)
def qd_u6_2 (left k n : Int) (tx : BS) (K R Q : LL) (m i : Int) : Int := left - (sumX Q : Int)
def qd_o6_3 (left k n : Int) (tx : BS) (K R Q : LL) (m i : Int) : Bool := (qd_o6_2 left k n tx K R Q m i)
def qd_u6_3 (left k n : Int) (tx : BS) (K R Q : LL) (m i : Int) : Int := (0 : Int)
def qd_6_fin (left k n : Int) (tx : BS) (K R Q : LL) (m i : Int) : Told qd_6_ω := (.br (qd_k6_1 left k n tx K R Q m i) (.leaf (qd_o6_2 left k n tx K R Q m i) (.inr (qd_u6_2 left k n tx K R Q m i))) (.leaf (qd_o6_3 left k n tx K R Q m i) (.inl (qd_u6_3 left k n tx K R Q m i))))
def qd_6_sl (x : qd_6_σ) : List Slot := [⟨.val false [⟨.int .i64, .sh, TC.i (x.1)⟩], ⟨0, 0⟩⟩, ⟨.bx 31 [⟨.int .i64, .sh, TC.i (x.2.1)⟩, ⟨.int .i64, .sh, TC.i (x.2.2.1)⟩, ⟨.str, .sh, TC.s (x.2.2.2.1)⟩, ⟨.slice 31, .sh, TC.l (x.2.2.2.2.1)⟩, ⟨.slice 59, .sh, TC.l (x.2.2.2.2.2.1)⟩], ⟨0, 0⟩⟩, ⟨.val false [⟨.slice 31, .sh, TC.l (x.2.2.2.2.2.2.1)⟩], ⟨0, 0⟩⟩, ⟨.val false [⟨.int .i64, .sh, TC.i (x.2.2.2.2.2.2.2.1)⟩], ⟨0, 0⟩⟩, ⟨.val false [⟨.int .i64, .sh, TC.i (x.2.2.2.2.2.2.2.2)⟩], ⟨0, 0⟩⟩]
def qd_6_out : qd_6_ω → Ex × List Slot := (Sum.elim (fun x => (.ret, [⟨.val false [⟨.int .i64, .sh, TC.i x⟩], ⟨0, 0⟩⟩, ⟨.val false [⟨.int .i64, .sh, TC.i (0 : Int)⟩], ⟨0, 0⟩⟩, ⟨.val false [⟨.bool, .sh, TC.b false⟩], ⟨0, 0⟩⟩])) (fun x => (.exit 0, [⟨.val false [⟨.int .i64, .sh, TC.i x⟩], ⟨0, 0⟩⟩, Slot.none, Slot.none])))
def qd_lo6 : List Slot → Option (Told (Ex × List Slot)) := fun s => match s with
  | [⟨.val false [⟨.int .i64, .sh, TC.i left⟩], ⟨0, 0⟩⟩, ⟨.bx 31 [⟨.int .i64, .sh, TC.i k⟩, ⟨.int .i64, .sh, TC.i n⟩, ⟨.str, .sh, TC.s tx⟩, ⟨.slice 31, .sh, TC.l K⟩, ⟨.slice 59, .sh, TC.l R⟩], ⟨0, 0⟩⟩, ⟨.val false [⟨.slice 31, .sh, TC.l Q⟩], ⟨0, 0⟩⟩, ⟨.val false [⟨.int .i64, .sh, TC.i m⟩], ⟨0, 0⟩⟩, ⟨.val false [⟨.int .i64, .sh, TC.i i⟩], ⟨0, 0⟩⟩] => some (((qd_6_fin left k n tx K R Q m i)).map qd_6_out)
  | _ => .none
def qd_lo : LoopTeller := fun r s => bif Nat.beq r 6 then qd_lo6 s else .none
theorem qd_6_r (left k n : Int) (tx : BS) (K R Q : LL) (m i : Int) (fuel : Nat) : rounds (rnd tab FT D32 live 21 qd_lo 0 6) leave (fuel + 1) (qd_6_sl (left, k, n, tx, K, R, Q, m, i)) = ((qd_6_step left k n tx K R Q m i)).run (goOn (fun s => rounds (rnd tab FT D32 live 21 qd_lo 0 6) leave fuel (qd_6_sl s)) fun w => some (qd_6_out w)) := by kernel_rfl
theorem qd_6_h (left k n : Int) (tx : BS) (K R Q : LL) (m i : Int) (ow : qd_6_ω) : ((qd_6_fin left k n tx K R Q m i)).val = some ow → ∃ fuel, loopN qd_6_st fuel (left, k, n, tx, K, R, Q, m, i) = some ow := by
  intro h
  refine auto_br (K := (Q.all okX && decide ((sumX Q : Int) ≤ left))) rfl (fun ho => ?_) h
  have ho := ho.elim id id
  obtain ⟨rfl, rfl, hlen, h0, h1, hr⟩ := is_iff.1 ho
  have key : ∀ (rest : LL) (j : Nat) (l : Int), Q.drop j = rest → 0 ≤ l → l ≤ 40 → ∃ M, loopN qd_6_st M (l, k, n, tx, K, R, Q, (Q.length : Int), (j : Int)) = some (bif (rest.all okX && decide ((sumX rest : Int) ≤ l)) then .inr (l - (sumX rest : Int)) else .inl (0 : Int)) := by
    intro rest
    induction rest with
    | nil =>
      intro j l hd h0 h1
      have hj : Q.length ≤ j := by have := congrArg List.length hd; rw [List.length_drop, List.length_nil] at this; omega
      refine ⟨1, loopN_end ?_⟩
      show (qd_6_step l k n tx K R Q (Q.length : Int) (j : Int)).val = _
      unfold qd_6_step
      refine Tr.n (by simp; omega) ?_
      rw [Tr.val_ok]
      have e : sumX [] = 0 := rfl
      rw [e, decide_eq_true (show ((0 : Nat) : Int) ≤ l by omega)]
      show some (Sum.inr (Sum.inr l)) = some (Sum.inr (Sum.inr (l - 0)))
      rw [Int.sub_zero]
    | cons x rest ih =>
      intro j l hd h0 h1
      obtain ⟨hj, hrow, hdr⟩ := row_drop hd
      have hx : x ∈ Q := by rw [← hrow, row_nat]; exact mem_getD hj
      have hst : (qd_6_step l k n tx K R Q (Q.length : Int) (j : Int)).val = (bif (okX x && decide ((numX x : Int) ≤ l)) then some (.inl (l - (numX x : Int), k, n, tx, K, R, Q, (Q.length : Int), ((j + 1 : Nat) : Int))) else some (.inr (.inl (0 : Int)))) := by
        unfold qd_6_step
        rw [hrow]
        refine Tr.t (by simp; omega) (Tr.t ⟨by omega, by omega⟩ (Tr.t (hr x l hx h0 h1) ?_))
        have ev : qd_rv (nth x 0).int (nth x 1).int (nth x 2).str (nth x 3).list (nth x 4).list l = bif (okX x && decide ((numX x : Int) ≤ l)) then (l - (numX x : Int), true) else (0, false) := rfl
        rw [ev]
        cases hc : (okX x && decide ((numX x : Int) ≤ l)) with
        | false => exact Tr.t rfl rfl
        | true =>
          refine Tr.n (by simp) ?_
          rw [Tr.val_ok, wrap64 (i := (j : Int) + 1) (by omega) (by omega)]
          rfl
      rw [List.all_cons, sumX_cons]
      cases hc : (okX x && decide ((numX x : Int) ≤ l)) with
      | false =>
        rw [hc] at hst
        refine ⟨1, (loopN_end hst).trans ?_⟩
        cases hox : okX x with
        | false => rfl
        | true =>
          rw [hox, Bool.true_and, decide_eq_false_iff_not] at hc
          rw [decide_eq_false (show ¬ ((numX x + sumX rest : Nat) : Int) ≤ l by omega), Bool.and_false]
          rfl
      | true =>
        rw [hc] at hst
        rw [Bool.and_eq_true, decide_eq_true_eq] at hc
        obtain ⟨M, hM⟩ := ih (j + 1) (l - (numX x : Int)) hdr (by omega) (by omega)
        refine ⟨M + 1, (loopN_next hst).trans (hM.trans ?_)⟩
        rw [hc.1, Bool.true_and]
        have e1 : decide (((numX x + sumX rest : Nat) : Int) ≤ l) = decide ((sumX rest : Int) ≤ l - (numX x : Int)) := decide_eq_decide.2 (by omega)
        have e2 : l - ((numX x + sumX rest : Nat) : Int) = l - (numX x : Int) - (sumX rest : Int) := by omega
        rw [e1, e2]
  exact key Q 0 left rfl h0 h1
theorem qd_is6 : LoopIs tab FT D32 live 21 qd_lo 0 6 := by
  refine loop_told (sl := qd_6_sl) (step := qd_6_st) (out := qd_6_out) (lor := qd_lo6) (fin := fun x => (qd_6_fin (x.1) (x.2.1) (x.2.2.1) (x.2.2.2.1) (x.2.2.2.2.1) (x.2.2.2.2.2.1) (x.2.2.2.2.2.2.1) (x.2.2.2.2.2.2.2.1) (x.2.2.2.2.2.2.2.2))) (fun _ => rfl) ?_ (fun x n => qd_6_r x.1 x.2.1 x.2.2.1 x.2.2.2.1 x.2.2.2.2.1 x.2.2.2.2.2.1 x.2.2.2.2.2.2.1 x.2.2.2.2.2.2.2.1 x.2.2.2.2.2.2.2.2 n) (fun x ow => qd_6_h x.1 x.2.1 x.2.2.1 x.2.2.2.1 x.2.2.2.2.1 x.2.2.2.2.2.1 x.2.2.2.2.2.2.1 x.2.2.2.2.2.2.2.1 x.2.2.2.2.2.2.2.2 ow)
  intro s t h
  unfold qd_lo6 at h
  split at h
  · cases h; exact ⟨(_, _, _, _, _, _, _, _, _), rfl, rfl⟩
  · cases h
def qd_t (k n : Int) (tx : BS) (K R : LL) (left : Int) : Tr (Int × Bool) := (.ite ((decide ((IntKind.wrap .i64 (left - (1 : Int))) < (0 : Int))) = true) (.ok ((0 : Int), false))
  (.ite ((qv_c k n tx K R) = true) (.ite ((!(qv_v k n tx K R)) = true) (.ok ((0 : Int), false))
    (.ite ((qd_k6_1 (IntKind.wrap .i64 (left - (1 : Int))) k n tx K R K (K.length : Int) (0 : Int)) = true) (.ite ((qd_o6_2 (IntKind.wrap .i64 (left - (1 : Int))) k n tx K R K (K.length : Int) (0 : Int)) = true) (.ok ((qd_u6_2 (IntKind.wrap .i64 (left - (1 : Int))) k n tx K R K (K.length : Int) (0 : Int)), true))
      .no)
     (.ite ((qd_o6_3 (IntKind.wrap .i64 (left - (1 : Int))) k n tx K R K (K.length : Int) (0 : Int)) = true) (.ok ((0 : Int), false))
      .no)))
   .no))
def qd_mk (p : Int × Bool) : Res := [(false, [⟨.int .i64, .sh, TC.i (p.1)⟩]), (false, [⟨.bool, .sh, TC.b (p.2)⟩])]
def qd_c (k n : Int) (tx : BS) (K R : LL) (left : Int) : Bool := (bif (decide ((IntKind.wrap .i64 (left - (1 : Int))) < (0 : Int))) then true else ((qv_c k n tx K R) && (bif (!(qv_v k n tx K R)) then true else (bif (qd_k6_1 (IntKind.wrap .i64 (left - (1 : Int))) k n tx K R K (K.length : Int) (0 : Int)) then ((qd_o6_2 (IntKind.wrap .i64 (left - (1 : Int))) k n tx K R K (K.length : Int) (0 : Int)) && true) else ((qd_o6_3 (IntKind.wrap .i64 (left - (1 : Int))) k n tx K R K (K.length : Int) (0 : Int)) && true)))))
def qd_v (k n : Int) (tx : BS) (K R : LL) (left : Int) : Int × Bool := (bif (decide ((IntKind.wrap .i64 (left - (1 : Int))) < (0 : Int))) then ((0 : Int), false) else (bif (!(qv_v k n tx K R)) then ((0 : Int), false) else (bif (qd_k6_1 (IntKind.wrap .i64 (left - (1 : Int))) k n tx K R K (K.length : Int) (0 : Int)) then ((qd_u6_2 (IntKind.wrap .i64 (left - (1 : Int))) k n tx K R K (K.length : Int) (0 : Int)), true) else ((0 : Int), false))))
theorem qd_l (k n : Int) (tx : BS) (K R : LL) (left : Int) : (qd_c k n tx K R left) = true → (qd_t k n tx K R left).val = some (qd_v k n tx K R left) := by
  unfold qd_t qd_v qd_c
  exact fun h => (Tr.ss h (fun h => rfl) (fun h => (Tr.gb h fun h => (Tr.ss h (fun h => rfl) (fun h => (Tr.ss h (fun h => (Tr.gb h fun h => rfl)) (fun h => (Tr.gb h fun h => rfl))))))))
theorem qd_e (k n : Int) (tx : BS) (K R : LL) (left : Int) : runF tab FT D32 live 21 qd_lo [(true, [(.int .i64, TC.i k), (.int .i64, TC.i n), (.str, TC.s tx), (.slice 31, TC.l K), (.slice 59, TC.l R)]), (false, [(.int .i64, TC.i left)])] = (qd_t k n tx K R left).run fun p => some (qd_mk p) := by kernel_rfl
theorem qd_nx (k n : Int) (tx : BS) (K R : LL) (left : Int) : is (rowsDep K < qd_O.n + 1 ∧ Typed tab (.slice 31) (.l K) ∧ Typed tab (.slice 59) (.l R) ∧ Typed tab .str (.s tx) ∧ 0 ≤ left ∧ left ≤ 40) = true → (qd_c k n tx K R left) = true ∧ (qd_v k n tx K R left) = cntV k n tx K R left := by
  intro h
  obtain ⟨hM, t3, t4, t2, h0, h1⟩ := is_iff.1 h
  have hf : qv_c k n tx K R = true := qv_cc t2 t3 t4
  have hl := typed_room t3
  simp only [show (tab 31).bytes = 80 from rfl] at hl
  have ho : ∀ l : Int, 0 ≤ l → l ≤ 40 → qd_o6_2 l k n tx K R K (K.length : Int) 0 = true ∧ qd_o6_3 l k n tx K R K (K.length : Int) 0 = true := fun l a b => by
    have h2 : (0 : Int) = 0 ∧ (K.length : Int) = (K.length : Int) ∧ K.length ≤ 140737488355328 ∧ 0 ≤ l ∧ l ≤ 40 ∧ ∀ (x : List TC) (l : Int), x ∈ K → 0 ≤ l → l ≤ 40 → qd_rc (nth x 0).int (nth x 1).int (nth x 2).str (nth x 3).list (nth x 4).list l = true := ⟨rfl, rfl, by omega, a, b, fun x l hx c d => is_true ⟨by have := dep_cell hx 3; omega, typed_list ((typed_elem t3 hx).2 3 (by decide)), typed_list ((typed_elem t3 hx).2 4 (by decide)), typed_s ((typed_elem t3 hx).2 2 (by decide)), c, d⟩⟩
    exact ⟨is_true h2, is_true h2⟩
  unfold qd_c qd_v cntV
  rw [qv_vv, okE_eq, numE_eq, wrap64 (i := left - 1) (by omega) (by omega)]
  by_cases h2 : left - 1 < 0
  · rw [decide_eq_true h2]
    refine ⟨rfl, ?_⟩
    rw [decide_eq_false (show ¬ ((1 + sumX K : Nat) : Int) ≤ left by omega), Bool.and_false]
    rfl
  · rw [decide_eq_false h2, hf]
    obtain ⟨o2, o3⟩ := ho (left - 1) (by omega) (by omega)
    rw [o2, o3]
    have ek : qd_k6_1 (left - 1) k n tx K R K (K.length : Int) 0 = (K.all okX && decide ((sumX K : Int) ≤ left - 1)) := rfl
    have eu : qd_u6_2 (left - 1) k n tx K R K (K.length : Int) 0 = left - 1 - (sumX K : Int) := rfl
    have e1 : decide (((1 + sumX K : Nat) : Int) ≤ left) = decide ((sumX K : Int) ≤ left - 1) := decide_eq_decide.2 (by omega)
    have e2 : left - ((1 + sumX K : Nat) : Int) = left - 1 - (sumX K : Int) := by omega
    rw [ek, eu, e1, e2]
    cases nodeB k n tx K R <;> cases K.all okX <;> cases decide ((sumX K : Int) ≤ left - 1) <;> exact ⟨rfl, rfl⟩
theorem qd_nxr (k n : Int) (tx : BS) (K R : LL) (left : Int) : qd_rc (i_impl_Exp_count := ⟨qd_O.n + 1⟩) k n tx K R left = true → (qd_c k n tx K R left) = true ∧ (qd_v k n tx K R left) = (qd_rv k n tx K R left) := fun h => qd_nx k n tx K R left h
theorem qd_rs : ∀ xs r, qd_rS (i_impl_Exp_count := ⟨qd_O.n + 1⟩) xs = some (true, r) → runF tab FT D32 live 21 qd_lo xs = some r := by
  intro xs r h
  unfold qd_rS at h
  split at h
  · obtain ⟨h1, rfl⟩ := sp h
    have hx := qd_nxr _ _ _ _ _ _ h1
    have ht := fun_told (qd_e ..) (qd_l _ _ _ _ _ _) hx.1
    rw [hx.2] at ht
    exact ht
  · cases h
theorem qd_step : qd_G (i_impl_Exp_count := ⟨qd_O.n + 1⟩) := by
  have h := DOk.also2 (S := qd_rS (i_impl_Exp_count := ⟨qd_O.n + 1⟩)) mixed_ok tab_ok names_ok d31 d32 (fnLoops_one (by kernel_rfl) qd_is6) qd_rs
  refine qd_G.mk (i_impl_Exp_count := ⟨qd_O.n + 1⟩) ?_
  exact h
def qbn_t (a0 a1 : Int) (a2 : BS) (a3 a4 : LL) : Tr (Bool) := (.ite ((qd_rc a0 a1 a2 a3 a4 (40 : Int)) = true) (.ok ((qd_rv a0 a1 a2 a3 a4 (40 : Int)).2))
  .no)
def qbn_mk (p : Bool) : Res := [(false, [⟨.bool, .sh, TC.b p⟩])]
def qbn_c (a0 a1 : Int) (a2 : BS) (a3 a4 : LL) : Bool := (qd_rc a0 a1 a2 a3 a4 (40 : Int))
def qbn_v (a0 a1 : Int) (a2 : BS) (a3 a4 : LL) : Bool := (qd_rv a0 a1 a2 a3 a4 (40 : Int)).2
theorem qbn_l (a0 a1 : Int) (a2 : BS) (a3 a4 : LL) : (qbn_c a0 a1 a2 a3 a4) = true → (qbn_t a0 a1 a2 a3 a4).val = some (qbn_v a0 a1 a2 a3 a4) := by
  intro h
  have hc0 : (qd_rc a0 a1 a2 a3 a4 (40 : Int)) = true := h
  unfold qbn_t
  exact (Tr.t hc0 rfl)
def qbn_S : List Arg → Option (Bool × Res) := fun xs => match xs with
  | [(true, [(.int .i64, TC.i a0), (.int .i64, TC.i a1), (.str, TC.s a2), (.slice 31, TC.l a3), (.slice 59, TC.l a4)])] => some ((qbn_c a0 a1 a2 a3 a4), qbn_mk (qbn_v a0 a1 a2 a3 a4))
  | _ => .none
theorem qbn_e (a0 a1 : Int) (a2 : BS) (a3 a4 : LL) : runF tab FT D32 live 8 noLoops [(true, [(.int .i64, TC.i a0), (.int .i64, TC.i a1), (.str, TC.s a2), (.slice 31, TC.l a3), (.slice 59, TC.l a4)])] = (qbn_t a0 a1 a2 a3 a4).run fun p => some (qbn_mk p) := by kernel_rfl
theorem qbn_s : ∀ xs r, qbn_S xs = some (true, r) → runF tab FT D32 live 8 noLoops xs = some r := by
  intro xs r h
  unfold qbn_S at h
  split at h
  · obtain ⟨h1, rfl⟩ := sp h
    exact fun_told (qbn_e ..) (qbn_l _ _ _ _ _) h1
  · cases h
def D33 : Dt := also D32 8 qbn_S
theorem d33 : DOk Go.Proofs.Try.prog tab D33 := d32.also mixed_ok tab_ok names_ok noLoops_ok qbn_s
section
class qf_O where n : Nat
variable [i_impl_Exp_names : qf_O]
def qf_rc (k n : Int) (tx : BS) (K R : LL) : Bool := is (rowsDep K < qf_O.n ∧ Typed tab (.slice 31) (.l K) ∧ numE K ≤ 100000)
def qf_rv (k n : Int) (tx : BS) (K R : LL) : LL := nmE k tx K
def qf_rmk (p : LL) : Res := [(false, [⟨.slice 9, .own true, TC.l p⟩])]
def qf_rS : List Arg → Option (Bool × Res) := fun xs => match xs with
  | [(true, [(.int .i64, TC.i k), (.int .i64, TC.i n), (.str, TC.s tx), (.slice 31, TC.l K), (.slice 59, TC.l R)])] => some ((qf_rc k n tx K R), qf_rmk (qf_rv k n tx K R))
  | _ => .none
def D34 : Dt := also D33 25 qf_rS
class qf_G : Prop where ok : DOk Go.Proofs.Try.prog tab D34
variable [g_impl_Exp_names : qf_G]
theorem d34 : DOk Go.Proofs.Try.prog tab D34 := qf_G.ok
abbrev qf_5_σ := Int × Int × BS × LL × LL × LL × LL × Int × Int
abbrev qf_5_ω := (LL)
def qf_5_step (k n : Int) (tx : BS) (K R X Q : LL) (m i : Int) : Tr (qf_5_σ ⊕ qf_5_ω) := (.ite ((decide (i < m)) = true) (.ite ((0 : Int) ≤ i ∧ i < (Q.length : Int)) (.ite ((qf_rc ((nth (row Q i) 0).int) ((nth (row Q i) 1).int) ((nth (row Q i) 2).str) ((nth (row Q i) 3).list) ((nth (row Q i) 4).list)) = true) (.ite (roomFor (tab 9) (X ++ (qf_rv ((nth (row Q i) 0).int) ((nth (row Q i) 1).int) ((nth (row Q i) 2).str) ((nth (row Q i) 3).list) ((nth (row Q i) 4).list))).length) (.ok (.inl (k, n, tx, K, R, (X ++ (qf_rv ((nth (row Q i) 0).int) ((nth (row Q i) 1).int) ((nth (row Q i) 2).str) ((nth (row Q i) 3).list) ((nth (row Q i) 4).list))), Q, m, (IntKind.wrap .i64 (i + (1 : Int))))))
     .no)
    .no)
   .no)
  (.ok (.inr X)))
def qf_5_st : qf_5_σ → Tr (qf_5_σ ⊕ qf_5_ω) := fun x => (qf_5_step (x.1) (x.2.1) (x.2.2.1) (x.2.2.2.1) (x.2.2.2.2.1) (x.2.2.2.2.2.1) (x.2.2.2.2.2.2.1) (x.2.2.2.2.2.2.2.1) (x.2.2.2.2.2.2.2.2))
def qf_o5_1 (k n : Int) (tx : BS) (K R X Q : LL) (m i : Int) : Bool := is (i = 0 ∧ m = (Q.length : Int) ∧ Q.length ≤ 140737488355328 ∧ X = [] ∧ sumX Q ≤ 100000 ∧ ∀ x : List TC, x ∈ Q → qf_rc (nth x 0).int (nth x 1).int (nth x 2).str (nth x 3).list (nth x 4).list = true)
def qf_u5_1 (k n : Int) (tx : BS) (K R X Q : LL) (m i : Int) : LL := Q.flatMap nmX
def qf_5_fin (k n : Int) (tx : BS) (K R X Q : LL) (m i : Int) : Told qf_5_ω := (.leaf (qf_o5_1 k n tx K R X Q m i) (qf_u5_1 k n tx K R X Q m i))
def qf_5_sl (x : qf_5_σ) : List Slot := [⟨.bx 31 [⟨.int .i64, .sh, TC.i (x.1)⟩, ⟨.int .i64, .sh, TC.i (x.2.1)⟩, ⟨.str, .sh, TC.s (x.2.2.1)⟩, ⟨.slice 31, .sh, TC.l (x.2.2.2.1)⟩, ⟨.slice 59, .sh, TC.l (x.2.2.2.2.1)⟩], ⟨0, 0⟩⟩, ⟨.val false [⟨.slice 9, .own true, TC.l (x.2.2.2.2.2.1)⟩], ⟨0, 0⟩⟩, ⟨.val false [⟨.slice 31, .sh, TC.l (x.2.2.2.2.2.2.1)⟩], ⟨0, 0⟩⟩, ⟨.val false [⟨.int .i64, .sh, TC.i (x.2.2.2.2.2.2.2.1)⟩], ⟨0, 0⟩⟩, ⟨.val false [⟨.int .i64, .sh, TC.i (x.2.2.2.2.2.2.2.2)⟩], ⟨0, 0⟩⟩]
def qf_5_out : qf_5_ω → Ex × List Slot := (fun x => (.exit 0, [Slot.none, ⟨.val false [⟨.slice 9, .own true, TC.l x⟩], ⟨0, 0⟩⟩]))
def qf_lo5 : List Slot → Option (Told (Ex × List Slot)) := fun s => match s with
  | [⟨.bx 31 [⟨.int .i64, .sh, TC.i k⟩, ⟨.int .i64, .sh, TC.i n⟩, ⟨.str, .sh, TC.s tx⟩, ⟨.slice 31, .sh, TC.l K⟩, ⟨.slice 59, .sh, TC.l R⟩], ⟨0, 0⟩⟩, ⟨.val false [⟨.slice 9, .own true, TC.l X⟩], ⟨0, 0⟩⟩, ⟨.val false [⟨.slice 31, .sh, TC.l Q⟩], ⟨0, 0⟩⟩, ⟨.val false [⟨.int .i64, .sh, TC.i m⟩], ⟨0, 0⟩⟩, ⟨.val false [⟨.int .i64, .sh, TC.i i⟩], ⟨0, 0⟩⟩] => some (((qf_5_fin k n tx K R X Q m i)).map qf_5_out)
  | _ => .none
def qf_lo : LoopTeller := fun r s => bif Nat.beq r 5 then qf_lo5 s else .none
theorem qf_5_r (k n : Int) (tx : BS) (K R X Q : LL) (m i : Int) (fuel : Nat) : rounds (rnd tab FT D34 live 25 qf_lo 0 5) leave (fuel + 1) (qf_5_sl (k, n, tx, K, R, X, Q, m, i)) = ((qf_5_step k n tx K R X Q m i)).run (goOn (fun s => rounds (rnd tab FT D34 live 25 qf_lo 0 5) leave fuel (qf_5_sl s)) fun w => some (qf_5_out w)) := by kernel_rfl
theorem qf_5_h (k n : Int) (tx : BS) (K R X Q : LL) (m i : Int) (ow : qf_5_ω) : ((qf_5_fin k n tx K R X Q m i)).val = some ow → ∃ fuel, loopN qf_5_st fuel (k, n, tx, K, R, X, Q, m, i) = some ow := by
  intro h
  refine auto_leaf (R := Q.flatMap nmX) (fun ho => ?_) h
  obtain ⟨rfl, rfl, hlen, rfl, hs, hr⟩ := is_iff.1 ho
  have key : ∀ (rest : LL) (j : Nat) (a : LL), Q.drop j = rest → a.length + sumX rest ≤ 100000 → ∃ M, loopN qf_5_st M (k, n, tx, K, R, a, Q, (Q.length : Int), (j : Int)) = some (a ++ rest.flatMap nmX) := by
    intro rest
    induction rest with
    | nil =>
      intro j a hd h0
      have hj : Q.length ≤ j := by have := congrArg List.length hd; rw [List.length_drop, List.length_nil] at this; omega
      refine ⟨1, loopN_end ?_⟩
      show (qf_5_step k n tx K R a Q (Q.length : Int) (j : Int)).val = _
      unfold qf_5_step
      refine Tr.n (by simp; omega) ?_
      rw [Tr.val_ok]
      simp
    | cons x rest ih =>
      intro j a hd h0
      obtain ⟨hj, hrow, hdr⟩ := row_drop hd
      have hx : x ∈ Q := by rw [← hrow, row_nat]; exact mem_getD hj
      have hnl := nm_len _ x (Nat.le_refl _)
      rw [sumX_cons] at h0
      obtain ⟨M, hM⟩ := ih (j + 1) (a ++ nmX x) hdr (by rw [List.length_append]; omega)
      refine ⟨M + 1, (loopN_next ?_).trans (hM.trans ?_)⟩
      · show (qf_5_step k n tx K R a Q (Q.length : Int) (j : Int)).val = _
        unfold qf_5_step
        rw [hrow]
        have ev : qf_rv (nth x 0).int (nth x 1).int (nth x 2).str (nth x 3).list (nth x 4).list = nmX x := rfl
        rw [ev]
        refine Tr.t (by simp; omega) (Tr.t ⟨by omega, by omega⟩ (Tr.t (hr x hx) (Tr.t (by unfold roomFor; simp only [show (tab 9).bytes = 16 from rfl, List.length_append]; omega) ?_)))
        rw [Tr.val_ok, wrap64 (i := (j : Int) + 1) (by omega) (by omega)]
        rfl
      · rw [List.flatMap_cons, List.append_assoc]
  have := key Q 0 [] rfl (by simpa using hs)
  rw [List.nil_append] at this
  exact this
theorem qf_is5 : LoopIs tab FT D34 live 25 qf_lo 0 5 := by
  refine loop_told (sl := qf_5_sl) (step := qf_5_st) (out := qf_5_out) (lor := qf_lo5) (fin := fun x => (qf_5_fin (x.1) (x.2.1) (x.2.2.1) (x.2.2.2.1) (x.2.2.2.2.1) (x.2.2.2.2.2.1) (x.2.2.2.2.2.2.1) (x.2.2.2.2.2.2.2.1) (x.2.2.2.2.2.2.2.2))) (fun _ => rfl) ?_ (fun x n => qf_5_r x.1 x.2.1 x.2.2.1 x.2.2.2.1 x.2.2.2.2.1 x.2.2.2.2.2.1 x.2.2.2.2.2.2.1 x.2.2.2.2.2.2.2.1 x.2.2.2.2.2.2.2.2 n) (fun x ow => qf_5_h x.1 x.2.1 x.2.2.1 x.2.2.2.1 x.2.2.2.2.1 x.2.2.2.2.2.1 x.2.2.2.2.2.2.1 x.2.2.2.2.2.2.2.1 x.2.2.2.2.2.2.2.2 ow)
  intro s t h
  unfold qf_lo5 at h
  split at h
  · cases h; exact ⟨(_, _, _, _, _, _, _, _, _), rfl, rfl⟩
  · cases h
def qf_t (k n : Int) (tx : BS) (K R : LL) : Tr (LL) := (.ite ((k == (2 : Int)) = true) (.ok ([[TC.s tx]]))
  (.ite ((qf_o5_1 k n tx K R [] K (K.length : Int) (0 : Int)) = true) (.ok (qf_u5_1 k n tx K R [] K (K.length : Int) (0 : Int)))
   .no))
def qf_mk (p : LL) : Res := [(false, [⟨.slice 9, .own true, TC.l p⟩])]
def qf_c (k n : Int) (tx : BS) (K R : LL) : Bool := (bif (k == (2 : Int)) then true else ((qf_o5_1 k n tx K R [] K (K.length : Int) (0 : Int)) && true))
def qf_v (k n : Int) (tx : BS) (K R : LL) : LL := (bif (k == (2 : Int)) then [[TC.s tx]] else (qf_u5_1 k n tx K R [] K (K.length : Int) (0 : Int)))
theorem qf_l (k n : Int) (tx : BS) (K R : LL) : (qf_c k n tx K R) = true → (qf_t k n tx K R).val = some (qf_v k n tx K R) := by
  unfold qf_t qf_v qf_c
  exact fun h => (Tr.ss h (fun h => rfl) (fun h => (Tr.gb h fun h => rfl)))
theorem qf_e (k n : Int) (tx : BS) (K R : LL) : runF tab FT D34 live 25 qf_lo [(true, [(.int .i64, TC.i k), (.int .i64, TC.i n), (.str, TC.s tx), (.slice 31, TC.l K), (.slice 59, TC.l R)])] = (qf_t k n tx K R).run fun p => some (qf_mk p) := by kernel_rfl
theorem qf_nx (k n : Int) (tx : BS) (K R : LL) : is (rowsDep K < qf_O.n + 1 ∧ Typed tab (.slice 31) (.l K) ∧ numE K ≤ 100000) = true → (qf_c k n tx K R) = true ∧ (qf_v k n tx K R) = nmE k tx K := by
  intro h
  obtain ⟨hM, t3, hn⟩ := is_iff.1 h
  have hl := typed_room t3
  simp only [show (tab 31).bytes = 80 from rfl] at hl
  rw [numE_eq] at hn
  have ho : qf_o5_1 k n tx K R [] K (K.length : Int) 0 = true := is_true ⟨rfl, rfl, by omega, rfl, by omega, fun x hx => is_true ⟨by have := dep_cell hx 3; omega, typed_list ((typed_elem t3 hx).2 3 (by decide)), by have := sum_mem hx; show numX x ≤ 100000; omega⟩⟩
  unfold qf_c qf_v
  rw [nmE_eq, ho]
  cases (k == 2) <;> exact ⟨rfl, rfl⟩
theorem qf_nxr (k n : Int) (tx : BS) (K R : LL) : qf_rc (i_impl_Exp_names := ⟨qf_O.n + 1⟩) k n tx K R = true → (qf_c k n tx K R) = true ∧ (qf_v k n tx K R) = (qf_rv k n tx K R) := fun h => qf_nx k n tx K R h
theorem qf_rs : ∀ xs r, qf_rS (i_impl_Exp_names := ⟨qf_O.n + 1⟩) xs = some (true, r) → runF tab FT D34 live 25 qf_lo xs = some r := by
  intro xs r h
  unfold qf_rS at h
  split at h
  · obtain ⟨h1, rfl⟩ := sp h
    have hx := qf_nxr _ _ _ _ _ h1
    have ht := fun_told (qf_e ..) (qf_l _ _ _ _ _) hx.1
    rw [hx.2] at ht
    exact ht
  · cases h
theorem qf_step : qf_G (i_impl_Exp_names := ⟨qf_O.n + 1⟩) := by
  have h := DOk.also2 (S := qf_rS (i_impl_Exp_names := ⟨qf_O.n + 1⟩)) mixed_ok tab_ok names_ok d33 d34 (fnLoops_one (by kernel_rfl) qf_is5) qf_rs
  refine qf_G.mk (i_impl_Exp_names := ⟨qf_O.n + 1⟩) ?_
  exact h
def qbk_c (A : LL) : Bool := is (A.length ≤ 140737488355328)
def qbk_v (A : LL) : LL := rowsOf TC.s ((elems TC.str A).mergeSort fun x y => decide (x ≤ y))
def qbk_mk (p : LL) : Res := [(true, [⟨.slice 9, .own true, TC.l p⟩])]
def qbk_S : List Arg → Option (Bool × Res) := fun xs => match xs with
  | [(false, [(.slice 9, TC.l A)])] => some ((qbk_c A), qbk_mk (qbk_v A))
  | _ => .none
def D35 : Dt := alsoW D34 26 qbk_S
theorem d35 : DOk Go.Proofs.Try.prog tab D35 := d34.alsoWC names_ok (c := _) Go.Proofs.Try.func26 rfl (by
  intro xs r0 h a0 ys gg ds r e1 e2 w S us fp vals hF h0 hn hargs
  unfold qbk_S at h
  split at h
  · rename_i A
    simp only [Option.some.injEq, Prod.mk.injEq] at h
    obtain ⟨h1, h2⟩ := h
    unfold qbk_mk at h2
    subst h2
    cases e1
    cases e2
    cases args_nil hargs
    exact sort_own (enc_str (show (tab 9).cts = [.str] from rfl)) (fun p cap w => Go.Proofs.AnyG.slices_Sort_string_none lays54 p cap w) (fun blk off cap zs w hH hb hl => Go.Proofs.AnyG.slices_Sort_string lays54 blk off cap zs w hH hb hl) hn h0 (is_iff.1 h1)
  · cases h)
def qbm_c (A : LL) : Bool := is (A.length ≤ 140737488355328)
def qbm_v (A : LL) : LL × LL := (A, rowsOf TC.s (Lib.compact (elems TC.str A)))
def qbm_mk (p : LL × LL) : Res := [(true, [⟨.slice 9, .gone, TC.l (p.1)⟩]), (false, [⟨.slice 9, .own true, TC.l (p.2)⟩])]
def qbm_S : List Arg → Option (Bool × Res) := fun xs => match xs with
  | [(false, [(.slice 9, TC.l A)])] => some ((qbm_c A), qbm_mk (qbm_v A))
  | _ => .none
def D36 : Dt := alsoW D35 27 qbm_S
theorem d36 : DOk Go.Proofs.Try.prog tab D36 := d35.alsoWC names_ok (c := _) Go.Proofs.Try.func27 rfl (by
  intro xs r0 h a0 ys gg ds r e1 e2 w S us fp vals hF h0 hn hargs
  unfold qbm_S at h
  split at h
  · rename_i A
    simp only [Option.some.injEq, Prod.mk.injEq] at h
    obtain ⟨h1, h2⟩ := h
    unfold qbm_mk at h2
    subst h2
    cases e1
    cases e2
    cases args_nil hargs
    exact compact_own (enc_str (show (tab 9).cts = [.str] from rfl)) (fun zs => by unfold Lib.compact Lib.compactUpTo; rw [List.length_map]; exact Nat.le_trans (List.length_filter_le _ _) (by simp)) (fun p cap w => Go.Proofs.AnyG.slices_Compact_string_empty lays44 p cap w) (fun blk off cap zs w hH hl hc => Go.Proofs.AnyG.slices_Compact_string lays44 blk off cap zs w hH hl hc) hn h0 (is_iff.1 h1)
  · cases h)
def qbf_t (a0 a1 : Int) (a2 : BS) (a3 a4 : LL) : Tr (LL) := (.ite ((qbn_c a0 a1 a2 a3 a4) = true) (.ite ((!(qbn_v a0 a1 a2 a3 a4)) = true) (.ok ([]))
   (.ite ((qf_rc a0 a1 a2 a3 a4) = true) (.ite ((qbk_c (qf_rv a0 a1 a2 a3 a4)) = true) (.ite ((qbm_c (qbk_v (qf_rv a0 a1 a2 a3 a4))) = true) (.ok ((qbm_v (qbk_v (qf_rv a0 a1 a2 a3 a4))).2))
      .no)
     .no)
    .no))
  .no)
def qbf_mk (p : LL) : Res := [(false, [⟨.slice 9, .own true, TC.l p⟩])]
def qbf_c (a0 a1 : Int) (a2 : BS) (a3 a4 : LL) : Bool := ((qbn_c a0 a1 a2 a3 a4) && (bif (!(qbn_v a0 a1 a2 a3 a4)) then true else ((qf_rc a0 a1 a2 a3 a4) && ((qbk_c (qf_rv a0 a1 a2 a3 a4)) && ((qbm_c (qbk_v (qf_rv a0 a1 a2 a3 a4))) && true)))))
def qbf_v (a0 a1 : Int) (a2 : BS) (a3 a4 : LL) : LL := (bif (!(qbn_v a0 a1 a2 a3 a4)) then [] else (qbm_v (qbk_v (qf_rv a0 a1 a2 a3 a4))).2)
theorem qbf_l (a0 a1 : Int) (a2 : BS) (a3 a4 : LL) : (qbf_c a0 a1 a2 a3 a4) = true → (qbf_t a0 a1 a2 a3 a4).val = some (qbf_v a0 a1 a2 a3 a4) := by
  unfold qbf_t qbf_v qbf_c
  exact fun h => (Tr.gb h fun h => (Tr.ss h (fun h => rfl) (fun h => (Tr.gb h fun h => (Tr.gb h fun h => (Tr.gb h fun h => rfl))))))
def qbf_S : List Arg → Option (Bool × Res) := fun xs => match xs with
  | [(true, [(.int .i64, TC.i a0), (.int .i64, TC.i a1), (.str, TC.s a2), (.slice 31, TC.l a3), (.slice 59, TC.l a4)])] => some ((qbf_c a0 a1 a2 a3 a4), qbf_mk (qbf_v a0 a1 a2 a3 a4))
  | _ => .none
theorem qbf_e (a0 a1 : Int) (a2 : BS) (a3 a4 : LL) : runF tab FT D36 live 11 noLoops [(true, [(.int .i64, TC.i a0), (.int .i64, TC.i a1), (.str, TC.s a2), (.slice 31, TC.l a3), (.slice 59, TC.l a4)])] = (qbf_t a0 a1 a2 a3 a4).run fun p => some (qbf_mk p) := by kernel_rfl
theorem qbf_s : ∀ xs r, qbf_S xs = some (true, r) → runF tab FT D36 live 11 noLoops xs = some r := by
  intro xs r h
  unfold qbf_S at h
  split at h
  · obtain ⟨h1, rfl⟩ := sp h
    exact fun_told (qbf_e ..) (qbf_l _ _ _ _ _) h1
  · cases h
def D37 : Dt := also D36 11 qbf_S
theorem d37 : DOk Go.Proofs.Try.prog tab D37 := d36.also mixed_ok tab_ok names_ok noLoops_ok qbf_s
abbrev qr_4_σ := LL × LL × Int
abbrev qr_4_ω := (Unit) ⊕ (Unit)
def qr_4_step (A C : LL) (i : Int) : Tr (qr_4_σ ⊕ qr_4_ω) := (.ite ((decide (i < (A.length : Int))) = true) (.ite ((0 : Int) ≤ i ∧ i < (A.length : Int)) (.ite ((0 : Int) ≤ i ∧ i < (C.length : Int)) (.ite ((!((nth (row A i) 0).str == (nth (row C i) 0).str)) = true) (.ok (.inr (.inl ())))
     (.ok (.inl (A, C, (IntKind.wrap .i64 (i + (1 : Int)))))))
    .no)
   .no)
  (.ok (.inr (.inr ()))))
def qr_4_st : qr_4_σ → Tr (qr_4_σ ⊕ qr_4_ω) := fun x => (qr_4_step (x.1) (x.2.1) (x.2.2))
def qr_o4_1 (A C : LL) (i : Int) : Bool := is (A = C ∧ Typed tab (.slice 9) (.l A) ∧ i = 0)
def qr_4_fin (A C : LL) (i : Int) : Told qr_4_ω := (.leaf (qr_o4_1 A C i) (.inr ()))
def qr_4_sl (x : qr_4_σ) : List Slot := [⟨.val false [⟨.slice 9, .sh, TC.l (x.1)⟩], ⟨0, 0⟩⟩, ⟨.val false [⟨.slice 9, .sh, TC.l (x.2.1)⟩], ⟨0, 0⟩⟩, ⟨.val false [⟨.int .i64, .sh, TC.i (x.2.2)⟩], ⟨0, 0⟩⟩]
def qr_4_out : qr_4_ω → Ex × List Slot := (Sum.elim (fun x => (.ret, [⟨.val false [⟨.bool, .sh, TC.b false⟩], ⟨0, 0⟩⟩])) (fun x => (.exit 0, [Slot.none])))
def qr_lo4 : List Slot → Option (Told (Ex × List Slot)) := fun s => match s with
  | [⟨.val false [⟨.slice 9, .sh, TC.l A⟩], ⟨0, 0⟩⟩, ⟨.val false [⟨.slice 9, .sh, TC.l C⟩], ⟨0, 0⟩⟩, ⟨.val false [⟨.int .i64, .sh, TC.i i⟩], ⟨0, 0⟩⟩] => some (((qr_4_fin A C i)).map qr_4_out)
  | _ => .none
def qr_lo : LoopTeller := fun r s => bif Nat.beq r 4 then qr_lo4 s else .none
theorem qr_4_r (A C : LL) (i : Int) (fuel : Nat) : rounds (rnd tab FT D37 live 12 qr_lo 0 4) leave (fuel + 1) (qr_4_sl (A, C, i)) = ((qr_4_step A C i)).run (goOn (fun s => rounds (rnd tab FT D37 live 12 qr_lo 0 4) leave fuel (qr_4_sl s)) fun w => some (qr_4_out w)) := by kernel_rfl
theorem qr_4_h (A C : LL) (i : Int) (ow : qr_4_ω) : ((qr_4_fin A C i)).val = some ow → ∃ fuel, loopN qr_4_st fuel (A, C, i) = some ow := by
  intro h
  refine auto_leaf (R := Sum.inr ()) (fun ho => ?_) h
  obtain ⟨rfl, ht, rfl⟩ := is_iff.1 ho
  have hlen : A.length ≤ 140737488351232 := by have := typed_room ht; simp only [show (tab 9).bytes = 16 from rfl] at this; omega
  refine ⟨_, loopN_run (N := A.length) (fun i => (A, A, (i : Int))) (fun i hi => ?_) ?_ A.length 0 (by omega)⟩
  · have c0 : Typed tab (.str) (.s (nth (A.getD i []) 0).str) := typed_s (typed_cell ht (A.getD i []) (mem_getD hi) 0 (by decide))
    show (qr_4_step A A (i : Int)).val = _
    unfold qr_4_step
    refine Tr.t (by simp; omega) ?_
    refine Tr.t (by first | omega | (constructor <;> omega)) ?_
    refine Tr.t (by first | omega | (constructor <;> omega)) ?_
    refine Tr.n (by simp [qd_rv, qf_rv, qq_rv, qc_rv, qg_rv, qh_rv]) ?_
    rw [Tr.val_ok, wrap64 (i := (i : Int) + 1) (by omega) (by omega)]; rfl
  · show (qr_4_step A A (A.length : Int)).val = _
    refine Tr.n (by simp) ?_
    rfl
theorem qr_is4 : LoopIs tab FT D37 live 12 qr_lo 0 4 := by
  refine loop_told (sl := qr_4_sl) (step := qr_4_st) (out := qr_4_out) (lor := qr_lo4) (fin := fun x => (qr_4_fin (x.1) (x.2.1) (x.2.2))) (fun _ => rfl) ?_ (fun x n => qr_4_r x.1 x.2.1 x.2.2 n) (fun x ow => qr_4_h x.1 x.2.1 x.2.2 ow)
  intro s t h
  unfold qr_lo4 at h
  split at h
  · cases h; exact ⟨(_, _, _), rfl, rfl⟩
  · cases h
def qr_t (A C : LL) : Tr (Bool) := (.ite ((!((A.length : Int) == (C.length : Int))) = true) (.ok false)
  (.ite ((qr_o4_1 A C (0 : Int)) = true) (.ok true)
   .no))
def qr_mk (p : Bool) : Res := [(false, [⟨.bool, .sh, TC.b p⟩])]
def qr_c (A C : LL) : Bool := is (A = C ∧ Typed tab (.slice 9) (.l A))
def qr_v (A C : LL) : Bool := true
theorem qr_l (A C : LL) : (qr_c A C) = true → (qr_t A C).val = some (qr_v A C) := by
  intro h
  obtain ⟨rfl, ht⟩ := is_iff.1 h
  unfold qr_t
  refine Tr.n (by simp) ?_
  refine Tr.t (is_true ⟨rfl, ht, rfl⟩) ?_
  rfl
def qr_S : List Arg → Option (Bool × Res) := fun xs => match xs with
  | [(false, [(.slice 9, TC.l A)]), (false, [(.slice 9, TC.l C)])] => some ((qr_c A C), qr_mk (qr_v A C))
  | _ => .none
theorem qr_e (A C : LL) : runF tab FT D37 live 12 qr_lo [(false, [(.slice 9, TC.l A)]), (false, [(.slice 9, TC.l C)])] = (qr_t A C).run fun p => some (qr_mk p) := by kernel_rfl
theorem qr_s : ∀ xs r, qr_S xs = some (true, r) → runF tab FT D37 live 12 qr_lo xs = some r := by
  intro xs r h
  unfold qr_S at h
  split at h
  · obtain ⟨h1, rfl⟩ := sp h
    exact fun_told (qr_e ..) (qr_l _ _) h1
  · cases h
def D38 : Dt := also D37 12 qr_S
theorem d38 : DOk Go.Proofs.Try.prog tab D38 := d37.also mixed_ok tab_ok names_ok (fnLoops_one (by kernel_rfl) qr_is4) qr_s
section
class qba_O where n : Nat
variable [i_laws_eqExp : qba_O]
def qba_rc (x0 x1 : Int) (x2 : BS) (x3 x4 : LL) (y0 y1 : Int) (y2 : BS) (y3 y4 : LL) : Bool := is (rowsDep x3 < qba_O.n ∧ x0 = y0 ∧ x1 = y1 ∧ x2 = y2 ∧ x3 = y3 ∧ x4 = y4 ∧ Typed tab (.slice 31) (.l x3) ∧ Typed tab (.slice 59) (.l x4))
def qba_rv (x0 x1 : Int) (x2 : BS) (x3 x4 : LL) (y0 y1 : Int) (y2 : BS) (y3 y4 : LL) : Bool := true
def qba_rmk (p : Bool) : Res := [(false, [⟨.bool, .sh, TC.b p⟩])]
def qba_rS : List Arg → Option (Bool × Res) := fun xs => match xs with
  | [(true, [(.int .i64, TC.i x0), (.int .i64, TC.i x1), (.str, TC.s x2), (.slice 31, TC.l x3), (.slice 59, TC.l x4)]), (true, [(.int .i64, TC.i y0), (.int .i64, TC.i y1), (.str, TC.s y2), (.slice 31, TC.l y3), (.slice 59, TC.l y4)])] => some ((qba_rc x0 x1 x2 x3 x4 y0 y1 y2 y3 y4), qba_rmk (qba_rv x0 x1 x2 x3 x4 y0 y1 y2 y3 y4))
  | _ => .none
def D39 : Dt := also D38 9 qba_rS
class qba_G : Prop where ok : DOk Go.Proofs.Try.prog tab D39
variable [g_laws_eqExp : qba_G]
theorem d39 : DOk Go.Proofs.Try.prog tab D39 := qba_G.ok
abbrev qz_4_σ := LL × LL × Int
abbrev qz_4_ω := (Unit) ⊕ (Unit)
def qz_4_step (A C : LL) (i : Int) : Tr (qz_4_σ ⊕ qz_4_ω) := (.ite ((decide (i < (A.length : Int))) = true) (.ite ((0 : Int) ≤ i ∧ i < (A.length : Int)) (.ite ((0 : Int) ≤ i ∧ i < (C.length : Int)) (.ite ((qba_rc ((nth (row A i) 0).int) ((nth (row A i) 1).int) ((nth (row A i) 2).str) ((nth (row A i) 3).list) ((nth (row A i) 4).list) ((nth (row C i) 0).int) ((nth (row C i) 1).int) ((nth (row C i) 2).str) ((nth (row C i) 3).list) ((nth (row C i) 4).list)) = true) (.ite ((!(qba_rv ((nth (row A i) 0).int) ((nth (row A i) 1).int) ((nth (row A i) 2).str) ((nth (row A i) 3).list) ((nth (row A i) 4).list) ((nth (row C i) 0).int) ((nth (row C i) 1).int) ((nth (row C i) 2).str) ((nth (row C i) 3).list) ((nth (row C i) 4).list))) = true) (.ok (.inr (.inl ())))
      (.ok (.inl (A, C, (IntKind.wrap .i64 (i + (1 : Int)))))))
     .no)
    .no)
   .no)
  (.ok (.inr (.inr ()))))
def qz_4_st : qz_4_σ → Tr (qz_4_σ ⊕ qz_4_ω) := fun x => (qz_4_step (x.1) (x.2.1) (x.2.2))
def qz_o4_1 (A C : LL) (i : Int) : Bool := is (A = C ∧ Typed tab (.slice 31) (.l A) ∧ (∀ x : List TC, x ∈ A → (qba_rc ((nth x 0).int) ((nth x 1).int) ((nth x 2).str) ((nth x 3).list) ((nth x 4).list) ((nth x 0).int) ((nth x 1).int) ((nth x 2).str) ((nth x 3).list) ((nth x 4).list)) = true) ∧ i = 0)
def qz_4_fin (A C : LL) (i : Int) : Told qz_4_ω := (.leaf (qz_o4_1 A C i) (.inr ()))
def qz_4_sl (x : qz_4_σ) : List Slot := [⟨.val false [⟨.slice 31, .sh, TC.l (x.1)⟩], ⟨0, 0⟩⟩, ⟨.val false [⟨.slice 31, .sh, TC.l (x.2.1)⟩], ⟨0, 0⟩⟩, ⟨.val false [⟨.int .i64, .sh, TC.i (x.2.2)⟩], ⟨0, 0⟩⟩]
def qz_4_out : qz_4_ω → Ex × List Slot := (Sum.elim (fun x => (.ret, [⟨.val false [⟨.bool, .sh, TC.b false⟩], ⟨0, 0⟩⟩])) (fun x => (.exit 0, [Slot.none])))
def qz_lo4 : List Slot → Option (Told (Ex × List Slot)) := fun s => match s with
  | [⟨.val false [⟨.slice 31, .sh, TC.l A⟩], ⟨0, 0⟩⟩, ⟨.val false [⟨.slice 31, .sh, TC.l C⟩], ⟨0, 0⟩⟩, ⟨.val false [⟨.int .i64, .sh, TC.i i⟩], ⟨0, 0⟩⟩] => some (((qz_4_fin A C i)).map qz_4_out)
  | _ => .none
def qz_lo : LoopTeller := fun r s => bif Nat.beq r 4 then qz_lo4 s else .none
theorem qz_4_r (A C : LL) (i : Int) (fuel : Nat) : rounds (rnd tab FT D39 live 22 qz_lo 0 4) leave (fuel + 1) (qz_4_sl (A, C, i)) = ((qz_4_step A C i)).run (goOn (fun s => rounds (rnd tab FT D39 live 22 qz_lo 0 4) leave fuel (qz_4_sl s)) fun w => some (qz_4_out w)) := by kernel_rfl
theorem qz_4_h (A C : LL) (i : Int) (ow : qz_4_ω) : ((qz_4_fin A C i)).val = some ow → ∃ fuel, loopN qz_4_st fuel (A, C, i) = some ow := by
  intro h
  refine auto_leaf (R := Sum.inr ()) (fun ho => ?_) h
  obtain ⟨rfl, ht, hr0, rfl⟩ := is_iff.1 ho
  have hlen : A.length ≤ 140737488351232 := by have := typed_room ht; simp only [show (tab 31).bytes = 80 from rfl] at this; omega
  refine ⟨_, loopN_run (N := A.length) (fun i => (A, A, (i : Int))) (fun i hi => ?_) ?_ A.length 0 (by omega)⟩
  · have c2 : Typed tab (.str) (.s (nth (A.getD i []) 2).str) := typed_s (typed_cell ht (A.getD i []) (mem_getD hi) 2 (by decide))
    have c3 : Typed tab (.slice 31) (.l (nth (A.getD i []) 3).list) := typed_list (typed_cell ht (A.getD i []) (mem_getD hi) 3 (by decide))
    have c4 : Typed tab (.slice 59) (.l (nth (A.getD i []) 4).list) := typed_list (typed_cell ht (A.getD i []) (mem_getD hi) 4 (by decide))
    show (qz_4_step A A (i : Int)).val = _
    unfold qz_4_step
    refine Tr.t (by simp; omega) ?_
    refine Tr.t (by first | omega | (constructor <;> omega)) ?_
    refine Tr.t (by first | omega | (constructor <;> omega)) ?_
    refine Tr.t (hr0 (A.getD i []) (mem_getD hi)) ?_
    refine Tr.n (by simp [qd_rv, qf_rv, qba_rv, qq_rv, qc_rv, qg_rv, qh_rv]) ?_
    rw [Tr.val_ok, wrap64 (i := (i : Int) + 1) (by omega) (by omega)]; rfl
  · show (qz_4_step A A (A.length : Int)).val = _
    refine Tr.n (by simp) ?_
    rfl
theorem qz_is4 : LoopIs tab FT D39 live 22 qz_lo 0 4 := by
  refine loop_told (sl := qz_4_sl) (step := qz_4_st) (out := qz_4_out) (lor := qz_lo4) (fin := fun x => (qz_4_fin (x.1) (x.2.1) (x.2.2))) (fun _ => rfl) ?_ (fun x n => qz_4_r x.1 x.2.1 x.2.2 n) (fun x ow => qz_4_h x.1 x.2.1 x.2.2 ow)
  intro s t h
  unfold qz_lo4 at h
  split at h
  · cases h; exact ⟨(_, _, _), rfl, rfl⟩
  · cases h
def qz_t (A C : LL) : Tr (Bool) := (.ite ((!((A.length : Int) == (C.length : Int))) = true) (.ok false)
  (.ite ((qz_o4_1 A C (0 : Int)) = true) (.ok true)
   .no))
def qz_mk (p : Bool) : Res := [(false, [⟨.bool, .sh, TC.b p⟩])]
def qz_c (A C : LL) : Bool := is (A = C ∧ Typed tab (.slice 31) (.l A) ∧ (∀ x : List TC, x ∈ A → (qba_rc ((nth x 0).int) ((nth x 1).int) ((nth x 2).str) ((nth x 3).list) ((nth x 4).list) ((nth x 0).int) ((nth x 1).int) ((nth x 2).str) ((nth x 3).list) ((nth x 4).list)) = true))
def qz_v (A C : LL) : Bool := true
theorem qz_l (A C : LL) : (qz_c A C) = true → (qz_t A C).val = some (qz_v A C) := by
  intro h
  obtain ⟨rfl, ht, hr0⟩ := is_iff.1 h
  unfold qz_t
  refine Tr.n (by simp) ?_
  refine Tr.t (is_true ⟨rfl, ht, hr0, rfl⟩) ?_
  rfl
def qz_S : List Arg → Option (Bool × Res) := fun xs => match xs with
  | [(false, [(.slice 31, TC.l A)]), (false, [(.slice 31, TC.l C)])] => some ((qz_c A C), qz_mk (qz_v A C))
  | _ => .none
theorem qz_e (A C : LL) : runF tab FT D39 live 22 qz_lo [(false, [(.slice 31, TC.l A)]), (false, [(.slice 31, TC.l C)])] = (qz_t A C).run fun p => some (qz_mk p) := by kernel_rfl
theorem qz_s : ∀ xs r, qz_S xs = some (true, r) → runF tab FT D39 live 22 qz_lo xs = some r := by
  intro xs r h
  unfold qz_S at h
  split at h
  · obtain ⟨h1, rfl⟩ := sp h
    exact fun_told (qz_e ..) (qz_l _ _) h1
  · cases h
def D40 : Dt := also D39 22 qz_S
theorem d40 : DOk Go.Proofs.Try.prog tab D40 := d39.also mixed_ok tab_ok names_ok (fnLoops_one (by kernel_rfl) qz_is4) qz_s
def qbr_t (x0 x1 : Int) (x2 : Bool) (y0 y1 : Int) (y2 : Bool) : Tr (Bool) := (.ite ((!(x0 == y0)) = true) (.ok false)
  (.ite ((!(x1 == y1)) = true) (.ok false)
   (.ite ((!(x2 == y2)) = true) (.ok false)
    (.ok true))))
def qbr_mk (p : Bool) : Res := [(false, [⟨.bool, .sh, TC.b p⟩])]
def qbr_c (x0 x1 : Int) (x2 : Bool) (y0 y1 : Int) (y2 : Bool) : Bool := is (x0 = y0 ∧ x1 = y1 ∧ x2 = y2)
def qbr_v (x0 x1 : Int) (x2 : Bool) (y0 y1 : Int) (y2 : Bool) : Bool := true
theorem qbr_l (x0 x1 : Int) (x2 : Bool) (y0 y1 : Int) (y2 : Bool) : (qbr_c x0 x1 x2 y0 y1 y2) = true → (qbr_t x0 x1 x2 y0 y1 y2).val = some (qbr_v x0 x1 x2 y0 y1 y2) := by
  intro h
  obtain ⟨rfl, rfl, rfl⟩ := is_iff.1 h
  unfold qbr_t
  refine Tr.n (by simp) ?_
  refine Tr.n (by simp) ?_
  refine Tr.n (by simp) ?_
  rfl
def qbr_S : List Arg → Option (Bool × Res) := fun xs => match xs with
  | [(true, [(.int .i64, TC.i x0), (.int .i64, TC.i x1), (.bool, TC.b x2)]), (true, [(.int .i64, TC.i y0), (.int .i64, TC.i y1), (.bool, TC.b y2)])] => some ((qbr_c x0 x1 x2 y0 y1 y2), qbr_mk (qbr_v x0 x1 x2 y0 y1 y2))
  | _ => .none
theorem qbr_e (x0 x1 : Int) (x2 : Bool) (y0 y1 : Int) (y2 : Bool) : runF tab FT D40 live 34 noLoops [(true, [(.int .i64, TC.i x0), (.int .i64, TC.i x1), (.bool, TC.b x2)]), (true, [(.int .i64, TC.i y0), (.int .i64, TC.i y1), (.bool, TC.b y2)])] = (qbr_t x0 x1 x2 y0 y1 y2).run fun p => some (qbr_mk p) := by kernel_rfl
theorem qbr_s : ∀ xs r, qbr_S xs = some (true, r) → runF tab FT D40 live 34 noLoops xs = some r := by
  intro xs r h
  unfold qbr_S at h
  split at h
  · obtain ⟨h1, rfl⟩ := sp h
    exact fun_told (qbr_e ..) (qbr_l _ _ _ _ _ _) h1
  · cases h
def D41 : Dt := also D40 34 qbr_S
theorem d41 : DOk Go.Proofs.Try.prog tab D41 := d40.also mixed_ok tab_ok names_ok noLoops_ok qbr_s
abbrev qx_4_σ := LL × LL × Int
abbrev qx_4_ω := (Unit) ⊕ (Unit)
def qx_4_step (A C : LL) (i : Int) : Tr (qx_4_σ ⊕ qx_4_ω) := (.ite ((decide (i < (A.length : Int))) = true) (.ite ((0 : Int) ≤ i ∧ i < (A.length : Int)) (.ite ((0 : Int) ≤ i ∧ i < (C.length : Int)) (.ite ((qbr_c ((nth (row A i) 0).int) ((nth (row A i) 1).int) ((nth (row A i) 2).bool) ((nth (row C i) 0).int) ((nth (row C i) 1).int) ((nth (row C i) 2).bool)) = true) (.ite ((!(qbr_v ((nth (row A i) 0).int) ((nth (row A i) 1).int) ((nth (row A i) 2).bool) ((nth (row C i) 0).int) ((nth (row C i) 1).int) ((nth (row C i) 2).bool))) = true) (.ok (.inr (.inl ())))
      (.ok (.inl (A, C, (IntKind.wrap .i64 (i + (1 : Int)))))))
     .no)
    .no)
   .no)
  (.ok (.inr (.inr ()))))
def qx_4_st : qx_4_σ → Tr (qx_4_σ ⊕ qx_4_ω) := fun x => (qx_4_step (x.1) (x.2.1) (x.2.2))
def qx_o4_1 (A C : LL) (i : Int) : Bool := is (A = C ∧ Typed tab (.slice 59) (.l A) ∧ i = 0)
def qx_4_fin (A C : LL) (i : Int) : Told qx_4_ω := (.leaf (qx_o4_1 A C i) (.inr ()))
def qx_4_sl (x : qx_4_σ) : List Slot := [⟨.val false [⟨.slice 59, .sh, TC.l (x.1)⟩], ⟨0, 0⟩⟩, ⟨.val false [⟨.slice 59, .sh, TC.l (x.2.1)⟩], ⟨0, 0⟩⟩, ⟨.val false [⟨.int .i64, .sh, TC.i (x.2.2)⟩], ⟨0, 0⟩⟩]
def qx_4_out : qx_4_ω → Ex × List Slot := (Sum.elim (fun x => (.ret, [⟨.val false [⟨.bool, .sh, TC.b false⟩], ⟨0, 0⟩⟩])) (fun x => (.exit 0, [Slot.none])))
def qx_lo4 : List Slot → Option (Told (Ex × List Slot)) := fun s => match s with
  | [⟨.val false [⟨.slice 59, .sh, TC.l A⟩], ⟨0, 0⟩⟩, ⟨.val false [⟨.slice 59, .sh, TC.l C⟩], ⟨0, 0⟩⟩, ⟨.val false [⟨.int .i64, .sh, TC.i i⟩], ⟨0, 0⟩⟩] => some (((qx_4_fin A C i)).map qx_4_out)
  | _ => .none
def qx_lo : LoopTeller := fun r s => bif Nat.beq r 4 then qx_lo4 s else .none
theorem qx_4_r (A C : LL) (i : Int) (fuel : Nat) : rounds (rnd tab FT D41 live 23 qx_lo 0 4) leave (fuel + 1) (qx_4_sl (A, C, i)) = ((qx_4_step A C i)).run (goOn (fun s => rounds (rnd tab FT D41 live 23 qx_lo 0 4) leave fuel (qx_4_sl s)) fun w => some (qx_4_out w)) := by kernel_rfl
theorem qx_4_h (A C : LL) (i : Int) (ow : qx_4_ω) : ((qx_4_fin A C i)).val = some ow → ∃ fuel, loopN qx_4_st fuel (A, C, i) = some ow := by
  intro h
  refine auto_leaf (R := Sum.inr ()) (fun ho => ?_) h
  obtain ⟨rfl, ht, rfl⟩ := is_iff.1 ho
  have hlen : A.length ≤ 140737488351232 := by have := typed_room ht; simp only [show (tab 59).bytes = 24 from rfl] at this; omega
  refine ⟨_, loopN_run (N := A.length) (fun i => (A, A, (i : Int))) (fun i hi => ?_) ?_ A.length 0 (by omega)⟩
  · skip
    show (qx_4_step A A (i : Int)).val = _
    unfold qx_4_step
    refine Tr.t (by simp; omega) ?_
    refine Tr.t (by first | omega | (constructor <;> omega)) ?_
    refine Tr.t (by first | omega | (constructor <;> omega)) ?_
    refine Tr.t (by first | (apply is_true; and_intros <;> (first | rfl | assumption | (apply qn_cc <;> assumption) | (apply qm_cc <;> assumption) | (apply qp_cc <;> assumption) | (first | (apply is_true; and_intros <;> (first | rfl | assumption | (apply qn_cc <;> assumption) | (apply qm_cc <;> assumption) | (apply qp_cc <;> assumption) | (first | (apply is_true; and_intros <;> (first | rfl | assumption | (apply qn_cc <;> assumption) | (apply qm_cc <;> assumption) | (apply qp_cc <;> assumption) | (first | (apply is_true; and_intros <;> (first | rfl | assumption | (apply qn_cc <;> assumption) | (apply qm_cc <;> assumption) | (apply qp_cc <;> assumption))) | (apply qn_cc <;> assumption) | (apply qm_cc <;> assumption) | (apply qp_cc <;> assumption)))) | (apply qn_cc <;> assumption) | (apply qm_cc <;> assumption) | (apply qp_cc <;> assumption)))) | (apply qn_cc <;> assumption) | (apply qm_cc <;> assumption) | (apply qp_cc <;> assumption)))) | (apply qn_cc <;> assumption) | (apply qm_cc <;> assumption) | (apply qp_cc <;> assumption)) ?_
    refine Tr.n (by simp [qd_rv, qf_rv, qba_rv, qbr_v, qq_rv, qc_rv, qg_rv, qh_rv]) ?_
    rw [Tr.val_ok, wrap64 (i := (i : Int) + 1) (by omega) (by omega)]; rfl
  · show (qx_4_step A A (A.length : Int)).val = _
    refine Tr.n (by simp) ?_
    rfl
theorem qx_is4 : LoopIs tab FT D41 live 23 qx_lo 0 4 := by
  refine loop_told (sl := qx_4_sl) (step := qx_4_st) (out := qx_4_out) (lor := qx_lo4) (fin := fun x => (qx_4_fin (x.1) (x.2.1) (x.2.2))) (fun _ => rfl) ?_ (fun x n => qx_4_r x.1 x.2.1 x.2.2 n) (fun x ow => qx_4_h x.1 x.2.1 x.2.2 ow)
  intro s t h
  unfold qx_lo4 at h
  split at h
  · cases h; exact ⟨(_, _, _), rfl, rfl⟩
  · cases h
def qx_t (A C : LL) : Tr (Bool) := (.ite ((!((A.length : Int) == (C.length : Int))) = true) (.ok false)
  (.ite ((qx_o4_1 A C (0 : Int)) = true) (.ok true)
   .no))
def qx_mk (p : Bool) : Res := [(false, [⟨.bool, .sh, TC.b p⟩])]
def qx_c (A C : LL) : Bool := is (A = C ∧ Typed tab (.slice 59) (.l A))
def qx_v (A C : LL) : Bool := true
theorem qx_l (A C : LL) : (qx_c A C) = true → (qx_t A C).val = some (qx_v A C) := by
  intro h
  obtain ⟨rfl, ht⟩ := is_iff.1 h
  unfold qx_t
  refine Tr.n (by simp) ?_
  refine Tr.t (is_true ⟨rfl, ht, rfl⟩) ?_
  rfl
def qx_S : List Arg → Option (Bool × Res) := fun xs => match xs with
  | [(false, [(.slice 59, TC.l A)]), (false, [(.slice 59, TC.l C)])] => some ((qx_c A C), qx_mk (qx_v A C))
  | _ => .none
theorem qx_e (A C : LL) : runF tab FT D41 live 23 qx_lo [(false, [(.slice 59, TC.l A)]), (false, [(.slice 59, TC.l C)])] = (qx_t A C).run fun p => some (qx_mk p) := by kernel_rfl
theorem qx_s : ∀ xs r, qx_S xs = some (true, r) → runF tab FT D41 live 23 qx_lo xs = some r := by
  intro xs r h
  unfold qx_S at h
  split at h
  · obtain ⟨h1, rfl⟩ := sp h
    exact fun_told (qx_e ..) (qx_l _ _) h1
  · cases h
def D42 : Dt := also D41 23 qx_S
theorem d42 : DOk Go.Proofs.Try.prog tab D42 := d41.also mixed_ok tab_ok names_ok (fnLoops_one (by kernel_rfl) qx_is4) qx_s
def qba_t (x0 x1 : Int) (x2 : BS) (x3 x4 : LL) (y0 y1 : Int) (y2 : BS) (y3 y4 : LL) : Tr (Bool) := (.ite ((!(x0 == y0)) = true) (.ok false)
  (.ite ((!(x1 == y1)) = true) (.ok false)
   (.ite ((!(x2 == y2)) = true) (.ok false)
    (.ite ((qz_c x3 y3) = true) (.ite ((!(qz_v x3 y3)) = true) (.ok false)
      (.ite ((qx_c x4 y4) = true) (.ite ((!(qx_v x4 y4)) = true) (.ok false)
        (.ok true))
       .no))
     .no))))
def qba_mk (p : Bool) : Res := [(false, [⟨.bool, .sh, TC.b p⟩])]
def qba_c (x0 x1 : Int) (x2 : BS) (x3 x4 : LL) (y0 y1 : Int) (y2 : BS) (y3 y4 : LL) : Bool := (bif (!(x0 == y0)) then true else (bif (!(x1 == y1)) then true else (bif (!(x2 == y2)) then true else ((qz_c x3 y3) && (bif (!(qz_v x3 y3)) then true else ((qx_c x4 y4) && (bif (!(qx_v x4 y4)) then true else true)))))))
def qba_v (x0 x1 : Int) (x2 : BS) (x3 x4 : LL) (y0 y1 : Int) (y2 : BS) (y3 y4 : LL) : Bool := (bif (!(x0 == y0)) then false else (bif (!(x1 == y1)) then false else (bif (!(x2 == y2)) then false else (bif (!(qz_v x3 y3)) then false else (bif (!(qx_v x4 y4)) then false else true)))))
theorem qba_l (x0 x1 : Int) (x2 : BS) (x3 x4 : LL) (y0 y1 : Int) (y2 : BS) (y3 y4 : LL) : (qba_c x0 x1 x2 x3 x4 y0 y1 y2 y3 y4) = true → (qba_t x0 x1 x2 x3 x4 y0 y1 y2 y3 y4).val = some (qba_v x0 x1 x2 x3 x4 y0 y1 y2 y3 y4) := by
  unfold qba_t qba_v qba_c
  exact fun h => (Tr.ss h (fun h => rfl) (fun h => (Tr.ss h (fun h => rfl) (fun h => (Tr.ss h (fun h => rfl) (fun h => (Tr.gb h fun h => (Tr.ss h (fun h => rfl) (fun h => (Tr.gb h fun h => (Tr.ss h (fun h => rfl) (fun h => rfl))))))))))))
theorem qba_e (x0 x1 : Int) (x2 : BS) (x3 x4 : LL) (y0 y1 : Int) (y2 : BS) (y3 y4 : LL) : runF tab FT D42 live 9 noLoops [(true, [(.int .i64, TC.i x0), (.int .i64, TC.i x1), (.str, TC.s x2), (.slice 31, TC.l x3), (.slice 59, TC.l x4)]), (true, [(.int .i64, TC.i y0), (.int .i64, TC.i y1), (.str, TC.s y2), (.slice 31, TC.l y3), (.slice 59, TC.l y4)])] = (qba_t x0 x1 x2 x3 x4 y0 y1 y2 y3 y4).run fun p => some (qba_mk p) := by kernel_rfl
theorem qba_nx (x0 x1 : Int) (x2 : BS) (x3 x4 : LL) (y0 y1 : Int) (y2 : BS) (y3 y4 : LL) : is (rowsDep x3 < qba_O.n + 1 ∧ x0 = y0 ∧ x1 = y1 ∧ x2 = y2 ∧ x3 = y3 ∧ x4 = y4 ∧ Typed tab (.slice 31) (.l x3) ∧ Typed tab (.slice 59) (.l x4)) = true → (qba_c x0 x1 x2 x3 x4 y0 y1 y2 y3 y4) = true ∧ (qba_v x0 x1 x2 x3 x4 y0 y1 y2 y3 y4) = true := by
  intro h
  obtain ⟨hM, rfl, rfl, rfl, rfl, rfl, t3, t4⟩ := is_iff.1 h
  have c4 : qx_c x4 x4 = true := is_true ⟨rfl, t4⟩
  have c3 : qz_c x3 x3 = true := is_true ⟨rfl, t3, fun x hx => is_true ⟨by have a := dep_cell hx 3; omega, rfl, rfl, rfl, rfl, rfl, typed_list ((typed_elem t3 hx).2 3 (by decide)), typed_list ((typed_elem t3 hx).2 4 (by decide))⟩⟩
  constructor
  · unfold qba_c
    simp only [c3, c4, qz_v, qx_v, beq_self_eq_true, Bool.not_true, cond_false, Bool.and_self]
  · unfold qba_v
    simp only [qz_v, qx_v, beq_self_eq_true, Bool.not_true, cond_false]
theorem qba_nxr (x0 x1 : Int) (x2 : BS) (x3 x4 : LL) (y0 y1 : Int) (y2 : BS) (y3 y4 : LL) : qba_rc (i_laws_eqExp := ⟨qba_O.n + 1⟩) x0 x1 x2 x3 x4 y0 y1 y2 y3 y4 = true → (qba_c x0 x1 x2 x3 x4 y0 y1 y2 y3 y4) = true ∧ (qba_v x0 x1 x2 x3 x4 y0 y1 y2 y3 y4) = (qba_rv x0 x1 x2 x3 x4 y0 y1 y2 y3 y4) := fun h => qba_nx x0 x1 x2 x3 x4 y0 y1 y2 y3 y4 h
theorem qba_rs : ∀ xs r, qba_rS (i_laws_eqExp := ⟨qba_O.n + 1⟩) xs = some (true, r) → runF tab FT D42 live 9 noLoops xs = some r := by
  intro xs r h
  unfold qba_rS at h
  split at h
  · obtain ⟨h1, rfl⟩ := sp h
    have hx := qba_nxr _ _ _ _ _ _ _ _ _ _ h1
    have ht := fun_told (qba_e ..) (qba_l _ _ _ _ _ _ _ _ _ _) hx.1
    rw [hx.2] at ht
    exact ht
  · cases h
theorem qba_step : qba_G (i_laws_eqExp := ⟨qba_O.n + 1⟩) := by
  have h := DOk.also2 (S := qba_rS (i_laws_eqExp := ⟨qba_O.n + 1⟩)) mixed_ok tab_ok names_ok d38 d42 noLoops_ok qba_rs
  refine qba_G.mk (i_laws_eqExp := ⟨qba_O.n + 1⟩) ?_
  exact h
abbrev ql_4_σ := Int × BS
abbrev ql_4_ω := (BS)
def ql_4_step (k : Int) (s : BS) : Tr (ql_4_σ ⊕ ql_4_ω) := (.ite ((decide (k > (0 : Int))) = true) (.ite (((([[TC.i (IntKind.wrap .u8 (IntKind.wrap .i64 ((48 : Int) + (Int.tmod k (10 : Int)))))]].map byteOf).length + s.length : Nat) : Int) ≤ 9223372036854775807) (.ok (.inl ((IntKind.wrap .i64 (Int.tdiv k (10 : Int))), (([[TC.i (IntKind.wrap .u8 (IntKind.wrap .i64 ((48 : Int) + (Int.tmod k (10 : Int)))))]].map byteOf) ++ s))))
   .no)
  (.ok (.inr s)))
def ql_4_st : ql_4_σ → Tr (ql_4_σ ⊕ ql_4_ω) := fun x => (ql_4_step (x.1) (x.2))
def ql_o4_1 (k : Int) (s : BS) : Bool := is (0 ≤ k ∧ k ≤ 4611686018427387904 ∧ s.length ≤ 16)
def ql_u4_1 (k : Int) (s : BS) : BS := digitsF digT 19 k s
def ql_4_fin (k : Int) (s : BS) : Told ql_4_ω := (.leaf (ql_o4_1 k s) (ql_u4_1 k s))
def ql_4_sl (x : ql_4_σ) : List Slot := [⟨.val false [⟨.int .i64, .sh, TC.i (x.1)⟩], ⟨0, 0⟩⟩, ⟨.val false [⟨.str, .sh, TC.s (x.2)⟩], ⟨0, 0⟩⟩]
def ql_4_out : ql_4_ω → Ex × List Slot := (fun x => (.exit 0, [Slot.none, ⟨.val false [⟨.str, .sh, TC.s x⟩], ⟨0, 0⟩⟩]))
def ql_lo4 : List Slot → Option (Told (Ex × List Slot)) := fun s => match s with
  | [⟨.val false [⟨.int .i64, .sh, TC.i k⟩], ⟨0, 0⟩⟩, ⟨.val false [⟨.str, .sh, TC.s s⟩], ⟨0, 0⟩⟩] => some (((ql_4_fin k s)).map ql_4_out)
  | _ => .none
def ql_lo : LoopTeller := fun r s => bif Nat.beq r 4 then ql_lo4 s else .none
theorem ql_4_r (k : Int) (s : BS) (fuel : Nat) : rounds (rnd tab FT D42 live 30 ql_lo 0 4) leave (fuel + 1) (ql_4_sl (k, s)) = ((ql_4_step k s)).run (goOn (fun s => rounds (rnd tab FT D42 live 30 ql_lo 0 4) leave fuel (ql_4_sl s)) fun w => some (ql_4_out w)) := by kernel_rfl
theorem ql_4_h (k : Int) (s : BS) (ow : ql_4_ω) : ((ql_4_fin k s)).val = some ow → ∃ fuel, loopN ql_4_st fuel (k, s) = some ow := by
  intro h
  refine auto_leaf (R := digitsF digT 19 k s) (fun ho => ?_) h
  obtain ⟨h0, h1, h2⟩ := is_iff.1 ho
  refine ⟨20, loopN_digits (step := ql_4_st) digT digT_len (fun k s => (k, s)) (fun s => s) 4611686018427387904 (fun k s h0 h1 h2 => ?_) (fun k s h0 => ?_) 19 k s (by have : (10 : Int) ^ 19 = 10000000000000000000 := rfl; omega) h1 (by omega)⟩
  · show (ql_4_step k s).val = _
    unfold ql_4_step
    refine Tr.t (by simpa using h0) ?_
    refine Tr.t (by simp only [List.length_map, List.length_singleton]; omega) ?_
    rw [Tr.val_ok, tdiv10 (by omega) (by omega)]
    rfl
  · show (ql_4_step k s).val = _
    unfold ql_4_step
    refine Tr.n (by simpa using h0) ?_
    rfl
theorem ql_is4 : LoopIs tab FT D42 live 30 ql_lo 0 4 := by
  refine loop_told (sl := ql_4_sl) (step := ql_4_st) (out := ql_4_out) (lor := ql_lo4) (fin := fun x => (ql_4_fin (x.1) (x.2))) (fun _ => rfl) ?_ (fun x n => ql_4_r x.1 x.2 n) (fun x ow => ql_4_h x.1 x.2 ow)
  intro s t h
  unfold ql_lo4 at h
  split at h
  · cases h; exact ⟨(_, _), rfl, rfl⟩
  · cases h
def ql_t (k : Int) : Tr (BS) := (.ite ((decide (k ≤ (0 : Int))) = true) (.ok ([109, 48]))
  (.ite ((ql_o4_1 k []) = true) (.ite ((([109].length + (ql_u4_1 k []).length : Nat) : Int) ≤ 9223372036854775807) (.ok ([109] ++ (ql_u4_1 k [])))
    .no)
   .no))
def ql_mk (p : BS) : Res := [(false, [⟨.str, .sh, TC.s p⟩])]
def ql_c (k : Int) : Bool := (bif (decide (k ≤ (0 : Int))) then true else ((ql_o4_1 k []) && (is ((([109].length + (ql_u4_1 k []).length : Nat) : Int) ≤ 9223372036854775807) && true)))
def ql_v (k : Int) : BS := hid ((bif (decide (k ≤ (0 : Int))) then [109, 48] else ([109] ++ (ql_u4_1 k []))))
theorem ql_l (k : Int) : (ql_c k) = true → (ql_t k).val = some (ql_v k) := by
  unfold ql_t ql_v ql_c
  rw [hid_eq]
  exact fun h => (Tr.ss h (fun h => rfl) (fun h => (Tr.gb h fun h => (Tr.gs h fun h => rfl))))
def ql_S : List Arg → Option (Bool × Res) := fun xs => match xs with
  | [(false, [(.int .i64, TC.i k)])] => some ((ql_c k), ql_mk (ql_v k))
  | _ => .none
theorem ql_e (k : Int) : runF tab FT D42 live 30 ql_lo [(false, [(.int .i64, TC.i k)])] = (ql_t k).run fun p => some (ql_mk p) := by kernel_rfl
theorem ql_s : ∀ xs r, ql_S xs = some (true, r) → runF tab FT D42 live 30 ql_lo xs = some r := by
  intro xs r h
  unfold ql_S at h
  split at h
  · obtain ⟨h1, rfl⟩ := sp h
    exact fun_told (ql_e _) (ql_l _) h1
  · cases h
def D43 : Dt := also D42 30 ql_S
theorem d43 : DOk Go.Proofs.Try.prog tab D43 := d42.also mixed_ok tab_ok names_ok (fnLoops_one (by kernel_rfl) ql_is4) ql_s
theorem ql_cc {k : Int} (h0 : 0 ≤ k) (h1 : k ≤ 4611686018427387904) : (ql_c k) = true := by
  unfold ql_c
  refine bifT (fun b1 => ?_) (fun b1 => ?_)
  · skip
    rfl
  · skip
    refine andT (by exact is_true ⟨h0, h1, by decide⟩) ?_
    refine andT (is_true (by have := digitsF_len digT_len 19 k []; simp only [ql_u4_1, List.length_cons, List.length_nil] at *; omega)) ?_
    rfl
def mkR_59 (k : Int) : List TC := [TC.i k, TC.i (k + 1), TC.b (Int.tmod (k + 1 + 1) 3 == 0)]
def mkL_59 (k : Int) (n : Nat) : LL := madeL (fun i => mkR_59 (k + 3 * (i : Int))) n
theorem mkL_59_length {k : Int} {n : Nat} : (mkL_59 k n).length = n := madeL_length
abbrev qo_2_σ := Int × Int × LL
abbrev qo_2_ω := (Int × LL)
def qo_2_step (k i : Int) (A : LL) : Tr (qo_2_σ ⊕ qo_2_ω) := (.ite ((decide (i < (A.length : Int))) = true) (.ite ((0 : Int) ≤ i ∧ i < (A.length : Int)) (.ite ((0 : Int) ≤ i ∧ i < ((A.set (i).toNat (splice (row A i) 0 [TC.i k])).length : Int)) (.ite ((0 : Int) ≤ i ∧ i < (((A.set (i).toNat (splice (row A i) 0 [TC.i k])).set (i).toNat (splice (row (A.set (i).toNat (splice (row A i) 0 [TC.i k])) i) 1 [TC.i (IntKind.wrap .i64 (k + (1 : Int)))])).length : Int)) (.ok (.inl ((IntKind.wrap .i64 ((IntKind.wrap .i64 ((IntKind.wrap .i64 (k + (1 : Int))) + (1 : Int))) + (1 : Int))), (IntKind.wrap .i64 (i + (1 : Int))), (((A.set (i).toNat (splice (row A i) 0 [TC.i k])).set (i).toNat (splice (row (A.set (i).toNat (splice (row A i) 0 [TC.i k])) i) 1 [TC.i (IntKind.wrap .i64 (k + (1 : Int)))])).set (i).toNat (splice (row ((A.set (i).toNat (splice (row A i) 0 [TC.i k])).set (i).toNat (splice (row (A.set (i).toNat (splice (row A i) 0 [TC.i k])) i) 1 [TC.i (IntKind.wrap .i64 (k + (1 : Int)))])) i) 2 [TC.b ((Int.tmod (IntKind.wrap .i64 ((IntKind.wrap .i64 (k + (1 : Int))) + (1 : Int))) (3 : Int)) == (0 : Int))])))))
     .no)
    .no)
   .no)
  (.ok (.inr (k, A))))
def qo_2_st : qo_2_σ → Tr (qo_2_σ ⊕ qo_2_ω) := fun x => (qo_2_step (x.1) (x.2.1) (x.2.2))
def qo_o2_1 (k i : Int) (A : LL) : Bool := is ((∀ x, x ∈ A → x.length = 3) ∧ A.length ≤ 140737488351232 ∧ 0 ≤ k ∧ k ≤ 2305843009213693952 ∧ i = 0)
def qo_u2_1_0 (k i : Int) (A : LL) : Int := k + 3 * (A.length : Int)
def qo_u2_1_1 (k i : Int) (A : LL) : LL := mkL_59 k A.length
def qo_2_fin (k i : Int) (A : LL) : Told qo_2_ω := (.leaf (qo_o2_1 k i A) ((qo_u2_1_0 k i A), (qo_u2_1_1 k i A)))
def qo_2_sl (x : qo_2_σ) : List Slot := [⟨.gal false 0 1, ⟨0, 0⟩⟩, ⟨.val false [⟨.int .i64, .sh, TC.i (x.1)⟩], ⟨0, 0⟩⟩, ⟨.val false [⟨.int .i64, .sh, TC.i (x.2.1)⟩], ⟨0, 0⟩⟩, ⟨.gv [⟨.slice 59, .own true, TC.l (x.2.2)⟩], ⟨0, 0⟩⟩]
def qo_2_out : qo_2_ω → Ex × List Slot := (fun x => (.exit 0, [⟨.val false [⟨.int .i64, .sh, TC.i (x.1)⟩], ⟨0, 0⟩⟩, Slot.none, ⟨.gv [⟨.slice 59, .own true, TC.l (x.2)⟩], ⟨0, 0⟩⟩]))
def qo_lo2 : List Slot → Option (Told (Ex × List Slot)) := fun s => match s with
  | [⟨.gal false 0 1, ⟨0, 0⟩⟩, ⟨.val false [⟨.int .i64, .sh, TC.i k⟩], ⟨0, 0⟩⟩, ⟨.val false [⟨.int .i64, .sh, TC.i i⟩], ⟨0, 0⟩⟩, ⟨.gv [⟨.slice 59, .own true, TC.l A⟩], ⟨0, 0⟩⟩] => some (((qo_2_fin k i A)).map qo_2_out)
  | _ => .none
def qo_lo : LoopTeller := fun r s => bif Nat.beq r 2 then qo_lo2 s else .none
theorem qo_2_r (k i : Int) (A : LL) (fuel : Nat) : rounds (rnd tab FT D43 live 29 qo_lo 0 2) leave (fuel + 1) (qo_2_sl (k, i, A)) = ((qo_2_step k i A)).run (goOn (fun s => rounds (rnd tab FT D43 live 29 qo_lo 0 2) leave fuel (qo_2_sl s)) fun w => some (qo_2_out w)) := by kernel_rfl
theorem qo_2_h (k i : Int) (A : LL) (ow : qo_2_ω) : ((qo_2_fin k i A)).val = some ow → ∃ fuel, loopN qo_2_st fuel (k, i, A) = some ow := by
  intro h
  refine auto_leaf (R := (k + 3 * (A.length : Int), mkL_59 k A.length)) (fun ho => ?_) h
  obtain ⟨hr, hl, h0, h1, rfl⟩ := is_iff.1 ho
  have key := loopN_over (step := qo_2_st) A 3 (fun i => mkR_59 (k + 3 * (i : Int))) (fun Y i => (k + 3 * (i : Int), (i : Int), Y)) (k + 3 * (A.length : Int), mkL_59 k A.length) hr (fun _ => rfl) (fun Y i hi hY hy => ?_) ?_ A.length 0 (by omega)
  · exact ⟨A.length + 1, Eq.trans (congrArg (loopN qo_2_st (A.length + 1)) (by simp [madeL])) key⟩
  · obtain ⟨kk, hkk⟩ : ∃ kk : Int, kk = k + 3 * (i : Int) := ⟨_, rfl⟩
    have hk0 : 0 ≤ kk := by omega
    have hk1 : kk + 3 ≤ 4611686018427387904 := by omega
    have hy : ∃ y0 y1 y2, row Y (i : Int) = [y0, y1, y2] := len_3 hy
    obtain ⟨y0, y1, y2, hy⟩ := hy
    have hiY : i < Y.length := by omega
    show (qo_2_step (k + 3 * (i : Int)) (i : Int) Y).val = _
    rw [← hkk]
    unfold qo_2_step
    rw [wrap64 (i := kk + 1) (by omega) (by omega)]
    rw [wrap64 (i := kk + 1 + 1) (by omega) (by omega)]
    rw [wrap64 (i := kk + 1 + 1 + 1) (by omega) (by omega)]
    try rw [wrap64 (i := kk) (by omega) (by omega)]
    refine Tr.t (by simp; omega) ?_
    refine Tr.t (by constructor <;> (try simp only [List.length_set]) <;> omega) ?_
    refine Tr.t (by constructor <;> (try simp only [List.length_set]) <;> omega) ?_
    refine Tr.t (by constructor <;> (try simp only [List.length_set]) <;> omega) ?_
    rw [Tr.val_ok, wrap64 (i := (i : Int) + 1) (by omega) (by omega)]
    simp only [Int.toNat_natCast, hy, row_set, List.length_set, hiY, List.set_set]
    show some (Sum.inl (_, _, _)) = some (Sum.inl (_, _, _))
    rw [show k + 3 * ((i + 1 : Nat) : Int) = kk + 1 + 1 + 1 from by omega]
    rfl
  · show (qo_2_step (k + 3 * (A.length : Int)) (A.length : Int) (mkL_59 k A.length)).val = _
    unfold qo_2_step
    refine Tr.n (by simp [mkL_59_length]) ?_
    rfl
theorem qo_is2 : LoopIs tab FT D43 live 29 qo_lo 0 2 := by
  refine loop_told (sl := qo_2_sl) (step := qo_2_st) (out := qo_2_out) (lor := qo_lo2) (fin := fun x => (qo_2_fin (x.1) (x.2.1) (x.2.2))) (fun _ => rfl) ?_ (fun x n => qo_2_r x.1 x.2.1 x.2.2 n) (fun x ow => qo_2_h x.1 x.2.1 x.2.2 ow)
  intro s t h
  unfold qo_lo2 at h
  split at h
  · cases h; exact ⟨(_, _, _), rfl, rfl⟩
  · cases h
def qo_t (A : LL) (k : Int) : Tr (LL × Int) := (.ite ((qo_o2_1 k (0 : Int) A) = true) (.ok ((qo_u2_1_1 k (0 : Int) A), (qo_u2_1_0 k (0 : Int) A)))
  .no)
def qo_mk (p : LL × Int) : Res := [(true, [⟨.slice 59, .own true, TC.l (p.1)⟩]), (false, [⟨.int .i64, .sh, TC.i (p.2)⟩])]
def qo_c (A : LL) (k : Int) : Bool := is ((∀ x, x ∈ A → x.length = 3) ∧ A.length ≤ 140737488351232 ∧ 0 ≤ k ∧ k ≤ 2305843009213693952)
def qo_v (A : LL) (k : Int) : LL × Int := (mkL_59 k A.length, k + 3 * (A.length : Int))
theorem qo_l (A : LL) (k : Int) : (qo_c A k) = true → (qo_t A k).val = some (qo_v A k) := by
  intro h
  obtain ⟨hr, hl, h0, h1⟩ := is_iff.1 h
  unfold qo_t
  exact Tr.t (is_true ⟨hr, hl, h0, h1, rfl⟩) rfl
def qo_S : List Arg → Option (Bool × Res) := fun xs => match xs with
  | [(false, [(.slice 59, TC.l A)]), (false, [(.int .i64, TC.i k)])] => some ((qo_c A k), qo_mk (qo_v A k))
  | _ => .none
theorem qo_e (A : LL) (k : Int) : runFW false tab FT D43 live 29 qo_lo (false, [(.slice 59, TC.l A)]) [(false, [(.int .i64, TC.i k)])] = (qo_t A k).run fun p => some (qo_mk p) := by kernel_rfl
theorem qo_s0 : ∀ ys r, qo_S ys = some (true, r) → ∀ a0 xs, ys = a0 :: xs → runFW false tab FT D43 live 29 qo_lo a0 xs = some r := by
  intro ys r h
  unfold qo_S at h
  split at h
  · obtain ⟨h1, rfl⟩ := sp h
    intro a0 xs e
    cases e
    exact fun_toldW (qo_e ..) (qo_l _ _) h1
  · cases h
theorem qo_s : ∀ a0 xs r, qo_S (a0 :: xs) = some (true, r) → runFW false tab FT D43 live 29 qo_lo a0 xs = some r := fun a0 xs r h => qo_s0 _ r h a0 xs rfl
def D44 : Dt := alsoW D43 29 qo_S
theorem d44 : DOk Go.Proofs.Try.prog tab D44 := d43.alsoW mixed_ok tab_ok names_ok (fnLoops_one (by kernel_rfl) qo_is2) qo_s
theorem qo_cc {A : LL} {k : Int} (ht : Typed tab (.slice 59) (.l A)) (hl : A.length ≤ 140737488351232) (h0 : 0 ≤ k) (h1 : k ≤ 2305843009213693952) : qo_c A k = true := is_true ⟨typed_rows ht rfl, hl, h0, h1⟩
def mkX (K : LL) (k : Int) : LL × Int := K.attach.foldl (fun s x => (s.1 ++ [[TC.i s.2, TC.i (s.2 + 1), TC.s (ql_v (s.2 + 1 + 1)), TC.l (mkX (nth x.1 3).list (s.2 + 1 + 1 + 1)).1, TC.l (mkL_59 (mkX (nth x.1 3).list (s.2 + 1 + 1 + 1)).2 (nth x.1 4).list.length)]], (mkX (nth x.1 3).list (s.2 + 1 + 1 + 1)).2 + 3 * ((nth x.1 4).list.length : Int))) ([], k)
termination_by rowsDep K
decreasing_by all_goals exact dep_cell x.2 3
def mkF (s : LL × Int) (x : List TC) : LL × Int := (s.1 ++ [[TC.i s.2, TC.i (s.2 + 1), TC.s (ql_v (s.2 + 1 + 1)), TC.l (mkX (nth x 3).list (s.2 + 1 + 1 + 1)).1, TC.l (mkL_59 (mkX (nth x 3).list (s.2 + 1 + 1 + 1)).2 (nth x 4).list.length)]], (mkX (nth x 3).list (s.2 + 1 + 1 + 1)).2 + 3 * ((nth x 4).list.length : Int))
theorem mkX_eq {K : LL} {k : Int} : mkX K k = K.foldl mkF ([], k) := by
  rw [mkX]
  exact attach_foldl (f := mkF) (l := K) (b := ([], k))
theorem mk_snd : ∀ (d : Nat) (K : LL) (k : Int), rowsDep K ≤ d → (mkX K k).2 = k + (cnX K : Int) := by
  have fold : ∀ (Q : LL) (s : LL × Int), (∀ x, x ∈ Q → ∀ k, (mkX (nth x 3).list k).2 = k + (cnX (nth x 3).list : Int)) → (Q.foldl mkF s).2 = s.2 + (Q.foldl cnF 0 : Nat) := by
    intro Q
    induction Q with
    | nil => intro s _; show s.2 = s.2 + 0; omega
    | cons x Q ih =>
      intro s h
      rw [List.foldl_cons, ih _ (fun y hy => h y (List.mem_cons_of_mem _ hy)), cn_cons]
      have := h x List.mem_cons_self (s.2 + 1 + 1 + 1)
      show (mkX (nth x 3).list (s.2 + 1 + 1 + 1)).2 + 3 * ((nth x 4).list.length : Int) + _ = _
      omega
  intro d
  induction d with
  | zero =>
    intro K k h
    match K, h with
    | [], _ => rw [mkX_eq, cnX_eq]; show k = k + 0; omega
    | x :: K, h => exact absurd (dep_cell (A := x :: K) (x := x) List.mem_cons_self 3) (by omega)
  | succ d ih =>
    intro K k h
    rw [mkX_eq, cnX_eq]
    exact fold K ([], k) fun x hx k => ih _ k (by have := dep_cell hx 3; omega)
section
class qe_O where n : Nat
variable [i_laws_markExpS : qe_O]
def qe_rc (K : LL) (k : Int) : Bool := is (rowsDep K < qe_O.n ∧ Typed tab (.slice 31) (.l K) ∧ 0 ≤ k ∧ k + (cnX K : Int) ≤ 1152921504606846976)
def qe_rv (K : LL) (k : Int) : LL × Int := mkX K k
def qe_rmk (p : LL × Int) : Res := [(true, [⟨.slice 31, .own true, TC.l (p.1)⟩]), (false, [⟨.int .i64, .sh, TC.i (p.2)⟩])]
def qe_rS : List Arg → Option (Bool × Res) := fun xs => match xs with
  | [(false, [(.slice 31, TC.l K)]), (false, [(.int .i64, TC.i k)])] => some ((qe_rc K k), qe_rmk (qe_rv K k))
  | _ => .none
def D45 : Dt := alsoW D44 28 qe_rS
class qe_G : Prop where ok : DOk Go.Proofs.Try.prog tab D45
variable [g_laws_markExpS : qe_G]
theorem d45 : DOk Go.Proofs.Try.prog tab D45 := qe_G.ok
abbrev qe_2_σ := Int × Int × LL
abbrev qe_2_ω := (Int × LL)
def qe_2_step (k i : Int) (A : LL) : Tr (qe_2_σ ⊕ qe_2_ω) := (.ite ((decide (i < (A.length : Int))) = true) (.ite ((0 : Int) ≤ i ∧ i < (A.length : Int)) (.ite ((0 : Int) ≤ i ∧ i < ((A.set (i).toNat (splice (row A i) 0 [TC.i k])).length : Int)) (.ite ((ql_c (IntKind.wrap .i64 ((IntKind.wrap .i64 (k + (1 : Int))) + (1 : Int)))) = true) (.ite ((0 : Int) ≤ i ∧ i < (((A.set (i).toNat (splice (row A i) 0 [TC.i k])).set (i).toNat (splice (row (A.set (i).toNat (splice (row A i) 0 [TC.i k])) i) 1 [TC.i (IntKind.wrap .i64 (k + (1 : Int)))])).length : Int)) (.ite ((0 : Int) ≤ i ∧ i < ((((A.set (i).toNat (splice (row A i) 0 [TC.i k])).set (i).toNat (splice (row (A.set (i).toNat (splice (row A i) 0 [TC.i k])) i) 1 [TC.i (IntKind.wrap .i64 (k + (1 : Int)))])).set (i).toNat (splice (row ((A.set (i).toNat (splice (row A i) 0 [TC.i k])).set (i).toNat (splice (row (A.set (i).toNat (splice (row A i) 0 [TC.i k])) i) 1 [TC.i (IntKind.wrap .i64 (k + (1 : Int)))])) i) 2 [TC.s (ql_v (IntKind.wrap .i64 ((IntKind.wrap .i64 (k + (1 : Int))) + (1 : Int))))])).length : Int)) (.ite ((qe_rc ((nth (row (((A.set (i).toNat (splice (row A i) 0 [TC.i k])).set (i).toNat (splice (row (A.set (i).toNat (splice (row A i) 0 [TC.i k])) i) 1 [TC.i (IntKind.wrap .i64 (k + (1 : Int)))])).set (i).toNat (splice (row ((A.set (i).toNat (splice (row A i) 0 [TC.i k])).set (i).toNat (splice (row (A.set (i).toNat (splice (row A i) 0 [TC.i k])) i) 1 [TC.i (IntKind.wrap .i64 (k + (1 : Int)))])) i) 2 [TC.s (ql_v (IntKind.wrap .i64 ((IntKind.wrap .i64 (k + (1 : Int))) + (1 : Int))))])) i) 3).list) (IntKind.wrap .i64 ((IntKind.wrap .i64 ((IntKind.wrap .i64 (k + (1 : Int))) + (1 : Int))) + (1 : Int)))) = true) (.ite ((0 : Int) ≤ i ∧ i < (((((A.set (i).toNat (splice (row A i) 0 [TC.i k])).set (i).toNat (splice (row (A.set (i).toNat (splice (row A i) 0 [TC.i k])) i) 1 [TC.i (IntKind.wrap .i64 (k + (1 : Int)))])).set (i).toNat (splice (row ((A.set (i).toNat (splice (row A i) 0 [TC.i k])).set (i).toNat (splice (row (A.set (i).toNat (splice (row A i) 0 [TC.i k])) i) 1 [TC.i (IntKind.wrap .i64 (k + (1 : Int)))])) i) 2 [TC.s (ql_v (IntKind.wrap .i64 ((IntKind.wrap .i64 (k + (1 : Int))) + (1 : Int))))])).set (i).toNat (splice (row (((A.set (i).toNat (splice (row A i) 0 [TC.i k])).set (i).toNat (splice (row (A.set (i).toNat (splice (row A i) 0 [TC.i k])) i) 1 [TC.i (IntKind.wrap .i64 (k + (1 : Int)))])).set (i).toNat (splice (row ((A.set (i).toNat (splice (row A i) 0 [TC.i k])).set (i).toNat (splice (row (A.set (i).toNat (splice (row A i) 0 [TC.i k])) i) 1 [TC.i (IntKind.wrap .i64 (k + (1 : Int)))])) i) 2 [TC.s (ql_v (IntKind.wrap .i64 ((IntKind.wrap .i64 (k + (1 : Int))) + (1 : Int))))])) i) 3 [TC.l ((qe_rv ((nth (row (((A.set (i).toNat (splice (row A i) 0 [TC.i k])).set (i).toNat (splice (row (A.set (i).toNat (splice (row A i) 0 [TC.i k])) i) 1 [TC.i (IntKind.wrap .i64 (k + (1 : Int)))])).set (i).toNat (splice (row ((A.set (i).toNat (splice (row A i) 0 [TC.i k])).set (i).toNat (splice (row (A.set (i).toNat (splice (row A i) 0 [TC.i k])) i) 1 [TC.i (IntKind.wrap .i64 (k + (1 : Int)))])) i) 2 [TC.s (ql_v (IntKind.wrap .i64 ((IntKind.wrap .i64 (k + (1 : Int))) + (1 : Int))))])) i) 3).list) (IntKind.wrap .i64 ((IntKind.wrap .i64 ((IntKind.wrap .i64 (k + (1 : Int))) + (1 : Int))) + (1 : Int)))).1)])).length : Int)) (.ite ((qo_c ((nth (row ((((A.set (i).toNat (splice (row A i) 0 [TC.i k])).set (i).toNat (splice (row (A.set (i).toNat (splice (row A i) 0 [TC.i k])) i) 1 [TC.i (IntKind.wrap .i64 (k + (1 : Int)))])).set (i).toNat (splice (row ((A.set (i).toNat (splice (row A i) 0 [TC.i k])).set (i).toNat (splice (row (A.set (i).toNat (splice (row A i) 0 [TC.i k])) i) 1 [TC.i (IntKind.wrap .i64 (k + (1 : Int)))])) i) 2 [TC.s (ql_v (IntKind.wrap .i64 ((IntKind.wrap .i64 (k + (1 : Int))) + (1 : Int))))])).set (i).toNat (splice (row (((A.set (i).toNat (splice (row A i) 0 [TC.i k])).set (i).toNat (splice (row (A.set (i).toNat (splice (row A i) 0 [TC.i k])) i) 1 [TC.i (IntKind.wrap .i64 (k + (1 : Int)))])).set (i).toNat (splice (row ((A.set (i).toNat (splice (row A i) 0 [TC.i k])).set (i).toNat (splice (row (A.set (i).toNat (splice (row A i) 0 [TC.i k])) i) 1 [TC.i (IntKind.wrap .i64 (k + (1 : Int)))])) i) 2 [TC.s (ql_v (IntKind.wrap .i64 ((IntKind.wrap .i64 (k + (1 : Int))) + (1 : Int))))])) i) 3 [TC.l ((qe_rv ((nth (row (((A.set (i).toNat (splice (row A i) 0 [TC.i k])).set (i).toNat (splice (row (A.set (i).toNat (splice (row A i) 0 [TC.i k])) i) 1 [TC.i (IntKind.wrap .i64 (k + (1 : Int)))])).set (i).toNat (splice (row ((A.set (i).toNat (splice (row A i) 0 [TC.i k])).set (i).toNat (splice (row (A.set (i).toNat (splice (row A i) 0 [TC.i k])) i) 1 [TC.i (IntKind.wrap .i64 (k + (1 : Int)))])) i) 2 [TC.s (ql_v (IntKind.wrap .i64 ((IntKind.wrap .i64 (k + (1 : Int))) + (1 : Int))))])) i) 3).list) (IntKind.wrap .i64 ((IntKind.wrap .i64 ((IntKind.wrap .i64 (k + (1 : Int))) + (1 : Int))) + (1 : Int)))).1)])) i) 4).list) ((qe_rv ((nth (row (((A.set (i).toNat (splice (row A i) 0 [TC.i k])).set (i).toNat (splice (row (A.set (i).toNat (splice (row A i) 0 [TC.i k])) i) 1 [TC.i (IntKind.wrap .i64 (k + (1 : Int)))])).set (i).toNat (splice (row ((A.set (i).toNat (splice (row A i) 0 [TC.i k])).set (i).toNat (splice (row (A.set (i).toNat (splice (row A i) 0 [TC.i k])) i) 1 [TC.i (IntKind.wrap .i64 (k + (1 : Int)))])) i) 2 [TC.s (ql_v (IntKind.wrap .i64 ((IntKind.wrap .i64 (k + (1 : Int))) + (1 : Int))))])) i) 3).list) (IntKind.wrap .i64 ((IntKind.wrap .i64 ((IntKind.wrap .i64 (k + (1 : Int))) + (1 : Int))) + (1 : Int)))).2)) = true) (.ok (.inl ((qo_v ((nth (row ((((A.set (i).toNat (splice (row A i) 0 [TC.i k])).set (i).toNat (splice (row (A.set (i).toNat (splice (row A i) 0 [TC.i k])) i) 1 [TC.i (IntKind.wrap .i64 (k + (1 : Int)))])).set (i).toNat (splice (row ((A.set (i).toNat (splice (row A i) 0 [TC.i k])).set (i).toNat (splice (row (A.set (i).toNat (splice (row A i) 0 [TC.i k])) i) 1 [TC.i (IntKind.wrap .i64 (k + (1 : Int)))])) i) 2 [TC.s (ql_v (IntKind.wrap .i64 ((IntKind.wrap .i64 (k + (1 : Int))) + (1 : Int))))])).set (i).toNat (splice (row (((A.set (i).toNat (splice (row A i) 0 [TC.i k])).set (i).toNat (splice (row (A.set (i).toNat (splice (row A i) 0 [TC.i k])) i) 1 [TC.i (IntKind.wrap .i64 (k + (1 : Int)))])).set (i).toNat (splice (row ((A.set (i).toNat (splice (row A i) 0 [TC.i k])).set (i).toNat (splice (row (A.set (i).toNat (splice (row A i) 0 [TC.i k])) i) 1 [TC.i (IntKind.wrap .i64 (k + (1 : Int)))])) i) 2 [TC.s (ql_v (IntKind.wrap .i64 ((IntKind.wrap .i64 (k + (1 : Int))) + (1 : Int))))])) i) 3 [TC.l ((qe_rv ((nth (row (((A.set (i).toNat (splice (row A i) 0 [TC.i k])).set (i).toNat (splice (row (A.set (i).toNat (splice (row A i) 0 [TC.i k])) i) 1 [TC.i (IntKind.wrap .i64 (k + (1 : Int)))])).set (i).toNat (splice (row ((A.set (i).toNat (splice (row A i) 0 [TC.i k])).set (i).toNat (splice (row (A.set (i).toNat (splice (row A i) 0 [TC.i k])) i) 1 [TC.i (IntKind.wrap .i64 (k + (1 : Int)))])) i) 2 [TC.s (ql_v (IntKind.wrap .i64 ((IntKind.wrap .i64 (k + (1 : Int))) + (1 : Int))))])) i) 3).list) (IntKind.wrap .i64 ((IntKind.wrap .i64 ((IntKind.wrap .i64 (k + (1 : Int))) + (1 : Int))) + (1 : Int)))).1)])) i) 4).list) ((qe_rv ((nth (row (((A.set (i).toNat (splice (row A i) 0 [TC.i k])).set (i).toNat (splice (row (A.set (i).toNat (splice (row A i) 0 [TC.i k])) i) 1 [TC.i (IntKind.wrap .i64 (k + (1 : Int)))])).set (i).toNat (splice (row ((A.set (i).toNat (splice (row A i) 0 [TC.i k])).set (i).toNat (splice (row (A.set (i).toNat (splice (row A i) 0 [TC.i k])) i) 1 [TC.i (IntKind.wrap .i64 (k + (1 : Int)))])) i) 2 [TC.s (ql_v (IntKind.wrap .i64 ((IntKind.wrap .i64 (k + (1 : Int))) + (1 : Int))))])) i) 3).list) (IntKind.wrap .i64 ((IntKind.wrap .i64 ((IntKind.wrap .i64 (k + (1 : Int))) + (1 : Int))) + (1 : Int)))).2)).2, (IntKind.wrap .i64 (i + (1 : Int))), (((((A.set (i).toNat (splice (row A i) 0 [TC.i k])).set (i).toNat (splice (row (A.set (i).toNat (splice (row A i) 0 [TC.i k])) i) 1 [TC.i (IntKind.wrap .i64 (k + (1 : Int)))])).set (i).toNat (splice (row ((A.set (i).toNat (splice (row A i) 0 [TC.i k])).set (i).toNat (splice (row (A.set (i).toNat (splice (row A i) 0 [TC.i k])) i) 1 [TC.i (IntKind.wrap .i64 (k + (1 : Int)))])) i) 2 [TC.s (ql_v (IntKind.wrap .i64 ((IntKind.wrap .i64 (k + (1 : Int))) + (1 : Int))))])).set (i).toNat (splice (row (((A.set (i).toNat (splice (row A i) 0 [TC.i k])).set (i).toNat (splice (row (A.set (i).toNat (splice (row A i) 0 [TC.i k])) i) 1 [TC.i (IntKind.wrap .i64 (k + (1 : Int)))])).set (i).toNat (splice (row ((A.set (i).toNat (splice (row A i) 0 [TC.i k])).set (i).toNat (splice (row (A.set (i).toNat (splice (row A i) 0 [TC.i k])) i) 1 [TC.i (IntKind.wrap .i64 (k + (1 : Int)))])) i) 2 [TC.s (ql_v (IntKind.wrap .i64 ((IntKind.wrap .i64 (k + (1 : Int))) + (1 : Int))))])) i) 3 [TC.l ((qe_rv ((nth (row (((A.set (i).toNat (splice (row A i) 0 [TC.i k])).set (i).toNat (splice (row (A.set (i).toNat (splice (row A i) 0 [TC.i k])) i) 1 [TC.i (IntKind.wrap .i64 (k + (1 : Int)))])).set (i).toNat (splice (row ((A.set (i).toNat (splice (row A i) 0 [TC.i k])).set (i).toNat (splice (row (A.set (i).toNat (splice (row A i) 0 [TC.i k])) i) 1 [TC.i (IntKind.wrap .i64 (k + (1 : Int)))])) i) 2 [TC.s (ql_v (IntKind.wrap .i64 ((IntKind.wrap .i64 (k + (1 : Int))) + (1 : Int))))])) i) 3).list) (IntKind.wrap .i64 ((IntKind.wrap .i64 ((IntKind.wrap .i64 (k + (1 : Int))) + (1 : Int))) + (1 : Int)))).1)])).set (i).toNat (splice (row ((((A.set (i).toNat (splice (row A i) 0 [TC.i k])).set (i).toNat (splice (row (A.set (i).toNat (splice (row A i) 0 [TC.i k])) i) 1 [TC.i (IntKind.wrap .i64 (k + (1 : Int)))])).set (i).toNat (splice (row ((A.set (i).toNat (splice (row A i) 0 [TC.i k])).set (i).toNat (splice (row (A.set (i).toNat (splice (row A i) 0 [TC.i k])) i) 1 [TC.i (IntKind.wrap .i64 (k + (1 : Int)))])) i) 2 [TC.s (ql_v (IntKind.wrap .i64 ((IntKind.wrap .i64 (k + (1 : Int))) + (1 : Int))))])).set (i).toNat (splice (row (((A.set (i).toNat (splice (row A i) 0 [TC.i k])).set (i).toNat (splice (row (A.set (i).toNat (splice (row A i) 0 [TC.i k])) i) 1 [TC.i (IntKind.wrap .i64 (k + (1 : Int)))])).set (i).toNat (splice (row ((A.set (i).toNat (splice (row A i) 0 [TC.i k])).set (i).toNat (splice (row (A.set (i).toNat (splice (row A i) 0 [TC.i k])) i) 1 [TC.i (IntKind.wrap .i64 (k + (1 : Int)))])) i) 2 [TC.s (ql_v (IntKind.wrap .i64 ((IntKind.wrap .i64 (k + (1 : Int))) + (1 : Int))))])) i) 3 [TC.l ((qe_rv ((nth (row (((A.set (i).toNat (splice (row A i) 0 [TC.i k])).set (i).toNat (splice (row (A.set (i).toNat (splice (row A i) 0 [TC.i k])) i) 1 [TC.i (IntKind.wrap .i64 (k + (1 : Int)))])).set (i).toNat (splice (row ((A.set (i).toNat (splice (row A i) 0 [TC.i k])).set (i).toNat (splice (row (A.set (i).toNat (splice (row A i) 0 [TC.i k])) i) 1 [TC.i (IntKind.wrap .i64 (k + (1 : Int)))])) i) 2 [TC.s (ql_v (IntKind.wrap .i64 ((IntKind.wrap .i64 (k + (1 : Int))) + (1 : Int))))])) i) 3).list) (IntKind.wrap .i64 ((IntKind.wrap .i64 ((IntKind.wrap .i64 (k + (1 : Int))) + (1 : Int))) + (1 : Int)))).1)])) i) 4 [TC.l ((qo_v ((nth (row ((((A.set (i).toNat (splice (row A i) 0 [TC.i k])).set (i).toNat (splice (row (A.set (i).toNat (splice (row A i) 0 [TC.i k])) i) 1 [TC.i (IntKind.wrap .i64 (k + (1 : Int)))])).set (i).toNat (splice (row ((A.set (i).toNat (splice (row A i) 0 [TC.i k])).set (i).toNat (splice (row (A.set (i).toNat (splice (row A i) 0 [TC.i k])) i) 1 [TC.i (IntKind.wrap .i64 (k + (1 : Int)))])) i) 2 [TC.s (ql_v (IntKind.wrap .i64 ((IntKind.wrap .i64 (k + (1 : Int))) + (1 : Int))))])).set (i).toNat (splice (row (((A.set (i).toNat (splice (row A i) 0 [TC.i k])).set (i).toNat (splice (row (A.set (i).toNat (splice (row A i) 0 [TC.i k])) i) 1 [TC.i (IntKind.wrap .i64 (k + (1 : Int)))])).set (i).toNat (splice (row ((A.set (i).toNat (splice (row A i) 0 [TC.i k])).set (i).toNat (splice (row (A.set (i).toNat (splice (row A i) 0 [TC.i k])) i) 1 [TC.i (IntKind.wrap .i64 (k + (1 : Int)))])) i) 2 [TC.s (ql_v (IntKind.wrap .i64 ((IntKind.wrap .i64 (k + (1 : Int))) + (1 : Int))))])) i) 3 [TC.l ((qe_rv ((nth (row (((A.set (i).toNat (splice (row A i) 0 [TC.i k])).set (i).toNat (splice (row (A.set (i).toNat (splice (row A i) 0 [TC.i k])) i) 1 [TC.i (IntKind.wrap .i64 (k + (1 : Int)))])).set (i).toNat (splice (row ((A.set (i).toNat (splice (row A i) 0 [TC.i k])).set (i).toNat (splice (row (A.set (i).toNat (splice (row A i) 0 [TC.i k])) i) 1 [TC.i (IntKind.wrap .i64 (k + (1 : Int)))])) i) 2 [TC.s (ql_v (IntKind.wrap .i64 ((IntKind.wrap .i64 (k + (1 : Int))) + (1 : Int))))])) i) 3).list) (IntKind.wrap .i64 ((IntKind.wrap .i64 ((IntKind.wrap .i64 (k + (1 : Int))) + (1 : Int))) + (1 : Int)))).1)])) i) 4).list) ((qe_rv ((nth (row (((A.set (i).toNat (splice (row A i) 0 [TC.i k])).set (i).toNat (splice (row (A.set (i).toNat (splice (row A i) 0 [TC.i k])) i) 1 [TC.i (IntKind.wrap .i64 (k + (1 : Int)))])).set (i).toNat (splice (row ((A.set (i).toNat (splice (row A i) 0 [TC.i k])).set (i).toNat (splice (row (A.set (i).toNat (splice (row A i) 0 [TC.i k])) i) 1 [TC.i (IntKind.wrap .i64 (k + (1 : Int)))])) i) 2 [TC.s (ql_v (IntKind.wrap .i64 ((IntKind.wrap .i64 (k + (1 : Int))) + (1 : Int))))])) i) 3).list) (IntKind.wrap .i64 ((IntKind.wrap .i64 ((IntKind.wrap .i64 (k + (1 : Int))) + (1 : Int))) + (1 : Int)))).2)).1)])))))
          .no)
         .no)
        .no)
       .no)
      .no)
     .no)
    .no)
   .no)
  (.ok (.inr (k, A))))
def qe_2_st : qe_2_σ → Tr (qe_2_σ ⊕ qe_2_ω) := fun x => (qe_2_step (x.1) (x.2.1) (x.2.2))
def qe_o2_1 (k i : Int) (A : LL) : Bool := is (i = 0 ∧ Typed tab (.slice 31) (.l A) ∧ 0 ≤ k ∧ k + ((A.foldl cnF 0 : Nat) : Int) ≤ 1152921504606846976 ∧ A.length ≤ 140737488355328 ∧ ∀ (x : List TC) (kk : Int), x ∈ A → 0 ≤ kk → kk + (cnX (nth x 3).list : Int) ≤ 1152921504606846976 → qe_rc (nth x 3).list kk = true)
def qe_u2_1_0 (k i : Int) (A : LL) : Int := (A.foldl mkF ([], k)).2
def qe_u2_1_1 (k i : Int) (A : LL) : LL := (A.foldl mkF ([], k)).1
def qe_2_fin (k i : Int) (A : LL) : Told qe_2_ω := (.leaf (qe_o2_1 k i A) ((qe_u2_1_0 k i A), (qe_u2_1_1 k i A)))
def qe_2_sl (x : qe_2_σ) : List Slot := [⟨.gal false 0 1, ⟨0, 0⟩⟩, ⟨.val false [⟨.int .i64, .sh, TC.i (x.1)⟩], ⟨0, 0⟩⟩, ⟨.val false [⟨.int .i64, .sh, TC.i (x.2.1)⟩], ⟨0, 0⟩⟩, ⟨.gv [⟨.slice 31, .own true, TC.l (x.2.2)⟩], ⟨0, 0⟩⟩]
def qe_2_out : qe_2_ω → Ex × List Slot := (fun x => (.exit 0, [⟨.val false [⟨.int .i64, .sh, TC.i (x.1)⟩], ⟨0, 0⟩⟩, Slot.none, ⟨.gv [⟨.slice 31, .own true, TC.l (x.2)⟩], ⟨0, 0⟩⟩]))
def qe_lo2 : List Slot → Option (Told (Ex × List Slot)) := fun s => match s with
  | [⟨.gal false 0 1, ⟨0, 0⟩⟩, ⟨.val false [⟨.int .i64, .sh, TC.i k⟩], ⟨0, 0⟩⟩, ⟨.val false [⟨.int .i64, .sh, TC.i i⟩], ⟨0, 0⟩⟩, ⟨.gv [⟨.slice 31, .own true, TC.l A⟩], ⟨0, 0⟩⟩] => some (((qe_2_fin k i A)).map qe_2_out)
  | _ => .none
def qe_lo : LoopTeller := fun r s => bif Nat.beq r 2 then qe_lo2 s else .none
theorem qe_2_r (k i : Int) (A : LL) (fuel : Nat) : rounds (rnd tab FT D45 live 28 qe_lo 0 2) leave (fuel + 1) (qe_2_sl (k, i, A)) = ((qe_2_step k i A)).run (goOn (fun s => rounds (rnd tab FT D45 live 28 qe_lo 0 2) leave fuel (qe_2_sl s)) fun w => some (qe_2_out w)) := by kernel_rfl
theorem qe_2_h (k i : Int) (A : LL) (ow : qe_2_ω) : ((qe_2_fin k i A)).val = some ow → ∃ fuel, loopN qe_2_st fuel (k, i, A) = some ow := by
  intro h
  refine auto_leaf (R := ((A.foldl mkF ([], k)).2, (A.foldl mkF ([], k)).1)) (fun ho => ?_) h
  obtain ⟨rfl, ht, h0, h1, hl, hr⟩ := is_iff.1 ho
  have ev : ∀ K k, qe_rv K k = mkX K k := fun _ _ => rfl
  have er : ∀ R q, qo_v R q = (mkL_59 q R.length, q + 3 * (R.length : Int)) := fun _ _ => rfl
  have s0 : ∀ a y0 y1 y2 y3 y4 : TC, splice [y0, y1, y2, y3, y4] 0 [a] = [a, y1, y2, y3, y4] := fun _ _ _ _ _ _ => rfl
  have s1 : ∀ a y0 y1 y2 y3 y4 : TC, splice [y0, y1, y2, y3, y4] 1 [a] = [y0, a, y2, y3, y4] := fun _ _ _ _ _ _ => rfl
  have s2 : ∀ a y0 y1 y2 y3 y4 : TC, splice [y0, y1, y2, y3, y4] 2 [a] = [y0, y1, a, y3, y4] := fun _ _ _ _ _ _ => rfl
  have s3 : ∀ a y0 y1 y2 y3 y4 : TC, splice [y0, y1, y2, y3, y4] 3 [a] = [y0, y1, y2, a, y4] := fun _ _ _ _ _ _ => rfl
  have s4 : ∀ a y0 y1 y2 y3 y4 : TC, splice [y0, y1, y2, y3, y4] 4 [a] = [y0, y1, y2, y3, a] := fun _ _ _ _ _ _ => rfl
  have n3 : ∀ y0 y1 y2 y3 y4 : TC, nth [y0, y1, y2, y3, y4] 3 = y3 := fun _ _ _ _ _ => rfl
  have n4 : ∀ y0 y1 y2 y3 y4 : TC, nth [y0, y1, y2, y3, y4] 4 = y4 := fun _ _ _ _ _ => rfl
  have key : ∀ (rest D : LL) (j : Nat) (kk : Int), D.length = j → (∀ x, x ∈ rest → x ∈ A) → j + rest.length ≤ 140737488355328 → 0 ≤ kk → kk + ((rest.foldl cnF 0 : Nat) : Int) ≤ 1152921504606846976 → ∃ M, loopN qe_2_st M (kk, (j : Int), D ++ rest) = some ((rest.foldl mkF (D, kk)).2, (rest.foldl mkF (D, kk)).1) := by
    intro rest
    induction rest with
    | nil =>
      intro D j kk hD _ _ _ _
      refine ⟨1, loopN_end ?_⟩
      show (qe_2_step kk (j : Int) (D ++ [])).val = _
      rw [List.append_nil]
      unfold qe_2_step
      refine Tr.n (by simp; omega) ?_
      rfl
    | cons x rest ih =>
      intro D j kk hD hsub hlen hk0 hk1
      rw [cn_cons] at hk1
      have hx := hsub x List.mem_cons_self
      have t3 : Typed tab (.slice 31) (.l (nth x 3).list) := typed_list ((typed_elem ht hx).2 3 (by decide))
      have t4 : Typed tab (.slice 59) (.l (nth x 4).list) := typed_list ((typed_elem ht hx).2 4 (by decide))
      have l4 := typed_room t4
      simp only [show (tab 59).bytes = 24 from rfl] at l4
      have hrc := hr x (kk + 1 + 1 + 1) hx (by omega) (by omega)
      have hx5 : x.length = 5 := typed_rows ht rfl x hx
      have hms := mk_snd _ (nth x 3).list (kk + 1 + 1 + 1) (Nat.le_refl _)
      obtain ⟨y0, y1, y2, y3, y4, rfl⟩ := len_5 hx5
      rw [n3] at hrc hms t3 hk1
      rw [n4] at t4 l4 hk1
      simp only [List.length_cons] at hlen
      have hrow : ∀ y : List TC, row (D ++ y :: rest) (j : Int) = y := fun y => by
        rw [row_nat, List.getD_eq_getElem?_getD, List.getElem?_append_right (by omega), show j - D.length = 0 by omega]; rfl
      have hset : ∀ y z : List TC, (D ++ y :: rest).set j z = D ++ z :: rest := fun y z => by
        rw [List.set_append_right _ _ (by omega), show j - D.length = 0 by omega]; rfl
      have hi : ∀ y : List TC, (0 : Int) ≤ (j : Int) ∧ (j : Int) < ((D ++ y :: rest).length : Int) := fun y => ⟨by omega, by rw [List.length_append, List.length_cons]; omega⟩
      obtain ⟨M, hM⟩ := ih (mkF (D, kk) [y0, y1, y2, y3, y4]).1 (j + 1) (mkF (D, kk) [y0, y1, y2, y3, y4]).2 (by show (D ++ [_]).length = j + 1; rw [List.length_append, hD]; rfl) (fun z hz => hsub z (List.mem_cons_of_mem _ hz)) (by omega)
        (by show 0 ≤ (mkX y3.list (kk + 1 + 1 + 1)).2 + 3 * (y4.list.length : Int); omega) (by show (mkX y3.list (kk + 1 + 1 + 1)).2 + 3 * (y4.list.length : Int) + _ ≤ _; omega)
      refine ⟨M + 1, (loopN_next ?_).trans hM⟩
      show (qe_2_step kk (j : Int) (D ++ [y0, y1, y2, y3, y4] :: rest)).val = _
      unfold qe_2_step
      rw [wrap64 (i := kk + 1) (by omega) (by omega), wrap64 (i := kk + 1 + 1) (by omega) (by omega), wrap64 (i := kk + 1 + 1 + 1) (by omega) (by omega)]
      simp only [Int.toNat_natCast, hrow, hset, s0, s1, s2, s3, s4, n3, n4, ev, er]
      refine Tr.t (decide_eq_true (hi _).2) (Tr.t (hi _) (Tr.t (hi _) (Tr.t (ql_cc (by omega) (by omega)) (Tr.t (hi _) (Tr.t (hi _) (Tr.t hrc (Tr.t (hi _) (Tr.t (qo_cc t4 (by omega) (by omega) (by omega)) ?_))))))))
      rw [Tr.val_ok, wrap64 (i := (j : Int) + 1) (by omega) (by omega)]
      have e : (mkF (D, kk) [y0, y1, y2, y3, y4]).1 ++ rest = D ++ [TC.i kk, TC.i (kk + 1), TC.s (ql_v (kk + 1 + 1)), TC.l (mkX y3.list (kk + 1 + 1 + 1)).1, TC.l (mkL_59 (mkX y3.list (kk + 1 + 1 + 1)).2 y4.list.length)] :: rest := by
        show (D ++ [_]) ++ rest = _
        rw [List.append_assoc]; rfl
      rw [e]
      rfl
  have := key A [] 0 k rfl (fun _ h => h) (by omega) h0 h1
  rw [List.nil_append] at this
  exact this
theorem qe_is2 : LoopIs tab FT D45 live 28 qe_lo 0 2 := by
  refine loop_told (sl := qe_2_sl) (step := qe_2_st) (out := qe_2_out) (lor := qe_lo2) (fin := fun x => (qe_2_fin (x.1) (x.2.1) (x.2.2))) (fun _ => rfl) ?_ (fun x n => qe_2_r x.1 x.2.1 x.2.2 n) (fun x ow => qe_2_h x.1 x.2.1 x.2.2 ow)
  intro s t h
  unfold qe_lo2 at h
  split at h
  · cases h; exact ⟨(_, _, _), rfl, rfl⟩
  · cases h
def qe_t (K : LL) (k : Int) : Tr (LL × Int) := (.ite ((qe_o2_1 k (0 : Int) K) = true) (.ok ((qe_u2_1_1 k (0 : Int) K), (qe_u2_1_0 k (0 : Int) K)))
  .no)
def qe_mk (p : LL × Int) : Res := [(true, [⟨.slice 31, .own true, TC.l (p.1)⟩]), (false, [⟨.int .i64, .sh, TC.i (p.2)⟩])]
def qe_c (K : LL) (k : Int) : Bool := ((qe_o2_1 k (0 : Int) K) && true)
def qe_v (K : LL) (k : Int) : LL × Int := ((qe_u2_1_1 k (0 : Int) K), (qe_u2_1_0 k (0 : Int) K))
theorem qe_l (K : LL) (k : Int) : (qe_c K k) = true → (qe_t K k).val = some (qe_v K k) := by
  unfold qe_t qe_v qe_c
  exact fun h => (Tr.gb h fun h => rfl)
theorem qe_e (K : LL) (k : Int) : runFW false tab FT D45 live 28 qe_lo (false, [(.slice 31, TC.l K)]) [(false, [(.int .i64, TC.i k)])] = (qe_t K k).run fun p => some (qe_mk p) := by kernel_rfl
theorem qe_nx (K : LL) (k : Int) : is (rowsDep K < qe_O.n + 1 ∧ Typed tab (.slice 31) (.l K) ∧ 0 ≤ k ∧ k + (cnX K : Int) ≤ 1152921504606846976) = true → (qe_c K k) = true ∧ (qe_v K k) = mkX K k := by
  intro h
  obtain ⟨hM, tK, h0, h1⟩ := is_iff.1 h
  have hl := typed_room tK
  simp only [show (tab 31).bytes = 80 from rfl] at hl
  rw [cnX_eq] at h1
  have ho : qe_o2_1 k 0 K = true := is_true ⟨rfl, tK, h0, h1, by omega, fun x kk hx q0 q1 => is_true ⟨by have := dep_cell hx 3; omega, typed_list ((typed_elem tK hx).2 3 (by decide)), q0, q1⟩⟩
  unfold qe_c qe_v
  rw [ho, mkX_eq]
  exact ⟨rfl, rfl⟩
theorem qe_nxr (K : LL) (k : Int) : qe_rc (i_laws_markExpS := ⟨qe_O.n + 1⟩) K k = true → (qe_c K k) = true ∧ (qe_v K k) = (qe_rv K k) := fun h => qe_nx K k h
theorem qe_rs0 : ∀ ys r, qe_rS (i_laws_markExpS := ⟨qe_O.n + 1⟩) ys = some (true, r) → ∀ a0 xs, ys = a0 :: xs → runFW false tab FT D45 live 28 qe_lo a0 xs = some r := by
  intro ys r h
  unfold qe_rS at h
  split at h
  · obtain ⟨h1, rfl⟩ := sp h
    intro a0 xs e
    cases e
    have hx := qe_nxr _ _ h1
    have ht := fun_toldW (qe_e ..) (qe_l _ _) hx.1
    rw [hx.2] at ht
    exact ht
  · cases h
theorem qe_rs : ∀ a0 xs r, qe_rS (i_laws_markExpS := ⟨qe_O.n + 1⟩) (a0 :: xs) = some (true, r) → runFW false tab FT D45 live 28 qe_lo a0 xs = some r := fun a0 xs r h => qe_rs0 _ r h a0 xs rfl
theorem qe_step : qe_G (i_laws_markExpS := ⟨qe_O.n + 1⟩) := by
  have h := DOk.alsoW2 (S := qe_rS (i_laws_markExpS := ⟨qe_O.n + 1⟩)) mixed_ok tab_ok names_ok d44 d45 (fnLoops_one (by kernel_rfl) qe_is2) qe_rs
  refine qe_G.mk (i_laws_markExpS := ⟨qe_O.n + 1⟩) ?_
  exact h
def qbq_t (a0 a1 : Int) (a2 : BS) (a3 a4 : LL) (a5 : Int) : Tr (Int × Int × BS × LL × LL × Int) := (.ite ((qe_rc a3 a5) = true) (.ite ((qo_c a4 ((qe_rv a3 a5).2)) = true) (.ok (a0, a1, a2, (qe_rv a3 a5).1, (qo_v a4 ((qe_rv a3 a5).2)).1, (qo_v a4 ((qe_rv a3 a5).2)).2))
   .no)
  .no)
def qbq_mk (p : Int × Int × BS × LL × LL × Int) : Res := [(true, [⟨.int .i64, .sh, TC.i (p.1)⟩, ⟨.int .i64, .sh, TC.i (p.2.1)⟩, ⟨.str, .sh, TC.s (p.2.2.1)⟩, ⟨.slice 31, .own true, TC.l (p.2.2.2.1)⟩, ⟨.slice 59, .own true, TC.l (p.2.2.2.2.1)⟩]), (false, [⟨.int .i64, .sh, TC.i (p.2.2.2.2.2)⟩])]
def qbq_c (a0 a1 : Int) (a2 : BS) (a3 a4 : LL) (a5 : Int) : Bool := is (((qe_rc a3 a5) = true) ∧ ((qo_c a4 ((qe_rv a3 a5).2)) = true))
def qbq_v (a0 a1 : Int) (a2 : BS) (a3 a4 : LL) (a5 : Int) : Int × Int × BS × LL × LL × Int := (a0, a1, a2, (qe_rv a3 a5).1, (qo_v a4 ((qe_rv a3 a5).2)).1, (qo_v a4 ((qe_rv a3 a5).2)).2)
theorem qbq_l (a0 a1 : Int) (a2 : BS) (a3 a4 : LL) (a5 : Int) : (qbq_c a0 a1 a2 a3 a4 a5) = true → (qbq_t a0 a1 a2 a3 a4 a5).val = some (qbq_v a0 a1 a2 a3 a4 a5) := by
  intro h
  obtain ⟨hc0, hc1⟩ := is_iff.1 h
  unfold qbq_t
  exact (Tr.t hc0 (Tr.t hc1 rfl))
def qbq_S : List Arg → Option (Bool × Res) := fun xs => match xs with
  | [(true, [(.int .i64, TC.i a0), (.int .i64, TC.i a1), (.str, TC.s a2), (.slice 31, TC.l a3), (.slice 59, TC.l a4)]), (false, [(.int .i64, TC.i a5)])] => some ((qbq_c a0 a1 a2 a3 a4 a5), qbq_mk (qbq_v a0 a1 a2 a3 a4 a5))
  | _ => .none
theorem qbq_e (a0 a1 : Int) (a2 : BS) (a3 a4 : LL) (a5 : Int) : runFW false tab FT D45 live 13 noLoops (true, [(.int .i64, TC.i a0), (.int .i64, TC.i a1), (.str, TC.s a2), (.slice 31, TC.l a3), (.slice 59, TC.l a4)]) [(false, [(.int .i64, TC.i a5)])] = (qbq_t a0 a1 a2 a3 a4 a5).run fun p => some (qbq_mk p) := by kernel_rfl
theorem qbq_s0 : ∀ ys r, qbq_S ys = some (true, r) → ∀ a0 xs, ys = a0 :: xs → runFW false tab FT D45 live 13 noLoops a0 xs = some r := by
  intro ys r h
  unfold qbq_S at h
  split at h
  · obtain ⟨h1, rfl⟩ := sp h
    intro a0 xs e
    cases e
    exact fun_toldW (qbq_e ..) (qbq_l _ _ _ _ _ _) h1
  · cases h
theorem qbq_s : ∀ a0 xs r, qbq_S (a0 :: xs) = some (true, r) → runFW false tab FT D45 live 13 noLoops a0 xs = some r := fun a0 xs r h => qbq_s0 _ r h a0 xs rfl
def D46 : Dt := alsoW D45 13 qbq_S
theorem d46 : DOk Go.Proofs.Try.prog tab D46 := d45.alsoW mixed_ok tab_ok names_ok noLoops_ok qbq_s
def mkR_9 (k : Int) : List TC := [TC.s (ql_v k)]
def mkL_9 (k : Int) (n : Nat) : LL := madeL (fun i => mkR_9 (k + 1 * (i : Int))) n
theorem mkL_9_length {k : Int} {n : Nat} : (mkL_9 k n).length = n := madeL_length
abbrev qi_2_σ := Int × Int × LL
abbrev qi_2_ω := (Int × LL)
def qi_2_step (k i : Int) (A : LL) : Tr (qi_2_σ ⊕ qi_2_ω) := (.ite ((decide (i < (A.length : Int))) = true) (.ite ((ql_c k) = true) (.ite ((0 : Int) ≤ i ∧ i < (A.length : Int)) (.ok (.inl ((IntKind.wrap .i64 (k + (1 : Int))), (IntKind.wrap .i64 (i + (1 : Int))), (A.set (i).toNat (splice (row A i) 0 [TC.s (ql_v k)])))))
    .no)
   .no)
  (.ok (.inr (k, A))))
def qi_2_st : qi_2_σ → Tr (qi_2_σ ⊕ qi_2_ω) := fun x => (qi_2_step (x.1) (x.2.1) (x.2.2))
def qi_o2_1 (k i : Int) (A : LL) : Bool := is ((∀ x, x ∈ A → x.length = 1) ∧ A.length ≤ 140737488351232 ∧ 0 ≤ k ∧ k ≤ 2305843009213693952 ∧ i = 0)
def qi_u2_1_0 (k i : Int) (A : LL) : Int := k + 1 * (A.length : Int)
def qi_u2_1_1 (k i : Int) (A : LL) : LL := mkL_9 k A.length
def qi_2_fin (k i : Int) (A : LL) : Told qi_2_ω := (.leaf (qi_o2_1 k i A) ((qi_u2_1_0 k i A), (qi_u2_1_1 k i A)))
def qi_2_sl (x : qi_2_σ) : List Slot := [⟨.gal false 0 1, ⟨0, 0⟩⟩, ⟨.val false [⟨.int .i64, .sh, TC.i (x.1)⟩], ⟨0, 0⟩⟩, ⟨.val false [⟨.int .i64, .sh, TC.i (x.2.1)⟩], ⟨0, 0⟩⟩, ⟨.gv [⟨.slice 9, .own true, TC.l (x.2.2)⟩], ⟨0, 0⟩⟩]
def qi_2_out : qi_2_ω → Ex × List Slot := (fun x => (.exit 0, [⟨.val false [⟨.int .i64, .sh, TC.i (x.1)⟩], ⟨0, 0⟩⟩, Slot.none, ⟨.gv [⟨.slice 9, .own true, TC.l (x.2)⟩], ⟨0, 0⟩⟩]))
def qi_lo2 : List Slot → Option (Told (Ex × List Slot)) := fun s => match s with
  | [⟨.gal false 0 1, ⟨0, 0⟩⟩, ⟨.val false [⟨.int .i64, .sh, TC.i k⟩], ⟨0, 0⟩⟩, ⟨.val false [⟨.int .i64, .sh, TC.i i⟩], ⟨0, 0⟩⟩, ⟨.gv [⟨.slice 9, .own true, TC.l A⟩], ⟨0, 0⟩⟩] => some (((qi_2_fin k i A)).map qi_2_out)
  | _ => .none
def qi_lo : LoopTeller := fun r s => bif Nat.beq r 2 then qi_lo2 s else .none
theorem qi_2_r (k i : Int) (A : LL) (fuel : Nat) : rounds (rnd tab FT D46 live 14 qi_lo 0 2) leave (fuel + 1) (qi_2_sl (k, i, A)) = ((qi_2_step k i A)).run (goOn (fun s => rounds (rnd tab FT D46 live 14 qi_lo 0 2) leave fuel (qi_2_sl s)) fun w => some (qi_2_out w)) := by kernel_rfl
theorem qi_2_h (k i : Int) (A : LL) (ow : qi_2_ω) : ((qi_2_fin k i A)).val = some ow → ∃ fuel, loopN qi_2_st fuel (k, i, A) = some ow := by
  intro h
  refine auto_leaf (R := (k + 1 * (A.length : Int), mkL_9 k A.length)) (fun ho => ?_) h
  obtain ⟨hr, hl, h0, h1, rfl⟩ := is_iff.1 ho
  have key := loopN_over (step := qi_2_st) A 1 (fun i => mkR_9 (k + 1 * (i : Int))) (fun Y i => (k + 1 * (i : Int), (i : Int), Y)) (k + 1 * (A.length : Int), mkL_9 k A.length) hr (fun _ => rfl) (fun Y i hi hY hy => ?_) ?_ A.length 0 (by omega)
  · exact ⟨A.length + 1, Eq.trans (congrArg (loopN qi_2_st (A.length + 1)) (by simp [madeL])) key⟩
  · obtain ⟨kk, hkk⟩ : ∃ kk : Int, kk = k + 1 * (i : Int) := ⟨_, rfl⟩
    have hk0 : 0 ≤ kk := by omega
    have hk1 : kk + 1 ≤ 4611686018427387904 := by omega
    have hy : ∃ y0, row Y (i : Int) = [y0] := len_1 hy
    obtain ⟨y0, hy⟩ := hy
    have hiY : i < Y.length := by omega
    show (qi_2_step (k + 1 * (i : Int)) (i : Int) Y).val = _
    rw [← hkk]
    unfold qi_2_step
    rw [wrap64 (i := kk + 1) (by omega) (by omega)]
    try rw [wrap64 (i := kk) (by omega) (by omega)]
    refine Tr.t (by simp; omega) ?_
    refine Tr.t (ql_cc (by omega) (by omega)) ?_
    refine Tr.t (by constructor <;> (try simp only [List.length_set]) <;> omega) ?_
    rw [Tr.val_ok, wrap64 (i := (i : Int) + 1) (by omega) (by omega)]
    simp only [Int.toNat_natCast, hy, row_set, List.length_set, hiY, List.set_set]
    show some (Sum.inl (_, _, _)) = some (Sum.inl (_, _, _))
    rw [show k + 1 * ((i + 1 : Nat) : Int) = kk + 1 from by omega]
    rfl
  · show (qi_2_step (k + 1 * (A.length : Int)) (A.length : Int) (mkL_9 k A.length)).val = _
    unfold qi_2_step
    refine Tr.n (by simp [mkL_9_length]) ?_
    rfl
theorem qi_is2 : LoopIs tab FT D46 live 14 qi_lo 0 2 := by
  refine loop_told (sl := qi_2_sl) (step := qi_2_st) (out := qi_2_out) (lor := qi_lo2) (fin := fun x => (qi_2_fin (x.1) (x.2.1) (x.2.2))) (fun _ => rfl) ?_ (fun x n => qi_2_r x.1 x.2.1 x.2.2 n) (fun x ow => qi_2_h x.1 x.2.1 x.2.2 ow)
  intro s t h
  unfold qi_lo2 at h
  split at h
  · cases h; exact ⟨(_, _, _), rfl, rfl⟩
  · cases h
def qi_t (A : LL) (k : Int) : Tr (LL × Int) := (.ite ((qi_o2_1 k (0 : Int) A) = true) (.ok ((qi_u2_1_1 k (0 : Int) A), (qi_u2_1_0 k (0 : Int) A)))
  .no)
def qi_mk (p : LL × Int) : Res := [(true, [⟨.slice 9, .own true, TC.l (p.1)⟩]), (false, [⟨.int .i64, .sh, TC.i (p.2)⟩])]
def qi_c (A : LL) (k : Int) : Bool := is ((∀ x, x ∈ A → x.length = 1) ∧ A.length ≤ 140737488351232 ∧ 0 ≤ k ∧ k ≤ 2305843009213693952)
def qi_v (A : LL) (k : Int) : LL × Int := (mkL_9 k A.length, k + 1 * (A.length : Int))
theorem qi_l (A : LL) (k : Int) : (qi_c A k) = true → (qi_t A k).val = some (qi_v A k) := by
  intro h
  obtain ⟨hr, hl, h0, h1⟩ := is_iff.1 h
  unfold qi_t
  exact Tr.t (is_true ⟨hr, hl, h0, h1, rfl⟩) rfl
def qi_S : List Arg → Option (Bool × Res) := fun xs => match xs with
  | [(false, [(.slice 9, TC.l A)]), (false, [(.int .i64, TC.i k)])] => some ((qi_c A k), qi_mk (qi_v A k))
  | _ => .none
theorem qi_e (A : LL) (k : Int) : runFW false tab FT D46 live 14 qi_lo (false, [(.slice 9, TC.l A)]) [(false, [(.int .i64, TC.i k)])] = (qi_t A k).run fun p => some (qi_mk p) := by kernel_rfl
theorem qi_s0 : ∀ ys r, qi_S ys = some (true, r) → ∀ a0 xs, ys = a0 :: xs → runFW false tab FT D46 live 14 qi_lo a0 xs = some r := by
  intro ys r h
  unfold qi_S at h
  split at h
  · obtain ⟨h1, rfl⟩ := sp h
    intro a0 xs e
    cases e
    exact fun_toldW (qi_e ..) (qi_l _ _) h1
  · cases h
theorem qi_s : ∀ a0 xs r, qi_S (a0 :: xs) = some (true, r) → runFW false tab FT D46 live 14 qi_lo a0 xs = some r := fun a0 xs r h => qi_s0 _ r h a0 xs rfl
def D47 : Dt := alsoW D46 14 qi_S
theorem d47 : DOk Go.Proofs.Try.prog tab D47 := d46.alsoW mixed_ok tab_ok names_ok (fnLoops_one (by kernel_rfl) qi_is2) qi_s
theorem qi_cc {A : LL} {k : Int} (ht : Typed tab (.slice 9) (.l A)) (hl : A.length ≤ 140737488351232) (h0 : 0 ≤ k) (h1 : k ≤ 2305843009213693952) : qi_c A k = true := is_true ⟨typed_rows ht rfl, hl, h0, h1⟩
theorem qi_v2 {A : LL} {k : Int} : (qi_v A k).2 = k + 1 * (A.length : Int) := rfl
abbrev qk_2_σ := LL × Int × Int
abbrev qk_2_ω := (Int) ⊕ (Int)
def qk_2_step (A : LL) (k i : Int) : Tr (qk_2_σ ⊕ qk_2_ω) := (.ite ((decide (i < (A.length : Int))) = true) (.ite ((0 : Int) ≤ i ∧ i < (A.length : Int)) (.ite ((ql_c k) = true) (.ite ((!((nth (row A i) 0).str == (ql_v k))) = true) (.ok (.inr (.inl k)))
     (.ok (.inl (A, (IntKind.wrap .i64 (k + (1 : Int))), (IntKind.wrap .i64 (i + (1 : Int)))))))
    .no)
   .no)
  (.ok (.inr (.inr k))))
def qk_2_st : qk_2_σ → Tr (qk_2_σ ⊕ qk_2_ω) := fun x => (qk_2_step (x.1) (x.2.1) (x.2.2))
def qk_o2_1 (A : LL) (k i : Int) : Bool := is (A = mkL_9 k A.length ∧ A.length ≤ 140737488351232 ∧ 0 ≤ k ∧ k ≤ 2305843009213693952 ∧ i = 0)
def qk_u2_1 (A : LL) (k i : Int) : Int := k + 1 * (A.length : Int)
def qk_2_fin (A : LL) (k i : Int) : Told qk_2_ω := (.leaf (qk_o2_1 A k i) (.inr (qk_u2_1 A k i)))
def qk_2_sl (x : qk_2_σ) : List Slot := [⟨.val false [⟨.slice 9, .sh, TC.l (x.1)⟩], ⟨0, 0⟩⟩, ⟨.val false [⟨.int .i64, .sh, TC.i (x.2.1)⟩], ⟨0, 0⟩⟩, ⟨.val false [⟨.int .i64, .sh, TC.i (x.2.2)⟩], ⟨0, 0⟩⟩]
def qk_2_out : qk_2_ω → Ex × List Slot := (Sum.elim (fun x => (.ret, [⟨.val false [⟨.int .i64, .sh, TC.i x⟩], ⟨0, 0⟩⟩, ⟨.val false [⟨.int .i64, .sh, TC.i (-1 : Int)⟩], ⟨0, 0⟩⟩])) (fun x => (.exit 0, [⟨.val false [⟨.int .i64, .sh, TC.i x⟩], ⟨0, 0⟩⟩, Slot.none])))
def qk_lo2 : List Slot → Option (Told (Ex × List Slot)) := fun s => match s with
  | [⟨.val false [⟨.slice 9, .sh, TC.l A⟩], ⟨0, 0⟩⟩, ⟨.val false [⟨.int .i64, .sh, TC.i k⟩], ⟨0, 0⟩⟩, ⟨.val false [⟨.int .i64, .sh, TC.i i⟩], ⟨0, 0⟩⟩] => some (((qk_2_fin A k i)).map qk_2_out)
  | _ => .none
def qk_lo : LoopTeller := fun r s => bif Nat.beq r 2 then qk_lo2 s else .none
theorem qk_2_r (A : LL) (k i : Int) (fuel : Nat) : rounds (rnd tab FT D47 live 15 qk_lo 0 2) leave (fuel + 1) (qk_2_sl (A, k, i)) = ((qk_2_step A k i)).run (goOn (fun s => rounds (rnd tab FT D47 live 15 qk_lo 0 2) leave fuel (qk_2_sl s)) fun w => some (qk_2_out w)) := by kernel_rfl
theorem qk_2_h (A : LL) (k i : Int) (ow : qk_2_ω) : ((qk_2_fin A k i)).val = some ow → ∃ fuel, loopN qk_2_st fuel (A, k, i) = some ow := by
  intro h
  refine auto_leaf (R := Sum.inr (k + 1 * (A.length : Int))) (fun ho => ?_) h
  obtain ⟨hA, hl, h0, h1, rfl⟩ := is_iff.1 ho
  have key := loopN_run (step := qk_2_st) (N := A.length) (w := Sum.inr (k + 1 * (A.length : Int))) (fun i => (A, k + 1 * (i : Int), (i : Int))) (fun i hi => ?_) ?_ A.length 0 (by omega)
  · exact ⟨A.length + 1, Eq.trans (congrArg (loopN qk_2_st (A.length + 1)) (by simp)) key⟩
  · obtain ⟨kk, hkk⟩ : ∃ kk : Int, kk = k + 1 * (i : Int) := ⟨_, rfl⟩
    have hk0 : 0 ≤ kk := by omega
    have hk1 : kk + 1 ≤ 4611686018427387904 := by omega
    have hrow : row A (i : Int) = mkR_9 kk := by
      rw [hA]
      unfold mkL_9
      rw [row_madeL hi, hkk]
    show (qk_2_step A (k + 1 * (i : Int)) (i : Int)).val = _
    rw [← hkk]
    unfold qk_2_step
    rw [hrow]
    rw [wrap64 (i := kk + 1) (by omega) (by omega)]
    try rw [wrap64 (i := kk) (by omega) (by omega)]
    refine Tr.t (by simp; omega) ?_
    refine Tr.t (by constructor <;> omega) ?_
    refine Tr.t (ql_cc (by omega) (by omega)) ?_
    refine Tr.n (by simp [nth, mkR_9, TC.str, TC.int, TC.bool]) ?_
    rw [Tr.val_ok, wrap64 (i := (i : Int) + 1) (by omega) (by omega)]
    show some (Sum.inl (_, _, _)) = some (Sum.inl (_, _, _))
    rw [show k + 1 * ((i + 1 : Nat) : Int) = kk + 1 from by omega]
    rfl
  · show (qk_2_step A (k + 1 * (A.length : Int)) (A.length : Int)).val = _
    unfold qk_2_step
    refine Tr.n (by simp) ?_
    rfl
theorem qk_is2 : LoopIs tab FT D47 live 15 qk_lo 0 2 := by
  refine loop_told (sl := qk_2_sl) (step := qk_2_st) (out := qk_2_out) (lor := qk_lo2) (fin := fun x => (qk_2_fin (x.1) (x.2.1) (x.2.2))) (fun _ => rfl) ?_ (fun x n => qk_2_r x.1 x.2.1 x.2.2 n) (fun x ow => qk_2_h x.1 x.2.1 x.2.2 ow)
  intro s t h
  unfold qk_lo2 at h
  split at h
  · cases h; exact ⟨(_, _, _), rfl, rfl⟩
  · cases h
def qk_t (A : LL) (k : Int) : Tr (Int) := (.ite ((qk_o2_1 A k (0 : Int)) = true) (.ok (qk_u2_1 A k (0 : Int)))
  .no)
def qk_mk (p : Int) : Res := [(false, [⟨.int .i64, .sh, TC.i p⟩])]
def qk_c (A : LL) (k : Int) : Bool := is (A = mkL_9 k A.length ∧ A.length ≤ 140737488351232 ∧ 0 ≤ k ∧ k ≤ 2305843009213693952)
def qk_v (A : LL) (k : Int) : Int := k + 1 * (A.length : Int)
theorem qk_l (A : LL) (k : Int) : (qk_c A k) = true → (qk_t A k).val = some (qk_v A k) := by
  intro h
  obtain ⟨hr, hl, h0, h1⟩ := is_iff.1 h
  unfold qk_t
  exact Tr.t (is_true ⟨hr, hl, h0, h1, rfl⟩) rfl
def qk_S : List Arg → Option (Bool × Res) := fun xs => match xs with
  | [(false, [(.slice 9, TC.l A)]), (false, [(.int .i64, TC.i k)])] => some ((qk_c A k), qk_mk (qk_v A k))
  | _ => .none
theorem qk_e (A : LL) (k : Int) : runF tab FT D47 live 15 qk_lo [(false, [(.slice 9, TC.l A)]), (false, [(.int .i64, TC.i k)])] = (qk_t A k).run fun p => some (qk_mk p) := by kernel_rfl
theorem qk_s : ∀ xs r, qk_S xs = some (true, r) → runF tab FT D47 live 15 qk_lo xs = some r := by
  intro xs r h
  unfold qk_S at h
  split at h
  · obtain ⟨h1, rfl⟩ := sp h
    exact fun_told (qk_e ..) (qk_l _ _) h1
  · cases h
def D48 : Dt := also D47 15 qk_S
theorem d48 : DOk Go.Proofs.Try.prog tab D48 := d47.also mixed_ok tab_ok names_ok (fnLoops_one (by kernel_rfl) qk_is2) qk_s
theorem qk_cc {A : LL} {k : Int} (hl : A.length ≤ 140737488351232) (h0 : 0 ≤ k) (h1 : k ≤ 2305843009213693952) : qk_c (qi_v A k).1 k = true := is_true ⟨by show mkL_9 k A.length = mkL_9 k (mkL_9 k A.length).length; rw [mkL_9_length], by show (mkL_9 k A.length).length ≤ _; rw [mkL_9_length]; exact hl, h0, h1⟩
theorem qk_vm {A : LL} {k : Int} : qk_v (qi_v A k).1 k = (qi_v A k).2 := by
  show k + 1 * ((mkL_9 k A.length).length : Int) = k + 1 * (A.length : Int)
  rw [mkL_9_length]
def laws_FnExactNamesInExp_t (x0 x1 : Int) (x2 : BS) (x3 x4 : LL) : Tr Bool := (.ite ((qq_rc x0 x1 x2 x3 x4 (1048576 : Int)) = true) (.ite ((decide ((qq_rv x0 x1 x2 x3 x4 (1048576 : Int)) < (0 : Int))) = true) (.ok true)
   (.ite ((qc_rc x0 x1 x2 x3 x4) = true) (.ite ((qbg_c ((qc_rv x0 x1 x2 x3 x4).1) ((qc_rv x0 x1 x2 x3 x4).2.1) ((qc_rv x0 x1 x2 x3 x4).2.2.1) ((qc_rv x0 x1 x2 x3 x4).2.2.2.1) ((qc_rv x0 x1 x2 x3 x4).2.2.2.2)) = true) (.ite ((qc_rc x0 x1 x2 x3 x4) = true) (.ite ((qbf_c ((qc_rv x0 x1 x2 x3 x4).1) ((qc_rv x0 x1 x2 x3 x4).2.1) ((qc_rv x0 x1 x2 x3 x4).2.2.1) ((qc_rv x0 x1 x2 x3 x4).2.2.2.1) ((qc_rv x0 x1 x2 x3 x4).2.2.2.2)) = true) (.ite ((qr_c (qbf_v ((qc_rv x0 x1 x2 x3 x4).1) ((qc_rv x0 x1 x2 x3 x4).2.1) ((qc_rv x0 x1 x2 x3 x4).2.2.1) ((qc_rv x0 x1 x2 x3 x4).2.2.2.1) ((qc_rv x0 x1 x2 x3 x4).2.2.2.2)) (qbg_v ((qc_rv x0 x1 x2 x3 x4).1) ((qc_rv x0 x1 x2 x3 x4).2.1) ((qc_rv x0 x1 x2 x3 x4).2.2.1) ((qc_rv x0 x1 x2 x3 x4).2.2.2.1) ((qc_rv x0 x1 x2 x3 x4).2.2.2.2))) = true) (.ite ((!(qr_v (qbf_v ((qc_rv x0 x1 x2 x3 x4).1) ((qc_rv x0 x1 x2 x3 x4).2.1) ((qc_rv x0 x1 x2 x3 x4).2.2.1) ((qc_rv x0 x1 x2 x3 x4).2.2.2.1) ((qc_rv x0 x1 x2 x3 x4).2.2.2.2)) (qbg_v ((qc_rv x0 x1 x2 x3 x4).1) ((qc_rv x0 x1 x2 x3 x4).2.1) ((qc_rv x0 x1 x2 x3 x4).2.2.1) ((qc_rv x0 x1 x2 x3 x4).2.2.2.1) ((qc_rv x0 x1 x2 x3 x4).2.2.2.2)))) = true) (.ok false)
         (.ite ((qc_rc x0 x1 x2 x3 x4) = true) (.ite ((qba_rc ((qc_rv x0 x1 x2 x3 x4).1) ((qc_rv x0 x1 x2 x3 x4).2.1) ((qc_rv x0 x1 x2 x3 x4).2.2.1) ((qc_rv x0 x1 x2 x3 x4).2.2.2.1) ((qc_rv x0 x1 x2 x3 x4).2.2.2.2) ((qc_rv x0 x1 x2 x3 x4).1) ((qc_rv x0 x1 x2 x3 x4).2.1) ((qc_rv x0 x1 x2 x3 x4).2.2.1) ((qc_rv x0 x1 x2 x3 x4).2.2.2.1) ((qc_rv x0 x1 x2 x3 x4).2.2.2.2)) = true) (.ite ((!(qba_rv ((qc_rv x0 x1 x2 x3 x4).1) ((qc_rv x0 x1 x2 x3 x4).2.1) ((qc_rv x0 x1 x2 x3 x4).2.2.1) ((qc_rv x0 x1 x2 x3 x4).2.2.2.1) ((qc_rv x0 x1 x2 x3 x4).2.2.2.2) ((qc_rv x0 x1 x2 x3 x4).1) ((qc_rv x0 x1 x2 x3 x4).2.1) ((qc_rv x0 x1 x2 x3 x4).2.2.1) ((qc_rv x0 x1 x2 x3 x4).2.2.2.1) ((qc_rv x0 x1 x2 x3 x4).2.2.2.2))) = true) (.ok false)
            (.ite ((qbq_c ((qc_rv x0 x1 x2 x3 x4).1) ((qc_rv x0 x1 x2 x3 x4).2.1) ((qc_rv x0 x1 x2 x3 x4).2.2.1) ((qc_rv x0 x1 x2 x3 x4).2.2.2.1) ((qc_rv x0 x1 x2 x3 x4).2.2.2.2) (1 : Int)) = true) (.ite ((decide ((qbq_v ((qc_rv x0 x1 x2 x3 x4).1) ((qc_rv x0 x1 x2 x3 x4).2.1) ((qc_rv x0 x1 x2 x3 x4).2.2.1) ((qc_rv x0 x1 x2 x3 x4).2.2.2.1) ((qc_rv x0 x1 x2 x3 x4).2.2.2.2) (1 : Int)).2.2.2.2.2 < (0 : Int))) = true) (.ok false)
              (.ite ((qr_c (qbf_v ((qc_rv x0 x1 x2 x3 x4).1) ((qc_rv x0 x1 x2 x3 x4).2.1) ((qc_rv x0 x1 x2 x3 x4).2.2.1) ((qc_rv x0 x1 x2 x3 x4).2.2.2.1) ((qc_rv x0 x1 x2 x3 x4).2.2.2.2)) (qbg_v ((qc_rv x0 x1 x2 x3 x4).1) ((qc_rv x0 x1 x2 x3 x4).2.1) ((qc_rv x0 x1 x2 x3 x4).2.2.1) ((qc_rv x0 x1 x2 x3 x4).2.2.2.1) ((qc_rv x0 x1 x2 x3 x4).2.2.2.2))) = true) (.ite ((!(qr_v (qbf_v ((qc_rv x0 x1 x2 x3 x4).1) ((qc_rv x0 x1 x2 x3 x4).2.1) ((qc_rv x0 x1 x2 x3 x4).2.2.1) ((qc_rv x0 x1 x2 x3 x4).2.2.2.1) ((qc_rv x0 x1 x2 x3 x4).2.2.2.2)) (qbg_v ((qc_rv x0 x1 x2 x3 x4).1) ((qc_rv x0 x1 x2 x3 x4).2.1) ((qc_rv x0 x1 x2 x3 x4).2.2.1) ((qc_rv x0 x1 x2 x3 x4).2.2.2.1) ((qc_rv x0 x1 x2 x3 x4).2.2.2.2)))) = true) (.ok false)
                (.ite ((qi_c (qbf_v ((qc_rv x0 x1 x2 x3 x4).1) ((qc_rv x0 x1 x2 x3 x4).2.1) ((qc_rv x0 x1 x2 x3 x4).2.2.1) ((qc_rv x0 x1 x2 x3 x4).2.2.2.1) ((qc_rv x0 x1 x2 x3 x4).2.2.2.2)) (1 : Int)) = true) (.ite ((qk_c ((qi_v (qbf_v ((qc_rv x0 x1 x2 x3 x4).1) ((qc_rv x0 x1 x2 x3 x4).2.1) ((qc_rv x0 x1 x2 x3 x4).2.2.1) ((qc_rv x0 x1 x2 x3 x4).2.2.2.1) ((qc_rv x0 x1 x2 x3 x4).2.2.2.2)) (1 : Int)).1) (1 : Int)) = true) (.ite ((decide ((qk_v ((qi_v (qbf_v ((qc_rv x0 x1 x2 x3 x4).1) ((qc_rv x0 x1 x2 x3 x4).2.1) ((qc_rv x0 x1 x2 x3 x4).2.2.1) ((qc_rv x0 x1 x2 x3 x4).2.2.2.1) ((qc_rv x0 x1 x2 x3 x4).2.2.2.2)) (1 : Int)).1) (1 : Int)) < (0 : Int))) = true) (.ok false)
                   (.ite ((!((qk_v ((qi_v (qbf_v ((qc_rv x0 x1 x2 x3 x4).1) ((qc_rv x0 x1 x2 x3 x4).2.1) ((qc_rv x0 x1 x2 x3 x4).2.2.1) ((qc_rv x0 x1 x2 x3 x4).2.2.2.1) ((qc_rv x0 x1 x2 x3 x4).2.2.2.2)) (1 : Int)).1) (1 : Int)) == (qi_v (qbf_v ((qc_rv x0 x1 x2 x3 x4).1) ((qc_rv x0 x1 x2 x3 x4).2.1) ((qc_rv x0 x1 x2 x3 x4).2.2.1) ((qc_rv x0 x1 x2 x3 x4).2.2.2.1) ((qc_rv x0 x1 x2 x3 x4).2.2.2.2)) (1 : Int)).2)) = true) (.ok false)
                    (.ite ((qc_rc x0 x1 x2 x3 x4) = true) (.ite ((qbf_c ((qc_rv x0 x1 x2 x3 x4).1) ((qc_rv x0 x1 x2 x3 x4).2.1) ((qc_rv x0 x1 x2 x3 x4).2.2.1) ((qc_rv x0 x1 x2 x3 x4).2.2.2.1) ((qc_rv x0 x1 x2 x3 x4).2.2.2.2)) = true) (.ite ((qr_c (qbf_v ((qc_rv x0 x1 x2 x3 x4).1) ((qc_rv x0 x1 x2 x3 x4).2.1) ((qc_rv x0 x1 x2 x3 x4).2.2.1) ((qc_rv x0 x1 x2 x3 x4).2.2.2.1) ((qc_rv x0 x1 x2 x3 x4).2.2.2.2)) (qbg_v ((qc_rv x0 x1 x2 x3 x4).1) ((qc_rv x0 x1 x2 x3 x4).2.1) ((qc_rv x0 x1 x2 x3 x4).2.2.1) ((qc_rv x0 x1 x2 x3 x4).2.2.2.1) ((qc_rv x0 x1 x2 x3 x4).2.2.2.2))) = true) (.ite ((!(qr_v (qbf_v ((qc_rv x0 x1 x2 x3 x4).1) ((qc_rv x0 x1 x2 x3 x4).2.1) ((qc_rv x0 x1 x2 x3 x4).2.2.1) ((qc_rv x0 x1 x2 x3 x4).2.2.2.1) ((qc_rv x0 x1 x2 x3 x4).2.2.2.2)) (qbg_v ((qc_rv x0 x1 x2 x3 x4).1) ((qc_rv x0 x1 x2 x3 x4).2.1) ((qc_rv x0 x1 x2 x3 x4).2.2.1) ((qc_rv x0 x1 x2 x3 x4).2.2.2.1) ((qc_rv x0 x1 x2 x3 x4).2.2.2.2)))) = true) (.ok false)
                        (.ite ((qk_c ((qi_v (qbf_v ((qc_rv x0 x1 x2 x3 x4).1) ((qc_rv x0 x1 x2 x3 x4).2.1) ((qc_rv x0 x1 x2 x3 x4).2.2.1) ((qc_rv x0 x1 x2 x3 x4).2.2.2.1) ((qc_rv x0 x1 x2 x3 x4).2.2.2.2)) (1 : Int)).1) (1 : Int)) = true) (.ite ((decide ((qk_v ((qi_v (qbf_v ((qc_rv x0 x1 x2 x3 x4).1) ((qc_rv x0 x1 x2 x3 x4).2.1) ((qc_rv x0 x1 x2 x3 x4).2.2.1) ((qc_rv x0 x1 x2 x3 x4).2.2.2.1) ((qc_rv x0 x1 x2 x3 x4).2.2.2.2)) (1 : Int)).1) (1 : Int)) < (0 : Int))) = true) (.ok false)
                          (.ite ((!((qk_v ((qi_v (qbf_v ((qc_rv x0 x1 x2 x3 x4).1) ((qc_rv x0 x1 x2 x3 x4).2.1) ((qc_rv x0 x1 x2 x3 x4).2.2.1) ((qc_rv x0 x1 x2 x3 x4).2.2.2.1) ((qc_rv x0 x1 x2 x3 x4).2.2.2.2)) (1 : Int)).1) (1 : Int)) == (qi_v (qbf_v ((qc_rv x0 x1 x2 x3 x4).1) ((qc_rv x0 x1 x2 x3 x4).2.1) ((qc_rv x0 x1 x2 x3 x4).2.2.1) ((qc_rv x0 x1 x2 x3 x4).2.2.2.1) ((qc_rv x0 x1 x2 x3 x4).2.2.2.2)) (1 : Int)).2)) = true) (.ok false)
                           (.ok true)))
                         .no))
                       .no)
                      .no)
                     .no)))
                  .no)
                 .no))
               .no))
             .no))
           .no)
          .no))
        .no)
       .no)
      .no)
     .no)
    .no))
  .no)
theorem laws_FnExactNamesInExp_e (x0 x1 : Int) (x2 : BS) (x3 x4 : LL) : runF tab FT D48 live 4 noLoops [(true, [(.int .i64, TC.i x0), (.int .i64, TC.i x1), (.str, TC.s x2), (.slice 25, TC.l x3), (.slice 61, TC.l x4)])] = (laws_FnExactNamesInExp_t x0 x1 x2 x3 x4).run fun p => some [(false, [⟨.bool, .sh, .b p⟩])] := by kernel_rfl
theorem tyArgsExp {A B : LL} (a3 : Typed tab (.slice 25) (.l A)) (a4 : Typed tab (.slice 61) (.l B)) : Typed tab (.slice 31) (.l A) ∧ Typed tab (.slice 59) (.l B) :=
  ⟨typed_iso iso_ok a3 (by decide), typed_iso iso_ok a4 (by decide)⟩
theorem eqExp_rv {x0 : Int} {x1 : Int} {x2 : BS} {x3 : LL} {x4 : LL} {y0 : Int} {y1 : Int} {y2 : BS} {y3 : LL} {y4 : LL} : ¬(!(qba_rv x0 x1 x2 x3 x4 y0 y1 y2 y3 y4)) = true := by
  show ¬(!true) = true
  decide
theorem bl_lt : ∀ {a b : BS}, bytesLess a b = true ↔ a < b
  | a, [] => by
    constructor
    · intro h; cases a <;> cases h
    · intro h; exact absurd h (List.not_lt_nil a)
  | [], _ :: _ => ⟨fun _ => List.nil_lt_cons _ _, fun _ => rfl⟩
  | a :: x, b :: y => by
    have e : bytesLess (a :: x) (b :: y) = (decide (a < b) || (a == b && bytesLess x y)) := rfl
    rw [List.cons_lt_cons_iff, ← bl_lt (a := x) (b := y), e]
    simp
theorem bl_ff {a b : BS} : bytesLess a b = false ↔ b ≤ a := by
  rw [← Bool.not_eq_true, bl_lt, List.not_lt]
theorem bl_ne {a b : BS} (h : a ≤ b) (hn : a ≠ b) : a < b := by
  by_cases h1 : a < b
  · exact h1
  · exact absurd (List.le_antisymm h (List.not_lt.1 h1)) hn
theorem strict_extB : ∀ {A B : List (BS)}, A.Pairwise (· < ·) → B.Pairwise (· < ·) → (∀ x, x ∈ A ↔ x ∈ B) → A = B
  | [], [], _, _, _ => rfl
  | [], b :: B, _, _, h => absurd ((h b).2 List.mem_cons_self) (by simp)
  | a :: A, [], _, _, h => absurd ((h a).1 List.mem_cons_self) (by simp)
  | a :: A, b :: B, hA, hB, h => by
    obtain ⟨ha, hA'⟩ := List.pairwise_cons.1 hA
    obtain ⟨hb, hB'⟩ := List.pairwise_cons.1 hB
    have e : a = b := by
      rcases List.mem_cons.1 ((h a).1 List.mem_cons_self) with e | h1
      · exact e
      · rcases List.mem_cons.1 ((h b).2 List.mem_cons_self) with e | h2
        · exact e.symm
        · exact absurd (List.lt_trans (ha b h2) (hb a h1)) (List.lt_irrefl _)
    subst e
    refine congrArg (a :: ·) (strict_extB hA' hB' fun x => ?_)
    have hx := h x
    constructor
    · intro hm
      rcases List.mem_cons.1 (hx.1 (List.mem_cons_of_mem _ hm)) with e | h1
      · subst e; exact absurd (ha x hm) (List.lt_irrefl _)
      · exact h1
    · intro hm
      rcases List.mem_cons.1 (hx.2 (List.mem_cons_of_mem _ hm)) with e | h1
      · subst e; exact absurd (hb x hm) (List.lt_irrefl _)
      · exact h1
/-- A text laid into texts in their order, once. -/
def insL (t : BS) : List (BS) → List (BS)
  | [] => [t]
  | y :: l => bif bytesLess y t then y :: insL t l else bif y == t then y :: l else t :: y :: l
theorem insL_mem {t x : BS} : ∀ {l : List (BS)}, x ∈ insL t l ↔ x = t ∨ x ∈ l
  | [] => by simp [insL]
  | y :: l => by
    unfold insL
    cases bytesLess y t with
    | true =>
      show x ∈ y :: insL t l ↔ _
      rw [List.mem_cons, insL_mem, List.mem_cons]
      constructor
      · rintro (h | h | h)
        · exact .inr (.inl h)
        · exact .inl h
        · exact .inr (.inr h)
      · rintro (h | h | h)
        · exact .inr (.inl h)
        · exact .inl h
        · exact .inr (.inr h)
    | false =>
      cases he : (y == t) with
      | true =>
        have : y = t := by simpa using he
        subst this
        show x ∈ y :: l ↔ _
        rw [List.mem_cons]
        constructor
        · exact .inr
        · rintro (h | h)
          · exact .inl h
          · exact h
      | false => show x ∈ t :: y :: l ↔ _; rw [List.mem_cons]
theorem insL_sorted {t : BS} : ∀ {l : List (BS)}, l.Pairwise (· < ·) → (insL t l).Pairwise (· < ·)
  | [], _ => by simp [insL]
  | y :: l, h => by
    obtain ⟨hy, hl⟩ := List.pairwise_cons.1 h
    unfold insL
    cases hb : bytesLess y t with
    | true =>
      refine List.pairwise_cons.2 ⟨fun x hx => ?_, insL_sorted hl⟩
      rcases insL_mem.1 hx with rfl | hx
      · exact bl_lt.1 hb
      · exact hy x hx
    | false =>
      cases he : (y == t) with
      | true => exact h
      | false =>
        have hn : t ≠ y := fun e => by subst e; simp at he
        have hlt : t < y := bl_ne (bl_ff.1 hb) hn
        refine List.pairwise_cons.2 ⟨fun x hx => ?_, h⟩
        rcases List.mem_cons.1 hx with rfl | hx
        · exact hlt
        · exact List.lt_trans hlt (hy x hx)
theorem insF_l {t : BS} : ∀ {l : List (BS)} {D : LL}, (bif ((rowsOf TC.s l).foldl (insF t) (D, false)).2 then ((rowsOf TC.s l).foldl (insF t) (D, false)).1 else ((rowsOf TC.s l).foldl (insF t) (D, false)).1 ++ [[TC.s t]]) = D ++ rowsOf TC.s (insL t l)
  | [], D => rfl
  | y :: l, D => by
    show (bif ((rowsOf TC.s l).foldl (insF t) (insF t (D, false) [TC.s y])).2 then ((rowsOf TC.s l).foldl (insF t) (insF t (D, false) [TC.s y])).1 else ((rowsOf TC.s l).foldl (insF t) (insF t (D, false) [TC.s y])).1 ++ [[TC.s t]]) = _
    have hm : ((rowsOf TC.s l).map fun x => [TC.s (nth x 0).str]) = rowsOf TC.s l := by
      unfold rowsOf
      rw [List.map_map]; rfl
    cases hb : bytesLess y t with
    | true =>
      have e : insF t (D, false) [TC.s y] = (D ++ [[TC.s y]], false) := by
        show (bif !false && !(bytesLess y t) then _ else (D ++ [[TC.s y]], false)) = _
        rw [hb]; rfl
      have e2 : insL t (y :: l) = y :: insL t l := by
        show (bif bytesLess y t then _ else _) = _
        rw [hb]; rfl
      rw [e, e2, insF_l, List.append_assoc]; rfl
    | false =>
      have e : insF t (D, false) [TC.s y] = ((bif y == t then D else D ++ [[TC.s t]]) ++ [[TC.s y]], true) := by
        show (bif !false && !(bytesLess y t) then ((bif y == t then D else D ++ [[TC.s t]]) ++ [[TC.s y]], true) else _) = _
        rw [hb]; rfl
      have e2 : insL t (y :: l) = bif y == t then y :: l else t :: y :: l := by
        show (bif bytesLess y t then _ else _) = _
        rw [hb]; rfl
      rw [e, e2, insF_t, hm]
      cases (y == t) <;> simp [rowsOf]
theorem insV_l {t : BS} {l : List (BS)} : insV (rowsOf TC.s l) t = rowsOf TC.s (insL t l) := by
  have := insF_l (t := t) (l := l) (D := [])
  rw [List.nil_append] at this
  exact this
theorem insX_names : ∀ (d : Nat) (x : List TC) (A : LL), rowsDep (nth x 3).list ≤ d → okX x = true → insX A x = (nmX x).foldl (fun a r => insV a (nth r 0).str) A := by
  have two : ∀ {x : List TC}, okX x = true → ((nth x 0).int == 2) = true → (nth x 3).list = [] := by
    intro x h h2
    unfold okX at h
    rw [okE_eq] at h
    have h1 := (Bool.and_eq_true_iff.1 h).1
    have e2 : (nth x 0).int = 2 := by simpa using h2
    rw [e2] at h1
    have h1 : (((nth x 1).int == 0) && (nameOk (nth x 2).str && (((nth x 3).list.length : Int) == 0) && (((nth x 4).list.length : Int) == 0))) = true := h1
    simp only [Bool.and_eq_true, beq_iff_eq] at h1
    exact List.eq_nil_of_length_eq_zero (by omega)
  intro d
  induction d with
  | zero =>
    intro x A hx hok
    have hK : (nth x 3).list = [] := by
      match hK : (nth x 3).list with
      | [] => rfl
      | y :: K =>
        have := dep_cell (A := (nth x 3).list) (x := y) (by rw [hK]; exact List.mem_cons_self) 3
        omega
    unfold insX nmX
    rw [insG_eq, nmE_eq, hK]
    cases (nth x 0).int == 2 <;> rfl
  | succ d ih =>
    intro x A hx hok
    have h2 := two hok
    unfold insX nmX
    rw [insG_eq, nmE_eq]
    cases hk : (nth x 0).int == 2 with
    | true => rw [h2 hk]; rfl
    | false =>
      have hall : ∀ y, y ∈ (nth x 3).list → okX y = true := by
        have h := hok
        unfold okX at h
        rw [okE_eq] at h
        exact List.all_eq_true.1 (Bool.and_eq_true_iff.1 h).2
      show (nth x 3).list.foldl insX A = ((nth x 3).list.flatMap nmX).foldl (fun a r => insV a (nth r 0).str) A
      have key : ∀ (Q A : LL), (∀ y, y ∈ Q → y ∈ (nth x 3).list) → Q.foldl insX A = (Q.flatMap nmX).foldl (fun a r => insV a (nth r 0).str) A := by
        intro Q
        induction Q with
        | nil => intro A _; rfl
        | cons y Q ih2 =>
          intro A hQ
          have hy := hQ y List.mem_cons_self
          have hdy := dep_cell hy 3
          rw [List.foldl_cons, List.flatMap_cons, List.foldl_append, ih y A (by omega) (hall y hy), ih2 _ fun z hz => hQ z (List.mem_cons_of_mem _ hz)]
      exact key _ A fun _ h => h
theorem compact_mem {zs : List (BS)} {x : BS} : x ∈ Lib.compact zs ↔ x ∈ zs := by
  constructor
  · intro h
    unfold Lib.compact Lib.compactUpTo at h
    obtain ⟨i, hi, rfl⟩ := List.mem_map.1 h
    have hi' : i < zs.length := List.mem_range.1 (List.mem_filter.1 hi).1
    simp [getElem!_pos, hi']
  · intro h
    obtain ⟨i, hi, rfl⟩ := List.getElem_of_mem h
    have key : ∀ (i : Nat) (hi : i < zs.length), zs[i] ∈ Lib.compact zs := by
      intro i
      induction i with
      | zero =>
        intro hi
        unfold Lib.compact Lib.compactUpTo
        refine List.mem_map.2 ⟨0, List.mem_filter.2 ⟨List.mem_range.2 hi, by simp [Lib.keeps]⟩, by simp [getElem!_pos, hi]⟩
      | succ i ih =>
        intro hi
        by_cases he : zs[i + 1] = zs[i]
        · rw [he]; exact ih (by omega)
        · unfold Lib.compact Lib.compactUpTo
          refine List.mem_map.2 ⟨i + 1, List.mem_filter.2 ⟨List.mem_range.2 hi, ?_⟩, by simp [getElem!_pos, hi]⟩
          have hi' : i < zs.length := by omega
          simp [Lib.keeps, getElem!_pos, hi, hi', he]
    exact key i hi
theorem compact_sorted {zs : List (BS)} (h : zs.Pairwise (· ≤ ·)) : (Lib.compact zs).Pairwise (· < ·) := by
  unfold Lib.compact Lib.compactUpTo
  refine List.pairwise_map.2 ?_
  refine (List.Pairwise.and_mem.1 (List.pairwise_lt_range.filter _)).imp ?_
  rintro i j ⟨hi, hj, hij⟩
  obtain ⟨hi1, _⟩ := List.mem_filter.1 hi
  obtain ⟨hj1, hj2⟩ := List.mem_filter.1 hj
  have hi1 : i < zs.length := List.mem_range.1 hi1
  have hj1 : j < zs.length := List.mem_range.1 hj1
  have hj0 : j - 1 < zs.length := by omega
  have hne : zs[j] ≠ zs[j - 1] := by
    simp [Lib.keeps, getElem!_pos, hj1, hj0] at hj2
    rcases hj2 with h | h
    · omega
    · exact h
  have hp := List.pairwise_iff_getElem.1 h
  have h1 : zs[j - 1] < zs[j] := bl_ne (hp (j - 1) j hj0 hj1 (by omega)) (Ne.symm hne)
  have h2 : zs[i] < zs[j] := by
    by_cases e : i = j - 1
    · subst e; exact h1
    · have h3 := hp i (j - 1) hi1 hj0 (by omega)
      by_cases h4 : zs[i] = zs[j - 1]
      · rw [h4]; exact h1
      · exact List.lt_trans (bl_ne h3 h4) h1
  simpa [getElem!_pos, hi1, hj1] using h2
theorem ins_fold : ∀ {N l : List (BS)}, ((rowsOf TC.s N).foldl (fun a r => insV a (nth r 0).str) (rowsOf TC.s l) = rowsOf TC.s (N.foldl (fun a t => insL t a) l)) ∧ (l.Pairwise (· < ·) → (N.foldl (fun a t => insL t a) l).Pairwise (· < ·)) ∧ ∀ x, x ∈ N.foldl (fun a t => insL t a) l ↔ x ∈ N ∨ x ∈ l
  | [], l => ⟨rfl, fun h => h, fun x => by simp⟩
  | t :: N, l => by
    obtain ⟨h1, h2, h3⟩ := ins_fold (N := N) (l := insL t l)
    refine ⟨?_, fun h => h2 (insL_sorted h), fun x => ?_⟩
    · show (rowsOf TC.s N).foldl (fun a r => insV a (nth r 0).str) (insV (rowsOf TC.s l) t) = _
      rw [insV_l, h1]; rfl
    · show x ∈ N.foldl (fun a t => insL t a) (insL t l) ↔ _
      rw [h3, insL_mem, List.mem_cons]
      constructor
      · rintro (h | h | h)
        · exact .inl (.inr h)
        · exact .inl (.inl h)
        · exact .inr h
      · rintro ((h | h) | h)
        · exact .inr (.inl h)
        · exact .inl h
        · exact .inr (.inr h)
theorem nm_rows : ∀ (d : Nat) (x : List TC), rowsDep (nth x 3).list ≤ d → rowsOf TC.s (elems TC.str (nmX x)) = nmX x := by
  have app : ∀ A B : LL, rowsOf TC.s (elems TC.str A) = A → rowsOf TC.s (elems TC.str B) = B → rowsOf TC.s (elems TC.str (A ++ B)) = A ++ B := fun A B h1 h2 => by
    unfold rowsOf elems at *
    rw [List.map_append, List.map_append, h1, h2]
  have fl : ∀ Q : LL, (∀ y, y ∈ Q → rowsOf TC.s (elems TC.str (nmX y)) = nmX y) → rowsOf TC.s (elems TC.str (Q.flatMap nmX)) = Q.flatMap nmX := by
    intro Q
    induction Q with
    | nil => intro _; rfl
    | cons y Q ih => intro h; rw [List.flatMap_cons]; exact app _ _ (h y List.mem_cons_self) (ih fun z hz => h z (List.mem_cons_of_mem _ hz))
  intro d
  induction d with
  | zero =>
    intro x hx
    have hK : (nth x 3).list = [] := by
      match hK : (nth x 3).list with
      | [] => rfl
      | y :: K =>
        have := dep_cell (A := (nth x 3).list) (x := y) (by rw [hK]; exact List.mem_cons_self) 3
        omega
    unfold nmX
    rw [nmE_eq, hK]
    cases (nth x 0).int == 2 <;> rfl
  | succ d ih =>
    intro x hx
    unfold nmX
    rw [nmE_eq]
    cases (nth x 0).int == 2 with
    | true => rfl
    | false => exact fl _ fun y hy => ih y (by have := dep_cell hy 3; omega)
theorem names_law {k n : Int} {tx : BS} {K R : LL} (h : okE k n tx K R = true) :
    insX [] [TC.i k, TC.i n, TC.s tx, TC.l K, TC.l R] = rowsOf TC.s (Lib.compact (elems TC.str (rowsOf TC.s ((elems TC.str (nmE k tx K)).mergeSort fun x y => decide (x ≤ y))))) := by
  have h1 := insX_names _ [TC.i k, TC.i n, TC.s tx, TC.l K, TC.l R] [] (Nat.le_refl _) h
  have h2 := nm_rows _ [TC.i k, TC.i n, TC.s tx, TC.l K, TC.l R] (Nat.le_refl _)
  have hn : nmX [TC.i k, TC.i n, TC.s tx, TC.l K, TC.l R] = nmE k tx K := rfl
  rw [hn] at h1 h2
  obtain ⟨f1, f2, f3⟩ := ins_fold (N := elems TC.str (nmE k tx K)) (l := [])
  rw [h2] at f1
  have he : ∀ l : List (BS), elems TC.str (rowsOf TC.s l) = l := fun l => by
    unfold elems rowsOf
    rw [List.map_map]
    exact List.map_id'' (fun _ => rfl) l
  rw [he, h1]
  refine (f1.trans ?_)
  refine congrArg (rowsOf TC.s) (strict_extB (f2 .nil) (compact_sorted ?_) fun x => ?_)
  · exact (List.pairwise_mergeSort (le := fun x y : BS => decide (x ≤ y)) (fun a b c h1 h2 => by simp only [decide_eq_true_eq] at *; exact List.le_trans h1 h2) (fun a b => by simp only [Bool.or_eq_true, decide_eq_true_eq]; exact List.le_total a b) _).imp fun h => by simpa using h
  · rw [f3, compact_mem, (List.mergeSort_perm _ _).mem_iff]
    simp
theorem cnt_parts {k n : Int} {tx : BS} {K R : LL} (h : (cntV k n tx K R 40).2 = true) : okE k n tx K R = true ∧ numE K ≤ 40 := by
  unfold cntV at h
  cases h1 : okE k n tx K R with
  | false => rw [h1] at h; cases h
  | true =>
    refine ⟨rfl, ?_⟩
    rw [h1, Bool.true_and] at h
    by_cases h2 : ((numE K : Nat) : Int) ≤ 40
    · omega
    · rw [decide_eq_false h2] at h; cases h
def nmS (k : Int) (tx : BS) (K : LL) : LL := rowsOf TC.s (Lib.compact (elems TC.str (rowsOf TC.s ((elems TC.str (nmE k tx K)).mergeSort fun x y => decide (x ≤ y)))))
def nmV (k n : Int) (tx : BS) (K R : LL) : LL := bif (cntV k n tx K R 40).2 then nmS k tx K else []
theorem impl_nm {k n : Int} {tx : BS} {K R : LL} : qbf_v k n tx K R = nmV k n tx K R := by
  show (bif !((cntV k n tx K R 40).2) then [] else nmS k tx K) = bif (cntV k n tx K R 40).2 then nmS k tx K else []
  cases (cntV k n tx K R 40).2 <;> rfl
theorem spec_nm {k n : Int} {tx : BS} {K R : LL} : qbg_v k n tx K R = nmV k n tx K R := by
  have e : qbj_v k n tx K R = (cntV k n tx K R 40).2 := sz_valid k n tx K R
  show (bif !(qbj_v k n tx K R) then [] else insX [] [TC.i k, TC.i n, TC.s tx, TC.l K, TC.l R]) = bif (cntV k n tx K R 40).2 then nmS k tx K else []
  rw [e]
  cases h : (cntV k n tx K R 40).2 with
  | false => rfl
  | true => exact names_law (cnt_parts h).1
theorem nm_str : ∀ (d : Nat) (k : Int) (tx : BS) (K : LL), rowsDep K ≤ d → Typed tab .str (.s tx) → Typed tab (.slice 31) (.l K) → ∀ x, x ∈ nmE k tx K → (nth x 0).str.length ≤ 140737488351232 := by
  intro d
  induction d with
  | zero =>
    intro k tx K h ht hK x hx
    rw [nmE_eq] at hx
    cases hk : (k == 2) with
    | true =>
      rw [hk] at hx
      rw [List.mem_singleton.1 hx]
      exact typed_str_len ht
    | false =>
      rw [hk] at hx
      obtain ⟨y, hy, _⟩ := List.mem_flatMap.1 hx
      have := dep_cell hy 3
      omega
  | succ d ih =>
    intro k tx K h ht hK x hx
    rw [nmE_eq] at hx
    cases hk : (k == 2) with
    | true =>
      rw [hk] at hx
      rw [List.mem_singleton.1 hx]
      exact typed_str_len ht
    | false =>
      rw [hk] at hx
      obtain ⟨y, hy, hx⟩ := List.mem_flatMap.1 hx
      have := dep_cell hy 3
      exact ih _ _ _ (by omega) (typed_s ((typed_elem hK hy).2 2 (by decide))) (typed_list ((typed_elem hK hy).2 3 (by decide))) x hx
theorem nmS_len {k : Int} {tx : BS} {K : LL} : (nmS k tx K).length ≤ numE K ∧ (nmE k tx K).length ≤ numE K := by
  have h2 : (nmE k tx K).length ≤ numE K := nm_len _ [TC.i k, TC.i 0, TC.s tx, TC.l K, TC.l []] (Nat.le_refl _)
  refine ⟨?_, h2⟩
  unfold nmS rowsOf
  rw [List.length_map]
  unfold Lib.compact Lib.compactUpTo
  rw [List.length_map]
  refine Nat.le_trans (List.length_filter_le _ _) ?_
  simp only [List.length_range, elems, List.length_map, List.length_mergeSort]
  exact h2
theorem nmV_ty {k n : Int} {tx : BS} {K R : LL} (ht : Typed tab .str (.s tx)) (hK : Typed tab (.slice 31) (.l K)) : Typed tab (.slice 9) (.l (nmV k n tx K R)) ∧ (nmV k n tx K R).length ≤ 40 := by
  unfold nmV
  cases h : (cntV k n tx K R 40).2 with
  | false => exact ⟨.slice _ _ (by simp) (by simp) (fun _ h => by cases h) (fun _ h => by cases h), Nat.zero_le _⟩
  | true =>
    have hl := nmS_len (k := k) (tx := tx) (K := K)
    have hn := (cnt_parts h).2
    have hx : ∀ x, x ∈ nmS k tx K → ∃ l : BS, x = [TC.s l] ∧ l.length ≤ 140737488351232 := fun x hx => by
      unfold nmS rowsOf at hx
      obtain ⟨l, hm, rfl⟩ := List.mem_map.1 hx
      refine ⟨l, rfl, ?_⟩
      rw [compact_mem] at hm
      obtain ⟨y, hy, rfl⟩ := List.mem_map.1 hm
      obtain ⟨l2, hl2, rfl⟩ := List.mem_map.1 hy
      rw [(List.mergeSort_perm _ _).mem_iff] at hl2
      obtain ⟨z, hz, rfl⟩ := List.mem_map.1 hl2
      exact nm_str _ k tx K (Nat.le_refl _) ht hK z hz
    refine ⟨?_, by show (nmS k tx K).length ≤ 40; omega⟩
    show Typed tab (.slice 9) (.l (nmS k tx K))
    refine .slice _ _ ?_ ?_ (fun x hm => ?_) (fun x hm k hk => ?_)
    · rw [show (tab 9).bytes = 16 from rfl, show reachBytes = 140737488351232 from rfl]; omega
    · rw [show maxLen = 9223372036854775807 from rfl]; omega
    · obtain ⟨l, rfl, _⟩ := hx x hm; rfl
    · obtain ⟨l, rfl, hl⟩ := hx x hm
      have : k = 0 := by have : k < 1 := hk; omega
      subst this
      exact .str l hl
theorem mark_sum {K : LL} : (mkX K 1).2 = 1 + (cnX K : Int) := mk_snd _ K 1 (Nat.le_refl _)

end
end
end
end
end
end
end
end
end
end Go.Proofs.Ytabdjbkbfilhkaa.V
