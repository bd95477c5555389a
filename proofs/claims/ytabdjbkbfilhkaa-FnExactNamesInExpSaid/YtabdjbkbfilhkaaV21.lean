import Derived.Test.YtabdjbkbfilhkaaV20
namespace Go.Proofs.Ytabdjbkbfilhkaa.V
open Go

def isZero (ct : CT) (v : Value) : Bool :=
  match ct, v with
  | .int k, .int k' n => decide (k = k') && decide (n = 0)
  | .bool, .bool b => !b
  | .str, .string s => s.data.toList.isEmpty
  | .slice _, .slice none 0 0 => true
  | .nils, .slice none 0 0 => true
  | _, _ => false

theorem isZero_ok {ct : CT} {v : Value} (h : isZero ct v = true) : v = zeroV ct := by
  unfold isZero at h
  split at h <;> simp at h
  · obtain ⟨rfl, rfl⟩ := h; rfl
  · subst h; rfl
  · rename_i s
    obtain ⟨l⟩ := s
    simp at h
    subst h
    rfl
  · rfl
  · rfl

def allZero : List CT → List Value → Bool
  | [], [] => true
  | ct :: cts, v :: vs => isZero ct v && allZero cts vs
  | _, _ => false

theorem allZero_ok : ∀ {cts : List CT} {vs : List Value}, allZero cts vs = true → vs = cts.map zeroV
  | [], [], _ => rfl
  | ct :: cts, v :: vs, h => by
    simp only [allZero, Bool.and_eq_true] at h
    rw [List.map_cons, isZero_ok h.1, allZero_ok h.2]
  | [], _ :: _, h => by cases h
  | _ :: _, [], h => by cases h

def zeroOk (agg : Bool) (cts : List CT) (z : Option Value) : Bool :=
  match z with
  | none => false
  | some v => match agg, v with
    | true, .agg cs => allZero cts cs.toList
    | false, v => match cts with
      | [ct] => isZero ct v
      | _ => false
    | _, _ => false

theorem zeroOk_ok {agg : Bool} {cts : List CT} {z : Option Value} (h : zeroOk agg cts z = true) : z = some (mkv agg (cts.map zeroV)) := by
  unfold zeroOk at h
  split at h
  · cases h
  · split at h
    · rename_i cs
      rw [← allZero_ok h]
      simp [mkv]
    · split at h
      · rw [isZero_ok h]; simp [mkv]
      · cases h
    · cases h

def fieldsOk (P : Program) (T : Tab) (cts : List CT) : List (Nat × TypeId) → List Field → Bool
  | [], [] => true
  | (o, e) :: fs, f :: gs => decide (f.offset = o) && decide (f.type = e) && decide ((cts.drop o).take (T e).cts.length = (T e).cts) &&
      (match P.info? e with | some i => decide (i.size = (T e).cts.length) | none => false) && fieldsOk P T cts fs gs
  | _, _ => false

theorem fieldsOk_ok {P : Program} {T : Tab} {cts : List CT} : ∀ {fs : List (Nat × TypeId)} {gs : List Field}, fieldsOk P T cts fs gs = true →
    gs.length = fs.length ∧ ∀ (j o : Nat) (e : TypeId), fs[j]? = some (o, e) → ∃ f : Field, gs[j]? = some f ∧ f.offset = o ∧ f.type = e ∧ (cts.drop o).take (T e).cts.length = (T e).cts ∧ ∃ i, P.info? e = some i ∧ i.size = (T e).cts.length
  | [], [], _ => ⟨rfl, fun j o e h => by simp at h⟩
  | (o, e) :: fs, f :: gs, h => by
    simp only [fieldsOk, Bool.and_eq_true, decide_eq_true_eq] at h
    obtain ⟨⟨⟨⟨h1, h2⟩, h3⟩, h4⟩, h5⟩ := h
    obtain ⟨q1, q2⟩ := fieldsOk_ok h5
    refine ⟨by simp [q1], fun j o' e' hj => ?_⟩
    cases j with
    | zero =>
      simp only [List.getElem?_cons_zero, Option.some.injEq, Prod.mk.injEq] at hj
      obtain ⟨rfl, rfl⟩ := hj
      refine ⟨f, rfl, h1, h2, h3, ?_⟩
      split at h4
      · rename_i i hi; exact ⟨i, hi, by simpa using h4⟩
      · cases h4
    | succ j => simp only [List.getElem?_cons_succ] at hj ⊢; exact q2 j o' e' hj
  | [], _ :: _, h => by cases h
  | _ :: _, [], h => by cases h

def kindOk (P : Program) (T : Tab) (t : TypeId) : Bool :=
  match (T t).kind, P.underlying t with
  | .int k, some (.int k') => decide (k' = k) && decide ((T t).cts = [.int k])
  | .bool, some .bool => decide ((T t).cts = [.bool])
  | .str, some .string => decide ((T t).cts = [.str])
  | .slice e, some (.slice e') => decide (e' = e) && decide ((T t).cts = [.slice e])
  | .ptr e, some (.pointer e') => decide (e' = e) && decide ((T t).cts = [.ptr e])
  | .func, some (.func _ _ _) => decide ((T t).cts = [.func])
  | .struct fs, some (.struct gs) => fieldsOk P T (T t).cts fs gs.toList
  | _, _ => false

theorem kindOk_ok {P : Program} {T : Tab} {t : TypeId} (h : kindOk P T t = true) : KindOk P T t (T t).kind := by
  unfold kindOk at h
  unfold KindOk
  split at h <;> rename_i h1 h2 <;> (try rw [h1]) <;> (try simp only [Bool.and_eq_true, decide_eq_true_eq] at h)
  · obtain ⟨rfl, h⟩ := h; exact ⟨h2, h⟩
  · exact ⟨h2, h⟩
  · exact ⟨h2, h⟩
  · obtain ⟨rfl, h⟩ := h; exact ⟨h2, h⟩
  · obtain ⟨rfl, h⟩ := h; exact ⟨h2, h⟩
  · exact ⟨⟨_, _, _, h2⟩, h⟩
  · rename_i fs gs
    obtain ⟨q1, q2⟩ := fieldsOk_ok h
    refine ⟨gs, h2, by simpa using q1, fun j o e hj => ?_⟩
    obtain ⟨f, hf, rest⟩ := q2 j o e hj
    exact ⟨f, by rw [← Array.getElem?_toList]; exact hf, rest⟩
  · cases h

def plainFields (T : Tab) : Nat → List (Nat × TypeId) → Bool
  | _, [] => true
  | j, (o, e) :: fs => decide (o = j) && !(T e).kind.isOther && !(T e).kind.agg && plainFields T (j + 1) fs

theorem plainFields_ok {T : Tab} : ∀ {fs : List (Nat × TypeId)} {i : Nat}, plainFields T i fs = true → ∀ j, j < fs.length → fs[j]? = some (i + j, (fs.getD j (0, 0)).2) ∧ (T (fs.getD j (0, 0)).2).kind.isOther = false ∧ (T (fs.getD j (0, 0)).2).kind.agg = false
  | [], _, _, j, hj => by simp at hj
  | (o, e) :: fs, i, h, j, hj => by
    simp only [plainFields, Bool.and_eq_true, Bool.not_eq_true', decide_eq_true_eq] at h
    obtain ⟨⟨⟨rfl, h2⟩, h3⟩, h4⟩ := h
    cases j with
    | zero => exact ⟨rfl, h2, h3⟩
    | succ j =>
      have := plainFields_ok h4 j (by simpa using hj)
      rw [show o + (j + 1) = o + 1 + j by omega]
      simpa using this

def cmpOk (P : Program) (T : Tab) (t : TypeId) : Bool :=
  !P.eqGuardType P.depth t && !P.stoodInHeld t &&
    match (T t).kind, P.underlying t with
    | .struct fs, some (.struct gs) => decide (fs.length = (T t).cts.length) && plainFields T 0 fs && gs.toList.all fun f => !decide (f.name = "_")
    | _, _ => false

def checkTy (P : Program) (T : Tab) (t : TypeId) : Bool :=
  (T t).kind.isOther ||
    match P.info? t with
    | none => false
    | some i => decide (i.size = (T t).cts.length) && decide (i.bytes = (T t).bytes) && kindOk P T t && ((zeroCells (T t).cts).isNone || zeroOk (T t).kind.agg (T t).cts i.zero) && (!(T t).cmp || cmpOk P T t)

theorem checkTy_ok {P : Program} {T : Tab} {t : TypeId} (h : checkTy P T t = true) (ho : (T t).kind.isOther = false) : ∃ i, TyOk P T t i := by
  unfold checkTy at h
  rw [ho, Bool.false_or] at h
  split at h
  · cases h
  · rename_i i hi
    simp only [Bool.and_eq_true, decide_eq_true_eq, Bool.or_eq_true, Bool.not_eq_true'] at h
    obtain ⟨⟨⟨⟨h1, h2⟩, h3⟩, h4⟩, h5⟩ := h
    refine ⟨i, hi, h1, h2, kindOk_ok h3, fun zs hzs => ?_, fun hc => ?_⟩
    · rcases h4 with h4 | h4
      · rw [hzs] at h4; cases h4
      · exact zeroOk_ok h4
    · have h5 := h5.resolve_left (by rw [hc]; simp)
      unfold cmpOk at h5
      simp only [Bool.and_eq_true, Bool.not_eq_true'] at h5
      obtain ⟨⟨q1, q2⟩, q3⟩ := h5
      refine ⟨q1, q2, ?_⟩
      split at q3
      · rename_i fs gs hk hu
        simp only [Bool.and_eq_true, decide_eq_true_eq, List.all_eq_true, Bool.not_eq_true', decide_eq_false_iff_not] at q3
        obtain ⟨⟨p1, p2⟩, p3⟩ := q3
        refine ⟨fs, gs, hk, hu, p1, fun j hj => ?_, fun f hf => p3 f (by simpa using hf)⟩
        have := plainFields_ok p2 j hj
        rw [Nat.zero_add] at this
        exact this
      · cases q3

def methT : List (Nat × Nat) → Nat → TyR
  | [], _ => ⟨.other, [], 0, false⟩
  | (g, k) :: m, t => bif Nat.beq t (fnBase + g) then ⟨.meth k, [], 0, false⟩ else methT m t
def mkTab (l : List TyR) (m : List (Nat × Nat)) : Tab := fun t => bif Nat.blt t fnBase then l.getD t ⟨.other, [], 0, false⟩ else methT m t
def TK.isBld : TK → Bool | .bld _ => true | _ => false

theorem methT_other : ∀ {m : List (Nat × Nat)} {t : Nat}, (methT m t).kind.isOther = true ∧ (methT m t).kind.isBld = false
  | [], _ => ⟨rfl, rfl⟩
  | (g, k) :: m, t => by
    unfold methT
    cases Nat.beq t (fnBase + g) with
    | true => exact ⟨rfl, rfl⟩
    | false => exact methT_other (m := m) (t := t)
theorem methT_mem : ∀ {m : List (Nat × Nat)} {g k : Nat}, (methT m (fnBase + g)).kind = .meth k → (g, k) ∈ m
  | [], _, _, h => by cases h
  | (g', k') :: m, g, k, h => by
    unfold methT at h
    cases hb : Nat.beq (fnBase + g) (fnBase + g') with
    | true =>
      rw [hb] at h
      have e := Nat.eq_of_beq_eq_true hb
      have e : g = g' := by omega
      have h : TK.meth k' = .meth k := h
      cases h
      rw [e]; exact List.mem_cons_self
    | false =>
      rw [hb] at h
      exact List.mem_cons_of_mem _ (methT_mem h)
theorem blt_false {a b : Nat} (h : b ≤ a) : Nat.blt a b = false := by
  cases hb : Nat.blt a b with
  | false => rfl
  | true => have := Nat.le_of_ble_eq_true hb; omega
theorem mkTab_meth {l : List TyR} {m : List (Nat × Nat)} {g k : Nat} (h : (mkTab l m (fnBase + g)).kind = .meth k) : (g, k) ∈ m := by
  unfold mkTab at h
  rw [blt_false (Nat.le_add_right _ _)] at h
  exact methT_mem h

def checkAll (P : Program) (l : List TyR) (m : List (Nat × Nat)) : Bool := (List.range l.length).all (checkTy P (mkTab l m))

theorem checkAll_ok {P : Program} {l : List TyR} {m : List (Nat × Nat)} (h : checkAll P l m = true) : TabOk P (mkTab l m) := by
  intro t ho
  unfold checkAll at h
  rw [List.all_eq_true] at h
  rcases Nat.lt_or_ge t l.length with hlt | hge
  · exact checkTy_ok (h t (List.mem_range.2 hlt)) ho
  · unfold mkTab at ho
    cases hb : Nat.blt t fnBase with
    | true =>
      rw [hb] at ho
      dsimp only [cond_true] at ho
      rw [List.getD_eq_getElem?_getD, List.getElem?_eq_none hge] at ho
      cases ho
    | false =>
      rw [hb] at ho
      dsimp only [cond_false] at ho
      rw [methT_other.1] at ho
      cases ho

def checkNames (P : Program) : Bool := P.funcs.toList.all fun fn => !(fn.name == "runtime.NumGoroutine")
theorem checkNames_ok {P : Program} (h : checkNames P = true) : NamesOk P := by
  intro f fn hf
  unfold checkNames at h
  rw [List.all_eq_true] at h
  have := h fn (by rw [← Array.getElem?_toList] at hf; exact List.mem_of_getElem? hf)
  simpa using this

end Go.Proofs.Ytabdjbkbfilhkaa.V
