import Derived.Test.YtabdjbkbfilhkaaV15
import Derived.Orders
namespace Go.Proofs.Ytabdjbkbfilhkaa.V
open Go Go.RowKit

section
variable {P : Program} {T : Tab} {G : Nat → Prop} {base : Bs} {nt : Nat} {σ : St} {a : Act} {w w' : World} {D : FuncId → List Arg → Option (Bool × Res)} {K : Act → World → Prop} {Q : Exit → Act → World → Prop} {o : Oper}

theorem setAll_at {σ τ : St} : ∀ (ws : Ws) (n : Nat), σ n = τ n → (σ.setAll ws) n = (τ.setAll ws) n
  | [], n, h => h
  | p :: ws, n, h => by
    refine setAll_at ws n ?_
    by_cases e : n = p.1
    · subst e; rw [St.set_at, St.set_at]
    · rw [St.set_ne _ _ e, St.set_ne _ _ e]; exact h

theorem setAll_in {σ τ : St} : ∀ (ws : Ws) (n : Nat), n ∈ ws.map (·.1) → (σ.setAll ws) n = (τ.setAll ws) n
  | [], n, h => by cases h
  | p :: ws, n, h => by
    by_cases e : n = p.1
    · subst e; exact setAll_at ws _ (by rw [St.set_at, St.set_at])
    · have h' : n ∈ ws.map (·.1) := by
        rcases List.mem_cons.1 h with h | h
        · exact absurd h e
        · exact h
      exact setAll_in ws n h'

theorem setAll_out {σ : St} {ws : Ws} {n : Nat} (h : n ∉ ws.map (·.1)) : (σ.setAll ws) n = σ n :=
  setAll_other σ ws n fun _ hp e => h (e ▸ List.mem_map_of_mem hp)

theorem set_same {σ : St} {d : Nat} {s : Slot} (h : σ d = s) : σ.set d s = σ := by
  funext n
  by_cases e : n = d
  · subst e; rw [St.set_at, h]
  · rw [St.set_ne _ _ e]

theorem opG_sub {all : List Oper} {ws sub : Ws} (he : (opG T all o).ev D σ = some (ws, sub)) : σ.setAll sub = σ := by
  unfold opG at he
  split at he
  · simp only [R.ev_bind] at he
    obtain ⟨x, _, h⟩ := Option.bind_eq_some_iff.1 he
    simp only [R.ev_pure, Option.some.injEq, Prod.mk.injEq] at h
    obtain ⟨_, rfl⟩ := h
    rfl
  · split at he
    · simp at he
    · rename_i d hd
      simp only [R.ev_bind, R.ev_slot, Option.bind_some] at he
      split at he
      · rename_i fl p hsv
        split at he
        · simp at he
        · rw [R.ev_br] at he
          simp only [R.ev_bind] at he
          obtain ⟨x, _, h⟩ := Option.bind_eq_some_iff.1 he
          simp only [R.ev_pure, Option.some.injEq, Prod.mk.injEq] at h
          obtain ⟨_, rfl⟩ := h
          refine set_same ?_
          rw [← hsv]
      · simp only [R.ev_bind] at he
        obtain ⟨x, _, h⟩ := Option.bind_eq_some_iff.1 he
        simp only [R.ev_pure, Option.some.injEq, Prod.mk.injEq] at h
        obtain ⟨_, rfl⟩ := h
        rfl
      · simp at he

theorem skip_rel {ws : Ws} (h : Rel T G base nt σ a w) (hd : ∀ d, o.dst = some d → d < nt) (he : (skipR o).ev D σ = some ws) : Rel T G base nt (σ.setAll ws) (a.put o.dst undef) w := by
  obtain ⟨fp, us, blk, hF⟩ := h
  unfold skipR at he
  split at he
  · rename_i hn
    simp only [R.ev_pure, Option.some.injEq] at he
    subst he
    rw [hn]
    exact hF.toRel
  · rename_i e hn
    simp only [R.ev_bind, R.ev_slot, Option.bind_some, R.ev_pure, Option.some.injEq] at he
    subst he
    rw [hn]
    have := hF.put (hd e hn) undef .und ⟨(σ e).v.w + 1, (σ e).v.c⟩ (by simp) [] (us e) (blk e) .nil (fun _ h => by cases h) ⟨rfl, rfl⟩
    exact this.toRel

theorem undef_not_bool (b : Bool) : undef ≠ .bool b := by intro h; cases h

theorem yielded_bool {ops : Array Oper} {g d : Nat} {p : Bool} (hg : (ops[g]?).bind (·.dst) = some d) (h : a.tmps.getD d undef = .bool p) : yielded ops a.tmps g = some p := by
  unfold yielded
  rw [hg]
  rw [Array.getD_eq_getD_getElem?] at h
  cases ht : a.tmps[d]? with
  | none => rw [ht] at h; exact absurd h (undef_not_bool p)
  | some v =>
    rw [ht] at h
    simp only [Option.getD_some] at h
    subst h
    simp [ht]

theorem yielded_und {ops : Array Oper} {g d : Nat} (hg : (ops[g]?).bind (·.dst) = some d) (h : a.tmps.getD d undef = undef) : yielded ops a.tmps g = none := by
  unfold yielded
  rw [hg]
  rw [Array.getD_eq_getD_getElem?] at h
  cases ht : a.tmps[d]? with
  | none => simp [ht]
  | some v =>
    rw [ht] at h
    simp only [Option.getD_some] at h
    subst h
    simp [ht]
    rfl

theorem opG_sound {ops : Array Oper} {i : Nat} {ws sub : Ws} (hT : TabOk P T) (hD : DOk P T D) (hi : ops[i]? = some o) (h : Rel T G base nt σ a w) (hd : ∀ d, o.dst = some d → d < nt)
    (he : (opG T ops.toList o).ev D σ = some (ws, sub)) (hK : ∀ a' w', Rel T G base nt (σ.setAll ws) a' w' → Bel base w w' → K a' w') : wpOp P ops Q i K a w := by
  unfold wpOp
  simp only [hi]
  unfold opG at he
  split at he
  · rename_i hg
    simp only [R.ev_bind] at he
    obtain ⟨x, h1, h2⟩ := Option.bind_eq_some_iff.1 he
    simp only [R.ev_pure, Option.some.injEq, Prod.mk.injEq] at h2
    obtain ⟨rfl, _⟩ := h2
    have hw : Region.wanted o (yielded ops a.tmps) = true := by simp [Region.wanted, hg]
    rw [if_pos hw]
    exact .inl (op_sound hT hD h hd h1 hK)
  · rename_i g want hg
    split at he
    · simp at he
    · rename_i d hdg
      have hdg' : (ops[g]?).bind (·.dst) = some d := by
        unfold dstOf at hdg
        rw [Array.getElem?_toList] at hdg
        exact hdg
      simp only [R.ev_bind, R.ev_slot, Option.bind_some] at he
      obtain ⟨fp, us, blk, hF⟩ := h
      have hs := hF.slot d
      split at he
      · rename_i fl p hsv
        rw [hsv] at hs
        split at he
        · simp at he
        · rename_i hfl
          rw [R.ev_br] at he
          simp only [R.ev_bind] at he
          obtain ⟨x, h1, h2⟩ := Option.bind_eq_some_iff.1 he
          simp only [R.ev_pure, Option.some.injEq, Prod.mk.injEq] at h2
          obtain ⟨rfl, _⟩ := h2
          have hval : a.tmps.getD d undef = .bool p := by
            obtain ⟨hu, hc, _⟩ := hs
            obtain ⟨u1, hu1, hm⟩ := mkv_false_one (us := us d) (by rw [hc.length]; rfl)
            rw [hu1] at hc
            generalize fp d = ft at hc
            cases hc with
            | cons h3 h4 =>
              have hr := h3.toRep (S' := fun _ => True) (by simpa [Cell.isGone] using hfl) (fun _ _ => trivial) (fun _ _ => trivial)
              rw [hu, hm]
              exact rep_bool hr
          have hy := yielded_bool hdg' hval
          split at h1
          · rename_i hq
            have hw : Region.wanted o (yielded ops a.tmps) = true := by simp [Region.wanted, hg, hy, hq]
            rw [if_pos hw]
            exact .inl (op_sound hT hD ⟨fp, us, blk, hF⟩ hd h1 hK)
          · rename_i hq
            have hw : Region.wanted o (yielded ops a.tmps) = false := by simp [Region.wanted, hg, hy, hq]
            rw [if_neg (by rw [hw]; simp)]
            exact hK _ _ (skip_rel ⟨fp, us, blk, hF⟩ hd h1) (Bel.refl _ _)
      · rename_i hsv
        rw [hsv] at hs
        simp only [R.ev_bind] at he
        obtain ⟨x, h1, h2⟩ := Option.bind_eq_some_iff.1 he
        simp only [R.ev_pure, Option.some.injEq, Prod.mk.injEq] at h2
        obtain ⟨rfl, _⟩ := h2
        have hy := yielded_und hdg' hs.1
        have hw : Region.wanted o (yielded ops a.tmps) = false := by simp [Region.wanted, hg, hy]
        rw [if_neg (by rw [hw]; simp)]
        exact hK _ _ (skip_rel ⟨fp, us, blk, hF⟩ hd h1) (Bel.refl _ _)
      · simp at he

inductive Steps (T : Tab) (nt : Nat) (D : FuncId → List Arg → Option (Bool × Res)) (all : List Oper) : List Oper → St → List (Ws × List Nat) → St → Prop
  | nil (σ : St) : Steps T nt D all [] σ [] σ
  | cons {o : Oper} {rest : List Oper} {σ σ' : St} {ws sub : Ws} {rs : List Nat} {l : List (Ws × List Nat)} : (∀ d, o.dst = some d → d < nt) → (opG T all o).evR D σ [] = some ((ws, sub), rs) →
      Steps T nt D all rest (σ.setAll ws) l σ' → Steps T nt D all (o :: rest) σ ((ws, rs) :: l) σ'

def footsOf (l : List (Ws × List Nat)) : List Foot := l.map fun p => ⟨p.2, p.1.map (·.1)⟩

theorem runOps_steps {ρ : Type} {all : List Oper} : ∀ {ops : List Oper} {σ : St} {fs : List Foot} {KK : St → List Foot → Option ρ} {r : ρ}, runOps T nt D all ops σ fs KK = some r →
    ∃ l σ', Steps T nt D all ops σ l σ' ∧ KK σ' ((footsOf l).reverse ++ fs) = some r
  | [], σ, fs, KK, r, h => ⟨[], σ, .nil σ, h⟩
  | o :: rest, σ, fs, KK, r, h => by
    simp only [runOps, forceL_eq] at h
    split at h
    · cases h
    · rename_i hdo
      rw [R.exec_eq] at h
      obtain ⟨⟨⟨ws, sub⟩, rs⟩, h1, h2⟩ := Option.bind_eq_some_iff.1 h
      dsimp only at h2
      rw [opG_sub (R.ev_of_evR D σ _ _ _ h1)] at h2
      obtain ⟨l, σ', h3, h4⟩ := runOps_steps h2
      refine ⟨(ws, rs) :: l, σ', .cons (fun d hd => ?_) h1 h3, ?_⟩
      · simp only [dstOk, hd, Bool.not_eq_false] at hdo
        exact Nat.le_of_ble_eq_true hdo
      · simp only [footsOf, List.map_cons, List.reverse_cons, List.append_assoc, List.singleton_append] at h4 ⊢
        exact h4

theorem text_sound {ops : Array Oper} (hT : TabOk P T) (hD : DOk P T D) : ∀ (rest : List Oper) (i : Nat) {l : List (Ws × List Nat)} {σ σ' : St} {a : Act} {w : World}, (∀ j, j < rest.length → ops[i + j]? = rest[j]?) → Steps T nt D ops.toList rest σ l σ' → Rel T G base nt σ a w →
    (∀ a' w', Rel T G base nt σ' a' w' → Bel base w w' → Q .normal a' w') → wpOps P ops Q (List.range' i rest.length) a w
  | [], i, l, σ, σ', a, w, _, hs, h, hQ => by
    cases hs
    exact hQ _ _ h (Bel.refl _ _)
  | o :: rest, i, l, σ, σ', a, w, ho, hs, h, hQ => by
    cases hs with
    | cons hd h1 h2 =>
      rw [List.length_cons, List.range'_succ, wpOps_cons]
      have hi : ops[i]? = some o := by simpa using ho 0 (by simp)
      refine opG_sound hT hD hi h hd (R.ev_of_evR D _ _ _ _ h1) fun a' w' hr hb => ?_
      refine text_sound hT hD rest (i + 1) (fun j hj => ?_) h2 hr fun a2 w2 hr2 hb2 => hQ _ _ hr2 (hb.trans hb2)
      have := ho (j + 1) (by simpa using hj)
      rw [show i + 1 + j = i + (j + 1) by omega]
      simpa using this
end

end Go.Proofs.Ytabdjbkbfilhkaa.V
