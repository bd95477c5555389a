import Derived.Test.YtabdjbkbfilhkaaV23
namespace Go.Proofs.Ytabdjbkbfilhkaa.V
open Go Go.RowKit Go.ChangeShapes Go.WideShapes

inductive Told (α : Type) where
  | leaf (c : Bool) (a : α)
  | br (c : Bool) (t e : Told α)

def Told.val {α : Type} : Told α → Option α
  | .leaf c a => if c = true then some a else .none
  | .br c t e => if c = true then t.val else e.val

def Told.go {α ρ : Type} : Told α → (α → Option ρ) → Option ρ
  | .leaf c a, K => if c = true then K a else .none
  | .br c t e, K => if c = true then t.go K else e.go K

theorem Told.go_eq {α ρ : Type} (K : α → Option ρ) : ∀ t : Told α, t.go K = t.val.bind K
  | .leaf c a => by cases c <;> rfl
  | .br c t e => by
    cases c with
    | true => exact t.go_eq K
    | false => exact e.go_eq K

abbrev LoopTeller := Nat → List Slot → Option (Told (Ex × List Slot))

def subS (s : Slot) (b : Bool) : Slot :=
  match s.sv with
  | .val false [⟨.bool, fl, .b _⟩] => ⟨.val false [⟨.bool, fl, .b b⟩], s.v⟩
  | _ => s
def substC (σ : St) (x : Operand) (b : Bool) : St :=
  match x with
  | .tmp t => σ.set t (subS (σ t) b)
  | _ => σ

theorem substC_same {σ : St} {x : Operand} {p : Bool} (h : condOf σ x = some p) : substC σ x p = σ := by
  unfold substC
  split
  · rename_i t
    refine set_same ?_
    symm
    unfold subS
    split
    · rename_i fl q hsv
      unfold condOf at h
      simp only [hsv] at h
      split at h
      · simp only [TC.bool, Option.some.injEq] at h
        subst h
        rw [← hsv]
      · cases h
    · rfl
  · rfl

section
variable (T : Tab) (nt : Nat) (D : FuncId → List Arg → Option (Bool × Res)) (live : Nat → Live × Live) (lo : LoopTeller)

noncomputable def runT {ρ : Type} : Code → St → (Ex → St → Option ρ) → Option ρ
  | .skip, σ, K => K .normal σ
  | .region _ ops draw, σ, K => runRegion T nt D ops.toList draw σ (K .normal)
  | .seq a b, σ, K => runT a σ fun e σ' => match e with
    | .normal => runT b σ' K
    | e => K e σ'
  | .cond c a b, σ, K => (condOf σ c).bind fun p => if p = true then runT a (substC σ c true) K else runT b (substC σ c false) K
  | .block id c, σ, K => runT c σ fun e σ' => match e with
    | .exit id' => if id' = id then K .normal σ' else K (.exit id') σ'
    | e => K e σ'
  | .loop c, σ, K => (firstRegion c).bind fun r => (lo r (pack (live r).1 σ)).bind fun t => t.go fun p => K p.1 (unpack (live r).2 p.2)
  | .exit id, σ, K => K (.exit id) σ
  | .ret, σ, K => K .ret σ
  | _, _, _ => .none

noncomputable def round (c : Code) (L : Live × Live) (vs : List Slot) (K : Ex → List Slot → Option (Ex × List Slot)) : Option (Ex × List Slot) :=
  runT T nt D live lo c (unpack L.1 vs) fun e σ' => K e (match e with | .normal => pack L.1 σ' | _ => pack L.2 σ')

def leave (e : Ex) (vs : List Slot) : Option (Ex × List Slot) := some (e, vs)

def LoopTold (c : Code) (r : Nat) : Prop := ∀ s t res, lo r s = some t → t.val = some res → ∃ n, rounds (round T nt D live lo c (live r)) leave n s = some res

def LoopsOk : Code → Prop
  | .seq a b => LoopsOk a ∧ LoopsOk b
  | .cond _ a b => LoopsOk a ∧ LoopsOk b
  | .block _ c => LoopsOk c
  | .loop c => LoopsOk c ∧ ∀ r, firstRegion c = some r → LoopTold T nt D live lo c r
  | _ => True

def loopsOf : Code → List (Option Nat × Code)
  | .seq a b => loopsOf a ++ loopsOf b
  | .cond _ a b => loopsOf a ++ loopsOf b
  | .block _ c => loopsOf c
  | .loop c => (firstRegion c, c) :: loopsOf c
  | _ => []

theorem loopsOk_of : ∀ c : Code, (∀ p, p ∈ loopsOf c → ∀ r, p.1 = some r → LoopTold T nt D live lo p.2 r) → LoopsOk T nt D live lo c
  | .seq a b, h => ⟨loopsOk_of a fun p hp => h p (List.mem_append_left _ hp), loopsOk_of b fun p hp => h p (List.mem_append_right _ hp)⟩
  | .cond _ a b, h => ⟨loopsOk_of a fun p hp => h p (List.mem_append_left _ hp), loopsOk_of b fun p hp => h p (List.mem_append_right _ hp)⟩
  | .block _ c, h => loopsOk_of c h
  | .loop c, h => ⟨loopsOk_of c fun p hp => h p (List.mem_cons_of_mem _ hp), fun r hr => h (firstRegion c, c) List.mem_cons_self r hr⟩
  | .skip, _ => trivial
  | .region _ _ _, _ => trivial
  | .rangeFunc _ _ _ _, _ => trivial
  | .exit _, _ => trivial
  | .scope _, _ => trivial
  | .label _, _ => trivial
  | .goto _, _ => trivial
  | .ret, _ => trivial
  | .refuse _, _ => trivial
end

section
variable {P : Program} {T : Tab} {G : Nat → Prop} {base : Bs} {nt : Nat} {σ : St} {a : Act} {w w' : World} {D : FuncId → List Arg → Option (Bool × Res)} {Q : Exit → Act → World → Prop}

theorem told_sound {live : Nat → Live × Live} {lo : LoopTeller} (hm : P.follows .mixedOrders = true) (hT : TabOk P T) (hD : DOk P T D) :
    ∀ (c : Code), LoopsOk T nt D live lo c → ∀ {ρ : Type} {σ : St} {a : Act} {w : World} {KK : Ex → St → Option ρ} {r : ρ} {Q : Exit → Act → World → Prop}, runT T nt D live lo c σ KK = some r → Rel T G base nt σ a w →
      (∀ e σ' a' w', KK e σ' = some r → Rel T G base nt σ' a' w' → Bel base w w' → Q (exitOf e) a' w') → c.wp P Q a w
  | .skip, _, ρ, σ, a, w, KK, r, Q, he, h, hQ => wp_skip (hQ .normal σ a w he h (Bel.refl _ _))
  | .region id ops draw, _, ρ, σ, a, w, KK, r, Q, he, h, hQ => region_sound hm hT hD he h fun σ' a' w' hk hr hb => hQ .normal σ' a' w' hk hr hb
  | .seq x y, hl, ρ, σ, a, w, KK, r, Q, he, h, hQ => by
    refine wp_seq (told_sound hm hT hD x hl.1 he h fun e σ' a' w' hk hr hb => ?_)
    cases e with
    | normal => exact told_sound hm hT hD y hl.2 hk hr fun e σ2 a2 w2 hk2 hr2 hb2 => hQ e σ2 a2 w2 hk2 hr2 (hb.trans hb2)
    | exit id => exact hQ (.exit id) σ' a' w' hk hr hb
    | ret => exact hQ .ret σ' a' w' hk hr hb
  | .cond c x y, hl, ρ, σ, a, w, KK, r, Q, he, h, hQ => by
    simp only [runT] at he
    obtain ⟨p, h1, h2⟩ := Option.bind_eq_some_iff.1 he
    have hc := cond_sound h h1
    refine wp_cond_split hc (fun hp => ?_) (fun hp => ?_)
    · subst hp
      rw [if_pos rfl, substC_same h1] at h2
      exact told_sound hm hT hD x hl.1 h2 h hQ
    · subst hp
      rw [if_neg (by simp), substC_same h1] at h2
      exact told_sound hm hT hD y hl.2 h2 h hQ
  | .block id c, hl, ρ, σ, a, w, KK, r, Q, he, h, hQ => by
    simp only [runT] at he
    refine wp_block (told_sound hm hT hD c hl he h fun e σ' a' w' hk hr hb => ?_)
    cases e with
    | normal => exact hQ .normal σ' a' w' hk hr hb
    | ret => exact hQ .ret σ' a' w' hk hr hb
    | exit id' =>
      show Exit.inBlock id Q (.exit id') a' w'
      simp only [Exit.inBlock]
      simp only at hk
      split
      · rename_i hid
        rw [if_pos hid] at hk
        exact hQ .normal σ' a' w' hk hr hb
      · rename_i hid
        rw [if_neg hid] at hk
        exact hQ (.exit id') σ' a' w' hk hr hb
  | .loop c, hl, ρ, σ, a, w, KK, r, Q, he, h, hQ => by
    simp only [runT] at he
    obtain ⟨rg, hrg, he⟩ := Option.bind_eq_some_iff.1 he
    obtain ⟨tt, h0, h2⟩ := Option.bind_eq_some_iff.1 he
    rw [Told.go_eq] at h2
    obtain ⟨⟨ef, vf⟩, hv, h2⟩ := Option.bind_eq_some_iff.1 h2
    obtain ⟨N, h1⟩ := hl.2 rg hrg _ _ _ h0 hv
    refine wp_loop_n (fun n a' w' => ∃ s, rounds (round T nt D live lo c (live rg)) leave n s = some (ef, vf) ∧
      Rel T G base nt (unpack (live rg).1 s) a' w' ∧ Bel base w w') (n := N) ⟨_, h1, clean_rel _ h, Bel.refl _ _⟩ fun n a1 w1 hI => ?_
    obtain ⟨s, h3, h4, h5⟩ := hI
    cases n with
    | zero => cases h3
    | succ n =>
      simp only [rounds, round] at h3
      refine told_sound hm hT hD c hl.1 h3 h4 fun e σ' a' w' hk hr hb => ?_
      cases e with
      | normal => exact ⟨n, Nat.lt_succ_self n, _, hk, clean_rel _ hr, h5.trans hb⟩
      | exit id =>
        simp only [leave, Option.some.injEq, Prod.mk.injEq] at hk
        obtain ⟨rfl, rfl⟩ := hk
        exact hQ (.exit id) _ a' w' h2 (clean_rel _ hr) (h5.trans hb)
      | ret =>
        simp only [leave, Option.some.injEq, Prod.mk.injEq] at hk
        obtain ⟨rfl, rfl⟩ := hk
        exact hQ .ret _ a' w' h2 (clean_rel _ hr) (h5.trans hb)
  | .exit id, _, ρ, σ, a, w, KK, r, Q, he, h, hQ => wp_exit (hQ (.exit id) σ a w he h (Bel.refl _ _))
  | .ret, _, ρ, σ, a, w, KK, r, Q, he, h, hQ => wp_ret (hQ .ret σ a w he h (Bel.refl _ _))
  | .rangeFunc _ _ _ _, _, ρ, σ, a, w, KK, r, Q, he, h, hQ => by cases he
  | .scope _, _, ρ, σ, a, w, KK, r, Q, he, h, hQ => by cases he
  | .label _, _, ρ, σ, a, w, KK, r, Q, he, h, hQ => by cases he
  | .goto _, _, ρ, σ, a, w, KK, r, Q, he, h, hQ => by cases he
  | .refuse _, _, ρ, σ, a, w, KK, r, Q, he, h, hQ => by cases he
end

theorem runT_some {T : Tab} {nt : Nat} {D : FuncId → List Arg → Option (Bool × Res)} {live : Nat → Live × Live} {lo : LoopTeller} {ρ : Type} : ∀ {c : Code} {σ : St} {KK : Ex → St → Option ρ} {r : ρ}, runT T nt D live lo c σ KK = some r → ∃ e σ', KK e σ' = some r
  | .skip, σ, KK, r, he => ⟨_, _, he⟩
  | .region id ops draw, σ, KK, r, he => by
    simp only [runT, runRegion] at he
    cases draw with
    | true =>
      obtain ⟨l, σ', hs, hk⟩ := runOps_steps he
      split at hk
      · exact ⟨_, _, hk⟩
      · cases hk
    | false =>
      obtain ⟨σ', hk⟩ := runOpsN_some _ _ he
      exact ⟨_, _, hk⟩
  | .seq x y, σ, KK, r, he => by
    simp only [runT] at he
    obtain ⟨e, σ', hk⟩ := runT_some he
    cases e with
    | normal => exact runT_some hk
    | exit id => exact ⟨_, _, hk⟩
    | ret => exact ⟨_, _, hk⟩
  | .cond c x y, σ, KK, r, he => by
    simp only [runT] at he
    obtain ⟨p, _, h2⟩ := Option.bind_eq_some_iff.1 he
    split at h2
    · exact runT_some h2
    · exact runT_some h2
  | .block id c, σ, KK, r, he => by
    simp only [runT] at he
    obtain ⟨e, σ', hk⟩ := runT_some he
    cases e with
    | normal => exact ⟨_, _, hk⟩
    | ret => exact ⟨_, _, hk⟩
    | exit id' =>
      dsimp only at hk
      split at hk
      · exact ⟨_, _, hk⟩
      · exact ⟨_, _, hk⟩
  | .loop c, σ, KK, r, he => by
    simp only [runT] at he
    obtain ⟨rg, _, he⟩ := Option.bind_eq_some_iff.1 he
    obtain ⟨tt, _, h2⟩ := Option.bind_eq_some_iff.1 he
    rw [Told.go_eq] at h2
    obtain ⟨p, _, h2⟩ := Option.bind_eq_some_iff.1 h2
    exact ⟨_, _, h2⟩
  | .exit id, σ, KK, r, he => ⟨_, _, he⟩
  | .ret, σ, KK, r, he => ⟨_, _, he⟩
  | .rangeFunc _ _ _ _, _, _, _, he => by cases he
  | .scope _, _, _, _, he => by cases he
  | .label _, _, _, _, he => by cases he
  | .goto _, _, _, _, he => by cases he
  | .refuse _, _, _, _, he => by cases he

noncomputable def runF (T : Tab) (F : FuncId → Option Func) (D : FuncId → List Arg → Option (Bool × Res)) (live : FuncId → Nat → Live × Live) (f : FuncId) (lo : LoopTeller) (as : List Arg) : Option Res :=
  (F f).bind fun fn => fn.body.bind fun c =>
    if (Nat.ble as.length fn.ntmps && Nat.ble fn.ntmps gh) = false then .none else
    runT T fn.ntmps D (live f) lo c (argsSt as) fun e σ =>
      match e with
      | .exit _ => .none
      | _ => (resultsOf T σ fn.results.toList).bind (fitRes T fn.resultTypes.toList)

def FnLoops (T : Tab) (F : FuncId → Option Func) (D : FuncId → List Arg → Option (Bool × Res)) (live : FuncId → Nat → Live × Live) (f : FuncId) (lo : LoopTeller) : Prop :=
  ∀ fn c, F f = some fn → fn.body = some c → LoopsOk T fn.ntmps D (live f) lo c

def noLoops : LoopTeller := fun _ _ => .none
theorem noLoops_ok {T : Tab} {F : FuncId → Option Func} {D : FuncId → List Arg → Option (Bool × Res)} {live : FuncId → Nat → Live × Live} {f : FuncId} : FnLoops T F D live f noLoops :=
  fun _ c _ _ => loopsOk_of _ _ _ _ _ c fun _ _ _ _ _ _ _ h => by cases h

noncomputable def runFW (ow : Bool) (T : Tab) (F : FuncId → Option Func) (D : FuncId → List Arg → Option (Bool × Res)) (live : FuncId → Nat → Live × Live) (f : FuncId) (lo : LoopTeller) (a0 : Arg) (as : List Arg) : Option Res :=
  (F f).bind fun fn => fn.body.bind fun c =>
    if (Nat.ble (as.length + 1) fn.ntmps && Nat.ble fn.ntmps gh) = false then .none else
    runT T fn.ntmps D (live f) lo c (argsX ow a0 as) fun e σ =>
      match e with
      | .exit _ => .none
      | _ => ((resultsOf T σ fn.results.toList).bind (fitRes T fn.resultTypes.toList)).bind fun r =>
        if (fn.results.toList.map slotOf).contains gh = true then .none else
        match (σ gh).sv with
        | .gv cs => some ((true, cs) :: r)
        | _ => .none

def ext (D : FuncId → List Arg → Option (Bool × Res)) (f : FuncId) (S : List Arg → Option (Bool × Res)) : FuncId → List Arg → Option (Bool × Res) := fun g as => bif Nat.beq g f && !isMark as then S as else D g as
def extW (D : FuncId → List Arg → Option (Bool × Res)) (f : FuncId) (S : List Arg → Option (Bool × Res)) : FuncId → List Arg → Option (Bool × Res) := fun g as => bif Nat.beq g f && isMark as then S as.tail else D g as

section
variable {H : Type} {enc : TypeId × Value → H} {P : Program} {T : Tab} {w : World} {D : FuncId → List Arg → Option (Bool × Res)} {live : FuncId → Nat → Live × Live} {O : List TypeId}

theorem DOk.nil (hM : MethOk P T) : DOk P T fun _ _ => .none := ⟨fun _ _ _ h => (nomatch h), fun _ _ _ _ _ _ h => (nomatch h), hM⟩

theorem told_calls (hm : P.follows .mixedOrders = true) (hT : TabOk P T) (hD : DOk P T D) {f : FuncId} {lo : LoopTeller} (hlo : FnLoops T (fun f => P.funcs[f]?) D live f lo) {as : List Arg} {r : Res}
    (he : runF T (fun f => P.funcs[f]?) D live f lo as = some r) {S : Nat → Prop} {vals : List Value} (hS : Fit T w S) (hargs : ArgsRel T w S as vals) :
    (∃ fn c, P.funcs[f]? = some fn ∧ fn.body = some c) ∧ Calls P f vals.toArray w fun e w' => ∃ v, e = .returned v ∧ ∃ fq, ResRel T w' (fun b => b < w'.heap.size ∧ (S b ∨ w.heap.size ≤ b) ∧ b ∉ fq) r v fq ∧ fq.Nodup ∧ (∀ b, b ∈ fq → w.heap.size ≤ b ∧ b < w'.heap.size) ∧ Below w.heap.size w w' := by
  unfold runF at he
  obtain ⟨fn, hf, he⟩ := Option.bind_eq_some_iff.1 he
  obtain ⟨c, hb, he⟩ := Option.bind_eq_some_iff.1 he
  split at he
  · cases he
  · rename_i hle
    simp only [Bool.not_eq_false, Bool.and_eq_true] at hle
    have hle' : as.length ≤ fn.ntmps := Nat.le_of_ble_eq_true hle.1
    have hlg : fn.ntmps ≤ gh := Nat.le_of_ble_eq_true hle.2
    obtain ⟨pv, hent⟩ := enter_rel hS hargs hle' hlg
    refine ⟨⟨fn, c, hf, hb⟩, calls_of_wp hf hb (told_sound hm hT hD c (hlo fn c hf hb) he hent fun e σ' a' w' hk hr hbel => ?_)⟩
    have hbel := hbel.below
    have fin : (resultsOf T σ' fn.results.toList).bind (fitRes T fn.resultTypes.toList) = some r → a'.defers = [] ∧ ∃ v, (results fn a'.tmps).run P w' = .ok v w' ∧ ∃ v', Ending.returned v = .returned v' ∧ ∃ fq, ResRel T w' (fun b => b < w'.heap.size ∧ (S b ∨ w.heap.size ≤ b) ∧ b ∉ fq) r v' fq ∧ fq.Nodup ∧ (∀ b, b ∈ fq → w.heap.size ≤ b ∧ b < w'.heap.size) ∧ Below w.heap.size w w' := by
      intro hres0
      obtain ⟨r0, hres, hfit⟩ := Option.bind_eq_some_iff.1 hres0
      obtain ⟨v, fq, q1, q2, q3, q4⟩ := results_sound hT hr hres
      obtain ⟨fp, us, blk, hF⟩ := hr
      exact ⟨hF.defers, v, q1, v, rfl, fq, q2.fit hfit, q3, q4, hbel⟩
    cases e with
    | exit id => cases hk
    | normal => exact fin hk
    | ret => exact fin hk

theorem told_callsW {ow : Bool} (hm : P.follows .mixedOrders = true) (hT : TabOk P T) (hD : DOk P T D) {f : FuncId} {lo : LoopTeller} (hlo : FnLoops T (fun f => P.funcs[f]?) D live f lo) {a0 : Arg} {as : List Arg} {r : Res}
    (he : runFW ow T (fun f => P.funcs[f]?) D live f lo a0 as = some r) {S : Nat → Prop} {us0 : List Value} {fp0 : List Nat} {vals : List Value} (hS : FitW T w S fp0) (h0 : CellsRel T w S (ownCells a0.2) us0 fp0) (hl0 : a0.1 = false → a0.2.length = 1) (hnd0 : fp0.Nodup) (hdj : ∀ b, b ∈ fp0 → ¬ S b)
    (hargs : ArgsRel T w S as vals) :
    (∃ fn c, P.funcs[f]? = some fn ∧ fn.body = some c) ∧ ∃ ds r', r = (true, ds) :: r' ∧ Calls P f (mkv a0.1 us0 :: vals).toArray w fun e w' => ∃ v, e = .returned v ∧
      ∃ (S1 : Nat → Prop) (fp' fq : List Nat), CellsRel T w' S1 ds us0 fp' ∧ ResRel T w' S1 r' v fq ∧ (fp' ++ fq).Nodup ∧ (∀ b, b ∈ fp' ++ fq → (b ∈ fp0 ∨ w.heap.size ≤ b) ∧ b < w'.heap.size) ∧ Chg w w' fp0 := by
  unfold runFW at he
  obtain ⟨fn, hf, he⟩ := Option.bind_eq_some_iff.1 he
  obtain ⟨c, hb, he⟩ := Option.bind_eq_some_iff.1 he
  split at he
  · cases he
  · rename_i hle
    simp only [Bool.not_eq_false, Bool.and_eq_true] at hle
    have hle' : as.length + 1 ≤ fn.ntmps := Nat.le_of_ble_eq_true hle.1
    have hlg : fn.ntmps ≤ gh := Nat.le_of_ble_eq_true hle.2
    have hent := enter_relX (ow := ow) hS h0 hl0 hnd0 hdj hargs hle' hlg
    refine ⟨⟨fn, c, hf, hb⟩, ?_⟩
    have hform : ∃ ds r', r = (true, ds) :: r' := by
      have key : ∀ (σ' : St), ((resultsOf T σ' fn.results.toList).bind (fitRes T fn.resultTypes.toList)).bind (fun r => if (fn.results.toList.map slotOf).contains gh = true then .none else
        match (σ' gh).sv with
        | .gv cs => some ((true, cs) :: r)
        | _ => .none) = some r → ∃ ds r', r = (true, ds) :: r' := by
        intro σ' hk
        obtain ⟨r', _, hk⟩ := Option.bind_eq_some_iff.1 hk
        split at hk
        · cases hk
        · split at hk
          · simp only [Option.some.injEq] at hk
            exact ⟨_, _, hk.symm⟩
          · cases hk
      obtain ⟨e, σ', hk⟩ := runT_some he
      cases e with
      | exit id => cases hk
      | normal => exact key σ' hk
      | ret => exact key σ' hk
    obtain ⟨ds, r', rfl⟩ := hform
    refine ⟨ds, r', rfl, calls_of_wp hf hb (told_sound hm hT hD c (hlo fn c hf hb) he hent fun e σ' a' w' hk hr hbel => ?_)⟩
    have fin : ((resultsOf T σ' fn.results.toList).bind (fitRes T fn.resultTypes.toList)).bind (fun r => if (fn.results.toList.map slotOf).contains gh = true then .none else
        match (σ' gh).sv with
        | .gv cs => some ((true, cs) :: r)
        | _ => .none) = some ((true, ds) :: r') → a'.defers = [] ∧ ∃ v, (results fn a'.tmps).run P w' = .ok v w' ∧ ∃ v', Ending.returned v = .returned v' ∧ ∃ (S1 : Nat → Prop) (fp' fq : List Nat), CellsRel T w' S1 ds us0 fp' ∧ ResRel T w' S1 r' v' fq ∧ (fp' ++ fq).Nodup ∧ (∀ b, b ∈ fp' ++ fq → (b ∈ fp0 ∨ w.heap.size ≤ b) ∧ b < w'.heap.size) ∧ Chg w w' fp0 := by
      intro hres0
      obtain ⟨r1, hres1, hk⟩ := Option.bind_eq_some_iff.1 hres0
      obtain ⟨r0, hres, hfit⟩ := Option.bind_eq_some_iff.1 hres1
      clear hres0 hres1
      split at hk
      · cases hk
      · rename_i hng
        split at hk
        · rename_i cs hsg
          simp only [Option.some.injEq, List.cons.injEq, Prod.mk.injEq, true_and] at hk
          obtain ⟨rfl, rfl⟩ := hk
          obtain ⟨fp, us, blk, hF⟩ := hr
          unfold resultsOf at hres
          split at hres
          · rename_i hdist
            obtain ⟨uw, fq, q1, q2, q3, q4, q5⟩ := results_list (P := P) hT hF hdist hres
            have hgs := hF.slot gh
            rw [hsg] at hgs
            have hgs : CellsRel T w' (Sh w' fp []) cs (us gh) (fp gh) := hgs
            have hus : us gh = us0 := hF.gus
            rw [hus] at hgs
            have hsd : (σ' gh).sv ≠ .dead := by rw [hsg]; exact SV.noConfusion
            refine ⟨hF.defers, _, results_run q1, _, rfl, Sh w' fp [], fp gh, fq, hgs, (res_of_tup q2 q3).fit hfit, List.nodup_append.2 ⟨hF.nodup gh, q5, fun x hx y hy e => ?_⟩, fun b hb => ?_, hbel.chg⟩
            · subst e
              obtain ⟨n, k1, k2, _⟩ := q4 x hy
              have hne : gh ≠ n := fun e => hng (by rw [← e] at k1; simpa using k1)
              exact hF.disj gh n hne x hx k2
            · rcases List.mem_append.1 hb with hb | hb
              · exact ⟨hF.lo gh b (.inl hsd) hb, hF.lt gh b hb⟩
              · obtain ⟨n, _, k2, k3⟩ := q4 b hb
                exact ⟨hF.lo n b (.inl k3) k2, hF.lt n b k2⟩
          · cases hres
        · cases hk
    cases e with
    | exit id => cases hk
    | normal => exact fin hk
    | ret => exact fin hk

theorem DOk.ext (hm : P.follows .mixedOrders = true) (hT : TabOk P T) (hN : NamesOk P) (hD : DOk P T D) {D' : FuncId → List Arg → Option (Bool × Res)} (hD' : DOk P T D') {f : FuncId} {lo : LoopTeller} (hlo : FnLoops T (fun f => P.funcs[f]?) D' live f lo) {S : List Arg → Option (Bool × Res)}
    (he : ∀ as r, S as = some (true, r) → runF T (fun f => P.funcs[f]?) D' live f lo as = some r) : DOk P T (ext D f S) := by
  refine ⟨fun g as r hr => ?_, fun g a0 as gg ds r hr => hD.wri g a0 as gg ds r ?_, hD.meth⟩
  · unfold V.ext at hr
    cases hg : (Nat.beq g f && !isMark as) with
    | false => rw [hg] at hr; exact hD.plain g as r hr
    | true =>
      rw [hg] at hr
      rw [Bool.and_eq_true] at hg
      have hgf := Nat.eq_of_beq_eq_true hg.1
      subst hgf
      intro w S' vals hS hargs o a next Q hnext
      obtain ⟨⟨fn, c, hf, hb⟩, hcall⟩ := told_calls hm hT hD' hlo (he as r hr) hS hargs
      have hrun : (callFunc g vals.toArray).run P w = .ok (.enter g vals.toArray) w := by
        have hn : ¬ fn.name = "runtime.NumGoroutine" := by simpa using hN g fn hf
        simp [callFunc, hf, hn, hb]
      rw [hrun, Oper.upon_enter]
      refine hcall.mono fun e w' he => ?_
      obtain ⟨v, rfl, h⟩ := he
      exact hnext v w' h
  · unfold V.ext at hr
    have : (Nat.beq g f && !isMark (mark :: a0 :: as)) = false := by rw [show isMark (mark :: a0 :: as) = true from rfl]; simp
    rw [this] at hr
    exact hr

theorem DOk.extW {ow : Bool} (hm : P.follows .mixedOrders = true) (hT : TabOk P T) (hN : NamesOk P) (hD : DOk P T D) {D' : FuncId → List Arg → Option (Bool × Res)} (hD' : DOk P T D') {f : FuncId} {lo : LoopTeller} (hlo : FnLoops T (fun f => P.funcs[f]?) D' live f lo) {S : List Arg → Option (Bool × Res)}
    (he : ∀ a0 as r, S (a0 :: as) = some (true, r) → runFW ow T (fun f => P.funcs[f]?) D' live f lo a0 as = some r) : DOk P T (extW D f S) := by
  refine ⟨fun g as r hr => ?_, fun g a0 as gg ds r hr => ?_, hD.meth⟩
  · unfold V.extW at hr
    cases hg : (Nat.beq g f && isMark as) with
    | false => rw [hg] at hr; exact hD.plain g as r hr
    | true =>
      rw [Bool.and_eq_true] at hg
      exact fun w S' vals hS hargs => (hargs.notMark hg.2).elim
  · unfold V.extW at hr
    cases hg : (Nat.beq g f && isMark (mark :: a0 :: as)) with
    | false => rw [hg] at hr; exact hD.wri g a0 as gg ds r hr
    | true =>
      rw [hg] at hr
      rw [Bool.and_eq_true] at hg
      have hgf := Nat.eq_of_beq_eq_true hg.1
      subst hgf
      have hr : S (a0 :: as) = some (true, (gg, ds) :: r) := hr
      intro w S' us0 fp0 vals hS h0 hl0 hnd0 hdj hargs o a next Q hnext
      obtain ⟨⟨fn, c, hf, hb⟩, ds', r', heq, hcall⟩ := told_callsW hm hT hD' hlo (he a0 as _ hr) hS h0 hl0 hnd0 hdj hargs
      simp only [List.cons.injEq, Prod.mk.injEq] at heq
      obtain ⟨⟨_, rfl⟩, rfl⟩ := heq
      have hrun : (callFunc g (mkv a0.1 us0 :: vals).toArray).run P w = .ok (.enter g (mkv a0.1 us0 :: vals).toArray) w := by
        have hn : ¬ fn.name = "runtime.NumGoroutine" := by simpa using hN g fn hf
        simp [callFunc, hf, hn, hb]
      rw [hrun, Oper.upon_enter]
      refine hcall.mono fun e w' he => ?_
      obtain ⟨v, rfl, h⟩ := he
      exact hnext v w' h

end

end Go.Proofs.Ytabdjbkbfilhkaa.V
