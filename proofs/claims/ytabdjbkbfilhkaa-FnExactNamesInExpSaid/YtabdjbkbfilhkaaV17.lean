import Derived.Test.YtabdjbkbfilhkaaV16
namespace Go.Proofs.Ytabdjbkbfilhkaa.V
open Go Go.RowKit

abbrev Rec := List (Ws × List Nat)
def wAt (l : Rec) (i : Nat) : Ws := (l.getD i ([], [])).1
def rAt (l : Rec) (i : Nat) : List Nat := (l.getD i ([], [])).2
def dom (ws : Ws) : List Nat := ws.map (·.1)

section
variable {P : Program} {T : Tab} {G : Nat → Prop} {base : Bs} {nt : Nat} {σ : St} {a : Act} {w w' : World} {D : FuncId → List Arg → Option (Bool × Res)} {K : Act → World → Prop} {Q : Exit → Act → World → Prop} {o : Oper}

def seq (l : Rec) (L : Nat → Bool) (σ : St) : Nat → St
  | 0 => σ
  | i + 1 => if L i = true then (seq l L σ i).setAll (wAt l i) else seq l L σ i

theorem seq_cons {ws : Ws} {rs : List Nat} {l : Rec} {σ : St} : ∀ i, seq ((ws, rs) :: l) (fun _ => true) σ (i + 1) = seq l (fun _ => true) (σ.setAll ws) i
  | 0 => rfl
  | i + 1 => by
    rw [seq, seq_cons i]
    rfl

theorem seq_congr {l : Rec} {L L' : Nat → Bool} {σ : St} : ∀ i, (∀ k, k < i → L k = L' k) → seq l L σ i = seq l L' σ i
  | 0, _ => rfl
  | i + 1, h => by rw [seq, seq, h i (by omega), seq_congr i fun k hk => h k (by omega)]

theorem seq_out {l : Rec} {L : Nat → Bool} {σ : St} {n i : Nat} : ∀ d, (∀ k, i ≤ k → k < i + d → L k = true → n ∉ dom (wAt l k)) → (seq l L σ (i + d)) n = (seq l L σ i) n
  | 0, _ => rfl
  | d + 1, h => by
    rw [show i + (d + 1) = (i + d) + 1 by omega, seq]
    split
    · rename_i hL
      rw [setAll_out (h (i + d) (by omega) (by omega) hL), seq_out d fun k h1 h2 => h k h1 (by omega)]
    · exact seq_out d fun k h1 h2 => h k h1 (by omega)

theorem seq_full {l : Rec} {L : Nat → Bool} {σ : St} {n : Nat} : ∀ i, (∀ k, k < i → n ∈ dom (wAt l k) → L k = true) → (seq l L σ i) n = (seq l (fun _ => true) σ i) n
  | 0, _ => rfl
  | i + 1, h => by
    have ih := seq_full (l := l) (L := L) (σ := σ) (n := n) i fun k hk => h k (by omega)
    rw [seq, seq, if_pos rfl]
    by_cases hL : L i = true
    · rw [if_pos hL]; exact setAll_at _ _ ih
    · rw [if_neg hL, setAll_out (fun hm => hL (h i (by omega) hm))]; exact ih

theorem setAll_comm {σ : St} {ws vs : Ws} (h : ∀ n, n ∈ dom ws → n ∉ dom vs) : (σ.setAll ws).setAll vs = (σ.setAll vs).setAll ws := by
  funext n
  by_cases hn : n ∈ dom ws
  · rw [setAll_out (h n hn)]; exact setAll_in ws n hn
  · rw [setAll_out (ws := ws) hn]; exact setAll_at vs n (setAll_out hn)

theorem seq_insert {l : Rec} {L : Nat → Bool} {σ : St} {i : Nat} (hi : L i = false) : ∀ d, (∀ k, i < k → k < i + 1 + d → L k = true → ∀ n, n ∈ dom (wAt l i) → n ∉ dom (wAt l k)) →
    seq l (fun k => L k || k == i) σ (i + 1 + d) = (seq l L σ (i + 1 + d)).setAll (wAt l i)
  | 0, _ => by
    rw [Nat.add_zero, seq, seq, if_pos (by simp), if_neg (by rw [hi]; simp), seq_congr i (L := fun k => L k || k == i) (L' := L) fun k hk => by
      have : (k == i) = false := by simp; omega
      simp [this]]
  | d + 1, h => by
    have ih := seq_insert (l := l) (σ := σ) hi d fun k h1 h2 => h k h1 (by omega)
    rw [show i + 1 + (d + 1) = (i + 1 + d) + 1 by omega, seq, seq]
    have hne : (i + 1 + d == i) = false := by simp; omega
    by_cases hL : L (i + 1 + d) = true
    · rw [if_pos (by simp [hL]), if_pos hL, ih, setAll_comm (h (i + 1 + d) (by omega) (by omega) hL)]
    · rw [if_neg (by simp [hne]; simpa using hL), if_neg hL, ih]

theorem steps_at {all : List Oper} : ∀ {ops : List Oper} {σ σ' : St} {l : Rec}, V.Steps T nt D all ops σ l σ' →
    l.length = ops.length ∧ seq l (fun _ => true) σ l.length = σ' ∧ ∀ (j : Nat) (o : Oper), ops[j]? = some o → (∀ d, o.dst = some d → d < nt) ∧ ∃ sub, (opG T all o).evR D (seq l (fun _ => true) σ j) [] = some ((wAt l j, sub), rAt l j)
  | [], σ, σ', l, h => by
    cases h
    exact ⟨rfl, rfl, fun j o h => by simp at h⟩
  | o :: rest, σ, σ', l, h => by
    cases h with
    | cons hd h1 h2 =>
      obtain ⟨q1, q2, q3⟩ := steps_at h2
      refine ⟨by simp [q1], by rw [List.length_cons, seq_cons]; exact q2, fun j o' hj => ?_⟩
      cases j with
      | zero =>
        simp only [List.getElem?_cons_zero, Option.some.injEq] at hj
        subst hj
        exact ⟨hd, _, h1⟩
      | succ j =>
        simp only [List.getElem?_cons_succ] at hj
        rw [seq_cons]
        exact q3 j o' hj

/-! ### What comes before -/
def edgesOf (o : Oper) : List Nat := (o.after.toList.filter (Region.binds .any ·)).map (·.on)

theorem mem_edges {x : Nat} : x ∈ edgesOf o ↔ ∃ e, e ∈ o.after ∧ Region.binds .any e = true ∧ e.on = x := by
  simp [edgesOf, and_assoc]

theorem befores_spec : ∀ (rest : List Oper) (i : Nat) (acc : List (List Nat)), acc.length = i →
    ∃ bs, befores rest i acc = acc.reverse ++ bs ∧ bs.length = rest.length ∧ ∀ j o, rest[j]? = some o → ∀ x, x ∈ bs.getD j [] → ∃ y, y ∈ edgesOf o ∧ (x = y ∨ (y < i + j ∧ x ∈ (acc.reverse ++ bs).getD y []))
  | [], i, acc, _ => ⟨[], by simp [befores], rfl, fun j o h => by simp at h⟩
  | o :: rest, i, acc, hi => by
    simp only [befores]
    obtain ⟨bs, h1, h2, h3⟩ := befores_spec rest (i + 1) (((o.after.toList.filter (Region.binds .any ·)).flatMap fun e => e.on :: (acc.reverse.getD e.on [])) :: acc) (by simp [hi])
    refine ⟨((o.after.toList.filter (Region.binds .any ·)).flatMap fun e => e.on :: (acc.reverse.getD e.on [])) :: bs, by rw [h1]; simp, by simp [h2], fun j o' hj x hx => ?_⟩
    cases j with
    | zero =>
      simp only [List.getElem?_cons_zero, Option.some.injEq] at hj
      subst hj
      simp only [List.getD_cons_zero, List.mem_flatMap] at hx
      obtain ⟨e, he, hx⟩ := hx
      refine ⟨e.on, List.mem_map_of_mem he, ?_⟩
      rcases List.mem_cons.1 hx with hx | hx
      · exact .inl hx
      · refine .inr ?_
        have hlt : e.on < acc.reverse.length := by
          rcases Nat.lt_or_ge e.on acc.reverse.length with h | h
          · exact h
          · rw [List.getD_eq_getElem?_getD, List.getElem?_eq_none h] at hx; cases hx
        refine ⟨by rw [List.length_reverse, hi] at hlt; omega, ?_⟩
        rw [List.getD_eq_getElem?_getD, List.getElem?_append_left hlt, ← List.getD_eq_getElem?_getD]
        exact hx
    | succ j =>
      simp only [List.getElem?_cons_succ] at hj
      simp only [List.getD_cons_succ] at hx
      obtain ⟨y, hy, hx⟩ := h3 j o' hj x hx
      refine ⟨y, hy, hx.imp id fun ⟨q1, q2⟩ => ⟨by omega, ?_⟩⟩
      simpa using q2

theorem befores_closed {ops : List Oper} {L : Nat → Bool} (hL : ∀ (j : Nat) (o : Oper), ops[j]? = some o → L j = true → ∀ x, x ∈ edgesOf o → L x = true) :
    ∀ (j : Nat) (o : Oper), ops[j]? = some o → (∀ x, x ∈ edgesOf o → L x = true) → ∀ x, x ∈ (befores ops 0 []).getD j [] → L x = true := by
  obtain ⟨bs, h1, h2, h3⟩ := befores_spec ops 0 [] rfl
  simp only [List.reverse_nil, List.nil_append, Nat.zero_add] at h1 h3
  rw [h1]
  intro j
  induction j using Nat.strongRecOn with
  | ind j ih =>
    intro o ho he x hx
    obtain ⟨y, hy, hxy⟩ := h3 j o ho x hx
    rcases hxy with rfl | ⟨hlt, hx⟩
    · exact he _ hy
    · have hyl : y < ops.length := by
        have := (List.getElem?_eq_some_iff.1 ho).1; omega
      exact ih y hlt _ (List.getElem?_eq_getElem hyl) (hL y _ (List.getElem?_eq_getElem hyl) (he y hy)) x hx

theorem no_clash {p q : Foot} (h : p.clash q = false) : (∀ n, n ∈ p.ws → n ∉ q.rs ∧ n ∉ q.ws) ∧ ∀ n, n ∈ q.ws → n ∉ p.rs := by
  unfold Foot.clash at h
  simp only [Bool.or_eq_false_iff, List.any_eq_false, List.contains_eq_mem, decide_eq_true_eq, Bool.or_eq_true, not_or] at h
  exact ⟨fun n hn => h.1 n hn, fun n hn => h.2 n hn⟩

theorem feet_at (l : Rec) (j : Nat) : (footsOf l).getD j ⟨[], []⟩ = ⟨rAt l j, dom (wAt l j)⟩ := by
  unfold footsOf rAt wAt dom
  rw [List.getD_eq_getElem?_getD, List.getElem?_map, List.getD_eq_getElem?_getD]
  cases l[j]? <;> rfl

structure OrdOk (ops : List Oper) (l : Rec) : Prop where
  back : ∀ (j : Nat) (o : Oper), ops[j]? = some o → ∀ x, x ∈ edgesOf o → x < j
  ord : ∀ i j, i < j → j < ops.length → (⟨rAt l i, dom (wAt l i)⟩ : Foot).clash ⟨rAt l j, dom (wAt l j)⟩ = true → i ∈ (befores ops 0 []).getD j []

theorem ordered_ok {ops : List Oper} {l : Rec} (h : ordered ops (footsOf l) = true) : OrdOk ops l := by
  unfold ordered at h
  simp only [Bool.and_eq_true] at h
  obtain ⟨h1, h2⟩ := h
  refine ⟨fun j o ho x hx => ?_, fun i j hij hj hc => ?_⟩
  · unfold backward at h1
    rw [List.all_eq_true] at h1
    obtain ⟨e, he, hb, rfl⟩ := mem_edges.1 hx
    have hm : (o, j) ∈ ops.zipIdx := by
      rw [List.mk_mem_zipIdx_iff_getElem?]; exact ho
    have := h1 (o, j) hm
    rw [List.all_eq_true] at this
    have := this e (by simpa using he)
    rw [hb] at this
    simpa using this
  · rw [List.all_eq_true] at h2
    have := h2 j (List.mem_range.2 hj)
    rw [List.all_eq_true] at this
    have := this i (List.mem_range.2 hij)
    rw [feet_at, feet_at, hc] at this
    simpa using this

structure Done (ops : Array Oper) (listed : Array Bool) : Prop where
  size : listed.size = ops.size
  closed : ∀ (j : Nat) (o : Oper), ops[j]? = some o → listed.getD j false = true → ∀ x, x ∈ edgesOf o → listed.getD x false = true

def left (ops : Array Oper) (listed : Array Bool) : List Nat := (List.range ops.size).filter fun i => !listed.getD i false

theorem getD_set (listed : Array Bool) (i k : Nat) (hi : i < listed.size) : (listed.setIfInBounds i true).getD k false = (listed.getD k false || k == i) := by
  by_cases e : i = k
  · subst e
    simp [Array.getD_eq_getD_getElem?, hi]
  · have : (k == i) = false := by simp; omega
    rw [getD_set_ne false e, this, Bool.or_false]

theorem all_done {ops : Array Oper} {listed : Array Bool} {l : Rec} (ho : OrdOk ops.toList l) (hs : listed.size = ops.size) (hr : Region.ready .any ops listed = []) : ∀ j, j < ops.size → listed.getD j false = true := by
  intro j
  induction j using Nat.strongRecOn with
  | ind j ih =>
    intro hj
    rcases hb : listed.getD j false with _ | _
    · exfalso
      have hmem : j ∈ Region.ready .any ops listed := by
        rw [mem_ready]
        have hjs : j < listed.size := by omega
        refine ⟨by rw [Array.getD_eq_getD_getElem?, Array.getElem?_eq_getElem hjs] at hb ⊢; exact hb, ops[j], Array.getElem?_eq_getElem hj, fun e he hbd => ?_⟩
        have hx := ho.back j ops[j] (by rw [Array.getElem?_toList, Array.getElem?_eq_getElem hj]) e.on (mem_edges.2 ⟨e, he, hbd, rfl⟩)
        exact ih e.on hx (by omega)
      rw [hr] at hmem
      cases hmem
    · rfl

theorem any_sound {ops : Array Oper} {l : Rec} {σ σ' : St} {w0 : World} (hT : TabOk P T) (hD : DOk P T D) (hst : V.Steps T nt D ops.toList ops.toList σ l σ') (ho : OrdOk ops.toList l) (hQ : ∀ a' w', Rel T G base nt σ' a' w' → Bel base w0 w' → Q .normal a' w') :
    ∀ (fuel : Nat) (listed : Array Bool) (a : Act) (w : World), Done ops listed → (left ops listed).length ≤ fuel → Rel T G base nt (seq l (fun k => listed.getD k false) σ l.length) a w → Bel base w0 w → wpAny P .any ops Q fuel listed a w := by
  obtain ⟨hlen, hfin, hat⟩ := steps_at hst
  have hlen' : l.length = ops.size := by rw [hlen]; simp
  have hdone : ∀ (listed : Array Bool) (a : Act) (w : World), Done ops listed → Region.ready .any ops listed = [] → Rel T G base nt (seq l (fun k => listed.getD k false) σ l.length) a w → Bel base w0 w → Q .normal a w := by
    intro listed a w hd hr hrel hb
    refine hQ a w ?_ hb
    rw [← hfin]
    have := all_done ho hd.size hr
    rw [seq_congr (L' := fun _ => true) l.length fun k hk => this k (by omega)] at hrel
    exact hrel
  intro fuel
  induction fuel with
  | zero =>
    intro listed a w hd hl hrel hb
    have hr : Region.ready .any ops listed = [] := by
      have hnil : left ops listed = [] := List.eq_nil_of_length_eq_zero (by omega)
      apply List.eq_nil_iff_forall_not_mem.2
      intro j hj
      obtain ⟨h1, o, h2, _⟩ := mem_ready.1 hj
      have hjs : j < ops.size := (Array.getElem?_eq_some_iff.1 h2).1
      have : j ∈ left ops listed := by
        unfold left
        rw [List.mem_filter]
        refine ⟨List.mem_range.2 hjs, ?_⟩
        have hjs' : j < listed.size := by have := hd.size; omega
        rw [Array.getD_eq_getD_getElem?, Array.getElem?_eq_getElem hjs'] at h1 ⊢
        simpa using h1
      rw [hnil] at this
      cases this
    exact ⟨hr, hdone listed a w hd hr hrel hb⟩
  | succ fuel ih =>
    intro listed a w hd hl hrel hb
    refine ⟨fun hr => hdone listed a w hd hr hrel hb, fun i hi => ?_⟩
    obtain ⟨h1, o, h2, h3⟩ := mem_ready.1 hi
    have his : i < ops.size := (Array.getElem?_eq_some_iff.1 h2).1
    have his' : i < listed.size := by have := hd.size; omega
    have hLi : listed.getD i false = false := by
      rw [Array.getD_eq_getD_getElem?, Array.getElem?_eq_getElem his'] at h1 ⊢
      simpa using h1
    have h2' : ops.toList[i]? = some o := by rw [Array.getElem?_toList]; exact h2
    have hcl : ∀ (j : Nat) (o : Oper), ops.toList[j]? = some o → listed.getD j false = true → ∀ x, x ∈ edgesOf o → listed.getD x false = true := fun j o hj => hd.closed j o (by rw [Array.getElem?_toList] at hj; exact hj)
    have hbc := befores_closed (L := fun k => listed.getD k false) hcl
    have hedge : ∀ x, x ∈ edgesOf o → listed.getD x false = true := fun x hx => by
      obtain ⟨e, he, hbd, rfl⟩ := mem_edges.1 hx
      exact h3 e he hbd
    -- later ones that are done touch nothing of this one
    have hlater : ∀ k, i < k → k < ops.size → listed.getD k false = true → (⟨rAt l i, dom (wAt l i)⟩ : Foot).clash ⟨rAt l k, dom (wAt l k)⟩ = false := by
      intro k hk hks hLk
      rcases hc : (⟨rAt l i, dom (wAt l i)⟩ : Foot).clash ⟨rAt l k, dom (wAt l k)⟩ with _ | _
      · rfl
      · exfalso
        have hm := ho.ord i k hk (by simpa using hks) hc
        have hok : ops.toList[k]? = some ops[k] := by rw [Array.getElem?_toList, Array.getElem?_eq_getElem hks]
        have := hbc k ops[k] hok (hcl k _ hok hLk) i hm
        rw [hLi] at this
        cases this
    have hearly : ∀ k, k < i → (⟨rAt l k, dom (wAt l k)⟩ : Foot).clash ⟨rAt l i, dom (wAt l i)⟩ = true → listed.getD k false = true := fun k hk hc =>
      hbc i o h2' hedge k (ho.ord k i hk (by simpa using his) hc)
    obtain ⟨hdst, sub, hev⟩ := hat i o h2'
    have hagree : ∀ n, n ∈ rAt l i → (seq l (fun k => listed.getD k false) σ l.length) n = (seq l (fun _ => true) σ i) n := by
      intro n hn
      have e1 := seq_out (l := l) (L := fun k => listed.getD k false) (σ := σ) (n := n) (i := i) (l.length - i) (fun k hk1 hk2 hLk hm => by
        rcases Nat.lt_or_ge i k with hlt | hge
        · have := (no_clash (hlater k hlt (by omega) hLk)).2 n hm
          exact this hn
        · have : k = i := by omega
          subst this
          rw [hLi] at hLk; cases hLk)
      rw [show i + (l.length - i) = l.length by omega] at e1
      rw [e1]
      refine seq_full i fun k hk hm => ?_
      rcases hc : (⟨rAt l k, dom (wAt l k)⟩ : Foot).clash ⟨rAt l i, dom (wAt l i)⟩ with _ | _
      · exact absurd hn ((no_clash hc).1 n hm).1
      · exact hearly k hk hc
    have hev' : (opG T ops.toList o).ev D (seq l (fun k => listed.getD k false) σ l.length) = some (wAt l i, sub) :=
      R.ev_of_evR D _ _ _ _ (((R.evR_frame D _ _ _ _ hev).2) hagree)
    refine opG_sound hT hD h2 hrel hdst hev' fun a' w' hrel' hb' => ?_
    have hL' : (fun k => (listed.setIfInBounds i true).getD k false) = fun k => listed.getD k false || k == i := by
      funext k; exact getD_set listed i k his'
    refine ih (listed.setIfInBounds i true) a' w' ⟨by simp [hd.size], fun j o' hj hLj x hx => ?_⟩ ?_ ?_ (hb.trans hb')
    · rw [getD_set _ _ _ his'] at hLj ⊢
      simp only [Bool.or_eq_true, beq_iff_eq] at hLj ⊢
      rcases hLj with hLj | rfl
      · exact .inl (hd.closed j o' hj hLj x hx)
      · rw [h2] at hj
        cases hj
        exact .inl (hedge x hx)
    · have hlt : (left ops (listed.setIfInBounds i true)).length < (left ops listed).length := by
        have hsub : left ops (listed.setIfInBounds i true) = (left ops listed).filter fun k => !(k == i) := by
          unfold left
          rw [List.filter_filter]
          apply List.filter_congr
          intro k _
          rw [getD_set _ _ _ his']
          cases listed.getD k false <;> simp
        rw [hsub, List.length_filter_lt_length_iff_exists]
        refine ⟨i, ?_, by simp⟩
        unfold left
        rw [List.mem_filter]
        exact ⟨List.mem_range.2 his, by rw [hLi]; rfl⟩
      omega
    · rw [hL']
      have hins := seq_insert (l := l) (L := fun k => listed.getD k false) (σ := σ) (i := i) hLi (l.length - (i + 1)) (fun k hk1 hk2 hLk n hn hm => ((no_clash (hlater k hk1 (by omega) hLk)).1 n hn).2 hm)
      rw [show i + 1 + (l.length - (i + 1)) = l.length by omega] at hins
      rw [hins]
      exact hrel'

theorem drew_rel (h : Rel T G base nt σ a w) : Rel T G base nt σ a { w with drawn := w.drawn + 1 } := by
  obtain ⟨fp, us, blk, hF⟩ := h
  exact (hF.chg (Chg.drew w []) (fun _ h => by cases h) [] (fun _ h => by cases h) .nil).toRel

theorem region_sound {ρ : Type} {id : Nat} {ops : Array Oper} {draw : Bool} {KK : St → Option ρ} {r : ρ} (hm : P.follows .mixedOrders = true) (hT : TabOk P T) (hD : DOk P T D) (he : runRegion T nt D ops.toList draw σ KK = some r) (h : Rel T G base nt σ a w)
    (hQ : ∀ σ' a' w', KK σ' = some r → Rel T G base nt σ' a' w' → Bel base w w' → Q .normal a' w') : (Code.region id ops draw).wp P Q a w := by
  unfold runRegion at he
  cases draw with
  | false =>
    refine wp_region ?_
    have := textN_sound (ops := ops) hT hD ops.toList 0 .none (fun j hj => by rw [Nat.zero_add, Array.getElem?_toList]) he h hQ
    rw [List.range_eq_range']
    simpa using this
  | true =>
    obtain ⟨l, σ', hs, hk⟩ := runOps_steps he
    rw [List.append_nil] at hk
    refine wp_region_any hm ?_
    simp only [List.reverse_reverse] at hk
    split at hk
    · rename_i hord
      have hord := ordered_ok hord
      have hbw : Bel base w { w with drawn := w.drawn + 1 } := by
        obtain ⟨fp, us, blk, hF⟩ := h
        exact (Chg.drew w []).bel fun _ h => by cases h
      refine any_sound hT hD hs hord (fun a' w' hr hb => hQ σ' a' w' hk hr hb) ops.size _ a _ ⟨by simp, fun j o hj hL => ?_⟩ ?_ ?_ hbw
      · simp [Array.getD_eq_getD_getElem?, Array.getElem?_replicate] at hL
        split at hL <;> simp at hL
      · refine Nat.le_trans (List.length_filter_le _ _) (by simp)
      · have : seq l (fun k => (Array.replicate ops.size false).getD k false) σ l.length = σ := by
          have hall : ∀ k, (Array.replicate ops.size false).getD k false = false := fun k => by
            rw [Array.getD_eq_getD_getElem?, Array.getElem?_replicate]; split <;> rfl
          have : ∀ i, seq l (fun k => (Array.replicate ops.size false).getD k false) σ i = σ := by
            intro i
            induction i with
            | zero => rfl
            | succ i ih => rw [seq, if_neg (by rw [hall]; simp), ih]
          exact this _
        rw [this]
        exact drew_rel h
    · cases hk
end

end Go.Proofs.Ytabdjbkbfilhkaa.V
