import Derived.Test.YtabdjbkbfilhkaaV15
import Derived.Orders
namespace Go.Proofs.Ytabdjbkbfilhkaa.V
open Go Go.RowKit

section
variable {P : Program} {T : Tab} {G : Nat → Prop} {base : Bs} {nt : Nat} {σ : St} {a : Act} {w w' : World} {D : FuncId → List Arg → Option (Bool × Res)} {K : Act → World → Prop} {Q : Exit → Act → World → Prop} {o : Oper}

theorem setAll_at {σ τ : St} : ∀ (ws : Ws) (n : Nat), σ n = τ n → (σ.setAll ws) n = (τ.setAll ws) n
  | [], n, h => h
  | p :: ws, n, h => by
    refine setAll_at ws n ?_
    by_cases e : n = p.1
    · subst e; rw [St.set_at, St.set_at]
    · rw [St.set_ne _ _ e, St.set_ne _ _ e]; exact h

theorem setAll_in {σ τ : St} : ∀ (ws : Ws) (n : Nat), n ∈ ws.map (·.1) → (σ.setAll ws) n = (τ.setAll ws) n
  | [], n, h => by cases h
  | p :: ws, n, h => by
    by_cases e : n = p.1
    · subst e; exact setAll_at ws _ (by rw [St.set_at, St.set_at])
    · have h' : n ∈ ws.map (·.1) := by
        rcases List.mem_cons.1 h with h | h
        · exact absurd h e
        · exact h
      exact setAll_in ws n h'

theorem setAll_out {σ : St} {ws : Ws} {n : Nat} (h : n ∉ ws.map (·.1)) : (σ.setAll ws) n = σ n :=
  setAll_other σ ws n fun _ hp e => h (e ▸ List.mem_map_of_mem hp)

theorem set_same {σ : St} {d : Nat} {s : Slot} (h : σ d = s) : σ.set d s = σ := by
  funext n
  by_cases e : n = d
  · subst e; rw [St.set_at, h]
  · rw [St.set_ne _ _ e]

theorem opG_sub {all : List Oper} {ws sub : Ws} (he : (opG T all o).ev D σ = some (ws, sub)) : σ.setAll sub = σ := by
  unfold opG at he
  split at he
  · simp only [R.ev_bind] at he
    obtain ⟨x, _, h⟩ := Option.bind_eq_some_iff.1 he
    simp only [R.ev_pure, Option.some.injEq, Prod.mk.injEq] at h
    obtain ⟨_, rfl⟩ := h
    rfl
  · split at he
    · simp at he
    · rename_i d hd
      simp only [R.ev_bind, R.ev_slot, Option.bind_some] at he
      split at he
      · rename_i fl p hsv
        split at he
        · simp at he
        · rw [R.ev_br] at he
          simp only [R.ev_bind] at he
          obtain ⟨x, _, h⟩ := Option.bind_eq_some_iff.1 he
          simp only [R.ev_pure, Option.some.injEq, Prod.mk.injEq] at h
          obtain ⟨_, rfl⟩ := h
          refine set_same ?_
          rw [← hsv]
      · simp only [R.ev_bind] at he
        obtain ⟨x, _, h⟩ := Option.bind_eq_some_iff.1 he
        simp only [R.ev_pure, Option.some.injEq, Prod.mk.injEq] at h
        obtain ⟨_, rfl⟩ := h
        rfl
      · simp at he

theorem skip_rel {ws : Ws} (h : Rel T G base nt σ a w) (hd : ∀ d, o.dst = some d → d < nt) (he : (skipR o).ev D σ = some ws) : Rel T G base nt (σ.setAll ws) (a.put o.dst undef) w := by
  obtain ⟨fp, us, blk, hF⟩ := h
  unfold skipR at he
  split at he
  · rename_i hn
    simp only [R.ev_pure, Option.some.injEq] at he
    subst he
    rw [hn]
    exact hF.toRel
  · rename_i e hn
    simp only [R.ev_bind, R.ev_slot, Option.bind_some, R.ev_pure, Option.some.injEq] at he
    subst he
    rw [hn]
    have := hF.put (hd e hn) undef .und ⟨(σ e).v.w + 1, (σ e).v.c⟩ (by simp) [] (us e) (blk e) .nil (fun _ h => by cases h) ⟨rfl, rfl⟩
    exact this.toRel

theorem undef_not_bool (b : Bool) : undef ≠ .bool b := by intro h; cases h

theorem yielded_bool {ops : Array Oper} {g d : Nat} {p : Bool} (hg : (ops[g]?).bind (·.dst) = some d) (h : a.tmps.getD d undef = .bool p) : yielded ops a.tmps g = some p := by
  unfold yielded
  rw [hg]
  rw [Array.getD_eq_getD_getElem?] at h
  cases ht : a.tmps[d]? with
  | none => rw [ht] at h; exact absurd h (undef_not_bool p)
  | some v =>
    rw [ht] at h
    simp only [Option.getD_some] at h
    subst h
    simp [ht]

theorem yielded_und {ops : Array Oper} {g d : Nat} (hg : (ops[g]?).bind (·.dst) = some d) (h : a.tmps.getD d undef = undef) : yielded ops a.tmps g = none := by
  unfold yielded
  rw [hg]
  rw [Array.getD_eq_getD_getElem?] at h
  cases ht : a.tmps[d]? with
  | none => simp [ht]
  | some v =>
    rw [ht] at h
    simp only [Option.getD_some] at h
    subst h
    simp [ht]
    rfl

theorem opG_sound {ops : Array Oper} {i : Nat} {ws sub : Ws} (hT : TabOk P T) (hD : DOk P T D) (hi : ops[i]? = some o) (h : Rel T G base nt σ a w) (hd : ∀ d, o.dst = some d → d < nt)
    (he : (opG T ops.toList o).ev D σ = some (ws, sub)) (hK : ∀ a' w', Rel T G base nt (σ.setAll ws) a' w' → Bel base w w' → K a' w') : wpOp P ops Q i K a w := by
  unfold wpOp
  simp only [hi]
  unfold opG at he
  split at he
  · rename_i hg
    simp only [R.ev_bind] at he
    obtain ⟨x, h1, h2⟩ := Option.bind_eq_some_iff.1 he
    simp only [R.ev_pure, Option.some.injEq, Prod.mk.injEq] at h2
    obtain ⟨rfl, _⟩ := h2
    have hw : Region.wanted o (yielded ops a.tmps) = true := by simp [Region.wanted, hg]
    rw [if_pos hw]
    exact .inl (op_sound hT hD h hd h1 hK)
  · rename_i g want hg
    split at he
    · simp at he
    · rename_i d hdg
      have hdg' : (ops[g]?).bind (·.dst) = some d := by
        unfold dstOf at hdg
        rw [Array.getElem?_toList] at hdg
        exact hdg
      simp only [R.ev_bind, R.ev_slot, Option.bind_some] at he
      obtain ⟨fp, us, blk, hF⟩ := h
      have hs := hF.slot d
      split at he
      · rename_i fl p hsv
        rw [hsv] at hs
        split at he
        · simp at he
        · rename_i hfl
          rw [R.ev_br] at he
          simp only [R.ev_bind] at he
          obtain ⟨x, h1, h2⟩ := Option.bind_eq_some_iff.1 he
          simp only [R.ev_pure, Option.some.injEq, Prod.mk.injEq] at h2
          obtain ⟨rfl, _⟩ := h2
          have hval : a.tmps.getD d undef = .bool p := by
            obtain ⟨hu, hc, _⟩ := hs
            obtain ⟨u1, hu1, hm⟩ := mkv_false_one (us := us d) (by rw [hc.length]; rfl)
            rw [hu1] at hc
            generalize fp d = ft at hc
            cases hc with
            | cons h3 h4 =>
              have hr := h3.toRep (S' := fun _ => True) (by simpa [Cell.isGone] using hfl) (fun _ _ => trivial) (fun _ _ => trivial)
              rw [hu, hm]
              exact rep_bool hr
          have hy := yielded_bool hdg' hval
          split at h1
          · rename_i hq
            have hw : Region.wanted o (yielded ops a.tmps) = true := by simp [Region.wanted, hg, hy, hq]
            rw [if_pos hw]
            exact .inl (op_sound hT hD ⟨fp, us, blk, hF⟩ hd h1 hK)
          · rename_i hq
            have hw : Region.wanted o (yielded ops a.tmps) = false := by simp [Region.wanted, hg, hy, hq]
            rw [if_neg (by rw [hw]; simp)]
            exact hK _ _ (skip_rel ⟨fp, us, blk, hF⟩ hd h1) (Bel.refl _ _)
      · rename_i hsv
        rw [hsv] at hs
        simp only [R.ev_bind] at he
        obtain ⟨x, h1, h2⟩ := Option.bind_eq_some_iff.1 he
        simp only [R.ev_pure, Option.some.injEq, Prod.mk.injEq] at h2
        obtain ⟨rfl, _⟩ := h2
        have hy := yielded_und hdg' hs.1
        have hw : Region.wanted o (yielded ops a.tmps) = false := by simp [Region.wanted, hg, hy]
        rw [if_neg (by rw [hw]; simp)]
        exact hK _ _ (skip_rel ⟨fp, us, blk, hF⟩ hd h1) (Bel.refl _ _)
      · simp at he

/-! ### A nested row of the call's own that is handed to be written -/
def NestRel (T : Tab) (w : World) (us : Nat → List Value) (a : Act) (q : Nest) : Prop :=
  q.h ≠ q.d ∧ q.ct.mem = true ∧ ((T q.e).cts.drop q.j).take 1 = [q.ct] ∧ ∃ g len cap u, (us q.h)[q.off]? = some (.slice (some ⟨g, 0, none⟩) len cap) ∧ 0 ≤ q.i ∧ q.i < (len : Int) ∧ w.cell? ⟨g, q.i.toNat * (T q.e).cts.length + q.j, none⟩ = some u ∧ a.tmps.getD q.d undef = u

def Pend (T : Tab) (G : Nat → Prop) (base : Bs) (nt : Nat) (σ : St) (a : Act) (w : World) (q : Nest) : Prop := ∃ fp us blk, RelF T G base nt σ a w [] fp us blk ∧ NestRel T w us a q

theorem take_one {α : Type} {l : List α} {j : Nat} {x d : α} (h : (l.drop j).take 1 = [x]) : j < l.length ∧ l.getD j d = x := by
  by_cases hj : j < l.length
  · refine ⟨hj, ?_⟩
    rw [List.drop_eq_getElem_cons hj] at h
    simp only [List.take_succ_cons, List.take_zero, List.cons.injEq, and_true] at h
    rw [List.getD_eq_getElem?_getD, List.getElem?_eq_getElem hj]
    exact h
  · rw [List.drop_eq_nil_of_le (by omega)] at h
    cases h

theorem nest_cell {c : Cell} {e : TypeId} {g len cap : Nat} {fc : List Nat} {i : Int} {j : Nat} {ct : CT} {S : Nat → Prop} (h : CellRel T w S c (.slice (some ⟨g, 0, none⟩) len cap) fc) (hfl : c.fl = .own true) (hct : c.ct = .slice e) (h0 : 0 ≤ i) (h1 : i < (len : Int)) (hj : ((T e).cts.drop j).take 1 = [ct]) :
    ∃ (xs : List (List TC)) (cur : List Value) (fps : Nat → List Nat), c.c = .l xs ∧ xs.length = len ∧ OwnC T w (.slice e) (.slice (some ⟨g, 0, none⟩) len cap) (.l xs) fc ∧ Blk w g cur e ∧ fc = g :: (List.range (xs.length * (T e).cts.length)).flatMap fps ∧
      i.toNat * (T e).cts.length + j < xs.length * (T e).cts.length ∧ i.toNat * (T e).cts.length + j < cur.length ∧ OwnC T w ct (cur.getD (i.toNat * (T e).cts.length + j) undef) (nth (row xs i) j) (fps (i.toNat * (T e).cts.length + j)) ∧
      ∀ (w' : World) (d : Cell) (f' : List Nat), Blk w' g cur e → (∀ b, b ∈ fc → b ∉ fps (i.toNat * (T e).cts.length + j) → w'.heap[b]? = w.heap[b]?) → fc.Nodup → OwnC T w' ct (cur.getD (i.toNat * (T e).cts.length + j) undef) d.c f' → f'.Nodup → (∀ b, b ∈ f' → b ∈ fps (i.toNat * (T e).cts.length + j) ∨ w.heap.size ≤ b) →
        ∃ fc', fc'.Nodup ∧ (∀ b, b ∈ fc' → (b ∈ fc ∧ b ∉ fps (i.toNat * (T e).cts.length + j)) ∨ b ∈ f') ∧ OwnC T w' (.slice e) (.slice (some ⟨g, 0, none⟩) len cap) (.l (xs.set i.toNat (V.splice (row xs i) j (rawRow [d])))) fc' := by
  obtain ⟨hll, hcl⟩ := own_pos h hfl hct rfl
  subst hll
  obtain ⟨hjl, hjc⟩ := take_one (d := CT.bool) hj
  have hi : i.toNat < c.c.list.length := by omega
  have hk : i.toNat * (T e).cts.length + j < c.c.list.length * (T e).cts.length := by
    have := Nat.mul_le_mul_right (T e).cts.length (show i.toNat + 1 ≤ c.c.list.length by omega)
    rw [Nat.add_mul, Nat.one_mul] at this
    omega
  obtain ⟨ha1, ha2⟩ := idx_arith (i := i.toNat) hjl
  have h : OwnC T w c.ct (.slice (some ⟨g, 0, none⟩) c.c.list.length cap) c.c fc := by
    unfold CellRel at h
    rw [hfl] at h
    exact h
  rw [hct] at h
  generalize hcc : c.c = cc at h hcl hi hk h1 ⊢
  have hO := h
  generalize hu0 : Value.slice (some ⟨g, 0, none⟩) cc.list.length cap = u0 at h
  cases h with
  | flat _ _ _ hm => simp [CT.mem] at hm
  | nil => cases hu0
  | slice _ g' xs cap' cur fps q1 q2 q3 q4 q5 q6 q7 =>
    simp only [Value.slice.injEq, Option.some.injEq, Addr.mk.injEq, and_true] at hu0
    obtain ⟨rfl, _, rfl⟩ := hu0
    have hi : i.toNat < xs.length := hi
    have hk : i.toNat * (T e).cts.length + j < xs.length * (T e).cts.length := hk
    have hkc : i.toNat * (T e).cts.length + j < cur.length := by
      rw [q5]
      exact Nat.lt_of_lt_of_le hk (Nat.mul_le_mul_right _ q1)
    refine ⟨xs, cur, fps, rfl, rfl, hO, q4, rfl, hk, hkc, ?_, fun w' d f' hb hsame hnd hown hnf hsub => ?_⟩
    · have := q7 _ hk
      rw [ha1, ha2, hjc] at this
      exact this
    · have hnc := List.nodup_cons.1 hnd
      have hnfl := nodup_flat.1 hnc.2
      have hrow : (xs.getD i.toNat []).length = (T e).cts.length := by
        rw [List.getD_eq_getElem?_getD, List.getElem?_eq_getElem hi]; exact q3 _ (List.getElem_mem hi)
      have hset : (xs.set i.toNat (V.splice (xs.getD i.toNat []) j (rawRow [d]))).length = xs.length := by simp
      have hin : ∀ k, k < xs.length * (T e).cts.length → ∀ b, b ∈ fps k → b ∈ (List.range (xs.length * (T e).cts.length)).flatMap fps := fun k hk b hb => List.mem_flatMap.2 ⟨k, List.mem_range.2 hk, hb⟩
      have hlt := hO.lt
      have key := OwnC.slice (T := T) (w := w') e g (xs.set i.toNat (V.splice (xs.getD i.toNat []) j (rawRow [d]))) cap cur
        (fun k => if k = i.toNat * (T e).cts.length + j then f' else fps k)
        (by rw [hset]; exact q1) q2 (fun x hx => by
          rcases List.mem_or_eq_of_mem_set hx with hx | rfl
          · exact q3 x hx
          · rw [splice_length _ _ _ (by rw [hrow]; simp [rawRow]; omega), hrow]) hb q5 q6
        (fun k hk' => by
          rw [hset] at hk'
          rw [elem_cell (ys := [d]) hi q3 (by simp; omega) (by simp)]
          by_cases he : k = i.toNat * (T e).cts.length + j
          · subst he
            rw [if_pos ⟨Nat.le_refl _, by simp⟩]
            simp only [if_true]
            rw [ha1, hjc, Nat.sub_self]
            exact hown
          · rw [if_neg (by simp only [List.length_singleton]; omega)]
            simp only [he, if_false]
            exact (q7 k hk').same fun b hb => hsame b (List.mem_cons_of_mem _ (hin k hk' b hb)) fun hm => hnfl.2 k _ hk' hk he b hb hm)
      rw [hset] at key
      have hold : ∀ b, b ∈ f' → ∀ k, k < xs.length * (T e).cts.length → k ≠ i.toNat * (T e).cts.length + j → b ∉ fps k := fun b hb k hk' he hm => by
        rcases hsub b hb with h1 | h1
        · exact hnfl.2 k _ hk' hk he b hm h1
        · have := hlt b (List.mem_cons_of_mem _ (hin k hk' b hm)); omega
      refine ⟨_, List.nodup_cons.2 ⟨fun hm => ?_, nodup_flat.2 ⟨fun k hk' => ?_, fun k l hk' hl' hkl b hb hb2 => ?_⟩⟩, fun b hb => ?_, key⟩
      · obtain ⟨k, hk', hb⟩ := List.mem_flatMap.1 hm
        have hk' := List.mem_range.1 hk'
        split at hb
        · rcases hsub g hb with h1 | h1
          · exact hnc.1 (hin _ hk g h1)
          · have := hlt g List.mem_cons_self; omega
        · exact hnc.1 (hin k hk' g hb)
      · split
        · exact hnf
        · exact hnfl.1 k hk'
      · split at hb <;> split at hb2
        · omega
        · rename_i h2 h3; exact hold b hb l hl' h3 hb2
        · rename_i h2 h3; exact hold b hb2 k hk' h2 hb
        · exact hnfl.2 k l hk' hl' hkl b hb hb2
      · rcases List.mem_cons.1 hb with rfl | hb
        · exact .inl ⟨List.mem_cons_self, fun hm => hnc.1 (hin _ hk _ hm)⟩
        · obtain ⟨k, hk', hb⟩ := List.mem_flatMap.1 hb
          have hk' := List.mem_range.1 hk'
          split at hb
          · exact .inr hb
          · rename_i he
            exact .inl ⟨List.mem_cons_of_mem _ (hin k hk' b hb), fun hm => hnfl.2 k _ hk' hk he b hb hm⟩

theorem own_norm {ct : CT} {u : Value} {c : TC} {fq : List Nat} (h : OwnC T w ct u c fq) : OwnC T w ct u (normTC ct c) fq := by
  cases h with
  | flat _ _ _ hm hr => exact .flat _ _ _ hm (rep_norm hr)
  | nils => exact .nils
  | nil e => exact .nil e
  | slice e g xs cap cur fps h1 h2 h3 h4 h5 h6 h7 => exact .slice e g xs cap cur fps h1 h2 h3 h4 h5 h6 h7

theorem nest_load {q : Nest} (hT : TabOk P T) (h : Rel T G base nt σ a w) (hd : ∀ d, o.dst = some d → d < nt) (he : (nestOf T o).ev D σ = some (some q))
    (hK : ∀ a', Pend T G base nt (σ.set q.d ⟨.dead, ⟨(σ q.d).v.w + 1, (σ q.d).v.c⟩⟩) a' w q → K a' w) : o.guard = none ∧ o.wp P a w K Q := by
  obtain ⟨fp, us, blk, hF⟩ := h
  unfold nestOf at he
  split at he
  · rename_i t y ho
    split at he
    · rename_i d hg hdst
      simp only [R.ev_bind, R.ev_slot, Option.bind_some] at he
      have hs := hF.slot y
      split at he
      · rename_i hh off e i j v hsv
        rw [hsv] at hs
        simp only [R.ev_bind, R.ev_slot, Option.bind_some] at he
        split at he
        · rename_i hv
          split at he
          · rename_i cs hcs
            split at he
            · rename_i c hcc
              unfold nestCell at he
              split at he
              · rename_i ct hct
                split at he
                · rename_i hcond
                  dsimp only at hcond
                  obtain ⟨c1, c2, c3, c4, c5, c6, c7⟩ := hcond
                  simp only [R.ev_pure, Option.some.injEq] at he
                  subst he
                  obtain ⟨_, _, hea⟩ := hs
                  obtain ⟨g, len, cap, p1, p2, p3, p4⟩ := hea hv
                  obtain ⟨fq, hcr, _⟩ := hF.home hcs
                  obtain ⟨u0, fc, hu0, hrel, _⟩ := cell_at hcr hcc
                  rw [p1] at hu0
                  obtain rfl := Option.some.inj hu0
                  obtain ⟨xs, cur, fps, k1, k2, k3, k4, k5, k6, k7, k8, k9⟩ := nest_cell hrel c1 c2 p2 p3 c4
                  have hcell : w.cell? ⟨g, i.toNat * (T e).cts.length + j, none⟩ = some (cur.getD (i.toNat * (T e).cts.length + j) undef) := by
                    rw [k4.cell, List.getD_eq_getElem?_getD, List.getElem?_eq_getElem k7]; rfl
                  have hrun : (execOp a.eval o).run P w = .ok (.value (cur.getD (i.toNat * (T e).cts.length + j) undef)) w := by
                    have h1 := run_loadAt (P := P) (w := w) hT c5 (ad := ⟨g, i.toNat * (T e).cts.length + j, none⟩) (vs := [cur.getD (i.toNat * (T e).cts.length + j) undef]) (by rw [hct]; rfl) (fun k v hk => by
                      cases k with
                      | zero => cases hk; simpa [Addr.add] using hcell
                      | succ k => simp at hk)
                    rw [c6] at h1
                    have h2 : a.eval (.tmp y) = .pointer (some ⟨g, i.toNat * (T e).cts.length + j, none⟩) := p4
                    simp only [execOp, ho, Sem.run_bind, h2, h1, Result.andThen_ok, Sem.run_pure]
                    rfl
                  refine ⟨hg, wp_ok hrun (hK _ ?_)⟩
                  rw [hdst]
                  refine ⟨_, _, _, hF.put (hd d hdst) _ .dead ⟨(σ d).v.w + 1, (σ d).v.c⟩ (by simp) [] (us d) (blk d) .nil (fun _ h => by cases h) (fun _ h => by cases h), c7, c3, c4, g, len, cap, _, ?_, p2, p3, hcell, ?_⟩
                  · show (upd us d (us d) hh)[off]? = _
                    rw [upd_ne _ _ c7]; exact p1
                  · have := hd d hdst
                    simp [Act.put, hF.size, this, Array.getD_eq_getD_getElem?]
                · simp at he
              · simp at he
            · simp at he
          · simp at he
        · simp at he
      · simp at he
    · simp at he
  · simp at he

theorem nest_move {q : Nest} {ws : Ws} (h : Pend T G base nt σ a w q) (hd : ∀ d, o.dst = some d → d < nt) (he : (nestMove q o).ev D σ = some ws)
    (hK : ∀ a', Pend T G base nt (σ.setAll ws) a' w q → K a' w) : o.guard = none ∧ o.wp P a w K Q := by
  obtain ⟨fp, us, blk, hF, hne, hctm, hj, g0, len, cap, u, p1, p2, p3, p5, p6⟩ := h
  unfold nestMove at he
  split at he
  · rename_i y z ho hg hdst
    simp only [R.ev_bind, R.ev_slot, Option.bind_some] at he
    have hs := hF.slot y
    split at he
    · rename_i gg cs hsv
      rw [hsv] at hs
      split at he
      · rename_i hcond
        obtain ⟨c1, c2, c3, c4⟩ := hcond
        rcases put_ev he with ⟨h, _⟩ | ⟨z', hz, _, rfl⟩
        · cases h
        obtain rfl := Option.some.inj hz
        have hrun : (execOp a.eval o).run P w = .ok (.value (a.tmps.getD y undef)) w := by
          simp only [execOp, ho, Sem.run_bind, Result.andThen_ok, Sem.run_pure]
          rfl
        refine ⟨hg, wp_ok hrun (hK _ ?_)⟩
        rw [hdst]
        refine ⟨_, _, _, hF.put (hd z hdst) _ (.val gg (cs.map Cell.share)) ⟨(σ z).v.w + 1, (σ z).v.c⟩ (by simp) [] (us y) (blk z) .nil (fun _ h => by cases h) ⟨by rw [upd_at]; exact hs.1, by rw [upd_at]; exact hs.2.1.shared c2 c1, fun e => by rw [List.length_map]; exact hs.2.2 e⟩, hne, hctm, hj, g0, len, cap, u, ?_, p2, p3, p5, ?_⟩
        · rw [upd_ne _ _ (Ne.symm c4)]; exact p1
        · rw [← p6]
          simp [Act.put, Array.getD_eq_getD_getElem?, Array.getElem?_setIfInBounds_ne c3]
      · simp at he
    · simp at he
  · simp at he

theorem nest_call {q : Nest} {ws : Ws} {c : Call} {f : Operand} {g : FuncId} (hD : DOk P T D) (ho : o.op = .call c) (hcl : c.callee = .value f) (hmf : methOf T f = some (g, 0)) (h : Pend T G base nt σ a w q) (hd : ∀ d, o.dst = some d → d < nt)
    (he : (nestCall T q g c o.dst).ev D σ = some ws) (hK : ∀ a' w', Rel T G base nt (σ.setAll ws) a' w' → Bel base w w' → K a' w') : o.wp P a w K Q := by
  obtain ⟨fp, us, blk, hF, hne, hctm, hj, g0, len, cap, u, p1, p2, p3, p5, p6⟩ := h
  have hfg : f = .func g := by
    unfold methOf at hmf
    split at hmf
    · split at hmf
      · simp only [Option.some.injEq, Prod.mk.injEq] at hmf
        rw [hmf.1]
      · cases hmf
    · cases hmf
  subst hfg
  unfold nestCall at he
  split at he
  · rename_i n t rest hz
    simp only [R.ev_bind, R.ev_slot, Option.bind_some] at he
    obtain ⟨⟨cs, mk⟩, hb, h2⟩ := Option.bind_eq_some_iff.1 he
    obtain ⟨cl, hcc0, h3⟩ := Option.bind_eq_some_iff.1 h2
    obtain ⟨⟨as, sh⟩, h4, h5⟩ := Option.bind_eq_some_iff.1 h3
    clear he h2 h3
    dsimp only at h5
    split at h5
    · rename_i hcond
      obtain ⟨hn, hsz, rfl, hfl, hct⟩ := hcond
      rw [R.ev_call] at h5
      obtain ⟨⟨pre0, r⟩, h6, h7⟩ := Option.bind_eq_some_iff.1 h5
      cases pre0 with
      | false => cases h7
      | true =>
      dsimp only at h7
      rw [if_pos rfl] at h7
      split at h7
      · rename_i gg d r'
        split at h7
        · rename_i hcond2
          obtain ⟨hdct, hdfl, hro⟩ := hcond2
          have hcc : cs[q.off]? = some cl := by simpa [cellOf] using hcc0
          obtain ⟨extra, fq0, svf, hfx, hcr, hmk, hghost, hslot⟩ := home_open hF hb
          obtain ⟨f1, f2, f3, hf, c1, c2, c3⟩ := hcr.sub q.off 1
          have hdt : (cs.drop q.off).take 1 = [cl] := by
            obtain ⟨hlt, hce⟩ := List.getElem?_eq_some_iff.1 hcc
            rw [List.drop_eq_getElem_cons hlt, hce]; rfl
          have hdu : ((us q.h).drop q.off).take 1 = [.slice (some ⟨g0, 0, none⟩) len cap] := by
            obtain ⟨hlt, hce⟩ := List.getElem?_eq_some_iff.1 p1
            rw [List.drop_eq_getElem_cons hlt, hce]; rfl
          rw [hdt, hdu] at c2
          have hcell : CellRel T w (Sh w fp []) cl (.slice (some ⟨g0, 0, none⟩) len cap) f2 := by
            generalize hq : ([] : List Cell) = nl at c2
            cases c2 with
            | cons h1 h2 =>
              subst hq
              cases h2
              rwa [List.append_nil]
          obtain ⟨xs, cur, fps, k1, k2, k3, k4, k5, k6, k7, k8, k9⟩ := nest_cell hcell hfl hct p2 p3 hj
          have hue : cur.getD (q.i.toNat * (T q.e).cts.length + q.j) undef = u := by
            rw [k4.cell, List.getElem?_eq_getElem k7] at p5
            rw [List.getD_eq_getElem?_getD, List.getElem?_eq_getElem k7]
            exact Option.some.inj p5
          rw [hue] at k8 k9
          generalize hfk : fps (q.i.toNat * (T q.e).cts.length + q.j) = fk at k8 k9
          have hkin : ∀ b, b ∈ fk → b ∈ f2 := fun b hb => by
            rw [k5]
            exact List.mem_cons_of_mem _ (List.mem_flatMap.2 ⟨_, List.mem_range.2 k6, by rw [hfk]; exact hb⟩)
          have hnd := hF.nodup q.h
          rw [hfx, hf] at hnd
          have hndx := List.nodup_append.1 hnd
          have hnd' := List.nodup_append.1 hndx.2.1
          have hnd'' := List.nodup_append.1 hnd'.1
          have hin : ∀ b, b ∈ f1 ∨ b ∈ f2 ∨ b ∈ f3 ∨ b ∈ extra → b ∈ fp q.h := fun b hb => by
            rw [hfx, hf]; simp only [List.mem_append]
            rcases hb with hb | hb | hb | hb <;> simp [hb]
          have hfkn : fk.Nodup ∧ g0 ∉ fk := by
            have := hnd''.2.1
            rw [k5] at this
            have h1 := List.nodup_cons.1 this
            have h2 := nodup_flat.1 h1.2
            exact ⟨hfk ▸ h2.1 _ k6, fun hm => h1.1 (List.mem_flatMap.2 ⟨_, List.mem_range.2 k6, by rw [hfk]; exact hm⟩)⟩
          have hargs := lendW_sound hF h4 rfl
          have hlist : c.args.toList.map a.eval = u :: rest.map fun p => a.eval p.1 := by
            have : (c.args.toList.zip c.argTypes.toList).map Prod.fst = c.args.toList := List.map_fst_zip (by simp [hsz])
            have hev : a.eval (.tmp n) = u := by rw [hn]; exact p6
            rw [← this, hz, List.map_cons, List.map_cons, hev, List.map_map]
            rfl
          have hrun : (execOp a.eval o).run P w = (callFunc g (u :: rest.map fun p => a.eval p.1).toArray).run P w := by
            have e1 : c.args.map a.eval = (u :: rest.map fun p => a.eval p.1).toArray := by
              rw [← hlist]
              apply Array.ext'; simp
            have hfv : a.eval (.func g) = .func (.func g) #[] #[] := rfl
            simp [execOp, ho, resolve, hcl, hfv, Deferred.ofValue, invoke, e1]
          have hsd : (σ q.h).sv ≠ .dead := by
            rcases homeAt_ev hb with ⟨_, h, _⟩ | ⟨_, h, _⟩ | ⟨h, _⟩ <;> rw [h] <;> exact SV.noConfusion
          have hoc : CellsRel T w (fun b => There w b ∧ b ∉ fp q.h) (ownCells [(q.ct, normTC q.ct (nth (row cl.c.list q.i) q.j))]) [u] fk := by
            have e1 : ownCells [(q.ct, normTC q.ct (nth (row cl.c.list q.i) q.j))] = [⟨q.ct, .own true, normTC q.ct (nth (row cl.c.list q.i) q.j)⟩] := by simp [ownCells, hctm]
            rw [e1, k1]
            have := CellsRel.cons (T := T) (w := w) (S := fun b => There w b ∧ b ∉ fp q.h) (c := ⟨q.ct, .own true, normTC q.ct (nth (row xs q.i) q.j)⟩) (u := u) (us := []) (fp := fk) (fp' := []) (own_norm k8) .nil
            rwa [List.append_nil] at this
          unfold Oper.wp
          rw [hrun]
          refine hD.wri g (false, [(q.ct, normTC q.ct (nth (row cl.c.list q.i) q.j))]) as gg [d] r' h6 w (fun b => There w b ∧ b ∉ fp q.h) [u] fk _ ⟨fun b hb => hb.1, hF.int, fun g k hx => hF.off g k (hF.lo q.h g (.inl hsd) (hin g (.inr (.inl (hkin g hx)))))⟩ hoc (fun _ => rfl) hfkn.1
            (fun b hb hs => hs.2 (hin b (.inr (.inl (hkin b hb))))) hargs o a K Q fun v w' hv => ?_
          obtain ⟨S1, fp', fq, q1, q2, q3, q4, q5⟩ := hv
          have q3' := List.nodup_append.1 q3
          have hnew0 : OwnC T w' q.ct u d.c fp' := by
            generalize hq : ([] : List Cell) = nl at q1
            cases q1 with
            | cons h1 h2 =>
              subst hq
              cases h2
              rw [List.append_nil]
              unfold CellRel at h1
              rw [hdfl, hdct] at h1
              exact h1
          have hltf2 : ∀ b, b ∈ f2 → b < w.heap.size := fun b hb => hF.lt q.h b (hin b (.inr (.inl hb)))
          obtain ⟨fc', n1, n2, n3⟩ := k9 w' d fp' (q5.blk k4 hfkn.2) (fun b hb hx => q5.block b (hltf2 b hb) hx) hnd''.2.1 hnew0 q3'.1 (fun b hb => (q4 b (by simp [hb])).1)
          have hfkf : ∀ b, b ∈ f1 ∨ b ∈ f3 ∨ b ∈ extra → ¬ (b ∈ f2 ∨ w.heap.size ≤ b) := fun b hb hx => by
            rcases hx with hx | hx
            · rcases hb with hb | hb | hb
              · exact hnd''.2.2 b hb b hx rfl
              · exact hnd'.2.2 b (by simp [hx]) b hb rfl
              · exact hndx.2.2 b hb b (by simp [hx]) rfl
            · have := hF.lt q.h b (hin b (by rcases hb with hb | hb | hb <;> simp [hb])); omega
          have hq4 : ∀ b, b ∈ fp' ++ fq → (b ∈ f2 ∨ w.heap.size ≤ b) ∧ b < w'.heap.size := fun b hb => ⟨(q4 b hb).1.imp (hkin b) id, (q4 b hb).2⟩
          have hfc2 : ∀ b, b ∈ fc' → (b ∈ f2 ∨ w.heap.size ≤ b) ∧ b < w'.heap.size := fun b hb => by
            rcases n2 b hb with ⟨h1, _⟩ | h1
            · exact ⟨.inl h1, Nat.lt_of_lt_of_le (hltf2 b h1) q5.size⟩
            · exact hq4 b (by simp [h1])
          have hfcq : ∀ b, b ∈ fc' → b ∉ fq := fun b hb hm => by
            rcases n2 b hb with ⟨h1, h2⟩ | h1
            · rcases (q4 b (by simp [hm])).1 with h3 | h3
              · exact h2 h3
              · have := hltf2 b h1; omega
            · exact q3'.2.2 b h1 b hm rfl
          have hold : ∀ b, b ∈ f1 ∨ b ∈ f3 ∨ b ∈ extra → (b ∈ fp q.h ∨ w.heap.size ≤ b) ∧ b < w'.heap.size := fun b hb => by
            have h1 := hin b (by rcases hb with hb | hb | hb <;> simp [hb])
            exact ⟨.inl h1, Nat.lt_of_lt_of_le (hF.lt q.h b h1) q5.size⟩
          have hnew := hF.reN q5 q.h hsd (fun b hb => hin b (.inr (.inl (hkin b hb)))) (svf (V.splice cs q.off [⟨cl.ct, cl.fl, .l (cl.c.list.set q.i.toNat (V.splice (row cl.c.list q.i) q.j (rawRow [d])))⟩])) ⟨(σ q.h).v.w, (σ q.h).v.c + 1⟩ (extra ++ (f1 ++ fc' ++ f3)) fq (.inr ⟨rfl, by simp⟩)
            (List.nodup_append.2 ⟨hndx.1, List.nodup_append.2 ⟨List.nodup_append.2 ⟨hnd''.1, n1, fun x hx y hy e => by
              subst e; exact hfkf x (.inl hx) (hfc2 x hy).1⟩, hnd'.2.1, fun x hx y hy e => by
              subst e
              rcases List.mem_append.1 hx with hx | hx
              · exact hnd'.2.2 x (by simp [hx]) x hy rfl
              · exact hfkf x (.inr (.inl hy)) (hfc2 x hx).1⟩, fun x hx y hy e => by
              subst e
              simp only [List.mem_append] at hy
              rcases hy with (hy | hy) | hy
              · exact hndx.2.2 x hx x (by simp [hy]) rfl
              · exact hfkf x (.inr (.inr hx)) (hfc2 x hy).1
              · exact hndx.2.2 x hx x (by simp [hy]) rfl⟩) q3'.2.1
            (fun b hb => by
              rcases hb with hb | hb
              · simp only [List.mem_append] at hb
                rcases hb with hb | (hb | hb) | hb
                · exact hold b (.inr (.inr hb))
                · exact hold b (.inl hb)
                · exact ⟨(hfc2 b hb).1.imp (fun h => hin b (.inr (.inl h))) id, (hfc2 b hb).2⟩
                · exact hold b (.inr (.inl hb))
              · have := hq4 b (by simp [hb])
                exact ⟨this.1.imp (fun h => hin b (.inr (.inl h))) id, this.2⟩)
            (fun b hb hm => by
              simp only [List.mem_append] at hb
              have hx := (hq4 b (by simp [hm])).1
              rcases hb with hb | (hb | hb) | hb
              · exact hfkf b (.inr (.inr hb)) hx
              · exact hfkf b (.inl hb) hx
              · exact hfcq b hb hm
              · exact hfkf b (.inr (.inl hb)) hx)
            (fun e => hghost e _)
            (fun hSh => by
              have hg1 : ∀ b, b ∈ f1 → b ∉ fk := fun b hb hm => hfkf b (.inl hb) (.inl (hkin b hm))
              have hg3 : ∀ b, b ∈ f3 → b ∉ fk := fun b hb hm => hfkf b (.inr (.inl hb)) (.inl (hkin b hm))
              have hSb : ∀ b, Sh w fp [] b → b ∉ fk := fun b hb hm => hb.2.1 q.h (hin b (.inr (.inl (hkin b hm))))
              have hnc : CellRel T w' (Sh w' (upd fp q.h (extra ++ (f1 ++ fc' ++ f3))) fq) ⟨cl.ct, cl.fl, .l (cl.c.list.set q.i.toNat (V.splice (row cl.c.list q.i) q.j (rawRow [d])))⟩ (.slice (some ⟨g0, 0, none⟩) len cap) fc' := by
                unfold CellRel
                dsimp only
                rw [hfl, hct, k1]
                exact n3
              have hcells := CellsRel.splice (ys := [⟨cl.ct, cl.fl, .l (cl.c.list.set q.i.toNat (V.splice (row cl.c.list q.i) q.j (rawRow [d])))⟩]) (c1.chg q5 hg1 hSb hSh) (CellsRel.cons hnc .nil) (c3.chg q5 hg3 hSb hSh)
              rw [splice_self p1, List.append_nil] at hcells
              refine hslot w' _ _ _ _ (fun b hb => q5.block b (hF.lt q.h b (hin b (.inr (.inr (.inr hb))))) fun hm => hfkf b (.inr (.inr hb)) (.inl (hkin b hm))) hcells ?_
              refine ctsOf_splice ?_
              rw [List.length_singleton, hdt]; rfl)
          rw [hmk] at h7
          have hnew : RelF T G base nt (σ.setAll [(q.h, ⟨svf (V.splice cs q.off [⟨cl.ct, cl.fl, .l (cl.c.list.set q.i.toNat (V.splice (row cl.c.list q.i) q.j (rawRow [d])))⟩]), ⟨(σ q.h).v.w, (σ q.h).v.c + 1⟩⟩)]) a w' fq (upd fp q.h (extra ++ (f1 ++ fc' ++ f3))) us blk := hnew
          have hr2 : ResRel T w' (Sh w' (upd fp q.h (extra ++ (f1 ++ fc' ++ f3))) fq) r' v fq := q2.any hro
          refine hK _ _ ?_ (q5.bel fun b hb => hF.lo q.h b (.inl hsd) (hin b (.inr (.inl (hkin b hb)))))
          obtain ⟨hrr, hgr⟩ := hr2
          unfold resSV at h7
          split at hrr
          · rename_i g9 cs9
            obtain ⟨us9, rfl, k2, k3⟩ := hrr
            exact finish_val hnew h7 hd k2 q3'.2.1 (fun _ h => h) k3
          · rename_i hne
            obtain ⟨uw, rfl, k2⟩ := hrr
            split at h7
            · rename_i g9 cs9
              exact absurd rfl (hne g9 cs9)
            · exact finish_tup hnew h7 hd k2 q3'.2.1 (fun _ h => h)
        · simp at h7
      · simp at h7
    · simp at h5
  · simp at he

theorem wpOp_plain {ops : Array Oper} {i : Nat} (hi : ops[i]? = some o) (hg : o.guard = none) (h : o.wp P a w K Q) : wpOp P ops Q i K a w := by
  unfold wpOp
  simp only [hi]
  have hw : Region.wanted o (yielded ops a.tmps) = true := by simp [Region.wanted, hg]
  rw [if_pos hw]
  exact .inl h

theorem textN_sound {ρ : Type} {ops : Array Oper} {KK : St → Option ρ} {r : ρ} (hT : TabOk P T) (hD : DOk P T D) : ∀ (rest : List Oper) (i : Nat) (q : Option Nest) {σ : St} {a : Act} {w : World}, (∀ j, j < rest.length → ops[i + j]? = rest[j]?) → runOpsN T nt D ops.toList rest q σ KK = some r →
    (match q with | .none => Rel T G base nt σ a w | some q => Pend T G base nt σ a w q) →
    (∀ σ' a' w', KK σ' = some r → Rel T G base nt σ' a' w' → Bel base w w' → Q .normal a' w') → wpOps P ops Q (List.range' i rest.length) a w
  | [], i, q, σ, a, w, _, he, h, hQ => by
    have hr : Rel T G base nt σ a w := by
      cases q with
      | none => exact h
      | some q => obtain ⟨fp, us, blk, hF, _⟩ := h; exact hF.toRel
    have he : KK σ = some r := by cases q <;> exact he
    exact hQ σ _ _ he hr (Bel.refl _ _)
  | o :: rest, i, .none, σ, a, w, ho, he, h, hQ => by
    rw [List.length_cons, List.range'_succ, wpOps_cons]
    have hi : ops[i]? = some o := by simpa using ho 0 (by simp)
    have hnx : ∀ j, j < rest.length → ops[i + 1 + j]? = rest[j]? := fun j hj => by
      have := ho (j + 1) (by simpa using hj)
      rw [show i + 1 + j = i + (j + 1) by omega]
      simpa using this
    simp only [runOpsN] at he
    split at he
    · cases he
    · rename_i hdo
      have hd : ∀ d, o.dst = some d → d < nt := fun d hd => by
        simp only [dstOk, hd, Bool.not_eq_false] at hdo
        exact Nat.le_of_ble_eq_true hdo
      rw [R.exec_eq] at he
      obtain ⟨⟨q1, rs⟩, h1, h2⟩ := Option.bind_eq_some_iff.1 he
      dsimp only at h2
      cases q1 with
      | none =>
        dsimp only at h2
        rw [R.exec_eq] at h2
        obtain ⟨⟨⟨ws, sub⟩, rs2⟩, h3, h4⟩ := Option.bind_eq_some_iff.1 h2
        dsimp only at h4
        have hev := R.ev_of_evR D σ _ _ _ h3
        rw [opG_sub hev] at h4
        refine opG_sound hT hD hi h hd hev fun a' w' hr hb => ?_
        exact textN_sound hT hD rest (i + 1) .none hnx h4 hr fun σ2 a2 w2 hk hr2 hb2 => hQ σ2 _ _ hk hr2 (hb.trans hb2)
      | some q1 =>
        dsimp only at h2
        have hev := R.ev_of_evR D σ _ _ _ h1
        have hl := nest_load (P := P) (o := o) (K := fun a' w' => wpOps P ops Q (List.range' (i + 1) rest.length) a' w') (Q := Q) hT h hd hev fun a' hp => by
          exact textN_sound hT hD rest (i + 1) (some q1) hnx h2 hp fun σ2 a2 w2 hk hr2 hb2 => hQ σ2 _ _ hk hr2 hb2
        exact wpOp_plain hi hl.1 hl.2
  | o :: rest, i, some q, σ, a, w, ho, he, h, hQ => by
    rw [List.length_cons, List.range'_succ, wpOps_cons]
    have hi : ops[i]? = some o := by simpa using ho 0 (by simp)
    have hnx : ∀ j, j < rest.length → ops[i + 1 + j]? = rest[j]? := fun j hj => by
      have := ho (j + 1) (by simpa using hj)
      rw [show i + 1 + j = i + (j + 1) by omega]
      simpa using this
    simp only [runOpsN] at he
    split at he
    · cases he
    · rename_i hdo
      have hd : ∀ d, o.dst = some d → d < nt := fun d hd => by
        simp only [dstOk, hd, Bool.not_eq_false] at hdo
        exact Nat.le_of_ble_eq_true hdo
      rw [R.exec_eq] at he
      obtain ⟨⟨⟨ws, fin⟩, rs⟩, h1, h2⟩ := Option.bind_eq_some_iff.1 he
      dsimp only at h2
      have hev := R.ev_of_evR D σ _ _ _ h1
      unfold nestR at hev
      split at hev
      · rename_i c hoc
        split at hev
        · rename_i f hg hcl
          split at hev
          · rename_i g hmf
            simp only [R.ev_bind] at hev
            obtain ⟨ws', h3, h4⟩ := Option.bind_eq_some_iff.1 hev
            simp only [R.ev_pure, Option.some.injEq, Prod.mk.injEq] at h4
            obtain ⟨rfl, rfl⟩ := h4
            refine wpOp_plain hi hg (nest_call hD hoc hcl hmf h hd h3 fun a' w' hr hb => ?_)
            exact textN_sound hT hD rest (i + 1) .none hnx h2 hr fun σ2 a2 w2 hk hr2 hb2 => hQ σ2 _ _ hk hr2 (hb.trans hb2)
          · simp at hev
        · simp at hev
      · simp only [R.ev_bind] at hev
        obtain ⟨ws', h3, h4⟩ := Option.bind_eq_some_iff.1 hev
        simp only [R.ev_pure, Option.some.injEq, Prod.mk.injEq] at h4
        obtain ⟨rfl, rfl⟩ := h4
        have hm := nest_move (P := P) (o := o) (K := fun a' w' => wpOps P ops Q (List.range' (i + 1) rest.length) a' w') (Q := Q) h hd h3 fun a' hp => by
          exact textN_sound hT hD rest (i + 1) (some q) hnx h2 hp fun σ2 a2 w2 hk hr2 hb2 => hQ σ2 _ _ hk hr2 hb2
        exact wpOp_plain hi hm.1 hm.2

theorem runOpsN_some {ρ : Type} {all : List Oper} {KK : St → Option ρ} {r : ρ} : ∀ (rest : List Oper) (q : Option Nest) {σ : St}, runOpsN T nt D all rest q σ KK = some r → ∃ σ', KK σ' = some r
  | [], q, σ, h => by cases q <;> exact ⟨σ, h⟩
  | o :: rest, .none, σ, h => by
    simp only [runOpsN] at h
    split at h
    · cases h
    · rw [R.exec_eq] at h
      obtain ⟨⟨q1, rs⟩, h1, h2⟩ := Option.bind_eq_some_iff.1 h
      dsimp only at h2
      cases q1 with
      | none =>
        dsimp only at h2
        rw [R.exec_eq] at h2
        obtain ⟨p, h3, h4⟩ := Option.bind_eq_some_iff.1 h2
        exact runOpsN_some rest _ h4
      | some q1 => exact runOpsN_some rest _ h2
  | o :: rest, some q, σ, h => by
    simp only [runOpsN] at h
    split at h
    · cases h
    · rw [R.exec_eq] at h
      obtain ⟨p, h1, h2⟩ := Option.bind_eq_some_iff.1 h
      exact runOpsN_some rest _ h2

inductive Steps (T : Tab) (nt : Nat) (D : FuncId → List Arg → Option (Bool × Res)) (all : List Oper) : List Oper → St → List (Ws × List Nat) → St → Prop
  | nil (σ : St) : Steps T nt D all [] σ [] σ
  | cons {o : Oper} {rest : List Oper} {σ σ' : St} {ws sub : Ws} {rs : List Nat} {l : List (Ws × List Nat)} : (∀ d, o.dst = some d → d < nt) → (opG T all o).evR D σ [] = some ((ws, sub), rs) →
      Steps T nt D all rest (σ.setAll ws) l σ' → Steps T nt D all (o :: rest) σ ((ws, rs) :: l) σ'

def footsOf (l : List (Ws × List Nat)) : List Foot := l.map fun p => ⟨p.2, p.1.map (·.1)⟩

theorem runOps_steps {ρ : Type} {all : List Oper} : ∀ {ops : List Oper} {σ : St} {fs : List Foot} {KK : St → List Foot → Option ρ} {r : ρ}, runOps T nt D all ops σ fs KK = some r →
    ∃ l σ', Steps T nt D all ops σ l σ' ∧ KK σ' ((footsOf l).reverse ++ fs) = some r
  | [], σ, fs, KK, r, h => ⟨[], σ, .nil σ, h⟩
  | o :: rest, σ, fs, KK, r, h => by
    simp only [runOps, forceL_eq] at h
    split at h
    · cases h
    · rename_i hdo
      rw [R.exec_eq] at h
      obtain ⟨⟨⟨ws, sub⟩, rs⟩, h1, h2⟩ := Option.bind_eq_some_iff.1 h
      dsimp only at h2
      rw [opG_sub (R.ev_of_evR D σ _ _ _ h1)] at h2
      obtain ⟨l, σ', h3, h4⟩ := runOps_steps h2
      refine ⟨(ws, rs) :: l, σ', .cons (fun d hd => ?_) h1 h3, ?_⟩
      · simp only [dstOk, hd, Bool.not_eq_false] at hdo
        exact Nat.le_of_ble_eq_true hdo
      · simp only [footsOf, List.map_cons, List.reverse_cons, List.append_assoc, List.singleton_append] at h4 ⊢
        exact h4

end

end Go.Proofs.Ytabdjbkbfilhkaa.V
