import Derived.Test.YtabdjbkbfilhkaaV3
namespace Go.Proofs.Ytabdjbkbfilhkaa.V
open Go Go.RowKit

section
variable {T : Tab} {G : Nat → Prop} {base : Bs} {nt : Nat} {σ : St} {a : Act} {w : World} {F : List Nat} {fp : Nat → List Nat} {us : Nat → List Value} {blk : Nat → Nat} {D : FuncId → List Arg → Option (Bool × Res)}

theorem mkv_false_one {us : List Value} (h : us.length = 1) : ∃ u, us = [u] ∧ mkv false us = u := by
  match us, h with
  | [u], _ => exact ⟨u, rfl, rfl⟩

theorem valueSV_sound {v : Value} {g : Bool} {cs : List Cell} (h : valueSV v = some (.val g cs)) (S : Nat → Prop) :
    g = false ∧ CellsRel T w S cs [v] [] ∧ cs.any Cell.isGone = false ∧ cs.length = 1 ∧ cs.all Cell.deep = true := by
  unfold valueSV at h
  split at h <;> first
    | (simp only [Option.some.injEq, SV.val.injEq] at h
       obtain ⟨rfl, rfl⟩ := h
       refine ⟨rfl, ?_, rfl, rfl, rfl⟩
       refine CellsRel.cons (fp := []) (fp' := []) ?_ .nil
       first
         | exact ⟨.int _ _, rfl⟩
         | exact ⟨.bool _, rfl⟩
         | exact OwnC.nils
         | (refine ⟨?_, rfl⟩; exact RepC.str _))
    | cases h

theorem eval_tmp (t : Nat) : a.eval (.tmp t) = a.tmps.getD t undef := rfl

theorem homeCells_ev {h off n : Nat} {v : Ver} {cs : List Cell} (he : (homeCells h off n v).ev D σ = some cs) :
    (σ h).v = v ∧ ∃ all, (σ h).sv.home = some all ∧ cs = (all.drop off).take n ∧ cs.length = n := by
  unfold homeCells at he
  simp only [R.ev_bind, R.ev_slot, Option.bind_some] at he
  split at he
  · rename_i hv
    refine ⟨hv, ?_⟩
    split at he
    · rename_i all ha
      split at he
      · rename_i hl
        simp only [R.ev_pure, Option.some.injEq] at he
        exact ⟨all, ha, he.symm, by rw [← he]; exact hl⟩
      · simp at he
    · simp at he
  · simp at he

theorem RelF.home (h : RelF T G base nt σ a w F fp us blk) {n : Nat} {all : List Cell} (ha : (σ n).sv.home = some all) :
    ∃ fp', CellsRel T w (Sh w fp F) all (us n) fp' ∧ ∀ b, b ∈ fp' → b ∈ fp n := by
  have hs := h.slot n
  cases hsv : (σ n).sv with
  | val g cs =>
    rw [hsv] at hs ha
    obtain rfl : cs = all := Option.some.inj ha
    exact ⟨fp n, hs.2.1, fun _ h => h⟩
  | bx e cs =>
    rw [hsv] at hs ha
    obtain rfl : cs = all := Option.some.inj ha
    obtain ⟨_, _, ⟨fp', hf, hc⟩, _⟩ := hs
    exact ⟨fp', hc, fun b hb => by rw [hf]; exact List.mem_cons_of_mem _ hb⟩
  | gv cs =>
    rw [hsv] at hs ha
    obtain rfl : cs = all := Option.some.inj ha
    exact ⟨fp n, hs, fun _ h => h⟩
  | _ => rw [hsv] at ha; cases ha

theorem CellsRel.sub {S : Nat → Prop} {cs : List Cell} {vs : List Value} {fp : List Nat} (h : CellsRel T w S cs vs fp) (off n : Nat) :
    ∃ fp1 fp' fp2, fp = fp1 ++ fp' ++ fp2 ∧ CellsRel T w S (cs.take off) (vs.take off) fp1 ∧ CellsRel T w S ((cs.drop off).take n) ((vs.drop off).take n) fp' ∧ CellsRel T w S ((cs.drop off).drop n) ((vs.drop off).drop n) fp2 := by
  have e : cs = cs.take off ++ ((cs.drop off).take n ++ (cs.drop off).drop n) := by rw [List.take_append_drop, List.take_append_drop]
  rw [e] at h
  obtain ⟨u1, u2, f1, f2, rfl, rfl, h1, h2⟩ := h.split
  obtain ⟨u3, u4, f3, f4, rfl, rfl, h3, h4⟩ := h2.split
  have l1 := h1.length
  have l3 := h3.length
  have l4 := h4.length
  have d : ∀ (xs : List Value), xs.length = (cs.take off).length → (xs ++ (u3 ++ u4)).take off = xs ∧ (xs ++ (u3 ++ u4)).drop off = u3 ++ u4 := by
    intro xs hx
    by_cases ho : off ≤ cs.length
    · have : xs.length = off := by rw [hx]; simp; omega
      subst this
      simp
    · have hz : (cs.drop off) = [] := List.drop_eq_nil_of_le (by omega)
      rw [hz] at l3 l4
      simp at l3 l4
      subst l3 l4
      have : xs.length ≤ off := by rw [hx]; simp; omega
      simp [List.take_of_length_le this, List.drop_eq_nil_of_le this]
  obtain ⟨e1, e2⟩ := d u1 l1
  refine ⟨f1, f3, f4, by rw [List.append_assoc], ?_, ?_, ?_⟩
  · rw [e1]; exact h1
  · rw [e2]
    by_cases hn : n ≤ (cs.drop off).length
    · have : u3.length = n := by rw [l3]; simp at hn ⊢; omega
      rw [← this, List.take_left]; rw [this]; exact h3
    · have hz : (cs.drop off).drop n = [] := List.drop_eq_nil_of_le (by omega)
      rw [hz] at l4
      simp at l4
      subst l4
      have : u3.length ≤ n := by rw [l3]; simp at hn ⊢; omega
      rw [List.append_nil, List.take_of_length_le this]; exact h3
  · rw [e2]
    by_cases hn : n ≤ (cs.drop off).length
    · have : u3.length = n := by rw [l3]; simp at hn ⊢; omega
      rw [← this, List.drop_left]; rw [this]; exact h4
    · have hz : (cs.drop off).drop n = [] := List.drop_eq_nil_of_le (by omega)
      rw [hz] at l4 h4 ⊢
      simp at l4
      subst l4
      have : u3.length ≤ n := by rw [l3]; simp at hn ⊢; omega
      rw [List.append_nil, List.drop_eq_nil_of_le this]; exact h4

theorem peek_sound (h : RelF T G base nt σ a w F fp us blk) {x : Operand} {g : Bool} {cs : List Cell} (he : (peek x).ev D σ = some (g, cs)) :
    ∃ vs fp', a.eval x = mkv g vs ∧ CellsRel T w (Sh w fp F) cs vs fp' ∧ cs.any Cell.isGone = false ∧ (g = false → cs.length = 1) ∧ ∃ n, ∀ b, b ∈ fp' → b ∈ fp n := by
  unfold peek at he
  split at he
  · rename_i v
    split at he
    · rename_i g' cs' hv
      simp at he
      obtain ⟨rfl, rfl⟩ := he
      obtain ⟨rfl, hc, hg, hl, _⟩ := valueSV_sound (T := T) (w := w) hv (Sh w fp F)
      exact ⟨[v], [], rfl, hc, hg, fun _ => hl, 0, fun b hb => by cases hb⟩
    · simp at he
  · rename_i t
    simp only [R.ev_bind, R.ev_view, Option.bind_some] at he
    split at he
    · rename_i g' cs' hsv
      split at he
      · simp at he
      · rename_i hg
        simp at he
        obtain ⟨rfl, rfl⟩ := he
        have hs := h.view t
        rw [hsv] at hs
        exact ⟨us t, fp t, hs.1, hs.2.1, by simpa using hg, hs.2.2, t, fun _ h => h⟩
    · rename_i g' h' off n v hsv
      have hs := h.view t
      rw [hsv] at hs
      obtain ⟨_, _, hk, hal⟩ := hs
      simp only [R.ev_bind] at he
      obtain ⟨ys, hy, he⟩ := Option.bind_eq_some_iff.1 he
      obtain ⟨hv, all, ha, rfl, hl⟩ := homeCells_ev hy
      split at he
      · simp at he
      · rename_i hg
        simp at he
        obtain ⟨rfl, rfl⟩ := he
        obtain ⟨fpx, hc, hfx⟩ := h.home ha
        obtain ⟨f1, f2, f3, hf, _, hc2, _⟩ := hc.sub off n
        have hg' : ((all.drop off).take n).any Cell.isGone = false := by simpa using hg
        refine ⟨_, f2, hal hv, hc2, hg', ?_, h', fun b hb => hfx b (by rw [hf]; simp [hb])⟩
        intro hgf
        rw [hl]; exact hk hgf
    · simp at he
  · simp at he

theorem CellsRel.leave {S : Nat → Prop} {cs : List Cell} {vs : List Value} {fp : List Nat} (h : CellsRel T w S cs vs fp) : CellsRel T w S (cs.map Cell.leave) vs [] := by
  induction h with
  | nil => exact .nil
  | @cons c cs u us fp fp' h _ ih =>
    have h1 : CellRel T w S c.leave u [] := by
      unfold Cell.leave
      split
      · exact ⟨h.one, rfl⟩
      · rename_i hm
        have := h.mem_nil (by simpa using hm)
        rw [← this]; exact h
    exact .cons h1 ih

theorem CellsRel.free_nil {S : Nat → Prop} {cs : List Cell} {vs : List Value} {fp : List Nat} (h : CellsRel T w S cs vs fp) (hf : cs.all Cell.free = true) : fp = [] := by
  induction h with
  | nil => rfl
  | @cons c cs u us fp fp' h _ ih =>
    simp only [List.all_cons, Bool.and_eq_true] at hf
    have h1 : fp = [] := by
      have hf1 := hf.1
      unfold Cell.free at hf1
      simp only [Bool.or_eq_true, Bool.not_eq_true', beq_iff_eq] at hf1
      rcases hf1 with hm | hs
      · exact h.mem_nil hm
      · unfold CellRel at h; rw [hs] at h; exact h.2
    rw [h1, ih hf.2]; rfl

theorem take_sound (h : RelF T G base nt σ a w F fp us blk) {x : Operand} {g : Bool} {cs : List Cell} {ws : Ws} (he : (take x).ev D σ = some (g, cs, ws)) :
    ∃ vs fpx fp', RelF T G base nt (σ.setAll ws) a w (fpx ++ F) fp' us blk ∧ a.eval x = mkv g vs ∧ CellsRel T w (Sh w fp' (fpx ++ F)) cs vs fpx ∧ cs.any Cell.isGone = false ∧ (g = false → cs.length = 1) ∧ fpx.Nodup ∧
      (∀ b, Sh w fp F b → Sh w fp' (fpx ++ F) b) ∧ (∀ n, (∀ p, p ∈ ws → p.1 ≠ n) → fp' n = fp n) := by
  have free : ∀ {vs : List Value} {fq : List Nat}, cs.all Cell.free = true → a.eval x = mkv g vs → CellsRel T w (Sh w fp F) cs vs fq → cs.any Cell.isGone = false → (g = false → cs.length = 1) → ws = [] →
      ∃ vs fpx fp', RelF T G base nt (σ.setAll ws) a w (fpx ++ F) fp' us blk ∧ a.eval x = mkv g vs ∧ CellsRel T w (Sh w fp' (fpx ++ F)) cs vs fpx ∧ cs.any Cell.isGone = false ∧ (g = false → cs.length = 1) ∧ fpx.Nodup ∧
        (∀ b, Sh w fp F b → Sh w fp' (fpx ++ F) b) ∧ (∀ n, (∀ p, p ∈ ws → p.1 ≠ n) → fp' n = fp n) := by
    intro vs fq hf h1 h2 h3 h4 h5
    subst h5
    have := h2.free_nil hf
    subst this
    exact ⟨vs, [], fp, h, h1, h2, h3, h4, .nil, fun _ h => h, fun _ _ => rfl⟩
  unfold take at he
  split at he
  · rename_i v
    split at he
    · rename_i g' cs' hv
      simp at he
      obtain ⟨rfl, rfl, rfl⟩ := he
      obtain ⟨rfl, hc, hg, hl, hdp⟩ := valueSV_sound (T := T) (w := w) hv (Sh w fp F)
      exact ⟨[v], [], fp, h, rfl, hc, hg, fun _ => hl, .nil, fun _ h => h, fun _ _ => rfl⟩
    · simp at he
  · rename_i t
    simp only [R.ev_bind, R.ev_slot, Option.bind_some] at he
    have hs := h.slot t
    split at he
    · rename_i g' cs' hsv
      rw [hsv] at hs
      split at he
      · simp at he
      · rename_i hg
        have hg' : cs'.any Cell.isGone = false := by simpa using hg
        split at he
        · rename_i hf
          simp at he
          obtain ⟨rfl, rfl, rfl⟩ := he
          exact free hf hs.1 hs.2.1 hg' hs.2.2 rfl
        · simp at he
          obtain ⟨rfl, rfl, rfl⟩ := he
          have hre := h.re t (by rw [hsv]; exact SV.noConfusion) (.val g' (cs'.map Cell.leave)) ⟨(σ t).v.w, (σ t).v.c + 1⟩ (.inr ⟨rfl, by simp⟩) [] (us t) (fp t ++ F) .nil
            (List.nodup_append.2 ⟨h.nodup t, h.ndF, fun x hx y hy e => h.dF t x hx (e ▸ hy)⟩)
            (fun b hb => by rcases hb with hb | hb; · cases hb
                            · exact List.mem_append.1 hb) (fun b hb => by cases hb) (fun e => absurd e (h.ngh (by rw [hsv]; rfl)))
            ⟨by rw [upd_at]; exact hs.1, by rw [upd_at]; exact hs.2.1.leave, by rw [List.length_map]; exact hs.2.2⟩
          have hup : upd us t (us t) = us := by funext n; unfold upd; split <;> simp_all
          rw [hup] at hre
          have hSh : ∀ b, Sh w fp F b → Sh w (upd fp t []) (fp t ++ F) b := fun b hb =>
            ⟨hb.1, fun n hm => by
              by_cases e : n = t
              · subst e; rw [upd_at] at hm; cases hm
              · rw [upd_ne _ _ e] at hm; exact hb.2.1 n hm,
             fun hm => (List.mem_append.1 hm).elim (hb.2.1 t) hb.2.2⟩
          refine ⟨us t, fp t, upd fp t [], hre, hs.1, hs.2.1.same (fun _ _ => rfl) hSh (fun _ _ _ h => h), hg', hs.2.2, h.nodup t, hSh, fun n hn => upd_ne _ _ fun e => hn _ (List.mem_singleton.2 rfl) e.symm⟩
    · rename_i g' hh off n v hsv
      rw [hsv] at hs
      obtain ⟨_, _, hk, hal⟩ := hs
      have hsh := h.slot hh
      simp only [R.ev_bind, R.ev_slot, Option.bind_some] at he
      split at he
      · rename_i hv
        split at he
        · rename_i g2 all hsv2
          rw [hsv2] at hsh
          split at he
          · simp at he
          · rename_i hg
            split at he
            · simp at he
            · rename_i hlen
              simp only [R.ev_pure, Option.some.injEq, Prod.mk.injEq] at he
              obtain ⟨rfl, rfl, rfl⟩ := he
              have hg' : ((all.drop off).take n).any Cell.isGone = false := by simpa using hg
              have hlen' : ((all.drop off).take n).length = n := by simpa using hlen
              obtain ⟨f1, f2, f3, hf, c1, c2, c3⟩ := hsh.2.1.sub off n
              have hsp : CellsRel T w (Sh w fp F) (splice all off (((all.drop off).take n).map Cell.leave)) (us hh) (f1 ++ ([] ++ f3)) := by
                have := c1.append (c2.leave.append c3)
                have e1 : (us hh).take off ++ (((us hh).drop off).take n ++ ((us hh).drop off).drop n) = us hh := by rw [List.take_append_drop, List.take_append_drop]
                rw [e1] at this
                unfold splice
                rw [List.length_map, hlen', ← List.drop_drop, List.append_assoc]
                exact this
              have hnd := h.nodup hh
              rw [hf] at hnd
              have hnd' := List.nodup_append.1 hnd
              have hnd'' := List.nodup_append.1 hnd'.1
              have hre := h.re hh (by rw [hsv2]; exact SV.noConfusion) (.val g2 (splice all off (((all.drop off).take n).map Cell.leave))) ⟨(σ hh).v.w, (σ hh).v.c + 1⟩ (.inr ⟨rfl, by simp⟩) (f1 ++ ([] ++ f3)) (us hh) (f2 ++ F)
                (by simp only [List.nil_append]; exact List.nodup_append.2 ⟨hnd''.1, hnd'.2.1, fun x hx y hy => hnd'.2.2 x (by simp [hx]) y hy⟩)
                (List.nodup_append.2 ⟨hnd''.2.1, h.ndF, fun x hx y hy e => h.dF hh x (by rw [hf]; simp [hx]) (e ▸ hy)⟩)
                (fun b hb => by
                  rcases hb with hb | hb
                  · exact .inl (by rw [hf]; simp at hb ⊢; rcases hb with hb | hb <;> simp [hb])
                  · rcases List.mem_append.1 hb with hb | hb
                    · exact .inl (by rw [hf]; simp [hb])
                    · exact .inr hb)
                (fun b hb hm => by
                  simp only [List.nil_append, List.mem_append] at hb hm
                  rcases hm with hm | hm
                  · rcases hb with hb | hb
                    · exact hnd''.2.2 b hb b hm rfl
                    · exact hnd'.2.2 b (by simp [hm]) b hb rfl
                  · exact h.dF hh b (by rw [hf]; simp; rcases hb with hb | hb <;> simp [hb]) hm)
                (fun e => absurd e (h.ngh (by rw [hsv2]; rfl)))
                ⟨by rw [upd_at]; exact hsh.1, by rw [upd_at]; exact hsp, fun hgf => by
                  have e := hsh.2.2 hgf
                  have h3 : n ≤ all.length - off := by have := hlen'; rw [List.length_take, List.length_drop] at this; omega
                  have hl3 : (((all.drop off).take n).map Cell.leave).length = n := by rw [List.length_map]; exact hlen'
                  unfold splice
                  rw [List.length_append, List.length_append, hl3, List.length_take, List.length_drop]
                  omega⟩
              have hup : upd us hh (us hh) = us := by funext n; unfold upd; split <;> simp_all
              rw [hup] at hre
              have hSh : ∀ b, Sh w fp F b → Sh w (upd fp hh (f1 ++ ([] ++ f3))) (f2 ++ F) b := fun b hb =>
                ⟨hb.1, fun n hm => by
                  by_cases e : n = hh
                  · subst e; rw [upd_at] at hm; exact hb.2.1 n (by rw [hf]; simp at hm ⊢; rcases hm with hm | hm <;> simp [hm])
                  · rw [upd_ne _ _ e] at hm; exact hb.2.1 n hm,
                 fun hm => (List.mem_append.1 hm).elim (fun hm => hb.2.1 hh (by rw [hf]; simp [hm])) hb.2.2⟩
              exact ⟨_, f2, _, hre, hal hv, c2.same (fun _ _ => rfl) hSh (fun _ _ _ h => h), hg', fun hgf => by rw [hlen']; exact hk hgf, hnd''.2.1, hSh, fun n hn => upd_ne _ _ fun e => hn _ (List.mem_singleton.2 rfl) e.symm⟩
        · rename_i e2 all hsv2
          rw [hsv2] at hsh
          obtain ⟨hp, hblk, ⟨fq, hfq, hcq⟩, hty⟩ := hsh
          split at he
          · simp at he
          · rename_i hg
            split at he
            · simp at he
            · rename_i hlen
              simp only [R.ev_pure, Option.some.injEq, Prod.mk.injEq] at he
              obtain ⟨rfl, rfl, rfl⟩ := he
              have hg' : ((all.drop off).take n).any Cell.isGone = false := by simpa using hg
              have hlen' : ((all.drop off).take n).length = n := by simpa using hlen
              obtain ⟨f1, f2, f3, hf, c1, c2, c3⟩ := hcq.sub off n
              have hsp : CellsRel T w (Sh w fp F) (splice all off (((all.drop off).take n).map Cell.leave)) (us hh) (f1 ++ ([] ++ f3)) := by
                have := c1.append (c2.leave.append c3)
                have e1 : (us hh).take off ++ (((us hh).drop off).take n ++ ((us hh).drop off).drop n) = us hh := by rw [List.take_append_drop, List.take_append_drop]
                rw [e1] at this
                unfold splice
                rw [List.length_map, hlen', ← List.drop_drop, List.append_assoc]
                exact this
              have hct : ctsOf (splice all off (((all.drop off).take n).map Cell.leave)) = ctsOf all := by
                have hl : ∀ ys : List Cell, (ys.map Cell.leave).map (·.ct) = ys.map (·.ct) := fun ys => by
                  rw [List.map_map]; refine List.map_congr_left fun y _ => ?_; simp only [Function.comp, Cell.leave]; split <;> rfl
                unfold splice ctsOf
                rw [List.map_append, List.map_append, hl, List.length_map, hlen', ← List.map_append, ← List.map_append, ← List.drop_drop, List.append_assoc, List.take_append_drop, List.take_append_drop]
              have hnd := h.nodup hh
              rw [hfq, hf] at hnd
              have hndb := List.nodup_cons.1 hnd
              have hnd' := List.nodup_append.1 hndb.2
              have hnd'' := List.nodup_append.1 hnd'.1
              have hre := h.re hh (by rw [hsv2]; exact SV.noConfusion) (.bx e2 (splice all off (((all.drop off).take n).map Cell.leave))) ⟨(σ hh).v.w, (σ hh).v.c + 1⟩ (.inr ⟨rfl, by simp⟩) (blk hh :: (f1 ++ ([] ++ f3))) (us hh) (f2 ++ F)
                (List.nodup_cons.2 ⟨fun hm => hndb.1 (by simp at hm ⊢; rcases hm with hm | hm <;> simp [hm]),
                  by simp only [List.nil_append]; exact List.nodup_append.2 ⟨hnd''.1, hnd'.2.1, fun x hx y hy => hnd'.2.2 x (by simp [hx]) y hy⟩⟩)
                (List.nodup_append.2 ⟨hnd''.2.1, h.ndF, fun x hx y hy e => h.dF hh x (by rw [hfq, hf]; simp [hx]) (e ▸ hy)⟩)
                (fun b hb => by
                  rcases hb with hb | hb
                  · exact .inl (by rw [hfq, hf]; simp at hb ⊢; rcases hb with hb | hb | hb <;> simp [hb])
                  · rcases List.mem_append.1 hb with hb | hb
                    · exact .inl (by rw [hfq, hf]; simp [hb])
                    · exact .inr hb)
                (fun b hb hm => by
                  simp only [List.nil_append, List.mem_append, List.mem_cons] at hb hm
                  rcases hm with hm | hm
                  · rcases hb with hb | hb | hb
                    · exact hndb.1 (by simp [← hb, hm])
                    · exact hnd''.2.2 b hb b hm rfl
                    · exact hnd'.2.2 b (by simp [hm]) b hb rfl
                  · exact h.dF hh b (by rw [hfq, hf]; simp; rcases hb with hb | hb | hb <;> simp [hb]) hm)
                (fun e => absurd e (h.ngh (by rw [hsv2]; rfl)))
                ⟨hp, by rw [upd_at]; exact hblk, ⟨_, rfl, by rw [upd_at]; exact hsp⟩, hct.trans hty⟩
              have hup : upd us hh (us hh) = us := by funext n; unfold upd; split <;> simp_all
              rw [hup] at hre
              have hSh : ∀ b, Sh w fp F b → Sh w (upd fp hh (blk hh :: (f1 ++ ([] ++ f3)))) (f2 ++ F) b := fun b hb =>
                ⟨hb.1, fun n hm => by
                  by_cases e : n = hh
                  · subst e; rw [upd_at] at hm; exact hb.2.1 n (by rw [hfq, hf]; simp at hm ⊢; rcases hm with hm | hm | hm <;> simp [hm])
                  · rw [upd_ne _ _ e] at hm; exact hb.2.1 n hm,
                 fun hm => (List.mem_append.1 hm).elim (fun hm => hb.2.1 hh (by rw [hfq, hf]; simp [hm])) hb.2.2⟩
              exact ⟨_, f2, _, hre, hal hv, c2.same (fun _ _ => rfl) hSh (fun _ _ _ h => h), hg', fun hgf => by rw [hlen']; exact hk hgf, hnd''.2.1, hSh, fun n hn => upd_ne _ _ fun e => hn _ (List.mem_singleton.2 rfl) e.symm⟩
        · simp at he
      · simp at he
    · rename_i g' off n hsv
      rw [hsv] at hs
      obtain ⟨_, hk, hal⟩ := hs
      have hsh := h.slot gh
      simp only [R.ev_bind, R.ev_slot, Option.bind_some] at he
      split at he
      · rename_i all hsv2
        rw [hsv2] at hsh
        have hsh : CellsRel T w (Sh w fp F) all (us gh) (fp gh) := hsh
        split at he
        · simp at he
        · rename_i hg
          split at he
          · simp at he
          · rename_i hlen
            simp only [R.ev_pure, Option.some.injEq, Prod.mk.injEq] at he
            obtain ⟨rfl, rfl, rfl⟩ := he
            have hg' : ((all.drop off).take n).any Cell.isGone = false := by simpa using hg
            have hlen' : ((all.drop off).take n).length = n := by simpa using hlen
            obtain ⟨f1, f2, f3, hf, c1, c2, c3⟩ := hsh.sub off n
            have hsp : CellsRel T w (Sh w fp F) (splice all off (((all.drop off).take n).map Cell.leave)) (us gh) (f1 ++ ([] ++ f3)) := by
              have := c1.append (c2.leave.append c3)
              have e1 : (us gh).take off ++ (((us gh).drop off).take n ++ ((us gh).drop off).drop n) = us gh := by rw [List.take_append_drop, List.take_append_drop]
              rw [e1] at this
              unfold splice
              rw [List.length_map, hlen', ← List.drop_drop, List.append_assoc]
              exact this
            have hnd := h.nodup gh
            rw [hf] at hnd
            have hnd' := List.nodup_append.1 hnd
            have hnd'' := List.nodup_append.1 hnd'.1
            have hre := h.re gh (by rw [hsv2]; exact SV.noConfusion) (.gv (splice all off (((all.drop off).take n).map Cell.leave))) ⟨(σ gh).v.w, (σ gh).v.c + 1⟩ (.inr ⟨rfl, by simp⟩) (f1 ++ ([] ++ f3)) (us gh) (f2 ++ F)
              (by simp only [List.nil_append]; exact List.nodup_append.2 ⟨hnd''.1, hnd'.2.1, fun x hx y hy => hnd'.2.2 x (by simp [hx]) y hy⟩)
              (List.nodup_append.2 ⟨hnd''.2.1, h.ndF, fun x hx y hy e => h.dF gh x (by rw [hf]; simp [hx]) (e ▸ hy)⟩)
              (fun b hb => by
                rcases hb with hb | hb
                · exact .inl (by rw [hf]; simp at hb ⊢; rcases hb with hb | hb <;> simp [hb])
                · rcases List.mem_append.1 hb with hb | hb
                  · exact .inl (by rw [hf]; simp [hb])
                  · exact .inr hb)
              (fun b hb hm => by
                simp only [List.nil_append, List.mem_append] at hb hm
                rcases hm with hm | hm
                · rcases hb with hb | hb
                  · exact hnd''.2.2 b hb b hm rfl
                  · exact hnd'.2.2 b (by simp [hm]) b hb rfl
                · exact h.dF gh b (by rw [hf]; simp; rcases hb with hb | hb <;> simp [hb]) hm)
              (fun _ => ⟨rfl, rfl⟩)
              (show CellsRel T w (Sh w fp F) _ (upd us gh (us gh) gh) _ from by rw [upd_at]; exact hsp)
            have hup : upd us gh (us gh) = us := by funext n; unfold upd; split <;> simp_all
            rw [hup] at hre
            have hSh : ∀ b, Sh w fp F b → Sh w (upd fp gh (f1 ++ ([] ++ f3))) (f2 ++ F) b := fun b hb =>
              ⟨hb.1, fun n hm => by
                by_cases e : n = gh
                · subst e; rw [upd_at] at hm; exact hb.2.1 gh (by rw [hf]; simp at hm ⊢; rcases hm with hm | hm <;> simp [hm])
                · rw [upd_ne _ _ e] at hm; exact hb.2.1 n hm,
               fun hm => (List.mem_append.1 hm).elim (fun hm => hb.2.1 gh (by rw [hf]; simp [hm])) hb.2.2⟩
            exact ⟨_, f2, _, hre, hal, c2.same (fun _ _ => rfl) hSh (fun _ _ _ h => h), hg', fun hgf => by rw [hlen']; exact hk hgf, hnd''.2.1, hSh, fun n hn => upd_ne _ _ fun e => hn _ (List.mem_singleton.2 rfl) e.symm⟩
      · simp at he
    · simp at he
  · simp at he

/-! ### Slots written at the end -/
theorem setAll_append (σ : St) (ws ws' : Ws) : σ.setAll (ws ++ ws') = (σ.setAll ws).setAll ws' := by
  induction ws generalizing σ with
  | nil => rfl
  | cons p ws ih => exact ih _
theorem setAll_other (σ : St) (ws : Ws) (n : Nat) (h : ∀ p, p ∈ ws → p.1 ≠ n) : (σ.setAll ws) n = σ n := by
  induction ws generalizing σ with
  | nil => rfl
  | cons p ws ih =>
    show ((σ.set p.1 p.2).setAll ws) n = σ n
    rw [ih _ fun q hq => h q (List.mem_cons_of_mem _ hq), St.set_ne _ _ (Ne.symm (h p List.mem_cons_self))]

theorem put_ev {dst : Option Tmp} {sv : SV} {ws ws' : Ws} (he : (put dst sv ws).ev D σ = some ws') :
    (dst = none ∧ ws' = ws) ∨ ∃ d, dst = some d ∧ (∀ p, p ∈ ws → p.1 ≠ d) ∧ ws' = ws ++ [(d, ⟨sv, ⟨(σ d).v.w + 1, (σ d).v.c⟩⟩)] := by
  unfold put at he
  split at he
  · simp at he; exact .inl ⟨rfl, he.symm⟩
  · rename_i d
    simp only [R.ev_bind, R.ev_slot, Option.bind_some] at he
    split at he
    · simp at he
    · rename_i hn
      simp only [R.ev_pure, Option.some.injEq] at he
      refine .inr ⟨d, rfl, fun p hp e => hn ?_, he.symm⟩
      exact List.any_eq_true.2 ⟨p, hp, by simp [e]⟩

theorem finish_val {ws ws' : Ws} {dst : Option Tmp} {g : Bool} {cs : List Cell} {usn : List Value} {fpn : List Nat} (h : RelF T G base nt (σ.setAll ws) a w F fp us blk)
    (he : (put dst (.val g cs) ws).ev D σ = some ws') (hd : ∀ d, dst = some d → d < nt) (hc : CellsRel T w (Sh w fp F) cs usn fpn) (hn : fpn.Nodup) (hF : ∀ b, b ∈ fpn → b ∈ F) (hg : g = false → cs.length = 1) :
    Rel T G base nt (σ.setAll ws') (a.put dst (mkv g usn)) w := by
  rcases put_ev he with ⟨rfl, rfl⟩ | ⟨d, rfl, hne, rfl⟩
  · exact h.toRel
  · rw [setAll_append]
    have hσ := setAll_other σ ws d hne
    exact (h.put (hd d rfl) (mkv g usn) (.val g cs) ⟨(σ d).v.w + 1, (σ d).v.c⟩ (by rw [hσ]; simp) fpn usn (blk d) hn hF ⟨by rw [upd_at], by rw [upd_at]; exact hc, hg⟩).toRel

theorem finish_bx {ws ws' : Ws} {dst : Option Tmp} {e : TypeId} {cs : List Cell} {usn : List Value} {g : Nat} {fpn : List Nat} (h : RelF T G base nt (σ.setAll ws) a w F fp us blk)
    (he : (put dst (.bx e cs) ws).ev D σ = some ws') (hd : ∀ d, dst = some d → d < nt) (hb : Blk w g usn e) (hc : CellsRel T w (Sh w fp F) cs usn fpn) (hn : (g :: fpn).Nodup) (hF : ∀ b, b ∈ g :: fpn → b ∈ F) (ht : ctsOf cs = (T e).cts) :
    Rel T G base nt (σ.setAll ws') (a.put dst (.pointer (some ⟨g, 0, none⟩))) w := by
  rcases put_ev he with ⟨rfl, rfl⟩ | ⟨d, rfl, hne, rfl⟩
  · exact h.toRel
  · rw [setAll_append]
    have hσ := setAll_other σ ws d hne
    exact (h.put (hd d rfl) _ (.bx e cs) ⟨(σ d).v.w + 1, (σ d).v.c⟩ (by rw [hσ]; simp) (g :: fpn) usn g hn hF ⟨by rw [upd_at], by rw [upd_at, upd_at]; exact hb, ⟨fpn, by rw [upd_at], by rw [upd_at]; exact hc⟩, ht⟩).toRel

theorem finish_tup {ws ws' : Ws} {dst : Option Tmp} {vs : List (Bool × List Cell)} {uw : List Value} {fpn : List Nat} (h : RelF T G base nt (σ.setAll ws) a w F fp us blk)
    (he : (put dst (.tup vs) ws).ev D σ = some ws') (hd : ∀ d, dst = some d → d < nt) (hc : TupRel T w (Sh w fp F) vs uw fpn) (hn : fpn.Nodup) (hF : ∀ b, b ∈ fpn → b ∈ F) :
    Rel T G base nt (σ.setAll ws') (a.put dst (.tuple uw.toArray)) w := by
  rcases put_ev he with ⟨rfl, rfl⟩ | ⟨d, rfl, hne, rfl⟩
  · exact h.toRel
  · rw [setAll_append]
    have hσ := setAll_other σ ws d hne
    exact (h.put (hd d rfl) _ (.tup vs) ⟨(σ d).v.w + 1, (σ d).v.c⟩ (by rw [hσ]; simp) fpn [] 0 hn hF ⟨uw, rfl, hc⟩).toRel

def SV.light : SV → Bool | .al .. | .fa .. | .ea .. | .clo .. | .gal .. | .sub .. => true | _ => false

theorem finish_light {ws ws' : Ws} {dst : Option Tmp} {sv : SV} {u : Value} (h : RelF T G base nt (σ.setAll ws) a w F fp us blk)
    (he : (put dst sv ws).ev D σ = some ws') (hd : ∀ d, dst = some d → d < nt) (hl : sv.light = true) (hs : ∀ n, SlotRel T w (Sh w fp F) (fun n => ((σ.setAll ws) n).v) us blk n u [] sv) :
    Rel T G base nt (σ.setAll ws') (a.put dst u) w := by
  rcases put_ev he with ⟨rfl, rfl⟩ | ⟨d, rfl, hne, rfl⟩
  · exact h.toRel
  · rw [setAll_append]
    have hσ := setAll_other σ ws d hne
    refine (h.put (hd d rfl) u sv ⟨(σ d).v.w + 1, (σ d).v.c⟩ (by rw [hσ]; simp) [] (us d) (blk d) .nil (fun _ h => by cases h) ?_).toRel
    have := (hs (d + 1)).other (d := d) (vers' := upd (fun n => ((σ.setAll ws) n).v) d ⟨(σ d).v.w + 1, (σ d).v.c⟩) (us' := upd us d (us d)) (blk' := upd blk d (blk d)) (by omega)
      (fun m hm => upd_ne _ _ hm) (.inl (by rw [upd_at, hσ]; simp)) (fun m hm => upd_ne _ _ hm) (fun m hm => upd_ne _ _ hm) (upd_gh fun _ => rfl)
    cases sv with
    | al => exact this
    | fa => exact this
    | ea => exact this
    | clo => exact this
    | gal => exact this
    | sub => exact this
    | _ => cases hl
end

end Go.Proofs.Ytabdjbkbfilhkaa.V
