import Derived.Test.YtlombmcoklbfoaaV38
import Derived.Shelf.Strings.BuilderK
namespace Go.Proofs.Ytlombmcoklbfoaa.V
open Go Go.RowKit Go.Shelf

theorem answers_of_calls {P : Program} (hN : NamesOk P) {f : FuncId} {fn : Func} {c : Code} (hf : P.funcs[f]? = some fn) (hb : fn.body = some c) {vals : Array Value} {w : World} {R : Value → World → Prop}
    (h : Calls P f vals w fun e w' => ∃ v, e = .returned v ∧ R v w') : Answers P f vals w R := by
  intro o a next Q hnext
  have hrun : (callFunc f vals).run P w = .ok (.enter f vals) w := by
    have hn : ¬ fn.name = "runtime.NumGoroutine" := by simpa using hN f fn hf
    simp [callFunc, hf, hn, hb]
  rw [hrun, Oper.upon_enter]
  refine h.mono fun e w' he => ?_
  obtain ⟨v, rfl, h⟩ := he
  exact hnext v w' h

def PlainRes (T : Tab) (w : World) (S : Nat → Prop) (r : Res) (v : Value) (w' : World) : Prop :=
  ∃ fq, ResRel T w' (fun b => b < w'.heap.size ∧ (S b ∨ w.heap.size ≤ b) ∧ b ∉ fq) r v fq ∧ fq.Nodup ∧ (∀ b, b ∈ fq → w.heap.size ≤ b ∧ b < w'.heap.size) ∧ Below w.heap.size w w'

theorem DOk.alsoC {P : Program} {T : Tab} {D : Dt} (hN : NamesOk P) (hD : DOk P T D) {f : FuncId} {fn : Func} {c : Code} (hf : P.funcs[f]? = some fn) (hb : fn.body = some c) {S : List Arg → Option (Bool × Res)}
    (he : ∀ xs r, S xs = some (true, r) → ∀ (w : World) (S' : Nat → Prop) (vals : List Value), (∀ b, S' b → b < w.heap.size) → intGl T w → ArgsRel T w S' xs vals →
      Calls P f vals.toArray w fun e w' => ∃ v, e = .returned v ∧ PlainRes T w S' r v w') : DOk P T (V.also D f S) := by
  refine ⟨fun g xs r hr => ?_, fun g a0 ys gg ds r hr => hD.wri g a0 ys gg ds r ?_, hD.meth⟩
  · unfold V.also at hr
    cases hg : (Nat.beq g f && !isMark xs) with
    | false => rw [hg] at hr; exact hD.plain g xs r hr
    | true =>
      rw [hg] at hr
      simp only [cond_true] at hr
      cases hS : S xs with
      | none => rw [hS] at hr; exact hD.plain g xs r hr
      | some p =>
        rw [hS] at hr
        have hgf := Nat.eq_of_beq_eq_true (Bool.and_eq_true_iff.1 hg).1
        subst hgf
        intro w S' vals hS' hargs
        refine answers_of_calls hN hf hb ?_
        exact he xs r (hS.trans hr) w S' vals hS'.1 hS'.2 hargs
  · unfold V.also at hr
    have : (Nat.beq g f && !isMark (mark :: a0 :: ys)) = false := by rw [show isMark (mark :: a0 :: ys) = true from rfl]; simp
    rw [this] at hr
    exact hr

/-! ### Arguments and results, one by one -/
section
variable {T : Tab} {w w' : World} {S : Nat → Prop}
theorem args_nil {us : List Value} (h : ArgsRel T w S [] us) : us = [] := by cases h; rfl
theorem args_cons {x : Arg} {xs : List Arg} {us : List Value} (h : ArgsRel T w S (x :: xs) us) : ∃ u us', us = u :: us' ∧ ArgRel T w S x u ∧ ArgsRel T w S xs us' := by
  cases h with
  | cons h1 h2 => exact ⟨_, _, rfl, h1, h2⟩
theorem cells_nil_fp {c : Cell} {cs : List Cell} {us : List Value} {fp : List Nat} (h : CellsRel T w S (c :: cs) us fp) (hf : fp = []) : ∃ u us', us = u :: us' ∧ CellRel T w S c u [] ∧ CellsRel T w S cs us' [] := by
  cases h with
  | cons h1 h2 =>
    obtain ⟨e1, e2⟩ := List.append_eq_nil_iff.1 hf
    subst e1 e2
    exact ⟨_, _, rfl, h1, h2⟩
theorem arg_rep {ct : CT} {c : TC} {u : Value} (h : ArgRel T w S (false, [(ct, c)]) u) : RepC T w S ct u c := by
  obtain ⟨us, h1, h2, _⟩ := h
  obtain ⟨u0, us', rfl, h3, h4⟩ := cells_nil_fp h2 rfl
  cases h4
  rw [h1]
  exact h3.1
theorem rep_str' {u : Value} {l : List UInt8} (h : RepC T w S .str u (.s l)) : u = .string ⟨l.toArray⟩ := by cases h; rfl
theorem rep_int' {k : IntKind} {u : Value} {n : Int} (h : RepC T w S (.int k) u (.i n)) : u = .int k n := by cases h; rfl
theorem plain_flat {ct : CT} {c : TC} {v : Value} (hm : ct.mem = false) (h : RepC T w' (fun _ => False) ct v c) (hb : Below w.heap.size w w') : PlainRes T w S [(false, [⟨ct, .sh, c⟩])] v w' := by
  refine ⟨[], ⟨⟨[v], rfl, .cons (fp := []) (fp' := []) ⟨h.flat hm, rfl⟩ .nil, fun _ => rfl⟩, fun x hx => ?_⟩, List.nodup_nil, (fun _ h => by cases h), hb⟩
  rw [List.mem_singleton.1 hx]; rfl
end

/-! ### strings.Builder -/
theorem Blk.set {w : World} {g : Nat} {cur : List Value} {e : TypeId} (h : Blk w g cur e) (j : Nat) (v : Value) : Blk (w.setCell ⟨g, j, none⟩ v) g (cur.set j v) e := by
  obtain ⟨fr, hh, hf⟩ := h
  refine ⟨fr, ?_, by simpa using hf⟩
  simp [World.setCell, Array.getElem?_modify, hh]
theorem Chg.set (w : World) (g j : Nat) (v : Value) : Chg w (w.setCell ⟨g, j, none⟩ v) [g] :=
  ⟨rfl, rfl, rfl, by simp [World.setCell], fun k hk hn => Below.heap_setCell _ _ _ _ (by simpa using hn)⟩
theorem size_set (w : World) (g j : Nat) (v : Value) : (w.setCell ⟨g, j, none⟩ v).heap.size = w.heap.size := by simp [World.setCell]
theorem Blk.shape {w : World} {g : Nat} {cur : List Value} {e : TypeId} (h : Blk w g cur e) : w.shape? g = some (e, cur.length) := by
  obtain ⟨fr, hh, _⟩ := h
  simp [World.shape?, hh]

section
variable {P : Program} {ρ : Ren} {T : Tab}

theorem bld_check (L : Lays.n240 P ρ) (X : Builder.X72 P ρ) {w : World} {b : Nat} {p v : Value} (hb : Blk w b [p, v] (ρ.t 72)) (hp : p = .pointer none ∨ p = .pointer (some ⟨b, 0, none⟩)) :
    Calls P (ρ.f 240) #[.pointer (some ⟨b, 0, none⟩)] w fun e w' => e = .returned (.tuple #[]) ∧ Blk w' b [.pointer (some ⟨b, 0, none⟩), v] (ρ.t 72) ∧ Chg w w' [b] ∧ w'.heap.size = w.heap.size := by
  rcases hp with rfl | rfl
  · refine (Any.Builder_copyCheck_fresh L X b w (hb.cell 0) hb.shape (hb.frozen 0 (by simp))).mono ?_
    rintro e w' ⟨rfl, rfl⟩
    exact ⟨rfl, hb.set 0 _, Chg.set _ _ _ _, size_set _ _ _ _⟩
  · refine (Any.Builder_copyCheck_used L X b w (hb.cell 0)).mono ?_
    rintro e w' ⟨rfl, rfl⟩
    exact ⟨rfl, hb, Chg.refl _ _, rfl⟩

theorem wpList_append_at {w : World} {ops : Array Oper} {rest : List Oper} {o : Oper} {a : Act} {Q : Exit → Act → World → Prop} (hgd : o.guard = none) (sl x : Operand) (t u : TypeId)
    (ho : o.op = .call { callee := .builtin .append, args := #[sl, x], argTypes := #[t, u] }) {v y : Value} (hs : a.eval sl = v) (hx : a.eval x = y) {v' : Value} {w' : World}
    (hr : (Builtin.append_ #[t, u] o.type #[v, y]).run P w = .ok v' w') (h : wpList P ops Q rest (a.put o.dst v') w') : wpList P ops Q (o :: rest) a w := by
  refine wpList_plain hgd fun K hK => ?_
  unfold Oper.wp execOp
  simp only [ho, resolve, invoke, builtin, Sem.run_bind, Sem.run_pure, Result.andThen_ok, List.map_toArray, List.map_cons, List.map_nil, hs, hx, hr]
  exact hK _ _ h

theorem bytesRow_append (l s : List UInt8) : bytesRow (l ++ s) = bytesRow l ++ bytesRow s := by simp [bytesRow]
theorem bytesRow_len (l : List UInt8) : (bytesRow l).length = l.length := by simp [bytesRow]

theorem own_form {w : World} {e : TypeId} {v : Value} {c : TC} {fq : List Nat} (h : OwnC T w (.slice e) v c fq) : ∃ ao n' cap, v = .slice ao n' cap := by
  cases h with
  | flat _ _ _ hm => simp [CT.mem] at hm
  | nil => exact ⟨_, _, _, rfl⟩
  | slice => exact ⟨_, _, _, rfl⟩
theorem own_int {w : World} {k : IntKind} {u : Value} {n : Int} {fq : List Nat} (h : OwnC T w (.int k) u (.i n) fq) : u = .int k n := by
  cases h with
  | flat _ _ _ _ h => exact rep_int h
theorem own_len {w : World} {e : TypeId} {v : Value} {xs : List (List TC)} {fq : List Nat} (h : OwnC T w (.slice e) v (.l xs) fq) : ∃ ao cap, v = .slice ao xs.length cap := by
  cases h with
  | flat _ _ _ hm => simp [CT.mem] at hm
  | nil => exact ⟨_, _, rfl⟩
  | slice => exact ⟨_, _, rfl⟩

set_option maxHeartbeats 4000000 in
set_option maxRecDepth 100000 in
theorem bld_write (L : Lays.n166 P ρ) (X : Builder.Extra P ρ) (hT : TabOk P T) (hk5 : (T (ρ.t 5)).kind = .int .u8) (hc5 : (T (ρ.t 5)).cts = [.int .u8]) (hb5 : (T (ρ.t 5)).bytes = 1) {w : World} {b : Nat} {l s : List UInt8} {fp : List Nat}
    (h : IsBld T w (ρ.t 72) (ρ.t 5) b l fp) (hnd : fp.Nodup) (hlen : l.length + s.length ≤ 140737488355328) :
    Calls P (ρ.f 166) #[.pointer (some ⟨b, 0, none⟩), .string ⟨s.toArray⟩] w fun e w' => ∃ v, e = .returned v ∧ ∃ fp', IsBld T w' (ρ.t 72) (ρ.t 5) b (l ++ s) fp' ∧ fp'.Nodup ∧ (∀ x, x ∈ fp' → x ∈ fp ∨ (w.heap.size ≤ x ∧ x < w'.heap.size)) ∧ Chg w w' fp := by
  obtain ⟨hk, p, v, fq, hb, hp, rfl, hown⟩ := h
  obtain ⟨hbn, hqn⟩ := List.nodup_cons.1 hnd
  obtain ⟨ie, hie⟩ := hT (ρ.t 5) (by rw [hk5]; rfl)
  have hz : zeroCells (T (ρ.t 5)).cts = some [⟨.int .u8, .own true, .i 0⟩] := by rw [hc5]; rfl
  have mixed := L.mixed
  have t72 := L.t72; have a72 := L.a72; have z72 := L.z72; have v72 := L.v72; have u72 := run_underlying L.t72
  have t70 := L.t70; have a70 := L.a70; have z70 := L.z70; have v70 := L.v70; have u70 := run_underlying L.t70
  have t37 := L.t37; have a37 := L.a37; have z37 := L.z37; have v37 := L.v37; have u37 := run_underlying L.t37
  have t3 := L.t3; have a3 := L.a3; have z3 := L.z3; have v3 := L.v3; have u3 := run_underlying L.t3
  have t9 := L.t9; have a9 := L.a9; have z9 := L.z9; have v9 := L.v9; have u9 := run_underlying L.t9
  have t4 := L.t4; have a4 := L.a4; have z4 := L.z4; have v4 := L.v4; have u4 := run_underlying L.t4
  have t164 := L.t164; have a164 := L.a164; have z164 := L.z164; have v164 := L.v164; have u164 := run_underlying L.t164
  have t5 := X.t5; have a5 := X.a5; have z5 := X.z5; have v5 := X.v5; have u5 := run_underlying X.t5
  have e240 : ∀ args w, (callFunc (ρ.f 240) args).run P w = .ok (.enter (ρ.f 240) args) w := enters_of L.f240 (by kernel_rfl) rfl
  go_enter L.f166, Body.n166_ntmps ρ
  go_wp2_with (go_at_fn (ρ.f 240); refine (bld_check { L with } X.toX72 hb hp).mono ?_)
  rintro e w1 ⟨rfl, hb1, hch1, hsz1⟩
  have hown1 : OwnC T w1 (.slice (ρ.t 5)) v (.l (bytesRow l)) fq := hown.same fun x hx => hch1.block x (hown.lt x hx) (fun hm => hbn (by rw [List.mem_singleton.1 hm] at hx; exact hx))
  have c0 : w1.cell? ⟨b, 0, none⟩ = some (.pointer (some ⟨b, 0, none⟩)) := hb1.cell 0
  have c1 : w1.cell? ⟨b, 1, none⟩ = some v := hb1.cell 1
  obtain ⟨s1, s2, s3⟩ := src_string (P := P) (T := T) (w := w1) (S := fun _ => False) (tx := ρ.t 9) (e := ρ.t 5) L.t9 hc5 s
  have hrow : CellRel T w1 (fun _ => False) ⟨.slice (ρ.t 5), .own true, .l (bytesRow l)⟩ v fq := hown1
  have hcore := fun ty => app_core (P := P) (T := T) (w := w1) (t := ρ.t 37) (tx := ρ.t 9) (ty := ty) (deep := true) hT L.t37 (by rw [hk5]; rfl) hie hz (by rw [hc5]; simp) s1 hrow s2 (rowCells_gone (by simp)) (rowCells_ct _ _ _) (fun _ => rowCells_flat (by rw [hc5]; rfl)) (fun _ => rfl)
    (by rw [bytesRow_len, bytesRow_len]; refine ⟨?_, ?_⟩ <;> (try rw [hb5]) <;> push_cast <;> omega) (fun _ h => h.elim) (fun _ h => by cases h) hqn .nil
  obtain ⟨v', w2, N, fq', hrun, hch2, hN, hNn, hfq', hfqn, hrel⟩ := hcore (ρ.t 37)
  rw [rowCells_raw _ (by rw [hc5]; simp) s3, ← bytesRow_append] at hrel
  have hrel2 : OwnC T w2 (.slice (ρ.t 5)) v' (.l (bytesRow (l ++ s))) fq' := hrel (fun _ => False) (fun _ h => h)
  have hv' : ∃ ao n' cap, v' = .slice ao n' cap := own_form hrel2
  obtain ⟨ao, n', cap, rfl⟩ := hv'
  have hb2 : Blk w2 b [.pointer (some ⟨b, 0, none⟩), v] (ρ.t 72) := hch2.blk hb1 hbn
  have d0 : w2.cell? ⟨b, 0, none⟩ = some (.pointer (some ⟨b, 0, none⟩)) := hb2.cell 0
  have d1 : w2.cell? ⟨b, 1, none⟩ = some v := hb2.cell 1
  have f1 : w2.frozen? ⟨b, 1, none⟩ = false := hb2.frozen 1 (by simp)
  have hbq : b ∉ fq' := fun hm => by
    rcases hfq' b hm with hm | hm
    · rw [List.append_nil] at hm; exact hbn hm
    · have := (hN b hm).1; have := hb1.lt; omega
  have fin : ∃ fp', IsBld T (w2.setCell ⟨b, 1, none⟩ (.slice ao n' cap)) (ρ.t 72) (ρ.t 5) b (l ++ s) fp' ∧ fp'.Nodup ∧ (∀ x, x ∈ fp' → x ∈ b :: fq ∨ (w.heap.size ≤ x ∧ x < (w2.setCell ⟨b, 1, none⟩ (.slice ao n' cap)).heap.size)) ∧ Chg w (w2.setCell ⟨b, 1, none⟩ (.slice ao n' cap)) (b :: fq) := by
    have hc3 := Chg.set w2 b 1 (.slice ao n' cap)
    refine ⟨b :: fq', ⟨hk, _, _, fq', hb2.set 1 _, .inr rfl, rfl, hrel2.same fun x hx => hc3.block x (hrel2.lt x hx) (fun hm => hbq (by rw [List.mem_singleton.1 hm] at hx; exact hx))⟩, List.nodup_cons.2 ⟨hbq, hfqn⟩, fun x hx => ?_, ?_⟩
    · rcases List.mem_cons.1 hx with rfl | hx
      · exact .inl List.mem_cons_self
      · rcases hfq' x hx with hm | hm
        · rw [List.append_nil] at hm; exact .inl (List.mem_cons_of_mem _ hm)
        · obtain ⟨q1, q2⟩ := hN x hm
          exact .inr ⟨by omega, by rw [size_set]; exact q2⟩
    · exact ((hch1.mono (fun g hg => by rw [List.mem_singleton.1 hg]; exact List.mem_cons_self)).trans (hch2.mono fun g hg => List.mem_cons_of_mem _ hg)).trans (hc3.mono (fun g hg => by rw [List.mem_singleton.1 hg]; exact List.mem_cons_self))
  go_wp2_with (at_builtin; refine wpList_append_at rfl _ _ (ρ.t 37) (ρ.t 9) rfl rfl rfl hrun ?_)
  go_ret2
  exact ⟨_, rfl, fin⟩

set_option maxHeartbeats 1000000 in
set_option maxRecDepth 100000 in
theorem bld_len (L : Lays.n170 P ρ) {w : World} {b : Nat} {l : List UInt8} {fp : List Nat} (h : IsBld T w (ρ.t 72) (ρ.t 5) b l fp) :
    Calls P (ρ.f 170) #[.pointer (some ⟨b, 0, none⟩)] w fun e w' => ∃ v, e = .returned v ∧ v = .int .i64 (l.length : Int) ∧ Chg w w' [] := by
  obtain ⟨hk, p, v, fq, hb, hp, rfl, hown⟩ := h
  obtain ⟨ao, cap, rfl⟩ := own_len hown
  rw [bytesRow_len] at hb hown
  have c1 : w.cell? ⟨b, 1, none⟩ = some (.slice ao l.length cap) := hb.cell 1
  have mixed := L.mixed
  have t72 := L.t72; have a72 := L.a72; have z72 := L.z72; have v72 := L.v72; have u72 := run_underlying L.t72
  have t70 := L.t70; have a70 := L.a70; have z70 := L.z70; have v70 := L.v70; have u70 := run_underlying L.t70
  have t37 := L.t37; have a37 := L.a37; have z37 := L.z37; have v37 := L.v37; have u37 := run_underlying L.t37
  have t3 := L.t3; have a3 := L.a3; have z3 := L.z3; have v3 := L.v3; have u3 := run_underlying L.t3
  go_enter L.f170, Body.n170_ntmps ρ
  go_wp2
  go_ret
  exact ⟨_, rfl, rfl, Chg.refl _ _⟩

theorem Chg.freeze (w : World) (g n : Nat) : Chg w (w.freeze ⟨g, 0, none⟩ n) [g] := by
  unfold World.freeze
  split
  · exact Chg.refl _ _
  · exact ⟨rfl, rfl, rfl, by simp, fun k hk hn => by
      simp only [Array.getElem?_modify]
      rw [if_neg (fun e => hn (by simp [e]))]⟩

set_option maxHeartbeats 2000000 in
set_option maxRecDepth 100000 in
theorem bld_read_some (L : Lays.n169 P ρ) (X : Builder.Extra P ρ) {w : World} {b g cap : Nat} {p : Value} {l : List UInt8} {cur : List Value} (hb : Blk w b [p, .slice (some ⟨g, 0, none⟩) l.length cap] (ρ.t 72)) (hg : Blk w g cur (ρ.t 5)) (h0 : l ≠ [])
    (hl : l.length ≤ cap) (hcm : cap ≤ maxLen) (hcl : cur.length = cap) (hcell : ∀ (j : Nat) (x : UInt8), l[j]? = some x → cur[j]? = some (Value.int .u8 (x.toNat : Int))) :
    Calls P (ρ.f 169) #[.pointer (some ⟨b, 0, none⟩)] w fun e w' => ∃ v, e = .returned v ∧ v = .string ⟨l.toArray⟩ ∧ Chg w w' [g] := by
  have hl0 : l.length ≠ 0 := by simpa using h0
  have c1 : w.drew.cell? ⟨b, 1, none⟩ = some (.slice (some ⟨g, 0, none⟩) l.length cap) := hb.cell 1
  have hSD : (Builtin.unsafeSliceData_ #[(ρ.t 37)] (ρ.t 127) #[.slice (some ⟨g, 0, none⟩) l.length cap]).run P w.drew = .ok (.pointer (some ⟨g, 0, none⟩)) w.drew :=
    Lib.run_unsafeSliceData_row _ _ _ _ _ _ (by omega)
  have hUS : (Builtin.unsafeString_ #[(ρ.t 127), (ρ.t 3)] (ρ.t 9) #[.pointer (some ⟨g, 0, none⟩), .int .i64 l.length]).run P w.drew = .ok (.string ⟨l.toArray⟩) (w.drew.freeze ⟨g, 0, none⟩ l.length) := by
    refine Lib.run_unsafeString_row w.drew (ρ.t 127) (ρ.t 3) (ρ.t 9) (ρ.t 5) L.t127 X.cellsByte g cur.length hg.shape l h0 (by omega) (by unfold maxLen at hcm; omega) ?_
    intro j x hx
    rw [add_zero_block]
    exact (hg.cell j).trans (hcell j x hx)
  have fin : Chg w (w.drew.freeze ⟨g, 0, none⟩ l.length) [g] := (Chg.drew w _).trans (Chg.freeze _ _ _)
  have mixed := L.mixed
  have t72 := L.t72; have a72 := L.a72; have z72 := L.z72; have v72 := L.v72; have u72 := run_underlying L.t72
  have t70 := L.t70; have a70 := L.a70; have z70 := L.z70; have v70 := L.v70; have u70 := run_underlying L.t70
  have t37 := L.t37; have a37 := L.a37; have z37 := L.z37; have v37 := L.v37; have u37 := run_underlying L.t37
  have t127 := L.t127; have a127 := L.a127; have z127 := L.z127; have v127 := L.v127; have u127 := run_underlying L.t127
  have t3 := L.t3; have a3 := L.a3; have z3 := L.z3; have v3 := L.v3; have u3 := run_underlying L.t3
  have t9 := L.t9; have a9 := L.a9; have z9 := L.z9; have v9 := L.v9; have u9 := run_underlying L.t9
  have t5 := X.t5; have a5 := X.a5; have z5 := X.z5; have v5 := X.v5; have u5 := run_underlying X.t5
  go_enter L.f169, Body.n169_ntmps ρ
  go_wp2
  go_region_o
  all_goals (go_wp2; go_ret; exact ⟨_, rfl, rfl, fin⟩)

set_option maxHeartbeats 2000000 in
set_option maxRecDepth 100000 in
theorem bld_read_nil (L : Lays.n169 P ρ) (X : Builder.Extra P ρ) {w : World} {b : Nat} {p : Value} (hb : Blk w b [p, .slice none 0 0] (ρ.t 72)) :
    Calls P (ρ.f 169) #[.pointer (some ⟨b, 0, none⟩)] w fun e w' => ∃ v, e = .returned v ∧ v = .string ⟨#[]⟩ ∧ Chg w w' [] := by
  have hUS := Any.unsafeString_none L X
  have c1 : w.drew.cell? ⟨b, 1, none⟩ = some (.slice none 0 0) := hb.cell 1
  have hSD : (Builtin.unsafeSliceData_ #[(ρ.t 37)] (ρ.t 127) #[.slice none 0 0]).run P w.drew = .ok (.pointer none) w.drew := rfl
  have fin : Chg w w.drew [] := Chg.drew w _
  have mixed := L.mixed
  have t72 := L.t72; have a72 := L.a72; have z72 := L.z72; have v72 := L.v72; have u72 := run_underlying L.t72
  have t70 := L.t70; have a70 := L.a70; have z70 := L.z70; have v70 := L.v70; have u70 := run_underlying L.t70
  have t37 := L.t37; have a37 := L.a37; have z37 := L.z37; have v37 := L.v37; have u37 := run_underlying L.t37
  have t127 := L.t127; have a127 := L.a127; have z127 := L.z127; have v127 := L.v127; have u127 := run_underlying L.t127
  have t3 := L.t3; have a3 := L.a3; have z3 := L.z3; have v3 := L.v3; have u3 := run_underlying L.t3
  have t9 := L.t9; have a9 := L.a9; have z9 := L.z9; have v9 := L.v9; have u9 := run_underlying L.t9
  have t5 := X.t5; have a5 := X.a5; have z5 := X.z5; have v5 := X.v5; have u5 := run_underlying X.t5
  go_enter L.f169, Body.n169_ntmps ρ
  go_wp2
  go_region_o
  all_goals (go_wp2; go_ret; exact ⟨_, rfl, rfl, fin⟩)

set_option maxHeartbeats 2000000 in
set_option maxRecDepth 100000 in
theorem bld_read_noroom (L : Lays.n169 P ρ) (X : Builder.Extra P ρ) {w : World} {b g : Nat} {p : Value} {cur : List Value} (hb : Blk w b [p, .slice (some ⟨g, 0, none⟩) 0 0] (ρ.t 72)) (hg : Blk w g cur (ρ.t 5)) :
    Calls P (ρ.f 169) #[.pointer (some ⟨b, 0, none⟩)] w fun e w' => ∃ v, e = .returned v ∧ v = .string ⟨#[]⟩ ∧ Chg w w' [] := by
  have hUS := Any.unsafeString_none L X
  have hlt := hb.lt
  have c1 : w.drew.cell? ⟨b, 1, none⟩ = some (.slice (some ⟨g, 0, none⟩) 0 0) := hb.cell 1
  have hSD : (Builtin.unsafeSliceData_ #[(ρ.t 37)] (ρ.t 127) #[.slice (some ⟨g, 0, none⟩) 0 0]).run P w.drew = .ok (.pointer (some ⟨w.drew.heap.size, 0, none⟩)) (w.drew.alloc (.view ⟨g, 0, none⟩ (ρ.t 5))) :=
    Lib.run_unsafeSliceData_zero w.drew _ _ (ρ.t 5) L.t127 ⟨g, 0, none⟩ 0 ((ρ.t 5), cur.length) hg.shape
  have c2 : (w.drew.alloc (.view ⟨g, 0, none⟩ (ρ.t 5))).cell? ⟨b, 1, none⟩ = some (.slice (some ⟨g, 0, none⟩) 0 0) := (Chg.alloc w.drew _ []).cell c1 (by simp)
  have c3 : (w.alloc (.view ⟨g, 0, none⟩ (ρ.t 5))).drew.cell? ⟨b, 1, none⟩ = some (.slice (some ⟨g, 0, none⟩) 0 0) := c2
  have c0 : w.cell? ⟨b, 1, none⟩ = some (.slice (some ⟨g, 0, none⟩) 0 0) := c1
  have fin : Chg w (w.drew.alloc (.view ⟨g, 0, none⟩ (ρ.t 5))) [] := (Chg.drew w _).trans (Chg.alloc _ _ _)
  have mixed := L.mixed
  have t72 := L.t72; have a72 := L.a72; have z72 := L.z72; have v72 := L.v72; have u72 := run_underlying L.t72
  have t70 := L.t70; have a70 := L.a70; have z70 := L.z70; have v70 := L.v70; have u70 := run_underlying L.t70
  have t37 := L.t37; have a37 := L.a37; have z37 := L.z37; have v37 := L.v37; have u37 := run_underlying L.t37
  have t127 := L.t127; have a127 := L.a127; have z127 := L.z127; have v127 := L.v127; have u127 := run_underlying L.t127
  have t3 := L.t3; have a3 := L.a3; have z3 := L.z3; have v3 := L.v3; have u3 := run_underlying L.t3
  have t9 := L.t9; have a9 := L.a9; have z9 := L.z9; have v9 := L.v9; have u9 := run_underlying L.t9
  have t5 := X.t5; have a5 := X.a5; have z5 := X.z5; have v5 := X.v5; have u5 := run_underlying X.t5
  go_enter L.f169, Body.n169_ntmps ρ
  go_wp2
  go_region_o
  all_goals (go_wp2; go_ret; exact ⟨_, rfl, rfl, fin⟩)

set_option maxHeartbeats 2000000 in
set_option maxRecDepth 100000 in
theorem bld_read_room (L : Lays.n169 P ρ) (X : Builder.Extra P ρ) {w : World} {b g cap : Nat} {p : Value} (hc0 : cap ≠ 0) (hb : Blk w b [p, .slice (some ⟨g, 0, none⟩) 0 cap] (ρ.t 72)) :
    Calls P (ρ.f 169) #[.pointer (some ⟨b, 0, none⟩)] w fun e w' => ∃ v, e = .returned v ∧ v = .string ⟨#[]⟩ ∧ Chg w w' [] := by
  have hUS := Any.unsafeString_none L X
  have c1 : w.drew.cell? ⟨b, 1, none⟩ = some (.slice (some ⟨g, 0, none⟩) 0 cap) := hb.cell 1
  have hSD : (Builtin.unsafeSliceData_ #[(ρ.t 37)] (ρ.t 127) #[.slice (some ⟨g, 0, none⟩) 0 cap]).run P w.drew = .ok (.pointer (some ⟨g, 0, none⟩)) w.drew :=
    Lib.run_unsafeSliceData_row _ _ _ _ _ _ hc0
  clear hc0
  have fin : Chg w w.drew [] := Chg.drew w _
  have mixed := L.mixed
  have t72 := L.t72; have a72 := L.a72; have z72 := L.z72; have v72 := L.v72; have u72 := run_underlying L.t72
  have t70 := L.t70; have a70 := L.a70; have z70 := L.z70; have v70 := L.v70; have u70 := run_underlying L.t70
  have t37 := L.t37; have a37 := L.a37; have z37 := L.z37; have v37 := L.v37; have u37 := run_underlying L.t37
  have t127 := L.t127; have a127 := L.a127; have z127 := L.z127; have v127 := L.v127; have u127 := run_underlying L.t127
  have t3 := L.t3; have a3 := L.a3; have z3 := L.z3; have v3 := L.v3; have u3 := run_underlying L.t3
  have t9 := L.t9; have a9 := L.a9; have z9 := L.z9; have v9 := L.v9; have u9 := run_underlying L.t9
  have t5 := X.t5; have a5 := X.a5; have z5 := X.z5; have v5 := X.v5; have u5 := run_underlying X.t5
  go_enter L.f169, Body.n169_ntmps ρ
  go_wp2
  go_region_o
  all_goals (go_wp2; go_ret; exact ⟨_, rfl, rfl, fin⟩)

theorem bld_read (L : Lays.n169 P ρ) (X : Builder.Extra P ρ) (hc5 : (T (ρ.t 5)).cts = [.int .u8]) {w : World} {b : Nat} {l : List UInt8} {fp : List Nat} (h : IsBld T w (ρ.t 72) (ρ.t 5) b l fp) :
    Calls P (ρ.f 169) #[.pointer (some ⟨b, 0, none⟩)] w fun e w' => ∃ v, e = .returned v ∧ v = .string ⟨l.toArray⟩ ∧ Chg w w' fp := by
  obtain ⟨hk, p, v, fq, hb, hp, rfl, hown⟩ := h
  obtain ⟨c, hc⟩ : ∃ c, c = TC.l (bytesRow l) := ⟨_, rfl⟩
  rw [← hc] at hown
  cases hown with
  | flat _ _ _ hm => simp [CT.mem] at hm
  | nil =>
    have hn : bytesRow l = [] := (TC.l.inj hc).symm
    have hl : l = [] := by simpa [bytesRow] using hn
    subst hl
    exact (bld_read_nil L X hb).mono fun e w' ⟨v, h1, h2, h3⟩ => ⟨v, h1, h2, h3.mono fun _ h => by cases h⟩
  | slice e g xs cap cur fps h1 h1m h2 hg hcl ho hr =>
    have hx : xs = bytesRow l := TC.l.inj hc
    subst hx
    rw [hc5] at hcl hr
    simp only [List.length_singleton, Nat.mul_one] at hcl hr
    rw [bytesRow_len] at h1 hr hb
    cases l with
    | nil =>
      rw [List.length_nil] at hb
      by_cases hc0 : cap = 0
      · subst hc0
        exact (bld_read_noroom L X hb hg).mono fun e w' ⟨v, h1, h2, h3⟩ => ⟨v, h1, h2, h3.mono fun _ h => by cases h⟩
      · exact (bld_read_room L X hc0 hb).mono fun e w' ⟨v, h1, h2, h3⟩ => ⟨v, h1, h2, h3.mono fun _ h => by cases h⟩
    | cons y r =>
      refine (bld_read_some L X hb hg (by simp) h1 h1m hcl fun j x hx => ?_).mono fun e w' ⟨v, h1, h2, h3⟩ => ⟨v, h1, h2, h3.mono fun z hz => by rw [List.mem_singleton.1 hz]; simp⟩
      have hj : j < (y :: r).length := (List.getElem?_eq_some_iff.1 hx).1
      have hk := hr j hj
      rw [Nat.mod_one, Nat.div_one] at hk
      have e2 : (bytesRow (y :: r)).getD j [] = [.i x.toNat] := by
        have : (bytesRow (y :: r))[j]? = some [.i x.toNat] := by unfold bytesRow; rw [List.getElem?_map, hx]; rfl
        rw [List.getD_eq_getElem?_getD, this]; rfl
      rw [e2] at hk
      have hcur : j < cur.length := by omega
      rw [List.getElem?_eq_getElem hcur]
      have ec : cur.getD j undef = cur[j] := by rw [List.getD_eq_getElem?_getD, List.getElem?_eq_getElem hcur]; rfl
      rw [ec] at hk
      replace hk : OwnC T w (.int .u8) cur[j] (.i x.toNat) (fps j) := hk
      rw [own_int hk]

theorem methOk_bld (hN : NamesOk P) (hT : TabOk P T) (X : Builder.Extra P ρ) (hk5 : (T (ρ.t 5)).kind = .int .u8) (hc5 : (T (ρ.t 5)).cts = [.int .u8]) (hb5 : (T (ρ.t 5)).bytes = 1)
    (hb : ∀ t e, (T t).kind = .bld e → t = ρ.t 72 ∧ e = ρ.t 5) (h1 : (∀ g, (T (fnBase + g)).kind ≠ .meth 1) ∨ (Lays.n166 P ρ ∧ ∀ g, (T (fnBase + g)).kind = .meth 1 → g = ρ.f 166))
    (h2 : (∀ g, (T (fnBase + g)).kind ≠ .meth 2) ∨ (Lays.n169 P ρ ∧ ∀ g, (T (fnBase + g)).kind = .meth 2 → g = ρ.f 169)) (h3 : (∀ g, (T (fnBase + g)).kind ≠ .meth 3) ∨ (Lays.n170 P ρ ∧ ∀ g, (T (fnBase + g)).kind = .meth 3 → g = ρ.f 170))
    (hi : ∃ i, P.info? (ρ.t 72) = some i ∧ i.zero = some (.agg #[.pointer none, .slice none 0 0])) : MethOk P T := by
  refine ⟨fun t e h => ?_, fun g t e w b l s fp hg h hnd hlen => ?_, fun g t e w b l fp hg h => ?_, fun g t e w b l fp hg h => ?_⟩
  · obtain ⟨rfl, rfl⟩ := hb t e h
    exact ⟨hi, hc5⟩
  · obtain h1 | ⟨L, h1⟩ := h1
    · exact absurd hg (h1 g)
    · have := h1 g hg
      subst this
      obtain ⟨rfl, rfl⟩ := hb t e h.1
      exact answers_of_calls hN L.f166 (c := _) rfl (bld_write L X hT hk5 hc5 hb5 h hnd hlen)
  · obtain h2 | ⟨R, h2⟩ := h2
    · exact absurd hg (h2 g)
    · have := h2 g hg
      subst this
      obtain ⟨rfl, rfl⟩ := hb t e h.1
      exact answers_of_calls hN R.f169 (c := _) rfl (bld_read R X hc5 h)
  · obtain h3 | ⟨N, h3⟩ := h3
    · exact absurd hg (h3 g)
    · have := h3 g hg
      subst this
      obtain ⟨rfl, rfl⟩ := hb t e h.1
      exact answers_of_calls hN N.f170 (c := _) rfl (bld_len N h)
end

def TK.isBldOf (e : Nat) : TK → Bool | .bld e' => Nat.beq e' e | _ => true
def bldOnly (l : List TyR) (tb e : Nat) : Bool := (List.range l.length).all fun t => (!(l.getD t ⟨.other, [], 0, false⟩).kind.isBld || Nat.beq t tb) && (l.getD t ⟨.other, [], 0, false⟩).kind.isBldOf e
theorem bldOnly_ok {l : List TyR} {m : List (Nat × Nat)} {tb e : Nat} (h : bldOnly l tb e = true) : ∀ t e', (mkTab l m t).kind = .bld e' → t = tb ∧ e' = e := by
  intro t e' hk
  unfold mkTab at hk
  cases hb : Nat.blt t fnBase with
  | true =>
    rw [hb] at hk
    dsimp only [cond_true] at hk
    rcases Nat.lt_or_ge t l.length with hlt | hge
    · unfold bldOnly at h
      rw [List.all_eq_true] at h
      have := h t (List.mem_range.2 hlt)
      rw [hk] at this
      simp only [TK.isBld, Bool.not_true, Bool.false_or, Bool.and_eq_true, TK.isBldOf] at this
      exact ⟨Nat.eq_of_beq_eq_true this.1, Nat.eq_of_beq_eq_true this.2⟩
    · rw [List.getD_eq_getElem?_getD, List.getElem?_eq_none hge] at hk
      cases hk
  | false =>
    rw [hb] at hk
    dsimp only [cond_false] at hk
    have h2 := (methT_other (m := m) (t := t)).2
    rw [hk] at h2
    cases h2
theorem meth_one {l : List TyR} {m : List (Nat × Nat)} {k f : Nat} (h : m.all (fun p => !Nat.beq p.2 k || Nat.beq p.1 f) = true) : ∀ g, (mkTab l m (fnBase + g)).kind = .meth k → g = f := by
  intro g hg
  rw [List.all_eq_true] at h
  have := h _ (mkTab_meth hg)
  simpa using this
theorem info_zero {P : Program} {t : TypeId} (h : (P.info? t).map (·.zero) = some (some (.agg #[.pointer none, .slice none 0 0]))) : ∃ i, P.info? t = some i ∧ i.zero = some (.agg #[.pointer none, .slice none 0 0]) := by
  obtain ⟨i, h1, h2⟩ := Option.map_eq_some_iff.1 h
  exact ⟨i, h1, h2⟩
end Go.Proofs.Ytlombmcoklbfoaa.V
