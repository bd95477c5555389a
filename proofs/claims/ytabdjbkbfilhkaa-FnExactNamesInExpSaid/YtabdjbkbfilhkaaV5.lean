import Derived.Test.YtabdjbkbfilhkaaV4
import Derived.Calls
import Derived.Laws.Sem
namespace Go.Proofs.Ytabdjbkbfilhkaa.V
open Go Go.RowKit

/-! ### The table of types -/
def zeroV : CT → Value
  | .int k => .int k 0
  | .bool => .bool false
  | .str => .string ⟨#[]⟩
  | _ => .slice none 0 0

def KindOk (P : Program) (T : Tab) (t : TypeId) : TK → Prop
  | .int k => P.underlying t = some (.int k) ∧ (T t).cts = [.int k]
  | .bool => P.underlying t = some .bool ∧ (T t).cts = [.bool]
  | .str => P.underlying t = some .string ∧ (T t).cts = [.str]
  | .slice e => P.underlying t = some (.slice e) ∧ (T t).cts = [.slice e]
  | .ptr e => P.underlying t = some (.pointer e) ∧ (T t).cts = [.ptr e]
  | .func => (∃ ps rs v, P.underlying t = some (.func ps rs v)) ∧ (T t).cts = [.func]
  | .struct fs => ∃ fields : Array Field, P.underlying t = some (.struct fields) ∧ fields.size = fs.length ∧
      ∀ (j o : Nat) (e : TypeId), fs[j]? = some (o, e) → ∃ f : Field, fields[j]? = some f ∧ f.offset = o ∧ f.type = e ∧ ((T t).cts.drop o).take (T e).cts.length = (T e).cts ∧ ∃ i, P.info? e = some i ∧ i.size = (T e).cts.length
  | .other => True
  | .meth _ => True
  | .bld _ => True


structure TyOk (P : Program) (T : Tab) (t : TypeId) (i : TypeInfo) : Prop where
  info : P.info? t = some i
  size : i.size = (T t).cts.length
  bytes : i.bytes = (T t).bytes
  kind : KindOk P T t (T t).kind
  zero : ∀ zs, zeroCells (T t).cts = some zs → i.zero = some (mkv (T t).kind.agg ((T t).cts.map zeroV))
  cmp : (T t).cmp = true → P.eqGuardType P.depth t = false ∧ P.stoodInHeld t = false ∧ ∃ (fs : List (Nat × TypeId)) (fields : Array Field), (T t).kind = .struct fs ∧ P.underlying t = some (.struct fields) ∧ fs.length = (T t).cts.length ∧
    (∀ j, j < fs.length → fs[j]? = some (j, (fs.getD j (0, 0)).2) ∧ (T (fs.getD j (0, 0)).2).kind.isOther = false ∧ (T (fs.getD j (0, 0)).2).kind.agg = false) ∧ ∀ f : Field, f ∈ fields → f.name ≠ "_"

def TabOk (P : Program) (T : Tab) : Prop := ∀ t, (T t).kind.isOther = false → ∃ i, TyOk P T t i

section
variable {P : Program} {T : Tab} {G : Nat → Prop} {base : Bs} {nt : Nat} {σ : St} {a : Act} {w : World} {F : List Nat} {fp : Nat → List Nat} {us : Nat → List Value} {blk : Nat → Nat} {D : FuncId → List Arg → Option (Bool × Res)}
  {K : Act → World → Prop} {Q : Exit → Act → World → Prop} {o : Oper}

theorem wp_ok {v : Value} {w' : World} (hr : (execOp a.eval o).run P w = .ok (.value v) w') (hk : K (a.put o.dst v) w') : o.wp P a w K Q := by
  unfold Oper.wp; rw [hr]; exact hk

theorem mkv_cells {g : Bool} {vs : List Value} (hg : g = false → vs.length = 1) (h1 : ∀ u, u ∈ vs → u.oneCell' = true) : (mkv g vs).cells = vs.toArray := by
  cases g with
  | true => rfl
  | false =>
    match vs, hg rfl with
    | [u], _ =>
      have := h1 u (by simp)
      cases u <;> first | rfl | (simp [Value.oneCell'] at this)

theorem agg_cts (h : TabOk P T) {t : TypeId} (ho : (T t).kind.isOther = false) : (T t).kind.agg = false → (T t).cts.length = 1 := by
  obtain ⟨i, hi⟩ := h t ho
  have hk := hi.kind
  intro hg
  cases hkk : (T t).kind <;> rw [hkk] at hk hg ho <;> simp [TK.agg, TK.isOther] at hg ho <;> simp [hk.2]

theorem isAgg_run (h : TabOk P T) {t : TypeId} (ho : (T t).kind.isOther = false) (w : World) : (isAgg t).run P w = .ok (T t).kind.agg w := by
  obtain ⟨i, hi⟩ := h t ho
  have hk := hi.kind
  cases hkk : (T t).kind <;> rw [hkk] at hk ho <;> simp [TK.isOther] at ho <;> simp only [KindOk] at hk
  case struct fs => obtain ⟨f, hu, _⟩ := hk; simp [isAgg, run_underlying hu, TK.agg]
  case func => obtain ⟨⟨_, _, _, hu⟩, _⟩ := hk; simp [isAgg, run_underlying hu, TK.agg]
  all_goals (simp [isAgg, run_underlying hk.1, TK.agg])

theorem sizeOf_run (h : TabOk P T) {t : TypeId} (ho : (T t).kind.isOther = false) (w : World) : (Go.sizeOf t).run P w = .ok (T t).cts.length w := by
  obtain ⟨i, hi⟩ := h t ho
  simp [Go.sizeOf, typeInfo, hi.info, hi.size]

/-! ### Copies -/
theorem TupRel.shared {S : Nat → Prop} {vs : List (Bool × List Cell)} {us : List Value} {fp : List Nat} (h : TupRel T w S vs us fp) (hf : (vs.all fun p => p.2.all Cell.free && !p.2.any Cell.isGone) = true) :
    TupRel T w S (vs.map fun p => (p.1, p.2.map Cell.share)) us [] := by
  induction h with
  | nil => exact .nil
  | cons h1 h2 _ ih =>
    simp only [List.all_cons, Bool.and_eq_true, Bool.not_eq_true'] at hf
    have := TupRel.cons (h1.shared hf.1.1 hf.1.2) (fun e => by rw [List.length_map]; exact h2 e) (ih (by simpa using hf.2))
    exact this
theorem finish_look {ws' : Ws} {x : Operand} {sv : SV} {dst : Option Tmp} (h : RelF T G base nt σ a w F fp us blk) (he : (look x).ev D σ = some sv) (hp : (put dst sv).ev D σ = some ws') (hd : ∀ d, dst = some d → d < nt) :
    Rel T G base nt (σ.setAll ws') (a.put dst (a.eval x)) w := by
  have h0 : RelF T G base nt (σ.setAll []) a w F fp us blk := h
  unfold look at he
  split at he
  · rename_i v
    simp only [R.ev_opt] at he
    have hval : ∃ g cs, sv = .val g cs := by
      unfold valueSV at he
      split at he <;> first | (cases he; exact ⟨_, _, rfl⟩) | cases he
    obtain ⟨g, cs, rfl⟩ := hval
    obtain ⟨rfl, hc, hg, hl, _⟩ := valueSV_sound (T := T) (w := w) he (Sh w fp F)
    exact finish_val h0 hp hd hc .nil (fun _ h => by cases h) (fun _ => hl)
  · rename_i f
    simp only [R.ev_pure, Option.some.injEq] at he
    subst he
    exact finish_light h0 hp hd rfl fun n => ⟨rfl, (fun p hp => nomatch hp), fun _ => rfl⟩
  · rename_i t
    simp only [R.ev_bind, R.ev_slot, Option.bind_some] at he
    have hs := h.slot t
    split at he
    · rename_i g cs hsv
      rw [hsv] at hs
      split at he
      · simp at he
      · rename_i hg
        split at he
        · rename_i hf
          simp only [R.ev_pure, Option.some.injEq] at he
          subst he
          have hu : a.eval (.tmp t) = mkv g (us t) := hs.1
          rw [hu]
          exact finish_val h0 hp hd (hs.2.1.shared hf (by simpa using hg)) .nil (fun _ h => by cases h) (fun e => by rw [List.length_map]; exact hs.2.2 e)
        · simp only [R.ev_pure, Option.some.injEq] at he
          subst he
          refine finish_light h0 hp hd rfl fun n => ⟨rfl, .inr ⟨rfl, Nat.le_refl _⟩, hs.2.2, fun _ => ?_⟩
          rw [List.drop_zero, List.take_of_length_le (by rw [hs.2.1.length]; exact Nat.le_refl _)]
          exact hs.1
    · rename_i e cs hsv
      rw [hsv] at hs
      simp only [R.ev_pure, Option.some.injEq] at he
      subst he
      exact finish_light h0 hp hd rfl fun n => ⟨rfl, Nat.le_refl _, fun _ => hs.1⟩
    · rename_i e o k hsv
      rw [hsv] at hs
      simp only [R.ev_pure, Option.some.injEq] at he
      subst he
      exact finish_light h0 hp hd rfl fun n => ⟨rfl, Nat.le_refl _, fun _ => hs.1⟩
    · rename_i e o k hsv
      rw [hsv] at hs
      simp only [R.ev_pure, Option.some.injEq] at he
      subst he
      exact finish_light h0 hp hd rfl fun n => ⟨rfl, Nat.le_refl _, fun _ => hs.1⟩
    · rename_i g o k hsv
      rw [hsv] at hs
      simp only [R.ev_pure, Option.some.injEq] at he
      subst he
      exact finish_light h0 hp hd rfl fun n => ⟨rfl, hs.2⟩
    · rename_i g h' off n v hsv
      rw [hsv] at hs
      simp only [R.ev_pure, Option.some.injEq] at he
      subst he
      exact finish_light h0 hp hd rfl fun n => ⟨rfl, hs.2⟩
    · rename_i h' off v hsv
      rw [hsv] at hs
      simp only [R.ev_pure, Option.some.injEq] at he
      subst he
      exact finish_light h0 hp hd rfl fun n => ⟨rfl, hs.2⟩
    · rename_i h' off e i j v hsv
      rw [hsv] at hs
      simp only [R.ev_pure, Option.some.injEq] at he
      subst he
      exact finish_light h0 hp hd rfl fun n => ⟨rfl, hs.2⟩
    · rename_i f caps hsv
      rw [hsv] at hs
      simp only [R.ev_pure, Option.some.injEq] at he
      subst he
      exact finish_light h0 hp hd rfl fun n => ⟨rfl, hs.2⟩
    · rename_i vs hsv
      rw [hsv] at hs
      split at he
      · rename_i hf
        simp only [R.ev_pure, Option.some.injEq] at he
        subst he
        obtain ⟨ws, hu, ht⟩ := hs
        have hu : a.eval (.tmp t) = .tuple ws.toArray := hu
        rw [hu]
        exact finish_tup h0 hp hd (ht.shared hf) .nil (fun _ h => by cases h)
      · simp at he
    · simp at he
  · simp at he

theorem finish_flat {ws' : Ws} {dst : Option Tmp} {c : Cell} {u : Value} (h : RelF T G base nt σ a w F fp us blk) (hp : (put dst (.val false [c])).ev D σ = some ws') (hd : ∀ d, dst = some d → d < nt)
    (hr : CellRel T w (Sh w fp F) c u []) : Rel T G base nt (σ.setAll ws') (a.put dst u) w := by
  have := CellsRel.cons (fp := []) (fp' := []) hr .nil
  exact finish_val (ws := []) (usn := [u]) h hp hd this .nil (fun _ h => by cases h) (fun _ => rfl)

theorem peek1_sound (h : RelF T G base nt σ a w F fp us blk) {x : Operand} {c : Cell} (he : (peek1 x).ev D σ = some c) :
    ∃ fp', CellRel T w (Sh w fp F) c (a.eval x) fp' ∧ c.isGone = false ∧ ∃ n, ∀ b, b ∈ fp' → b ∈ fp n := by
  unfold peek1 at he
  simp only [R.ev_bind] at he
  obtain ⟨⟨g, cs⟩, hy, he⟩ := Option.bind_eq_some_iff.1 he
  obtain ⟨vs, fp', hv, hc, hg, _, n, hn⟩ := peek_sound h hy
  split at he
  · rename_i c' heq
    simp only [Prod.mk.injEq] at heq
    obtain ⟨rfl, rfl⟩ := heq
    simp only [R.ev_pure, Option.some.injEq] at he
    subst he
    cases hc with
    | cons h1 h2 =>
      cases h2
      refine ⟨_, ?_, by simpa using hg, n, fun b hb => hn b (List.mem_append_left _ hb)⟩
      rw [hv]; exact h1
  · simp at he

theorem peek1_rep (h : RelF T G base nt σ a w F fp us blk) {x : Operand} {c : Cell} (he : (peek1 x).ev D σ = some c) :
    RepC T w (fun b => b < w.heap.size) c.ct (a.eval x) c.c := by
  obtain ⟨fp', hc, hg, n, hn⟩ := peek1_sound h he
  exact hc.toRep hg (fun b hb => hc.lt b hb) (fun b hb => hb.1)

theorem peekInt_sound (h : RelF T G base nt σ a w F fp us blk) {x : Operand} {k : IntKind} {n : Int} (he : (peekInt x).ev D σ = some (k, n)) : a.eval x = .int k n := by
  unfold peekInt at he
  simp only [R.ev_bind] at he
  obtain ⟨c, hy, he⟩ := Option.bind_eq_some_iff.1 he
  have hr := peek1_rep h hy
  split at he
  · rename_i k' hct
    simp only [R.ev_pure, Option.some.injEq, Prod.mk.injEq] at he
    obtain ⟨rfl, rfl⟩ := he
    rw [hct] at hr
    generalize c.c = cc at hr ⊢
    generalize a.eval x = u at hr ⊢
    cases hr with
    | int k n => rfl
  · simp at he

theorem peekBool_sound (h : RelF T G base nt σ a w F fp us blk) {x : Operand} {b : Bool} (he : (peekBool x).ev D σ = some b) : a.eval x = .bool b := by
  unfold peekBool at he
  simp only [R.ev_bind] at he
  obtain ⟨c, hy, he⟩ := Option.bind_eq_some_iff.1 he
  have hr := peek1_rep h hy
  split at he
  · rename_i hct
    simp only [R.ev_pure, Option.some.injEq] at he
    subst he
    rw [hct] at hr
    generalize c.c = cc at hr ⊢
    generalize a.eval x = u at hr ⊢
    cases hr with
    | bool b => rfl
  · simp at he
end

end Go.Proofs.Ytabdjbkbfilhkaa.V
