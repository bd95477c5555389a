import Derived.Test.YtabdjbkbfilhkaaV12
import Derived.Deep.Upon
namespace Go.Proofs.Ytabdjbkbfilhkaa.V
open Go Go.RowKit

section
variable {P : Program} {T : Tab} {G : Nat → Prop} {base : Bs} {nt : Nat} {σ : St} {a : Act} {w w' : World} {F : List Nat} {fp : Nat → List Nat} {us : Nat → List Value} {blk : Nat → Nat} {D : FuncId → List Arg → Option (Bool × Res)}
  {K : Act → World → Prop} {Q : Exit → Act → World → Prop} {o : Oper} {S S' : Nat → Prop}

theorem cells_of_fun (f : Nat → Cell) (g : Nat → Value) (fps : Nat → List Nat) : ∀ n, (∀ k, k < n → CellRel T w S (f k) (g k) (fps k)) → CellsRel T w S ((List.range n).map f) ((List.range n).map g) ((List.range n).flatMap fps)
  | 0, _ => .nil
  | n + 1, h => by
    have h1 := cells_of_fun f g fps n fun k hk => h k (by omega)
    have h2 := CellsRel.cons (h n (by omega)) (.nil (T := T) (w := w) (S := S))
    have := h1.append h2
    rw [List.append_nil] at this
    simpa [List.range_succ, List.flatMap_append] using this

theorem chunk_append {α : Type} (size m : Nat) : ∀ (n : Nat) (l1 l2 : List α), l1.length = n * size → chunk size (n + m) (l1 ++ l2) = chunk size n l1 ++ chunk size m l2
  | 0, l1, l2, h => by
    have : l1 = [] := by apply List.eq_nil_of_length_eq_zero; simpa using h
    subst this
    simp [chunk]
  | n + 1, l1, l2, h => by
    have hs : size ≤ l1.length := by rw [h, Nat.add_mul]; omega
    rw [show n + 1 + m = (n + m) + 1 by omega, chunk, chunk, List.take_append_of_le_length hs, List.drop_append_of_le_length hs, chunk_append size m n _ _ (by rw [List.length_drop, h, Nat.add_mul]; omega)]
    rfl

theorem chunk_flat {xs : List (List TC)} {size : Nat} (hs : 0 < size) (hx : ∀ x, x ∈ xs → x.length = size) : chunk size xs.length ((List.range (xs.length * size)).map fun k => nth (xs.getD (k / size) []) (k % size)) = xs := by
  apply List.ext_getElem
  · rw [chunk_length]
  · intro i h1 h2
    have h3 := chunk_getD size xs.length ((List.range (xs.length * size)).map fun k => nth (xs.getD (k / size) []) (k % size)) i h2
    rw [List.getD_eq_getElem?_getD, List.getElem?_eq_getElem h1, Option.getD_some] at h3
    rw [h3]
    have hxi := hx _ (List.getElem_mem h2)
    have hb : i * size + size ≤ xs.length * size := by
      have := Nat.mul_le_mul_right size (show i + 1 ≤ xs.length by omega)
      rw [Nat.add_mul] at this; omega
    apply List.ext_getElem
    · rw [List.length_take, List.length_drop, List.length_map, List.length_range, hxi]; omega
    · intro j h4 h5
      have hj : j < size := by rw [hxi] at h5; exact h5
      rw [List.getElem_take, List.getElem_drop, List.getElem_map, List.getElem_range]
      rw [show i * size + j = j + i * size by omega, Nat.add_mul_div_right _ _ hs, Nat.div_eq_of_lt hj, Nat.add_mul_mod_self_right, Nat.mod_eq_of_lt hj, Nat.zero_add]
      rw [show xs.getD i [] = xs[i] by rw [List.getD_eq_getElem?_getD, List.getElem?_eq_getElem h2, Option.getD_some]]
      unfold nth
      rw [List.getD_eq_getElem?_getD, List.getElem?_eq_getElem h5, Option.getD_some]

def rowCells (T : Tab) (e : TypeId) (fl : Fl) (xs : List (List TC)) : List Cell :=
  (List.range (xs.length * (T e).cts.length)).map fun k => ⟨(T e).cts.getD (k % (T e).cts.length) .bool, fl, nth (xs.getD (k / (T e).cts.length) []) (k % (T e).cts.length)⟩

theorem rowCells_length (e : TypeId) (fl : Fl) (xs : List (List TC)) : (rowCells T e fl xs).length = xs.length * (T e).cts.length := by simp [rowCells]
theorem rowCells_raw {e : TypeId} (fl : Fl) {xs : List (List TC)} (hs : 0 < (T e).cts.length) (hx : ∀ x, x ∈ xs → x.length = (T e).cts.length) : chunk (T e).cts.length xs.length (rawRow (rowCells T e fl xs)) = xs := by
  have := chunk_flat hs hx
  unfold rawRow rowCells
  rw [List.map_map]
  exact this
theorem rowCells_ct (e : TypeId) (fl : Fl) (xs : List (List TC)) : ∀ k, k < xs.length * (T e).cts.length → (ctsOf (rowCells T e fl xs)).getD k .bool = (T e).cts.getD (k % (T e).cts.length) .bool := by
  intro k hk
  simp [ctsOf, rowCells, List.getD_eq_getElem?_getD, List.getElem?_map, List.getElem?_range hk]
theorem rowCells_gone {e : TypeId} {fl : Fl} {xs : List (List TC)} (hf : fl ≠ .gone) : (rowCells T e fl xs).any Cell.isGone = false := by
  rw [List.any_eq_false]
  intro c hc
  simp only [rowCells, List.mem_map] at hc
  obtain ⟨k, _, rfl⟩ := hc
  simpa [Cell.isGone] using hf
theorem rowCells_deep {e : TypeId} {xs : List (List TC)} : (rowCells T e (.own true) xs).all Cell.deep = true := by
  rw [List.all_eq_true]
  intro c hc
  simp only [rowCells, List.mem_map] at hc
  obtain ⟨k, _, rfl⟩ := hc
  simp [Cell.deep]
theorem rowCells_flat {e : TypeId} {fl : Fl} {xs : List (List TC)} (hm : anyMem (T e).cts = false) : (rowCells T e fl xs).all Cell.deep = true := by
  rw [List.all_eq_true]
  intro c hc
  simp only [rowCells, List.mem_map, List.mem_range] at hc
  obtain ⟨k, hk, rfl⟩ := hc
  have hp : 0 < (T e).cts.length := by
    rcases Nat.eq_zero_or_pos (T e).cts.length with h | h
    · rw [h] at hk; simp at hk
    · exact h
  have hk' := Nat.mod_lt k hp
  have : ((T e).cts.getD (k % (T e).cts.length) .bool).mem = false := by
    rw [List.getD_eq_getElem?_getD, List.getElem?_eq_getElem hk', Option.getD_some]
    unfold anyMem at hm
    rw [List.any_eq_false] at hm
    simpa using hm _ (List.getElem_mem hk')
  unfold Cell.deep
  dsimp only
  rw [this]
  rfl

theorem range_getD (cur : List Value) (n : Nat) (h : n ≤ cur.length) : (List.range n).map (fun k => cur.getD k undef) = cur.take n := by
  apply List.ext_getElem
  · simp; omega
  · intro i h1 h2
    have hi : i < cur.length := by simp at h1; omega
    simp [List.getD_eq_getElem?_getD, List.getElem?_eq_getElem hi]

theorem row_view {e : TypeId} {xs : List (List TC)} {deep : Bool} {u : Value} {fq : List Nat} (h : CellRel T w S ⟨.slice e, .own deep, .l xs⟩ u fq) :
    (u = .slice none 0 0 ∧ xs = [] ∧ fq = []) ∨
    ∃ g cap cur fq', u = .slice (some ⟨g, 0, none⟩) xs.length cap ∧ fq = g :: fq' ∧ xs.length ≤ cap ∧ cap ≤ maxLen ∧ (∀ x, x ∈ xs → x.length = (T e).cts.length) ∧ Blk w g cur e ∧ cur.length = cap * (T e).cts.length ∧
      (∀ u, u ∈ cur → u.oneCell' = true) ∧ CellsRel T w S (rowCells T e (if deep then .own true else .sh) xs) (cur.take (xs.length * (T e).cts.length)) fq' ∧ (deep = false → fq' = []) := by
  cases deep with
  | true =>
    have h : OwnC T w (.slice e) u (.l xs) fq := h
    cases h with
    | flat _ _ _ hm => simp [CT.mem] at hm
    | nil => exact .inl ⟨rfl, rfl, rfl⟩
    | slice _ g _ cap cur fps h1 h1m h2 hb hl ho hr =>
      refine .inr ⟨g, cap, cur, _, rfl, rfl, h1, h1m, h2, hb, hl, ho, ?_, fun h => by cases h⟩
      have := cells_of_fun (T := T) (w := w) (S := S) (fun k => ⟨(T e).cts.getD (k % (T e).cts.length) .bool, .own true, nth (xs.getD (k / (T e).cts.length) []) (k % (T e).cts.length)⟩) (fun k => cur.getD k undef) fps _ (fun k hk => hr k hk)
      rw [range_getD _ _ (by rw [hl]; exact Nat.mul_le_mul_right _ h1)] at this
      exact this
  | false =>
    have h : OwnT T w S (.slice e) u (.l xs) fq := h
    cases h with
    | flat _ _ _ hm => simp [CT.mem] at hm
    | nil => exact .inl ⟨rfl, rfl, rfl⟩
    | slice _ g _ cap cur h1 h1m h2 hb hl ho hr =>
      refine .inr ⟨g, cap, cur, [], rfl, rfl, h1, h1m, h2, hb, hl, ho, ?_, fun _ => rfl⟩
      have := cells_of_fun (T := T) (w := w) (S := S) (fun k => ⟨(T e).cts.getD (k % (T e).cts.length) .bool, .sh, nth (xs.getD (k / (T e).cts.length) []) (k % (T e).cts.length)⟩) (fun k => cur.getD k undef) (fun _ => []) _ (fun k hk => ⟨hr k hk, rfl⟩)
      have e0 : ∀ n, (List.range n).flatMap (fun _ => ([] : List Nat)) = [] := fun n => by simp
      rw [range_getD _ _ (by rw [hl]; exact Nat.mul_le_mul_right _ h1), e0] at this
      exact this

theorem setCells_blk (P : Program) {g o : Nat} {e : TypeId} {vs cur : List Value} {w : World} (hb : Blk w g cur e) (hl : o + vs.length ≤ cur.length) (h1 : ∀ v ∈ vs, v.oneCell' = true) :
    Blk (w.setCells g o vs) g (splice cur o vs) e ∧ Chg w (w.setCells g o vs) [g] ∧ (w.setCells g o vs).heap.size = w.heap.size := by
  obtain ⟨w', hr, h2, h3, h4⟩ := run_storeCells_blk P g e vs o 0 cur w hb (by omega) h1
  have hs := run_storeCells_cells (P := P) g o vs 0 w (fun j hj => by rw [hb.cell]; simp; omega) (fun j hj => hb.frozen _ (by omega)) h1
  rw [hr] at hs
  simp only [Result.ok.injEq, true_and, Nat.add_zero] at hs h2
  subst hs
  exact ⟨h2, h3, h4⟩

theorem own_cell {e : TypeId} {deep : Bool} {g n cap : Nat} {cs : List Cell} {vs cur : List Value} {fq : List Nat} (hb : Blk w g cur e) (hc : CellsRel T w S cs vs fq) (hg : cs.any Cell.isGone = false) (hcur : ∀ k, k < n * (T e).cts.length → cur.getD k undef = vs.getD k undef) (hncap : n ≤ cap) (hcl : cur.length = cap * (T e).cts.length) (ho : ∀ u, u ∈ cur → u.oneCell' = true)
    (hn : cap ≤ maxLen) (hs : 0 < (T e).cts.length) (hl : cs.length = n * (T e).cts.length) (hct : ∀ k, k < n * (T e).cts.length → (ctsOf cs).getD k .bool = (T e).cts.getD (k % (T e).cts.length) .bool)
    (h1 : deep = true → cs.all Cell.deep = true) (h2 : deep = false → fq = []) (S' : Nat → Prop) (hS : ∀ b, S b → S' b) :
    CellRel T w S' ⟨.slice e, .own deep, .l (chunk (T e).cts.length n (rawRow cs))⟩ (.slice (some ⟨g, 0, none⟩) n cap) (g :: fq) := by
  have := own_of_cells hb hc hg hcur hncap hcl ho hn hs hl hct
  cases deep with
  | true => exact this.1 (h1 rfl)
  | false => rw [h2 rfl] at this ⊢; exact this.2 S' hS (fun _ h => by cases h)

theorem all_append_deep {cs ds : List Cell} (h1 : cs.all Cell.deep = true) (h2 : ds.all Cell.deep = true) : (cs ++ ds).all Cell.deep = true := by
  rw [List.all_append, h1, h2]; rfl
theorem any_append_gone {cs ds : List Cell} (h1 : cs.any Cell.isGone = false) (h2 : ds.any Cell.isGone = false) : (cs ++ ds).any Cell.isGone = false := by
  rw [List.any_append, h1, h2]; rfl

theorem ct_append {cs ds : List Cell} {cts : List CT} {n m : Nat} (h1 : ∀ k, k < n * cts.length → (ctsOf cs).getD k .bool = cts.getD (k % cts.length) .bool) (hl : cs.length = n * cts.length)
    (h2 : ∀ k, k < m * cts.length → (ctsOf ds).getD k .bool = cts.getD (k % cts.length) .bool) : ∀ k, k < (n + m) * cts.length → (ctsOf (cs ++ ds)).getD k .bool = cts.getD (k % cts.length) .bool := by
  intro k hk
  rw [Nat.add_mul] at hk
  have hl' : (ctsOf cs).length = n * cts.length := by rw [ctsOf_length, hl]
  have e1 : ctsOf (cs ++ ds) = ctsOf cs ++ ctsOf ds := by simp [ctsOf]
  rw [e1]
  by_cases hlt : k < n * cts.length
  · rw [List.getD_eq_getElem?_getD, List.getElem?_append_left (by rw [hl']; exact hlt), ← List.getD_eq_getElem?_getD]
    exact h1 k hlt
  · rw [List.getD_eq_getElem?_getD, List.getElem?_append_right (by rw [hl']; omega), ← List.getD_eq_getElem?_getD, hl', h2 _ (by omega)]
    have : k = (k - n * cts.length) + n * cts.length := by omega
    conv => rhs; rw [this, Nat.add_mul_mod_self_right]

def AppRes (P : Program) (T : Tab) (w : World) (S : Nat → Prop) (t tx ty e : TypeId) (deep : Bool) (u x : Value) (fq fq2 : List Nat) (xs : List (List TC)) : Prop :=
  ∃ (v : Value) (w' : World) (N fq' : List Nat), (Builtin.append_ #[t, tx] ty #[u, x]).run P w = .ok v w' ∧ Chg w w' fq ∧ (∀ b, b ∈ N → w.heap.size ≤ b ∧ b < w'.heap.size) ∧ N.Nodup ∧ (∀ b, b ∈ fq' → b ∈ fq ++ fq2 ∨ b ∈ N) ∧ fq'.Nodup ∧
      ∀ S' : Nat → Prop, (∀ b, S b → S' b) → CellRel T w' S' ⟨.slice e, .own deep, .l xs⟩ v fq'

theorem grow_core {t tx ty e : TypeId} {ie : TypeInfo} (hT : TabOk P T) (hu : P.underlying t = some (.slice e)) (hoe : (T e).kind.isOther = false) (hie : TyOk P T e ie) {zs : List Cell} (hz : zeroCells (T e).cts = some zs) (hne : 0 < (T e).cts.length)
    {x : Value} {n : Nat} {news : List Value} (hs : Src P (T e).cts.length tx x n news w) {len sCap : Nat} {deep : Bool} {base : Option Addr} {fq fq1 : List Nat} {cs1 : List Cell} {olds : List Value} (hc1 : CellsRel T w S cs1 olds fq1)
    (hold : (Builtin.firstCells (T e).cts.length len (.slice base len sCap)).run P w.drew = .ok olds.toArray w.drew) (hl1 : cs1.length = len * (T e).cts.length) (hg1 : cs1.any Cell.isGone = false) (hct1 : ∀ k, k < len * (T e).cts.length → (ctsOf cs1).getD k .bool = (T e).cts.getD (k % (T e).cts.length) .bool)
    (hd1 : deep = true → cs1.all Cell.deep = true) (hx1 : deep = false → fq1 = []) (hf1 : ∀ b, b ∈ fq1 → b ∈ fq) (hcap : sCap < len + n)
    {cs2 : List Cell} {fq2 : List Nat} (hc2 : CellsRel T w S cs2 news fq2) (hg2 : cs2.any Cell.isGone = false) (hct2 : ∀ k, k < n * (T e).cts.length → (ctsOf cs2).getD k .bool = (T e).cts.getD (k % (T e).cts.length) .bool)
    (hd2 : deep = true → cs2.all Cell.deep = true) (hx2 : deep = false → fq2 = []) (hroom : roomFor (T e) (len + n)) (hfq : ∀ b, b ∈ fq2 → b ∉ fq) (hnd : fq1.Nodup) (hnd2 : fq2.Nodup) :
    AppRes P T w S t tx ty e deep (.slice base len sCap) x fq fq2 (chunk (T e).cts.length len (rawRow cs1) ++ chunk (T e).cts.length n (rawRow cs2)) := by
  have hl2 : cs2.length = n * (T e).cts.length := by rw [← hc2.length, hs.newsLen]
  have hol : olds.length = len * (T e).cts.length := by rw [hc1.length, hl1]
  obtain ⟨hz1, hzc, _, _⟩ := zeroCells_rel (T := T) (w := w) (S := S) hz
  have hzero := hie.zero zs hz
  have hcv : (mkv (T e).kind.agg ((T e).cts.map zeroV)).cells = ((T e).cts.map zeroV).toArray := mkv_cells (fun h => by rw [List.length_map]; exact agg_cts hT hoe h) hz1.one
  have hs' : Src P ie.size tx x n news w := by rw [hie.size]; exact hs
  have hfits := growslice_fits (bytes := ie.bytes) hcap (by rw [hie.bytes]; have h1 := hroom.1; rw [← Int.natCast_mul] at h1; exact Int.ofNat_le.1 h1)
  have hrun := run_append_grow_src (P := P) w t tx ty e ie _ hu hie.info hzero base len sCap olds (by rw [hie.size]; exact hold) x n news hs' hcap (by have := hroom.2; omega) hfits
  have hge := grownCap_ge w (len + n) sCap e
  have hle := grownCap_le_maxLen w (len + n) sCap e (by have := hroom.2; rw [show maxLen = 9223372036854775807 from rfl]; omega)
  obtain ⟨zz, hzz⟩ : ∃ zz : List Value, zz = (Builtin.zeroCells (mkv (T e).kind.agg ((T e).cts.map zeroV)).cells (grownCap w (len + n) sCap e - (len + n))).toList := ⟨_, rfl⟩
  have hzl : zz.length = (grownCap w (len + n) sCap e - (len + n)) * (T e).cts.length := by
    rw [hzz, Array.length_toList, size_zeroCells, hcv]; simp
  have hz1' : ∀ u, u ∈ zz → u.oneCell' = true := by
    intro u hu
    rw [hzz, hcv] at hu
    simp only [Builtin.zeroCells, Array.toList_map, List.mem_map, List.size_toArray, List.length_map] at hu
    obtain ⟨k, _, rfl⟩ := hu
    refine hz1.one _ ?_
    have hk := Nat.mod_lt k hne
    rw [getElem!_pos _ _ (by simpa using hk)]
    simp only [List.getElem_toArray]
    exact List.getElem_mem _
  have harr : (olds ++ news).toArray ++ Builtin.zeroCells (mkv (T e).kind.agg ((T e).cts.map zeroV)).cells (grownCap w (len + n) sCap e - (len + n)) = (olds ++ news ++ zz).toArray := by
    rw [hzz]
    apply Array.ext'
    simp
  rw [harr] at hrun
  have hch : Chg w (w.drew.alloc (.cells (olds ++ news ++ zz).toArray e)) fq := (Chg.drew w fq).trans (Chg.alloc w.drew _ _)
  have hch0 : Chg w (w.drew.alloc (.cells (olds ++ news ++ zz).toArray e)) [] := (Chg.drew w []).trans (Chg.alloc w.drew _ _)
  have hblk : Blk (w.drew.alloc (.cells (olds ++ news ++ zz).toArray e)) w.heap.size (olds ++ news ++ zz) e := Blk.alloc w.drew _ e
  have hsz : (w.drew.alloc (.cells (olds ++ news ++ zz).toArray e)).heap.size = w.heap.size + 1 := size_alloc w.drew _
  have hcc := (hc1.append hc2).chg (S' := S) hch0 (fun _ _ h => by cases h) (fun _ _ h => by cases h) (fun _ h => h)
  refine ⟨_, _, [w.heap.size], w.heap.size :: (fq1 ++ fq2), hrun, hch, fun b hb => by rw [List.mem_singleton.1 hb, hsz]; omega, by simp, fun b hb => ?_, List.nodup_cons.2 ⟨fun hm => ?_, List.nodup_append.2 ⟨hnd, hnd2, fun p hp q hq e => hfq q hq (e ▸ hf1 p hp)⟩⟩, fun S' hS' => ?_⟩
  · rcases List.mem_cons.1 hb with rfl | hb
    · exact .inr (by simp)
    · rcases List.mem_append.1 hb with hb | hb
      · exact .inl (List.mem_append_left _ (hf1 b hb))
      · exact .inl (List.mem_append_right _ hb)
  · have := (hc1.append hc2).lt _ hm; omega
  · have key := own_cell (deep := deep) (n := len + n) hblk hcc (any_append_gone hg1 hg2) (fun k hk => by
      rw [Nat.add_mul] at hk
      have hlen : (olds ++ news).length = len * (T e).cts.length + n * (T e).cts.length := by rw [List.length_append, hol, hs.newsLen]
      rw [List.getD_eq_getElem?_getD, List.getElem?_append_left (by rw [hlen]; exact hk), ← List.getD_eq_getElem?_getD]) hge (by
      rw [List.length_append, List.length_append, hol, hs.newsLen, hzl, Nat.sub_mul, Nat.add_mul]
      have := Nat.mul_le_mul_right (T e).cts.length hge
      rw [Nat.add_mul] at this
      omega) (fun u hu => by
      rcases List.mem_append.1 hu with hu | hu
      · exact (hc1.append hc2).one u hu
      · exact hz1' u hu) hle hne (by rw [List.length_append, hl1, hl2, Nat.add_mul]) (ct_append hct1 hl1 hct2) (fun h => all_append_deep (hd1 h) (hd2 h)) (fun h => by rw [hx1 h, hx2 h]; rfl) S' hS'
    have e2 : rawRow (cs1 ++ cs2) = rawRow cs1 ++ rawRow cs2 := by simp [rawRow]
    rw [e2, chunk_append _ _ _ _ _ (by simp [rawRow, hl1])] at key
    exact key

theorem app_core {t tx ty e : TypeId} {ie : TypeInfo} (hT : TabOk P T) (hu : P.underlying t = some (.slice e)) (hoe : (T e).kind.isOther = false) (hie : TyOk P T e ie) {zs : List Cell} (hz : zeroCells (T e).cts = some zs) (hne : 0 < (T e).cts.length)
    {x : Value} {n : Nat} {news : List Value} (hs : Src P (T e).cts.length tx x n news w) {xs : List (List TC)} {deep : Bool} {u : Value} {fq : List Nat} (h : CellRel T w S ⟨.slice e, .own deep, .l xs⟩ u fq)
    {cs2 : List Cell} {fq2 : List Nat} (hc2 : CellsRel T w S cs2 news fq2) (hg2 : cs2.any Cell.isGone = false) (hct2 : ∀ k, k < n * (T e).cts.length → (ctsOf cs2).getD k .bool = (T e).cts.getD (k % (T e).cts.length) .bool)
    (hd2 : deep = true → cs2.all Cell.deep = true) (hx2 : deep = false → fq2 = []) (hroom : roomFor (T e) (xs.length + n)) (hS : ∀ b, S b → b ∉ fq) (hfq : ∀ b, b ∈ fq2 → b ∉ fq) (hnd : fq.Nodup) (hnd2 : fq2.Nodup) :
    AppRes P T w S t tx ty e deep u x fq fq2 (xs ++ chunk (T e).cts.length n (rawRow cs2)) := by
  have hl2 : cs2.length = n * (T e).cts.length := by rw [← hc2.length, hs.newsLen]
  have hs' : Src P ie.size tx x n news w := by rw [hie.size]; exact hs
  rcases row_view h with ⟨rfl, rfl, rfl⟩ | ⟨g, cap, cur, fq1, rfl, rfl, hcap, hmax, hxl, hb, hcl, hone, hc1, hn1⟩
  · by_cases hn : n = 0
    · subst hn
      have hn0 : news = [] := by apply List.eq_nil_of_length_eq_zero; rw [hs.newsLen]; simp
      subst hn0
      have hc0 : cs2 = [] := by apply List.eq_nil_of_length_eq_zero; rw [hl2]; simp
      subst hc0
      refine ⟨_, _, [], [], run_append_nothing w t tx ty e ie hu hie.info none 0 0 (Nat.le_refl _) x hs', Chg.refl _ _, (fun _ h => by cases h), List.nodup_nil, (fun _ h => by cases h), List.nodup_nil, fun S' _ => ?_⟩
      cases deep
      · exact OwnT.nil _
      · exact OwnC.nil _
    · have key := grow_core (ty := ty) (deep := deep) (fq := []) (len := 0) (sCap := 0) (base := none) hT hu hoe hie hz hne hs (cs1 := []) (S := S) .nil (run_firstCells_none (P := P) w.drew _ 0 0 0) (by simp) rfl (fun k hk => by simp at hk) (fun _ => rfl) (fun _ => rfl) (fun _ h => by cases h) (by omega) hc2 hg2 hct2 hd2 hx2 hroom hfq .nil hnd2
      exact key
  · obtain ⟨hgn, hnd1⟩ := List.nodup_cons.1 hnd
    by_cases hn : xs.length + n ≤ cap
    · have hb1 : xs.length * (T e).cts.length + news.length ≤ cur.length := by
        rw [hs.newsLen, hcl, ← Nat.add_mul]; exact Nat.mul_le_mul_right _ hn
      obtain ⟨b1, b2, b3⟩ := setCells_blk P hb hb1 hs.one
      have hrun := run_append_room_src (P := P) w t tx ty e ie hu hie.info g 0 xs.length cap x n news hs' hn (fun j hj => by rw [hie.size, hb.cell]; simp; omega) (fun j hj => hb.frozen _ (by rw [hie.size]; omega))
      rw [hie.size, Nat.zero_add] at hrun
      have hcc := (hc1.append hc2).chg (S' := S) b2 (fun b hb hm => by
        rw [List.mem_singleton.1 hm] at hb
        rcases List.mem_append.1 hb with hb | hb
        · exact hgn hb
        · exact hfq _ hb (by simp)) (fun b hb hm => hS b hb (by rw [List.mem_singleton.1 hm]; simp)) (fun _ h => h)
      refine ⟨_, _, [], g :: (fq1 ++ fq2), hrun, b2.mono (fun b hb => by rw [List.mem_singleton.1 hb]; simp), (fun _ h => by cases h), List.nodup_nil, fun b hb => .inl ?_, ?_, fun S' hS' => ?_⟩
      · simpa using hb
      · have := List.nodup_append.2 ⟨hnd, hnd2, fun p hp q hq e => hfq q hq (e ▸ hp)⟩
        simpa using this
      · have hfl : (if deep = true then Fl.own true else Fl.sh) ≠ .gone := by split <;> simp
        have hcur : cur.length = cap * (T e).cts.length := hcl
        have key := own_cell (deep := deep) (n := xs.length + n) b1 hcc (any_append_gone (rowCells_gone hfl) hg2) (fun k hk => by
          rw [Nat.add_mul] at hk
          unfold splice
          have hlen : (cur.take (xs.length * (T e).cts.length) ++ news).length = xs.length * (T e).cts.length + n * (T e).cts.length := by
            rw [List.length_append, List.length_take, hs.newsLen]; rw [hs.newsLen] at hb1; omega
          rw [List.getD_eq_getElem?_getD, List.getElem?_append_left (by rw [hlen]; exact hk), ← List.getD_eq_getElem?_getD]) hn (by rw [splice_length _ _ _ hb1, hcl]) (fun u hu => by
            unfold splice at hu
            rcases List.mem_append.1 hu with hu | hu
            · rcases List.mem_append.1 hu with hu | hu
              · exact hone u (List.mem_of_mem_take hu)
              · exact hs.one u hu
            · exact hone u (List.mem_of_mem_drop hu)) hmax hne (by rw [List.length_append, rowCells_length, hl2, Nat.add_mul]) (ct_append (rowCells_ct e _ xs) (rowCells_length e _ xs) hct2) (fun h => by subst h; exact all_append_deep rowCells_deep (hd2 rfl)) (fun h => by rw [hn1 h, hx2 h]; rfl) S' hS'
        have e2 : ∀ c1 : List Cell, rawRow (c1 ++ cs2) = rawRow c1 ++ rawRow cs2 := fun c1 => by simp [rawRow]
        rw [e2, chunk_append _ _ _ _ _ (by simp [rawRow, rowCells_length]), rowCells_raw _ hne hxl] at key
        exact key
    · have hfl : (if deep = true then Fl.own true else Fl.sh) ≠ .gone := by split <;> simp
      have hold : (Builtin.firstCells (T e).cts.length xs.length (.slice (some ⟨g, 0, none⟩) xs.length cap)).run P w.drew = .ok (cur.take (xs.length * (T e).cts.length)).toArray w.drew := by
        refine run_firstCells_some (P := P) w.drew _ _ _ _ _ _ (by rw [List.length_take, hcl]; have := Nat.mul_le_mul_right (T e).cts.length hcap; omega) fun j v hj => ?_
        rw [add_zero_block]
        have h1 := hb.cell j
        have h2 : w.drew.cell? ⟨g, j, none⟩ = w.cell? ⟨g, j, none⟩ := rfl
        rw [h2, h1]
        rw [List.getElem?_take] at hj
        split at hj
        · exact hj
        · cases hj
      have key := grow_core (ty := ty) (deep := deep) (fq := g :: fq1) (len := xs.length) (sCap := cap) hT hu hoe hie hz hne hs hc1 hold (rowCells_length e _ xs) (rowCells_gone hfl) (rowCells_ct e _ xs) (fun h => by subst h; exact rowCells_deep) hn1 (fun b hb => List.mem_cons_of_mem _ hb) (by omega) hc2 hg2 hct2 hd2 hx2 hroom hfq hnd1 hnd2
      rw [rowCells_raw _ hne hxl] at key
      exact key

/-! ### What is appended -/
theorem rowCells_nil {e : TypeId} {fl : Fl} : CellsRel T w S (rowCells T e fl []) [] [] := by
  have : rowCells T e fl [] = [] := by simp [rowCells]
  rw [this]
  exact .nil

theorem cells_share {e : TypeId} {fl : Fl} {ys : List (List TC)} : (rowCells T e fl ys).map Cell.share = rowCells T e .sh ys := by
  simp [rowCells, Cell.share]

theorem cells_free {e : TypeId} {fl : Fl} {ys : List (List TC)} (hm : anyMem (T e).cts = false) : (rowCells T e fl ys).all Cell.free = true := by
  have := rowCells_flat (T := T) (e := e) (fl := .sh) (xs := ys) hm
  rw [List.all_eq_true] at this ⊢
  intro c hc
  simp only [rowCells, List.mem_map, List.mem_range] at hc
  obtain ⟨k, hk, rfl⟩ := hc
  have h1 := this ⟨(T e).cts.getD (k % (T e).cts.length) .bool, .sh, nth (ys.getD (k / (T e).cts.length) []) (k % (T e).cts.length)⟩ (by simp only [rowCells, List.mem_map, List.mem_range]; exact ⟨k, hk, rfl⟩)
  unfold Cell.deep at h1
  unfold Cell.free
  simp at h1 ⊢
  exact .inl h1

theorem src_slice {tx e e' : TypeId} (hk : P.underlying tx = some (.slice e')) {d : Cell} {u : Value} {fq : List Nat} (h : CellRel T w S d u fq) (hg : d.isGone = false) (hct : d.ct = .slice e) (hok : (anyMem (T e).cts && d.fl == .own true) = false) :
    ∃ news, Src P (T e).cts.length tx u d.c.list.length news w ∧ CellsRel T w S (rowCells T e .sh d.c.list) news [] ∧ ∀ x, x ∈ d.c.list → x.length = (T e).cts.length := by
  obtain ⟨ct, fl, c⟩ := d
  dsimp only at hct
  subst hct
  cases fl with
  | gone => simp [Cell.isGone] at hg
  | sh =>
    have h : RepC T w S (.slice e) u c := h.1
    cases h with
    | nil => exact ⟨[], Src.ofNil w hk 0, rowCells_nil, fun _ h => by cases h⟩
    | slice _ ad xs cap us1 p1 p2 p3 p4 =>
      have hc := cells_of_fun (T := T) (w := w) (S := S) (fun k => ⟨(T e).cts.getD (k % (T e).cts.length) .bool, .sh, nth (xs.getD (k / (T e).cts.length) []) (k % (T e).cts.length)⟩) us1 (fun _ => []) (xs.length * (T e).cts.length) (fun k hk => ⟨p4 k hk, rfl⟩)
      have e0 : ∀ n, (List.range n).flatMap (fun _ => ([] : List Nat)) = [] := fun n => by simp
      rw [e0] at hc
      refine ⟨_, Src.ofSlice w hk ad xs.length cap _ (by simp) (fun j v hj => ?_) hc.one, hc, p2⟩
      simp only [List.getElem?_map, Option.map_eq_some_iff] at hj
      obtain ⟨k, hk, rfl⟩ := hj
      obtain ⟨hk1, hk2⟩ := List.getElem?_eq_some_iff.1 hk
      simp only [List.getElem_range] at hk2
      subst hk2
      simp only [List.length_range] at hk1
      exact (p3 _ hk1).2
  | own deep =>
    have hlist : ∃ xs, c = .l xs := by
      have h' := h
      unfold CellRel at h'
      cases deep with
      | true =>
        have h' : OwnC T w (.slice e) u c fq := h'
        cases h' with
        | flat _ _ _ hm => simp [CT.mem] at hm
        | nil => exact ⟨_, rfl⟩
        | slice => exact ⟨_, rfl⟩
      | false =>
        have h' : OwnT T w S (.slice e) u c fq := h'
        cases h' with
        | flat _ _ _ hm => simp [CT.mem] at hm
        | nil => exact ⟨_, rfl⟩
        | slice => exact ⟨_, rfl⟩
    obtain ⟨xs, rfl⟩ := hlist
    rcases row_view h with ⟨rfl, rfl, rfl⟩ | ⟨g, cap, cur, fq1, rfl, rfl, hcap, hmax, hxl, hb, hcl, hone, hc1, hn1⟩
    · exact ⟨[], Src.ofNil w hk 0, rowCells_nil, fun _ h => by cases h⟩
    · have hsh : CellsRel T w S (rowCells T e .sh xs) (cur.take (xs.length * (T e).cts.length)) [] := by
        have hfl : (if deep = true then Fl.own true else Fl.sh) ≠ .gone := by split <;> simp
        cases deep with
        | false => rw [hn1 rfl] at hc1; exact hc1
        | true =>
          have hm : anyMem (T e).cts = false := by simpa using hok
          have := hc1.shared (cells_free hm) (rowCells_gone hfl)
          rwa [cells_share] at this
      have hlen : (cur.take (xs.length * (T e).cts.length)).length = xs.length * (T e).cts.length := by
        rw [List.length_take, hcl]; have := Nat.mul_le_mul_right (T e).cts.length hcap; omega
      refine ⟨_, Src.ofSlice w hk ⟨g, 0, none⟩ xs.length cap _ hlen (fun j v hj => ?_) hsh.one, hsh, hxl⟩
      rw [add_zero_block, hb.cell j]
      rw [List.getElem?_take] at hj
      split at hj
      · exact hj
      · cases hj

theorem src_own {tx e e' : TypeId} (hk : P.underlying tx = some (.slice e')) {d : Cell} {u : Value} {fq : List Nat} (h : CellRel T w S d u fq) (hct : d.ct = .slice e) (hfl : d.fl = .own true) (hnd : fq.Nodup) :
    ∃ news fq2, Src P (T e).cts.length tx u d.c.list.length news w ∧ CellsRel T w S (rowCells T e (.own true) d.c.list) news fq2 ∧ (∀ x, x ∈ d.c.list → x.length = (T e).cts.length) ∧ (∀ b, b ∈ fq2 → b ∈ fq) ∧ fq2.Nodup := by
  obtain ⟨ct, fl, c⟩ := d
  dsimp only at hct hfl
  subst hct hfl
  have h' : OwnC T w (.slice e) u c fq := h
  have hlist : ∃ xs, c = .l xs := by
    cases h' with
    | flat _ _ _ hm => simp [CT.mem] at hm
    | nil => exact ⟨_, rfl⟩
    | slice => exact ⟨_, rfl⟩
  obtain ⟨xs, rfl⟩ := hlist
  rcases row_view h with ⟨rfl, rfl, rfl⟩ | ⟨g, cap, cur, fq1, rfl, rfl, hcap, hmax, hxl, hb, hcl, hone, hc1, hn1⟩
  · exact ⟨[], [], Src.ofNil w hk 0, rowCells_nil, (fun _ h => by cases h), (fun _ h => by cases h), List.nodup_nil⟩
  · have hlen : (cur.take (xs.length * (T e).cts.length)).length = xs.length * (T e).cts.length := by
      rw [List.length_take, hcl]; have := Nat.mul_le_mul_right (T e).cts.length hcap; omega
    refine ⟨_, fq1, Src.ofSlice w hk ⟨g, 0, none⟩ xs.length cap _ hlen (fun j v hj => ?_) hc1.one, hc1, hxl, fun b hb => List.mem_cons_of_mem _ hb, (List.nodup_cons.1 hnd).2⟩
    rw [add_zero_block, hb.cell j]
    rw [List.getElem?_take] at hj
    split at hj
    · exact hj
    · cases hj

theorem src_string {tx e : TypeId} (hk : P.underlying tx = some .string) (he : (T e).cts = [.int .u8]) (l : List UInt8) :
    Src P (T e).cts.length tx (.string ⟨l.toArray⟩) (bytesRow l).length (byteCells ⟨l.toArray⟩) w ∧ CellsRel T w S (rowCells T e .sh (bytesRow l)) (byteCells ⟨l.toArray⟩) [] ∧ ∀ x, x ∈ bytesRow l → x.length = (T e).cts.length := by
  have hlen : (bytesRow l).length = l.length := by simp [bytesRow]
  have hsz : (⟨l.toArray⟩ : ByteArray).size = l.length := bytes_size _
  refine ⟨?_, ?_, ?_⟩
  · have := Src.ofString (P := P) w hk ⟨l.toArray⟩
    rw [hsz] at this
    rw [he, hlen]
    exact this
  · have hbl : (byteCells ⟨l.toArray⟩).length = l.length := by rw [byteCells_length, hsz]
    have hc := cells_of_fun (T := T) (w := w) (S := S) (fun k => ⟨(T e).cts.getD (k % (T e).cts.length) .bool, .sh, nth ((bytesRow l).getD (k / (T e).cts.length) []) (k % (T e).cts.length)⟩) (fun k => (byteCells ⟨l.toArray⟩).getD k undef) (fun _ => []) ((bytesRow l).length * (T e).cts.length) (fun k hk => by
      refine ⟨?_, rfl⟩
      rw [he, hlen] at hk
      simp only [List.length_singleton, Nat.mul_one] at hk
      rw [he]
      simp only [List.length_singleton, Nat.mod_one, Nat.div_one, List.getD_cons_zero]
      have e1 : (byteCells ⟨l.toArray⟩).getD k undef = .int .u8 (l[k]).toNat := by
        simp [byteCells, List.getD_eq_getElem?_getD, List.getElem?_eq_getElem hk]
      have e2 : (bytesRow l).getD k [] = [.i (l[k]).toNat] := by
        simp [bytesRow, List.getD_eq_getElem?_getD, List.getElem?_eq_getElem hk]
      rw [e1, e2]
      exact .int _ _)
    have e0 : ∀ n, (List.range n).flatMap (fun _ => ([] : List Nat)) = [] := fun n => by simp
    rw [e0, range_getD _ _ (by rw [hlen, he, hbl]; simp)] at hc
    have e3 : (byteCells ⟨l.toArray⟩).take ((bytesRow l).length * (T e).cts.length) = byteCells ⟨l.toArray⟩ := by
      apply List.take_of_length_le
      rw [hlen, he, hbl]; simp
    rw [e3] at hc
    exact hc
  · intro x hx
    simp only [bytesRow, List.mem_map] at hx
    obtain ⟨b, _, rfl⟩ := hx
    rw [he]; rfl

theorem finish_app {ws1 : Ws} {ws : Ws} {t tx e : TypeId} {c : Call} {s x : Operand} (ho : o.op = .call c) (hcl : c.callee = .builtin .append) (hca : c.args.toList = [s, x]) (hct : c.argTypes.toList = [t, tx])
    {deep : Bool} {fq fq2 F1 : List Nat} {xs : List (List TC)} {fp1 : Nat → List Nat} (hF : RelF T G base nt (σ.setAll ws1) a w F1 fp1 us blk) (hsub : ∀ b, b ∈ fq ++ fq2 → b ∈ F1) (hlo : ∀ b, b ∈ fq → base.own b)
    (hres : AppRes P T w (Sh w fp1 F1) t tx o.type e deep (a.eval s) (a.eval x) fq fq2 xs) (hd : ∀ d, o.dst = some d → d < nt) (hp : (put o.dst (.val false [⟨.slice e, .own deep, .l xs⟩]) ws1).ev D σ = some ws)
    (hK : ∀ a' w', Rel T G base nt (σ.setAll ws) a' w' → Bel base w w' → K a' w') : o.wp P a w K Q := by
  obtain ⟨v, w', N, fq', hrun, hch, hN, hNn, hq, hqn, hrel⟩ := hres
  have h2 := hF.chg hch (fun b hb => hsub b (List.mem_append_left _ hb)) N hN hNn
  have hca' : c.args = #[s, x] := by rw [← Array.toArray_toList (xs := c.args), hca]
  have hct' : c.argTypes = #[t, tx] := by rw [← Array.toArray_toList (xs := c.argTypes), hct]
  have hc := CellsRel.cons (hrel (Sh w' fp1 (F1 ++ N)) fun b hb => ⟨Nat.lt_of_lt_of_le hb.1 hch.size, hb.2.1, fun hm => (List.mem_append.1 hm).elim hb.2.2 fun hm => by have := (hN b hm).1; have := hb.1; omega⟩) (.nil (T := T) (w := w') (S := Sh w' fp1 (F1 ++ N)))
  have hfin := finish_val (usn := [v]) h2 hp hd hc (by simpa using hqn) (fun b hb => by
    rw [List.append_nil] at hb
    rcases hq b hb with hb | hb
    · exact List.mem_append_left _ (hsub b hb)
    · exact List.mem_append_right _ hb) (fun _ => rfl)
  refine wp_ok (v := v) (w' := w') ?_ (hK _ _ hfin (hch.bel hlo))
  simp [execOp, ho, resolve, hcl, invoke, builtin, hca', hct', hrun]

theorem take_slice {e : TypeId} {ss : List Cell} {g : Bool} {c : Cell} {vs : List Value} {fq : List Nat} (hg : ss.any Cell.isGone = false) (hl : g = false → ss.length = 1) (hgf : g = false) (h : CellsRel T w S ss vs fq) (hf : fitAll [.slice e] ss = some [c]) :
    ∃ u, mkv g vs = u ∧ CellRel T w S c u fq ∧ c.ct = .slice e ∧ c.isGone = false := by
  subst hgf
  obtain ⟨h1, h2, h3, _⟩ := fitAll_rel h hg hf
  cases h1 with
  | cons h4 h5 =>
    cases h5
    refine ⟨_, rfl, ?_, by simpa [ctsOf] using h2, by simpa using h3⟩
    rw [List.append_nil]
    exact h4

theorem op_append {ws : Ws} {c : Call} {s x : Operand} {t u : TypeId} (hT : TabOk P T) (ho : o.op = .call c) (hcl : c.callee = .builtin .append) (hca : c.args.toList = [s, x]) (hct : c.argTypes.toList = [t, u])
    (h : Rel T G base nt σ a w) (hd : ∀ d, o.dst = some d → d < nt)
    (he : (opR T o).ev D σ = some ws) (hK : ∀ a' w', Rel T G base nt (σ.setAll ws) a' w' → Bel base w w' → K a' w') : o.wp P a w K Q := by
  unfold opR at he
  simp only [ho, hcl, hca, hct, R.ev_bind] at he
  obtain ⟨⟨cc, ws0⟩, hc, hp⟩ := Option.bind_eq_some_iff.1 he
  clear he
  obtain ⟨fp, us, blk, hF⟩ := h
  unfold appendOp at hc
  simp only [R.ev_bind] at hc
  obtain ⟨⟨g, ss, ws1⟩, h1, hc1⟩ := Option.bind_eq_some_iff.1 hc
  clear hc
  obtain ⟨rs, h2, hc2⟩ := Option.bind_eq_some_iff.1 hc1
  clear hc1
  obtain ⟨rx, h3, hc⟩ := Option.bind_eq_some_iff.1 hc2
  clear hc2
  obtain ⟨vs, fpx, fp', hR, hv, hcs, hgn, hgl, hnd, hSh, hfp⟩ := take_sound hF h1
  rw [List.append_nil] at hR hcs hSh
  dsimp only at hc
  split at hc
  · simp at hc
  · rename_i hcg
    simp only [Bool.or_eq_true, not_or, Bool.not_eq_true] at hcg
    obtain ⟨hcl1, rfl⟩ := hcg
    have hfr : ∀ n, n ∈ rx → (σ.setAll ws1) n = σ n := fun n hn => setAll_other _ _ _ (clash_false hcl1 n hn)
    obtain ⟨tf1, tf2, tf3⟩ := take_frame h3 hfr
    split at hc
    · rename_i e hkt
      simp only [R.ev_bind, R.ev_opt] at hc
      obtain ⟨zs, hz, hc1⟩ := Option.bind_eq_some_iff.1 hc
      clear hc
      have hc := hc1
      clear hc1
      split at hc
      · simp at hc
      · rename_i hoe
        have hpos : 0 < (T e).cts.length := by
          cases hcts : (T e).cts with
          | nil => rw [hcts] at hoe; simp at hoe
          | cons => simp
        replace hoe : (T e).kind.isOther = false := by
          cases hko : (T e).kind.isOther with
          | false => rfl
          | true => rw [hko] at hoe; simp at hoe
        obtain ⟨it, hit⟩ := hT t (by rw [hkt]; rfl)
        have hut := hit.kind
        rw [hkt] at hut
        obtain ⟨ie, hie⟩ := hT e hoe
        split at hc
        · rename_i c0 hfit
          obtain ⟨u0, hu0, hrel, hct0, hg0⟩ := take_slice hgn hgl rfl hcs hfit
          rw [← hv] at hu0
          split at hc
          · rename_i deep hfl
            have hc0 : c0 = ⟨.slice e, .own deep, .l c0.c.list⟩ := by
              obtain ⟨ct, fl, c⟩ := c0
              dsimp only at hct0 hfl
              subst hct0 hfl
              have hlist : ∃ xs, c = .l xs := by
                have h' := hrel
                unfold CellRel at h'
                cases deep with
                | true =>
                  have h' : OwnC T w (.slice e) u0 c fpx := h'
                  cases h' with
                  | flat _ _ _ hm => simp [CT.mem] at hm
                  | nil => exact ⟨_, rfl⟩
                  | slice => exact ⟨_, rfl⟩
                | false =>
                  have h' : OwnT T w _ (.slice e) u0 c fpx := h'
                  cases h' with
                  | flat _ _ _ hm => simp [CT.mem] at hm
                  | nil => exact ⟨_, rfl⟩
                  | slice => exact ⟨_, rfl⟩
              obtain ⟨xs, rfl⟩ := hlist
              rfl
            rw [hc0] at hrel
            split at hc
            · rename_i hdm
              simp only [Bool.and_eq_true] at hdm
              obtain ⟨rfl, hmem⟩ := hdm
              simp only [R.ev_bind, R.ev_opt] at hc
              obtain ⟨⟨g', xs, ws2⟩, h4, hc1⟩ := Option.bind_eq_some_iff.1 hc
              clear hc
              obtain ⟨d, h5, hc⟩ := Option.bind_eq_some_iff.1 hc1
              clear hc1
              dsimp only at hc
              split at hc
              · rename_i hcond
                obtain ⟨q1, q2, rfl, q4, q5, rfl⟩ := hcond
                simp only [R.ev_bind] at hc
                obtain ⟨_, hrm, hc9⟩ := Option.bind_eq_some_iff.1 hc
                rw [R.ev_guard] at hrm
                simp only [R.ev_pure, Option.some.injEq, Prod.mk.injEq] at hc9
                obtain ⟨rfl, rfl⟩ := hc9
                clear hc
                have h4' : (take x).ev D (σ.setAll ws1) = some (false, xs, ws2) := by rw [tf1]; exact h4
                obtain ⟨vs2, fpx2, fp2, hR2, hv2, hcs2, hgn2, hgl2, hnd2, hSh2, hfp2⟩ := take_sound hR h4'
                have hxs : xs = [d] := by
                  cases xs with
                  | nil => simp at q5
                  | cons y ys => cases ys with
                    | nil => simp at h5; rw [h5]
                    | cons => simp at q5
                subst hxs
                rw [← setAll_append] at hR2
                cases hcs2 with
                | cons k1 k2 =>
                  cases k2
                  rw [List.append_nil] at hR2 hnd2 k1 hSh2
                  have hea : a.eval x = _ := hv2
                  obtain ⟨news, fq2, s1, s2, s3, s4, s5⟩ := src_own (P := P) hut.1 k1 q1 q2 hnd2
                  have hdisj : ∀ b, b ∈ fq2 → b ∉ fpx := fun b hb hm => (List.nodup_append.1 hR2.ndF).2.2 b (s4 b hb) b hm rfl
                  have hrel2 : ∀ S2 : Nat → Prop, CellRel T w S2 ⟨.slice e, .own true, .l c0.c.list⟩ u0 fpx := fun _ => hrel
                  have hcore := app_core (ty := o.type) (deep := true) hT hut.1 hoe hie hz hpos s1 (hrel2 _) s2 (rowCells_gone (by simp)) (rowCells_ct e _ _) (fun _ => rowCells_deep) (fun h => by cases h) (by rw [← List.length_append]; exact hrm) (fun b hb hm => hb.2.2 (List.mem_append_right _ hm)) hdisj hnd s5
                  rw [rowCells_raw _ hpos s3] at hcore
                  rw [← hu0] at hcore
                  refine finish_app (fq2 := fq2) ho hcl hca hct hR2 (fun b hb => ?_) (fun b hb => hR.loF b hb) (by rw [hea]; exact hcore) hd hp hK
                  rcases List.mem_append.1 hb with hb | hb
                  · exact List.mem_append_right _ hb
                  · exact List.mem_append_left _ (s4 b hb)
              · simp at hc
            · rename_i hdm
              have hdm' : deep = true → anyMem (T e).cts = false := by
                intro hdp; subst hdp; simpa using hdm
              simp only [R.ev_bind] at hc
              obtain ⟨d, h5, hc1⟩ := Option.bind_eq_some_iff.1 hc
              clear hc
              have hc := hc1
              clear hc1
              have h5' : (peek1 x).ev D (σ.setAll ws1) = some d := by rw [tf3]; exact h5
              obtain ⟨fq3, hdr, hdg, n0, hn0⟩ := peek1_sound hR h5'
              have hcommon : ∀ {ys : List (List TC)} {news : List Value}, Src P (T e).cts.length u (a.eval x) ys.length news w → CellsRel T w (Sh w fp' fpx) (rowCells T e .sh ys) news [] → (∀ x, x ∈ ys → x.length = (T e).cts.length) →
                  roomFor (T e) (c0.c.list ++ ys).length → (put o.dst (.val false [⟨.slice e, .own deep, .l (c0.c.list ++ ys)⟩]) ws1).ev D σ = some ws → o.wp P a w K Q := by
                intro ys news s1 s2 s3 hrm hp
                have hcore := app_core (ty := o.type) (deep := deep) hT hut.1 hoe hie hz hpos s1 hrel s2 (rowCells_gone (by simp)) (rowCells_ct e _ _) (fun h => rowCells_flat (hdm' h)) (fun _ => rfl) (by rw [← List.length_append]; exact hrm) (fun b hb hm => hb.2.2 hm) (fun _ h => by cases h) hnd .nil
                rw [rowCells_raw _ hpos s3] at hcore
                rw [← hu0] at hcore
                exact finish_app (fq2 := []) ho hcl hca hct hR (fun b hb => by simpa using hb) (fun b hb => hR.loF b hb) hcore hd hp hK
              split at hc
              · rename_i e' tx hd1 hd2
                split at hc
                · rename_i hcond
                  obtain ⟨rfl, rfl, q3⟩ := hcond
                  simp only [R.ev_bind] at hc
                  obtain ⟨_, hrm, hc9⟩ := Option.bind_eq_some_iff.1 hc
                  rw [R.ev_guard] at hrm
                  simp only [R.ev_pure, Option.some.injEq, Prod.mk.injEq] at hc9
                  obtain ⟨rfl, rfl⟩ := hc9
                  clear hc
                  obtain ⟨news, s1, s2, s3⟩ := src_slice (P := P) hut.1 hdr hdg hd1 q3
                  exact hcommon s1 s2 s3 hrm hp
                · simp at hc
              · rename_i hd1 hd2 hd3
                simp only [R.ev_bind] at hc
                obtain ⟨_, hrm, hc9⟩ := Option.bind_eq_some_iff.1 hc
                rw [R.ev_guard] at hrm
                simp only [R.ev_pure, Option.some.injEq, Prod.mk.injEq] at hc9
                obtain ⟨rfl, rfl⟩ := hc9
                clear hc
                obtain ⟨hue, hcts⟩ := kind_u8 hT hd2
                obtain ⟨iu, hiu⟩ := hT u (by rw [hd3]; rfl)
                have huu := hiu.kind
                rw [hd3] at huu
                have r1 := peek1_rep hR h5'
                rw [hd1] at r1
                obtain ⟨s1, s2, s3⟩ := src_string (P := P) (T := T) (w := w) (S := Sh w fp' fpx) (e := e) huu.1 hcts d.c.str
                rw [← rep_str r1] at s1
                exact hcommon s1 s2 s3 hrm hp
              · simp at hc
          · simp at hc
        · simp at hc
    · simp at hc
end

end Go.Proofs.Ytabdjbkbfilhkaa.V
