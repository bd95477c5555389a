import Derived.Test.YtabdjbkbfilhkaaV21
import Derived.WalkKit
import Derived.ProofKit
import Derived.OpenShut
import Derived.ShutString
import Derived.ChangeOld
import Derived.Below
import Derived.SizedLaws
import Derived.Carry
import Derived.Deep.Slices
namespace Go.Proofs.Ytabdjbkbfilhkaa.V
open Go Go.RowKit

inductive Typed (T : Tab) : CT → TC → Prop
  | int (k : IntKind) (n : Int) : (Lit.int k n).wf = true → Typed T (.int k) (.i n)
  | bool (b : Bool) : Typed T .bool (.b b)
  | str (l : List UInt8) : l.length ≤ reachBytes → Typed T .str (.s l)
  | slice (e : TypeId) (xs : List (List TC)) : xs.length * (T e).bytes ≤ reachBytes → xs.length ≤ maxLen → (∀ x, x ∈ xs → x.length = (T e).cts.length) →
      (∀ x, x ∈ xs → ∀ k, k < (T e).cts.length → Typed T ((T e).cts.getD k .bool) (nth x k)) → Typed T (.slice e) (.l xs)

def contig (T : Tab) : List (Nat × TypeId) → Nat → Nat → Bool
  | [], a, z => decide (a = z)
  | (o, e) :: fs, a, z => decide (o = a) && contig T fs (a + (T e).cts.length) z

def openTy (T : Tab) (O : List TypeId) (t : TypeId) : Bool :=
  match (T t).kind with
  | .int _ | .bool | .str => true
  | .slice e => O.contains e
  | .struct fs => contig T fs 0 (T t).cts.length && fs.all fun p => O.contains p.2
  | _ => false
def openAll (T : Tab) (O : List TypeId) : Bool := O.all (openTy T O)

section
variable {H : Type} {enc : TypeId × Value → H} {P : Program} {T : Tab} {w : World} {sp : Nat → Bool} {held : Bool} {O : List TypeId}

def Opens (T : Tab) (w : World) (cts : List CT) (cs : List Value) (trees : List TC) : Prop :=
  trees.length = cts.length ∧ cs.length = cts.length ∧ ∀ k, k < cts.length → RepC T w (There w) (cts.getD k .bool) (cs.getD k undef) (nth trees k) ∧ Typed T (cts.getD k .bool) (nth trees k)

theorem opens_one {ct : CT} {v : Value} {c : TC} (h : RepC T w (There w) ct v c) (ht : Typed T ct c) : Opens T w [ct] [v] [c] :=
  ⟨rfl, rfl, fun k hk => by
    have : k = 0 := by simpa using hk
    subst this
    exact ⟨h, ht⟩⟩

theorem cellsOf_ty {t : TypeId} {i : TypeInfo} (h : TyOk P T t i) : P.cellsOf t = (T t).cts.length := by simp [Program.cellsOf, h.info, h.size]
theorem bytesOf_ty {t : TypeId} {i : TypeInfo} (h : TyOk P T t i) : P.bytesOf t = (T t).bytes := by simp [Program.bytesOf, h.info, h.bytes]

theorem all_append_le {l m : List Nat} {R : Nat} (h : (l ++ m).all (· ≤ R) = true) : l.all (· ≤ R) = true ∧ m.all (· ≤ R) = true := by
  rw [List.all_append, Bool.and_eq_true] at h; exact h

theorem weightsAll_at {e : TypeId} {R : Nat} : ∀ {ds : List (DataW H)}, (DataW.weightsAll P e ds).all (· ≤ R) = true → ∀ d, d ∈ ds → (d.weights P e).all (· ≤ R) = true
  | [], _, d, hd => by cases hd
  | d0 :: ds, h, d, hd => by
    simp only [DataW.weightsAll] at h
    obtain ⟨h1, h2⟩ := all_append_le h
    rcases List.mem_cons.1 hd with rfl | hd
    · exact h1
    · exact weightsAll_at h2 d hd

theorem weightsEach_at {R : Nat} : ∀ {ts : List TypeId} {ds : List (DataW H)}, (DataW.weightsEach P ts ds).all (· ≤ R) = true → ∀ (j : Nat) (t : TypeId) (d : DataW H), ts[j]? = some t → ds[j]? = some d → (d.weights P t).all (· ≤ R) = true
  | [], _, _, j, t, d, ht, _ => by simp at ht
  | _ :: _, [], _, j, t, d, _, hd => by simp at hd
  | t0 :: ts, d0 :: ds, h, j, t, d, ht, hd => by
    simp only [DataW.weightsEach] at h
    obtain ⟨h1, h2⟩ := all_append_le h
    cases j with
    | zero => simp at ht hd; subst ht hd; exact h1
    | succ j => simp only [List.getElem?_cons_succ] at ht hd; exact weightsEach_at h2 j t d ht hd

theorem opens_fields {cts : List CT} {cs : List Value} : ∀ {fs : List (Nat × TypeId)} {a z : Nat}, contig T fs a z = true → (∀ p, p ∈ fs → ((cts.drop p.1).take (T p.2).cts.length = (T p.2).cts) ∧ ∃ trees, Opens T w (T p.2).cts ((cs.drop p.1).take (T p.2).cts.length) trees) →
    a ≤ z ∧ ∃ trees : List TC, trees.length = z - a ∧ ∀ k, a ≤ k → k < z → RepC T w (There w) (cts.getD k .bool) (cs.getD k undef) (nth trees (k - a)) ∧ Typed T (cts.getD k .bool) (nth trees (k - a))
  | [], a, z, hc, _ => by
    simp only [contig, decide_eq_true_eq] at hc
    subst hc
    exact ⟨Nat.le_refl _, [], by simp, fun k h1 h2 => by omega⟩
  | (o, e) :: fs, a, z, hc, h => by
    simp only [contig, Bool.and_eq_true, decide_eq_true_eq] at hc
    obtain ⟨rfl, hc⟩ := hc
    obtain ⟨hle, ts2, q1, q2⟩ := opens_fields hc fun p hp => h p (by simp [hp])
    obtain ⟨hcts, ts1, p1, p2, p3⟩ := h (o, e) (by simp)
    dsimp only at hcts p1 p2 p3
    refine ⟨by omega, ts1 ++ ts2, by rw [List.length_append, p1, q1]; omega, fun k h1 h2 => ?_⟩
    by_cases hk : k < o + (T e).cts.length
    · have hk' : k - o < (T e).cts.length := by omega
      have e1 : cts.getD k .bool = (T e).cts.getD (k - o) .bool := by
        conv => rhs; rw [← hcts]
        rw [List.getD_eq_getElem?_getD, List.getD_eq_getElem?_getD, List.getElem?_take, if_pos hk', List.getElem?_drop, show o + (k - o) = k by omega]
      have e2 : cs.getD k undef = ((cs.drop o).take (T e).cts.length).getD (k - o) undef := by
        rw [List.getD_eq_getElem?_getD, List.getD_eq_getElem?_getD, List.getElem?_take, if_pos hk', List.getElem?_drop, show o + (k - o) = k by omega]
      have e3 : nth (ts1 ++ ts2) (k - o) = nth ts1 (k - o) := by
        unfold nth
        rw [List.getD_eq_getElem?_getD, List.getElem?_append_left (by omega), ← List.getD_eq_getElem?_getD]
      rw [e1, e2, e3]
      exact p3 _ hk'
    · have e3 : nth (ts1 ++ ts2) (k - o) = nth ts2 (k - (o + (T e).cts.length)) := by
        unfold nth
        rw [List.getD_eq_getElem?_getD, List.getElem?_append_right (by omega), ← List.getD_eq_getElem?_getD, p1, show k - o - (T e).cts.length = k - (o + (T e).cts.length) by omega]
      rw [e3]
      exact q2 k (by omega) h2

theorem open_trod (hT : TabOk P T) (hO : openAll T O = true) : ∀ (fuel : Nat) (t : TypeId) (cs : List Value) (x : DataW H × List MemPlace), t ∈ O → DataW.trod enc P w 0 sp held fuel t cs = some x → (x.1.weights P t).all (· ≤ reachBytes) = true → ∃ trees, Opens T w (T t).cts cs trees := by
  intro fuel
  induction fuel with
  | zero => intro t cs x _ h; simp [DataW.trod] at h
  | succ fuel ih =>
    intro t cs x ht h hw
    have hot : openTy T O t = true := by unfold openAll at hO; rw [List.all_eq_true] at hO; exact hO t ht
    have hnk : ∀ k, (T t).kind = k → k.isOther = false → ∃ i, TyOk P T t i := fun k hk hk2 => hT t (by rw [hk]; exact hk2)
    unfold openTy at hot
    split at hot
    · rename_i k hkd
      obtain ⟨i, hi⟩ := hnk _ hkd rfl
      have hki := hi.kind
      rw [hkd] at hki
      obtain ⟨n, rfl, _, hwf⟩ := DataW.trod_int hki.1 h
      rw [hki.2]
      exact ⟨_, opens_one (.int k n) (.int k n hwf)⟩
    · rename_i hkd
      obtain ⟨i, hi⟩ := hnk _ hkd rfl
      have hki := hi.kind
      rw [hkd] at hki
      obtain ⟨b, rfl, _⟩ := DataW.trod_bool hki.1 h
      rw [hki.2]
      exact ⟨_, opens_one (.bool b) (.bool b)⟩
    · rename_i hkd
      obtain ⟨i, hi⟩ := hnk _ hkd rfl
      have hki := hi.kind
      rw [hkd] at hki
      obtain ⟨s, rfl, rfl, _⟩ := DataW.trod_string hki.1 h
      rw [hki.2]
      have hlen : s.data.toList.length ≤ reachBytes := by simpa [DataW.weights] using hw
      obtain ⟨⟨l⟩⟩ := s
      exact ⟨_, opens_one (.str l) (.str l (by simpa using hlen))⟩
    · rename_i e hkd
      obtain ⟨i, hi⟩ := hnk _ hkd rfl
      have hki := hi.kind
      rw [hkd] at hki
      have heO : e ∈ O := by simpa using hot
      rw [hki.2]
      rcases DataW.trod_slice hki.1 h with ⟨rfl, _⟩ | ⟨a, len, cap, elems, rest, n, hn, rfl, rfl, hb, hl, hm, hlen, hel, _, _⟩
      · exact ⟨_, opens_one (.nil e) (.slice e [] (by simp) (by simp) (fun _ h => by cases h) (fun _ h => by cases h))⟩
      · have hn' : n = fuel := by omega
        subst hn'
        have heo : (T e).kind.isOther = false := by
          have : openTy T O e = true := by unfold openAll at hO; rw [List.all_eq_true] at hO; exact hO e heO
          unfold openTy at this
          cases hk : (T e).kind <;> rw [hk] at this <;> first | rfl | simp at this
        obtain ⟨ie, hie⟩ := hT e heo
        have hce := cellsOf_ty hie
        simp only [DataW.weights, hki.1, List.all_cons, Bool.and_eq_true, decide_eq_true_eq] at hw
        obtain ⟨hw1, hw2⟩ := hw
        have hw3 := (all_append_le hw2).1
        have hex : ∀ i, ∃ trees : List TC, i < len → ∃ cs', w.cells? 0 (a.add (i * (T e).cts.length)) (T e).cts.length = some cs' ∧ Opens T w (T e).cts cs' trees := by
          intro i
          by_cases hi : i < len
          · have h1 := hel i hi
            rw [hce] at h1
            have hi' : i < elems.length := by omega
            rw [List.getElem?_eq_getElem hi'] at h1
            obtain ⟨cs', h2, h3⟩ := Option.bind_eq_some_iff.1 h1
            obtain ⟨trees, h4⟩ := ih e cs' elems[i] heO h3 (weightsAll_at hw3 _ (List.mem_map_of_mem (List.getElem_mem hi')))
            exact ⟨trees, fun _ => ⟨cs', h2, h4⟩⟩
          · exact ⟨[], fun h => absurd h hi⟩
        obtain ⟨tr, htr⟩ := Classical.axiomOfChoice hex
        have hxl : ((List.range len).map tr).length = len := by simp
        have hxm : ∀ x, x ∈ (List.range len).map tr → ∃ i, i < len ∧ x = tr i := fun x hx => by
          obtain ⟨i, hi, rfl⟩ := List.mem_map.1 hx
          exact ⟨i, List.mem_range.1 hi, rfl⟩
        have hrow : ∀ x, x ∈ (List.range len).map tr → x.length = (T e).cts.length := fun x hx => by
          obtain ⟨i, hi, rfl⟩ := hxm x hx
          obtain ⟨cs', _, h2, _⟩ := htr i hi
          exact h2
        have hpos : ∀ {k}, k < len * (T e).cts.length → 0 < (T e).cts.length := fun {k} hk => by
          rcases Nat.eq_zero_or_pos (T e).cts.length with h | h
          · rw [h] at hk; simp at hk
          · exact h
        have hcell : ∀ k, k < len * (T e).cts.length → ∃ v, w.cell? (a.add k) = some v ∧ RepC T w (There w) ((T e).cts.getD (k % (T e).cts.length) .bool) v (nth (((List.range len).map tr).getD (k / (T e).cts.length) []) (k % (T e).cts.length)) := by
          intro k hk
          have hp := hpos hk
          have hq : k / (T e).cts.length < len := div_lt_of hk
          have hr := Nat.mod_lt k hp
          obtain ⟨cs', h1, h2, h3, h4⟩ := htr _ hq
          obtain ⟨_, h5, h6⟩ := World.cells?_some h1
          have hrl : k % (T e).cts.length < cs'.length := by omega
          have h7 := h6 (k % (T e).cts.length) hr
          rw [add_add, show k / (T e).cts.length * (T e).cts.length + k % (T e).cts.length = k by rw [Nat.mul_comm]; exact Nat.div_add_mod _ _] at h7
          refine ⟨cs'.getD (k % (T e).cts.length) undef, ?_, ?_⟩
          · rw [h7, List.getD_eq_getElem?_getD, List.getElem?_eq_getElem hrl]; rfl
          · have := (h4 _ hr).1
            have e1 : ((List.range len).map tr).getD (k / (T e).cts.length) [] = tr (k / (T e).cts.length) := by
              simp [List.getD_eq_getElem?_getD, List.getElem?_map, List.getElem?_range hq]
            rw [e1]
            exact this
        have hcx : ∀ k, ∃ v : Value, k < len * (T e).cts.length → w.cell? (a.add k) = some v ∧ RepC T w (There w) ((T e).cts.getD (k % (T e).cts.length) .bool) v (nth (((List.range len).map tr).getD (k / (T e).cts.length) []) (k % (T e).cts.length)) := by
          intro k
          by_cases hk : k < len * (T e).cts.length
          · obtain ⟨v, h1, h2⟩ := hcell k hk; exact ⟨v, fun _ => ⟨h1, h2⟩⟩
          · exact ⟨undef, fun h => absurd h hk⟩
        obtain ⟨us, hus⟩ := Classical.axiomOfChoice hcx
        refine ⟨_, opens_one (c := .l ((List.range len).map tr)) ?_ (.slice e _ ?_ ?_ hrow fun x hx k hk => ?_)⟩
        · have key := RepC.slice (T := T) (w := w) (S := There w) e a ((List.range len).map tr) cap us (by rw [hxl]; exact hl) hrow (fun k hk => by
            rw [hxl] at hk
            have := (hus k hk).1
            refine ⟨?_, this⟩
            have hb := World.block_lt_of_cell? w (a.add k) this
            rwa [add_block] at hb) (fun k hk => by rw [hxl] at hk; exact (hus k hk).2)
          rw [hxl] at key
          exact key
        · rw [hxl]
          rw [bytesOf_ty hie] at hw1
          have e1 : (elems.map (·.1)).length = len := by rw [List.length_map, hlen]
          rw [e1] at hw1
          exact Nat.le_trans (Nat.mul_le_mul_right _ (Nat.le_add_right _ _)) hw1
        · rw [hxl]; omega
        · obtain ⟨i, hi, rfl⟩ := hxm x hx
          obtain ⟨cs', _, _, _, h4⟩ := htr i hi
          exact (h4 k hk).2
    · rename_i fs hkd
      obtain ⟨i, hi⟩ := hnk _ hkd rfl
      have hki := hi.kind
      rw [hkd] at hki
      simp only [Bool.and_eq_true] at hot
      obtain ⟨hcg, hfO⟩ := hot
      rw [List.all_eq_true] at hfO
      obtain ⟨gs, hu, hsz, hfl⟩ := hki
      obtain ⟨xs, n, hn, rfl, hcl, hxl, hxf⟩ := DataW.trod_struct hu h
      have hn' : n = fuel := by omega
      subst hn'
      rw [cellsOf_ty hi] at hcl
      simp only [DataW.weights, hu] at hw
      have hfield : ∀ p, p ∈ fs → (((T t).cts.drop p.1).take (T p.2).cts.length = (T p.2).cts) ∧ ∃ trees, Opens T w (T p.2).cts ((cs.drop p.1).take (T p.2).cts.length) trees := by
        intro p hp
        obtain ⟨j, hj, hpj⟩ := List.getElem_of_mem hp
        obtain ⟨f, hf, h1, h2, h3, i2, h4, h5⟩ := hfl j p.1 p.2 (by rw [List.getElem?_eq_getElem hj, hpj])
        have hpO : p.2 ∈ O := by simpa using hfO p hp
        refine ⟨h3, ?_⟩
        have h6 := hxf j f hf
        have hjx : j < xs.length := by
          have := (Array.getElem?_eq_some_iff.1 hf).1; omega
        rw [h1, h2, List.getElem?_eq_getElem hjx] at h6
        have hce : P.cellsOf p.2 = (T p.2).cts.length := by simp [Program.cellsOf, h4, h5]
        rw [hce] at h6
        refine ih p.2 _ xs[j] hpO h6 (weightsEach_at hw j p.2 _ ?_ ?_)
        · rw [List.getElem?_map, Array.getElem?_toList, hf, Option.map_some, h2]
        · rw [List.getElem?_map, List.getElem?_eq_getElem hjx, Option.map_some]
      obtain ⟨_, trees, q1, q2⟩ := opens_fields hcg hfield
      exact ⟨trees, by simpa using q1, hcl, fun k hk => by simpa using q2 k (Nat.zero_le _) hk⟩
    · cases hot
end

end Go.Proofs.Ytabdjbkbfilhkaa.V
