/- The tables are right for this translation. No condition. -/
import Derived.Test.YtkgjindjaaggkaaVTab
import Derived.Test.YtkgjindjaaggkaaV45
import Derived.KernelRfl
import Derived.Shelf.Strings.Repeat
import Derived.RangeFuncBox
import Derived.RangeFuncLeaves
import Derived.Shelf.Abstract
import Derived.WalkKit
import Derived.OwnWalkIn
import Derived.TacticsInMore
import Derived.LoopNIn
import Derived.LoopIn
namespace Go.Proofs.Ytkgjindjaaggkaa.V
open Go Go.Proofs Go.Shelf
theorem tab_ok : TabOk Go.Proofs.Try.prog tab := checkAll_ok (l := tabL) (m := methL) (by kernel_rfl)
theorem names_ok : NamesOk Go.Proofs.Try.prog := checkNames_ok (by kernel_rfl)
theorem mixed_ok : Go.Proofs.Try.prog.follows .mixedOrders = true := by kernel_rfl
theorem laid_ok : laidOutB Go.Proofs.Try.prog = true := by kernel_rfl
theorem meth_ok : MethOk Go.Proofs.Try.prog tab := methOk_none2 (l := tabL) (m := methL) (by kernel_rfl) (by kernel_rfl)
theorem gl_none (g : Nat) : ¬ isGl tab g := noGl (by kernel_rfl) g
def renS53 : Go.Shelf.Ren := ⟨fun n => bif Nat.beq n 53 then 107 else bif Nat.beq n 59 then 169 else bif Nat.beq n 63 then 142 else bif Nat.beq n 64 then 143 else bif Nat.beq n 68 then 139 else bif Nat.beq n 70 then 163 else bif Nat.beq n 71 then 164 else bif Nat.beq n 72 then 165 else bif Nat.beq n 73 then 166 else bif Nat.beq n 74 then 167 else bif Nat.beq n 75 then 168 else bif Nat.beq n 76 then 170 else bif Nat.beq n 77 then 171 else bif Nat.beq n 78 then 172 else bif Nat.beq n 79 then 173 else bif Nat.beq n 88 then 176 else bif Nat.beq n 89 then 177 else bif Nat.beq n 90 then 178 else bif Nat.beq n 91 then 179 else bif Nat.beq n 92 then 180 else bif Nat.beq n 96 then 181 else 0, fun n => bif Nat.beq n 0 then 0 else bif Nat.beq n 3 then 3 else bif Nat.beq n 4 then 4 else bif Nat.beq n 5 then 5 else bif Nat.beq n 9 then 9 else bif Nat.beq n 22 then 22 else bif Nat.beq n 23 then 2 else bif Nat.beq n 44 then 112 else bif Nat.beq n 51 then 131 else bif Nat.beq n 60 then 166 else bif Nat.beq n 61 then 167 else bif Nat.beq n 67 then 153 else bif Nat.beq n 69 then 121 else bif Nat.beq n 75 then 177 else bif Nat.beq n 79 then 181 else bif Nat.beq n 83 then 183 else bif Nat.beq n 84 then 184 else 0, fun _ => 0⟩
theorem lays53 : SlLaysN.n53 Try.prog renS53 := {
  mixed := by kernel_rfl
  f53 := ⟨Try.f107.name, by decide, Try.func107.trans (congrArg some (by kernel_rfl))⟩
  f59 := ⟨Try.f169.name, by decide, Try.func169.trans (congrArg some (by kernel_rfl))⟩
  f63 := ⟨Try.f142.name, by decide, Try.func142.trans (congrArg some (by kernel_rfl))⟩
  f64 := Try.func143.trans (congrArg some (by kernel_rfl))
  f68 := ⟨Try.f139.name, by decide, Try.func139.trans (congrArg some (by kernel_rfl))⟩
  f70 := ⟨Try.f163.name, by decide, Try.func163.trans (congrArg some (by kernel_rfl))⟩
  f71 := ⟨Try.f164.name, by decide, Try.func164.trans (congrArg some (by kernel_rfl))⟩
  f72 := ⟨Try.f165.name, by decide, Try.func165.trans (congrArg some (by kernel_rfl))⟩
  f73 := ⟨Try.f166.name, by decide, Try.func166.trans (congrArg some (by kernel_rfl))⟩
  f74 := ⟨Try.f167.name, by decide, Try.func167.trans (congrArg some (by kernel_rfl))⟩
  f75 := ⟨Try.f168.name, by decide, Try.func168.trans (congrArg some (by kernel_rfl))⟩
  f76 := ⟨Try.f170.name, by decide, Try.func170.trans (congrArg some (by kernel_rfl))⟩
  f77 := ⟨Try.f171.name, by decide, Try.func171.trans (congrArg some (by kernel_rfl))⟩
  f78 := Try.func172.trans (congrArg some (by kernel_rfl))
  f79 := Try.func173.trans (congrArg some (by kernel_rfl))
  f88 := ⟨Try.f176.name, by decide, Try.func176.trans (congrArg some (by kernel_rfl))⟩
  f89 := Try.func177.trans (congrArg some (by kernel_rfl))
  f90 := Try.func178.trans (congrArg some (by kernel_rfl))
  f91 := ⟨Try.f179.name, by decide, Try.func179.trans (congrArg some (by kernel_rfl))⟩
  f92 := ⟨Try.f180.name, by decide, Try.func180.trans (congrArg some (by kernel_rfl))⟩
  f96 := ⟨Try.f181.name, by decide, Try.func181.trans (congrArg some (by kernel_rfl))⟩
  t0 := Try.underlying0
  a0 := Try.isAgg0
  z0 := Try.sizeOf0
  v0 := Try.zeroValue0
  t3 := Try.underlying3
  a3 := Try.isAgg3
  z3 := Try.sizeOf3
  v3 := Try.zeroValue3
  t4 := Try.underlying4
  a4 := Try.isAgg4
  z4 := Try.sizeOf4
  v4 := Try.zeroValue4
  t5 := Try.underlying5
  a5 := Try.isAgg5
  z5 := Try.sizeOf5
  v5 := Try.zeroValue5
  t9 := Try.underlying9
  a9 := Try.isAgg9
  z9 := Try.sizeOf9
  v9 := Try.zeroValue9
  t22 := Try.underlying22
  a22 := Try.isAgg22
  z22 := Try.sizeOf22
  v22 := Try.zeroValue22
  t23 := Try.underlying2
  a23 := Try.isAgg2
  z23 := Try.sizeOf2
  v23 := Try.zeroValue2
  t44 := Try.underlying112
  a44 := Try.isAgg112
  z44 := Try.sizeOf112
  v44 := Try.zeroValue112
  t51 := Try.underlying131
  a51 := Try.isAgg131
  z51 := Try.sizeOf131
  v51 := Try.zeroValue131
  t60 := Try.underlying166
  a60 := Try.isAgg166
  z60 := Try.sizeOf166
  v60 := Try.zeroValue166
  t61 := Try.underlying167
  a61 := Try.isAgg167
  z61 := Try.sizeOf167
  v61 := Try.zeroValue167
  t67 := Try.underlying153
  a67 := Try.isAgg153
  z67 := Try.sizeOf153
  v67 := Try.zeroValue153
  t69 := Try.underlying121
  a69 := Try.isAgg121
  z69 := Try.sizeOf121
  v69 := Try.zeroValue121
  t75 := Try.underlying177
  a75 := Try.isAgg177
  z75 := Try.sizeOf177
  v75 := Try.zeroValue177
  t79 := Try.underlying181
  a79 := Try.isAgg181
  z79 := Try.sizeOf181
  v79 := Try.zeroValue181
  t83 := Try.underlying183
  a83 := Try.isAgg183
  z83 := Try.sizeOf183
  v83 := Try.zeroValue183
  t84 := Try.underlying184
  a84 := Try.isAgg184
  z84 := Try.sizeOf184
  v84 := Try.zeroValue184 }
theorem d0 : DOk Go.Proofs.Try.prog tab D0 := d00 meth_ok
section
open Go Go.RowKit Go.Shelf Go.Proofs
attribute [local go_sem] Oper.semAt_some
/-- The places that have come when k rounds from the end are over. -/
def bkF (n : Nat) : Nat → List (Fin n)
  | 0 => []
  | k + 1 => bkF n k ++ (if h : n - 1 - k < n then [⟨n - 1 - k, h⟩] else [])
theorem bkF_succ {n k : Nat} (h : k < n) : bkF n (k + 1) = bkF n k ++ [⟨n - 1 - k, by omega⟩] := by
  show bkF n k ++ _ = _
  rw [dif_pos (by omega)]
theorem bkF_length {n : Nat} : ∀ k, k ≤ n → (bkF n k).length = k
  | 0, _ => rfl
  | k + 1, h => by rw [bkF_succ (by omega), List.length_append, bkF_length k (by omega)]; rfl
/-- What a round keeps: all below n₀, and the box at B. -/
def KB (n₀ B : Nat) (X Y : World) : Prop := Below n₀ X Y ∧ (∀ v, X.cell? ⟨B, 0, none⟩ = some v → Y.cell? ⟨B, 0, none⟩ = some v)
theorem kb_t {n₀ B : Nat} {X Y Z : World} (h : KB n₀ B X Y) (k : KB n₀ B Y Z) : KB n₀ B X Z := ⟨h.1.trans k.1, fun v hv => k.2 v (h.2 v hv)⟩
theorem kb_b {n₀ B : Nat} {w : World} (hn : n₀ ≤ w.heap.size) (W : World) (l : Nat) (o o' : Obj) (hl : w.heap.size ≤ l) (h : W.heap[l]? = some o) (hc : o.isCells = false) (hw : o.isWalk = false) : KB n₀ B W (W.putObj l o') :=
  ⟨belowK_b hn W l o o' hl h hc hw, fun v hv => cell_kept hv (grownBy_putObj' W l o') fun r e => by cases e; exact ⟨o, h, hc⟩⟩
def encB (len : Nat) (d : Nat → Int) (x : Fin len) : Array Value := #[.int .i64 (x.1 : Int), .int .i64 (d x.1)]
set_option maxRecDepth 100000 in
set_option maxHeartbeats 2000000 in
theorem back1_in (F : Fence) (n : Nat) (hf : F.fn 161) (hro : F.round = none) (hn : 1 ≤ n) (l Bs n₀ cap : Nat) (ad : Addr) (len : Nat) (d : Nat → Int) (hreach : len * 8 ≤ 140737488351232) (hb : 0 < len → ad.block < n₀) (J Jx : List (Fin len) → World → Prop)
    (hY : ∀ pre x W, J pre W → pre.length < len → YieldAt F (n - 1) Go.Proofs.Try.prog l (encB len d x) W fun e W' =>
      (e = .returned (.bool true) ∧ J (pre ++ [x]) W' ∧ KB n₀ Bs W W') ∨ (e = .returned (.bool false) ∧ Jx (pre ++ [x]) W'))
    (W : World) (hBs : W.cell? ⟨Bs, 0, none⟩ = some (.slice (some ad) len cap)) (hc : ∀ j, j < len → W.cell? (ad.add j) = some (.int .i64 (d j))) (h0 : J [] W) :
    CallsIn F n Go.Proofs.Try.prog 161 #[.func (.yield l) #[] #[], .pointer (some ⟨Bs, 0, none⟩)] W fun e W' => (∃ v, e = .returned v) ∧
      ((∃ ys, ys = bkF len len ∧ J ys W') ∨ (∃ pre, True ∧ Jx pre W')) := by
  refine callsIn_of_wp Go.Proofs.Try.func161 rfl hf ?_ hro
  simp only [Go.Proofs.Try.ntmps161, List.size_toArray, List.length_cons, List.length_nil, Nat.reduceAdd, Nat.reduceSub, Array.replicate_succ, Array.replicate_zero, List.push_toArray, List.append_toArray, List.nil_append, List.cons_append]
  gi_wp2
  gi_loopw [3] (fun i wr => ∃ k : Nat, k ≤ len ∧ i = .int .i64 ((len : Int) - 1 - k) ∧ J (bkF len k) wr ∧ KB n₀ Bs W wr)
    (fun i _ => (intOf i + 1).toNat)
  case atStart => exact ⟨0, Nat.zero_le _, by simp, h0, Below.refl _ _, fun _ h => h⟩
  case round =>
    obtain ⟨k, hk, rfl, hJs, hnx⟩ := hrel
    have hBs' : wr.cell? ⟨Bs, 0, none⟩ = some (.slice (some ad) len cap) := hnx.2 _ hBs
    by_cases hlt : k < len
    · have hkz : len - 1 - k < len := by omega
      have hcx : wr.cell? (ad.add (len - 1 - k)) = some (.int .i64 (d (len - 1 - k))) := (hnx.1.cell (p := ad.add (len - 1 - k)) (by rw [add_block]; exact hb (by omega))).trans (hc _ (by omega))
      obtain ⟨fn, tmps, assign, body, hy, hR⟩ := hY _ ⟨len - 1 - k, hkz⟩ wr hJs (by rw [bkF_length _ (by omega)]; omega)
      unfold encB at hy
      dsimp only at hy
      rw [← bkF_succ (by omega)] at hR
      have hidx : ((len : Int) - 1 - (k : Int)) = ((len - 1 - k : Nat) : Int) := by omega
      rw [hidx]
      gi_wp2
      refine hR.mono ?_
      rintro e W3 (⟨rfl, hJ3, hk3⟩ | ⟨rfl, hJx3⟩)
      · gi_wp2
        go_roundw
        case rel => exact ⟨k + 1, hlt, by first | (simp; done) | (simp; omega), hJ3, kb_t hnx hk3⟩
        case measure => first | (simp [intOf]; done) | (simp [intOf]; omega)
      · gi_wp2
        refine bodyPost_ret (results_none rfl _ _ _) rfl ?_
        exact ⟨⟨_, rfl⟩, .inr ⟨_, trivial, hJx3⟩⟩
    · obtain rfl : k = len := by omega
      gi_wp2
      go_end0
      exact ⟨⟨_, rfl⟩, .inl ⟨_, rfl, hJs⟩⟩

/-- The slice value sv holds the ints zs, in a block below n₀; or it is nil and there are none. -/
def IntsAt (n₀ : Nat) (W : World) (sv : Value) (len : Nat) (d : Nat → Int) : Prop :=
  (sv = .slice none 0 0 ∧ len = 0) ∨ ∃ ad cap, sv = .slice (some ad) len cap ∧ (0 < len → ad.block < n₀) ∧ ∀ j, j < len → W.cell? (ad.add j) = some (.int .i64 (d j))
theorem IntsAt.below {n₀ : Nat} {A B : World} (h : Below n₀ A B) {sv : Value} {len : Nat} {d : Nat → Int} : IntsAt n₀ A sv len d → IntsAt n₀ B sv len d
  | .inl e => .inl e
  | .inr ⟨ad, cap, e, hb, hc⟩ => .inr ⟨ad, cap, e, hb, fun j hj => (h.cell (p := ad.add j) (by rw [add_block]; exact hb (by omega))).trans (hc j hj)⟩

set_option maxRecDepth 100000 in
set_option maxHeartbeats 1000000 in
theorem back1_nil_in (F : Fence) (n : Nat) (hf : F.fn 161) (hro : F.round = none) (l Bs : Nat) {α : Type} (J : List α → World → Prop) (W : World) (hBs : W.cell? ⟨Bs, 0, none⟩ = some (.slice none 0 0)) (h0 : J [] W) :
    CallsIn F n Go.Proofs.Try.prog 161 #[.func (.yield l) #[] #[], .pointer (some ⟨Bs, 0, none⟩)] W fun e W' => (∃ v, e = .returned v) ∧ J [] W' := by
  refine callsIn_of_wp Go.Proofs.Try.func161 rfl hf ?_ hro
  simp only [Go.Proofs.Try.ntmps161, List.size_toArray, List.length_cons, List.length_nil, Nat.reduceAdd, Nat.reduceSub, Array.replicate_succ, Array.replicate_zero, List.push_toArray, List.append_toArray, List.nil_append, List.cons_append]
  gi_wp2
  gi_loopw [3] (fun i wr => i = .int .i64 (-1) ∧ J [] wr) (fun _ _ => 0)
  case atStart => exact ⟨rfl, h0⟩
  case round =>
    obtain ⟨rfl, hJs⟩ := hrel
    gi_wp2
    go_end0
    exact ⟨⟨_, rfl⟩, hJs⟩

set_option maxHeartbeats 1000000 in
theorem backward_in (F : Fence) (n : Nat) (hf : F.fn 138) (hro : F.round = none) (a : Option Addr) (len cap : Nat) (w : World) :
    CallsIn F n Go.Proofs.Try.prog 138 #[.slice a len cap] w fun e w' => e = .returned (.func (.func 161) #[] #[.pointer (some ⟨w.heap.size, 0, none⟩)]) ∧ w' = w.alloc (.cells #[.slice a len cap] 22) := by
  refine callsIn_of_wp Go.Proofs.Try.func138 rfl hf ?_ hro
  simp only [Go.Proofs.Try.ntmps138, List.size_toArray, List.length_cons, List.length_nil, Nat.reduceAdd, Nat.reduceSub, Array.replicate_succ, Array.replicate_zero, List.push_toArray, List.append_toArray, List.nil_append, List.cons_append]
  gi_wp2
  go_ret
  exact ⟨rfl, rfl⟩

/-- slices.Backward(s): all places of zs from the end. -/
theorem back_stops (F : Fence) (n : Nat) (hf : F.fn 161) (hro : F.round = none) (hn : 1 ≤ n) (Bs n₀ : Nat) (sv : Value) (len : Nat) (d : Nat → Int) (hreach : len * 8 ≤ 140737488351232) (w : World) (hBs : Bs < w.heap.size) (hn₀ : n₀ ≤ w.heap.size)
    (hc : w.cell? ⟨Bs, 0, none⟩ = some sv) (hI : IntsAt n₀ w sv len d) :
    SeqStopsK F n Go.Proofs.Try.prog 161 #[.pointer (some ⟨Bs, 0, none⟩)] (encB len d) (KB n₀ Bs) (fun ys => ys = bkF len len) (fun _ => True) len w := fun l J Jx W hW _ _ hY h0 => by
  have hc' := (hW.cell (p := ⟨Bs, 0, none⟩) hBs).trans hc
  rcases hI.below (hW.mono hn₀) with ⟨rfl, rfl⟩ | ⟨ad, cap, rfl, hb, hcs⟩
  · exact (back1_nil_in F n hf hro l Bs J W hc' h0).mono fun e W' ⟨he, hj⟩ => ⟨he, .inl ⟨_, rfl, hj⟩⟩
  · exact back1_in F n hf hro hn l Bs n₀ cap ad len d hreach hb J Jx hY W hc' hcs h0

/-- The number after k places from the end; the row of remainders. -/
def idxD (len : Nat) (d : Nat → Int) (idx : Int) : Nat → Int
  | 0 => idx
  | k + 1 => IntKind.wrap .i64 (Int.tdiv (idxD len d idx k) (d (len - 1 - k)))
def crdD (len : Nat) (d : Nat → Int) (idx : Int) (j : Nat) : Int := Int.tmod (idxD len d idx (len - 1 - j)) (d j)
def crow (len : Nat) (d : Nat → Int) (idx : Int) (k : Nat) : List Value := (List.range len).map fun j => .int .i64 (if len - k ≤ j then crdD len d idx j else 0)
theorem crow_len {len : Nat} {d : Nat → Int} {idx : Int} {k : Nat} : (crow len d idx k).length = len := by simp [crow]
theorem crow_at {len : Nat} {d : Nat → Int} {idx : Int} {k j : Nat} (h : j < len) : (crow len d idx k)[j]? = some (.int .i64 (if len - k ≤ j then crdD len d idx j else 0)) := by
  unfold crow
  rw [List.getElem?_map, List.getElem?_range h]; rfl
theorem crow_set {len : Nat} {d : Nat → Int} {idx : Int} {k : Nat} (h : k < len) : (crow len d idx k).set (len - 1 - k) (.int .i64 (crdD len d idx (len - 1 - k))) = crow len d idx (k + 1) := by
  refine List.ext_getElem (by simp [crow_len]) fun j h1 h2 => ?_
  have hj : j < len := by rw [crow_len] at h2; exact h2
  have a1 := crow_at (d := d) (idx := idx) (k := k) hj
  have a2 := crow_at (d := d) (idx := idx) (k := k + 1) hj
  rw [List.getElem?_eq_getElem (by rw [crow_len]; exact hj)] at a1 a2
  rw [Option.some.inj a2, List.getElem_set]
  by_cases hc : len - 1 - k = j
  · rw [if_pos hc, if_pos (by omega), hc]
  · rw [if_neg hc, Option.some.inj a1]
    by_cases h3 : len - k ≤ j
    · rw [if_pos h3, if_pos (by omega)]
    · rw [if_neg h3, if_neg (by omega)]
/-- One round. -/
def stepD {len : Nat} (d : Nat → Int) (st : Int × List Value) (x : Fin len) : Int × List Value := (IntKind.wrap .i64 (Int.tdiv st.1 (d x.1)), st.2.set x.1 (.int .i64 (Int.tmod st.1 (d x.1))))
theorem stepD_all {len : Nat} {d : Nat → Int} {idx : Int} : ∀ k, k ≤ len → (bkF len k).foldl (stepD d) (idx, crow len d idx 0) = (idxD len d idx k, crow len d idx k)
  | 0, _ => rfl
  | k + 1, h => by
    rw [bkF_succ (by omega), List.foldl_append, stepD_all k (by omega)]
    show stepD d _ _ = _
    unfold stepD
    show (_, _) = (_, _)
    have : (crow len d idx k).set (len - 1 - k) (.int .i64 (Int.tmod (idxD len d idx k) (d (len - 1 - k)))) = crow len d idx (k + 1) := by
      rw [← crow_set (by omega)]
      unfold crdD
      rw [show len - 1 - (len - 1 - k) = k from by omega]
    rw [this]; rfl
theorem stepD_len {len : Nat} {d : Nat → Int} {idx : Int} (pre : List (Fin len)) : (pre.foldl (stepD d) (idx, crow len d idx 0)).2.length = len := by
  have key : ∀ (pre : List (Fin len)) (st : Int × List Value), st.2.length = len → (pre.foldl (stepD d) st).2.length = len := by
    intro pre
    induction pre with
    | nil => intro st h; exact h
    | cons x pre ih => intro st h; exact ih _ (by unfold stepD; simp [h])
  exact key pre _ crow_len
theorem crow_zero {len : Nat} {d : Nat → Int} {idx : Int} : crow len d idx 0 = List.replicate len (Value.int .i64 0) := by
  refine List.ext_getElem (by simp [crow_len]) fun j h1 h2 => ?_
  have hj : j < len := by rw [crow_len] at h1; exact h1
  have a1 := crow_at (d := d) (idx := idx) (k := 0) hj
  rw [List.getElem?_eq_getElem (by rw [crow_len]; exact hj)] at a1
  rw [Option.some.inj a1, List.getElem_replicate, if_neg (by omega)]

/-- What holds when the places of pre have come. -/
def InvC (s0 len : Nat) (d : Nat → Int) (idx : Int) (w : World) (pre : List (Fin len)) (W : World) : Prop :=
  (Blk W s0 [.int .i64 (pre.foldl (stepD d) (idx, crow len d idx 0)).1] 2 ∧ Blk W (s0 + 1) (pre.foldl (stepD d) (idx, crow len d idx 0)).2 2 ∧ Blk W (s0 + 2) [.slice (some ⟨s0 + 1, 0, none⟩) len len] 22) ∧ Below s0 w W
theorem blk_kept {W W' : World} {row : Option Nat} {g : Nat} {cur : List Value} {e : TypeId} (h : Blk W g cur e) (hg : W.grownBy W' row) (hrow : ∀ r, row = some r → ∃ o : Obj, W.heap[r]? = some o ∧ o.isCells = false) : Blk W' g cur e := by
  obtain ⟨fr, hh, hf⟩ := h
  exact ⟨fr, (grownBy_keeps_cells hg hrow hh rfl).trans hh, hf⟩

set_option maxRecDepth 100000 in
set_option maxHeartbeats 4000000 in
theorem coords_in (F : Fence) (n : Nat) (h1 : F.fn 97) (h2 : F.fn 138) (h3 : F.fn 161) (hro : F.round = none) (hn : 3 ≤ n) (a : Option Addr) (len cap : Nat) (d : Nat → Int) (hz : ∀ j, j < len → d j ≠ 0) (idx : Int) (hreach : len * 8 ≤ 140737488351232) (w : World) (hI : IntsAt w.heap.size w (.slice a len cap) len d) :
    CallsIn F n Go.Proofs.Try.prog 97 #[.slice a len cap, .int .i64 idx] w fun e W' => e = .returned (.slice (some ⟨w.heap.size + 1, 0, none⟩) len len) ∧ Blk W' (w.heap.size + 1) (crow len d idx len) 2 ∧ Below w.heap.size w W' := by
  have hn1 : 1 ≤ n := by omega
  have hmk : ∀ u : World, (Instr.makeSlice 22 (.int .i64 (len : Int)) (.int .i64 (len : Int))).run Go.Proofs.Try.prog u = .ok (.slice (some ⟨u.heap.size, 0, none⟩) len len) (u.alloc (.cells (List.replicate len (Value.int .i64 0)).toArray 2)) := fun u => by
    obtain ⟨i2, hi2⟩ := tab_ok 2 (by rfl)
    have hkr := run_make (P := Go.Proofs.Try.prog) u 22 2 i2 (.int .i64 0) (by have := Go.Proofs.Try.underlying22; exact this) hi2.info (hi2.zero [⟨.int .i64, .own true, .i 0⟩] rfl) .i64 .i64 (len : Int) (len : Int) (by omega) (Int.le_refl _) (by rw [hi2.bytes]; show ((8 : Nat) : Int) * (len : Int) ≤ _; omega) (by omega)
    rw [hkr, Int.toNat_natCast, hi2.size]
    congr 2
    congr 1
    show madeCells #[.int .i64 0] (len * 1) = _
    unfold madeCells
    apply Array.ext
    · simp
    · intro i h1 h2
      simp [Nat.mod_one]
  obtain ⟨s0, hs0⟩ : ∃ s0, w.heap.size = s0 := ⟨_, rfl⟩
  refine callsIn_of_wp_marks Go.Proofs.Try.func97 rfl h1 ?_ hro
  simp only [Go.Proofs.Try.ntmps97, List.size_toArray, List.length_cons, List.length_nil, Nat.reduceAdd, Nat.reduceSub, Array.replicate_succ, Array.replicate_zero, List.push_toArray, List.append_toArray, List.nil_append, List.cons_append]
  gi_wp2_with (gi_at_call 138; refine (backward_in F (n - 1) h2 hro _ _ _ _).mono ?_; rintro e w' ⟨rfl, rfl⟩)
  rw [show (Array.replicate len (Value.int .i64 0)) = (crow len d idx 0).toArray from by rw [crow_zero]; simp]
  rw [hs0] at hI
  have b0 : Blk (w.alloc (.cells #[.int .i64 idx] 2)) s0 [.int .i64 idx] 2 := hs0 ▸ Blk.alloc w [.int .i64 idx] 2
  have z1 : (w.alloc (.cells #[.int .i64 idx] 2)).heap.size = s0 + 1 := by rw [World.size_alloc, hs0]
  generalize hw1 : w.alloc (.cells #[.int .i64 idx] 2) = w1 at b0 z1 ⊢
  have B1 : Below s0 w w1 := by rw [← hw1]; exact (Below.refl _ w).alloc (by omega) _
  have b1 : Blk (w1.alloc (.cells (crow len d idx 0).toArray 2)) (s0 + 1) (crow len d idx 0) 2 := z1 ▸ Blk.alloc w1 (crow len d idx 0) 2
  have b0 : Blk (w1.alloc (.cells (crow len d idx 0).toArray 2)) s0 [.int .i64 idx] 2 := (Chg.alloc w1 _ []).blk b0 (by simp)
  have z2 : (w1.alloc (.cells (crow len d idx 0).toArray 2)).heap.size = s0 + 1 + 1 := by rw [World.size_alloc, z1]
  generalize hw2 : w1.alloc (.cells (crow len d idx 0).toArray 2) = w2 at b0 b1 z2 ⊢
  have B2 : Below s0 w w2 := by rw [← hw2]; exact B1.alloc (by omega) _
  have b2 : Blk (w2.alloc (.cells #[.slice (some ⟨s0 + 1, 0, none⟩) len len] 22)) (s0 + 1 + 1) [.slice (some ⟨s0 + 1, 0, none⟩) len len] 22 := z2 ▸ Blk.alloc w2 [.slice (some ⟨s0 + 1, 0, none⟩) len len] 22
  have b0 : Blk (w2.alloc (.cells #[.slice (some ⟨s0 + 1, 0, none⟩) len len] 22)) s0 [.int .i64 idx] 2 := (Chg.alloc w2 _ []).blk b0 (by simp)
  have b1 : Blk (w2.alloc (.cells #[.slice (some ⟨s0 + 1, 0, none⟩) len len] 22)) (s0 + 1) (crow len d idx 0) 2 := (Chg.alloc w2 _ []).blk b1 (by simp)
  have z3 : (w2.alloc (.cells #[.slice (some ⟨s0 + 1, 0, none⟩) len len] 22)).heap.size = s0 + 1 + 1 + 1 := by rw [World.size_alloc, z2]
  generalize hw3 : w2.alloc (.cells #[.slice (some ⟨s0 + 1, 0, none⟩) len len] 22) = w3 at b0 b1 b2 z3 ⊢
  have B3 : Below s0 w w3 := by rw [← hw3]; exact B2.alloc (by omega) _
  have bN := Boxed.new w3 22 (.slice a len cap)
  rw [z3] at bN
  have b0 : Blk (w3.alloc (.cells #[.slice a len cap] 22)) s0 [.int .i64 idx] 2 := (Chg.alloc w3 _ []).blk b0 (by simp)
  have b1 : Blk (w3.alloc (.cells #[.slice a len cap] 22)) (s0 + 1) (crow len d idx 0) 2 := (Chg.alloc w3 _ []).blk b1 (by simp)
  have b2 : Blk (w3.alloc (.cells #[.slice a len cap] 22)) (s0 + 1 + 1) [.slice (some ⟨s0 + 1, 0, none⟩) len len] 22 := (Chg.alloc w3 _ []).blk b2 (by simp)
  have z4 : (w3.alloc (.cells #[.slice a len cap] 22)).heap.size = s0 + 1 + 1 + 1 + 1 := by rw [World.size_alloc, z3]
  generalize hw4 : w3.alloc (.cells #[.slice a len cap] 22) = w4 at b0 b1 b2 z4 bN ⊢
  have B4 : Below s0 w w4 := by rw [← hw4]; exact B3.alloc (by omega) _
  refine wpIn_rangeFunc_ownG hro hn1 (gf := 161) (lb := #[.pointer (some ⟨s0 + 1 + 1 + 1, 0, none⟩)]) rfl h3 (enters_of Go.Proofs.Try.func161 (by kernel_rfl) rfl)
    (back_stops F (n - 1) h3 hro (by omega) (s0 + 1 + 1 + 1) s0 _ len d hreach w4 (by omega) (by omega) bN.cell (hI.below B4)) kb_t (kb_b (by omega)) (Below.refl _ _) (fun _ => rfl)
    (InvC s0 len d idx w) (fun _ _ _ => False)
    (OwnFrom.and (Own.from (fun s A B row hs hg hr => ⟨blk_kept hs.1 hg hr, blk_kept hs.2.1 hg hr, blk_kept hs.2.2 hg hr⟩) _) (ownFrom_below (by omega) (by omega)))
    (fun _ _ _ _ _ hs _ _ => hs)
    ⟨⟨b0, b1, b2⟩, B4⟩
    (fun x => { tmps := #[.slice a len cap, .int .i64 idx, undef, .pointer (some ⟨s0, 0, none⟩), .slice none 0 0, .pointer (some ⟨s0 + 1 + 1, 0, none⟩), .int .i64 (x.1 : Int), .int .i64 (d x.1), .slice a len cap, .int .i64 (len : Int), .slice (some ⟨s0 + 1, 0, none⟩) len len, .slice a len cap, .func (.func 161) #[] #[.pointer (some ⟨s0 + 1 + 1 + 1, 0, none⟩)], .int .i64 (x.1 : Int), .int .i64 (d x.1), undef, undef, undef, undef, undef, undef, undef, undef, undef, undef], defers := [] }) ?assign ?body ?done ?stop
  case assign =>
    intro l x W K hK
    unfold encB
    gi_wp2
    exact hK
  case body =>
    rintro l pre x W ⟨⟨k0, k1, k2⟩, hB⟩ _
    have hcl := stepD_len (d := d) (idx := idx) pre
    have hfold : ((pre ++ [x]).foldl (stepD d) (idx, crow len d idx 0)) = stepD d (pre.foldl (stepD d) (idx, crow len d idx 0)) x := by rw [List.foldl_append]; rfl
    have hI' : ∀ W', InvC s0 len d idx w (pre ++ [x]) W' ↔ (Blk W' s0 [.int .i64 (IntKind.wrap .i64 (Int.tdiv (pre.foldl (stepD d) (idx, crow len d idx 0)).1 (d x.1)))] 2 ∧ Blk W' (s0 + 1) ((pre.foldl (stepD d) (idx, crow len d idx 0)).2.set x.1 (.int .i64 (Int.tmod (pre.foldl (stepD d) (idx, crow len d idx 0)).1 (d x.1)))) 2 ∧ Blk W' (s0 + 2) [.slice (some ⟨s0 + 1, 0, none⟩) len len] 22) ∧ Below s0 w W' := fun W' => by
      unfold InvC; rw [hfold]; rfl
    clear hfold
    generalize (pre.foldl (stepD d) (idx, crow len d idx 0)) = st at k0 k1 hcl hI'
    obtain ⟨m, cur⟩ := st
    dsimp only at k0 k1 hcl hI'
    have hxl := x.2
    have hdx := hz x.1 x.2
    have hcx : x.1 < cur.length := by omega
    obtain ⟨xv, hxv⟩ : ∃ xv, xv = x.1 := ⟨_, rfl⟩
    obtain ⟨dv, hdv⟩ : ∃ dv, dv = d x.1 := ⟨_, rfl⟩
    have hxr := hxv.symm
    have hdr := hdv.symm
    clear hxv hdv
    simp only [hxr] at hI' hdx hcx hxl ⊢
    have c0 : W.cell? ⟨s0, 0, none⟩ = some (.int .i64 m) := k0.cell 0
    have f0 : W.frozen? ⟨s0, 0, none⟩ = false := k0.frozen 0 (by simp)
    have c2 : W.cell? ⟨s0 + 1 + 1, 0, none⟩ = some (.slice (some ⟨s0 + 1, 0, none⟩) len len) := k2.cell 0
    have c1 : W.cell? ⟨s0 + 1, xv, none⟩ = some cur[xv] := (k1.cell xv).trans (List.getElem?_eq_getElem hcx)
    have f1 : W.frozen? ⟨s0 + 1, xv, none⟩ = false := k1.frozen xv hcx
    have hch1 := Chg.set W (s0 + 1) xv (.int .i64 (Int.tmod m dv))
    have c0' : (W.setCell ⟨s0 + 1, xv, none⟩ (.int .i64 (Int.tmod m dv))).cell? ⟨s0, 0, none⟩ = some (.int .i64 m) := hch1.cell c0 (by simp)
    have f0' : (W.setCell ⟨s0 + 1, xv, none⟩ (.int .i64 (Int.tmod m dv))).frozen? ⟨s0, 0, none⟩ = false := (hch1.blk k0 (by simp)).frozen 0 (by simp)
    have hw64 : ∀ z, RowKit.wrap64 z = IntKind.wrap .i64 z := fun z => by unfold RowKit.wrap64; rw [IntKind.wrap_i64]
    have fin : ∀ act, ownPostG w4.heap.size (KB s0 (s0 + 1 + 1 + 1)) (InvC s0 len d idx w) (fun _ _ _ => False) (pre ++ [x]) W Exit.normal act
        ((W.setCell ⟨s0 + 1, xv, none⟩ (.int .i64 (Int.tmod m (d xv)))).setCell ⟨s0, 0, none⟩ (.int .i64 (RowKit.wrap64 (Int.tdiv m (d xv))))).drew := fun act => by
      have q1 : KeepsOthers W ((W.setCell ⟨s0 + 1, xv, none⟩ (.int .i64 (Int.tmod m (d xv)))).setCell ⟨s0, 0, none⟩ (.int .i64 (RowKit.wrap64 (Int.tdiv m (d xv))))) := (KeepsOthers.setCell _ _ _).trans (KeepsOthers.setCell _ _ _)
      have q2 : Below s0 W ((W.setCell ⟨s0 + 1, xv, none⟩ (.int .i64 (Int.tmod m (d xv)))).setCell ⟨s0, 0, none⟩ (.int .i64 (RowKit.wrap64 (Int.tdiv m (d xv))))) := ((Below.refl s0 W).setCell (p := ⟨s0 + 1, xv, none⟩) (by show s0 ≤ s0 + 1; omega) _).setCell (p := ⟨s0, 0, none⟩) (Nat.le_refl _) _
      have e1 := Chg.set W (s0 + 1) xv (.int .i64 (Int.tmod m (d xv)))
      have e2 := Chg.set (W.setCell ⟨s0 + 1, xv, none⟩ (.int .i64 (Int.tmod m (d xv)))) s0 0 (.int .i64 (RowKit.wrap64 (Int.tdiv m (d xv))))
      have q1' : KeepsOthers W ((W.setCell ⟨s0 + 1, xv, none⟩ (.int .i64 (Int.tmod m (d xv)))).setCell ⟨s0, 0, none⟩ (.int .i64 (RowKit.wrap64 (Int.tdiv m (d xv))))).drew := ⟨q1.size, fun k o hk ho => q1.same k o hk ho⟩
      refine ⟨q1'.from _, ⟨⟨q2.os, q2.tape, q2.output, q2.size, q2.block⟩, fun v hv => ?_⟩, (hI' _).2 ⟨⟨?_, ?_, ?_⟩, hB.trans ⟨q2.os, q2.tape, q2.output, q2.size, q2.block⟩⟩⟩
      · exact e2.cell (e1.cell hv (fun hm => by have h2 : s0 + 1 + 1 + 1 = s0 + 1 := List.mem_singleton.1 hm; omega)) (fun hm => by have h2 : s0 + 1 + 1 + 1 = s0 := List.mem_singleton.1 hm; omega)
      · have := (e1.blk k0 (by simp)).set 0 (.int .i64 (RowKit.wrap64 (Int.tdiv m (d xv))))
        rw [hw64] at this
        rw [hw64]
        exact this
      · exact e2.blk (k1.set xv (.int .i64 (Int.tmod m (d xv)))) (by simp)
      · exact e2.blk (e1.blk k2 (by simp)) (by simp)
    gi_wp2
    gi_region
    all_goals gi_wp2
    all_goals exact fin _
  case done =>
    rintro D ys W hD rfl ⟨⟨k0, k1, k2⟩, hB⟩ hK
    have c2 : W.cell? ⟨s0 + 1 + 1, 0, none⟩ = some (.slice (some ⟨s0 + 1, 0, none⟩) len len) := k2.cell 0
    rw [stepD_all len (Nat.le_refl _)] at k1
    have k1' : Blk (W.putObj D (.deferred none)) (s0 + 1) (crow len d idx len) 2 := blk_kept k1 (grownBy_putObj' W D _) (fun r e => by cases e; exact ⟨_, hK, rfl⟩)
    have hB' : Below s0 w (W.putObj D (.deferred none)) := hB.trans (belowK_b (w := w) (by omega) W D _ _ (by omega) hK rfl rfl)
    gi_wp2
    refine ⟨by simp, .inl ⟨_, _, rfl, run_takeDeferred hK, ?_⟩⟩
    exact ⟨_, results_tmp rfl _ _ _, rfl, k1', hB'⟩
  case stop =>
    rintro D c pre W _ _ h _
    exact h.elim

/-- Ints out of a row. -/
theorem intsAt_of {w : World} {S : Nat → Prop} {sv : Value} {A : List (List TC)} (hS : ∀ b, S b → b < w.heap.size) (h : RepC tab w S (.slice 2) sv (.l A)) : IntsAt w.heap.size w sv A.length (fun j => (nth (A.getD j []) 0).int) ∧ ∃ a cap, sv = .slice a A.length cap := by
  generalize hc : TC.l A = c at h
  cases h with
  | nil e => cases hc; exact ⟨.inl ⟨rfl, rfl⟩, _, _, rfl⟩
  | slice e ad xs cap us p1 p2 p3 p4 =>
    cases hc
    refine ⟨.inr ⟨ad, cap, rfl, ?_, fun j hj => ?_⟩, _, _, rfl⟩
    · exact fun h0 => hS _ (p3 0 (by rw [show (tab 2).cts.length = 1 from rfl]; omega)).1
    · have h8 : (tab 2).cts.length = 1 := rfl
      have hj' : j < A.length * (tab 2).cts.length := by rw [h8]; omega
      have q4 := p4 j hj'
      rw [h8, Nat.mod_one, Nat.div_one] at q4
      have q5 : RepC tab w S (.int .i64) (us j) (nth (A.getD j []) 0) := q4
      rw [(p3 j hj').2]
      show some (us j) = some (.int .i64 (nth (A.getD j []) 0).int)
      generalize nth (A.getD j []) 0 = z at q5 ⊢
      generalize us j = u at q5 ⊢
      cases q5; rfl
/-- The coordinates as data. -/
noncomputable def coordsV (A : List (List TC)) (idx : Int) : List (List TC) := (List.range A.length).map fun j => [TC.i (crdD A.length (fun j => (nth (A.getD j []) 0).int) idx j)]
theorem coordsV_len {A : List (List TC)} {idx : Int} : (coordsV A idx).length = A.length := by simp [coordsV]
theorem own_of_blk {w : World} {g : Nat} {A : List (List TC)} {idx : Int} (hl : A.length ≤ maxLen) (h : Blk w g (crow A.length (fun j => (nth (A.getD j []) 0).int) idx A.length) 2) : OwnC tab w (.slice 2) (.slice (some ⟨g, 0, none⟩) A.length A.length) (.l (coordsV A idx)) [g] := by
  have h8 : (tab 2).cts.length = 1 := rfl
  have h0 := OwnC.slice (T := tab) (w := w) 2 g (coordsV A idx) A.length (crow A.length (fun j => (nth (A.getD j []) 0).int) idx A.length) (fun _ => []) (by rw [coordsV_len]; exact Nat.le_refl _) hl (fun x hx => by
    unfold coordsV at hx
    obtain ⟨j, -, rfl⟩ := List.mem_map.1 hx
    rfl) h (by rw [crow_len, h8, Nat.mul_one]) (fun u hu => by
    unfold crow at hu
    obtain ⟨j, -, rfl⟩ := List.mem_map.1 hu
    rfl) (fun k hk => by
    rw [coordsV_len, h8, Nat.mul_one] at hk
    rw [h8, Nat.mod_one, Nat.div_one]
    have e1 : (crow A.length (fun j => (nth (A.getD j []) 0).int) idx A.length).getD k undef = .int .i64 (crdD A.length (fun j => (nth (A.getD j []) 0).int) idx k) := by
      rw [List.getD_eq_getElem?_getD, crow_at hk, if_pos (by omega)]; rfl
    have e2 : nth ((coordsV A idx).getD k []) 0 = TC.i (crdD A.length (fun j => (nth (A.getD j []) 0).int) idx k) := by
      unfold coordsV
      rw [List.getD_eq_getElem?_getD, List.getElem?_map, List.getElem?_range hk]; rfl
    rw [e1, e2]
    exact OwnC.flat (.int .i64) _ _ rfl (.int .i64 _))
  have e0 : (g :: (List.range ((coordsV A idx).length * (tab 2).cts.length)).flatMap fun _ => ([] : List Nat)) = [g] := by simp
  rw [e0, coordsV_len] at h0
  exact h0
/-- coordsOf, by what is known of its calls. -/
theorem coords_told {w : World} {S : Nat → Prop} {sv : Value} {A : List (List TC)} {idx : Int} (hS : ∀ b, S b → b < w.heap.size) (h : RepC tab w S (.slice 2) sv (.l A)) (hz : ∀ j, j < A.length → (nth (A.getD j []) 0).int ≠ 0) (hl : A.length * 8 ≤ 140737488351232) :
    Calls Go.Proofs.Try.prog 97 #[sv, .int .i64 idx] w fun e w' => ∃ v, e = .returned v ∧ PlainRes tab w S [(false, [⟨.slice 2, .own true, .l (coordsV A idx)⟩])] v w' := by
  obtain ⟨hI, a, cap, rfl⟩ := intsAt_of hS h
  refine (callsIn_wide.1 (coords_in Fence.wide 6 trivial trivial trivial rfl (by omega) a A.length cap _ hz idx hl w hI)).mono ?_
  rintro e w' ⟨rfl, hb, hB⟩
  exact ⟨_, rfl, plain_own (own_of_blk (by unfold maxLen; omega) hb) (by simp) (fun b hb' => by rw [List.mem_singleton.1 hb']; exact ⟨by omega, hb.lt⟩) hB⟩

end
end Go.Proofs.Ytkgjindjaaggkaa.V
