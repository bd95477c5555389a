/- The tables are right for this translation. No condition. -/
import Derived.Test.YtmdbccmbmcgclaaVTab
import Derived.Test.YtmdbccmbmcgclaaV43
import Derived.KernelRfl
import Derived.Shelf.Strings.Repeat
import Derived.RangeFuncBox
import Derived.RangeFuncLeaves
import Derived.Shelf.Abstract
import Derived.WalkKit
import Derived.OwnWalkIn
import Derived.TacticsInMore
import Derived.LoopNIn
import Derived.LoopIn
namespace Go.Proofs.Ytmdbccmbmcgclaa.V
open Go Go.Proofs Go.Shelf
theorem tab_ok : TabOk Go.Proofs.Try.prog tab := checkAll_ok (l := tabL) (m := methL) (by kernel_rfl)
theorem names_ok : NamesOk Go.Proofs.Try.prog := checkNames_ok (by kernel_rfl)
theorem mixed_ok : Go.Proofs.Try.prog.follows .mixedOrders = true := by kernel_rfl
theorem laid_ok : laidOutB Go.Proofs.Try.prog = true := by kernel_rfl
def ren0 : Go.Shelf.Ren := ⟨fun n => bif Nat.beq n 99 then 135 else bif Nat.beq n 105 then 96 else bif Nat.beq n 165 then 136 else bif Nat.beq n 166 then 95 else bif Nat.beq n 169 then 97 else bif Nat.beq n 170 then 94 else bif Nat.beq n 206 then 160 else bif Nat.beq n 212 then 134 else bif Nat.beq n 240 then 133 else bif Nat.beq n 241 then 161 else bif Nat.beq n 263 then 158 else bif Nat.beq n 264 then 159 else bif Nat.beq n 276 then 157 else bif Nat.beq n 277 then 183 else 0, fun n => bif Nat.beq n 0 then 0 else bif Nat.beq n 3 then 3 else bif Nat.beq n 4 then 4 else bif Nat.beq n 5 then 5 else bif Nat.beq n 9 then 9 else bif Nat.beq n 20 then 20 else bif Nat.beq n 37 then 54 else bif Nat.beq n 46 then 133 else bif Nat.beq n 51 then 155 else bif Nat.beq n 53 then 125 else bif Nat.beq n 70 then 97 else bif Nat.beq n 72 then 99 else bif Nat.beq n 75 then 102 else bif Nat.beq n 76 then 103 else bif Nat.beq n 80 then 106 else bif Nat.beq n 109 then 134 else bif Nat.beq n 127 then 138 else bif Nat.beq n 146 then 156 else bif Nat.beq n 148 then 158 else bif Nat.beq n 164 then 153 else 0, fun _ => 0⟩
theorem lays166 : Lays.n166 Try.prog ren0 := {
  mixed := by kernel_rfl
  f166 := Try.func95.trans (congrArg some (by kernel_rfl))
  f240 := Try.func133.trans (congrArg some (by kernel_rfl))
  f276 := Try.func157.trans (congrArg some (by kernel_rfl))
  t0 := Try.underlying0
  a0 := Try.isAgg0
  z0 := Try.sizeOf0
  v0 := Try.zeroValue0
  t3 := Try.underlying3
  a3 := Try.isAgg3
  z3 := Try.sizeOf3
  v3 := Try.zeroValue3
  t4 := Try.underlying4
  a4 := Try.isAgg4
  z4 := Try.sizeOf4
  v4 := Try.zeroValue4
  t9 := Try.underlying9
  a9 := Try.isAgg9
  z9 := Try.sizeOf9
  v9 := Try.zeroValue9
  t20 := Try.underlying20
  a20 := Try.isAgg20
  z20 := Try.sizeOf20
  v20 := Try.zeroValue20
  t37 := Try.underlying54
  a37 := Try.isAgg54
  z37 := Try.sizeOf54
  v37 := Try.zeroValue54
  t70 := Try.underlying97
  a70 := Try.isAgg97
  z70 := Try.sizeOf97
  v70 := Try.zeroValue97
  t72 := Try.underlying99
  a72 := Try.isAgg99
  z72 := Try.sizeOf99
  v72 := Try.zeroValue99
  t75 := Try.underlying102
  a75 := Try.isAgg102
  z75 := Try.sizeOf102
  v75 := Try.zeroValue102
  t164 := Try.underlying153
  a164 := Try.isAgg153
  z164 := Try.sizeOf153
  v164 := Try.zeroValue153 }
theorem lays169 : Lays.n169 Try.prog ren0 := {
  mixed := by kernel_rfl
  f169 := Try.func97.trans (congrArg some (by kernel_rfl))
  t0 := Try.underlying0
  a0 := Try.isAgg0
  z0 := Try.sizeOf0
  v0 := Try.zeroValue0
  t3 := Try.underlying3
  a3 := Try.isAgg3
  z3 := Try.sizeOf3
  v3 := Try.zeroValue3
  t9 := Try.underlying9
  a9 := Try.isAgg9
  z9 := Try.sizeOf9
  v9 := Try.zeroValue9
  t37 := Try.underlying54
  a37 := Try.isAgg54
  z37 := Try.sizeOf54
  v37 := Try.zeroValue54
  t70 := Try.underlying97
  a70 := Try.isAgg97
  z70 := Try.sizeOf97
  v70 := Try.zeroValue97
  t72 := Try.underlying99
  a72 := Try.isAgg99
  z72 := Try.sizeOf99
  v72 := Try.zeroValue99
  t127 := Try.underlying138
  a127 := Try.isAgg138
  z127 := Try.sizeOf138
  v127 := Try.zeroValue138 }
theorem lays170 : Lays.n170 Try.prog ren0 := {
  mixed := by kernel_rfl
  f170 := Try.func94.trans (congrArg some (by kernel_rfl))
  t0 := Try.underlying0
  a0 := Try.isAgg0
  z0 := Try.sizeOf0
  v0 := Try.zeroValue0
  t3 := Try.underlying3
  a3 := Try.isAgg3
  z3 := Try.sizeOf3
  v3 := Try.zeroValue3
  t37 := Try.underlying54
  a37 := Try.isAgg54
  z37 := Try.sizeOf54
  v37 := Try.zeroValue54
  t70 := Try.underlying97
  a70 := Try.isAgg97
  z70 := Try.sizeOf97
  v70 := Try.zeroValue97
  t72 := Try.underlying99
  a72 := Try.isAgg99
  z72 := Try.sizeOf99
  v72 := Try.zeroValue99 }
theorem lays105 : Lays.n105 Try.prog ren0 := {
  mixed := by kernel_rfl
  f99 := Try.func135.trans (congrArg some (by kernel_rfl))
  f105 := Try.func96.trans (congrArg some (by kernel_rfl))
  f165 := Try.func136.trans (congrArg some (by kernel_rfl))
  f166 := Try.func95.trans (congrArg some (by kernel_rfl))
  f169 := Try.func97.trans (congrArg some (by kernel_rfl))
  f170 := Try.func94.trans (congrArg some (by kernel_rfl))
  f206 := Try.func160.trans (congrArg some (by kernel_rfl))
  f212 := Try.func134.trans (congrArg some (by kernel_rfl))
  f240 := Try.func133.trans (congrArg some (by kernel_rfl))
  f241 := Try.func161.trans (congrArg some (by kernel_rfl))
  f263 := Try.func158.trans (congrArg some (by kernel_rfl))
  f264 := Try.func159.trans (congrArg some (by kernel_rfl))
  f276 := Try.func157.trans (congrArg some (by kernel_rfl))
  f277 := Try.func183.trans (congrArg some (by kernel_rfl))
  t0 := Try.underlying0
  a0 := Try.isAgg0
  z0 := Try.sizeOf0
  v0 := Try.zeroValue0
  t3 := Try.underlying3
  a3 := Try.isAgg3
  z3 := Try.sizeOf3
  v3 := Try.zeroValue3
  t4 := Try.underlying4
  a4 := Try.isAgg4
  z4 := Try.sizeOf4
  v4 := Try.zeroValue4
  t5 := Try.underlying5
  a5 := Try.isAgg5
  z5 := Try.sizeOf5
  v5 := Try.zeroValue5
  t9 := Try.underlying9
  a9 := Try.isAgg9
  z9 := Try.sizeOf9
  v9 := Try.zeroValue9
  t20 := Try.underlying20
  a20 := Try.isAgg20
  z20 := Try.sizeOf20
  v20 := Try.zeroValue20
  t37 := Try.underlying54
  a37 := Try.isAgg54
  z37 := Try.sizeOf54
  v37 := Try.zeroValue54
  t46 := Try.underlying133
  a46 := Try.isAgg133
  z46 := Try.sizeOf133
  v46 := Try.zeroValue133
  t51 := Try.underlying155
  a51 := Try.isAgg155
  z51 := Try.sizeOf155
  v51 := Try.zeroValue155
  t53 := Try.underlying125
  a53 := Try.isAgg125
  z53 := Try.sizeOf125
  v53 := Try.zeroValue125
  t70 := Try.underlying97
  a70 := Try.isAgg97
  z70 := Try.sizeOf97
  v70 := Try.zeroValue97
  t72 := Try.underlying99
  a72 := Try.isAgg99
  z72 := Try.sizeOf99
  v72 := Try.zeroValue99
  t75 := Try.underlying102
  a75 := Try.isAgg102
  z75 := Try.sizeOf102
  v75 := Try.zeroValue102
  t76 := Try.underlying103
  a76 := Try.isAgg103
  z76 := Try.sizeOf103
  v76 := Try.zeroValue103
  t109 := Try.underlying134
  a109 := Try.isAgg134
  z109 := Try.sizeOf134
  v109 := Try.zeroValue134
  t127 := Try.underlying138
  a127 := Try.isAgg138
  z127 := Try.sizeOf138
  v127 := Try.zeroValue138
  t146 := Try.underlying156
  a146 := Try.isAgg156
  z146 := Try.sizeOf156
  v146 := Try.zeroValue156
  t148 := Try.underlying158
  a148 := Try.isAgg158
  z148 := Try.sizeOf158
  v148 := Try.zeroValue158
  t164 := Try.underlying153
  a164 := Try.isAgg153
  z164 := Try.sizeOf153
  v164 := Try.zeroValue153 }
theorem extra : Builder.Extra Try.prog ren0 := {
  sizeBuilder := by kernel_rfl
  liesBuilder := by kernel_rfl
  t5 := Try.underlying5
  a5 := Try.isAgg5
  z5 := Try.sizeOf5
  v5 := Try.zeroValue5
  infoByte := by kernel_rfl
  cellsByte := by kernel_rfl
  sizeByte := by kernel_rfl
  neB5 := by decide }
theorem meth_ok : MethOk Go.Proofs.Try.prog tab := methOk_bld (ρ := ren0) names_ok tab_ok extra (by kernel_rfl) (by kernel_rfl) (by kernel_rfl) (bldOnly_ok (by kernel_rfl)) (.inr ⟨lays166, meth_one (by kernel_rfl)⟩) (.inr ⟨lays169, meth_one (by kernel_rfl)⟩) (.inr ⟨lays170, meth_one (by kernel_rfl)⟩) (info_zero (by kernel_rfl))
theorem d0 : DOk Go.Proofs.Try.prog tab D0 := d00 meth_ok
section
open Go Go.RowKit Go.Shelf Go.Proofs
attribute [local go_sem] Oper.semAt_some
/-- The places that have come when k rounds from the end are over. -/
def bkF (n : Nat) : Nat → List (Fin n)
  | 0 => []
  | k + 1 => bkF n k ++ (if h : n - 1 - k < n then [⟨n - 1 - k, h⟩] else [])
theorem bkF_succ {n k : Nat} (h : k < n) : bkF n (k + 1) = bkF n k ++ [⟨n - 1 - k, by omega⟩] := by
  show bkF n k ++ _ = _
  rw [dif_pos (by omega)]
theorem bkF_length {n : Nat} : ∀ k, k ≤ n → (bkF n k).length = k
  | 0, _ => rfl
  | k + 1, h => by rw [bkF_succ (by omega), List.length_append, bkF_length k (by omega)]; rfl
/-- What a round keeps: all below n₀, and the box at B. -/
def KB (n₀ B : Nat) (X Y : World) : Prop := Below n₀ X Y ∧ (∀ v, X.cell? ⟨B, 0, none⟩ = some v → Y.cell? ⟨B, 0, none⟩ = some v)
theorem kb_t {n₀ B : Nat} {X Y Z : World} (h : KB n₀ B X Y) (k : KB n₀ B Y Z) : KB n₀ B X Z := ⟨h.1.trans k.1, fun v hv => k.2 v (h.2 v hv)⟩
theorem kb_b {n₀ B : Nat} {w : World} (hn : n₀ ≤ w.heap.size) (W : World) (l : Nat) (o o' : Obj) (hl : w.heap.size ≤ l) (h : W.heap[l]? = some o) (hc : o.isCells = false) (hw : o.isWalk = false) : KB n₀ B W (W.putObj l o') :=
  ⟨belowK_b hn W l o o' hl h hc hw, fun v hv => cell_kept hv (grownBy_putObj' W l o') fun r e => by cases e; exact ⟨o, h, hc⟩⟩
def encB (len : Nat) (d : Nat → Int) (x : Fin len) : Array Value := #[.int .i64 (x.1 : Int), .int .i64 (d x.1)]
set_option maxRecDepth 100000 in
set_option maxHeartbeats 2000000 in
theorem back1_in (F : Fence) (n : Nat) (hf : F.fn 162) (hro : F.round = none) (hn : 1 ≤ n) (l Bs n₀ cap : Nat) (ad : Addr) (len : Nat) (d : Nat → Int) (hreach : len * 8 ≤ 140737488351232) (hb : 0 < len → ad.block < n₀) (J Jx : List (Fin len) → World → Prop)
    (hY : ∀ pre x W, J pre W → pre.length < len → YieldAt F (n - 1) Go.Proofs.Try.prog l (encB len d x) W fun e W' =>
      (e = .returned (.bool true) ∧ J (pre ++ [x]) W' ∧ KB n₀ Bs W W') ∨ (e = .returned (.bool false) ∧ Jx (pre ++ [x]) W'))
    (W : World) (hBs : W.cell? ⟨Bs, 0, none⟩ = some (.slice (some ad) len cap)) (hc : ∀ j, j < len → W.cell? (ad.add j) = some (.int .i64 (d j))) (h0 : J [] W) :
    CallsIn F n Go.Proofs.Try.prog 162 #[.func (.yield l) #[] #[], .pointer (some ⟨Bs, 0, none⟩)] W fun e W' => (∃ v, e = .returned v) ∧
      ((∃ ys, ys = bkF len len ∧ J ys W') ∨ (∃ pre, True ∧ Jx pre W')) := by
  refine callsIn_of_wp Go.Proofs.Try.func162 rfl hf ?_ hro
  simp only [Go.Proofs.Try.ntmps162, List.size_toArray, List.length_cons, List.length_nil, Nat.reduceAdd, Nat.reduceSub, Array.replicate_succ, Array.replicate_zero, List.push_toArray, List.append_toArray, List.nil_append, List.cons_append]
  gi_wp2
  gi_loopw [3] (fun i wr => ∃ k : Nat, k ≤ len ∧ i = .int .i64 ((len : Int) - 1 - k) ∧ J (bkF len k) wr ∧ KB n₀ Bs W wr)
    (fun i _ => (intOf i + 1).toNat)
  case atStart => exact ⟨0, Nat.zero_le _, by simp, h0, Below.refl _ _, fun _ h => h⟩
  case round =>
    obtain ⟨k, hk, rfl, hJs, hnx⟩ := hrel
    have hBs' : wr.cell? ⟨Bs, 0, none⟩ = some (.slice (some ad) len cap) := hnx.2 _ hBs
    by_cases hlt : k < len
    · have hkz : len - 1 - k < len := by omega
      have hcx : wr.cell? (ad.add (len - 1 - k)) = some (.int .i64 (d (len - 1 - k))) := (hnx.1.cell (p := ad.add (len - 1 - k)) (by rw [add_block]; exact hb (by omega))).trans (hc _ (by omega))
      obtain ⟨fn, tmps, assign, body, hy, hR⟩ := hY _ ⟨len - 1 - k, hkz⟩ wr hJs (by rw [bkF_length _ (by omega)]; omega)
      unfold encB at hy
      dsimp only at hy
      rw [← bkF_succ (by omega)] at hR
      have hidx : ((len : Int) - 1 - (k : Int)) = ((len - 1 - k : Nat) : Int) := by omega
      rw [hidx]
      gi_wp2
      refine hR.mono ?_
      rintro e W3 (⟨rfl, hJ3, hk3⟩ | ⟨rfl, hJx3⟩)
      · gi_wp2
        go_roundw
        case rel => exact ⟨k + 1, hlt, by first | (simp; done) | (simp; omega), hJ3, kb_t hnx hk3⟩
        case measure => first | (simp [intOf]; done) | (simp [intOf]; omega)
      · gi_wp2
        refine bodyPost_ret (results_none rfl _ _ _) rfl ?_
        exact ⟨⟨_, rfl⟩, .inr ⟨_, trivial, hJx3⟩⟩
    · obtain rfl : k = len := by omega
      gi_wp2
      go_end0
      exact ⟨⟨_, rfl⟩, .inl ⟨_, rfl, hJs⟩⟩

/-- The slice value sv holds the ints zs, in a block below n₀; or it is nil and there are none. -/
def IntsAt (n₀ : Nat) (W : World) (sv : Value) (len : Nat) (d : Nat → Int) : Prop :=
  (sv = .slice none 0 0 ∧ len = 0) ∨ ∃ ad cap, sv = .slice (some ad) len cap ∧ (0 < len → ad.block < n₀) ∧ ∀ j, j < len → W.cell? (ad.add j) = some (.int .i64 (d j))
theorem IntsAt.below {n₀ : Nat} {A B : World} (h : Below n₀ A B) {sv : Value} {len : Nat} {d : Nat → Int} : IntsAt n₀ A sv len d → IntsAt n₀ B sv len d
  | .inl e => .inl e
  | .inr ⟨ad, cap, e, hb, hc⟩ => .inr ⟨ad, cap, e, hb, fun j hj => (h.cell (p := ad.add j) (by rw [add_block]; exact hb (by omega))).trans (hc j hj)⟩

set_option maxRecDepth 100000 in
set_option maxHeartbeats 1000000 in
theorem back1_nil_in (F : Fence) (n : Nat) (hf : F.fn 162) (hro : F.round = none) (l Bs : Nat) {α : Type} (J : List α → World → Prop) (W : World) (hBs : W.cell? ⟨Bs, 0, none⟩ = some (.slice none 0 0)) (h0 : J [] W) :
    CallsIn F n Go.Proofs.Try.prog 162 #[.func (.yield l) #[] #[], .pointer (some ⟨Bs, 0, none⟩)] W fun e W' => (∃ v, e = .returned v) ∧ J [] W' := by
  refine callsIn_of_wp Go.Proofs.Try.func162 rfl hf ?_ hro
  simp only [Go.Proofs.Try.ntmps162, List.size_toArray, List.length_cons, List.length_nil, Nat.reduceAdd, Nat.reduceSub, Array.replicate_succ, Array.replicate_zero, List.push_toArray, List.append_toArray, List.nil_append, List.cons_append]
  gi_wp2
  gi_loopw [3] (fun i wr => i = .int .i64 (-1) ∧ J [] wr) (fun _ _ => 0)
  case atStart => exact ⟨rfl, h0⟩
  case round =>
    obtain ⟨rfl, hJs⟩ := hrel
    gi_wp2
    go_end0
    exact ⟨⟨_, rfl⟩, hJs⟩

set_option maxHeartbeats 1000000 in
theorem backward_in (F : Fence) (n : Nat) (hf : F.fn 137) (hro : F.round = none) (a : Option Addr) (len cap : Nat) (w : World) :
    CallsIn F n Go.Proofs.Try.prog 137 #[.slice a len cap] w fun e w' => e = .returned (.func (.func 162) #[] #[.pointer (some ⟨w.heap.size, 0, none⟩)]) ∧ w' = w.alloc (.cells #[.slice a len cap] 22) := by
  refine callsIn_of_wp Go.Proofs.Try.func137 rfl hf ?_ hro
  simp only [Go.Proofs.Try.ntmps137, List.size_toArray, List.length_cons, List.length_nil, Nat.reduceAdd, Nat.reduceSub, Array.replicate_succ, Array.replicate_zero, List.push_toArray, List.append_toArray, List.nil_append, List.cons_append]
  gi_wp2
  go_ret
  exact ⟨rfl, rfl⟩

/-- slices.Backward(s): all places of zs from the end. -/
theorem back_stops (F : Fence) (n : Nat) (hf : F.fn 162) (hro : F.round = none) (hn : 1 ≤ n) (Bs n₀ : Nat) (sv : Value) (len : Nat) (d : Nat → Int) (hreach : len * 8 ≤ 140737488351232) (w : World) (hBs : Bs < w.heap.size) (hn₀ : n₀ ≤ w.heap.size)
    (hc : w.cell? ⟨Bs, 0, none⟩ = some sv) (hI : IntsAt n₀ w sv len d) :
    SeqStopsK F n Go.Proofs.Try.prog 162 #[.pointer (some ⟨Bs, 0, none⟩)] (encB len d) (KB n₀ Bs) (fun ys => ys = bkF len len) (fun _ => True) len w := fun l J Jx W hW _ _ hY h0 => by
  have hc' := (hW.cell (p := ⟨Bs, 0, none⟩) hBs).trans hc
  rcases hI.below (hW.mono hn₀) with ⟨rfl, rfl⟩ | ⟨ad, cap, rfl, hb, hcs⟩
  · exact (back1_nil_in F n hf hro l Bs J W hc' h0).mono fun e W' ⟨he, hj⟩ => ⟨he, .inl ⟨_, rfl, hj⟩⟩
  · exact back1_in F n hf hro hn l Bs n₀ cap ad len d hreach hb J Jx hY W hc' hcs h0

/-- The number after k places from the end; the row of remainders. -/
def idxD (len : Nat) (d : Nat → Int) (idx : Int) : Nat → Int
  | 0 => idx
  | k + 1 => IntKind.wrap .i64 (Int.tdiv (idxD len d idx k) (d (len - 1 - k)))
def crdD (len : Nat) (d : Nat → Int) (idx : Int) (j : Nat) : Int := Int.tmod (idxD len d idx (len - 1 - j)) (d j)
def crow (len : Nat) (d : Nat → Int) (idx : Int) (k : Nat) : List Value := (List.range len).map fun j => .int .i64 (if len - k ≤ j then crdD len d idx j else 0)
theorem crow_len {len : Nat} {d : Nat → Int} {idx : Int} {k : Nat} : (crow len d idx k).length = len := by simp [crow]
theorem crow_at {len : Nat} {d : Nat → Int} {idx : Int} {k j : Nat} (h : j < len) : (crow len d idx k)[j]? = some (.int .i64 (if len - k ≤ j then crdD len d idx j else 0)) := by
  unfold crow
  rw [List.getElem?_map, List.getElem?_range h]; rfl
theorem crow_set {len : Nat} {d : Nat → Int} {idx : Int} {k : Nat} (h : k < len) : (crow len d idx k).set (len - 1 - k) (.int .i64 (crdD len d idx (len - 1 - k))) = crow len d idx (k + 1) := by
  refine List.ext_getElem (by simp [crow_len]) fun j h1 h2 => ?_
  have hj : j < len := by rw [crow_len] at h2; exact h2
  have a1 := crow_at (d := d) (idx := idx) (k := k) hj
  have a2 := crow_at (d := d) (idx := idx) (k := k + 1) hj
  rw [List.getElem?_eq_getElem (by rw [crow_len]; exact hj)] at a1 a2
  rw [Option.some.inj a2, List.getElem_set]
  by_cases hc : len - 1 - k = j
  · rw [if_pos hc, if_pos (by omega), hc]
  · rw [if_neg hc, Option.some.inj a1]
    by_cases h3 : len - k ≤ j
    · rw [if_pos h3, if_pos (by omega)]
    · rw [if_neg h3, if_neg (by omega)]
/-- One round. -/
def stepD {len : Nat} (d : Nat → Int) (st : Int × List Value) (x : Fin len) : Int × List Value := (IntKind.wrap .i64 (Int.tdiv st.1 (d x.1)), st.2.set x.1 (.int .i64 (Int.tmod st.1 (d x.1))))
theorem stepD_all {len : Nat} {d : Nat → Int} {idx : Int} : ∀ k, k ≤ len → (bkF len k).foldl (stepD d) (idx, crow len d idx 0) = (idxD len d idx k, crow len d idx k)
  | 0, _ => rfl
  | k + 1, h => by
    rw [bkF_succ (by omega), List.foldl_append, stepD_all k (by omega)]
    show stepD d _ _ = _
    unfold stepD
    show (_, _) = (_, _)
    have : (crow len d idx k).set (len - 1 - k) (.int .i64 (Int.tmod (idxD len d idx k) (d (len - 1 - k)))) = crow len d idx (k + 1) := by
      rw [← crow_set (by omega)]
      unfold crdD
      rw [show len - 1 - (len - 1 - k) = k from by omega]
    rw [this]; rfl
theorem stepD_len {len : Nat} {d : Nat → Int} {idx : Int} (pre : List (Fin len)) : (pre.foldl (stepD d) (idx, crow len d idx 0)).2.length = len := by
  have key : ∀ (pre : List (Fin len)) (st : Int × List Value), st.2.length = len → (pre.foldl (stepD d) st).2.length = len := by
    intro pre
    induction pre with
    | nil => intro st h; exact h
    | cons x pre ih => intro st h; exact ih _ (by unfold stepD; simp [h])
  exact key pre _ crow_len
theorem crow_zero {len : Nat} {d : Nat → Int} {idx : Int} : crow len d idx 0 = List.replicate len (Value.int .i64 0) := by
  refine List.ext_getElem (by simp [crow_len]) fun j h1 h2 => ?_
  have hj : j < len := by rw [crow_len] at h1; exact h1
  have a1 := crow_at (d := d) (idx := idx) (k := 0) hj
  rw [List.getElem?_eq_getElem (by rw [crow_len]; exact hj)] at a1
  rw [Option.some.inj a1, List.getElem_replicate, if_neg (by omega)]

/-- What holds when the places of pre have come. -/
def InvC (s0 len : Nat) (d : Nat → Int) (idx : Int) (w : World) (pre : List (Fin len)) (W : World) : Prop :=
  (Blk W s0 [.int .i64 (pre.foldl (stepD d) (idx, crow len d idx 0)).1] 2 ∧ Blk W (s0 + 1) (pre.foldl (stepD d) (idx, crow len d idx 0)).2 2 ∧ Blk W (s0 + 2) [.slice (some ⟨s0 + 1, 0, none⟩) len len] 22) ∧ Below s0 w W
theorem blk_kept {W W' : World} {row : Option Nat} {g : Nat} {cur : List Value} {e : TypeId} (h : Blk W g cur e) (hg : W.grownBy W' row) (hrow : ∀ r, row = some r → ∃ o : Obj, W.heap[r]? = some o ∧ o.isCells = false) : Blk W' g cur e := by
  obtain ⟨fr, hh, hf⟩ := h
  exact ⟨fr, (grownBy_keeps_cells hg hrow hh rfl).trans hh, hf⟩

set_option maxRecDepth 100000 in
set_option maxHeartbeats 4000000 in
theorem coords_in (F : Fence) (n : Nat) (h1 : F.fn 101) (h2 : F.fn 137) (h3 : F.fn 162) (hro : F.round = none) (hn : 3 ≤ n) (a : Option Addr) (len cap : Nat) (d : Nat → Int) (hz : ∀ j, j < len → d j ≠ 0) (idx : Int) (hreach : len * 8 ≤ 140737488351232) (w : World) (hI : IntsAt w.heap.size w (.slice a len cap) len d) :
    CallsIn F n Go.Proofs.Try.prog 101 #[.slice a len cap, .int .i64 idx] w fun e W' => e = .returned (.slice (some ⟨w.heap.size + 1, 0, none⟩) len len) ∧ Blk W' (w.heap.size + 1) (crow len d idx len) 2 ∧ Below w.heap.size w W' := by
  have hn1 : 1 ≤ n := by omega
  have hmk : ∀ u : World, (Instr.makeSlice 22 (.int .i64 (len : Int)) (.int .i64 (len : Int))).run Go.Proofs.Try.prog u = .ok (.slice (some ⟨u.heap.size, 0, none⟩) len len) (u.alloc (.cells (List.replicate len (Value.int .i64 0)).toArray 2)) := fun u => by
    obtain ⟨i2, hi2⟩ := tab_ok 2 (by rfl)
    have hkr := run_make (P := Go.Proofs.Try.prog) u 22 2 i2 (.int .i64 0) (by have := Go.Proofs.Try.underlying22; exact this) hi2.info (hi2.zero [⟨.int .i64, .own true, .i 0⟩] rfl) .i64 .i64 (len : Int) (len : Int) (by omega) (Int.le_refl _) (by rw [hi2.bytes]; show ((8 : Nat) : Int) * (len : Int) ≤ _; omega) (by omega)
    rw [hkr, Int.toNat_natCast, hi2.size]
    congr 2
    congr 1
    show madeCells #[.int .i64 0] (len * 1) = _
    unfold madeCells
    apply Array.ext
    · simp
    · intro i h1 h2
      simp [Nat.mod_one]
  obtain ⟨s0, hs0⟩ : ∃ s0, w.heap.size = s0 := ⟨_, rfl⟩
  refine callsIn_of_wp_marks Go.Proofs.Try.func101 rfl h1 ?_ hro
  simp only [Go.Proofs.Try.ntmps101, List.size_toArray, List.length_cons, List.length_nil, Nat.reduceAdd, Nat.reduceSub, Array.replicate_succ, Array.replicate_zero, List.push_toArray, List.append_toArray, List.nil_append, List.cons_append]
  gi_wp2_with (gi_at_call 137; refine (backward_in F (n - 1) h2 hro _ _ _ _).mono ?_; rintro e w' ⟨rfl, rfl⟩)
  rw [show (Array.replicate len (Value.int .i64 0)) = (crow len d idx 0).toArray from by rw [crow_zero]; simp]
  rw [hs0] at hI
  have b0 : Blk (w.alloc (.cells #[.int .i64 idx] 2)) s0 [.int .i64 idx] 2 := hs0 ▸ Blk.alloc w [.int .i64 idx] 2
  have z1 : (w.alloc (.cells #[.int .i64 idx] 2)).heap.size = s0 + 1 := by rw [World.size_alloc, hs0]
  generalize hw1 : w.alloc (.cells #[.int .i64 idx] 2) = w1 at b0 z1 ⊢
  have B1 : Below s0 w w1 := by rw [← hw1]; exact (Below.refl _ w).alloc (by omega) _
  have b1 : Blk (w1.alloc (.cells (crow len d idx 0).toArray 2)) (s0 + 1) (crow len d idx 0) 2 := z1 ▸ Blk.alloc w1 (crow len d idx 0) 2
  have b0 : Blk (w1.alloc (.cells (crow len d idx 0).toArray 2)) s0 [.int .i64 idx] 2 := (Chg.alloc w1 _ []).blk b0 (by simp)
  have z2 : (w1.alloc (.cells (crow len d idx 0).toArray 2)).heap.size = s0 + 1 + 1 := by rw [World.size_alloc, z1]
  generalize hw2 : w1.alloc (.cells (crow len d idx 0).toArray 2) = w2 at b0 b1 z2 ⊢
  have B2 : Below s0 w w2 := by rw [← hw2]; exact B1.alloc (by omega) _
  have b2 : Blk (w2.alloc (.cells #[.slice (some ⟨s0 + 1, 0, none⟩) len len] 22)) (s0 + 1 + 1) [.slice (some ⟨s0 + 1, 0, none⟩) len len] 22 := z2 ▸ Blk.alloc w2 [.slice (some ⟨s0 + 1, 0, none⟩) len len] 22
  have b0 : Blk (w2.alloc (.cells #[.slice (some ⟨s0 + 1, 0, none⟩) len len] 22)) s0 [.int .i64 idx] 2 := (Chg.alloc w2 _ []).blk b0 (by simp)
  have b1 : Blk (w2.alloc (.cells #[.slice (some ⟨s0 + 1, 0, none⟩) len len] 22)) (s0 + 1) (crow len d idx 0) 2 := (Chg.alloc w2 _ []).blk b1 (by simp)
  have z3 : (w2.alloc (.cells #[.slice (some ⟨s0 + 1, 0, none⟩) len len] 22)).heap.size = s0 + 1 + 1 + 1 := by rw [World.size_alloc, z2]
  generalize hw3 : w2.alloc (.cells #[.slice (some ⟨s0 + 1, 0, none⟩) len len] 22) = w3 at b0 b1 b2 z3 ⊢
  have B3 : Below s0 w w3 := by rw [← hw3]; exact B2.alloc (by omega) _
  have bN := Boxed.new w3 22 (.slice a len cap)
  rw [z3] at bN
  have b0 : Blk (w3.alloc (.cells #[.slice a len cap] 22)) s0 [.int .i64 idx] 2 := (Chg.alloc w3 _ []).blk b0 (by simp)
  have b1 : Blk (w3.alloc (.cells #[.slice a len cap] 22)) (s0 + 1) (crow len d idx 0) 2 := (Chg.alloc w3 _ []).blk b1 (by simp)
  have b2 : Blk (w3.alloc (.cells #[.slice a len cap] 22)) (s0 + 1 + 1) [.slice (some ⟨s0 + 1, 0, none⟩) len len] 22 := (Chg.alloc w3 _ []).blk b2 (by simp)
  have z4 : (w3.alloc (.cells #[.slice a len cap] 22)).heap.size = s0 + 1 + 1 + 1 + 1 := by rw [World.size_alloc, z3]
  generalize hw4 : w3.alloc (.cells #[.slice a len cap] 22) = w4 at b0 b1 b2 z4 bN ⊢
  have B4 : Below s0 w w4 := by rw [← hw4]; exact B3.alloc (by omega) _
  refine wpIn_rangeFunc_ownG hro hn1 (gf := 162) (lb := #[.pointer (some ⟨s0 + 1 + 1 + 1, 0, none⟩)]) rfl h3 (enters_of Go.Proofs.Try.func162 (by kernel_rfl) rfl)
    (back_stops F (n - 1) h3 hro (by omega) (s0 + 1 + 1 + 1) s0 _ len d hreach w4 (by omega) (by omega) bN.cell (hI.below B4)) kb_t (kb_b (by omega)) (Below.refl _ _) (fun _ => rfl)
    (InvC s0 len d idx w) (fun _ _ _ => False)
    (OwnFrom.and (Own.from (fun s A B row hs hg hr => ⟨blk_kept hs.1 hg hr, blk_kept hs.2.1 hg hr, blk_kept hs.2.2 hg hr⟩) _) (ownFrom_below (by omega) (by omega)))
    (fun _ _ _ _ _ hs _ _ => hs)
    ⟨⟨b0, b1, b2⟩, B4⟩
    (fun x => { tmps := #[.slice a len cap, .int .i64 idx, undef, .pointer (some ⟨s0, 0, none⟩), .slice none 0 0, .pointer (some ⟨s0 + 1 + 1, 0, none⟩), .int .i64 (x.1 : Int), .int .i64 (d x.1), .slice a len cap, .int .i64 (len : Int), .slice (some ⟨s0 + 1, 0, none⟩) len len, .slice a len cap, .func (.func 162) #[] #[.pointer (some ⟨s0 + 1 + 1 + 1, 0, none⟩)], .int .i64 (x.1 : Int), .int .i64 (d x.1), undef, undef, undef, undef, undef, undef, undef, undef, undef, undef], defers := [] }) ?assign ?body ?done ?stop
  case assign =>
    intro l x W K hK
    unfold encB
    gi_wp2
    exact hK
  case body =>
    rintro l pre x W ⟨⟨k0, k1, k2⟩, hB⟩ _
    have hcl := stepD_len (d := d) (idx := idx) pre
    have hfold : ((pre ++ [x]).foldl (stepD d) (idx, crow len d idx 0)) = stepD d (pre.foldl (stepD d) (idx, crow len d idx 0)) x := by rw [List.foldl_append]; rfl
    have hI' : ∀ W', InvC s0 len d idx w (pre ++ [x]) W' ↔ (Blk W' s0 [.int .i64 (IntKind.wrap .i64 (Int.tdiv (pre.foldl (stepD d) (idx, crow len d idx 0)).1 (d x.1)))] 2 ∧ Blk W' (s0 + 1) ((pre.foldl (stepD d) (idx, crow len d idx 0)).2.set x.1 (.int .i64 (Int.tmod (pre.foldl (stepD d) (idx, crow len d idx 0)).1 (d x.1)))) 2 ∧ Blk W' (s0 + 2) [.slice (some ⟨s0 + 1, 0, none⟩) len len] 22) ∧ Below s0 w W' := fun W' => by
      unfold InvC; rw [hfold]; rfl
    clear hfold
    generalize (pre.foldl (stepD d) (idx, crow len d idx 0)) = st at k0 k1 hcl hI'
    obtain ⟨m, cur⟩ := st
    dsimp only at k0 k1 hcl hI'
    have hxl := x.2
    have hdx := hz x.1 x.2
    have hcx : x.1 < cur.length := by omega
    obtain ⟨xv, hxv⟩ : ∃ xv, xv = x.1 := ⟨_, rfl⟩
    obtain ⟨dv, hdv⟩ : ∃ dv, dv = d x.1 := ⟨_, rfl⟩
    have hxr := hxv.symm
    have hdr := hdv.symm
    clear hxv hdv
    simp only [hxr] at hI' hdx hcx hxl ⊢
    have c0 : W.cell? ⟨s0, 0, none⟩ = some (.int .i64 m) := k0.cell 0
    have f0 : W.frozen? ⟨s0, 0, none⟩ = false := k0.frozen 0 (by simp)
    have c2 : W.cell? ⟨s0 + 1 + 1, 0, none⟩ = some (.slice (some ⟨s0 + 1, 0, none⟩) len len) := k2.cell 0
    have c1 : W.cell? ⟨s0 + 1, xv, none⟩ = some cur[xv] := (k1.cell xv).trans (List.getElem?_eq_getElem hcx)
    have f1 : W.frozen? ⟨s0 + 1, xv, none⟩ = false := k1.frozen xv hcx
    have hch1 := Chg.set W (s0 + 1) xv (.int .i64 (Int.tmod m dv))
    have c0' : (W.setCell ⟨s0 + 1, xv, none⟩ (.int .i64 (Int.tmod m dv))).cell? ⟨s0, 0, none⟩ = some (.int .i64 m) := hch1.cell c0 (by simp)
    have f0' : (W.setCell ⟨s0 + 1, xv, none⟩ (.int .i64 (Int.tmod m dv))).frozen? ⟨s0, 0, none⟩ = false := (hch1.blk k0 (by simp)).frozen 0 (by simp)
    have hw64 : ∀ z, RowKit.wrap64 z = IntKind.wrap .i64 z := fun z => by unfold RowKit.wrap64; rw [IntKind.wrap_i64]
    have fin : ∀ act, ownPostG w4.heap.size (KB s0 (s0 + 1 + 1 + 1)) (InvC s0 len d idx w) (fun _ _ _ => False) (pre ++ [x]) W Exit.normal act
        ((W.setCell ⟨s0 + 1, xv, none⟩ (.int .i64 (Int.tmod m (d xv)))).setCell ⟨s0, 0, none⟩ (.int .i64 (RowKit.wrap64 (Int.tdiv m (d xv))))).drew := fun act => by
      have q1 : KeepsOthers W ((W.setCell ⟨s0 + 1, xv, none⟩ (.int .i64 (Int.tmod m (d xv)))).setCell ⟨s0, 0, none⟩ (.int .i64 (RowKit.wrap64 (Int.tdiv m (d xv))))) := (KeepsOthers.setCell _ _ _).trans (KeepsOthers.setCell _ _ _)
      have q2 : Below s0 W ((W.setCell ⟨s0 + 1, xv, none⟩ (.int .i64 (Int.tmod m (d xv)))).setCell ⟨s0, 0, none⟩ (.int .i64 (RowKit.wrap64 (Int.tdiv m (d xv))))) := ((Below.refl s0 W).setCell (p := ⟨s0 + 1, xv, none⟩) (by show s0 ≤ s0 + 1; omega) _).setCell (p := ⟨s0, 0, none⟩) (Nat.le_refl _) _
      have e1 := Chg.set W (s0 + 1) xv (.int .i64 (Int.tmod m (d xv)))
      have e2 := Chg.set (W.setCell ⟨s0 + 1, xv, none⟩ (.int .i64 (Int.tmod m (d xv)))) s0 0 (.int .i64 (RowKit.wrap64 (Int.tdiv m (d xv))))
      have q1' : KeepsOthers W ((W.setCell ⟨s0 + 1, xv, none⟩ (.int .i64 (Int.tmod m (d xv)))).setCell ⟨s0, 0, none⟩ (.int .i64 (RowKit.wrap64 (Int.tdiv m (d xv))))).drew := ⟨q1.size, fun k o hk ho => q1.same k o hk ho⟩
      refine ⟨q1'.from _, ⟨⟨q2.os, q2.tape, q2.output, q2.size, q2.block⟩, fun v hv => ?_⟩, (hI' _).2 ⟨⟨?_, ?_, ?_⟩, hB.trans ⟨q2.os, q2.tape, q2.output, q2.size, q2.block⟩⟩⟩
      · exact e2.cell (e1.cell hv (fun hm => by have h2 : s0 + 1 + 1 + 1 = s0 + 1 := List.mem_singleton.1 hm; omega)) (fun hm => by have h2 : s0 + 1 + 1 + 1 = s0 := List.mem_singleton.1 hm; omega)
      · have := (e1.blk k0 (by simp)).set 0 (.int .i64 (RowKit.wrap64 (Int.tdiv m (d xv))))
        rw [hw64] at this
        rw [hw64]
        exact this
      · exact e2.blk (k1.set xv (.int .i64 (Int.tmod m (d xv)))) (by simp)
      · exact e2.blk (e1.blk k2 (by simp)) (by simp)
    gi_wp2
    gi_region
    all_goals gi_wp2
    all_goals exact fin _
  case done =>
    rintro D ys W hD rfl ⟨⟨k0, k1, k2⟩, hB⟩ hK
    have c2 : W.cell? ⟨s0 + 1 + 1, 0, none⟩ = some (.slice (some ⟨s0 + 1, 0, none⟩) len len) := k2.cell 0
    rw [stepD_all len (Nat.le_refl _)] at k1
    have k1' : Blk (W.putObj D (.deferred none)) (s0 + 1) (crow len d idx len) 2 := blk_kept k1 (grownBy_putObj' W D _) (fun r e => by cases e; exact ⟨_, hK, rfl⟩)
    have hB' : Below s0 w (W.putObj D (.deferred none)) := hB.trans (belowK_b (w := w) (by omega) W D _ _ (by omega) hK rfl rfl)
    gi_wp2
    refine ⟨by simp, .inl ⟨_, _, rfl, run_takeDeferred hK, ?_⟩⟩
    exact ⟨_, results_tmp rfl _ _ _, rfl, k1', hB'⟩
  case stop =>
    rintro D c pre W _ _ h _
    exact h.elim

/-- Ints out of a row. -/
theorem intsAt_of {w : World} {S : Nat → Prop} {sv : Value} {A : List (List TC)} (hS : ∀ b, S b → b < w.heap.size) (h : RepC tab w S (.slice 2) sv (.l A)) : IntsAt w.heap.size w sv A.length (fun j => (nth (A.getD j []) 0).int) ∧ ∃ a cap, sv = .slice a A.length cap := by
  generalize hc : TC.l A = c at h
  cases h with
  | nil e => cases hc; exact ⟨.inl ⟨rfl, rfl⟩, _, _, rfl⟩
  | slice e ad xs cap us p1 p2 p3 p4 =>
    cases hc
    refine ⟨.inr ⟨ad, cap, rfl, ?_, fun j hj => ?_⟩, _, _, rfl⟩
    · exact fun h0 => hS _ (p3 0 (by rw [show (tab 2).cts.length = 1 from rfl]; omega)).1
    · have h8 : (tab 2).cts.length = 1 := rfl
      have hj' : j < A.length * (tab 2).cts.length := by rw [h8]; omega
      have q4 := p4 j hj'
      rw [h8, Nat.mod_one, Nat.div_one] at q4
      have q5 : RepC tab w S (.int .i64) (us j) (nth (A.getD j []) 0) := q4
      rw [(p3 j hj').2]
      show some (us j) = some (.int .i64 (nth (A.getD j []) 0).int)
      generalize nth (A.getD j []) 0 = z at q5 ⊢
      generalize us j = u at q5 ⊢
      cases q5; rfl
/-- The coordinates as data. -/
noncomputable def coordsV (A : List (List TC)) (idx : Int) : List (List TC) := (List.range A.length).map fun j => [TC.i (crdD A.length (fun j => (nth (A.getD j []) 0).int) idx j)]
theorem coordsV_len {A : List (List TC)} {idx : Int} : (coordsV A idx).length = A.length := by simp [coordsV]
theorem own_of_blk {w : World} {g : Nat} {A : List (List TC)} {idx : Int} (hl : A.length ≤ maxLen) (h : Blk w g (crow A.length (fun j => (nth (A.getD j []) 0).int) idx A.length) 2) : OwnC tab w (.slice 2) (.slice (some ⟨g, 0, none⟩) A.length A.length) (.l (coordsV A idx)) [g] := by
  have h8 : (tab 2).cts.length = 1 := rfl
  have h0 := OwnC.slice (T := tab) (w := w) 2 g (coordsV A idx) A.length (crow A.length (fun j => (nth (A.getD j []) 0).int) idx A.length) (fun _ => []) (by rw [coordsV_len]; exact Nat.le_refl _) hl (fun x hx => by
    unfold coordsV at hx
    obtain ⟨j, -, rfl⟩ := List.mem_map.1 hx
    rfl) h (by rw [crow_len, h8, Nat.mul_one]) (fun u hu => by
    unfold crow at hu
    obtain ⟨j, -, rfl⟩ := List.mem_map.1 hu
    rfl) (fun k hk => by
    rw [coordsV_len, h8, Nat.mul_one] at hk
    rw [h8, Nat.mod_one, Nat.div_one]
    have e1 : (crow A.length (fun j => (nth (A.getD j []) 0).int) idx A.length).getD k undef = .int .i64 (crdD A.length (fun j => (nth (A.getD j []) 0).int) idx k) := by
      rw [List.getD_eq_getElem?_getD, crow_at hk, if_pos (by omega)]; rfl
    have e2 : nth ((coordsV A idx).getD k []) 0 = TC.i (crdD A.length (fun j => (nth (A.getD j []) 0).int) idx k) := by
      unfold coordsV
      rw [List.getD_eq_getElem?_getD, List.getElem?_map, List.getElem?_range hk]; rfl
    rw [e1, e2]
    exact OwnC.flat (.int .i64) _ _ rfl (.int .i64 _))
  have e0 : (g :: (List.range ((coordsV A idx).length * (tab 2).cts.length)).flatMap fun _ => ([] : List Nat)) = [g] := by simp
  rw [e0, coordsV_len] at h0
  exact h0
/-- coordsOf, by what is known of its calls. -/
theorem coords_told {w : World} {S : Nat → Prop} {sv : Value} {A : List (List TC)} {idx : Int} (hS : ∀ b, S b → b < w.heap.size) (h : RepC tab w S (.slice 2) sv (.l A)) (hz : ∀ j, j < A.length → (nth (A.getD j []) 0).int ≠ 0) (hl : A.length * 8 ≤ 140737488351232) :
    Calls Go.Proofs.Try.prog 101 #[sv, .int .i64 idx] w fun e w' => ∃ v, e = .returned v ∧ PlainRes tab w S [(false, [⟨.slice 2, .own true, .l (coordsV A idx)⟩])] v w' := by
  obtain ⟨hI, a, cap, rfl⟩ := intsAt_of hS h
  refine (callsIn_wide.1 (coords_in Fence.wide 6 trivial trivial trivial rfl (by omega) a A.length cap _ hz idx hl w hI)).mono ?_
  rintro e w' ⟨rfl, hb, hB⟩
  exact ⟨_, rfl, plain_own (own_of_blk (by unfold maxLen; omega) hb) (by simp) (fun b hb' => by rw [List.mem_singleton.1 hb']; exact ⟨by omega, hb.lt⟩) hB⟩

end
end Go.Proofs.Ytmdbccmbmcgclaa.V
