import Derived.Test.YtdcafhfnkblfkaaV38
import Derived.Shelf.Strings.BuilderK
namespace Go.Proofs.Ytdcafhfnkblfkaa.V
open Go Go.RowKit Go.Shelf

/-! ### Arguments and results, one by one -/
section
variable {T : Tab} {w w' : World} {S : Nat → Prop}
end

/-! ### strings.Builder -/
theorem Blk.set {w : World} {g : Nat} {cur : List Value} {e : TypeId} (h : Blk w g cur e) (j : Nat) (v : Value) : Blk (w.setCell ⟨g, j, none⟩ v) g (cur.set j v) e := by
  obtain ⟨fr, hh, hf⟩ := h
  refine ⟨fr, ?_, by simpa using hf⟩
  simp [World.setCell, Array.getElem?_modify, hh]
theorem Chg.set (w : World) (g j : Nat) (v : Value) : Chg w (w.setCell ⟨g, j, none⟩ v) [g] :=
  ⟨rfl, rfl, rfl, by simp [World.setCell], fun k hk hn => Below.heap_setCell _ _ _ _ (by simpa using hn)⟩
section
variable {P : Program} {ρ : Ren} {T : Tab}

set_option maxHeartbeats 4000000 in
set_option maxRecDepth 100000 in
set_option maxHeartbeats 1000000 in
set_option maxRecDepth 100000 in
set_option maxHeartbeats 2000000 in
set_option maxRecDepth 100000 in
set_option maxHeartbeats 2000000 in
set_option maxRecDepth 100000 in
set_option maxHeartbeats 2000000 in
set_option maxRecDepth 100000 in
set_option maxHeartbeats 2000000 in
set_option maxRecDepth 100000 in
end

end Go.Proofs.Ytdcafhfnkblfkaa.V
