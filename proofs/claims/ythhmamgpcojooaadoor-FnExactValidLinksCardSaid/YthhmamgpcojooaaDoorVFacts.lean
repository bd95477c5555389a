/- The tables are right for this translation. No condition. -/
import Derived.Test.YthhmamgpcojooaaDoorVTab
import Derived.Test.YthhmamgpcojooaaDoorV44
import Derived.KernelRfl
namespace Go.Proofs.YthhmamgpcojooaaDoor.V
open Go Go.Proofs Go.Shelf
theorem tab_ok : TabOk Go.Proofs.Tryd.prog tab := checkAll_ok (l := tabL) (m := methL) (by kernel_rfl)
theorem names_ok : NamesOk Go.Proofs.Tryd.prog := checkNames_ok (by kernel_rfl)
theorem mixed_ok : Go.Proofs.Tryd.prog.follows .mixedOrders = true := by kernel_rfl
theorem laid_ok : laidOutB Go.Proofs.Tryd.prog = true := by kernel_rfl
theorem meth_ok : MethOk Go.Proofs.Tryd.prog tab := methOk_none2 (l := tabL) (m := methL) (by kernel_rfl) (by kernel_rfl)
theorem gl_is : isGl tab 0 := by unfold isGl; kernel_rfl
theorem gl_at {W : World} (h : W.ShapedOpen Go.Proofs.Tryd.prog) : intGl tab W := gl_ok (g0 := 0) (t := 3) (zero := #[.int .i64 0]) gl_is h (of_decide_eq_true (by kernel_rfl)) (by kernel_rfl) rfl (by kernel_rfl) (by kernel_rfl) Go.Proofs.Tryd.underlying3
def ren1 : Go.Shelf.Ren := ⟨fun n => bif Nat.beq n 138 then 66 else bif Nat.beq n 143 then 67 else bif Nat.beq n 146 then 42 else bif Nat.beq n 195 then 69 else bif Nat.beq n 197 then 70 else bif Nat.beq n 217 then 74 else bif Nat.beq n 218 then 71 else bif Nat.beq n 219 then 72 else bif Nat.beq n 221 then 58 else bif Nat.beq n 224 then 76 else bif Nat.beq n 225 then 75 else bif Nat.beq n 260 then 73 else bif Nat.beq n 266 then 78 else bif Nat.beq n 267 then 77 else bif Nat.beq n 268 then 65 else bif Nat.beq n 314 then 79 else 0, fun n => bif Nat.beq n 0 then 0 else bif Nat.beq n 3 then 3 else bif Nat.beq n 4 then 4 else bif Nat.beq n 5 then 5 else bif Nat.beq n 9 then 9 else bif Nat.beq n 21 then 21 else bif Nat.beq n 31 then 23 else bif Nat.beq n 46 then 78 else bif Nat.beq n 51 then 95 else bif Nat.beq n 105 then 87 else bif Nat.beq n 119 then 91 else bif Nat.beq n 138 then 93 else bif Nat.beq n 139 then 94 else bif Nat.beq n 146 then 96 else 0, fun n => bif Nat.beq n 1 then 0 else bif Nat.beq n 3 then 1 else bif Nat.beq n 4 then 2 else 0⟩
theorem lays146 : Lays.n146 Tryd.prog ren1 := {
  mixed := by kernel_rfl
  f138 := Tryd.func66.trans (congrArg some (by kernel_rfl))
  f143 := Tryd.func67.trans (congrArg some (by kernel_rfl))
  f146 := Tryd.func42.trans (congrArg some (by kernel_rfl))
  f195 := Tryd.func69.trans (congrArg some (by kernel_rfl))
  f197 := Tryd.func70.trans (congrArg some (by kernel_rfl))
  f217 := Tryd.func74.trans (congrArg some (by kernel_rfl))
  f218 := Tryd.func71.trans (congrArg some (by kernel_rfl))
  f219 := Tryd.func72.trans (congrArg some (by kernel_rfl))
  f221 := Tryd.func58.trans (congrArg some (by kernel_rfl))
  f224 := Tryd.func76.trans (congrArg some (by kernel_rfl))
  f225 := Tryd.func75.trans (congrArg some (by kernel_rfl))
  f260 := Tryd.func73.trans (congrArg some (by kernel_rfl))
  f266 := Tryd.func78.trans (congrArg some (by kernel_rfl))
  f267 := Tryd.func77.trans (congrArg some (by kernel_rfl))
  f268 := Tryd.func65.trans (congrArg some (by kernel_rfl))
  f314 := Tryd.func79.trans (congrArg some (by kernel_rfl))
  t0 := Tryd.underlying0
  a0 := Tryd.isAgg0
  z0 := Tryd.sizeOf0
  v0 := Tryd.zeroValue0
  t3 := Tryd.underlying3
  a3 := Tryd.isAgg3
  z3 := Tryd.sizeOf3
  v3 := Tryd.zeroValue3
  t4 := Tryd.underlying4
  a4 := Tryd.isAgg4
  z4 := Tryd.sizeOf4
  v4 := Tryd.zeroValue4
  t5 := Tryd.underlying5
  a5 := Tryd.isAgg5
  z5 := Tryd.sizeOf5
  v5 := Tryd.zeroValue5
  t9 := Tryd.underlying9
  a9 := Tryd.isAgg9
  z9 := Tryd.sizeOf9
  v9 := Tryd.zeroValue9
  t21 := Tryd.underlying21
  a21 := Tryd.isAgg21
  z21 := Tryd.sizeOf21
  v21 := Tryd.zeroValue21
  t31 := Tryd.underlying23
  a31 := Tryd.isAgg23
  z31 := Tryd.sizeOf23
  v31 := Tryd.zeroValue23
  t46 := Tryd.underlying78
  a46 := Tryd.isAgg78
  z46 := Tryd.sizeOf78
  v46 := Tryd.zeroValue78
  t51 := Tryd.underlying95
  a51 := Tryd.isAgg95
  z51 := Tryd.sizeOf95
  v51 := Tryd.zeroValue95
  t105 := Tryd.underlying87
  a105 := Tryd.isAgg87
  z105 := Tryd.sizeOf87
  v105 := Tryd.zeroValue87
  t119 := Tryd.underlying91
  a119 := Tryd.isAgg91
  z119 := Tryd.sizeOf91
  t138 := Tryd.underlying93
  a138 := Tryd.isAgg93
  z138 := Tryd.sizeOf93
  v138 := Tryd.zeroValue93
  t139 := Tryd.underlying94
  a139 := Tryd.isAgg94
  z139 := Tryd.sizeOf94
  v139 := Tryd.zeroValue94
  t146 := Tryd.underlying96
  a146 := Tryd.isAgg96
  z146 := Tryd.sizeOf96
  v146 := Tryd.zeroValue96
  g1 := by kernel_rfl
  g3 := by kernel_rfl
  g4 := by kernel_rfl }
theorem split_str : (Go.Proofs.Tryd.prog.info? (ren1.t 9)).map (fun i => (i.zero, i.size, i.bytes)) = some (some (.string ByteArray.empty), 1, 16) := by kernel_rfl
theorem split_gl : isGl tab (ren1.g 1) := by unfold isGl; kernel_rfl
theorem split_cts : (tab (ren1.t 9)).cts = [.str] := by kernel_rfl
theorem d0 : DOk Go.Proofs.Tryd.prog tab D0 := d00 meth_ok
end Go.Proofs.YthhmamgpcojooaaDoor.V
