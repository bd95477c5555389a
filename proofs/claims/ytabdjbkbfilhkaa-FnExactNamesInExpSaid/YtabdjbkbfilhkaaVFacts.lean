/- The tables are right for this translation. No condition. -/
import Derived.Test.YtabdjbkbfilhkaaVTab
import Derived.Test.YtabdjbkbfilhkaaV45
import Derived.KernelRfl
import Derived.Maps.Own
import Derived.Maps.OwnSet
import Derived.WalkKit
import Derived.WalkSpells
namespace Go.Proofs.Ytabdjbkbfilhkaa.V
open Go Go.Proofs Go.Shelf
theorem tab_ok : TabOk Go.Proofs.Try.prog tab := checkAll_ok (l := tabL) (m := methL) (by kernel_rfl)
theorem names_ok : NamesOk Go.Proofs.Try.prog := checkNames_ok (by kernel_rfl)
theorem mixed_ok : Go.Proofs.Try.prog.follows .mixedOrders = true := by kernel_rfl
theorem laid_ok : laidOutB Go.Proofs.Try.prog = true := by kernel_rfl
theorem meth_ok : MethOk Go.Proofs.Try.prog tab := methOk_none2 (l := tabL) (m := methL) (by kernel_rfl) (by kernel_rfl)
theorem gl_none (g : Nat) : ¬ isGl tab g := noGl (by kernel_rfl) g
def renS54 : Go.Shelf.Ren := ⟨fun n => bif Nat.beq n 44 then 27 else bif Nat.beq n 54 then 26 else bif Nat.beq n 61 then 56 else bif Nat.beq n 64 then 37 else bif Nat.beq n 65 then 36 else bif Nat.beq n 69 then 69 else bif Nat.beq n 78 then 59 else bif Nat.beq n 79 then 60 else bif Nat.beq n 80 then 50 else bif Nat.beq n 81 then 51 else bif Nat.beq n 82 then 52 else bif Nat.beq n 83 then 53 else bif Nat.beq n 84 then 54 else bif Nat.beq n 85 then 55 else bif Nat.beq n 86 then 57 else bif Nat.beq n 87 then 58 else bif Nat.beq n 89 then 65 else bif Nat.beq n 90 then 66 else bif Nat.beq n 93 then 64 else bif Nat.beq n 94 then 67 else bif Nat.beq n 95 then 68 else bif Nat.beq n 97 then 71 else 0, fun n => bif Nat.beq n 0 then 0 else bif Nat.beq n 3 then 3 else bif Nat.beq n 4 then 4 else bif Nat.beq n 5 then 5 else bif Nat.beq n 9 then 9 else bif Nat.beq n 25 then 35 else bif Nat.beq n 26 then 9 else bif Nat.beq n 44 then 46 else bif Nat.beq n 51 then 67 else bif Nat.beq n 60 then 79 else bif Nat.beq n 61 then 80 else bif Nat.beq n 67 then 87 else bif Nat.beq n 69 then 89 else bif Nat.beq n 75 then 93 else bif Nat.beq n 79 then 97 else bif Nat.beq n 83 then 100 else bif Nat.beq n 84 then 71 else 0, fun _ => 0⟩
theorem lays54 : SlLaysN.n54 Try.prog renS54 := {
  mixed := by kernel_rfl
  f54 := ⟨Try.f26.name, by decide, Try.func26.trans (congrArg some (by kernel_rfl))⟩
  f61 := ⟨Try.f56.name, by decide, Try.func56.trans (congrArg some (by kernel_rfl))⟩
  f64 := Try.func37.trans (congrArg some (by kernel_rfl))
  f65 := ⟨Try.f36.name, by decide, Try.func36.trans (congrArg some (by kernel_rfl))⟩
  f69 := ⟨Try.f69.name, by decide, Try.func69.trans (congrArg some (by kernel_rfl))⟩
  f78 := Try.func59.trans (congrArg some (by kernel_rfl))
  f79 := Try.func60.trans (congrArg some (by kernel_rfl))
  f80 := ⟨Try.f50.name, by decide, Try.func50.trans (congrArg some (by kernel_rfl))⟩
  f81 := ⟨Try.f51.name, by decide, Try.func51.trans (congrArg some (by kernel_rfl))⟩
  f82 := ⟨Try.f52.name, by decide, Try.func52.trans (congrArg some (by kernel_rfl))⟩
  f83 := ⟨Try.f53.name, by decide, Try.func53.trans (congrArg some (by kernel_rfl))⟩
  f84 := ⟨Try.f54.name, by decide, Try.func54.trans (congrArg some (by kernel_rfl))⟩
  f85 := ⟨Try.f55.name, by decide, Try.func55.trans (congrArg some (by kernel_rfl))⟩
  f86 := ⟨Try.f57.name, by decide, Try.func57.trans (congrArg some (by kernel_rfl))⟩
  f87 := ⟨Try.f58.name, by decide, Try.func58.trans (congrArg some (by kernel_rfl))⟩
  f89 := Try.func65.trans (congrArg some (by kernel_rfl))
  f90 := Try.func66.trans (congrArg some (by kernel_rfl))
  f93 := ⟨Try.f64.name, by decide, Try.func64.trans (congrArg some (by kernel_rfl))⟩
  f94 := ⟨Try.f67.name, by decide, Try.func67.trans (congrArg some (by kernel_rfl))⟩
  f95 := ⟨Try.f68.name, by decide, Try.func68.trans (congrArg some (by kernel_rfl))⟩
  f97 := ⟨Try.f71.name, by decide, Try.func71.trans (congrArg some (by kernel_rfl))⟩
  t0 := Try.underlying0
  a0 := Try.isAgg0
  z0 := Try.sizeOf0
  v0 := Try.zeroValue0
  t3 := Try.underlying3
  a3 := Try.isAgg3
  z3 := Try.sizeOf3
  v3 := Try.zeroValue3
  t4 := Try.underlying4
  a4 := Try.isAgg4
  z4 := Try.sizeOf4
  v4 := Try.zeroValue4
  t5 := Try.underlying5
  a5 := Try.isAgg5
  z5 := Try.sizeOf5
  v5 := Try.zeroValue5
  t9 := Try.underlying9
  a9 := Try.isAgg9
  z9 := Try.sizeOf9
  v9 := Try.zeroValue9
  t25 := Try.underlying35
  a25 := Try.isAgg35
  z25 := Try.sizeOf35
  v25 := Try.zeroValue35
  t26 := Try.underlying9
  a26 := Try.isAgg9
  z26 := Try.sizeOf9
  v26 := Try.zeroValue9
  t44 := Try.underlying46
  a44 := Try.isAgg46
  z44 := Try.sizeOf46
  v44 := Try.zeroValue46
  t51 := Try.underlying67
  a51 := Try.isAgg67
  z51 := Try.sizeOf67
  v51 := Try.zeroValue67
  t60 := Try.underlying79
  a60 := Try.isAgg79
  z60 := Try.sizeOf79
  v60 := Try.zeroValue79
  t61 := Try.underlying80
  a61 := Try.isAgg80
  z61 := Try.sizeOf80
  v61 := Try.zeroValue80
  t67 := Try.underlying87
  a67 := Try.isAgg87
  z67 := Try.sizeOf87
  v67 := Try.zeroValue87
  t69 := Try.underlying89
  a69 := Try.isAgg89
  z69 := Try.sizeOf89
  v69 := Try.zeroValue89
  t75 := Try.underlying93
  a75 := Try.isAgg93
  z75 := Try.sizeOf93
  v75 := Try.zeroValue93
  t79 := Try.underlying97
  a79 := Try.isAgg97
  z79 := Try.sizeOf97
  v79 := Try.zeroValue97
  t83 := Try.underlying100
  a83 := Try.isAgg100
  z83 := Try.sizeOf100
  v83 := Try.zeroValue100
  t84 := Try.underlying71
  a84 := Try.isAgg71
  z84 := Try.sizeOf71
  v84 := Try.zeroValue71 }
theorem lays44 : SlLaysN.n44 Try.prog renS54 := {
  mixed := by kernel_rfl
  f44 := ⟨Try.f27.name, by decide, Try.func27.trans (congrArg some (by kernel_rfl))⟩
  t0 := Try.underlying0
  a0 := Try.isAgg0
  z0 := Try.sizeOf0
  v0 := Try.zeroValue0
  t3 := Try.underlying3
  a3 := Try.isAgg3
  z3 := Try.sizeOf3
  v3 := Try.zeroValue3
  t4 := Try.underlying4
  a4 := Try.isAgg4
  z4 := Try.sizeOf4
  v4 := Try.zeroValue4
  t25 := Try.underlying35
  a25 := Try.isAgg35
  z25 := Try.sizeOf35
  v25 := Try.zeroValue35
  t26 := Try.underlying9
  a26 := Try.isAgg9
  z26 := Try.sizeOf9
  v26 := Try.zeroValue9
  i26 := by kernel_rfl }
theorem d0 : DOk Go.Proofs.Try.prog tab D0 := d00 meth_ok
end Go.Proofs.Ytabdjbkbfilhkaa.V
