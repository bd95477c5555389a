/- The tables are right for this translation. No condition. -/
import Derived.Test.YtdcafhfnkblfkaaVTab
import Derived.Test.YtdcafhfnkblfkaaV43
import Derived.KernelRfl
import Derived.Shelf.Strings.Repeat
namespace Go.Proofs.Ytdcafhfnkblfkaa.V
open Go Go.Proofs Go.Shelf
theorem tab_ok : TabOk Go.Proofs.Try.prog tab := checkAll_ok (l := tabL) (m := methL) (by kernel_rfl)
theorem names_ok : NamesOk Go.Proofs.Try.prog := checkNames_ok (by kernel_rfl)
theorem mixed_ok : Go.Proofs.Try.prog.follows .mixedOrders = true := by kernel_rfl
theorem laid_ok : laidOutB Go.Proofs.Try.prog = true := by kernel_rfl
def ren0 : Go.Shelf.Ren := ⟨fun n => bif Nat.beq n 99 then 125 else bif Nat.beq n 105 then 96 else bif Nat.beq n 165 then 126 else bif Nat.beq n 166 then 127 else bif Nat.beq n 169 then 129 else bif Nat.beq n 170 then 128 else bif Nat.beq n 206 then 147 else bif Nat.beq n 212 then 124 else bif Nat.beq n 240 then 148 else bif Nat.beq n 241 then 149 else bif Nat.beq n 263 then 145 else bif Nat.beq n 264 then 146 else bif Nat.beq n 276 then 152 else bif Nat.beq n 277 then 153 else 0, fun n => bif Nat.beq n 0 then 0 else bif Nat.beq n 3 then 3 else bif Nat.beq n 4 then 4 else bif Nat.beq n 5 then 5 else bif Nat.beq n 9 then 9 else bif Nat.beq n 20 then 20 else bif Nat.beq n 37 then 93 else bif Nat.beq n 46 then 100 else bif Nat.beq n 51 then 126 else bif Nat.beq n 53 then 88 else bif Nat.beq n 70 then 108 else bif Nat.beq n 72 then 110 else bif Nat.beq n 75 then 113 else bif Nat.beq n 76 then 114 else bif Nat.beq n 80 then 59 else bif Nat.beq n 109 then 105 else bif Nat.beq n 127 then 131 else bif Nat.beq n 146 then 127 else bif Nat.beq n 148 then 129 else bif Nat.beq n 164 then 133 else 0, fun _ => 0⟩
theorem lays166 : Lays.n166 Try.prog ren0 := {
  mixed := by kernel_rfl
  f166 := Try.func127.trans (congrArg some (by kernel_rfl))
  f240 := Try.func148.trans (congrArg some (by kernel_rfl))
  f276 := Try.func152.trans (congrArg some (by kernel_rfl))
  t0 := Try.underlying0
  a0 := Try.isAgg0
  z0 := Try.sizeOf0
  v0 := Try.zeroValue0
  t3 := Try.underlying3
  a3 := Try.isAgg3
  z3 := Try.sizeOf3
  v3 := Try.zeroValue3
  t4 := Try.underlying4
  a4 := Try.isAgg4
  z4 := Try.sizeOf4
  v4 := Try.zeroValue4
  t9 := Try.underlying9
  a9 := Try.isAgg9
  z9 := Try.sizeOf9
  v9 := Try.zeroValue9
  t20 := Try.underlying20
  a20 := Try.isAgg20
  z20 := Try.sizeOf20
  v20 := Try.zeroValue20
  t37 := Try.underlying93
  a37 := Try.isAgg93
  z37 := Try.sizeOf93
  v37 := Try.zeroValue93
  t70 := Try.underlying108
  a70 := Try.isAgg108
  z70 := Try.sizeOf108
  v70 := Try.zeroValue108
  t72 := Try.underlying110
  a72 := Try.isAgg110
  z72 := Try.sizeOf110
  v72 := Try.zeroValue110
  t75 := Try.underlying113
  a75 := Try.isAgg113
  z75 := Try.sizeOf113
  v75 := Try.zeroValue113
  t164 := Try.underlying133
  a164 := Try.isAgg133
  z164 := Try.sizeOf133
  v164 := Try.zeroValue133 }
theorem lays169 : Lays.n169 Try.prog ren0 := {
  mixed := by kernel_rfl
  f169 := Try.func129.trans (congrArg some (by kernel_rfl))
  t0 := Try.underlying0
  a0 := Try.isAgg0
  z0 := Try.sizeOf0
  v0 := Try.zeroValue0
  t3 := Try.underlying3
  a3 := Try.isAgg3
  z3 := Try.sizeOf3
  v3 := Try.zeroValue3
  t9 := Try.underlying9
  a9 := Try.isAgg9
  z9 := Try.sizeOf9
  v9 := Try.zeroValue9
  t37 := Try.underlying93
  a37 := Try.isAgg93
  z37 := Try.sizeOf93
  v37 := Try.zeroValue93
  t70 := Try.underlying108
  a70 := Try.isAgg108
  z70 := Try.sizeOf108
  v70 := Try.zeroValue108
  t72 := Try.underlying110
  a72 := Try.isAgg110
  z72 := Try.sizeOf110
  v72 := Try.zeroValue110
  t127 := Try.underlying131
  a127 := Try.isAgg131
  z127 := Try.sizeOf131
  v127 := Try.zeroValue131 }
theorem lays170 : Lays.n170 Try.prog ren0 := {
  mixed := by kernel_rfl
  f170 := Try.func128.trans (congrArg some (by kernel_rfl))
  t0 := Try.underlying0
  a0 := Try.isAgg0
  z0 := Try.sizeOf0
  v0 := Try.zeroValue0
  t3 := Try.underlying3
  a3 := Try.isAgg3
  z3 := Try.sizeOf3
  v3 := Try.zeroValue3
  t37 := Try.underlying93
  a37 := Try.isAgg93
  z37 := Try.sizeOf93
  v37 := Try.zeroValue93
  t70 := Try.underlying108
  a70 := Try.isAgg108
  z70 := Try.sizeOf108
  v70 := Try.zeroValue108
  t72 := Try.underlying110
  a72 := Try.isAgg110
  z72 := Try.sizeOf110
  v72 := Try.zeroValue110 }
theorem extra : Builder.Extra Try.prog ren0 := {
  sizeBuilder := by kernel_rfl
  liesBuilder := by kernel_rfl
  t5 := Try.underlying5
  a5 := Try.isAgg5
  z5 := Try.sizeOf5
  v5 := Try.zeroValue5
  infoByte := by kernel_rfl
  cellsByte := by kernel_rfl
  sizeByte := by kernel_rfl
  neB5 := by decide }
theorem meth_ok : MethOk Go.Proofs.Try.prog tab := methOk_bld (ρ := ren0) names_ok tab_ok extra (by kernel_rfl) (by kernel_rfl) (by kernel_rfl) (bldOnly_ok (by kernel_rfl)) (.inr ⟨lays166, meth_one (by kernel_rfl)⟩) (.inr ⟨lays169, meth_one (by kernel_rfl)⟩) (.inr ⟨lays170, meth_one (by kernel_rfl)⟩) (info_zero (by kernel_rfl))
theorem d0 : DOk Go.Proofs.Try.prog tab D0 := d00 meth_ok
end Go.Proofs.Ytdcafhfnkblfkaa.V
