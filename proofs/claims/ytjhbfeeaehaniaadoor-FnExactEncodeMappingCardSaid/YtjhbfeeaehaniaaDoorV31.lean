import Derived.Test.YtjhbfeeaehaniaaDoorV30
namespace Go.Proofs.YtjhbfeeaehaniaaDoor.V
open Go

theorem andT {a b : Bool} (h : a = true) (h' : b = true) : (a && b) = true := by rw [h, h']; rfl
theorem bifT {c a b : Bool} (h : c = true → a = true) (h' : c = false → b = true) : (bif c then a else b) = true := by
  cases c with
  | true => exact h rfl
  | false => exact h' rfl
theorem notF {b : Bool} (h : (!b) = false) : b = true := by cases b; cases h; rfl
theorem nth0 {a : TC} {l : List TC} : nth (a :: l) 0 = a := rfl
theorem nth1 {a b : TC} {l : List TC} : nth (a :: b :: l) 1 = b := rfl
theorem nth2 {a b c : TC} {l : List TC} : nth (a :: b :: c :: l) 2 = c := rfl
theorem nth3 {a b c d : TC} {l : List TC} : nth (a :: b :: c :: d :: l) 3 = d := rfl
theorem nth4 {a b c d e : TC} {l : List TC} : nth (a :: b :: c :: d :: e :: l) 4 = e := rfl
theorem nth5 {a b c d e f : TC} {l : List TC} : nth (a :: b :: c :: d :: e :: f :: l) 5 = f := rfl
theorem int_i {n : Int} : (TC.i n).int = n := rfl
theorem bool_b {b : Bool} : (TC.b b).bool = b := rfl
theorem str_s {l : List UInt8} : (TC.s l).str = l := rfl
theorem list_l {l : List (List TC)} : (TC.l l).list = l := rfl
theorem cells_p {l : List TC} : (TC.p l).cells = l := rfl
end Go.Proofs.YtjhbfeeaehaniaaDoor.V
