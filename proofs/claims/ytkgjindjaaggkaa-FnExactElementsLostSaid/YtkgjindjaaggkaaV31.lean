import Derived.Test.YtkgjindjaaggkaaV30
namespace Go.Proofs.Ytkgjindjaaggkaa.V
open Go

theorem andT {a b : Bool} (h : a = true) (h' : b = true) : (a && b) = true := by rw [h, h']; rfl
theorem bifT {c a b : Bool} (h : c = true → a = true) (h' : c = false → b = true) : (bif c then a else b) = true := by
  cases c with
  | true => exact h rfl
  | false => exact h' rfl
theorem notF {b : Bool} (h : (!b) = false) : b = true := by cases b; cases h; rfl
theorem wrap_wf (n : Int) : (Lit.int .i64 (IntKind.wrap .i64 n)).wf = true := by
  have h : -9223372036854775808 ≤ IntKind.wrap .i64 n ∧ IntKind.wrap .i64 n ≤ 9223372036854775807 := by rw [IntKind.wrap_i64]; omega
  simp only [Lit.wf, Bool.and_eq_true, decide_eq_true_eq]
  exact h
end Go.Proofs.Ytkgjindjaaggkaa.V
