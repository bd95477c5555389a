import Derived.Test.YtlombmcoklbfoaaV29
namespace Go.Proofs.Ytlombmcoklbfoaa.V
open Go

namespace Tr
variable {ρ : Type}
theorem b {P : Bool} {d : Decidable ((!P) = true)} {u v : Tr ρ} {x y : Option ρ} (h : P = true → v.val = x) (h' : P = false → u.val = y) : (Tr.br ((!P) = true) d u v).val = if P = true then x else y := by
  rw [val_br]
  by_cases hP : P = true
  · rw [if_neg (by simp [hP]), if_pos hP, h hP]
  · rw [if_pos (by simp [hP]), if_neg hP, h' (by simpa using hP)]
theorem b2 {Q : Bool} {d : Decidable (Q = true)} {u v : Tr ρ} {x y : Option ρ} (h : Q = false → v.val = x) (h' : Q = true → u.val = y) : (Tr.br (Q = true) d u v).val = if (!Q) = true then x else y := by
  rw [val_br]
  by_cases hP : Q = true
  · rw [if_pos hP, if_neg (by simp [hP]), h' hP]
  · rw [if_neg hP, if_pos (by simp [hP]), h (by simpa using hP)]
theorem gs {g : Prop} {d : Decidable g} {c : Bool} {a : Tr ρ} {x : ρ} (h : (is g && c) = true) (ha : c = true → a.val = some x) : (Tr.br g d a .no).val = some x := by
  simp only [Bool.and_eq_true, is_iff] at h
  exact Tr.t h.1 (ha h.2)
theorem gb {g : Bool} {d : Decidable (g = true)} {c : Bool} {a : Tr ρ} {x : ρ} (h : (g && c) = true) (ha : c = true → a.val = some x) : (Tr.br (g = true) d a .no).val = some x := by
  simp only [Bool.and_eq_true] at h
  exact Tr.t h.1 (ha h.2)
theorem ss {q c1 c2 : Bool} {d : Decidable (q = true)} {a b : Tr ρ} {x y : ρ} (h : (bif q then c1 else c2) = true) (ha : c1 = true → a.val = some x) (hb : c2 = true → b.val = some y) : (Tr.br (q = true) d a b).val = some (bif q then x else y) := by
  cases q with
  | true => exact Tr.t rfl (ha h)
  | false => exact Tr.n (by simp) (hb h)
end Tr

end Go.Proofs.Ytlombmcoklbfoaa.V
