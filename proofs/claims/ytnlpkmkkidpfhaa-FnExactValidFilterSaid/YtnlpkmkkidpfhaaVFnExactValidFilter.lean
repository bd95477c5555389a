/- What FnExactValidFilter's functions answer. No condition. -/
import Derived.Test.YtnlpkmkkidpfhaaVFacts
namespace Go.Proofs.Ytnlpkmkkidpfhaa.ValidFilter
open Go Go.Proofs.Ytnlpkmkkidpfhaa.V
set_option maxRecDepth 100000
def bo (b : Bool) : Option Res := some [(false, [⟨.bool, .sh, .b b⟩])]
noncomputable abbrev rF (D : FuncId → List Arg → Option Res) (f : FuncId) (xs : List Arg) : Option Res := runF tab FT D live f noLoops xs
def D0 : FuncId → List Arg → Option Res := fun _ _ => .none
def i1 (n : Int) : Arg := (false, [(.int .i64, .i n)])
def fil (_ : Nat) (k p : Int) (o : Bool) : Arg := (true, [(.int .i64, .i k), (.int .i64, .i p), (.bool, .b o)])
theorem bo_if (c x y : Bool) : (if c = true then bo x else bo y) = bo (if c = true then x else y) := by cases c <;> rfl
/-- ranges -/
def S56 : List Arg → Option Res
  | [(false, [(.int .i64, .i n)]), (false, [(.int .i64, .i lo)]), (false, [(.int .i64, .i hi)])] => bo (decide (n ≥ lo) && decide (n ≤ hi))
  | _ => .none
theorem e56 (n lo hi : Int) : rF D0 56 [i1 n, i1 lo, i1 hi] = if decide (n ≥ lo) = true then bo (decide (n ≤ hi)) else bo false := by kernel_rfl
theorem s56 : ∀ xs r, S56 xs = some r → rF D0 56 xs = some r := by
  intro xs r h
  unfold S56 at h
  split at h
  · rename_i n lo hi
    rw [← h]
    refine (e56 n lo hi).trans ?_
    cases decide (n ≥ lo) <;> rfl
  · cases h
def D1 := ext D0 56 S56
theorem e58 (n lo hi : Int) : rF D1 58 [i1 n, i1 lo, i1 hi] = if decide (n ≥ lo) = true then bo (decide (n ≤ hi)) else bo false := by kernel_rfl
theorem s58 : ∀ xs r, S56 xs = some r → rF D1 58 xs = some r := by
  intro xs r h
  unfold S56 at h
  split at h
  · rename_i n lo hi
    rw [← h]
    refine (e58 n lo hi).trans ?_
    cases decide (n ≥ lo) <;> rfl
  · cases h
def D2 := ext D1 58 S56
def S57 : List Arg → Option Res
  | [(false, [(.int .i64, .i n)])] => bo (n == 1 || n == 2 || n == 4)
  | _ => .none
theorem e57 (n : Int) : rF D2 57 [i1 n] = if (n == 1) = true then bo true else if (n == 2) = true then bo true else bo (n == 4) := by kernel_rfl
theorem s57 : ∀ xs r, S57 xs = some r → rF D2 57 xs = some r := by
  intro xs r h
  unfold S57 at h
  split at h
  · rename_i n
    rw [← h]
    refine (e57 n).trans ?_
    cases n == 1 <;> cases n == 2 <;> rfl
  · cases h
def D3 := ext D2 57 S57
def sem (k p : Int) (o : Bool) : Bool :=
  if k == 1 then (decide (p ≥ 1) && decide (p ≤ 24)) && !o
  else if k == 2 then (p == 1 || p == 2 || p == 4) && !o
  else if k == 3 then p == 0 else if k == 4 then p == 0 else k == 5 && p == 0 && !o
theorem e19 (k p : Int) (o : Bool) : rF D3 19 [fil 27 k p o] =
   if (k == 1) = true then (if (decide (p ≥ 1) && decide (p ≤ 24)) = true then bo (!o) else bo false)
   else if (k == 2) = true then (if (p == 1 || p == 2 || p == 4) = true then bo (!o) else bo false)
   else if (k == 3) = true then bo (p == 0) else if (k == 4) = true then bo (p == 0)
   else if (k == 5) = true then (if (p == 0) = true then bo (!o) else bo false) else bo false := by kernel_rfl
def S19 : List Arg → Option Res
  | [(true, [(.int .i64, .i k), (.int .i64, .i p), (.bool, .b o)])] => bo (sem k p o)
  | _ => .none
theorem s19 : ∀ xs r, S19 xs = some r → rF D3 19 xs = some r := by
  intro xs r h
  unfold S19 at h
  split at h
  · rename_i k p o
    rw [← h]
    refine (e19 k p o).trans ?_
    simp only [bo_if]
    refine congrArg bo ?_
    unfold sem
    generalize (k == 1) = a1, (k == 2) = a2, (k == 3) = a3, (k == 4) = a4, (k == 5) = a5, (decide (p ≥ 1) && decide (p ≤ 24)) = q, (p == 1 || p == 2 || p == 4) = r, (p == 0) = z
    clear h
    revert a1 a2 a3 a4 a5 q r z o
    decide
  · cases h
def D4 := ext D3 19 S19
theorem e55 (k p : Int) (o : Bool) : rF D4 55 [fil 27 k p o] =
   if (k == 1) = true then (if (decide (p ≥ 1) && decide (p ≤ 24)) = true then bo (!o) else bo false)
   else if (k == 2) = true then (if (p == 1) = true then bo (!o) else if (p == 2) = true then bo (!o) else if (p == 4) = true then bo (!o) else bo false)
   else if (k == 3) = true then bo (p == 0) else if (k == 4) = true then bo (p == 0)
   else if (k == 5) = true then (if (p == 0) = true then bo (!o) else bo false) else bo false := by kernel_rfl

theorem s55 : ∀ xs r, S19 xs = some r → rF D4 55 xs = some r := by
  intro xs r h
  unfold S19 at h
  split at h
  · rename_i k p o
    rw [← h]
    refine (e55 k p o).trans ?_
    simp only [bo_if]
    refine congrArg bo ?_
    unfold sem
    generalize (k == 1) = a1, (k == 2) = a2, (k == 3) = a3, (k == 4) = a4, (k == 5) = a5, (decide (p ≥ 1) && decide (p ≤ 24)) = q, (p == 1) = p1, (p == 2) = p2, (p == 4) = p4, (p == 0) = z
    clear h
    revert a1 a2 a3 a4 a5 q p1 p2 p4 z o
    decide
  · cases h
def D5 := ext D4 55 S19
theorem e17 (k p : Int) (o : Bool) : rF D5 17 [fil 27 k p o] = bo (sem k p o) := by kernel_rfl
theorem s17 : ∀ xs r, S19 xs = some r → rF D5 17 xs = some r := by
  intro xs r h
  unfold S19 at h
  split at h
  · rename_i k p o
    rw [← h]
    exact e17 k p o
  · cases h
def D6 := ext D5 17 S19
def S18 : List Arg → Option Res
  | [(true, [(.int .i64, .i k), (.int .i64, .i p), (.bool, .b o)])] => some [(true, [⟨.int .i64, .sh, .i k⟩, ⟨.int .i64, .sh, .i p⟩, ⟨.bool, .sh, .b o⟩])]
  | _ => .none
theorem e18 (k p : Int) (o : Bool) : rF D6 18 [fil 25 k p o] = some [(true, [⟨.int .i64, .sh, .i k⟩, ⟨.int .i64, .sh, .i p⟩, ⟨.bool, .sh, .b o⟩])] := by kernel_rfl
theorem s18 : ∀ xs r, S18 xs = some r → rF D6 18 xs = some r := by
  intro xs r h
  unfold S18 at h
  split at h
  · rename_i k p o
    rw [← h]
    exact e18 k p o
  · cases h
def D7 := ext D6 18 S18
theorem e4 (k p : Int) (o : Bool) : rF D7 4 [fil 25 k p o] = if (!(sem k p o == sem k p o)) = true then bo false else bo true := by kernel_rfl
theorem pure4 : ∀ xs, ArgsTyped tab [25] xs → rF D7 4 xs = yes := by
  intro xs h
  cases h with
  | cons h1 h2 h3 =>
    cases h3
    rename_i trees
    have h1 : trees.length = 3 := h1
    match trees, h1 with
    | [a, b, c], _ =>
      have q0 : Typed tab (.int .i64) a := h2 0 (by decide)
      have q1 : Typed tab (.int .i64) b := h2 1 (by decide)
      have q2 : Typed tab .bool c := h2 2 (by decide)
      cases q0 with
      | int _ k hk =>
        cases q1 with
        | int _ p hp =>
          cases q2 with
          | bool o =>
            refine (e4 k p o).trans ?_
            rw [if_neg (by simp)]
            rfl
theorem d7 : DOk Go.Proofs.Try.prog tab D7 :=
  .ext mixed_ok tab_ok names_ok (.ext mixed_ok tab_ok names_ok (.ext mixed_ok tab_ok names_ok (.ext mixed_ok tab_ok names_ok (.ext mixed_ok tab_ok names_ok (.ext mixed_ok tab_ok names_ok (.ext mixed_ok tab_ok names_ok .nil noLoops_ok s56) noLoops_ok s58) noLoops_ok s57) noLoops_ok s19) noLoops_ok s55) noLoops_ok s17) noLoops_ok s18
end Go.Proofs.Ytnlpkmkkidpfhaa.ValidFilter
