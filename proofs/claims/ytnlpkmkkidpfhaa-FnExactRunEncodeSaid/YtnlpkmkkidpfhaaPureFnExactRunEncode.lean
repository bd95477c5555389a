/- The program's RunEncode returns what the reference's RunEncode returns, for every string. No condition. -/
import Derived.Test.YtnlpkmkkidpfhaaPFnExactRunEncodex1
namespace Go.Proofs.Ytnlpkmkkidpfhaa.Pure
open Go.RowKit Go.Proofs.Ytnlpkmkkidpfhaa.PFnExactRunEncode Go.Proofs.YtnlpkmkkidpfhaaW.PrintWords Go.Proofs.YtnlpkmkkidpfhaaW.PrintLast

theorem run_same (k : Nat) : (∀ x o i, impl_runEncode.l0 k x o i = spec_l18Run.l0 k x o i) ∧
    (∀ x o i n, impl_runEncode.l1 k x o i n = spec_l18Run.l1 k x o i n) := by
  induction k with
  | zero => exact ⟨fun _ _ _ => rfl, fun _ _ _ _ => rfl⟩
  | succ k ih =>
    obtain ⟨h0, h1⟩ := ih
    refine ⟨fun x o i => ?_, fun x o i n => ?_⟩
    · simp only [impl_runEncode.l0, spec_l18Run.l0, h1]
    · simp only [impl_runEncode.l1, spec_l18Run.l1, h0, h1]
      by_cases a : n < 255 <;> by_cases b : wrap64 (i + n) < (x.size : Int) <;> simp only [a, b, if_true, if_false]

theorem run_ends (x : ByteArray) (hx : x.size ≤ 1100) (k : Nat) :
    (∀ o i, 0 ≤ i → i ≤ (x.size : Int) → (o.length : Int) ≤ 2 * i → 3 * ((x.size : Int) - i) + 1 ≤ k → ∃ r, spec_l18Run.l0 k x o i = some r) ∧
    (∀ o i n, 0 ≤ i → 1 ≤ n → i + n ≤ (x.size : Int) → (o.length : Int) ≤ 2 * i → 3 * ((x.size : Int) - i - n) + 2 ≤ k → ∃ r, spec_l18Run.l1 k x o i n = some r) := by
  induction k with
  | zero => exact ⟨fun _ _ _ _ _ h => by omega, fun _ _ _ _ _ _ _ h => by omega⟩
  | succ k ih =>
    obtain ⟨h0, h1⟩ := ih
    refine ⟨fun o i hi hs ho hk => ?_, fun o i n hi hn hs ho hk => ?_⟩
    · simp only [spec_l18Run.l0]
      by_cases a : i < (x.size : Int)
      · rw [if_pos a]; exact h1 o i 1 hi (by omega) (by omega) ho (by omega)
      · rw [if_neg a]; exact ⟨_, rfl⟩
    · have w1 : wrap64 (i + n) = i + n := by unfold wrap64; omega
      have w2 : wrap64 (n + 1) = n + 1 := by unfold wrap64; omega
      have c1 : i < (x.size : Int) := by omega
      have c2 : 0 ≤ i + n := by omega
      have tail : ∀ y : List Int, y.length = 2 → ∃ r, (if o.length + y.length < 140737488355328 then (spec_l18Run.l0 k x (o ++ y) (i + n)) else none) = some r := by
        intro y hy
        rw [if_pos (by omega)]
        exact h0 _ _ (by omega) (by omega) (by simp only [List.length_append, hy]; omega) (by omega)
      simp only [spec_l18Run.l1, w1, w2, c1, c2, hi, if_true, Option.bind_some]
      by_cases a : i + n < (x.size : Int)
      · simp only [a, if_true]
        by_cases b : n < 255
        · simp only [b, if_true]
          by_cases c : bt x (i + n) = bt x i
          · simp only [c, if_true]; exact h1 o i (n + 1) hi (by omega) (by omega) ho (by omega)
          · simp only [c, if_false]; exact tail _ rfl
        · simp only [b, if_false]; exact tail _ rfl
      · simp only [a, if_false]; exact tail _ rfl

theorem FnExactRunEncode : laws_FnExactRunEncode.Pure := by
  intro x hx
  by_cases big : (x.size : Int) > 1100
  · refine ⟨0, ?_⟩
    simp only [laws_FnExactRunEncode.f, spec_RunEncode.f, impl_RunEncode.f, big, if_true, Option.bind_some]
    by_cases h : (x.size : Int) > 1048576
    · rw [if_pos h]
    · rw [if_neg h]
  · refine ⟨3 * x.size + 1, ?_⟩
    obtain ⟨r, hr⟩ := (run_ends x (by omega) (3 * x.size + 1)).1 [] 0 (by omega) (by omega) (by simp) (by omega)
    have hs : spec_RunEncode.f (3 * x.size + 1) x = some r := by
      simp only [spec_RunEncode.f, big, if_false, spec_l18Run.f, hr, Option.bind_some]
    have hi : impl_RunEncode.f (3 * x.size + 1) x = some r := by
      simp only [impl_RunEncode.f, big, if_false, impl_runEncode.f, (run_same _).1, hr, Option.bind_some]
    simp only [laws_FnExactRunEncode.f, hs, hi, Option.bind_some, if_true]
    rw [if_neg (by omega)]

end Go.Proofs.Ytnlpkmkkidpfhaa.Pure
