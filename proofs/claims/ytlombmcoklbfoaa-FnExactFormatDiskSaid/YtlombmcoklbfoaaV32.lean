import Derived.Test.YtlombmcoklbfoaaV31
namespace Go.Proofs.Ytlombmcoklbfoaa.V
open Go

def wr (L : Nat) (F O : Nat → List TC) (vis : Nat → Bool) : List (List TC) := (List.range L).map fun p => bif vis p then F p else O p
theorem wr_len {L : Nat} {F O : Nat → List TC} {vis : Nat → Bool} : (wr L F O vis).length = L := by simp [wr]
theorem wr_at {L : Nat} {F O : Nat → List TC} {vis : Nat → Bool} {p : Nat} (h : p < L) : (wr L F O vis).getD p [] = bif vis p then F p else O p := by
  rw [getD_at (by rw [wr_len]; exact h)]
  simp [wr]
theorem wr_step {L p0 : Nat} {F O : Nat → List TC} {vis vis' : Nat → Bool} (h0 : p0 < L) (hF : ∀ p, (F p).length = 1) (hO : ∀ p, (O p).length = 1) (hv : ∀ p, p < L → vis' p = (vis p || p == p0)) :
    (wr L F O vis).set p0 (splice ((wr L F O vis).getD p0 []) 0 (F p0)) = wr L F O vis' := by
  have h1 : splice ((wr L F O vis).getD p0 []) 0 (F p0) = F p0 := splice_whole (by
    rw [wr_at h0, hF]
    cases vis p0 <;> simp [hF, hO])
  rw [h1]
  refine List.ext_getElem (by simp [wr_len]) fun i hi hi' => ?_
  have hL : i < L := by simpa [wr_len] using hi
  rw [List.getElem_set]
  simp only [wr, List.getElem_map, List.getElem_range]
  rw [hv i hL]
  by_cases hp : p0 = i
  · subst hp; simp
  · have : (i == p0) = false := by simp; omega
    rw [if_neg hp, this, Bool.or_false]
end Go.Proofs.Ytlombmcoklbfoaa.V
