import Derived.Test.YtdcafhfnkblfkaaV31
namespace Go.Proofs.Ytdcafhfnkblfkaa.V
open Go

def bcell (s : List UInt8) (p : Nat) : List TC := [.i ((s.getD p 0).toNat : Int)]

def matL (N2 : Nat) (f : Nat → Nat → List TC) (m : Nat) : List (List TC) := (List.range m).map fun p => f (p / N2) (p % N2)
theorem divmod {a b N : Nat} (h : b < N) : (a * N + b) / N = a ∧ (a * N + b) % N = b := by
  constructor
  · rw [Nat.add_comm, Nat.add_mul_div_right _ _ (by omega), Nat.div_eq_of_lt h, Nat.zero_add]
  · rw [Nat.add_comm, Nat.add_mul_mod_self_right, Nat.mod_eq_of_lt h]
theorem matL_succ {N2 a b : Nat} {f : Nat → Nat → List TC} (h : b < N2) : matL N2 f (a * N2 + b) ++ [f a b] = matL N2 f (a * N2 + (b + 1)) := by
  unfold matL
  rw [← Nat.add_assoc, List.range_succ, List.map_append, List.map_singleton, (divmod h).1, (divmod h).2]
theorem matL_len {N2 m : Nat} {f : Nat → Nat → List TC} : (matL N2 f m).length = m := by simp [matL]

theorem idx64 {a b c : Nat} (h : a * b + c ≤ 140737488355328) : IntKind.wrap .i64 ((IntKind.wrap .i64 ((a : Int) * (b : Int))) + (c : Int)) = ((a * b + c : Nat) : Int) := by
  have e : (a : Int) * (b : Int) = ((a * b : Nat) : Int) := (Int.natCast_mul a b).symm
  rw [e, wrap64 (i := ((a * b : Nat) : Int)) (by omega) (by omega), wrap64 (by omega) (by omega)]
  rfl
theorem mul64 {a b : Nat} (h : a * b ≤ 140737488355328) : IntKind.wrap .i64 ((a : Int) * (b : Int)) = ((a * b : Nat) : Int) := by
  have e : (a : Int) * (b : Int) = ((a * b : Nat) : Int) := (Int.natCast_mul a b).symm
  rw [e, wrap64 (by omega) (by omega)]

def wr (L : Nat) (F O : Nat → List TC) (vis : Nat → Bool) : List (List TC) := (List.range L).map fun p => bif vis p then F p else O p
theorem wr_len {L : Nat} {F O : Nat → List TC} {vis : Nat → Bool} : (wr L F O vis).length = L := by simp [wr]
theorem wr_at {L : Nat} {F O : Nat → List TC} {vis : Nat → Bool} {p : Nat} (h : p < L) : (wr L F O vis).getD p [] = bif vis p then F p else O p := by
  rw [getD_at (by rw [wr_len]; exact h)]
  simp [wr]
theorem wr_step {L p0 : Nat} {F O : Nat → List TC} {vis vis' : Nat → Bool} (h0 : p0 < L) (hF : ∀ p, (F p).length = 1) (hO : ∀ p, (O p).length = 1) (hv : ∀ p, p < L → vis' p = (vis p || p == p0)) :
    (wr L F O vis).set p0 (splice ((wr L F O vis).getD p0 []) 0 (F p0)) = wr L F O vis' := by
  have h1 : splice ((wr L F O vis).getD p0 []) 0 (F p0) = F p0 := splice_whole (by
    rw [wr_at h0, hF]
    cases vis p0 <;> simp [hF, hO])
  rw [h1]
  refine List.ext_getElem (by simp [wr_len]) fun i hi hi' => ?_
  have hL : i < L := by simpa [wr_len] using hi
  rw [List.getElem_set]
  simp only [wr, List.getElem_map, List.getElem_range]
  rw [hv i hL]
  by_cases hp : p0 = i
  · subst hp; simp
  · have : (i == p0) = false := by simp; omega
    rw [if_neg hp, this, Bool.or_false]
theorem wr_congr {L : Nat} {F O : Nat → List TC} {vis vis' : Nat → Bool} (hv : ∀ p, p < L → vis' p = vis p) : wr L F O vis' = wr L F O vis := by
  unfold wr
  refine List.map_congr_left fun p hp => ?_
  rw [hv p (by simpa using hp)]
theorem wr_none {s : List UInt8} {F : Nat → List TC} : bytesRow s = wr s.length F (bcell s) (fun _ => false) := by
  refine List.ext_getElem (by simp [wr_len, bytesRow]) fun i hi hi' => ?_
  have hL : i < s.length := by simpa [wr_len] using hi'
  simp only [wr, bytesRow, List.getElem_map, List.getElem_range, cond_false, bcell]
  rw [getD_at hL]
theorem wr_all {s : List UInt8} {N1 N2 : Nat} {f : Nat → Nat → List TC} (h : N1 * N2 ≤ s.length) :
    wr s.length (fun p => f (p / N2) (p % N2)) (bcell s) (fun p => decide (p < N1 * N2)) = matL N2 f (N1 * N2) ++ bytesRow (s.drop (N1 * N2)) := by
  refine List.ext_getElem (by simp [wr_len, matL_len, bytesRow]; omega) fun i hi hi' => ?_
  have hL : i < s.length := by simpa [wr_len] using hi
  simp only [wr, List.getElem_map, List.getElem_range]
  by_cases hp : i < N1 * N2
  · rw [List.getElem_append_left (by rw [matL_len]; exact hp)]
    simp [matL, hp]
  · rw [List.getElem_append_right (by rw [matL_len]; omega)]
    simp only [hp, decide_false, cond_false, matL_len, bytesRow, List.getElem_map, List.getElem_drop, bcell]
    rw [getD_at hL]
    have e : N1 * N2 + (i - N1 * N2) = i := by omega
    simp only [e]
def fF (s : List UInt8) (wn nn p : Nat) : List TC := bcell s ((p % nn) * wn + p / nn)
def fB (s : List UInt8) (wn nn p : Nat) : List TC := bcell s ((p % wn) * nn + p / wn)
def visF (wn nn i k p : Nat) : Bool := decide (p < nn * wn) && (decide (p % nn < i) || (p % nn == i && decide (p / nn < k)))
def visB (wn i k p : Nat) : Bool := decide (p < i * wn + k)
theorem visF_step {wn nn i k p : Nat} (hi : i < nn) (hk : k < wn) : visF wn nn i (k + 1) p = (visF wn nn i k p || p == k * nn + i) := by
  have hm : k * nn + i < nn * wn := by
    have h2 : (k + 1) * nn ≤ wn * nn := Nat.mul_le_mul_right _ hk
    have h3 : (k + 1) * nn = k * nn + nn := Nat.succ_mul _ _
    have h4 : wn * nn = nn * wn := Nat.mul_comm _ _
    omega
  rw [Bool.eq_iff_iff]
  simp only [visF, Bool.and_eq_true, Bool.or_eq_true, decide_eq_true_eq, beq_iff_eq]
  constructor
  · rintro ⟨h1, h2 | ⟨h2, h3⟩⟩
    · exact .inl ⟨h1, .inl h2⟩
    · rcases Nat.lt_or_ge (p / nn) k with h4 | h4
      · exact .inl ⟨h1, .inr ⟨h2, h4⟩⟩
      · refine .inr ?_
        have h5 : p / nn = k := by omega
        rw [← h5, ← h2, Nat.mul_comm]
        exact (Nat.div_add_mod p nn).symm
  · rintro (⟨h1, h2 | ⟨h2, h3⟩⟩ | h1)
    · exact ⟨h1, .inl h2⟩
    · exact ⟨h1, .inr ⟨h2, by omega⟩⟩
    · subst h1
      refine ⟨hm, .inr ⟨(divmod hi).2, ?_⟩⟩
      rw [(divmod hi).1]
      omega
theorem visF_next {wn nn i p : Nat} : visF wn nn i wn p = visF wn nn (i + 1) 0 p := by
  rw [Bool.eq_iff_iff]
  simp only [visF, Bool.and_eq_true, Bool.or_eq_true, decide_eq_true_eq, beq_iff_eq]
  constructor
  · rintro ⟨h1, h2 | ⟨h2, h3⟩⟩
    · exact ⟨h1, .inl (by omega)⟩
    · exact ⟨h1, .inl (by omega)⟩
  · rintro ⟨h1, h2 | ⟨h2, h3⟩⟩
    · refine ⟨h1, ?_⟩
      rcases Nat.lt_or_ge (p % nn) i with h4 | h4
      · exact .inl h4
      · exact .inr ⟨by omega, Nat.div_lt_of_lt_mul h1⟩
    · exact absurd h3 (Nat.not_lt_zero _)
theorem visF_zero {wn nn p : Nat} : visF wn nn 0 0 p = false := by simp [visF]
theorem visF_all {wn nn p : Nat} : visF wn nn nn 0 p = decide (p < nn * wn) := by
  rw [Bool.eq_iff_iff]
  simp only [visF, Bool.and_eq_true, Bool.or_eq_true, decide_eq_true_eq, beq_iff_eq]
  constructor
  · exact fun h => h.1
  · intro h
    refine ⟨h, .inl (Nat.mod_lt _ ?_)⟩
    rcases Nat.eq_zero_or_pos nn with h0 | h0
    · subst h0; simp at h
    · exact h0
theorem visB_step {wn i k p : Nat} : visB wn i (k + 1) p = (visB wn i k p || p == i * wn + k) := by
  rw [Bool.eq_iff_iff]
  simp only [visB, Bool.or_eq_true, decide_eq_true_eq, beq_iff_eq]
  omega
theorem visB_next {wn i p : Nat} : visB wn i wn p = visB wn (i + 1) 0 p := by
  unfold visB
  rw [Nat.succ_mul, Nat.add_zero]
theorem visB_zero {wn p : Nat} : visB wn 0 0 p = false := by simp [visB]
def shufF (s : List UInt8) (wn : Nat) : List UInt8 := (matL (s.length / wn) (fun a b => bcell s (b * wn + a)) (wn * (s.length / wn)) ++ bytesRow (s.drop (s.length / wn * wn))).map byteOf
def unshufF (s : List UInt8) (wn : Nat) : List UInt8 := (matL wn (fun a b => bcell s (b * (s.length / wn) + a)) (s.length / wn * wn) ++ bytesRow (s.drop (s.length / wn * wn))).map byteOf
theorem shufF_wr {s : List UInt8} {wn : Nat} : (wr s.length (fF s wn (s.length / wn)) (bcell s) (visF wn (s.length / wn) (s.length / wn) 0)).map byteOf = shufF s wn := by
  unfold shufF
  have hm : wn * (s.length / wn) = s.length / wn * wn := Nat.mul_comm _ _
  rw [wr_congr (vis' := visF wn (s.length / wn) (s.length / wn) 0) (vis := fun p => decide (p < wn * (s.length / wn))) (fun p _ => by rw [visF_all, hm])]
  rw [show fF s wn (s.length / wn) = (fun p => (fun a b => bcell s (b * wn + a)) (p / (s.length / wn)) (p % (s.length / wn))) from rfl]
  refine congrArg (List.map byteOf) ((wr_all (f := fun a b => bcell s (b * wn + a)) (N1 := wn) (N2 := s.length / wn) (by rw [hm]; exact Nat.div_mul_le_self _ _)).trans ?_)
  rw [hm]
theorem unshufF_wr {s : List UInt8} {wn : Nat} : (wr s.length (fB s wn (s.length / wn)) (bcell s) (visB wn (s.length / wn) 0)).map byteOf = unshufF s wn := by
  unfold unshufF
  rw [wr_congr (vis' := visB wn (s.length / wn) 0) (vis := fun p => decide (p < s.length / wn * wn)) (fun p _ => by rw [visB, Nat.add_zero])]
  rw [show fB s wn (s.length / wn) = (fun p => (fun a b => bcell s (b * (s.length / wn) + a)) (p / wn) (p % wn)) from rfl]
  exact congrArg (List.map byteOf) (wr_all (f := fun a b => bcell s (b * (s.length / wn) + a)) (N1 := s.length / wn) (N2 := wn) (Nat.div_mul_le_self _ _))
theorem tdiv64 {a b : Nat} (h : a ≤ 140737488355328) : IntKind.wrap .i64 (Int.tdiv (a : Int) (b : Int)) = ((a / b : Nat) : Int) := by
  have e : Int.tdiv (a : Int) (b : Int) = ((a / b : Nat) : Int) := (Int.ofNat_tdiv a b).symm
  have hq := Nat.div_le_self a b
  rw [e]
  generalize a / b = q at hq
  rw [wrap64 (by omega) (by omega)]
end Go.Proofs.Ytdcafhfnkblfkaa.V
