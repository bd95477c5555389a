/- What the functions of FnExactLzEncode answer. No condition. -/
import Derived.Test.YtmaaolemlobjeaaVFacts
namespace Go.Proofs.Ytmaaolemlobjeaa.V
open Go
set_option maxRecDepth 100000
set_option linter.unusedVariables false
set_option linter.unusedSectionVars false
set_option linter.unusedSimpArgs false
set_option maxHeartbeats 2000000
def leN : List UInt8 → Nat
  | [] => 0
  | b :: l => b.toNat + 256 * leN l
theorem leN_lt : ∀ l : List UInt8, leN l < 256 ^ l.length
  | [] => by simp [leN]
  | b :: l => by
    have h := leN_lt l
    have hb := b.toNat_lt
    unfold leN
    rw [List.length_cons, Nat.pow_succ]
    omega
theorem leN_snoc : ∀ (l : List UInt8) (b : UInt8), leN (l ++ [b]) = leN l + b.toNat * 256 ^ l.length
  | [], b => by simp [leN]
  | c :: l, b => by
    rw [List.cons_append]
    unfold leN
    rw [leN_snoc l b, List.length_cons, Nat.pow_succ, Nat.mul_add, ← Nat.mul_assoc, Nat.mul_comm 256 b.toNat, Nat.mul_assoc, Nat.mul_comm 256 (256 ^ l.length)]
    omega
theorem or_hi {k a b : Nat} (h : a < 2 ^ k) : a ||| (b * 2 ^ k) = a + b * 2 ^ k := by
  have := Nat.shiftLeft_add_eq_or_of_lt h b
  rw [Nat.shiftLeft_eq] at this
  rw [Nat.or_comm, ← this, Nat.add_comm]
theorem bits_or_u64 {a c : Nat} (ha : a < 2 ^ 64) (hc : c < 2 ^ 64) : bits .u64 (fun a b => a ||| b) (a : Int) (c : Int) = ((a ||| c : Nat) : Int) := by
  have h1 : (BitVec.ofInt IntKind.u64.bits (a : Int) ||| BitVec.ofInt IntKind.u64.bits (c : Int)).toNat = a ||| c := by
    rw [BitVec.toNat_or, BitVec.ofInt_natCast, BitVec.ofInt_natCast, BitVec.toNat_ofNat, BitVec.toNat_ofNat, Nat.mod_eq_of_lt (show a < 2 ^ IntKind.u64.bits from ha), Nat.mod_eq_of_lt (show c < 2 ^ IntKind.u64.bits from hc)]
  unfold bits
  rw [h1, IntKind.wrap_u64]
  have : a ||| c < 2 ^ 64 := Nat.or_lt_two_pow ha hc
  omega
theorem bits_or_i64 {a c : Nat} (ha : a < 2 ^ 63) (hc : c < 2 ^ 63) : bits .i64 (fun a b => a ||| b) (a : Int) (c : Int) = ((a ||| c : Nat) : Int) := by
  have hp : (2 : Nat) ^ 63 < 2 ^ 64 := by decide
  have ha' : a < 2 ^ IntKind.i64.bits := Nat.lt_trans ha hp
  have hc' : c < 2 ^ IntKind.i64.bits := Nat.lt_trans hc hp
  have h1 : (BitVec.ofInt IntKind.i64.bits (a : Int) ||| BitVec.ofInt IntKind.i64.bits (c : Int)).toNat = a ||| c := by
    rw [BitVec.toNat_or, BitVec.ofInt_natCast, BitVec.ofInt_natCast, BitVec.toNat_ofNat, BitVec.toNat_ofNat, Nat.mod_eq_of_lt ha', Nat.mod_eq_of_lt hc']
  unfold bits
  rw [h1]
  have : a ||| c < 2 ^ 63 := Nat.or_lt_two_pow ha hc
  exact wrap64 (by omega) (by omega)
theorem pow8 (j : Nat) : 256 ^ j = 2 ^ (8 * j) := by rw [Nat.pow_mul]
theorem take_snoc {α : Type} [Inhabited α] {l : List α} {j : Nat} (h : j < l.length) (d : α) : l.take (j + 1) = l.take j ++ [l.getD j d] := by
  rw [List.take_add_one, List.getElem?_eq_getElem h, List.getD_eq_getElem?_getD, List.getElem?_eq_getElem h]; rfl
theorem getBits_step {s : List UInt8} {j : Nat} (h : j < s.length) (h8 : s.length ≤ 8) : bits .u64 (fun a b => a ||| b) ((leN (s.take j) : Nat) : Int) (IntKind.wrap .u64 ((IntKind.wrap .u64 ((s.getD (j : Int).toNat 0).toNat : Int)) * (2 ^ (min ((IntKind.wrap .i64 ((8 : Int) * (j : Int)))).toNat 64)))) = ((leN (s.take (j + 1)) : Nat) : Int) := by
  rw [wrap64 (i := (8 : Int) * (j : Int)) (by omega) (by omega), show ((8 : Int) * (j : Int)).toNat = 8 * j from by omega, Nat.min_eq_left (by omega), Int.toNat_natCast, take_snoc h 0, leN_snoc]
  have hl : (s.take j).length = j := by rw [List.length_take]; omega
  have ha := leN_lt (s.take j)
  rw [hl] at ha ⊢
  have hb := (s.getD j 0).toNat_lt
  have hp : (256 : Nat) ^ j ≤ 256 ^ 7 := Nat.pow_le_pow_right (by decide) (by omega)
  have hp7 : (256 : Nat) ^ 7 = 72057594037927936 := by decide
  have hm : (s.getD j 0).toNat * 256 ^ j ≤ 255 * 256 ^ j := Nat.mul_le_mul_right _ (by omega)
  have e2 : IntKind.wrap .u64 ((IntKind.wrap .u64 ((s.getD j 0).toNat : Int)) * (2 ^ (8 * j))) = (((s.getD j 0).toNat * 256 ^ j : Nat) : Int) := by
    rw [IntKind.wrap_u64, IntKind.wrap_u64, Int.emod_eq_of_lt (a := ((s.getD j 0).toNat : Int)) (by omega) (by omega), pow8]
    have e3 : (((s.getD j 0).toNat * 2 ^ (8 * j) : Nat) : Int) = ((s.getD j 0).toNat : Int) * 2 ^ (8 * j) := by push_cast; rfl
    rw [← e3, ← pow8]
    exact Int.emod_eq_of_lt (by omega) (by omega)
  rw [e2, bits_or_u64 (by omega) (by omega), pow8, or_hi (by rw [← pow8]; exact ha)]
theorem byteOf_byte (b : UInt8) : byteOf [TC.i b.toNat] = b := by
  unfold byteOf
  simp [nth, TC.int]
theorem bytesRow_of (l : List UInt8) : (bytesRow l).map byteOf = l := by
  unfold bytesRow
  rw [List.map_map]
  exact (List.map_congr_left fun b _ => byteOf_byte b).trans (List.map_id l)
theorem idxI_all {P : Nat → Bool} {N : Nat} (h : allI P N = true) : idxI P N = N := by
  unfold idxI
  have hx : ((List.range N).findIdx fun i => !P i) = (List.range N).length := by
    rw [List.findIdx_eq_length]
    intro x hx
    rw [(allI_iff (P := P) (N := N)).1 h x (List.mem_range.1 hx)]; rfl
  rw [hx, List.length_range]
theorem idxI_before {P : Nat → Bool} {N j : Nat} (h : j < idxI P N) : P j = true := by
  unfold idxI at h
  have := List.not_of_lt_findIdx h
  rw [List.getElem_range] at this
  simpa using this
theorem beqI {a b : Nat} : ((a : Int) == (b : Int)) = (a == b) := by
  rw [Bool.eq_iff_iff, beq_iff_eq, beq_iff_eq]
  omega
def mP (s : List UInt8) (a d k : Nat) : Bool := decide (a + k < s.length) && ((s.getD (a + k) 0).toNat == (s.getD (a + k - d) 0).toNat)
def mt (s : List UInt8) (a d : Nat) : Nat := idxI (mP s a d) 130
theorem mt_le {s : List UInt8} {a d : Nat} : mt s a d ≤ 130 := idxI_le
theorem mt_in {s : List UInt8} {a d : Nat} (h : a ≤ s.length) : a + mt s a d ≤ s.length := by
  rcases Nat.eq_zero_or_pos (mt s a d) with h0 | h0
  · omega
  · have := idxI_before (P := mP s a d) (N := 130) (j := mt s a d - 1) (by show mt s a d - 1 < mt s a d; omega)
    unfold mP at this
    rw [Bool.and_eq_true, decide_eq_true_eq] at this
    omega
def bm (s : List UInt8) (a : Nat) : Nat → Nat × Nat
  | 0 => (0, 0)
  | j + 1 => bif decide (mt s a (j + 1) > (bm s a j).1) then (mt s a (j + 1), j + 1) else bm s a j
theorem bm_le {s : List UInt8} {a : Nat} (h : a ≤ s.length) : ∀ j, (bm s a j).1 ≤ 130 ∧ a + (bm s a j).1 ≤ s.length ∧ (bm s a j).2 ≤ j
  | 0 => ⟨Nat.zero_le _, by show a + 0 ≤ _; omega, Nat.le_refl _⟩
  | j + 1 => by
    obtain ⟨h1, h2, h3⟩ := bm_le h j
    unfold bm
    cases decide (mt s a (j + 1) > (bm s a j).1) with
    | true => exact ⟨mt_le, mt_in h, Nat.le_refl _⟩
    | false => exact ⟨h1, h2, by show (bm s a j).2 ≤ j + 1; omega⟩
def lN (s : List UInt8) (j : Nat) : Nat := min 128 (s.length - 128 * j)
def litL (s : List UInt8) : Nat → List UInt8
  | 0 => []
  | j + 1 => litL s j ++ ([[TC.i (IntKind.wrap .u8 (IntKind.wrap .i64 (((lN s j : Nat) : Int) - (1 : Int))))]].map byteOf ++ (s.drop (128 * j)).take (lN s j))
def litR (s : List UInt8) : Nat := (s.length + 127) / 128
def lits (s : List UInt8) : List UInt8 := litL s (litR s)
theorem litL_len {s : List UInt8} : ∀ j, j ≤ litR s → (litL s j).length = j + min s.length (128 * j)
  | 0, _ => by simp [litL]
  | j + 1, h => by
    have ih := litL_len (s := s) j (by omega)
    unfold litR at h
    unfold litL
    rw [List.length_append, List.length_append, ih, List.length_take, List.length_drop]
    unfold lN
    simp only [List.length_map, List.length_singleton]
    omega
theorem lits_len {s : List UInt8} : (lits s).length ≤ 2 * s.length := by
  unfold lits
  rw [litL_len _ (Nat.le_refl _)]
  unfold litR
  omega
theorem lN_if {s : List UInt8} {j : Nat} : (if ((s.drop (128 * j)).length : Int) < (128 : Int) then ((s.drop (128 * j)).length : Int) else (128 : Int)) = ((lN s j : Nat) : Int) := by
  unfold lN
  rw [List.length_drop]
  split <;> omega
theorem lN_drop {s : List UInt8} {j : Nat} : (s.drop (128 * j)).drop (lN s j) = s.drop (128 * (j + 1)) := by
  rw [List.drop_drop]
  unfold lN
  by_cases h : 128 * (j + 1) ≤ s.length
  · rw [show 128 * j + min 128 (s.length - 128 * j) = 128 * (j + 1) by omega]
  · rw [List.drop_of_length_le (by omega), List.drop_of_length_le (by omega)]
theorem ne_nil {l : List UInt8} (h : 0 < l.length) : (!(l == [])) = true := by
  cases l with
  | nil => simp at h
  | cons a l => rfl
theorem bytesRow_app (l s : List UInt8) : bytesRow (l ++ s) = bytesRow l ++ bytesRow s := by simp [bytesRow]
theorem bytesRow_byte {x : Int} (h0 : 0 ≤ x) (h1 : x < 256) : bytesRow ([[TC.i x]].map byteOf) = [[TC.i x]] := by
  have e : (byteOf [TC.i x]).toNat = x.toNat := by
    show (UInt8.ofNat (x.toNat)).toNat = x.toNat
    rw [UInt8.toNat_ofNat']
    exact Nat.mod_eq_of_lt (by omega)
  show [[TC.i ((byteOf [TC.i x]).toNat : Int)]] = _
  rw [e]
  congr 3
  omega
def tok (n : Nat) : List UInt8 := [[TC.i (IntKind.wrap .u8 (IntKind.wrap .i64 (((n : Nat) : Int) + (125 : Int))))]].map byteOf
theorem tok_len {n : Nat} : (tok n).length = 1 := rfl
def lzN (s : List UInt8) (q : Nat × Nat × List UInt8) : Nat × Nat × List UInt8 :=
  bif decide ((bm s q.1 q.1).1 < 3) then (q.1 + 1, q.2.1, q.2.2)
  else (q.1 + (bm s q.1 q.1).1, q.1 + (bm s q.1 q.1).1, (q.2.2 ++ lits ((s.take q.1).drop q.2.1)) ++ (tok (bm s q.1 q.1).1 ++ bytesL (((bm s q.1 q.1).2 : Nat) : Int) 2))
def lzS (s : List UInt8) : Nat → Nat × Nat × List UInt8
  | 0 => (0, 0, [])
  | j + 1 => lzN s (lzS s j)
def lzP (s : List UInt8) (j : Nat) : Bool := decide ((lzS s j).1 < s.length)
def lzF (s : List UInt8) : Nat × Nat × List UInt8 := lzS s (idxI (lzP s) s.length)
theorem lz_inv {s : List UInt8} : ∀ j, (∀ k, k < j → lzP s k = true) → j ≤ (lzS s j).1 ∧ (lzS s j).2.1 ≤ (lzS s j).1 ∧ (lzS s j).1 ≤ s.length ∧ (lzS s j).2.2.length ≤ 2 * (lzS s j).2.1 + 3 * j
  | 0, _ => ⟨Nat.le_refl _, Nat.le_refl _, Nat.zero_le _, Nat.le_refl _⟩
  | j + 1, h => by
    obtain ⟨h1, h2, h3, h4⟩ := lz_inv j fun k hk => h k (by omega)
    have hP := h j (by omega)
    unfold lzP at hP
    rw [decide_eq_true_eq] at hP
    obtain ⟨b1, b2, b3⟩ := bm_le h3 (lzS s j).1
    show j + 1 ≤ (lzN s (lzS s j)).1 ∧ (lzN s (lzS s j)).2.1 ≤ (lzN s (lzS s j)).1 ∧ (lzN s (lzS s j)).1 ≤ s.length ∧ (lzN s (lzS s j)).2.2.length ≤ 2 * (lzN s (lzS s j)).2.1 + 3 * (j + 1)
    generalize lzS s j = q at h1 h2 h3 h4 hP b1 b2 b3 ⊢
    unfold lzN
    by_cases hn : (bm s q.1 q.1).1 < 3
    · rw [decide_eq_true hn]
      simp only [cond_true]
      omega
    · rw [decide_eq_false hn]
      simp only [cond_false]
      have hl := lits_len (s := (s.take q.1).drop q.2.1)
      rw [List.length_drop, List.length_take] at hl
      refine ⟨by omega, Nat.le_refl _, b2, ?_⟩
      rw [List.length_append, List.length_append, List.length_append, tok_len, bytesL_len]
      omega
theorem bytesRow_bytesL {n : Int} {k : Nat} : bytesRow (bytesL n k) = bRows n k := by
  unfold bytesL bRows bytesRow
  rw [List.map_map, List.map_map]
  refine List.map_congr_left fun p _ => ?_
  have h0 : 0 ≤ IntKind.wrap .u8 (Int.fdiv n (2 ^ (8 * p))) := by rw [IntKind.wrap_u8]; omega
  have h1 : IntKind.wrap .u8 (Int.fdiv n (2 ^ (8 * p))) < 256 := by rw [IntKind.wrap_u8]; omega
  have := bytesRow_byte h0 h1
  exact (List.cons.inj this).1
theorem bRows_two {n : Int} : bRows n 2 = [[TC.i (IntKind.wrap .u8 n)], [TC.i (IntKind.wrap .u8 (Int.fdiv n 256))]] := by
  show [bAt n 0, bAt n 1] = _
  unfold bAt
  rw [show Int.fdiv n (2 ^ (8 * 0)) = n from by simp]
  rfl
theorem tok_rows {n : Nat} : bytesRow (tok n) = [[TC.i (IntKind.wrap .u8 (IntKind.wrap .i64 ((125 : Int) + ((n : Nat) : Int))))]] := by
  unfold tok
  rw [Int.add_comm ((n : Nat) : Int) 125]
  exact bytesRow_byte (by rw [IntKind.wrap_u8]; omega) (by rw [IntKind.wrap_u8]; omega)
noncomputable def lzV (s : List UInt8) : List UInt8 := (lzF s).2.2 ++ lits (s.drop (lzF s).2.1)
/-! spec_l18Match -/
abbrev spec_l18Match_7_σ := List UInt8 × Int × Int × Int × Int × Int
abbrev spec_l18Match_7_ω := (List UInt8 × Int × Int × Int × Int × Int)
noncomputable def spec_l18Match_7_step (s : List UInt8) (at0 : Int) (x : Int) (y : Int) (d : Int) (n : Int) : Tr (spec_l18Match_7_σ ⊕ spec_l18Match_7_ω) := (.ite ((decide ((IntKind.wrap .i64 (at0 + n)) < (s.length : Int))) = true) (.ite ((decide (n < (130 : Int))) = true) (.ite ((0 : Int) ≤ (IntKind.wrap .i64 (at0 + n)) ∧ (IntKind.wrap .i64 (at0 + n)) < (s.length : Int)) (.ite ((0 : Int) ≤ (IntKind.wrap .i64 ((IntKind.wrap .i64 (at0 + n)) - d)) ∧ (IntKind.wrap .i64 ((IntKind.wrap .i64 (at0 + n)) - d)) < (s.length : Int)) (.ite ((((s.getD ((IntKind.wrap .i64 (at0 + n))).toNat 0).toNat : Int) == ((s.getD ((IntKind.wrap .i64 ((IntKind.wrap .i64 (at0 + n)) - d))).toNat 0).toNat : Int)) = true) (.ok (.inl (s, at0, x, y, d, (IntKind.wrap .i64 (n + (1 : Int))))))
      (.ok (.inr (s, at0, x, y, d, n))))
     .no)
    .no)
   (.ok (.inr (s, at0, x, y, d, n))))
  (.ok (.inr (s, at0, x, y, d, n))))
noncomputable def spec_l18Match_7_st : spec_l18Match_7_σ → Tr (spec_l18Match_7_σ ⊕ spec_l18Match_7_ω) := fun x => (spec_l18Match_7_step (x.1) (x.2.1) (x.2.2.1) (x.2.2.2.1) (x.2.2.2.2.1) (x.2.2.2.2.2))
noncomputable def spec_l18Match_o7_1 (s : List UInt8) (at0 : Int) (x : Int) (y : Int) (d : Int) (n : Int) : Bool := is (∃ an dn : Nat, at0 = (an : Int) ∧ d = (dn : Int) ∧ 1 ≤ dn ∧ dn ≤ an ∧ an ≤ s.length ∧ s.length ≤ 2000 ∧ n = 0)
noncomputable def spec_l18Match_u7_1_5 (s : List UInt8) (at0 : Int) (x : Int) (y : Int) (d : Int) (n : Int) : Int := ((mt s at0.toNat d.toNat : Nat) : Int)
noncomputable def spec_l18Match_7_fin (s : List UInt8) (at0 : Int) (x : Int) (y : Int) (d : Int) (n : Int) : Told spec_l18Match_7_ω := (.leaf (spec_l18Match_o7_1 s at0 x y d n) (s, at0, x, y, d, (spec_l18Match_u7_1_5 s at0 x y d n)))
def spec_l18Match_7_sl (x : spec_l18Match_7_σ) : List Slot := [⟨.val false [⟨.str, .sh, TC.s (x.1)⟩], ⟨0, 0⟩⟩, ⟨.val false [⟨.int .i64, .sh, TC.i (x.2.1)⟩], ⟨0, 0⟩⟩, ⟨.val false [⟨.int .i64, .sh, TC.i (x.2.2.1)⟩], ⟨0, 0⟩⟩, ⟨.val false [⟨.int .i64, .sh, TC.i (x.2.2.2.1)⟩], ⟨0, 0⟩⟩, ⟨.val false [⟨.int .i64, .sh, TC.i (x.2.2.2.2.1)⟩], ⟨0, 0⟩⟩, ⟨.val false [⟨.int .i64, .sh, TC.i (x.2.2.2.2.2)⟩], ⟨0, 0⟩⟩]
def spec_l18Match_7_out : spec_l18Match_7_ω → Ex × List Slot := (fun x => (.exit 2, [⟨.val false [⟨.str, .sh, TC.s (x.1)⟩], ⟨0, 0⟩⟩, ⟨.val false [⟨.int .i64, .sh, TC.i (x.2.1)⟩], ⟨0, 0⟩⟩, Slot.none, Slot.none, ⟨.val false [⟨.int .i64, .sh, TC.i (x.2.2.1)⟩], ⟨0, 0⟩⟩, ⟨.val false [⟨.int .i64, .sh, TC.i (x.2.2.2.1)⟩], ⟨0, 0⟩⟩, ⟨.val false [⟨.int .i64, .sh, TC.i (x.2.2.2.2.1)⟩], ⟨0, 0⟩⟩, ⟨.val false [⟨.int .i64, .sh, TC.i (x.2.2.2.2.2)⟩], ⟨0, 0⟩⟩]))
noncomputable def spec_l18Match_lo7 : List Slot → Option (Told (Ex × List Slot)) := fun s => match s with
  | [⟨.val false [⟨.str, .sh, TC.s s⟩], ⟨0, 0⟩⟩, ⟨.val false [⟨.int .i64, .sh, TC.i at0⟩], ⟨0, 0⟩⟩, ⟨.val false [⟨.int .i64, .sh, TC.i x⟩], ⟨0, 0⟩⟩, ⟨.val false [⟨.int .i64, .sh, TC.i y⟩], ⟨0, 0⟩⟩, ⟨.val false [⟨.int .i64, .sh, TC.i d⟩], ⟨0, 0⟩⟩, ⟨.val false [⟨.int .i64, .sh, TC.i n⟩], ⟨0, 0⟩⟩] => some (((spec_l18Match_7_fin s at0 x y d n)).map spec_l18Match_7_out)
  | _ => .none
abbrev spec_l18Match_4_σ := List UInt8 × Int × Int × Int × Int
abbrev spec_l18Match_4_ω := (Int × Int)
noncomputable def spec_l18Match_4_step (s : List UInt8) (at0 : Int) (x : Int) (y : Int) (d : Int) : Tr (spec_l18Match_4_σ ⊕ spec_l18Match_4_ω) := (.ite ((decide (d ≤ at0)) = true) (.ite ((spec_l18Match_o7_1 s at0 x y d (0 : Int)) = true) (.ite ((decide ((spec_l18Match_u7_1_5 s at0 x y d (0 : Int)) > x)) = true) (.ok (.inl (s, at0, (spec_l18Match_u7_1_5 s at0 x y d (0 : Int)), d, (IntKind.wrap .i64 (d + (1 : Int))))))
    (.ok (.inl (s, at0, x, y, (IntKind.wrap .i64 (d + (1 : Int)))))))
   .no)
  (.ok (.inr (x, y))))
noncomputable def spec_l18Match_4_st : spec_l18Match_4_σ → Tr (spec_l18Match_4_σ ⊕ spec_l18Match_4_ω) := fun x => (spec_l18Match_4_step (x.1) (x.2.1) (x.2.2.1) (x.2.2.2.1) (x.2.2.2.2))
noncomputable def spec_l18Match_o4_1 (s : List UInt8) (at0 : Int) (x : Int) (y : Int) (d : Int) : Bool := is (∃ an : Nat, at0 = (an : Int) ∧ an ≤ s.length ∧ s.length ≤ 2000 ∧ x = 0 ∧ y = 0 ∧ d = 1)
noncomputable def spec_l18Match_u4_1_0 (s : List UInt8) (at0 : Int) (x : Int) (y : Int) (d : Int) : Int := (((bm s at0.toNat at0.toNat).1 : Nat) : Int)
noncomputable def spec_l18Match_u4_1_1 (s : List UInt8) (at0 : Int) (x : Int) (y : Int) (d : Int) : Int := (((bm s at0.toNat at0.toNat).2 : Nat) : Int)
noncomputable def spec_l18Match_4_fin (s : List UInt8) (at0 : Int) (x : Int) (y : Int) (d : Int) : Told spec_l18Match_4_ω := (.leaf (spec_l18Match_o4_1 s at0 x y d) ((spec_l18Match_u4_1_0 s at0 x y d), (spec_l18Match_u4_1_1 s at0 x y d)))
def spec_l18Match_4_sl (x : spec_l18Match_4_σ) : List Slot := [⟨.val false [⟨.str, .sh, TC.s (x.1)⟩], ⟨0, 0⟩⟩, ⟨.val false [⟨.int .i64, .sh, TC.i (x.2.1)⟩], ⟨0, 0⟩⟩, ⟨.val false [⟨.int .i64, .sh, TC.i (x.2.2.1)⟩], ⟨0, 0⟩⟩, ⟨.val false [⟨.int .i64, .sh, TC.i (x.2.2.2.1)⟩], ⟨0, 0⟩⟩, ⟨.val false [⟨.int .i64, .sh, TC.i (x.2.2.2.2)⟩], ⟨0, 0⟩⟩]
def spec_l18Match_4_out : spec_l18Match_4_ω → Ex × List Slot := (fun x => (.exit 0, [Slot.none, Slot.none, ⟨.val false [⟨.int .i64, .sh, TC.i (x.1)⟩], ⟨0, 0⟩⟩, ⟨.val false [⟨.int .i64, .sh, TC.i (x.2)⟩], ⟨0, 0⟩⟩]))
noncomputable def spec_l18Match_lo4 : List Slot → Option (Told (Ex × List Slot)) := fun s => match s with
  | [⟨.val false [⟨.str, .sh, TC.s s⟩], ⟨0, 0⟩⟩, ⟨.val false [⟨.int .i64, .sh, TC.i at0⟩], ⟨0, 0⟩⟩, ⟨.val false [⟨.int .i64, .sh, TC.i x⟩], ⟨0, 0⟩⟩, ⟨.val false [⟨.int .i64, .sh, TC.i y⟩], ⟨0, 0⟩⟩, ⟨.val false [⟨.int .i64, .sh, TC.i d⟩], ⟨0, 0⟩⟩] => some (((spec_l18Match_4_fin s at0 x y d)).map spec_l18Match_4_out)
  | _ => .none
noncomputable def spec_l18Match_lo : LoopTeller := fun r s => bif Nat.beq r 4 then spec_l18Match_lo4 s else bif Nat.beq r 7 then spec_l18Match_lo7 s else .none
theorem spec_l18Match_7_r (s : List UInt8) (at0 : Int) (x : Int) (y : Int) (d : Int) (n : Int) (fuel : Nat) : rounds (rnd tab FT D0 live 47 spec_l18Match_lo 1 7) leave (fuel + 1) (spec_l18Match_7_sl (s, at0, x, y, d, n)) = ((spec_l18Match_7_step s at0 x y d n)).run (goOn (fun s => rounds (rnd tab FT D0 live 47 spec_l18Match_lo 1 7) leave fuel (spec_l18Match_7_sl s)) fun w => some (spec_l18Match_7_out w)) := by kernel_rfl
theorem spec_l18Match_7_h (s : List UInt8) (at0 : Int) (x : Int) (y : Int) (d : Int) (n : Int) (ow : spec_l18Match_7_ω) : ((spec_l18Match_7_fin s at0 x y d n)).val = some ow → ∃ fuel, loopN spec_l18Match_7_st fuel (s, at0, x, y, d, n) = some ow := by
  intro h
  refine auto_leaf (R := (s, at0, x, y, d, ((mt s at0.toNat d.toNat : Nat) : Int))) (fun ho => ?_) h
  obtain ⟨an, dn, rfl, rfl, h1, h2, h3, h4, rfl⟩ := is_iff.1 ho
  simp only [Int.toNat_natCast]
  refine Exists.elim (loopN_along (step := spec_l18Match_7_st) 130 (mP s an dn) (fun j => (s, (an : Int), x, y, (dn : Int), (j : Int))) (s, (an : Int), x, y, (dn : Int), ((130 : Nat) : Int)) (fun j => (s, (an : Int), x, y, (dn : Int), (j : Int))) (fun j hj hb => ?_) (fun hb => ?_)) fun fuel key => ⟨fuel, key.trans ?_⟩
  rotate_left 2
  · unfold mt
    cases ha : allI (mP s an dn) 130 with
    | true => rw [idxI_all ha]; rfl
    | false => rfl
  · have hw : IntKind.wrap .i64 ((an : Int) + (j : Int)) = ((an + j : Nat) : Int) := by rw [wrap64 (by omega) (by omega)]; omega
    have hw2 : IntKind.wrap .i64 (((an + j : Nat) : Int) - (dn : Int)) = ((an + j - dn : Nat) : Int) := by rw [wrap64 (by omega) (by omega)]; omega
    constructor
    · intro hP
      unfold mP at hP
      rw [Bool.and_eq_true, decide_eq_true_eq] at hP
      obtain ⟨p1, p2⟩ := hP
      show (spec_l18Match_7_step s (an : Int) x y (dn : Int) (j : Int)).val = _
      unfold spec_l18Match_7_step
      rw [hw, hw2, Int.toNat_natCast, Int.toNat_natCast, beqI]
      refine Tr.t (by simp; omega) ?_
      refine Tr.t (by simp; omega) ?_
      refine Tr.t (by omega) ?_
      refine Tr.t (by omega) ?_
      refine Tr.t p2 ?_
      rw [Tr.val_ok, wrap64 (i := (j : Int) + 1) (by omega) (by omega)]; rfl
    · intro hP
      show (spec_l18Match_7_step s (an : Int) x y (dn : Int) (j : Int)).val = _
      unfold spec_l18Match_7_step
      rw [hw, hw2, Int.toNat_natCast, Int.toNat_natCast, beqI]
      by_cases h5 : an + j < s.length
      · unfold mP at hP
        rw [decide_eq_true h5, Bool.true_and] at hP
        refine Tr.t (by simp; omega) ?_
        refine Tr.t (by simp; omega) ?_
        refine Tr.t (by omega) ?_
        refine Tr.t (by omega) ?_
        refine Tr.n (by rw [hP]; simp) ?_
        rfl
      · refine Tr.n (by simp; omega) ?_
        rfl
  · have hw : IntKind.wrap .i64 ((an : Int) + ((130 : Nat) : Int)) = ((an + 130 : Nat) : Int) := by rw [wrap64 (by omega) (by omega)]; omega
    show (spec_l18Match_7_step s (an : Int) x y (dn : Int) ((130 : Nat) : Int)).val = _
    unfold spec_l18Match_7_step
    rw [hw]
    by_cases h5 : an + 130 < s.length
    · refine Tr.t (by simp; omega) ?_
      refine Tr.n (by simp) ?_
      rfl
    · refine Tr.n (by simp; omega) ?_
      rfl
theorem spec_l18Match_is7 : LoopIs tab FT D0 live 47 spec_l18Match_lo 1 7 := by
  refine loop_told (sl := spec_l18Match_7_sl) (step := spec_l18Match_7_st) (out := spec_l18Match_7_out) (lor := spec_l18Match_lo7) (fin := fun x => (spec_l18Match_7_fin (x.1) (x.2.1) (x.2.2.1) (x.2.2.2.1) (x.2.2.2.2.1) (x.2.2.2.2.2))) (fun _ => rfl) ?_ (fun x n => spec_l18Match_7_r x.1 x.2.1 x.2.2.1 x.2.2.2.1 x.2.2.2.2.1 x.2.2.2.2.2 n) (fun x ow => spec_l18Match_7_h x.1 x.2.1 x.2.2.1 x.2.2.2.1 x.2.2.2.2.1 x.2.2.2.2.2 ow)
  intro s t h
  unfold spec_l18Match_lo7 at h
  split at h
  · cases h; exact ⟨(_, _, _, _, _, _), rfl, rfl⟩
  · cases h
theorem spec_l18Match_4_r (s : List UInt8) (at0 : Int) (x : Int) (y : Int) (d : Int) (fuel : Nat) : rounds (rnd tab FT D0 live 47 spec_l18Match_lo 0 4) leave (fuel + 1) (spec_l18Match_4_sl (s, at0, x, y, d)) = ((spec_l18Match_4_step s at0 x y d)).run (goOn (fun s => rounds (rnd tab FT D0 live 47 spec_l18Match_lo 0 4) leave fuel (spec_l18Match_4_sl s)) fun w => some (spec_l18Match_4_out w)) := by kernel_rfl
theorem spec_l18Match_4_h (s : List UInt8) (at0 : Int) (x : Int) (y : Int) (d : Int) (ow : spec_l18Match_4_ω) : ((spec_l18Match_4_fin s at0 x y d)).val = some ow → ∃ fuel, loopN spec_l18Match_4_st fuel (s, at0, x, y, d) = some ow := by
  intro h
  refine auto_leaf (R := ((((bm s at0.toNat at0.toNat).1 : Nat) : Int), (((bm s at0.toNat at0.toNat).2 : Nat) : Int))) (fun ho => ?_) h
  obtain ⟨an, rfl, h1, h2, rfl, rfl, rfl⟩ := is_iff.1 ho
  simp only [Int.toNat_natCast]
  refine ⟨an + 1, Eq.trans (congrArg (loopN spec_l18Match_4_st (an + 1)) (by simp [bm])) (loopN_run (step := spec_l18Match_4_st) (N := an) (fun j => (s, (an : Int), (((bm s an j).1 : Nat) : Int), (((bm s an j).2 : Nat) : Int), ((j + 1 : Nat) : Int))) (fun j hj => ?_) ?_ an 0 (by omega))⟩
  · have eu : spec_l18Match_u7_1_5 s (an : Int) (((bm s an j).1 : Nat) : Int) (((bm s an j).2 : Nat) : Int) ((j + 1 : Nat) : Int) 0 = ((mt s an (j + 1) : Nat) : Int) := by
      unfold spec_l18Match_u7_1_5
      rw [Int.toNat_natCast, Int.toNat_natCast]
    have hb : bm s an (j + 1) = bif decide (mt s an (j + 1) > (bm s an j).1) then (mt s an (j + 1), j + 1) else bm s an j := rfl
    show (spec_l18Match_4_step s (an : Int) (((bm s an j).1 : Nat) : Int) (((bm s an j).2 : Nat) : Int) ((j + 1 : Nat) : Int)).val = _
    unfold spec_l18Match_4_step
    rw [eu, wrap64 (i := ((j + 1 : Nat) : Int) + 1) (by omega) (by omega)]
    refine Tr.t (by simp; omega) ?_
    refine Tr.t (is_true ⟨an, j + 1, rfl, rfl, by omega, by omega, h1, h2, rfl⟩) ?_
    by_cases hd : mt s an (j + 1) > (bm s an j).1
    · rw [decide_eq_true hd] at hb
      refine Tr.t (by rw [decide_eq_true_eq]; omega) ?_
      show _ = some (Sum.inl (s, (an : Int), (((bm s an (j + 1)).1 : Nat) : Int), (((bm s an (j + 1)).2 : Nat) : Int), ((j + 1 + 1 : Nat) : Int)))
      rw [hb]; rfl
    · rw [decide_eq_false hd] at hb
      refine Tr.n (by rw [decide_eq_true_eq]; omega) ?_
      show _ = some (Sum.inl (s, (an : Int), (((bm s an (j + 1)).1 : Nat) : Int), (((bm s an (j + 1)).2 : Nat) : Int), ((j + 1 + 1 : Nat) : Int)))
      rw [hb]; rfl
  · show (spec_l18Match_4_step s (an : Int) (((bm s an an).1 : Nat) : Int) (((bm s an an).2 : Nat) : Int) ((an + 1 : Nat) : Int)).val = _
    unfold spec_l18Match_4_step
    refine Tr.n (by simp; omega) ?_
    rfl
theorem spec_l18Match_is4 : LoopIs tab FT D0 live 47 spec_l18Match_lo 0 4 := by
  refine loop_told (sl := spec_l18Match_4_sl) (step := spec_l18Match_4_st) (out := spec_l18Match_4_out) (lor := spec_l18Match_lo4) (fin := fun x => (spec_l18Match_4_fin (x.1) (x.2.1) (x.2.2.1) (x.2.2.2.1) (x.2.2.2.2))) (fun _ => rfl) ?_ (fun x n => spec_l18Match_4_r x.1 x.2.1 x.2.2.1 x.2.2.2.1 x.2.2.2.2 n) (fun x ow => spec_l18Match_4_h x.1 x.2.1 x.2.2.1 x.2.2.2.1 x.2.2.2.2 ow)
  intro s t h
  unfold spec_l18Match_lo4 at h
  split at h
  · cases h; exact ⟨(_, _, _, _, _), rfl, rfl⟩
  · cases h
noncomputable def spec_l18Match_t (s : List UInt8) (at0 : Int) : Tr (Int × Int) := (.ite ((spec_l18Match_o4_1 s at0 (0 : Int) (0 : Int) (1 : Int)) = true) (.ok ((spec_l18Match_u4_1_0 s at0 (0 : Int) (0 : Int) (1 : Int)), (spec_l18Match_u4_1_1 s at0 (0 : Int) (0 : Int) (1 : Int))))
  .no)
def spec_l18Match_mk (p : Int × Int) : Res := [(false, [⟨.int .i64, .sh, TC.i (p.1)⟩]), (false, [⟨.int .i64, .sh, TC.i (p.2)⟩])]
noncomputable def spec_l18Match_c (s : List UInt8) (at0 : Int) : Bool := is (∃ an : Nat, at0 = (an : Int) ∧ an ≤ s.length ∧ s.length ≤ 2000)
noncomputable def spec_l18Match_v (s : List UInt8) (at0 : Int) : Int × Int := hid ((((bm s at0.toNat at0.toNat).1 : Nat) : Int), (((bm s at0.toNat at0.toNat).2 : Nat) : Int))
theorem spec_l18Match_l (s : List UInt8) (at0 : Int) : (spec_l18Match_c s at0) = true → (spec_l18Match_t s at0).val = some (spec_l18Match_v s at0) := by
  intro h
  obtain ⟨an, rfl, h1, h2⟩ := is_iff.1 h
  unfold spec_l18Match_t spec_l18Match_v
  rw [hid_eq]
  refine Tr.t (is_true ⟨an, rfl, h1, h2, rfl, rfl, rfl⟩) ?_
  rfl
noncomputable def spec_l18Match_S : List Arg → Option (Bool × Res) := fun xs => match xs with
  | [(false, [(.str, TC.s s)]), (false, [(.int .i64, TC.i at0)])] => some ((spec_l18Match_c s at0), spec_l18Match_mk (spec_l18Match_v s at0))
  | _ => .none
theorem spec_l18Match_e (s : List UInt8) (at0 : Int) : runF tab FT D0 live 47 spec_l18Match_lo [(false, [(.str, TC.s s)]), (false, [(.int .i64, TC.i at0)])] = (spec_l18Match_t s at0).run fun p => some (spec_l18Match_mk p) := by kernel_rfl
theorem spec_l18Match_s : ∀ xs r, spec_l18Match_S xs = some (true, r) → runF tab FT D0 live 47 spec_l18Match_lo xs = some r := by
  intro xs r h
  unfold spec_l18Match_S at h
  split at h
  · simp only [Option.some.injEq, Prod.mk.injEq] at h
    obtain ⟨h1, rfl⟩ := h
    exact fun_told (spec_l18Match_e _ _) (spec_l18Match_l _ _) h1
  · cases h
noncomputable def D1 : Dt := also D0 47 spec_l18Match_S
theorem d1 : DOk Go.Proofs.Try.prog tab D1 := d0.also mixed_ok tab_ok names_ok (fnLoops_two (by kernel_rfl) spec_l18Match_is4 spec_l18Match_is7) spec_l18Match_s
theorem spec_l18Match_h {s : List UInt8} {a : Int} : spec_l18Match_v s a = ((((bm s a.toNat a.toNat).1 : Nat) : Int), (((bm s a.toNat a.toNat).2 : Nat) : Int)) := hid_eq _
/-! spec_l18Literals -/
abbrev spec_l18Literals_1_σ := List (List TC) × List UInt8 × List (List TC)
abbrev spec_l18Literals_1_ω := (List (List TC) × List (List TC))
noncomputable def spec_l18Literals_1_step (X : List (List TC)) (s : List UInt8) (Y : List (List TC)) : Tr (spec_l18Literals_1_σ ⊕ spec_l18Literals_1_ω) := (.ite ((decide ((s.length : Int) > (0 : Int))) = true) (.ite ((decide ((s.length : Int) > (128 : Int))) = true) (.ite (roomFor (tab 5) (X ++ [[TC.i (127 : Int)]]).length) (.ite ((0 : Int) ≤ (0 : Int) ∧ (0 : Int) ≤ (128 : Int) ∧ (128 : Int) ≤ (s.length : Int)) (.ite (roomFor (tab 5) ((X ++ [[TC.i (127 : Int)]]) ++ (bytesRow ((s.take ((128 : Int)).toNat).drop ((0 : Int)).toNat))).length) (.ite ((0 : Int) ≤ (128 : Int) ∧ (128 : Int) ≤ (s.length : Int) ∧ (s.length : Int) ≤ (s.length : Int)) (.ok (.inl (((X ++ [[TC.i (127 : Int)]]) ++ (bytesRow ((s.take ((128 : Int)).toNat).drop ((0 : Int)).toNat))), ((s.take ((s.length : Int)).toNat).drop ((128 : Int)).toNat), Y)))
       .no)
      .no)
     .no)
    .no)
   (.ite (roomFor (tab 5) (X ++ [[TC.i (IntKind.wrap .u8 (IntKind.wrap .i64 ((s.length : Int) - (1 : Int))))]]).length) (.ite ((0 : Int) ≤ (0 : Int) ∧ (0 : Int) ≤ (s.length : Int) ∧ (s.length : Int) ≤ (s.length : Int)) (.ite (roomFor (tab 5) ((X ++ [[TC.i (IntKind.wrap .u8 (IntKind.wrap .i64 ((s.length : Int) - (1 : Int))))]]) ++ (bytesRow ((s.take ((s.length : Int)).toNat).drop ((0 : Int)).toNat))).length) (.ite ((0 : Int) ≤ (s.length : Int) ∧ (s.length : Int) ≤ (s.length : Int) ∧ (s.length : Int) ≤ (s.length : Int)) (.ok (.inl (((X ++ [[TC.i (IntKind.wrap .u8 (IntKind.wrap .i64 ((s.length : Int) - (1 : Int))))]]) ++ (bytesRow ((s.take ((s.length : Int)).toNat).drop ((0 : Int)).toNat))), ((s.take ((s.length : Int)).toNat).drop ((s.length : Int)).toNat), Y)))
       .no)
      .no)
     .no)
    .no))
  (.ok (.inr (X, Y))))
noncomputable def spec_l18Literals_1_st : spec_l18Literals_1_σ → Tr (spec_l18Literals_1_σ ⊕ spec_l18Literals_1_ω) := fun x => (spec_l18Literals_1_step (x.1) (x.2.1) (x.2.2))
noncomputable def spec_l18Literals_o1_1 (X : List (List TC)) (s : List UInt8) (Y : List (List TC)) : Bool := is (s.length ≤ 2000 ∧ X.length ≤ 100000)
noncomputable def spec_l18Literals_u1_1_0 (X : List (List TC)) (s : List UInt8) (Y : List (List TC)) : List (List TC) := X ++ bytesRow (lits s)
noncomputable def spec_l18Literals_1_fin (X : List (List TC)) (s : List UInt8) (Y : List (List TC)) : Told spec_l18Literals_1_ω := (.leaf (spec_l18Literals_o1_1 X s Y) ((spec_l18Literals_u1_1_0 X s Y), Y))
def spec_l18Literals_1_sl (x : spec_l18Literals_1_σ) : List Slot := [⟨.val false [⟨.slice 5, .own true, TC.l (x.1)⟩], ⟨0, 0⟩⟩, ⟨.val false [⟨.str, .sh, TC.s (x.2.1)⟩], ⟨0, 0⟩⟩, ⟨.gv [⟨.slice 5, .gone, TC.l (x.2.2)⟩], ⟨0, 0⟩⟩]
def spec_l18Literals_1_out : spec_l18Literals_1_ω → Ex × List Slot := (fun x => (.exit 0, [⟨.val false [⟨.slice 5, .own true, TC.l (x.1)⟩], ⟨0, 0⟩⟩, Slot.none, ⟨.gv [⟨.slice 5, .gone, TC.l (x.2)⟩], ⟨0, 0⟩⟩]))
noncomputable def spec_l18Literals_lo1 : List Slot → Option (Told (Ex × List Slot)) := fun s => match s with
  | [⟨.val false [⟨.slice 5, .own true, TC.l X⟩], ⟨0, 0⟩⟩, ⟨.val false [⟨.str, .sh, TC.s s⟩], ⟨0, 0⟩⟩, ⟨.gv [⟨.slice 5, .gone, TC.l Y⟩], ⟨0, 0⟩⟩] => some (((spec_l18Literals_1_fin X s Y)).map spec_l18Literals_1_out)
  | _ => .none
noncomputable def spec_l18Literals_lo : LoopTeller := fun r s => bif Nat.beq r 1 then spec_l18Literals_lo1 s else .none
theorem spec_l18Literals_1_r (X : List (List TC)) (s : List UInt8) (Y : List (List TC)) (fuel : Nat) : rounds (rnd tab FT D1 live 48 spec_l18Literals_lo 0 1) leave (fuel + 1) (spec_l18Literals_1_sl (X, s, Y)) = ((spec_l18Literals_1_step X s Y)).run (goOn (fun s => rounds (rnd tab FT D1 live 48 spec_l18Literals_lo 0 1) leave fuel (spec_l18Literals_1_sl s)) fun w => some (spec_l18Literals_1_out w)) := by kernel_rfl
theorem spec_l18Literals_1_h (X : List (List TC)) (s : List UInt8) (Y : List (List TC)) (ow : spec_l18Literals_1_ω) : ((spec_l18Literals_1_fin X s Y)).val = some ow → ∃ fuel, loopN spec_l18Literals_1_st fuel (X, s, Y) = some ow := by
  intro h
  refine auto_leaf (R := (X ++ bytesRow (lits s), Y)) (fun ho => ?_) h
  obtain ⟨h8, hX⟩ := is_iff.1 ho
  refine ⟨litR s + 1, Eq.trans (congrArg (loopN spec_l18Literals_1_st (litR s + 1)) (by simp [litL, bytesRow])) (loopN_run (step := spec_l18Literals_1_st) (N := litR s) (fun j => (X ++ bytesRow (litL s j), s.drop (128 * j), Y)) (fun j hj => ?_) ?_ (litR s) 0 (by omega))⟩
  · have hl := litL_len (s := s) j (by omega)
    have hj2 : 128 * j < s.length := by unfold litR at hj; omega
    have hd : (s.drop (128 * j)).length = s.length - 128 * j := List.length_drop
    have hz : ((0 : Int)).toNat = 0 := rfl
    have hstep : X ++ bytesRow (litL s (j + 1)) = ((X ++ bytesRow (litL s j)) ++ [[TC.i (IntKind.wrap .u8 (IntKind.wrap .i64 (((lN s j : Nat) : Int) - (1 : Int))))]]) ++ bytesRow ((s.drop (128 * j)).take (lN s j)) := by
      show X ++ bytesRow (litL s j ++ ([[TC.i (IntKind.wrap .u8 (IntKind.wrap .i64 (((lN s j : Nat) : Int) - (1 : Int))))]].map byteOf ++ (s.drop (128 * j)).take (lN s j))) = _
      rw [bytesRow_app, bytesRow_app, bytesRow_byte (by rw [IntKind.wrap_u8]; omega) (by rw [IntKind.wrap_u8]; omega), List.append_assoc, List.append_assoc]
    show (spec_l18Literals_1_step (X ++ bytesRow (litL s j)) (s.drop (128 * j)) Y).val = _
    unfold spec_l18Literals_1_step
    rw [hz, List.drop_zero, List.drop_zero, Int.toNat_natCast, List.take_length, show ((128 : Int)).toNat = 128 from rfl]
    refine Tr.t (by simp; omega) ?_
    by_cases h9 : s.length - 128 * j > 128
    · have hn : lN s j = 128 := by unfold lN; omega
      have hdr := lN_drop (s := s) (j := j)
      rw [hn] at hdr hstep
      refine Tr.t (by rw [hd]; simp; omega) ?_
      refine Tr.t (by unfold roomFor; simp only [show (tab 5).bytes = 1 from rfl, List.length_append, List.length_singleton, bytesRow, List.length_map, List.length_take, hd]; omega) ?_
      refine Tr.t (by omega) ?_
      refine Tr.t (by unfold roomFor; simp only [show (tab 5).bytes = 1 from rfl, List.length_append, List.length_singleton, bytesRow, List.length_map, List.length_take, hd]; omega) ?_
      refine Tr.t (by omega) ?_
      rw [Tr.val_ok, hdr, hstep]; rfl
    · have hn : lN s j = s.length - 128 * j := by unfold lN; omega
      have hdr := lN_drop (s := s) (j := j)
      rw [hn, ← hd] at hdr hstep
      rw [List.take_length] at hstep
      refine Tr.n (by rw [hd]; simp; omega) ?_
      refine Tr.t (by unfold roomFor; simp only [show (tab 5).bytes = 1 from rfl, List.length_append, List.length_singleton, bytesRow, List.length_map, List.length_take, hd]; omega) ?_
      refine Tr.t (by omega) ?_
      refine Tr.t (by unfold roomFor; simp only [show (tab 5).bytes = 1 from rfl, List.length_append, List.length_singleton, bytesRow, List.length_map, List.length_take, hd]; omega) ?_
      refine Tr.t (by omega) ?_
      rw [Tr.val_ok, hdr, hstep]
  · show (spec_l18Literals_1_step (X ++ bytesRow (litL s (litR s))) (s.drop (128 * litR s)) Y).val = _
    unfold spec_l18Literals_1_step
    rw [List.drop_of_length_le (l := s) (by unfold litR; omega)]
    refine Tr.n (by simp) ?_
    rfl
theorem spec_l18Literals_is1 : LoopIs tab FT D1 live 48 spec_l18Literals_lo 0 1 := by
  refine loop_told (sl := spec_l18Literals_1_sl) (step := spec_l18Literals_1_st) (out := spec_l18Literals_1_out) (lor := spec_l18Literals_lo1) (fin := fun x => (spec_l18Literals_1_fin (x.1) (x.2.1) (x.2.2))) (fun _ => rfl) ?_ (fun x n => spec_l18Literals_1_r x.1 x.2.1 x.2.2 n) (fun x ow => spec_l18Literals_1_h x.1 x.2.1 x.2.2 ow)
  intro s t h
  unfold spec_l18Literals_lo1 at h
  split at h
  · cases h; exact ⟨(_, _, _), rfl, rfl⟩
  · cases h
noncomputable def spec_l18Literals_t (X : List (List TC)) (s : List UInt8) : Tr (List (List TC) × List (List TC)) := (.ite ((spec_l18Literals_o1_1 X s X) = true) (.ok (X, (spec_l18Literals_u1_1_0 X s X)))
  .no)
def spec_l18Literals_mk (p : List (List TC) × List (List TC)) : Res := [(true, [⟨.slice 5, .gone, TC.l (p.1)⟩]), (false, [⟨.slice 5, .own true, TC.l (p.2)⟩])]
noncomputable def spec_l18Literals_c (X : List (List TC)) (s : List UInt8) : Bool := is (s.length ≤ 2000 ∧ X.length ≤ 100000)
noncomputable def spec_l18Literals_v (X : List (List TC)) (s : List UInt8) : List (List TC) × List (List TC) := (X, X ++ bytesRow (lits s))
theorem spec_l18Literals_l (X : List (List TC)) (s : List UInt8) : (spec_l18Literals_c X s) = true → (spec_l18Literals_t X s).val = some (spec_l18Literals_v X s) := by
  intro h
  obtain ⟨h8, hX⟩ := is_iff.1 h
  unfold spec_l18Literals_t
  refine Tr.t (is_true ⟨h8, hX⟩) ?_
  rfl
noncomputable def spec_l18Literals_S : List Arg → Option (Bool × Res) := fun xs => match xs with
  | [(false, [(.slice 5, TC.l X)]), (false, [(.str, TC.s s)])] => some ((spec_l18Literals_c X s), spec_l18Literals_mk (spec_l18Literals_v X s))
  | _ => .none
theorem spec_l18Literals_e (X : List (List TC)) (s : List UInt8) : runFW true tab FT D1 live 48 spec_l18Literals_lo (false, [(.slice 5, TC.l X)]) [(false, [(.str, TC.s s)])] = (spec_l18Literals_t X s).run fun p => some (spec_l18Literals_mk p) := by kernel_rfl
theorem spec_l18Literals_s0 : ∀ ys r, spec_l18Literals_S ys = some (true, r) → ∀ a0 xs, ys = a0 :: xs → runFW true tab FT D1 live 48 spec_l18Literals_lo a0 xs = some r := by
  intro ys r h
  unfold spec_l18Literals_S at h
  split at h
  · simp only [Option.some.injEq, Prod.mk.injEq] at h
    obtain ⟨h1, rfl⟩ := h
    intro a0 xs e
    cases e
    exact fun_toldW (spec_l18Literals_e _ _) (spec_l18Literals_l _ _) h1
  · cases h
theorem spec_l18Literals_s : ∀ a0 xs r, spec_l18Literals_S (a0 :: xs) = some (true, r) → runFW true tab FT D1 live 48 spec_l18Literals_lo a0 xs = some r := fun a0 xs r h => spec_l18Literals_s0 _ r h a0 xs rfl
noncomputable def D2 : Dt := alsoW D1 48 spec_l18Literals_S
theorem d2 : DOk Go.Proofs.Try.prog tab D2 := d1.alsoW mixed_ok tab_ok names_ok (fnLoops_one (by kernel_rfl) spec_l18Literals_is1) spec_l18Literals_s
/-! spec_l18Lz -/
abbrev spec_l18Lz_4_σ := List UInt8 × List (List TC) × Int × Int
abbrev spec_l18Lz_4_ω := (List UInt8 × List (List TC) × Int)
noncomputable def spec_l18Lz_4_step (s : List UInt8) (X : List (List TC)) (pe : Int) (at0 : Int) : Tr (spec_l18Lz_4_σ ⊕ spec_l18Lz_4_ω) := (.ite ((decide (at0 < (s.length : Int))) = true) (.ite ((spec_l18Match_c s at0) = true) (.ite ((decide ((spec_l18Match_v s at0).1 < (3 : Int))) = true) (.ok (.inl (s, X, pe, (IntKind.wrap .i64 (at0 + (1 : Int))))))
    (.ite ((0 : Int) ≤ pe ∧ pe ≤ at0 ∧ at0 ≤ (s.length : Int)) (.ite ((spec_l18Literals_c X ((s.take (at0).toNat).drop (pe).toNat)) = true) (.ite (roomFor (tab 5) ((spec_l18Literals_v X ((s.take (at0).toNat).drop (pe).toNat)).2 ++ [[TC.i (IntKind.wrap .u8 (IntKind.wrap .i64 ((125 : Int) + (spec_l18Match_v s at0).1)))], [TC.i (IntKind.wrap .u8 ((spec_l18Match_v s at0).2))], [TC.i (IntKind.wrap .u8 (Int.fdiv ((spec_l18Match_v s at0).2) 256))]]).length) (.ok (.inl (s, ((spec_l18Literals_v X ((s.take (at0).toNat).drop (pe).toNat)).2 ++ [[TC.i (IntKind.wrap .u8 (IntKind.wrap .i64 ((125 : Int) + (spec_l18Match_v s at0).1)))], [TC.i (IntKind.wrap .u8 ((spec_l18Match_v s at0).2))], [TC.i (IntKind.wrap .u8 (Int.fdiv ((spec_l18Match_v s at0).2) 256))]]), (IntKind.wrap .i64 (at0 + (spec_l18Match_v s at0).1)), (IntKind.wrap .i64 (at0 + (spec_l18Match_v s at0).1)))))
       .no)
      .no)
     .no))
   .no)
  (.ok (.inr (s, X, pe))))
noncomputable def spec_l18Lz_4_st : spec_l18Lz_4_σ → Tr (spec_l18Lz_4_σ ⊕ spec_l18Lz_4_ω) := fun x => (spec_l18Lz_4_step (x.1) (x.2.1) (x.2.2.1) (x.2.2.2))
noncomputable def spec_l18Lz_o4_1 (s : List UInt8) (X : List (List TC)) (pe : Int) (at0 : Int) : Bool := is (s.length ≤ 2000 ∧ X = [] ∧ pe = 0 ∧ at0 = 0)
noncomputable def spec_l18Lz_u4_1_1 (s : List UInt8) (X : List (List TC)) (pe : Int) (at0 : Int) : List (List TC) := bytesRow (lzF s).2.2
noncomputable def spec_l18Lz_u4_1_2 (s : List UInt8) (X : List (List TC)) (pe : Int) (at0 : Int) : Int := (((lzF s).2.1 : Nat) : Int)
noncomputable def spec_l18Lz_4_fin (s : List UInt8) (X : List (List TC)) (pe : Int) (at0 : Int) : Told spec_l18Lz_4_ω := (.leaf (spec_l18Lz_o4_1 s X pe at0) (s, (spec_l18Lz_u4_1_1 s X pe at0), (spec_l18Lz_u4_1_2 s X pe at0)))
def spec_l18Lz_4_sl (x : spec_l18Lz_4_σ) : List Slot := [⟨.val false [⟨.str, .sh, TC.s (x.1)⟩], ⟨0, 0⟩⟩, ⟨.val false [⟨.slice 5, .own true, TC.l (x.2.1)⟩], ⟨0, 0⟩⟩, ⟨.val false [⟨.int .i64, .sh, TC.i (x.2.2.1)⟩], ⟨0, 0⟩⟩, ⟨.val false [⟨.int .i64, .sh, TC.i (x.2.2.2)⟩], ⟨0, 0⟩⟩]
def spec_l18Lz_4_out : spec_l18Lz_4_ω → Ex × List Slot := (fun x => (.exit 0, [⟨.val false [⟨.str, .sh, TC.s (x.1)⟩], ⟨0, 0⟩⟩, Slot.none, ⟨.val false [⟨.slice 5, .own true, TC.l (x.2.1)⟩], ⟨0, 0⟩⟩, ⟨.val false [⟨.int .i64, .sh, TC.i (x.2.2)⟩], ⟨0, 0⟩⟩]))
noncomputable def spec_l18Lz_lo4 : List Slot → Option (Told (Ex × List Slot)) := fun s => match s with
  | [⟨.val false [⟨.str, .sh, TC.s s⟩], ⟨0, 0⟩⟩, ⟨.val false [⟨.slice 5, .own true, TC.l X⟩], ⟨0, 0⟩⟩, ⟨.val false [⟨.int .i64, .sh, TC.i pe⟩], ⟨0, 0⟩⟩, ⟨.val false [⟨.int .i64, .sh, TC.i at0⟩], ⟨0, 0⟩⟩] => some (((spec_l18Lz_4_fin s X pe at0)).map spec_l18Lz_4_out)
  | _ => .none
noncomputable def spec_l18Lz_lo : LoopTeller := fun r s => bif Nat.beq r 4 then spec_l18Lz_lo4 s else .none
theorem spec_l18Lz_4_r (s : List UInt8) (X : List (List TC)) (pe : Int) (at0 : Int) (fuel : Nat) : rounds (rnd tab FT D2 live 33 spec_l18Lz_lo 0 4) leave (fuel + 1) (spec_l18Lz_4_sl (s, X, pe, at0)) = ((spec_l18Lz_4_step s X pe at0)).run (goOn (fun s => rounds (rnd tab FT D2 live 33 spec_l18Lz_lo 0 4) leave fuel (spec_l18Lz_4_sl s)) fun w => some (spec_l18Lz_4_out w)) := by kernel_rfl
theorem spec_l18Lz_4_h (s : List UInt8) (X : List (List TC)) (pe : Int) (at0 : Int) (ow : spec_l18Lz_4_ω) : ((spec_l18Lz_4_fin s X pe at0)).val = some ow → ∃ fuel, loopN spec_l18Lz_4_st fuel (s, X, pe, at0) = some ow := by
  intro h
  refine auto_leaf (R := (s, bytesRow (lzF s).2.2, (((lzF s).2.1 : Nat) : Int))) (fun ho => ?_) h
  obtain ⟨h8, rfl, rfl, rfl⟩ := is_iff.1 ho
  have fin : ∀ q : Nat × Nat × List UInt8, q = lzS s (idxI (lzP s) s.length) → lzF s = q := fun q h => h.symm
  refine Exists.elim (loopN_along (step := spec_l18Lz_4_st) s.length (lzP s) (fun j => (s, bytesRow (lzS s j).2.2, (((lzS s j).2.1 : Nat) : Int), (((lzS s j).1 : Nat) : Int))) ((s, bytesRow (lzS s s.length).2.2, (((lzS s s.length).2.1 : Nat) : Int))) (fun j => (s, bytesRow (lzS s j).2.2, (((lzS s j).2.1 : Nat) : Int))) (fun j hj hb => ?_) (fun hb => ?_)) fun fuel key => ⟨fuel, key.trans ?_⟩
  rotate_left 2
  · unfold lzF
    cases ha : allI (lzP s) s.length with
    | true => rw [idxI_all ha]; rfl
    | false => rfl
  · obtain ⟨i1, i2, i3, i4⟩ := lz_inv j hb
    obtain ⟨b1, b2, b3⟩ := bm_le i3 (lzS s j).1
    have hs1 : lzS s (j + 1) = lzN s (lzS s j) := rfl
    constructor
    · intro hP
      unfold lzP at hP
      rw [decide_eq_true_eq] at hP
      show (spec_l18Lz_4_step s (bytesRow (lzS s j).2.2) (((lzS s j).2.1 : Nat) : Int) (((lzS s j).1 : Nat) : Int)).val = some (Sum.inl (s, bytesRow (lzS s (j + 1)).2.2, (((lzS s (j + 1)).2.1 : Nat) : Int), (((lzS s (j + 1)).1 : Nat) : Int)))
      rw [hs1]
      generalize lzS s j = q at i1 i2 i3 i4 b1 b2 b3 hP ⊢
      have hl := lits_len (s := (s.take q.1).drop q.2.1)
      have hl2 : ((s.take q.1).drop q.2.1).length = q.1 - q.2.1 := by rw [List.length_drop, List.length_take]; omega
      rw [hl2] at hl
      unfold spec_l18Lz_4_step lzN
      rw [spec_l18Match_h, Int.toNat_natCast, Int.toNat_natCast]
      have el : (spec_l18Literals_v (bytesRow q.2.2) ((s.take q.1).drop q.2.1)).2 = bytesRow (q.2.2 ++ lits ((s.take q.1).drop q.2.1)) := by rw [bytesRow_app]; rfl
      rw [el]
      refine Tr.t (by simp; omega) ?_
      refine Tr.t (is_true ⟨q.1, rfl, i3, h8⟩) ?_
      by_cases hn : (bm s q.1 q.1).1 < 3
      · rw [decide_eq_true hn]
        refine Tr.t (by rw [decide_eq_true_eq]; omega) ?_
        rw [Tr.val_ok, wrap64 (i := ((q.1 : Nat) : Int) + 1) (by omega) (by omega)]; rfl
      · rw [decide_eq_false hn]
        refine Tr.n (by rw [decide_eq_true_eq]; omega) ?_
        refine Tr.t (by omega) ?_
        refine Tr.t (is_true ⟨by rw [hl2]; omega, by rw [show (bytesRow q.2.2).length = q.2.2.length from by simp [bytesRow]]; omega⟩) ?_
        refine Tr.t (by unfold roomFor; simp only [show (tab 5).bytes = 1 from rfl, List.length_append, bytesRow, List.length_map, List.length_cons, List.length_nil]; omega) ?_
        rw [Tr.val_ok, wrap64 (i := ((q.1 : Nat) : Int) + (((bm s q.1 q.1).1 : Nat) : Int)) (by omega) (by omega), ← Int.natCast_add]
        simp only [cond_false]
        rw [bytesRow_app (q.2.2 ++ lits ((s.take q.1).drop q.2.1)), bytesRow_app (tok (bm s q.1 q.1).1), bytesRow_bytesL, bRows_two, tok_rows]; rfl
    · intro hP
      unfold lzP at hP
      have hP : ¬ (lzS s j).1 < s.length := by simpa using hP
      show (spec_l18Lz_4_step s (bytesRow (lzS s j).2.2) (((lzS s j).2.1 : Nat) : Int) (((lzS s j).1 : Nat) : Int)).val = _
      unfold spec_l18Lz_4_step
      refine Tr.n (by simp; omega) ?_
      rfl
  · obtain ⟨i1, i2, i3, i4⟩ := lz_inv s.length hb
    show (spec_l18Lz_4_step s (bytesRow (lzS s s.length).2.2) (((lzS s s.length).2.1 : Nat) : Int) (((lzS s s.length).1 : Nat) : Int)).val = _
    unfold spec_l18Lz_4_step
    refine Tr.n (by simp; omega) ?_
    rfl
theorem spec_l18Lz_is4 : LoopIs tab FT D2 live 33 spec_l18Lz_lo 0 4 := by
  refine loop_told (sl := spec_l18Lz_4_sl) (step := spec_l18Lz_4_st) (out := spec_l18Lz_4_out) (lor := spec_l18Lz_lo4) (fin := fun x => (spec_l18Lz_4_fin (x.1) (x.2.1) (x.2.2.1) (x.2.2.2))) (fun _ => rfl) ?_ (fun x n => spec_l18Lz_4_r x.1 x.2.1 x.2.2.1 x.2.2.2 n) (fun x ow => spec_l18Lz_4_h x.1 x.2.1 x.2.2.1 x.2.2.2 ow)
  intro s t h
  unfold spec_l18Lz_lo4 at h
  split at h
  · cases h; exact ⟨(_, _, _, _), rfl, rfl⟩
  · cases h
noncomputable def spec_l18Lz_t (s : List UInt8) : Tr (List UInt8) := (.ite ((spec_l18Lz_o4_1 s [] (0 : Int) (0 : Int)) = true) (.ite ((0 : Int) ≤ (spec_l18Lz_u4_1_2 s [] (0 : Int) (0 : Int)) ∧ (spec_l18Lz_u4_1_2 s [] (0 : Int) (0 : Int)) ≤ (s.length : Int) ∧ (s.length : Int) ≤ (s.length : Int)) (.ite ((spec_l18Literals_c (spec_l18Lz_u4_1_1 s [] (0 : Int) (0 : Int)) ((s.take ((s.length : Int)).toNat).drop ((spec_l18Lz_u4_1_2 s [] (0 : Int) (0 : Int))).toNat)) = true) (.ok (((spec_l18Literals_v (spec_l18Lz_u4_1_1 s [] (0 : Int) (0 : Int)) ((s.take ((s.length : Int)).toNat).drop ((spec_l18Lz_u4_1_2 s [] (0 : Int) (0 : Int))).toNat)).2).map byteOf))
    .no)
   .no)
  .no)
def spec_l18Lz_mk (p : List UInt8) : Res := [(false, [⟨.str, .sh, TC.s p⟩])]
noncomputable def spec_l18Lz_c (s : List UInt8) : Bool := is (s.length ≤ 2000)
noncomputable def spec_l18Lz_v (s : List UInt8) : List UInt8 := hid (lzV s)
theorem spec_l18Lz_l (s : List UInt8) : (spec_l18Lz_c s) = true → (spec_l18Lz_t s).val = some (spec_l18Lz_v s) := by
  intro h
  have h8 := is_iff.1 h
  obtain ⟨i1, i2, i3, i4⟩ := lz_inv (s := s) (idxI (lzP s) s.length) (fun k hk => idxI_before hk)
  have hi : idxI (lzP s) s.length ≤ s.length := idxI_le
  unfold spec_l18Lz_t spec_l18Lz_v
  rw [hid_eq]
  refine Tr.t (is_true ⟨h8, rfl, rfl, rfl⟩) ?_
  have e0 : spec_l18Lz_u4_1_2 s [] 0 0 = (((lzF s).2.1 : Nat) : Int) := rfl
  have e1 : spec_l18Lz_u4_1_1 s [] 0 0 = bytesRow (lzF s).2.2 := rfl
  rw [e0, e1, Int.toNat_natCast, Int.toNat_natCast, List.take_length]
  have j1 : (lzF s).2.1 ≤ s.length := Nat.le_trans i2 i3
  have j2 : (lzF s).2.2.length ≤ 2 * (lzF s).2.1 + 3 * idxI (lzP s) s.length := i4
  have hl := lits_len (s := s.drop (lzF s).2.1)
  rw [List.length_drop] at hl
  refine Tr.t (by omega) ?_
  refine Tr.t (is_true ⟨by rw [List.length_drop]; omega, by rw [show (bytesRow (lzF s).2.2).length = (lzF s).2.2.length from by simp [bytesRow]]; omega⟩) ?_
  rw [Tr.val_ok]
  show some ((bytesRow (lzF s).2.2 ++ bytesRow (lits (s.drop (lzF s).2.1))).map byteOf) = some (lzV s)
  rw [← bytesRow_app, bytesRow_of]; rfl
noncomputable def spec_l18Lz_S : List Arg → Option (Bool × Res) := fun xs => match xs with
  | [(false, [(.str, TC.s s)])] => some ((spec_l18Lz_c s), spec_l18Lz_mk (spec_l18Lz_v s))
  | _ => .none
theorem spec_l18Lz_e (s : List UInt8) : runF tab FT D2 live 33 spec_l18Lz_lo [(false, [(.str, TC.s s)])] = (spec_l18Lz_t s).run fun p => some (spec_l18Lz_mk p) := by kernel_rfl
theorem spec_l18Lz_s : ∀ xs r, spec_l18Lz_S xs = some (true, r) → runF tab FT D2 live 33 spec_l18Lz_lo xs = some r := by
  intro xs r h
  unfold spec_l18Lz_S at h
  split at h
  · simp only [Option.some.injEq, Prod.mk.injEq] at h
    obtain ⟨h1, rfl⟩ := h
    exact fun_told (spec_l18Lz_e _) (spec_l18Lz_l _) h1
  · cases h
noncomputable def D3 : Dt := also D2 33 spec_l18Lz_S
theorem d3 : DOk Go.Proofs.Try.prog tab D3 := d2.also mixed_ok tab_ok names_ok (fnLoops_one (by kernel_rfl) spec_l18Lz_is4) spec_l18Lz_s
theorem spec_l18Lz_h {s : List UInt8} : spec_l18Lz_v s = lzV s := hid_eq _
/-! spec_LzEncode -/
noncomputable def spec_LzEncode_t (s : List UInt8) : Tr (List UInt8) := (.ite ((decide ((s.length : Int) > (1100 : Int))) = true) (.ok ([]))
  (.ite ((spec_l18Lz_c s) = true) (.ok (spec_l18Lz_v s))
   .no))
def spec_LzEncode_mk (p : List UInt8) : Res := [(false, [⟨.str, .sh, TC.s p⟩])]
noncomputable def spec_LzEncode_c (s : List UInt8) : Bool := (bif (decide ((s.length : Int) > (1100 : Int))) then true else ((spec_l18Lz_c s) && true))
noncomputable def spec_LzEncode_v (s : List UInt8) : List UInt8 := (bif (decide ((s.length : Int) > (1100 : Int))) then [] else (spec_l18Lz_v s))
theorem spec_LzEncode_l (s : List UInt8) : (spec_LzEncode_c s) = true → (spec_LzEncode_t s).val = some (spec_LzEncode_v s) := by
  unfold spec_LzEncode_t spec_LzEncode_v spec_LzEncode_c
  exact fun h => (Tr.ss h (fun h => rfl) (fun h => (Tr.gb h fun h => rfl)))
noncomputable def spec_LzEncode_S : List Arg → Option (Bool × Res) := fun xs => match xs with
  | [(false, [(.str, TC.s s)])] => some ((spec_LzEncode_c s), spec_LzEncode_mk (spec_LzEncode_v s))
  | _ => .none
theorem spec_LzEncode_e (s : List UInt8) : runF tab FT D3 live 18 noLoops [(false, [(.str, TC.s s)])] = (spec_LzEncode_t s).run fun p => some (spec_LzEncode_mk p) := by kernel_rfl
theorem spec_LzEncode_s : ∀ xs r, spec_LzEncode_S xs = some (true, r) → runF tab FT D3 live 18 noLoops xs = some r := by
  intro xs r h
  unfold spec_LzEncode_S at h
  split at h
  · simp only [Option.some.injEq, Prod.mk.injEq] at h
    obtain ⟨h1, rfl⟩ := h
    exact fun_told (spec_LzEncode_e _) (spec_LzEncode_l _) h1
  · cases h
noncomputable def D4 : Dt := also D3 18 spec_LzEncode_S
theorem d4 : DOk Go.Proofs.Try.prog tab D4 := d3.also mixed_ok tab_ok names_ok noLoops_ok spec_LzEncode_s
theorem spec_LzEncode_cc {s : List UInt8}  : (spec_LzEncode_c s) = true := by
  unfold spec_LzEncode_c
  refine bifT (fun b1 => ?_) (fun b1 => ?_)
  · skip
    rfl
  · skip
    refine andT (by exact is_true (by have := of_decide_eq_false b1; omega)) ?_
    rfl
/-! impl_matchAt -/
abbrev impl_matchAt_6_σ := List UInt8 × Int × Int × Int × Int × Int
abbrev impl_matchAt_6_ω := (List UInt8 × Int × Int × Int × Int × Int)
noncomputable def impl_matchAt_6_step (s : List UInt8) (at0 : Int) (x : Int) (y : Int) (d : Int) (n : Int) : Tr (impl_matchAt_6_σ ⊕ impl_matchAt_6_ω) := (.ite ((decide (n < (130 : Int))) = true) (.ite ((decide ((IntKind.wrap .i64 (at0 + n)) < (s.length : Int))) = true) (.ite ((0 : Int) ≤ (IntKind.wrap .i64 (at0 + n)) ∧ (IntKind.wrap .i64 (at0 + n)) < (s.length : Int)) (.ite ((0 : Int) ≤ (IntKind.wrap .i64 ((IntKind.wrap .i64 (at0 + n)) - d)) ∧ (IntKind.wrap .i64 ((IntKind.wrap .i64 (at0 + n)) - d)) < (s.length : Int)) (.ite ((((s.getD ((IntKind.wrap .i64 (at0 + n))).toNat 0).toNat : Int) == ((s.getD ((IntKind.wrap .i64 ((IntKind.wrap .i64 (at0 + n)) - d))).toNat 0).toNat : Int)) = true) (.ok (.inl (s, at0, x, y, d, (IntKind.wrap .i64 (n + (1 : Int))))))
      (.ok (.inr (s, at0, x, y, d, n))))
     .no)
    .no)
   (.ok (.inr (s, at0, x, y, d, n))))
  (.ok (.inr (s, at0, x, y, d, n))))
noncomputable def impl_matchAt_6_st : impl_matchAt_6_σ → Tr (impl_matchAt_6_σ ⊕ impl_matchAt_6_ω) := fun x => (impl_matchAt_6_step (x.1) (x.2.1) (x.2.2.1) (x.2.2.2.1) (x.2.2.2.2.1) (x.2.2.2.2.2))
noncomputable def impl_matchAt_o6_1 (s : List UInt8) (at0 : Int) (x : Int) (y : Int) (d : Int) (n : Int) : Bool := is (∃ an dn : Nat, at0 = (an : Int) ∧ d = (dn : Int) ∧ 1 ≤ dn ∧ dn ≤ an ∧ an ≤ s.length ∧ s.length ≤ 2000 ∧ n = 0)
noncomputable def impl_matchAt_u6_1_5 (s : List UInt8) (at0 : Int) (x : Int) (y : Int) (d : Int) (n : Int) : Int := ((mt s at0.toNat d.toNat : Nat) : Int)
noncomputable def impl_matchAt_6_fin (s : List UInt8) (at0 : Int) (x : Int) (y : Int) (d : Int) (n : Int) : Told impl_matchAt_6_ω := (.leaf (impl_matchAt_o6_1 s at0 x y d n) (s, at0, x, y, d, (impl_matchAt_u6_1_5 s at0 x y d n)))
def impl_matchAt_6_sl (x : impl_matchAt_6_σ) : List Slot := [⟨.val false [⟨.str, .sh, TC.s (x.1)⟩], ⟨0, 0⟩⟩, ⟨.val false [⟨.int .i64, .sh, TC.i (x.2.1)⟩], ⟨0, 0⟩⟩, ⟨.val false [⟨.int .i64, .sh, TC.i (x.2.2.1)⟩], ⟨0, 0⟩⟩, ⟨.val false [⟨.int .i64, .sh, TC.i (x.2.2.2.1)⟩], ⟨0, 0⟩⟩, ⟨.val false [⟨.int .i64, .sh, TC.i (x.2.2.2.2.1)⟩], ⟨0, 0⟩⟩, ⟨.val false [⟨.int .i64, .sh, TC.i (x.2.2.2.2.2)⟩], ⟨0, 0⟩⟩]
def impl_matchAt_6_out : impl_matchAt_6_ω → Ex × List Slot := (fun x => (.exit 2, [⟨.val false [⟨.str, .sh, TC.s (x.1)⟩], ⟨0, 0⟩⟩, ⟨.val false [⟨.int .i64, .sh, TC.i (x.2.1)⟩], ⟨0, 0⟩⟩, Slot.none, Slot.none, ⟨.val false [⟨.int .i64, .sh, TC.i (x.2.2.1)⟩], ⟨0, 0⟩⟩, ⟨.val false [⟨.int .i64, .sh, TC.i (x.2.2.2.1)⟩], ⟨0, 0⟩⟩, ⟨.val false [⟨.int .i64, .sh, TC.i (x.2.2.2.2.1)⟩], ⟨0, 0⟩⟩, ⟨.val false [⟨.int .i64, .sh, TC.i (x.2.2.2.2.2)⟩], ⟨0, 0⟩⟩]))
noncomputable def impl_matchAt_lo6 : List Slot → Option (Told (Ex × List Slot)) := fun s => match s with
  | [⟨.val false [⟨.str, .sh, TC.s s⟩], ⟨0, 0⟩⟩, ⟨.val false [⟨.int .i64, .sh, TC.i at0⟩], ⟨0, 0⟩⟩, ⟨.val false [⟨.int .i64, .sh, TC.i x⟩], ⟨0, 0⟩⟩, ⟨.val false [⟨.int .i64, .sh, TC.i y⟩], ⟨0, 0⟩⟩, ⟨.val false [⟨.int .i64, .sh, TC.i d⟩], ⟨0, 0⟩⟩, ⟨.val false [⟨.int .i64, .sh, TC.i n⟩], ⟨0, 0⟩⟩] => some (((impl_matchAt_6_fin s at0 x y d n)).map impl_matchAt_6_out)
  | _ => .none
abbrev impl_matchAt_3_σ := List UInt8 × Int × Int × Int × Int
abbrev impl_matchAt_3_ω := (Int × Int)
noncomputable def impl_matchAt_3_step (s : List UInt8) (at0 : Int) (x : Int) (y : Int) (d : Int) : Tr (impl_matchAt_3_σ ⊕ impl_matchAt_3_ω) := (.ite ((decide (d ≤ at0)) = true) (.ite ((impl_matchAt_o6_1 s at0 x y d (0 : Int)) = true) (.ite ((decide ((impl_matchAt_u6_1_5 s at0 x y d (0 : Int)) > x)) = true) (.ok (.inl (s, at0, (impl_matchAt_u6_1_5 s at0 x y d (0 : Int)), d, (IntKind.wrap .i64 (d + (1 : Int))))))
    (.ok (.inl (s, at0, x, y, (IntKind.wrap .i64 (d + (1 : Int)))))))
   .no)
  (.ok (.inr (x, y))))
noncomputable def impl_matchAt_3_st : impl_matchAt_3_σ → Tr (impl_matchAt_3_σ ⊕ impl_matchAt_3_ω) := fun x => (impl_matchAt_3_step (x.1) (x.2.1) (x.2.2.1) (x.2.2.2.1) (x.2.2.2.2))
noncomputable def impl_matchAt_o3_1 (s : List UInt8) (at0 : Int) (x : Int) (y : Int) (d : Int) : Bool := is (∃ an : Nat, at0 = (an : Int) ∧ an ≤ s.length ∧ s.length ≤ 2000 ∧ x = 0 ∧ y = 0 ∧ d = 1)
noncomputable def impl_matchAt_u3_1_0 (s : List UInt8) (at0 : Int) (x : Int) (y : Int) (d : Int) : Int := (((bm s at0.toNat at0.toNat).1 : Nat) : Int)
noncomputable def impl_matchAt_u3_1_1 (s : List UInt8) (at0 : Int) (x : Int) (y : Int) (d : Int) : Int := (((bm s at0.toNat at0.toNat).2 : Nat) : Int)
noncomputable def impl_matchAt_3_fin (s : List UInt8) (at0 : Int) (x : Int) (y : Int) (d : Int) : Told impl_matchAt_3_ω := (.leaf (impl_matchAt_o3_1 s at0 x y d) ((impl_matchAt_u3_1_0 s at0 x y d), (impl_matchAt_u3_1_1 s at0 x y d)))
def impl_matchAt_3_sl (x : impl_matchAt_3_σ) : List Slot := [⟨.val false [⟨.str, .sh, TC.s (x.1)⟩], ⟨0, 0⟩⟩, ⟨.val false [⟨.int .i64, .sh, TC.i (x.2.1)⟩], ⟨0, 0⟩⟩, ⟨.val false [⟨.int .i64, .sh, TC.i (x.2.2.1)⟩], ⟨0, 0⟩⟩, ⟨.val false [⟨.int .i64, .sh, TC.i (x.2.2.2.1)⟩], ⟨0, 0⟩⟩, ⟨.val false [⟨.int .i64, .sh, TC.i (x.2.2.2.2)⟩], ⟨0, 0⟩⟩]
def impl_matchAt_3_out : impl_matchAt_3_ω → Ex × List Slot := (fun x => (.exit 0, [Slot.none, Slot.none, ⟨.val false [⟨.int .i64, .sh, TC.i (x.1)⟩], ⟨0, 0⟩⟩, ⟨.val false [⟨.int .i64, .sh, TC.i (x.2)⟩], ⟨0, 0⟩⟩]))
noncomputable def impl_matchAt_lo3 : List Slot → Option (Told (Ex × List Slot)) := fun s => match s with
  | [⟨.val false [⟨.str, .sh, TC.s s⟩], ⟨0, 0⟩⟩, ⟨.val false [⟨.int .i64, .sh, TC.i at0⟩], ⟨0, 0⟩⟩, ⟨.val false [⟨.int .i64, .sh, TC.i x⟩], ⟨0, 0⟩⟩, ⟨.val false [⟨.int .i64, .sh, TC.i y⟩], ⟨0, 0⟩⟩, ⟨.val false [⟨.int .i64, .sh, TC.i d⟩], ⟨0, 0⟩⟩] => some (((impl_matchAt_3_fin s at0 x y d)).map impl_matchAt_3_out)
  | _ => .none
noncomputable def impl_matchAt_lo : LoopTeller := fun r s => bif Nat.beq r 3 then impl_matchAt_lo3 s else bif Nat.beq r 6 then impl_matchAt_lo6 s else .none
theorem impl_matchAt_6_r (s : List UInt8) (at0 : Int) (x : Int) (y : Int) (d : Int) (n : Int) (fuel : Nat) : rounds (rnd tab FT D4 live 49 impl_matchAt_lo 1 6) leave (fuel + 1) (impl_matchAt_6_sl (s, at0, x, y, d, n)) = ((impl_matchAt_6_step s at0 x y d n)).run (goOn (fun s => rounds (rnd tab FT D4 live 49 impl_matchAt_lo 1 6) leave fuel (impl_matchAt_6_sl s)) fun w => some (impl_matchAt_6_out w)) := by kernel_rfl
theorem impl_matchAt_6_h (s : List UInt8) (at0 : Int) (x : Int) (y : Int) (d : Int) (n : Int) (ow : impl_matchAt_6_ω) : ((impl_matchAt_6_fin s at0 x y d n)).val = some ow → ∃ fuel, loopN impl_matchAt_6_st fuel (s, at0, x, y, d, n) = some ow := by
  intro h
  refine auto_leaf (R := (s, at0, x, y, d, ((mt s at0.toNat d.toNat : Nat) : Int))) (fun ho => ?_) h
  obtain ⟨an, dn, rfl, rfl, h1, h2, h3, h4, rfl⟩ := is_iff.1 ho
  simp only [Int.toNat_natCast]
  refine Exists.elim (loopN_along (step := impl_matchAt_6_st) 130 (mP s an dn) (fun j => (s, (an : Int), x, y, (dn : Int), (j : Int))) (s, (an : Int), x, y, (dn : Int), ((130 : Nat) : Int)) (fun j => (s, (an : Int), x, y, (dn : Int), (j : Int))) (fun j hj hb => ?_) (fun hb => ?_)) fun fuel key => ⟨fuel, key.trans ?_⟩
  rotate_left 2
  · unfold mt
    cases ha : allI (mP s an dn) 130 with
    | true => rw [idxI_all ha]; rfl
    | false => rfl
  · have hw : IntKind.wrap .i64 ((an : Int) + (j : Int)) = ((an + j : Nat) : Int) := by rw [wrap64 (by omega) (by omega)]; omega
    have hw2 : IntKind.wrap .i64 (((an + j : Nat) : Int) - (dn : Int)) = ((an + j - dn : Nat) : Int) := by rw [wrap64 (by omega) (by omega)]; omega
    constructor
    · intro hP
      unfold mP at hP
      rw [Bool.and_eq_true, decide_eq_true_eq] at hP
      obtain ⟨p1, p2⟩ := hP
      show (impl_matchAt_6_step s (an : Int) x y (dn : Int) (j : Int)).val = _
      unfold impl_matchAt_6_step
      rw [hw, hw2, Int.toNat_natCast, Int.toNat_natCast, beqI]
      refine Tr.t (by simp; omega) ?_
      refine Tr.t (by simp; omega) ?_
      refine Tr.t (by omega) ?_
      refine Tr.t (by omega) ?_
      refine Tr.t p2 ?_
      rw [Tr.val_ok, wrap64 (i := (j : Int) + 1) (by omega) (by omega)]; rfl
    · intro hP
      show (impl_matchAt_6_step s (an : Int) x y (dn : Int) (j : Int)).val = _
      unfold impl_matchAt_6_step
      rw [hw, hw2, Int.toNat_natCast, Int.toNat_natCast, beqI]
      by_cases h5 : an + j < s.length
      · unfold mP at hP
        rw [decide_eq_true h5, Bool.true_and] at hP
        refine Tr.t (by simp; omega) ?_
        refine Tr.t (by simp; omega) ?_
        refine Tr.t (by omega) ?_
        refine Tr.t (by omega) ?_
        refine Tr.n (by rw [hP]; simp) ?_
        rfl
      · refine Tr.t (by simp; omega) ?_
        refine Tr.n (by simp; omega) ?_
        rfl
  · have hw : IntKind.wrap .i64 ((an : Int) + ((130 : Nat) : Int)) = ((an + 130 : Nat) : Int) := by rw [wrap64 (by omega) (by omega)]; omega
    show (impl_matchAt_6_step s (an : Int) x y (dn : Int) ((130 : Nat) : Int)).val = _
    unfold impl_matchAt_6_step
    refine Tr.n (by simp) ?_
    rfl
theorem impl_matchAt_is6 : LoopIs tab FT D4 live 49 impl_matchAt_lo 1 6 := by
  refine loop_told (sl := impl_matchAt_6_sl) (step := impl_matchAt_6_st) (out := impl_matchAt_6_out) (lor := impl_matchAt_lo6) (fin := fun x => (impl_matchAt_6_fin (x.1) (x.2.1) (x.2.2.1) (x.2.2.2.1) (x.2.2.2.2.1) (x.2.2.2.2.2))) (fun _ => rfl) ?_ (fun x n => impl_matchAt_6_r x.1 x.2.1 x.2.2.1 x.2.2.2.1 x.2.2.2.2.1 x.2.2.2.2.2 n) (fun x ow => impl_matchAt_6_h x.1 x.2.1 x.2.2.1 x.2.2.2.1 x.2.2.2.2.1 x.2.2.2.2.2 ow)
  intro s t h
  unfold impl_matchAt_lo6 at h
  split at h
  · cases h; exact ⟨(_, _, _, _, _, _), rfl, rfl⟩
  · cases h
theorem impl_matchAt_3_r (s : List UInt8) (at0 : Int) (x : Int) (y : Int) (d : Int) (fuel : Nat) : rounds (rnd tab FT D4 live 49 impl_matchAt_lo 0 3) leave (fuel + 1) (impl_matchAt_3_sl (s, at0, x, y, d)) = ((impl_matchAt_3_step s at0 x y d)).run (goOn (fun s => rounds (rnd tab FT D4 live 49 impl_matchAt_lo 0 3) leave fuel (impl_matchAt_3_sl s)) fun w => some (impl_matchAt_3_out w)) := by kernel_rfl
theorem impl_matchAt_3_h (s : List UInt8) (at0 : Int) (x : Int) (y : Int) (d : Int) (ow : impl_matchAt_3_ω) : ((impl_matchAt_3_fin s at0 x y d)).val = some ow → ∃ fuel, loopN impl_matchAt_3_st fuel (s, at0, x, y, d) = some ow := by
  intro h
  refine auto_leaf (R := ((((bm s at0.toNat at0.toNat).1 : Nat) : Int), (((bm s at0.toNat at0.toNat).2 : Nat) : Int))) (fun ho => ?_) h
  obtain ⟨an, rfl, h1, h2, rfl, rfl, rfl⟩ := is_iff.1 ho
  simp only [Int.toNat_natCast]
  refine ⟨an + 1, Eq.trans (congrArg (loopN impl_matchAt_3_st (an + 1)) (by simp [bm])) (loopN_run (step := impl_matchAt_3_st) (N := an) (fun j => (s, (an : Int), (((bm s an j).1 : Nat) : Int), (((bm s an j).2 : Nat) : Int), ((j + 1 : Nat) : Int))) (fun j hj => ?_) ?_ an 0 (by omega))⟩
  · have eu : impl_matchAt_u6_1_5 s (an : Int) (((bm s an j).1 : Nat) : Int) (((bm s an j).2 : Nat) : Int) ((j + 1 : Nat) : Int) 0 = ((mt s an (j + 1) : Nat) : Int) := by
      unfold impl_matchAt_u6_1_5
      rw [Int.toNat_natCast, Int.toNat_natCast]
    have hb : bm s an (j + 1) = bif decide (mt s an (j + 1) > (bm s an j).1) then (mt s an (j + 1), j + 1) else bm s an j := rfl
    show (impl_matchAt_3_step s (an : Int) (((bm s an j).1 : Nat) : Int) (((bm s an j).2 : Nat) : Int) ((j + 1 : Nat) : Int)).val = _
    unfold impl_matchAt_3_step
    rw [eu, wrap64 (i := ((j + 1 : Nat) : Int) + 1) (by omega) (by omega)]
    refine Tr.t (by simp; omega) ?_
    refine Tr.t (is_true ⟨an, j + 1, rfl, rfl, by omega, by omega, h1, h2, rfl⟩) ?_
    by_cases hd : mt s an (j + 1) > (bm s an j).1
    · rw [decide_eq_true hd] at hb
      refine Tr.t (by rw [decide_eq_true_eq]; omega) ?_
      show _ = some (Sum.inl (s, (an : Int), (((bm s an (j + 1)).1 : Nat) : Int), (((bm s an (j + 1)).2 : Nat) : Int), ((j + 1 + 1 : Nat) : Int)))
      rw [hb]; rfl
    · rw [decide_eq_false hd] at hb
      refine Tr.n (by rw [decide_eq_true_eq]; omega) ?_
      show _ = some (Sum.inl (s, (an : Int), (((bm s an (j + 1)).1 : Nat) : Int), (((bm s an (j + 1)).2 : Nat) : Int), ((j + 1 + 1 : Nat) : Int)))
      rw [hb]; rfl
  · show (impl_matchAt_3_step s (an : Int) (((bm s an an).1 : Nat) : Int) (((bm s an an).2 : Nat) : Int) ((an + 1 : Nat) : Int)).val = _
    unfold impl_matchAt_3_step
    refine Tr.n (by simp; omega) ?_
    rfl
theorem impl_matchAt_is3 : LoopIs tab FT D4 live 49 impl_matchAt_lo 0 3 := by
  refine loop_told (sl := impl_matchAt_3_sl) (step := impl_matchAt_3_st) (out := impl_matchAt_3_out) (lor := impl_matchAt_lo3) (fin := fun x => (impl_matchAt_3_fin (x.1) (x.2.1) (x.2.2.1) (x.2.2.2.1) (x.2.2.2.2))) (fun _ => rfl) ?_ (fun x n => impl_matchAt_3_r x.1 x.2.1 x.2.2.1 x.2.2.2.1 x.2.2.2.2 n) (fun x ow => impl_matchAt_3_h x.1 x.2.1 x.2.2.1 x.2.2.2.1 x.2.2.2.2 ow)
  intro s t h
  unfold impl_matchAt_lo3 at h
  split at h
  · cases h; exact ⟨(_, _, _, _, _), rfl, rfl⟩
  · cases h
noncomputable def impl_matchAt_t (s : List UInt8) (at0 : Int) : Tr (Int × Int) := (.ite ((impl_matchAt_o3_1 s at0 (0 : Int) (0 : Int) (1 : Int)) = true) (.ok ((impl_matchAt_u3_1_0 s at0 (0 : Int) (0 : Int) (1 : Int)), (impl_matchAt_u3_1_1 s at0 (0 : Int) (0 : Int) (1 : Int))))
  .no)
def impl_matchAt_mk (p : Int × Int) : Res := [(false, [⟨.int .i64, .sh, TC.i (p.1)⟩]), (false, [⟨.int .i64, .sh, TC.i (p.2)⟩])]
noncomputable def impl_matchAt_c (s : List UInt8) (at0 : Int) : Bool := is (∃ an : Nat, at0 = (an : Int) ∧ an ≤ s.length ∧ s.length ≤ 2000)
noncomputable def impl_matchAt_v (s : List UInt8) (at0 : Int) : Int × Int := hid ((((bm s at0.toNat at0.toNat).1 : Nat) : Int), (((bm s at0.toNat at0.toNat).2 : Nat) : Int))
theorem impl_matchAt_l (s : List UInt8) (at0 : Int) : (impl_matchAt_c s at0) = true → (impl_matchAt_t s at0).val = some (impl_matchAt_v s at0) := by
  intro h
  obtain ⟨an, rfl, h1, h2⟩ := is_iff.1 h
  unfold impl_matchAt_t impl_matchAt_v
  rw [hid_eq]
  refine Tr.t (is_true ⟨an, rfl, h1, h2, rfl, rfl, rfl⟩) ?_
  rfl
noncomputable def impl_matchAt_S : List Arg → Option (Bool × Res) := fun xs => match xs with
  | [(false, [(.str, TC.s s)]), (false, [(.int .i64, TC.i at0)])] => some ((impl_matchAt_c s at0), impl_matchAt_mk (impl_matchAt_v s at0))
  | _ => .none
theorem impl_matchAt_e (s : List UInt8) (at0 : Int) : runF tab FT D4 live 49 impl_matchAt_lo [(false, [(.str, TC.s s)]), (false, [(.int .i64, TC.i at0)])] = (impl_matchAt_t s at0).run fun p => some (impl_matchAt_mk p) := by kernel_rfl
theorem impl_matchAt_s : ∀ xs r, impl_matchAt_S xs = some (true, r) → runF tab FT D4 live 49 impl_matchAt_lo xs = some r := by
  intro xs r h
  unfold impl_matchAt_S at h
  split at h
  · simp only [Option.some.injEq, Prod.mk.injEq] at h
    obtain ⟨h1, rfl⟩ := h
    exact fun_told (impl_matchAt_e _ _) (impl_matchAt_l _ _) h1
  · cases h
noncomputable def D5 : Dt := also D4 49 impl_matchAt_S
theorem d5 : DOk Go.Proofs.Try.prog tab D5 := d4.also mixed_ok tab_ok names_ok (fnLoops_two (by kernel_rfl) impl_matchAt_is3 impl_matchAt_is6) impl_matchAt_s
theorem impl_matchAt_h {s : List UInt8} {a : Int} : impl_matchAt_v s a = ((((bm s a.toNat a.toNat).1 : Nat) : Int), (((bm s a.toNat a.toNat).2 : Nat) : Int)) := hid_eq _
/-! impl_literals -/
abbrev impl_literals_2_σ := List UInt8 × List UInt8
abbrev impl_literals_2_ω := (List UInt8)
noncomputable def impl_literals_2_step (s : List UInt8) (out : List UInt8) : Tr (impl_literals_2_σ ⊕ impl_literals_2_ω) := (.ite ((!(s == [])) = true) (.ite ((0 : Int) ≤ (0 : Int) ∧ (0 : Int) ≤ (if (s.length : Int) < (128 : Int) then (s.length : Int) else (128 : Int)) ∧ (if (s.length : Int) < (128 : Int) then (s.length : Int) else (128 : Int)) ≤ (s.length : Int)) (.ite (((([[TC.i (IntKind.wrap .u8 (IntKind.wrap .i64 ((if (s.length : Int) < (128 : Int) then (s.length : Int) else (128 : Int)) - (1 : Int))))]].map byteOf).length + ((s.take ((if (s.length : Int) < (128 : Int) then (s.length : Int) else (128 : Int))).toNat).drop ((0 : Int)).toNat).length : Nat) : Int) ≤ 9223372036854775807) (.ite (fits (out.length + (([[TC.i (IntKind.wrap .u8 (IntKind.wrap .i64 ((if (s.length : Int) < (128 : Int) then (s.length : Int) else (128 : Int)) - (1 : Int))))]].map byteOf) ++ ((s.take ((if (s.length : Int) < (128 : Int) then (s.length : Int) else (128 : Int))).toNat).drop ((0 : Int)).toNat)).length)) (.ite ((0 : Int) ≤ (if (s.length : Int) < (128 : Int) then (s.length : Int) else (128 : Int)) ∧ (if (s.length : Int) < (128 : Int) then (s.length : Int) else (128 : Int)) ≤ (s.length : Int) ∧ (s.length : Int) ≤ (s.length : Int)) (.ok (.inl (((s.take ((s.length : Int)).toNat).drop ((if (s.length : Int) < (128 : Int) then (s.length : Int) else (128 : Int))).toNat), (out ++ (([[TC.i (IntKind.wrap .u8 (IntKind.wrap .i64 ((if (s.length : Int) < (128 : Int) then (s.length : Int) else (128 : Int)) - (1 : Int))))]].map byteOf) ++ ((s.take ((if (s.length : Int) < (128 : Int) then (s.length : Int) else (128 : Int))).toNat).drop ((0 : Int)).toNat))))))
      .no)
     .no)
    .no)
   .no)
  (.ok (.inr out)))
noncomputable def impl_literals_2_st : impl_literals_2_σ → Tr (impl_literals_2_σ ⊕ impl_literals_2_ω) := fun x => (impl_literals_2_step (x.1) (x.2))
noncomputable def impl_literals_o2_1 (s : List UInt8) (out : List UInt8) : Bool := is (s.length ≤ 2000 ∧ out = [])
noncomputable def impl_literals_u2_1 (s : List UInt8) (out : List UInt8) : List UInt8 := lits s
noncomputable def impl_literals_2_fin (s : List UInt8) (out : List UInt8) : Told impl_literals_2_ω := (.leaf (impl_literals_o2_1 s out) (impl_literals_u2_1 s out))
def impl_literals_2_sl (x : impl_literals_2_σ) : List Slot := [⟨.val false [⟨.str, .sh, TC.s (x.1)⟩], ⟨0, 0⟩⟩, ⟨.bld 45 5 (x.2), ⟨0, 0⟩⟩]
def impl_literals_2_out : impl_literals_2_ω → Ex × List Slot := (fun x => (.exit 0, [Slot.none, ⟨.bld 45 5 x, ⟨0, 0⟩⟩]))
noncomputable def impl_literals_lo2 : List Slot → Option (Told (Ex × List Slot)) := fun s => match s with
  | [⟨.val false [⟨.str, .sh, TC.s s⟩], ⟨0, 0⟩⟩, ⟨.bld 45 5 out, ⟨0, 0⟩⟩] => some (((impl_literals_2_fin s out)).map impl_literals_2_out)
  | _ => .none
noncomputable def impl_literals_lo : LoopTeller := fun r s => bif Nat.beq r 2 then impl_literals_lo2 s else .none
theorem impl_literals_2_r (s : List UInt8) (out : List UInt8) (fuel : Nat) : rounds (rnd tab FT D5 live 50 impl_literals_lo 0 2) leave (fuel + 1) (impl_literals_2_sl (s, out)) = ((impl_literals_2_step s out)).run (goOn (fun s => rounds (rnd tab FT D5 live 50 impl_literals_lo 0 2) leave fuel (impl_literals_2_sl s)) fun w => some (impl_literals_2_out w)) := by kernel_rfl
theorem impl_literals_2_h (s : List UInt8) (out : List UInt8) (ow : impl_literals_2_ω) : ((impl_literals_2_fin s out)).val = some ow → ∃ fuel, loopN impl_literals_2_st fuel (s, out) = some ow := by
  intro h
  refine auto_leaf (R := lits s) (fun ho => ?_) h
  obtain ⟨h8, rfl⟩ := is_iff.1 ho
  refine ⟨litR s + 1, Eq.trans (congrArg (loopN impl_literals_2_st (litR s + 1)) (by simp [litL])) (loopN_run (step := impl_literals_2_st) (N := litR s) (fun j => (s.drop (128 * j), litL s j)) (fun j hj => ?_) ?_ (litR s) 0 (by omega))⟩
  · have hl := litL_len (s := s) j (by omega)
    have hj2 : 128 * j < s.length := by unfold litR at hj; omega
    have hd : (s.drop (128 * j)).length = s.length - 128 * j := List.length_drop
    have hn : lN s j ≤ s.length - 128 * j ∧ lN s j ≤ 128 := by unfold lN; omega
    show (impl_literals_2_step (s.drop (128 * j)) (litL s j)).val = _
    unfold impl_literals_2_step
    rw [lN_if, Int.toNat_natCast, Int.toNat_natCast, show ((0 : Int)).toNat = 0 from rfl, List.drop_zero, List.take_length, lN_drop]
    refine Tr.t (ne_nil (by omega)) ?_
    refine Tr.t (by omega) ?_
    refine Tr.t (by simp only [List.length_map, List.length_singleton, List.length_take, hd]; omega) ?_
    refine Tr.t (show ((_ : Nat) : Int) ≤ 140737488355328 from by simp only [List.length_append, List.length_map, List.length_singleton, List.length_take, hd]; omega) ?_
    refine Tr.t (by omega) ?_
    rfl
  · show (impl_literals_2_step (s.drop (128 * litR s)) (litL s (litR s))).val = _
    unfold impl_literals_2_step
    rw [List.drop_of_length_le (by unfold litR; omega)]
    refine Tr.n (by simp) ?_
    rfl
theorem impl_literals_is2 : LoopIs tab FT D5 live 50 impl_literals_lo 0 2 := by
  refine loop_told (sl := impl_literals_2_sl) (step := impl_literals_2_st) (out := impl_literals_2_out) (lor := impl_literals_lo2) (fin := fun x => (impl_literals_2_fin (x.1) (x.2))) (fun _ => rfl) ?_ (fun x n => impl_literals_2_r x.1 x.2 n) (fun x ow => impl_literals_2_h x.1 x.2 ow)
  intro s t h
  unfold impl_literals_lo2 at h
  split at h
  · cases h; exact ⟨(_, _), rfl, rfl⟩
  · cases h
noncomputable def impl_literals_t (s : List UInt8) : Tr (List UInt8) := (.ite ((impl_literals_o2_1 s []) = true) (.ok (impl_literals_u2_1 s []))
  .no)
def impl_literals_mk (p : List UInt8) : Res := [(false, [⟨.str, .sh, TC.s p⟩])]
noncomputable def impl_literals_c (s : List UInt8) : Bool := is (s.length ≤ 2000)
noncomputable def impl_literals_v (s : List UInt8) : List UInt8 := hid (lits s)
theorem impl_literals_l (s : List UInt8) : (impl_literals_c s) = true → (impl_literals_t s).val = some (impl_literals_v s) := by
  intro h
  have h8 := is_iff.1 h
  unfold impl_literals_t impl_literals_v
  rw [hid_eq]
  refine Tr.t (is_true ⟨h8, rfl⟩) ?_
  rfl
noncomputable def impl_literals_S : List Arg → Option (Bool × Res) := fun xs => match xs with
  | [(false, [(.str, TC.s s)])] => some ((impl_literals_c s), impl_literals_mk (impl_literals_v s))
  | _ => .none
theorem impl_literals_e (s : List UInt8) : runF tab FT D5 live 50 impl_literals_lo [(false, [(.str, TC.s s)])] = (impl_literals_t s).run fun p => some (impl_literals_mk p) := by kernel_rfl
theorem impl_literals_s : ∀ xs r, impl_literals_S xs = some (true, r) → runF tab FT D5 live 50 impl_literals_lo xs = some r := by
  intro xs r h
  unfold impl_literals_S at h
  split at h
  · simp only [Option.some.injEq, Prod.mk.injEq] at h
    obtain ⟨h1, rfl⟩ := h
    exact fun_told (impl_literals_e _) (impl_literals_l _) h1
  · cases h
noncomputable def D6 : Dt := also D5 50 impl_literals_S
theorem d6 : DOk Go.Proofs.Try.prog tab D6 := d5.also mixed_ok tab_ok names_ok (fnLoops_one (by kernel_rfl) impl_literals_is2) impl_literals_s
theorem impl_literals_h {s : List UInt8} : impl_literals_v s = lits s := hid_eq _
/-! impl_putBytes -/
abbrev impl_putBytes_3_σ := Int × List (List TC) × Int × Int
abbrev impl_putBytes_3_ω := (List (List TC))
noncomputable def impl_putBytes_3_step (n : Int) (X : List (List TC)) (m : Int) (k : Int) : Tr (impl_putBytes_3_σ ⊕ impl_putBytes_3_ω) := (.ite ((decide (k < m)) = true) (.ite (0 ≤ (IntKind.wrap .i64 ((8 : Int) * k))) (.ite ((0 : Int) ≤ k ∧ k < (X.length : Int)) (.ok (.inl (n, (X.set (k).toNat (splice (row X k) 0 [TC.i (IntKind.wrap .u8 (Int.fdiv n (2 ^ (min ((IntKind.wrap .i64 ((8 : Int) * k))).toNat 64))))])), m, (IntKind.wrap .i64 (k + (1 : Int))))))
    .no)
   .no)
  (.ok (.inr X)))
noncomputable def impl_putBytes_3_st : impl_putBytes_3_σ → Tr (impl_putBytes_3_σ ⊕ impl_putBytes_3_ω) := fun x => (impl_putBytes_3_step (x.1) (x.2.1) (x.2.2.1) (x.2.2.2))
noncomputable def impl_putBytes_o3_1 (n : Int) (X : List (List TC)) (m : Int) (k : Int) : Bool := is (∃ sz : Nat, m = (sz : Int) ∧ sz ≤ 8 ∧ X = List.replicate sz [TC.i 0] ∧ k = 0)
noncomputable def impl_putBytes_u3_1 (n : Int) (X : List (List TC)) (m : Int) (k : Int) : List (List TC) := bRows n m.toNat
noncomputable def impl_putBytes_3_fin (n : Int) (X : List (List TC)) (m : Int) (k : Int) : Told impl_putBytes_3_ω := (.leaf (impl_putBytes_o3_1 n X m k) (impl_putBytes_u3_1 n X m k))
def impl_putBytes_3_sl (x : impl_putBytes_3_σ) : List Slot := [⟨.val false [⟨.int .i64, .sh, TC.i (x.1)⟩], ⟨0, 0⟩⟩, ⟨.val false [⟨.slice 5, .own true, TC.l (x.2.1)⟩], ⟨0, 0⟩⟩, ⟨.val false [⟨.int .i64, .sh, TC.i (x.2.2.1)⟩], ⟨0, 0⟩⟩, ⟨.val false [⟨.int .i64, .sh, TC.i (x.2.2.2)⟩], ⟨0, 0⟩⟩]
def impl_putBytes_3_out : impl_putBytes_3_ω → Ex × List Slot := (fun x => (.exit 0, [Slot.none, ⟨.val false [⟨.slice 5, .own true, TC.l x⟩], ⟨0, 0⟩⟩]))
noncomputable def impl_putBytes_lo3 : List Slot → Option (Told (Ex × List Slot)) := fun s => match s with
  | [⟨.val false [⟨.int .i64, .sh, TC.i n⟩], ⟨0, 0⟩⟩, ⟨.val false [⟨.slice 5, .own true, TC.l X⟩], ⟨0, 0⟩⟩, ⟨.val false [⟨.int .i64, .sh, TC.i m⟩], ⟨0, 0⟩⟩, ⟨.val false [⟨.int .i64, .sh, TC.i k⟩], ⟨0, 0⟩⟩] => some (((impl_putBytes_3_fin n X m k)).map impl_putBytes_3_out)
  | _ => .none
noncomputable def impl_putBytes_lo : LoopTeller := fun r s => bif Nat.beq r 3 then impl_putBytes_lo3 s else .none
theorem impl_putBytes_3_r (n : Int) (X : List (List TC)) (m : Int) (k : Int) (fuel : Nat) : rounds (rnd tab FT D6 live 44 impl_putBytes_lo 0 3) leave (fuel + 1) (impl_putBytes_3_sl (n, X, m, k)) = ((impl_putBytes_3_step n X m k)).run (goOn (fun s => rounds (rnd tab FT D6 live 44 impl_putBytes_lo 0 3) leave fuel (impl_putBytes_3_sl s)) fun w => some (impl_putBytes_3_out w)) := by kernel_rfl
theorem impl_putBytes_3_h (n : Int) (X : List (List TC)) (m : Int) (k : Int) (ow : impl_putBytes_3_ω) : ((impl_putBytes_3_fin n X m k)).val = some ow → ∃ fuel, loopN impl_putBytes_3_st fuel (n, X, m, k) = some ow := by
  intro h
  refine auto_leaf (R := bRows n m.toNat) (fun ho => ?_) h
  obtain ⟨sz, rfl, h8, rfl, rfl⟩ := is_iff.1 ho
  rw [wr_zero (n := n)]
  refine ⟨sz + 1, loopN_run (step := impl_putBytes_3_st) (N := sz) (fun j => (n, (wr sz (bAt n) (fun _ => [TC.i 0]) (fun p => decide (p < j))), (sz : Int), (j : Int))) (fun j hj => ?_) ?_ sz 0 (by omega)⟩
  · have e := wr_step (L := sz) (p0 := j) (F := bAt n) (O := fun _ => [TC.i 0]) (vis := fun p => decide (p < j)) (vis' := fun p => decide (p < j + 1)) hj (fun _ => rfl) (fun _ => rfl) (fun p _ => by
      rw [Bool.eq_iff_iff]; simp only [Bool.or_eq_true, decide_eq_true_eq, beq_iff_eq]; omega)
    show (impl_putBytes_3_step n (wr sz (bAt n) (fun _ => [TC.i 0]) (fun p => decide (p < j))) (sz : Int) (j : Int)).val = _
    unfold impl_putBytes_3_step
    rw [bAt_i64 (by omega)]
    refine Tr.t (by simp; omega) ?_
    refine Tr.t (by rw [wrap64 (by omega) (by omega)]; omega) ?_
    refine Tr.t ⟨by omega, by rw [wr_len]; omega⟩ ?_
    rw [Tr.val_ok, wrap64 (i := (j : Int) + 1) (by omega) (by omega)]
    show some (Sum.inl (n, (wr sz (bAt n) (fun _ => [TC.i 0]) (fun p => decide (p < j))).set j (splice ((wr sz (bAt n) (fun _ => [TC.i 0]) (fun p => decide (p < j))).getD j []) 0 (bAt n j)), (sz : Int), ((j + 1 : Nat) : Int))) = _
    rw [e]
  · show (impl_putBytes_3_step n (wr sz (bAt n) (fun _ => [TC.i 0]) (fun p => decide (p < sz))) (sz : Int) (sz : Int)).val = _
    refine Tr.n (by simp) ?_
    rw [wr_bRows]
    rfl
theorem impl_putBytes_is3 : LoopIs tab FT D6 live 44 impl_putBytes_lo 0 3 := by
  refine loop_told (sl := impl_putBytes_3_sl) (step := impl_putBytes_3_st) (out := impl_putBytes_3_out) (lor := impl_putBytes_lo3) (fin := fun x => (impl_putBytes_3_fin (x.1) (x.2.1) (x.2.2.1) (x.2.2.2))) (fun _ => rfl) ?_ (fun x n => impl_putBytes_3_r x.1 x.2.1 x.2.2.1 x.2.2.2 n) (fun x ow => impl_putBytes_3_h x.1 x.2.1 x.2.2.1 x.2.2.2 ow)
  intro s t h
  unfold impl_putBytes_lo3 at h
  split at h
  · cases h; exact ⟨(_, _, _, _), rfl, rfl⟩
  · cases h
noncomputable def impl_putBytes_t (n : Int) (size : Int) : Tr (List UInt8) := (.ite (0 ≤ size ∧ size ≤ size ∧ size * 1 ≤ 140737488355328 ∧ size ≤ 140737488355328) (.ite ((impl_putBytes_o3_1 n (List.replicate (size).toNat [TC.i (0 : Int)]) ((List.replicate (size).toNat [TC.i (0 : Int)]).length : Int) (0 : Int)) = true) (.ok ((impl_putBytes_u3_1 n (List.replicate (size).toNat [TC.i (0 : Int)]) ((List.replicate (size).toNat [TC.i (0 : Int)]).length : Int) (0 : Int)).map byteOf))
   .no)
  .no)
def impl_putBytes_mk (p : List UInt8) : Res := [(false, [⟨.str, .sh, TC.s p⟩])]
noncomputable def impl_putBytes_c (n : Int) (size : Int) : Bool := is (∃ sz : Nat, size = (sz : Int) ∧ sz ≤ 8)
noncomputable def impl_putBytes_v (n : Int) (size : Int) : List UInt8 := hid (bytesL n size.toNat)
theorem impl_putBytes_l (n : Int) (size : Int) : (impl_putBytes_c n size) = true → (impl_putBytes_t n size).val = some (impl_putBytes_v n size) := by
  intro h
  obtain ⟨sz, rfl, h8⟩ := is_iff.1 h
  unfold impl_putBytes_t
  refine Tr.t (by omega) ?_
  refine Tr.t (is_true ⟨sz, by simp, h8, rfl, rfl⟩) ?_
  unfold impl_putBytes_v
  rw [hid_eq]; simp; rfl
noncomputable def impl_putBytes_S : List Arg → Option (Bool × Res) := fun xs => match xs with
  | [(false, [(.int .i64, TC.i n)]), (false, [(.int .i64, TC.i size)])] => some ((impl_putBytes_c n size), impl_putBytes_mk (impl_putBytes_v n size))
  | _ => .none
theorem impl_putBytes_e (n : Int) (size : Int) : runF tab FT D6 live 44 impl_putBytes_lo [(false, [(.int .i64, TC.i n)]), (false, [(.int .i64, TC.i size)])] = (impl_putBytes_t n size).run fun p => some (impl_putBytes_mk p) := by kernel_rfl
theorem impl_putBytes_s : ∀ xs r, impl_putBytes_S xs = some (true, r) → runF tab FT D6 live 44 impl_putBytes_lo xs = some r := by
  intro xs r h
  unfold impl_putBytes_S at h
  split at h
  · simp only [Option.some.injEq, Prod.mk.injEq] at h
    obtain ⟨h1, rfl⟩ := h
    exact fun_told (impl_putBytes_e _ _) (impl_putBytes_l _ _) h1
  · cases h
noncomputable def D7 : Dt := also D6 44 impl_putBytes_S
theorem d7 : DOk Go.Proofs.Try.prog tab D7 := d6.also mixed_ok tab_ok names_ok (fnLoops_one (by kernel_rfl) impl_putBytes_is3) impl_putBytes_s
theorem impl_putBytes_h {n size : Int} : impl_putBytes_v n size = bytesL n size.toNat := hid_eq _
theorem impl_putBytes_len {n : Int} {sz : Nat} : (impl_putBytes_v n (sz : Int)).length = sz := by rw [impl_putBytes_h]; exact bytesL_len
/-! impl_lzEncode -/
abbrev impl_lzEncode_4_σ := List UInt8 × List UInt8 × Int × Int
abbrev impl_lzEncode_4_ω := (List UInt8 × List UInt8 × Int)
noncomputable def impl_lzEncode_4_step (s : List UInt8) (out : List UInt8) (pe : Int) (at0 : Int) : Tr (impl_lzEncode_4_σ ⊕ impl_lzEncode_4_ω) := (.ite ((decide (at0 < (s.length : Int))) = true) (.ite ((impl_matchAt_c s at0) = true) (.ite ((decide ((impl_matchAt_v s at0).1 < (3 : Int))) = true) (.ok (.inl (s, out, pe, (IntKind.wrap .i64 (at0 + (1 : Int))))))
    (.ite ((0 : Int) ≤ pe ∧ pe ≤ at0 ∧ at0 ≤ (s.length : Int)) (.ite ((impl_literals_c ((s.take (at0).toNat).drop (pe).toNat)) = true) (.ite (fits (out.length + (impl_literals_v ((s.take (at0).toNat).drop (pe).toNat)).length)) (.ite ((impl_putBytes_c ((impl_matchAt_v s at0).2) (2 : Int)) = true) (.ite (((([[TC.i (IntKind.wrap .u8 (IntKind.wrap .i64 ((impl_matchAt_v s at0).1 + (125 : Int))))]].map byteOf).length + (impl_putBytes_v ((impl_matchAt_v s at0).2) (2 : Int)).length : Nat) : Int) ≤ 9223372036854775807) (.ite (fits ((out ++ (impl_literals_v ((s.take (at0).toNat).drop (pe).toNat))).length + (([[TC.i (IntKind.wrap .u8 (IntKind.wrap .i64 ((impl_matchAt_v s at0).1 + (125 : Int))))]].map byteOf) ++ (impl_putBytes_v ((impl_matchAt_v s at0).2) (2 : Int))).length)) (.ok (.inl (s, ((out ++ (impl_literals_v ((s.take (at0).toNat).drop (pe).toNat))) ++ (([[TC.i (IntKind.wrap .u8 (IntKind.wrap .i64 ((impl_matchAt_v s at0).1 + (125 : Int))))]].map byteOf) ++ (impl_putBytes_v ((impl_matchAt_v s at0).2) (2 : Int)))), (IntKind.wrap .i64 (at0 + (impl_matchAt_v s at0).1)), (IntKind.wrap .i64 (at0 + (impl_matchAt_v s at0).1)))))
          .no)
         .no)
        .no)
       .no)
      .no)
     .no))
   .no)
  (.ok (.inr (s, out, pe))))
noncomputable def impl_lzEncode_4_st : impl_lzEncode_4_σ → Tr (impl_lzEncode_4_σ ⊕ impl_lzEncode_4_ω) := fun x => (impl_lzEncode_4_step (x.1) (x.2.1) (x.2.2.1) (x.2.2.2))
noncomputable def impl_lzEncode_o4_1 (s : List UInt8) (out : List UInt8) (pe : Int) (at0 : Int) : Bool := is (s.length ≤ 2000 ∧ out = [] ∧ pe = 0 ∧ at0 = 0)
noncomputable def impl_lzEncode_u4_1_1 (s : List UInt8) (out : List UInt8) (pe : Int) (at0 : Int) : List UInt8 := (lzF s).2.2
noncomputable def impl_lzEncode_u4_1_2 (s : List UInt8) (out : List UInt8) (pe : Int) (at0 : Int) : Int := (((lzF s).2.1 : Nat) : Int)
noncomputable def impl_lzEncode_4_fin (s : List UInt8) (out : List UInt8) (pe : Int) (at0 : Int) : Told impl_lzEncode_4_ω := (.leaf (impl_lzEncode_o4_1 s out pe at0) (s, (impl_lzEncode_u4_1_1 s out pe at0), (impl_lzEncode_u4_1_2 s out pe at0)))
def impl_lzEncode_4_sl (x : impl_lzEncode_4_σ) : List Slot := [⟨.val false [⟨.str, .sh, TC.s (x.1)⟩], ⟨0, 0⟩⟩, ⟨.bld 45 5 (x.2.1), ⟨0, 0⟩⟩, ⟨.val false [⟨.int .i64, .sh, TC.i (x.2.2.1)⟩], ⟨0, 0⟩⟩, ⟨.val false [⟨.int .i64, .sh, TC.i (x.2.2.2)⟩], ⟨0, 0⟩⟩]
def impl_lzEncode_4_out : impl_lzEncode_4_ω → Ex × List Slot := (fun x => (.exit 0, [⟨.val false [⟨.str, .sh, TC.s (x.1)⟩], ⟨0, 0⟩⟩, Slot.none, ⟨.bld 45 5 (x.2.1), ⟨0, 0⟩⟩, ⟨.val false [⟨.int .i64, .sh, TC.i (x.2.2)⟩], ⟨0, 0⟩⟩]))
noncomputable def impl_lzEncode_lo4 : List Slot → Option (Told (Ex × List Slot)) := fun s => match s with
  | [⟨.val false [⟨.str, .sh, TC.s s⟩], ⟨0, 0⟩⟩, ⟨.bld 45 5 out, ⟨0, 0⟩⟩, ⟨.val false [⟨.int .i64, .sh, TC.i pe⟩], ⟨0, 0⟩⟩, ⟨.val false [⟨.int .i64, .sh, TC.i at0⟩], ⟨0, 0⟩⟩] => some (((impl_lzEncode_4_fin s out pe at0)).map impl_lzEncode_4_out)
  | _ => .none
noncomputable def impl_lzEncode_lo : LoopTeller := fun r s => bif Nat.beq r 4 then impl_lzEncode_lo4 s else .none
theorem impl_lzEncode_4_r (s : List UInt8) (out : List UInt8) (pe : Int) (at0 : Int) (fuel : Nat) : rounds (rnd tab FT D7 live 34 impl_lzEncode_lo 0 4) leave (fuel + 1) (impl_lzEncode_4_sl (s, out, pe, at0)) = ((impl_lzEncode_4_step s out pe at0)).run (goOn (fun s => rounds (rnd tab FT D7 live 34 impl_lzEncode_lo 0 4) leave fuel (impl_lzEncode_4_sl s)) fun w => some (impl_lzEncode_4_out w)) := by kernel_rfl
theorem impl_lzEncode_4_h (s : List UInt8) (out : List UInt8) (pe : Int) (at0 : Int) (ow : impl_lzEncode_4_ω) : ((impl_lzEncode_4_fin s out pe at0)).val = some ow → ∃ fuel, loopN impl_lzEncode_4_st fuel (s, out, pe, at0) = some ow := by
  intro h
  refine auto_leaf (R := (s, (lzF s).2.2, (((lzF s).2.1 : Nat) : Int))) (fun ho => ?_) h
  obtain ⟨h8, rfl, rfl, rfl⟩ := is_iff.1 ho
  have fin : ∀ q : Nat × Nat × List UInt8, q = lzS s (idxI (lzP s) s.length) → lzF s = q := fun q h => h.symm
  refine Exists.elim (loopN_along (step := impl_lzEncode_4_st) s.length (lzP s) (fun j => (s, (lzS s j).2.2, (((lzS s j).2.1 : Nat) : Int), (((lzS s j).1 : Nat) : Int))) ((s, (lzS s s.length).2.2, (((lzS s s.length).2.1 : Nat) : Int))) (fun j => (s, (lzS s j).2.2, (((lzS s j).2.1 : Nat) : Int))) (fun j hj hb => ?_) (fun hb => ?_)) fun fuel key => ⟨fuel, key.trans ?_⟩
  rotate_left 2
  · unfold lzF
    cases ha : allI (lzP s) s.length with
    | true => rw [idxI_all ha]; rfl
    | false => rfl
  · obtain ⟨i1, i2, i3, i4⟩ := lz_inv j hb
    obtain ⟨b1, b2, b3⟩ := bm_le i3 (lzS s j).1
    have hs1 : lzS s (j + 1) = lzN s (lzS s j) := rfl
    constructor
    · intro hP
      unfold lzP at hP
      rw [decide_eq_true_eq] at hP
      show (impl_lzEncode_4_step s ((lzS s j).2.2) (((lzS s j).2.1 : Nat) : Int) (((lzS s j).1 : Nat) : Int)).val = some (Sum.inl (s, (lzS s (j + 1)).2.2, (((lzS s (j + 1)).2.1 : Nat) : Int), (((lzS s (j + 1)).1 : Nat) : Int)))
      rw [hs1]
      generalize lzS s j = q at i1 i2 i3 i4 b1 b2 b3 hP ⊢
      have hl := lits_len (s := (s.take q.1).drop q.2.1)
      have hl2 : ((s.take q.1).drop q.2.1).length = q.1 - q.2.1 := by rw [List.length_drop, List.length_take]; omega
      rw [hl2] at hl
      unfold impl_lzEncode_4_step lzN
      rw [impl_matchAt_h, Int.toNat_natCast, Int.toNat_natCast, impl_literals_h, impl_putBytes_h, show ((2 : Int)).toNat = 2 from rfl]
      refine Tr.t (by simp; omega) ?_
      refine Tr.t (is_true ⟨q.1, rfl, i3, h8⟩) ?_
      by_cases hn : (bm s q.1 q.1).1 < 3
      · rw [decide_eq_true hn]
        refine Tr.t (by rw [decide_eq_true_eq]; omega) ?_
        rw [Tr.val_ok, wrap64 (i := ((q.1 : Nat) : Int) + 1) (by omega) (by omega)]; rfl
      · rw [decide_eq_false hn]
        refine Tr.n (by rw [decide_eq_true_eq]; omega) ?_
        refine Tr.t (by omega) ?_
        refine Tr.t (is_true (by rw [hl2]; omega)) ?_
        refine Tr.t (show ((_ : Nat) : Int) ≤ 140737488355328 from by omega) ?_
        refine Tr.t (is_true ⟨2, rfl, by omega⟩) ?_
        refine Tr.t (by rw [bytesL_len]; simp only [List.length_map, List.length_singleton]; omega) ?_
        refine Tr.t (show ((_ : Nat) : Int) ≤ 140737488355328 from by simp only [List.length_append, bytesL_len, List.length_map, List.length_singleton]; omega) ?_
        rw [Tr.val_ok, wrap64 (i := ((q.1 : Nat) : Int) + (((bm s q.1 q.1).1 : Nat) : Int)) (by omega) (by omega), ← Int.natCast_add]; rfl
    · intro hP
      unfold lzP at hP
      have hP : ¬ (lzS s j).1 < s.length := by simpa using hP
      show (impl_lzEncode_4_step s ((lzS s j).2.2) (((lzS s j).2.1 : Nat) : Int) (((lzS s j).1 : Nat) : Int)).val = _
      unfold impl_lzEncode_4_step
      refine Tr.n (by simp; omega) ?_
      rfl
  · obtain ⟨i1, i2, i3, i4⟩ := lz_inv s.length hb
    show (impl_lzEncode_4_step s ((lzS s s.length).2.2) (((lzS s s.length).2.1 : Nat) : Int) (((lzS s s.length).1 : Nat) : Int)).val = _
    unfold impl_lzEncode_4_step
    refine Tr.n (by simp; omega) ?_
    rfl
theorem impl_lzEncode_is4 : LoopIs tab FT D7 live 34 impl_lzEncode_lo 0 4 := by
  refine loop_told (sl := impl_lzEncode_4_sl) (step := impl_lzEncode_4_st) (out := impl_lzEncode_4_out) (lor := impl_lzEncode_lo4) (fin := fun x => (impl_lzEncode_4_fin (x.1) (x.2.1) (x.2.2.1) (x.2.2.2))) (fun _ => rfl) ?_ (fun x n => impl_lzEncode_4_r x.1 x.2.1 x.2.2.1 x.2.2.2 n) (fun x ow => impl_lzEncode_4_h x.1 x.2.1 x.2.2.1 x.2.2.2 ow)
  intro s t h
  unfold impl_lzEncode_lo4 at h
  split at h
  · cases h; exact ⟨(_, _, _, _), rfl, rfl⟩
  · cases h
noncomputable def impl_lzEncode_t (s : List UInt8) : Tr (List UInt8) := (.ite ((impl_lzEncode_o4_1 s [] (0 : Int) (0 : Int)) = true) (.ite ((0 : Int) ≤ (impl_lzEncode_u4_1_2 s [] (0 : Int) (0 : Int)) ∧ (impl_lzEncode_u4_1_2 s [] (0 : Int) (0 : Int)) ≤ (s.length : Int) ∧ (s.length : Int) ≤ (s.length : Int)) (.ite ((impl_literals_c ((s.take ((s.length : Int)).toNat).drop ((impl_lzEncode_u4_1_2 s [] (0 : Int) (0 : Int))).toNat)) = true) (.ite ((((impl_lzEncode_u4_1_1 s [] (0 : Int) (0 : Int)).length + (impl_literals_v ((s.take ((s.length : Int)).toNat).drop ((impl_lzEncode_u4_1_2 s [] (0 : Int) (0 : Int))).toNat)).length : Nat) : Int) ≤ 9223372036854775807) (.ok ((impl_lzEncode_u4_1_1 s [] (0 : Int) (0 : Int)) ++ (impl_literals_v ((s.take ((s.length : Int)).toNat).drop ((impl_lzEncode_u4_1_2 s [] (0 : Int) (0 : Int))).toNat))))
     .no)
    .no)
   .no)
  .no)
def impl_lzEncode_mk (p : List UInt8) : Res := [(false, [⟨.str, .sh, TC.s p⟩])]
noncomputable def impl_lzEncode_c (s : List UInt8) : Bool := is (s.length ≤ 2000)
noncomputable def impl_lzEncode_v (s : List UInt8) : List UInt8 := hid (lzV s)
theorem impl_lzEncode_l (s : List UInt8) : (impl_lzEncode_c s) = true → (impl_lzEncode_t s).val = some (impl_lzEncode_v s) := by
  intro h
  have h8 := is_iff.1 h
  obtain ⟨i1, i2, i3, i4⟩ := lz_inv (s := s) (idxI (lzP s) s.length) (fun k hk => idxI_before hk)
  have hi : idxI (lzP s) s.length ≤ s.length := idxI_le
  unfold impl_lzEncode_t impl_lzEncode_v
  rw [hid_eq]
  refine Tr.t (is_true ⟨h8, rfl, rfl, rfl⟩) ?_
  have e0 : impl_lzEncode_u4_1_2 s [] 0 0 = (((lzF s).2.1 : Nat) : Int) := rfl
  have e1 : impl_lzEncode_u4_1_1 s [] 0 0 = (lzF s).2.2 := rfl
  rw [e0, e1, Int.toNat_natCast, Int.toNat_natCast, List.take_length, impl_literals_h]
  have j1 : (lzF s).2.1 ≤ s.length := Nat.le_trans i2 i3
  have j2 : (lzF s).2.2.length ≤ 2 * (lzF s).2.1 + 3 * idxI (lzP s) s.length := i4
  have hl := lits_len (s := s.drop (lzF s).2.1)
  rw [List.length_drop] at hl
  refine Tr.t (by omega) ?_
  refine Tr.t (is_true (by rw [List.length_drop]; omega)) ?_
  refine Tr.t (by omega) ?_
  rfl
noncomputable def impl_lzEncode_S : List Arg → Option (Bool × Res) := fun xs => match xs with
  | [(false, [(.str, TC.s s)])] => some ((impl_lzEncode_c s), impl_lzEncode_mk (impl_lzEncode_v s))
  | _ => .none
theorem impl_lzEncode_e (s : List UInt8) : runF tab FT D7 live 34 impl_lzEncode_lo [(false, [(.str, TC.s s)])] = (impl_lzEncode_t s).run fun p => some (impl_lzEncode_mk p) := by kernel_rfl
theorem impl_lzEncode_s : ∀ xs r, impl_lzEncode_S xs = some (true, r) → runF tab FT D7 live 34 impl_lzEncode_lo xs = some r := by
  intro xs r h
  unfold impl_lzEncode_S at h
  split at h
  · simp only [Option.some.injEq, Prod.mk.injEq] at h
    obtain ⟨h1, rfl⟩ := h
    exact fun_told (impl_lzEncode_e _) (impl_lzEncode_l _) h1
  · cases h
noncomputable def D8 : Dt := also D7 34 impl_lzEncode_S
theorem d8 : DOk Go.Proofs.Try.prog tab D8 := d7.also mixed_ok tab_ok names_ok (fnLoops_one (by kernel_rfl) impl_lzEncode_is4) impl_lzEncode_s
theorem impl_lzEncode_h {s : List UInt8} : impl_lzEncode_v s = lzV s := hid_eq _
/-! impl_LzEncode -/
noncomputable def impl_LzEncode_t (s : List UInt8) : Tr (List UInt8) := (.ite ((decide ((s.length : Int) > (1100 : Int))) = true) (.ok ([]))
  (.ite ((impl_lzEncode_c s) = true) (.ok (impl_lzEncode_v s))
   .no))
def impl_LzEncode_mk (p : List UInt8) : Res := [(false, [⟨.str, .sh, TC.s p⟩])]
noncomputable def impl_LzEncode_c (s : List UInt8) : Bool := (bif (decide ((s.length : Int) > (1100 : Int))) then true else ((impl_lzEncode_c s) && true))
noncomputable def impl_LzEncode_v (s : List UInt8) : List UInt8 := (bif (decide ((s.length : Int) > (1100 : Int))) then [] else (impl_lzEncode_v s))
theorem impl_LzEncode_l (s : List UInt8) : (impl_LzEncode_c s) = true → (impl_LzEncode_t s).val = some (impl_LzEncode_v s) := by
  unfold impl_LzEncode_t impl_LzEncode_v impl_LzEncode_c
  exact fun h => (Tr.ss h (fun h => rfl) (fun h => (Tr.gb h fun h => rfl)))
noncomputable def impl_LzEncode_S : List Arg → Option (Bool × Res) := fun xs => match xs with
  | [(false, [(.str, TC.s s)])] => some ((impl_LzEncode_c s), impl_LzEncode_mk (impl_LzEncode_v s))
  | _ => .none
theorem impl_LzEncode_e (s : List UInt8) : runF tab FT D8 live 19 noLoops [(false, [(.str, TC.s s)])] = (impl_LzEncode_t s).run fun p => some (impl_LzEncode_mk p) := by kernel_rfl
theorem impl_LzEncode_s : ∀ xs r, impl_LzEncode_S xs = some (true, r) → runF tab FT D8 live 19 noLoops xs = some r := by
  intro xs r h
  unfold impl_LzEncode_S at h
  split at h
  · simp only [Option.some.injEq, Prod.mk.injEq] at h
    obtain ⟨h1, rfl⟩ := h
    exact fun_told (impl_LzEncode_e _) (impl_LzEncode_l _) h1
  · cases h
noncomputable def D9 : Dt := also D8 19 impl_LzEncode_S
theorem d9 : DOk Go.Proofs.Try.prog tab D9 := d8.also mixed_ok tab_ok names_ok noLoops_ok impl_LzEncode_s
theorem impl_LzEncode_cc {s : List UInt8}  : (impl_LzEncode_c s) = true := by
  unfold impl_LzEncode_c
  refine bifT (fun b1 => ?_) (fun b1 => ?_)
  · skip
    rfl
  · skip
    refine andT (by exact is_true (by have := of_decide_eq_false b1; omega)) ?_
    rfl
/-! the law -/
noncomputable def laws_FnExactLzEncode_t (x0 : List UInt8) : Tr Bool := (.ite ((decide ((x0.length : Int) > (1048576 : Int))) = true) (.ok true)
  (.ite ((spec_LzEncode_c x0) = true) (.ite ((impl_LzEncode_c x0) = true) (.ite ((!((impl_LzEncode_v x0) == (spec_LzEncode_v x0))) = true) (.ok false)
     (.ok true))
    .no)
   .no))
theorem laws_FnExactLzEncode_e (x0 : List UInt8) : runF tab FT D9 live 6 noLoops [(false, [(.str, TC.s x0)])] = (laws_FnExactLzEncode_t x0).run fun p => some [(false, [⟨.bool, .sh, .b p⟩])] := by kernel_rfl
theorem LzEncode_eq (s : List UInt8) : spec_LzEncode_v s = impl_LzEncode_v s := by
  unfold spec_LzEncode_v impl_LzEncode_v
  rw [spec_l18Lz_h, impl_lzEncode_h]
theorem laws_FnExactLzEncode_p (x0 : List UInt8) (h0 : Typed tab (.str) (.s x0)) : (laws_FnExactLzEncode_t x0).val = some true := by
  unfold laws_FnExactLzEncode_t
  rw [LzEncode_eq]
  refine Tr.y ?_
  refine Tr.t (by first | exact (by first | (apply spec_LzEncode_cc <;> assumption) | (first | (apply is_true; and_intros <;> (first | rfl | assumption | (apply spec_LzEncode_cc <;> assumption) | (apply impl_LzEncode_cc <;> assumption) | (first | (apply is_true; and_intros <;> (first | rfl | assumption | (apply spec_LzEncode_cc <;> assumption) | (apply impl_LzEncode_cc <;> assumption))) | (apply spec_LzEncode_cc <;> assumption) | (apply impl_LzEncode_cc <;> assumption)))) | (apply spec_LzEncode_cc <;> assumption) | (apply impl_LzEncode_cc <;> assumption))) | simp [*]) ?_
  refine Tr.t (by first | exact (by first | (apply impl_LzEncode_cc <;> assumption) | (first | (apply is_true; and_intros <;> (first | rfl | assumption | (apply spec_LzEncode_cc <;> assumption) | (apply impl_LzEncode_cc <;> assumption) | (first | (apply is_true; and_intros <;> (first | rfl | assumption | (apply spec_LzEncode_cc <;> assumption) | (apply impl_LzEncode_cc <;> assumption))) | (apply spec_LzEncode_cc <;> assumption) | (apply impl_LzEncode_cc <;> assumption)))) | (apply spec_LzEncode_cc <;> assumption) | (apply impl_LzEncode_cc <;> assumption))) | simp [*]) ?_
  refine Tr.n (by first | (simp [spec_l18Match_u7_1_5, spec_l18Match_u4_1_0, spec_l18Match_u4_1_1, spec_l18Match_v, spec_l18Literals_u1_1_0, spec_l18Literals_v, spec_l18Lz_u4_1_1, spec_l18Lz_u4_1_2, spec_l18Lz_v, spec_LzEncode_v, impl_matchAt_u6_1_5, impl_matchAt_u3_1_0, impl_matchAt_u3_1_1, impl_matchAt_v, impl_literals_u2_1, impl_literals_v, impl_putBytes_u3_1, impl_putBytes_v, impl_lzEncode_u4_1_1, impl_lzEncode_u4_1_2, impl_lzEncode_v, impl_LzEncode_v]; done) | (simp only [spec_l18Match_u7_1_5, spec_l18Match_u4_1_0, spec_l18Match_u4_1_1, spec_l18Match_v, spec_l18Literals_u1_1_0, spec_l18Literals_v, spec_l18Lz_u4_1_1, spec_l18Lz_u4_1_2, spec_l18Lz_v, spec_LzEncode_v, impl_matchAt_u6_1_5, impl_matchAt_u3_1_0, impl_matchAt_u3_1_1, impl_matchAt_v, impl_literals_u2_1, impl_literals_v, impl_putBytes_u3_1, impl_putBytes_v, impl_lzEncode_u4_1_1, impl_lzEncode_u4_1_2, impl_lzEncode_v, impl_LzEncode_v, nth0, nth1, nth2, nth3, nth4, nth5, int_i, bool_b, str_s, list_l, cells_p, Bool.not_eq_true, bne_self_eq_false, beq_self_eq_true, Bool.not_true]; done) | (simp [spec_l18Match_u7_1_5, spec_l18Match_u4_1_0, spec_l18Match_u4_1_1, spec_l18Match_v, spec_l18Literals_u1_1_0, spec_l18Literals_v, spec_l18Lz_u4_1_1, spec_l18Lz_u4_1_2, spec_l18Lz_v, spec_LzEncode_v, impl_matchAt_u6_1_5, impl_matchAt_u3_1_0, impl_matchAt_u3_1_1, impl_matchAt_v, impl_literals_u2_1, impl_literals_v, impl_putBytes_u3_1, impl_putBytes_v, impl_lzEncode_u4_1_1, impl_lzEncode_u4_1_2, impl_lzEncode_v, impl_LzEncode_v, nth0, nth1, nth2, nth3, nth4, nth5, int_i, bool_b, str_s, list_l, cells_p]; done) | (simp [spec_l18Match_u7_1_5, spec_l18Match_u4_1_0, spec_l18Match_u4_1_1, spec_l18Match_v, spec_l18Literals_u1_1_0, spec_l18Literals_v, spec_l18Lz_u4_1_1, spec_l18Lz_u4_1_2, spec_l18Lz_v, spec_LzEncode_v, impl_matchAt_u6_1_5, impl_matchAt_u3_1_0, impl_matchAt_u3_1_1, impl_matchAt_v, impl_literals_u2_1, impl_literals_v, impl_putBytes_u3_1, impl_putBytes_v, impl_lzEncode_u4_1_1, impl_lzEncode_u4_1_2, impl_lzEncode_v, impl_LzEncode_v, nth0, nth1, nth2, nth3, nth4, nth5, int_i, bool_b, str_s, list_l, cells_p] <;> rfl)) ?_
  rfl
theorem laws_FnExactLzEncode_pure : ∀ xs, ArgsTyped tab [9] xs → runF tab FT D9 live 6 noLoops xs = yes := by
  intro xs h
  cases h with | cons l0 g0 h =>
  obtain ⟨z0_0, rfl⟩ := len_1 l0
  have q0 := g0 0 (by decide)
  have q0 : Typed tab (.str) z0_0 := q0
  obtain ⟨y0, rfl⟩ := typed_str q0
  cases h
  refine (laws_FnExactLzEncode_e y0).trans ?_
  rw [Tr.run_eq, laws_FnExactLzEncode_p y0 q0]
  rfl
end Go.Proofs.Ytmaaolemlobjeaa.V
