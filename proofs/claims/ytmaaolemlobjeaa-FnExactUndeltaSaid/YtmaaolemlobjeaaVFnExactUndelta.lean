/- What the functions of FnExactUndelta answer. No condition. -/
import Derived.Test.YtmaaolemlobjeaaVFacts
namespace Go.Proofs.Ytmaaolemlobjeaa.V
open Go
set_option maxRecDepth 100000
set_option linter.unusedVariables false
set_option linter.unusedSectionVars false
set_option linter.unusedSimpArgs false
set_option maxHeartbeats 2000000
def leN : List UInt8 → Nat
  | [] => 0
  | b :: l => b.toNat + 256 * leN l
theorem leN_lt : ∀ l : List UInt8, leN l < 256 ^ l.length
  | [] => by simp [leN]
  | b :: l => by
    have h := leN_lt l
    have hb := b.toNat_lt
    unfold leN
    rw [List.length_cons, Nat.pow_succ]
    omega
theorem leN_snoc : ∀ (l : List UInt8) (b : UInt8), leN (l ++ [b]) = leN l + b.toNat * 256 ^ l.length
  | [], b => by simp [leN]
  | c :: l, b => by
    rw [List.cons_append]
    unfold leN
    rw [leN_snoc l b, List.length_cons, Nat.pow_succ, Nat.mul_add, ← Nat.mul_assoc, Nat.mul_comm 256 b.toNat, Nat.mul_assoc, Nat.mul_comm 256 (256 ^ l.length)]
    omega
theorem or_hi {k a b : Nat} (h : a < 2 ^ k) : a ||| (b * 2 ^ k) = a + b * 2 ^ k := by
  have := Nat.shiftLeft_add_eq_or_of_lt h b
  rw [Nat.shiftLeft_eq] at this
  rw [Nat.or_comm, ← this, Nat.add_comm]
theorem bits_or_u64 {a c : Nat} (ha : a < 2 ^ 64) (hc : c < 2 ^ 64) : bits .u64 (fun a b => a ||| b) (a : Int) (c : Int) = ((a ||| c : Nat) : Int) := by
  have h1 : (BitVec.ofInt IntKind.u64.bits (a : Int) ||| BitVec.ofInt IntKind.u64.bits (c : Int)).toNat = a ||| c := by
    rw [BitVec.toNat_or, BitVec.ofInt_natCast, BitVec.ofInt_natCast, BitVec.toNat_ofNat, BitVec.toNat_ofNat, Nat.mod_eq_of_lt (show a < 2 ^ IntKind.u64.bits from ha), Nat.mod_eq_of_lt (show c < 2 ^ IntKind.u64.bits from hc)]
  unfold bits
  rw [h1, IntKind.wrap_u64]
  have : a ||| c < 2 ^ 64 := Nat.or_lt_two_pow ha hc
  omega
theorem bits_or_i64 {a c : Nat} (ha : a < 2 ^ 63) (hc : c < 2 ^ 63) : bits .i64 (fun a b => a ||| b) (a : Int) (c : Int) = ((a ||| c : Nat) : Int) := by
  have hp : (2 : Nat) ^ 63 < 2 ^ 64 := by decide
  have ha' : a < 2 ^ IntKind.i64.bits := Nat.lt_trans ha hp
  have hc' : c < 2 ^ IntKind.i64.bits := Nat.lt_trans hc hp
  have h1 : (BitVec.ofInt IntKind.i64.bits (a : Int) ||| BitVec.ofInt IntKind.i64.bits (c : Int)).toNat = a ||| c := by
    rw [BitVec.toNat_or, BitVec.ofInt_natCast, BitVec.ofInt_natCast, BitVec.toNat_ofNat, BitVec.toNat_ofNat, Nat.mod_eq_of_lt ha', Nat.mod_eq_of_lt hc']
  unfold bits
  rw [h1]
  have : a ||| c < 2 ^ 63 := Nat.or_lt_two_pow ha hc
  exact wrap64 (by omega) (by omega)
theorem pow8 (j : Nat) : 256 ^ j = 2 ^ (8 * j) := by rw [Nat.pow_mul]
theorem take_snoc {α : Type} [Inhabited α] {l : List α} {j : Nat} (h : j < l.length) (d : α) : l.take (j + 1) = l.take j ++ [l.getD j d] := by
  rw [List.take_add_one, List.getElem?_eq_getElem h, List.getD_eq_getElem?_getD, List.getElem?_eq_getElem h]; rfl
theorem getBits_step {s : List UInt8} {j : Nat} (h : j < s.length) (h8 : s.length ≤ 8) : bits .u64 (fun a b => a ||| b) ((leN (s.take j) : Nat) : Int) (IntKind.wrap .u64 ((IntKind.wrap .u64 ((s.getD (j : Int).toNat 0).toNat : Int)) * (2 ^ (min ((IntKind.wrap .i64 ((8 : Int) * (j : Int)))).toNat 64)))) = ((leN (s.take (j + 1)) : Nat) : Int) := by
  rw [wrap64 (i := (8 : Int) * (j : Int)) (by omega) (by omega), show ((8 : Int) * (j : Int)).toNat = 8 * j from by omega, Nat.min_eq_left (by omega), Int.toNat_natCast, take_snoc h 0, leN_snoc]
  have hl : (s.take j).length = j := by rw [List.length_take]; omega
  have ha := leN_lt (s.take j)
  rw [hl] at ha ⊢
  have hb := (s.getD j 0).toNat_lt
  have hp : (256 : Nat) ^ j ≤ 256 ^ 7 := Nat.pow_le_pow_right (by decide) (by omega)
  have hp7 : (256 : Nat) ^ 7 = 72057594037927936 := by decide
  have hm : (s.getD j 0).toNat * 256 ^ j ≤ 255 * 256 ^ j := Nat.mul_le_mul_right _ (by omega)
  have e2 : IntKind.wrap .u64 ((IntKind.wrap .u64 ((s.getD j 0).toNat : Int)) * (2 ^ (8 * j))) = (((s.getD j 0).toNat * 256 ^ j : Nat) : Int) := by
    rw [IntKind.wrap_u64, IntKind.wrap_u64, Int.emod_eq_of_lt (a := ((s.getD j 0).toNat : Int)) (by omega) (by omega), pow8]
    have e3 : (((s.getD j 0).toNat * 2 ^ (8 * j) : Nat) : Int) = ((s.getD j 0).toNat : Int) * 2 ^ (8 * j) := by push_cast; rfl
    rw [← e3, ← pow8]
    exact Int.emod_eq_of_lt (by omega) (by omega)
  rw [e2, bits_or_u64 (by omega) (by omega), pow8, or_hi (by rw [← pow8]; exact ha)]
theorem number_step {s : List UInt8} {j : Nat} (h : j < s.length) (h7 : s.length ≤ 7) : bits .i64 (fun a b => a ||| b) (IntKind.wrap .i64 (((leN (s.drop (s.length - j)) : Nat) : Int) * 256)) (IntKind.wrap .i64 ((s.getD (((s.length : Int) - 1 - (j : Int))).toNat 0).toNat : Int)) = ((leN (s.drop (s.length - (j + 1))) : Nat) : Int) := by
  have e1 : ((s.length : Int) - 1 - (j : Int)).toNat = s.length - (j + 1) := by omega
  have hk : s.length - (j + 1) < s.length := by omega
  have e2 : s.drop (s.length - (j + 1)) = s.getD (s.length - (j + 1)) 0 :: s.drop (s.length - j) := by
    rw [List.drop_eq_getElem_cons hk, List.getD_eq_getElem?_getD, List.getElem?_eq_getElem hk, show s.length - (j + 1) + 1 = s.length - j from by omega]
    rfl
  rw [e1, e2]
  have ha := leN_lt (s.drop (s.length - j))
  rw [show (s.drop (s.length - j)).length = j from by rw [List.length_drop]; omega] at ha
  have hb := (s.getD (s.length - (j + 1)) 0).toNat_lt
  have hp : (256 : Nat) ^ j ≤ 256 ^ 6 := Nat.pow_le_pow_right (by decide) (by omega)
  have hp6 : (256 : Nat) ^ 6 = 281474976710656 := by decide
  generalize hbb : s.getD (s.length - (j + 1)) 0 = b at hb ⊢
  show _ = ((b.toNat + 256 * leN (s.drop (s.length - j)) : Nat) : Int)
  generalize leN (s.drop (s.length - j)) = q at ha ⊢
  rw [wrap64 (i := (q : Int) * 256) (by omega) (by omega), wrap64 (i := (b.toNat : Int)) (by omega) (by omega), show (q : Int) * 256 = ((q * 256 : Nat) : Int) from by omega, bits_or_i64 (by omega) (by omega), Nat.or_comm, show 256 = 2 ^ 8 from rfl, or_hi (by omega)]
  congr 1
  rw [Nat.mul_comm]
noncomputable def dX (d : List UInt8) (w j : Nat) : Int := ((leN ((d.drop (j * w)).take w) : Nat) : Int)
noncomputable def dI (d : List UInt8) (w : Nat) (bk : Bool) : Nat → Int × List UInt8
  | 0 => (0, [])
  | j + 1 => bif bk then (IntKind.wrap .i64 ((dI d w bk j).1 + dX d w j), (dI d w bk j).2 ++ bytesL (IntKind.wrap .i64 ((dI d w bk j).1 + dX d w j)) w)
    else (dX d w j, (dI d w bk j).2 ++ bytesL (IntKind.wrap .i64 (dX d w j - (dI d w bk j).1)) w)
theorem dI_len {d : List UInt8} {w : Nat} {bk : Bool} : ∀ j, (dI d w bk j).2.length = j * w
  | 0 => by simp [dI]
  | j + 1 => by
    unfold dI
    cases bk <;> simp only [cond_true, cond_false, List.length_append, bytesL_len, dI_len j, Nat.succ_mul]
theorem dX_bound {d : List UInt8} {w j : Nat} (h : w ≤ 4) : 0 ≤ dX d w j ∧ dX d w j < 4294967296 := by
  unfold dX
  have ha := leN_lt ((d.drop (j * w)).take w)
  have hp : (256 : Nat) ^ ((d.drop (j * w)).take w).length ≤ 256 ^ 4 := Nat.pow_le_pow_right (by decide) (by rw [List.length_take]; omega)
  have hp4 : (256 : Nat) ^ 4 = 4294967296 := by decide
  omega
theorem chunks_lt {L w j : Nat} (hw : 1 ≤ w) (h : j < L / w) : j * w + w ≤ L := by
  have := Nat.div_mul_le_self L w
  have h2 : (j + 1) * w ≤ (L / w) * w := Nat.mul_le_mul_right _ h
  rw [Nat.succ_mul] at h2
  omega
theorem chunks_end {L w : Nat} (hw : 1 ≤ w) : L - (L / w) * w < w := by
  have := Nat.div_add_mod L w
  have h2 := Nat.mod_lt L (by omega : w > 0)
  rw [Nat.mul_comm] at this
  omega
theorem byteOf_byte (b : UInt8) : byteOf [TC.i b.toNat] = b := by
  unfold byteOf
  simp [nth, TC.int]
theorem bytesRow_of (l : List UInt8) : (bytesRow l).map byteOf = l := by
  unfold bytesRow
  rw [List.map_map]
  exact (List.map_congr_left fun b _ => byteOf_byte b).trans (List.map_id l)
noncomputable def and64 (a b : Int) : Int := bits .i64 (fun a b => a &&& b) a b
noncomputable def dS (d : List UInt8) (w : Nat) (bk : Bool) : Nat → Int × List (List TC)
  | 0 => (0, [])
  | j + 1 => bif bk then (and64 (IntKind.wrap .i64 (dX d w j + (dS d w bk j).1)) (256 ^ w - 1), (dS d w bk j).2 ++ bRows (and64 (IntKind.wrap .i64 (dX d w j + (dS d w bk j).1)) (256 ^ w - 1)) w)
    else (and64 (IntKind.wrap .i64 ((dS d w bk j).1 + and64 (IntKind.wrap .i64 (dX d w j - (dS d w bk j).1)) (256 ^ w - 1))) (256 ^ w - 1), (dS d w bk j).2 ++ bRows (and64 (IntKind.wrap .i64 (dX d w j - (dS d w bk j).1)) (256 ^ w - 1)) w)
theorem dS_len {d : List UInt8} {w : Nat} {bk : Bool} : ∀ j, (dS d w bk j).2.length = j * w
  | 0 => by simp [dS]
  | j + 1 => by
    unfold dS
    cases bk <;> simp only [cond_true, cond_false, List.length_append, bRows_len, dS_len j, Nat.succ_mul]
theorem and64_mod {a : Int} {w : Nat} (h : w ≤ 4) : and64 a (256 ^ w - 1) = a % 256 ^ w := by
  have hp : (256 : Nat) ^ w ≤ 256 ^ 4 := Nat.pow_le_pow_right (by decide) h
  have hp4 : (256 : Nat) ^ 4 = 4294967296 := by decide
  have hpos : 0 < (256 : Nat) ^ w := Nat.pow_pos (by decide)
  have e1 : (256 : Int) ^ w - 1 = ((256 ^ w - 1 : Nat) : Int) := by
    rw [Int.natCast_sub hpos]; push_cast; rfl
  unfold and64 bits
  rw [e1]
  have h1 : (BitVec.ofInt IntKind.i64.bits a &&& BitVec.ofInt IntKind.i64.bits ((256 ^ w - 1 : Nat) : Int)).toNat = (BitVec.ofInt IntKind.i64.bits a).toNat % 256 ^ w := by
    rw [BitVec.toNat_and, BitVec.ofInt_natCast, BitVec.toNat_ofNat, Nat.mod_eq_of_lt (show 256 ^ w - 1 < 2 ^ IntKind.i64.bits from by show 256 ^ w - 1 < 2 ^ 64; omega), pow8]
    exact Nat.and_two_pow_sub_one_eq_mod _ _
  rw [h1]
  have h2 : ((BitVec.ofInt IntKind.i64.bits a).toNat : Int) = a % 18446744073709551616 := by
    rw [BitVec.toNat_ofInt]
    show ((a % ((2 ^ 64 : Nat) : Int)).toNat : Int) = _
    rw [Int.toNat_of_nonneg (Int.emod_nonneg _ (by decide))]
    rfl
  have hlt := Nat.mod_lt (BitVec.ofInt IntKind.i64.bits a).toNat hpos
  rw [wrap64 (by omega) (by omega), Int.natCast_emod, h2]
  have e3 : ((256 ^ w : Nat) : Int) = 256 ^ w := by push_cast; rfl
  rw [e3]
  refine Int.emod_emod_of_dvd _ ⟨256 ^ (8 - w), ?_⟩
  rw [← Int.pow_add, show w + (8 - w) = 8 from by omega]
  rfl
theorem bRows_congr {a b : Int} {w : Nat} (h : a % 256 ^ w = b % 256 ^ w) : bRows a w = bRows b w := by
  unfold bRows
  refine List.map_congr_left fun p hp => ?_
  have hp := List.mem_range.1 hp
  obtain ⟨q, hq⟩ : ∃ q, a = b + 256 ^ w * q := by
    refine ⟨a / 256 ^ w - b / 256 ^ w, ?_⟩
    have h1 := Int.emod_add_mul_ediv a (256 ^ w)
    have h2 := Int.emod_add_mul_ediv b (256 ^ w)
    rw [Int.mul_sub]
    omega
  have e : (256 : Int) ^ w = 2 ^ (8 * p) * (256 * 256 ^ (w - p - 1)) := by
    rw [Int.pow_mul, ← Int.mul_assoc, show ((2 : Int) ^ 8) = 256 from rfl, ← Int.pow_succ, ← Int.pow_add]
    congr 1
    omega
  have hpos : (0 : Int) < 2 ^ (8 * p) := Int.pow_pos (by decide)
  unfold bAt
  rw [IntKind.wrap_u8, IntKind.wrap_u8, Int.fdiv_eq_ediv_of_nonneg _ (Int.le_of_lt hpos), Int.fdiv_eq_ediv_of_nonneg _ (Int.le_of_lt hpos), hq, e, Int.mul_assoc, Int.add_mul_ediv_left _ _ (by omega), Int.mul_assoc, Int.add_mul_emod_self_left]
theorem mod_wrap {a : Int} {w : Nat} (h : w ≤ 4) : IntKind.wrap .i64 a % 256 ^ w = a % 256 ^ w := by
  have e : ∃ q, IntKind.wrap .i64 a = a + 18446744073709551616 * q := by
    rw [IntKind.wrap_i64]
    refine ⟨-((a + 9223372036854775808) / 18446744073709551616), ?_⟩
    omega
  obtain ⟨q, hq⟩ := e
  have e2 : (18446744073709551616 : Int) = 256 ^ w * 256 ^ (8 - w) := by
    rw [← Int.pow_add, show w + (8 - w) = 8 from by omega]; rfl
  rw [hq, e2, Int.mul_assoc, Int.add_mul_emod_self_left]
theorem dS_dI {d : List UInt8} {w : Nat} {bk : Bool} (h : w ≤ 4) : ∀ j, (dS d w bk j).1 = (dI d w bk j).1 % 256 ^ w ∧ (dS d w bk j).2.map byteOf = (dI d w bk j).2
  | 0 => by simp [dS, dI]
  | j + 1 => by
    obtain ⟨h1, h2⟩ := dS_dI (d := d) (bk := bk) h j
    have hx : dX d w j % 256 ^ w = dX d w j := by
      unfold dX
      refine Int.emod_eq_of_lt (by omega) ?_
      have ha := leN_lt ((d.drop (j * w)).take w)
      have hp : (256 : Nat) ^ ((d.drop (j * w)).take w).length ≤ 256 ^ w := Nat.pow_le_pow_right (by decide) (by rw [List.length_take]; omega)
      have e3 : ((256 ^ w : Nat) : Int) = 256 ^ w := by push_cast; rfl
      rw [← e3]
      omega
    unfold dS dI
    cases bk with
    | true =>
      simp only [cond_true]
      have e : and64 (IntKind.wrap .i64 (dX d w j + (dS d w true j).1)) (256 ^ w - 1) = (IntKind.wrap .i64 ((dI d w true j).1 + dX d w j)) % 256 ^ w := by
        rw [and64_mod h, mod_wrap h, mod_wrap h, h1, Int.add_emod_emod, Int.add_comm]
      refine ⟨e, ?_⟩
      rw [List.map_append, h2, e, bRows_congr (Int.emod_emod_of_dvd _ (Int.dvd_refl _))]
      rfl
    | false =>
      simp only [cond_false]
      have e : and64 (IntKind.wrap .i64 (dX d w j - (dS d w false j).1)) (256 ^ w - 1) = (IntKind.wrap .i64 (dX d w j - (dI d w false j).1)) % 256 ^ w := by
        rw [and64_mod h, mod_wrap h, mod_wrap h, h1, Int.sub_emod_emod]
      refine ⟨?_, ?_⟩
      · rw [e, and64_mod h, mod_wrap h, mod_wrap h, Int.add_emod_emod, h1, Int.emod_add_emod, show (dI d w false j).1 + (dX d w j - (dI d w false j).1) = dX d w j from by omega]
      · rw [List.map_append, h2, e, bRows_congr (Int.emod_emod_of_dvd _ (Int.dvd_refl _))]
        rfl
/-! spec_l18Width -/
noncomputable def spec_l18Width_t (d : List UInt8) (w : Int) : Tr (Bool) := (.ite ((w == (1 : Int)) = true) (.ok (decide ((d.length : Int) ≤ (1100 : Int))))
  (.ite ((w == (2 : Int)) = true) (.ok (decide ((d.length : Int) ≤ (1100 : Int))))
   (.ite ((w == (4 : Int)) = true) (.ok (decide ((d.length : Int) ≤ (1100 : Int))))
    (.ok false))))
def spec_l18Width_mk (p : Bool) : Res := [(false, [⟨.bool, .sh, TC.b p⟩])]
noncomputable def spec_l18Width_c (d : List UInt8) (w : Int) : Bool := true
noncomputable def spec_l18Width_v (d : List UInt8) (w : Int) : Bool := (bif (w == (1 : Int)) then (decide ((d.length : Int) ≤ (1100 : Int))) else (bif (w == (2 : Int)) then (decide ((d.length : Int) ≤ (1100 : Int))) else (bif (w == (4 : Int)) then (decide ((d.length : Int) ≤ (1100 : Int))) else false)))
theorem spec_l18Width_l (d : List UInt8) (w : Int) : (spec_l18Width_c d w) = true → (spec_l18Width_t d w).val = some (spec_l18Width_v d w) := by
  intro h
  skip
  unfold spec_l18Width_t spec_l18Width_v
  exact (Tr.s rfl (Tr.s rfl (Tr.s rfl rfl)))
noncomputable def spec_l18Width_S : List Arg → Option (Bool × Res) := fun xs => match xs with
  | [(false, [(.str, TC.s d)]), (false, [(.int .i64, TC.i w)])] => some (true, spec_l18Width_mk (spec_l18Width_v d w))
  | _ => .none
theorem spec_l18Width_e (d : List UInt8) (w : Int) : runF tab FT D0 live 24 noLoops [(false, [(.str, TC.s d)]), (false, [(.int .i64, TC.i w)])] = (spec_l18Width_t d w).run fun p => some (spec_l18Width_mk p) := by kernel_rfl
theorem spec_l18Width_s : ∀ xs r, spec_l18Width_S xs = some (true, r) → runF tab FT D0 live 24 noLoops xs = some r := by
  intro xs r h
  unfold spec_l18Width_S at h
  split at h
  · simp only [Option.some.injEq, Prod.mk.injEq] at h
    obtain ⟨h1, rfl⟩ := h
    exact fun_told (spec_l18Width_e _ _) (spec_l18Width_l _ _) rfl
  · cases h
noncomputable def D1 : Dt := also D0 24 spec_l18Width_S
theorem d1 : DOk Go.Proofs.Try.prog tab D1 := d0.also mixed_ok tab_ok names_ok noLoops_ok spec_l18Width_s
theorem wOfS {d : List UInt8} {w : Int} (b : (!(spec_l18Width_v d w)) = false) : ∃ wn : Nat, w = (wn : Int) ∧ (wn = 1 ∨ wn = 2 ∨ wn = 4) ∧ d.length ≤ 2000 := by
  have h : spec_l18Width_v d w = true := by simpa using b
  unfold spec_l18Width_v at h
  refine ⟨w.toNat, ?_, ?_, ?_⟩ <;> (revert h; cases h1 : (w == 1) <;> cases h2 : (w == 2) <;> cases h4 : (w == 4) <;> cases h5 : decide ((d.length : Int) ≤ 1100) <;> simp at * <;> omega)
/-! spec_l18Number -/
abbrev spec_l18Number_3_σ := List UInt8 × Int × Int
abbrev spec_l18Number_3_ω := (Int)
noncomputable def spec_l18Number_3_step (s : List UInt8) (a : Int) (i : Int) : Tr (spec_l18Number_3_σ ⊕ spec_l18Number_3_ω) := (.ite ((decide (i ≥ (0 : Int))) = true) (.ite ((0 : Int) ≤ i ∧ i < (s.length : Int)) (.ok (.inl (s, (bits .i64 (fun a b => a ||| b) (IntKind.wrap .i64 (a * 256)) (IntKind.wrap .i64 ((s.getD (i).toNat 0).toNat : Int))), (IntKind.wrap .i64 (i - (1 : Int))))))
   .no)
  (.ok (.inr a)))
noncomputable def spec_l18Number_3_st : spec_l18Number_3_σ → Tr (spec_l18Number_3_σ ⊕ spec_l18Number_3_ω) := fun x => (spec_l18Number_3_step (x.1) (x.2.1) (x.2.2))
noncomputable def spec_l18Number_o3_1 (s : List UInt8) (a : Int) (i : Int) : Bool := is (a = 0 ∧ i = (s.length : Int) - 1 ∧ s.length ≤ 7)
noncomputable def spec_l18Number_u3_1 (s : List UInt8) (a : Int) (i : Int) : Int := ((leN s : Nat) : Int)
noncomputable def spec_l18Number_3_fin (s : List UInt8) (a : Int) (i : Int) : Told spec_l18Number_3_ω := (.leaf (spec_l18Number_o3_1 s a i) (spec_l18Number_u3_1 s a i))
def spec_l18Number_3_sl (x : spec_l18Number_3_σ) : List Slot := [⟨.val false [⟨.str, .sh, TC.s (x.1)⟩], ⟨0, 0⟩⟩, ⟨.val false [⟨.int .i64, .sh, TC.i (x.2.1)⟩], ⟨0, 0⟩⟩, ⟨.val false [⟨.int .i64, .sh, TC.i (x.2.2)⟩], ⟨0, 0⟩⟩]
def spec_l18Number_3_out : spec_l18Number_3_ω → Ex × List Slot := (fun x => (.exit 0, [Slot.none, ⟨.val false [⟨.int .i64, .sh, TC.i x⟩], ⟨0, 0⟩⟩]))
noncomputable def spec_l18Number_lo3 : List Slot → Option (Told (Ex × List Slot)) := fun s => match s with
  | [⟨.val false [⟨.str, .sh, TC.s s⟩], ⟨0, 0⟩⟩, ⟨.val false [⟨.int .i64, .sh, TC.i a⟩], ⟨0, 0⟩⟩, ⟨.val false [⟨.int .i64, .sh, TC.i i⟩], ⟨0, 0⟩⟩] => some (((spec_l18Number_3_fin s a i)).map spec_l18Number_3_out)
  | _ => .none
noncomputable def spec_l18Number_lo : LoopTeller := fun r s => bif Nat.beq r 3 then spec_l18Number_lo3 s else .none
theorem spec_l18Number_3_r (s : List UInt8) (a : Int) (i : Int) (fuel : Nat) : rounds (rnd tab FT D1 live 42 spec_l18Number_lo 0 3) leave (fuel + 1) (spec_l18Number_3_sl (s, a, i)) = ((spec_l18Number_3_step s a i)).run (goOn (fun s => rounds (rnd tab FT D1 live 42 spec_l18Number_lo 0 3) leave fuel (spec_l18Number_3_sl s)) fun w => some (spec_l18Number_3_out w)) := by kernel_rfl
theorem spec_l18Number_3_h (s : List UInt8) (a : Int) (i : Int) (ow : spec_l18Number_3_ω) : ((spec_l18Number_3_fin s a i)).val = some ow → ∃ fuel, loopN spec_l18Number_3_st fuel (s, a, i) = some ow := by
  intro h
  refine auto_leaf (R := ((leN s : Nat) : Int)) (fun ho => ?_) h
  obtain ⟨rfl, rfl, h8⟩ := is_iff.1 ho
  refine ⟨s.length + 1, Eq.trans (congrArg (loopN spec_l18Number_3_st (s.length + 1)) ?_) (loopN_run (step := spec_l18Number_3_st) (N := s.length) (fun j => (s, ((leN (s.drop (s.length - j)) : Nat) : Int), (s.length : Int) - 1 - (j : Int))) (fun j hj => ?_) ?_ s.length 0 (by omega))⟩
  · simp [leN]
  · show (spec_l18Number_3_step s ((leN (s.drop (s.length - j)) : Nat) : Int) ((s.length : Int) - 1 - (j : Int))).val = _
    unfold spec_l18Number_3_step
    rw [number_step hj h8]
    refine Tr.t (by simp; omega) ?_
    refine Tr.t (by constructor <;> omega) ?_
    rw [Tr.val_ok, wrap64 (by omega) (by omega), show (s.length : Int) - 1 - (j : Int) - 1 = (s.length : Int) - 1 - ((j + 1 : Nat) : Int) from by omega]
  · show (spec_l18Number_3_step s ((leN (s.drop (s.length - s.length)) : Nat) : Int) ((s.length : Int) - 1 - (s.length : Int))).val = _
    unfold spec_l18Number_3_step
    refine Tr.n (by simp; omega) ?_
    rw [Nat.sub_self]; rfl
theorem spec_l18Number_is3 : LoopIs tab FT D1 live 42 spec_l18Number_lo 0 3 := by
  refine loop_told (sl := spec_l18Number_3_sl) (step := spec_l18Number_3_st) (out := spec_l18Number_3_out) (lor := spec_l18Number_lo3) (fin := fun x => (spec_l18Number_3_fin (x.1) (x.2.1) (x.2.2))) (fun _ => rfl) ?_ (fun x n => spec_l18Number_3_r x.1 x.2.1 x.2.2 n) (fun x ow => spec_l18Number_3_h x.1 x.2.1 x.2.2 ow)
  intro s t h
  unfold spec_l18Number_lo3 at h
  split at h
  · cases h; exact ⟨(_, _, _), rfl, rfl⟩
  · cases h
noncomputable def spec_l18Number_t (s : List UInt8) : Tr (Int) := (.ite ((spec_l18Number_o3_1 s (0 : Int) (IntKind.wrap .i64 ((s.length : Int) - (1 : Int)))) = true) (.ok (spec_l18Number_u3_1 s (0 : Int) (IntKind.wrap .i64 ((s.length : Int) - (1 : Int)))))
  .no)
def spec_l18Number_mk (p : Int) : Res := [(false, [⟨.int .i64, .sh, TC.i p⟩])]
noncomputable def spec_l18Number_c (s : List UInt8) : Bool := is (s.length ≤ 7)
noncomputable def spec_l18Number_v (s : List UInt8) : Int := hid ((leN s : Nat) : Int)
theorem spec_l18Number_l (s : List UInt8) : (spec_l18Number_c s) = true → (spec_l18Number_t s).val = some (spec_l18Number_v s) := by
  intro h
  have h8 := is_iff.1 h
  unfold spec_l18Number_t spec_l18Number_v
  rw [hid_eq]
  refine Tr.t (is_true ⟨rfl, wrap64 (by omega) (by omega), h8⟩) ?_
  rfl
noncomputable def spec_l18Number_S : List Arg → Option (Bool × Res) := fun xs => match xs with
  | [(false, [(.str, TC.s s)])] => some ((spec_l18Number_c s), spec_l18Number_mk (spec_l18Number_v s))
  | _ => .none
theorem spec_l18Number_e (s : List UInt8) : runF tab FT D1 live 42 spec_l18Number_lo [(false, [(.str, TC.s s)])] = (spec_l18Number_t s).run fun p => some (spec_l18Number_mk p) := by kernel_rfl
theorem spec_l18Number_s : ∀ xs r, spec_l18Number_S xs = some (true, r) → runF tab FT D1 live 42 spec_l18Number_lo xs = some r := by
  intro xs r h
  unfold spec_l18Number_S at h
  split at h
  · simp only [Option.some.injEq, Prod.mk.injEq] at h
    obtain ⟨h1, rfl⟩ := h
    exact fun_told (spec_l18Number_e _) (spec_l18Number_l _) h1
  · cases h
noncomputable def D2 : Dt := also D1 42 spec_l18Number_S
theorem d2 : DOk Go.Proofs.Try.prog tab D2 := d1.also mixed_ok tab_ok names_ok (fnLoops_one (by kernel_rfl) spec_l18Number_is3) spec_l18Number_s
theorem spec_l18Number_h {s : List UInt8} : spec_l18Number_v s = ((leN s : Nat) : Int) := hid_eq _
/-! spec_l18Delta -/
abbrev spec_l18Delta_15_σ := List UInt8 × Int × Bool × Int × Int × Int × List (List TC) × Int × Int × Int
abbrev spec_l18Delta_15_ω := (List UInt8 × Int × Bool × Int × Int × Int × List (List TC) × Int)
noncomputable def spec_l18Delta_15_step (d : List UInt8) (w : Int) (bk : Bool) (n : Int) (m : Int) (la : Int) (X : List (List TC)) (i : Int) (x : Int) (k : Int) : Tr (spec_l18Delta_15_σ ⊕ spec_l18Delta_15_ω) := (.ite ((decide (k < w)) = true) (.ite (0 ≤ (IntKind.wrap .u64 (IntKind.wrap .i64 ((8 : Int) * k)))) (.ite (roomFor (tab 5) (X ++ [[TC.i (IntKind.wrap .u8 (Int.fdiv x (2 ^ (min ((IntKind.wrap .u64 (IntKind.wrap .i64 ((8 : Int) * k)))).toNat 64))))]]).length) (.ok (.inl (d, w, bk, n, m, la, (X ++ [[TC.i (IntKind.wrap .u8 (Int.fdiv x (2 ^ (min ((IntKind.wrap .u64 (IntKind.wrap .i64 ((8 : Int) * k)))).toNat 64))))]]), i, x, (IntKind.wrap .i64 (k + (1 : Int))))))
    .no)
   .no)
  (.ok (.inr (d, w, bk, n, m, la, X, i))))
noncomputable def spec_l18Delta_15_st : spec_l18Delta_15_σ → Tr (spec_l18Delta_15_σ ⊕ spec_l18Delta_15_ω) := fun x => (spec_l18Delta_15_step (x.1) (x.2.1) (x.2.2.1) (x.2.2.2.1) (x.2.2.2.2.1) (x.2.2.2.2.2.1) (x.2.2.2.2.2.2.1) (x.2.2.2.2.2.2.2.1) (x.2.2.2.2.2.2.2.2.1) (x.2.2.2.2.2.2.2.2.2))
noncomputable def spec_l18Delta_o15_1 (d : List UInt8) (w : Int) (bk : Bool) (n : Int) (m : Int) (la : Int) (X : List (List TC)) (i : Int) (x : Int) (k : Int) : Bool := is (∃ wn : Nat, w = (wn : Int) ∧ 1 ≤ wn ∧ wn ≤ 4 ∧ X.length ≤ 4000 ∧ k = 0)
noncomputable def spec_l18Delta_u15_1_6 (d : List UInt8) (w : Int) (bk : Bool) (n : Int) (m : Int) (la : Int) (X : List (List TC)) (i : Int) (x : Int) (k : Int) : List (List TC) := X ++ bRows x w.toNat
noncomputable def spec_l18Delta_15_fin (d : List UInt8) (w : Int) (bk : Bool) (n : Int) (m : Int) (la : Int) (X : List (List TC)) (i : Int) (x : Int) (k : Int) : Told spec_l18Delta_15_ω := (.leaf (spec_l18Delta_o15_1 d w bk n m la X i x k) (d, w, bk, n, m, la, (spec_l18Delta_u15_1_6 d w bk n m la X i x k), i))
def spec_l18Delta_15_sl (x : spec_l18Delta_15_σ) : List Slot := [⟨.val false [⟨.str, .sh, TC.s (x.1)⟩], ⟨0, 0⟩⟩, ⟨.val false [⟨.int .i64, .sh, TC.i (x.2.1)⟩], ⟨0, 0⟩⟩, ⟨.val false [⟨.bool, .sh, TC.b (x.2.2.1)⟩], ⟨0, 0⟩⟩, ⟨.val false [⟨.int .i64, .sh, TC.i (x.2.2.2.1)⟩], ⟨0, 0⟩⟩, ⟨.val false [⟨.int .i64, .sh, TC.i (x.2.2.2.2.1)⟩], ⟨0, 0⟩⟩, ⟨.val false [⟨.int .i64, .sh, TC.i (x.2.2.2.2.2.1)⟩], ⟨0, 0⟩⟩, ⟨.val false [⟨.slice 5, .own true, TC.l (x.2.2.2.2.2.2.1)⟩], ⟨0, 0⟩⟩, ⟨.val false [⟨.int .i64, .sh, TC.i (x.2.2.2.2.2.2.2.1)⟩], ⟨0, 0⟩⟩, ⟨.val false [⟨.int .i64, .sh, TC.i (x.2.2.2.2.2.2.2.2.1)⟩], ⟨0, 0⟩⟩, ⟨.val false [⟨.int .i64, .sh, TC.i (x.2.2.2.2.2.2.2.2.2)⟩], ⟨0, 0⟩⟩]
def spec_l18Delta_15_out : spec_l18Delta_15_ω → Ex × List Slot := (fun x => (.exit 2, [⟨.val false [⟨.str, .sh, TC.s (x.1)⟩], ⟨0, 0⟩⟩, ⟨.val false [⟨.int .i64, .sh, TC.i (x.2.1)⟩], ⟨0, 0⟩⟩, ⟨.val false [⟨.bool, .sh, TC.b (x.2.2.1)⟩], ⟨0, 0⟩⟩, Slot.none, ⟨.val false [⟨.int .i64, .sh, TC.i (x.2.2.2.1)⟩], ⟨0, 0⟩⟩, ⟨.val false [⟨.int .i64, .sh, TC.i (x.2.2.2.2.1)⟩], ⟨0, 0⟩⟩, ⟨.val false [⟨.int .i64, .sh, TC.i (x.2.2.2.2.2.1)⟩], ⟨0, 0⟩⟩, ⟨.val false [⟨.slice 5, .own true, TC.l (x.2.2.2.2.2.2.1)⟩], ⟨0, 0⟩⟩, ⟨.val false [⟨.int .i64, .sh, TC.i (x.2.2.2.2.2.2.2)⟩], ⟨0, 0⟩⟩]))
noncomputable def spec_l18Delta_lo15 : List Slot → Option (Told (Ex × List Slot)) := fun s => match s with
  | [⟨.val false [⟨.str, .sh, TC.s d⟩], ⟨0, 0⟩⟩, ⟨.val false [⟨.int .i64, .sh, TC.i w⟩], ⟨0, 0⟩⟩, ⟨.val false [⟨.bool, .sh, TC.b bk⟩], ⟨0, 0⟩⟩, ⟨.val false [⟨.int .i64, .sh, TC.i n⟩], ⟨0, 0⟩⟩, ⟨.val false [⟨.int .i64, .sh, TC.i m⟩], ⟨0, 0⟩⟩, ⟨.val false [⟨.int .i64, .sh, TC.i la⟩], ⟨0, 0⟩⟩, ⟨.val false [⟨.slice 5, .own true, TC.l X⟩], ⟨0, 0⟩⟩, ⟨.val false [⟨.int .i64, .sh, TC.i i⟩], ⟨0, 0⟩⟩, ⟨.val false [⟨.int .i64, .sh, TC.i x⟩], ⟨0, 0⟩⟩, ⟨.val false [⟨.int .i64, .sh, TC.i k⟩], ⟨0, 0⟩⟩] => some (((spec_l18Delta_15_fin d w bk n m la X i x k)).map spec_l18Delta_15_out)
  | _ => .none
abbrev spec_l18Delta_6_σ := List UInt8 × Int × Bool × Int × Int × Int × List (List TC) × Int
abbrev spec_l18Delta_6_ω := (List UInt8 × Int × Int × List (List TC))
noncomputable def spec_l18Delta_6_step (d : List UInt8) (w : Int) (bk : Bool) (n : Int) (m : Int) (la : Int) (X : List (List TC)) (i : Int) : Tr (spec_l18Delta_6_σ ⊕ spec_l18Delta_6_ω) := (.ite ((decide (i < n)) = true) (.ite ((0 : Int) ≤ (IntKind.wrap .i64 (i * w)) ∧ (IntKind.wrap .i64 (i * w)) ≤ (IntKind.wrap .i64 ((IntKind.wrap .i64 (i * w)) + w)) ∧ (IntKind.wrap .i64 ((IntKind.wrap .i64 (i * w)) + w)) ≤ (d.length : Int)) (.ite ((spec_l18Number_c ((d.take ((IntKind.wrap .i64 ((IntKind.wrap .i64 (i * w)) + w))).toNat).drop ((IntKind.wrap .i64 (i * w))).toNat)) = true) (.ite (bk = true) (.ite ((spec_l18Delta_o15_1 d w bk n m (bits .i64 (fun a b => a &&& b) (IntKind.wrap .i64 ((spec_l18Number_v ((d.take ((IntKind.wrap .i64 ((IntKind.wrap .i64 (i * w)) + w))).toNat).drop ((IntKind.wrap .i64 (i * w))).toNat)) + la)) m) X i (bits .i64 (fun a b => a &&& b) (IntKind.wrap .i64 ((spec_l18Number_v ((d.take ((IntKind.wrap .i64 ((IntKind.wrap .i64 (i * w)) + w))).toNat).drop ((IntKind.wrap .i64 (i * w))).toNat)) + la)) m) (0 : Int)) = true) (.ok (.inl (d, w, bk, n, m, (bits .i64 (fun a b => a &&& b) (IntKind.wrap .i64 ((spec_l18Number_v ((d.take ((IntKind.wrap .i64 ((IntKind.wrap .i64 (i * w)) + w))).toNat).drop ((IntKind.wrap .i64 (i * w))).toNat)) + la)) m), (spec_l18Delta_u15_1_6 d w bk n m (bits .i64 (fun a b => a &&& b) (IntKind.wrap .i64 ((spec_l18Number_v ((d.take ((IntKind.wrap .i64 ((IntKind.wrap .i64 (i * w)) + w))).toNat).drop ((IntKind.wrap .i64 (i * w))).toNat)) + la)) m) X i (bits .i64 (fun a b => a &&& b) (IntKind.wrap .i64 ((spec_l18Number_v ((d.take ((IntKind.wrap .i64 ((IntKind.wrap .i64 (i * w)) + w))).toNat).drop ((IntKind.wrap .i64 (i * w))).toNat)) + la)) m) (0 : Int)), (IntKind.wrap .i64 (i + (1 : Int))))))
      .no)
     (.ite ((spec_l18Delta_o15_1 d w bk n m (bits .i64 (fun a b => a &&& b) (IntKind.wrap .i64 (la + (bits .i64 (fun a b => a &&& b) (IntKind.wrap .i64 ((spec_l18Number_v ((d.take ((IntKind.wrap .i64 ((IntKind.wrap .i64 (i * w)) + w))).toNat).drop ((IntKind.wrap .i64 (i * w))).toNat)) - la)) m))) m) X i (bits .i64 (fun a b => a &&& b) (IntKind.wrap .i64 ((spec_l18Number_v ((d.take ((IntKind.wrap .i64 ((IntKind.wrap .i64 (i * w)) + w))).toNat).drop ((IntKind.wrap .i64 (i * w))).toNat)) - la)) m) (0 : Int)) = true) (.ok (.inl (d, w, bk, n, m, (bits .i64 (fun a b => a &&& b) (IntKind.wrap .i64 (la + (bits .i64 (fun a b => a &&& b) (IntKind.wrap .i64 ((spec_l18Number_v ((d.take ((IntKind.wrap .i64 ((IntKind.wrap .i64 (i * w)) + w))).toNat).drop ((IntKind.wrap .i64 (i * w))).toNat)) - la)) m))) m), (spec_l18Delta_u15_1_6 d w bk n m (bits .i64 (fun a b => a &&& b) (IntKind.wrap .i64 (la + (bits .i64 (fun a b => a &&& b) (IntKind.wrap .i64 ((spec_l18Number_v ((d.take ((IntKind.wrap .i64 ((IntKind.wrap .i64 (i * w)) + w))).toNat).drop ((IntKind.wrap .i64 (i * w))).toNat)) - la)) m))) m) X i (bits .i64 (fun a b => a &&& b) (IntKind.wrap .i64 ((spec_l18Number_v ((d.take ((IntKind.wrap .i64 ((IntKind.wrap .i64 (i * w)) + w))).toNat).drop ((IntKind.wrap .i64 (i * w))).toNat)) - la)) m) (0 : Int)), (IntKind.wrap .i64 (i + (1 : Int))))))
      .no))
    .no)
   .no)
  (.ok (.inr (d, w, n, X))))
noncomputable def spec_l18Delta_6_st : spec_l18Delta_6_σ → Tr (spec_l18Delta_6_σ ⊕ spec_l18Delta_6_ω) := fun x => (spec_l18Delta_6_step (x.1) (x.2.1) (x.2.2.1) (x.2.2.2.1) (x.2.2.2.2.1) (x.2.2.2.2.2.1) (x.2.2.2.2.2.2.1) (x.2.2.2.2.2.2.2))
noncomputable def spec_l18Delta_o6_1 (d : List UInt8) (w : Int) (bk : Bool) (n : Int) (m : Int) (la : Int) (X : List (List TC)) (i : Int) : Bool := is (∃ wn : Nat, w = (wn : Int) ∧ 1 ≤ wn ∧ wn ≤ 4 ∧ n = ((d.length / w.toNat : Nat) : Int) ∧ m = 256 ^ wn - 1 ∧ d.length ≤ 2000 ∧ la = 0 ∧ X = [] ∧ i = 0)
noncomputable def spec_l18Delta_u6_1_3 (d : List UInt8) (w : Int) (bk : Bool) (n : Int) (m : Int) (la : Int) (X : List (List TC)) (i : Int) : List (List TC) := (dS d w.toNat bk (d.length / w.toNat)).2
noncomputable def spec_l18Delta_6_fin (d : List UInt8) (w : Int) (bk : Bool) (n : Int) (m : Int) (la : Int) (X : List (List TC)) (i : Int) : Told spec_l18Delta_6_ω := (.leaf (spec_l18Delta_o6_1 d w bk n m la X i) (d, w, n, (spec_l18Delta_u6_1_3 d w bk n m la X i)))
def spec_l18Delta_6_sl (x : spec_l18Delta_6_σ) : List Slot := [⟨.val false [⟨.str, .sh, TC.s (x.1)⟩], ⟨0, 0⟩⟩, ⟨.val false [⟨.int .i64, .sh, TC.i (x.2.1)⟩], ⟨0, 0⟩⟩, ⟨.val false [⟨.bool, .sh, TC.b (x.2.2.1)⟩], ⟨0, 0⟩⟩, ⟨.val false [⟨.int .i64, .sh, TC.i (x.2.2.2.1)⟩], ⟨0, 0⟩⟩, ⟨.val false [⟨.int .i64, .sh, TC.i (x.2.2.2.2.1)⟩], ⟨0, 0⟩⟩, ⟨.val false [⟨.int .i64, .sh, TC.i (x.2.2.2.2.2.1)⟩], ⟨0, 0⟩⟩, ⟨.val false [⟨.slice 5, .own true, TC.l (x.2.2.2.2.2.2.1)⟩], ⟨0, 0⟩⟩, ⟨.val false [⟨.int .i64, .sh, TC.i (x.2.2.2.2.2.2.2)⟩], ⟨0, 0⟩⟩]
def spec_l18Delta_6_out : spec_l18Delta_6_ω → Ex × List Slot := (fun x => (.exit 0, [⟨.val false [⟨.str, .sh, TC.s (x.1)⟩], ⟨0, 0⟩⟩, ⟨.val false [⟨.int .i64, .sh, TC.i (x.2.1)⟩], ⟨0, 0⟩⟩, Slot.none, ⟨.val false [⟨.int .i64, .sh, TC.i (x.2.2.1)⟩], ⟨0, 0⟩⟩, ⟨.val false [⟨.slice 5, .own true, TC.l (x.2.2.2)⟩], ⟨0, 0⟩⟩]))
noncomputable def spec_l18Delta_lo6 : List Slot → Option (Told (Ex × List Slot)) := fun s => match s with
  | [⟨.val false [⟨.str, .sh, TC.s d⟩], ⟨0, 0⟩⟩, ⟨.val false [⟨.int .i64, .sh, TC.i w⟩], ⟨0, 0⟩⟩, ⟨.val false [⟨.bool, .sh, TC.b bk⟩], ⟨0, 0⟩⟩, ⟨.val false [⟨.int .i64, .sh, TC.i n⟩], ⟨0, 0⟩⟩, ⟨.val false [⟨.int .i64, .sh, TC.i m⟩], ⟨0, 0⟩⟩, ⟨.val false [⟨.int .i64, .sh, TC.i la⟩], ⟨0, 0⟩⟩, ⟨.val false [⟨.slice 5, .own true, TC.l X⟩], ⟨0, 0⟩⟩, ⟨.val false [⟨.int .i64, .sh, TC.i i⟩], ⟨0, 0⟩⟩] => some (((spec_l18Delta_6_fin d w bk n m la X i)).map spec_l18Delta_6_out)
  | _ => .none
noncomputable def spec_l18Delta_lo : LoopTeller := fun r s => bif Nat.beq r 6 then spec_l18Delta_lo6 s else bif Nat.beq r 15 then spec_l18Delta_lo15 s else .none
theorem spec_l18Delta_15_r (d : List UInt8) (w : Int) (bk : Bool) (n : Int) (m : Int) (la : Int) (X : List (List TC)) (i : Int) (x : Int) (k : Int) (fuel : Nat) : rounds (rnd tab FT D2 live 25 spec_l18Delta_lo 1 15) leave (fuel + 1) (spec_l18Delta_15_sl (d, w, bk, n, m, la, X, i, x, k)) = ((spec_l18Delta_15_step d w bk n m la X i x k)).run (goOn (fun s => rounds (rnd tab FT D2 live 25 spec_l18Delta_lo 1 15) leave fuel (spec_l18Delta_15_sl s)) fun w => some (spec_l18Delta_15_out w)) := by kernel_rfl
theorem spec_l18Delta_15_h (d : List UInt8) (w : Int) (bk : Bool) (n : Int) (m : Int) (la : Int) (X : List (List TC)) (i : Int) (x : Int) (k : Int) (ow : spec_l18Delta_15_ω) : ((spec_l18Delta_15_fin d w bk n m la X i x k)).val = some ow → ∃ fuel, loopN spec_l18Delta_15_st fuel (d, w, bk, n, m, la, X, i, x, k) = some ow := by
  intro h
  refine auto_leaf (R := (d, w, bk, n, m, la, X ++ bRows x w.toNat, i)) (fun ho => ?_) h
  obtain ⟨wn, rfl, h1, h4, hX, rfl⟩ := is_iff.1 ho
  refine ⟨wn + 1, Eq.trans (congrArg (loopN spec_l18Delta_15_st (wn + 1)) ?_) (loopN_run (step := spec_l18Delta_15_st) (N := wn) (fun j => (d, (wn : Int), bk, n, m, la, X ++ bRows x j, i, x, (j : Int))) (fun j hj => ?_) ?_ wn 0 (by omega))⟩
  · simp [bRows]
  · show (spec_l18Delta_15_step d (wn : Int) bk n m la (X ++ bRows x j) i x (j : Int)).val = _
    unfold spec_l18Delta_15_step
    have e1 : IntKind.wrap .u64 (IntKind.wrap .i64 ((8 : Int) * (j : Int))) = ((8 * j : Nat) : Int) := by
      rw [wrap64 (by omega) (by omega), IntKind.wrap_u64]; omega
    rw [e1, Int.toNat_natCast, Nat.min_eq_left (by omega), show [TC.i (IntKind.wrap .u8 (Int.fdiv x (2 ^ (8 * j))))] = bAt x j from rfl, List.append_assoc, bRows_succ]
    refine Tr.t (by simp; omega) ?_
    refine Tr.t (by omega) ?_
    refine Tr.t (by unfold roomFor; simp only [show (tab 5).bytes = 1 from rfl, List.length_append, bRows_len]; omega) ?_
    rw [Tr.val_ok, wrap64 (i := (j : Int) + 1) (by omega) (by omega)]; rfl
  · show (spec_l18Delta_15_step d (wn : Int) bk n m la (X ++ bRows x wn) i x (wn : Int)).val = _
    refine Tr.n (by simp) ?_
    rfl
theorem spec_l18Delta_is15 : LoopIs tab FT D2 live 25 spec_l18Delta_lo 1 15 := by
  refine loop_told (sl := spec_l18Delta_15_sl) (step := spec_l18Delta_15_st) (out := spec_l18Delta_15_out) (lor := spec_l18Delta_lo15) (fin := fun x => (spec_l18Delta_15_fin (x.1) (x.2.1) (x.2.2.1) (x.2.2.2.1) (x.2.2.2.2.1) (x.2.2.2.2.2.1) (x.2.2.2.2.2.2.1) (x.2.2.2.2.2.2.2.1) (x.2.2.2.2.2.2.2.2.1) (x.2.2.2.2.2.2.2.2.2))) (fun _ => rfl) ?_ (fun x n => spec_l18Delta_15_r x.1 x.2.1 x.2.2.1 x.2.2.2.1 x.2.2.2.2.1 x.2.2.2.2.2.1 x.2.2.2.2.2.2.1 x.2.2.2.2.2.2.2.1 x.2.2.2.2.2.2.2.2.1 x.2.2.2.2.2.2.2.2.2 n) (fun x ow => spec_l18Delta_15_h x.1 x.2.1 x.2.2.1 x.2.2.2.1 x.2.2.2.2.1 x.2.2.2.2.2.1 x.2.2.2.2.2.2.1 x.2.2.2.2.2.2.2.1 x.2.2.2.2.2.2.2.2.1 x.2.2.2.2.2.2.2.2.2 ow)
  intro s t h
  unfold spec_l18Delta_lo15 at h
  split at h
  · cases h; exact ⟨(_, _, _, _, _, _, _, _, _, _), rfl, rfl⟩
  · cases h
theorem spec_l18Delta_6_r (d : List UInt8) (w : Int) (bk : Bool) (n : Int) (m : Int) (la : Int) (X : List (List TC)) (i : Int) (fuel : Nat) : rounds (rnd tab FT D2 live 25 spec_l18Delta_lo 0 6) leave (fuel + 1) (spec_l18Delta_6_sl (d, w, bk, n, m, la, X, i)) = ((spec_l18Delta_6_step d w bk n m la X i)).run (goOn (fun s => rounds (rnd tab FT D2 live 25 spec_l18Delta_lo 0 6) leave fuel (spec_l18Delta_6_sl s)) fun w => some (spec_l18Delta_6_out w)) := by kernel_rfl
theorem spec_l18Delta_6_h (d : List UInt8) (w : Int) (bk : Bool) (n : Int) (m : Int) (la : Int) (X : List (List TC)) (i : Int) (ow : spec_l18Delta_6_ω) : ((spec_l18Delta_6_fin d w bk n m la X i)).val = some ow → ∃ fuel, loopN spec_l18Delta_6_st fuel (d, w, bk, n, m, la, X, i) = some ow := by
  intro h
  refine auto_leaf (R := (d, w, n, (dS d w.toNat bk (d.length / w.toNat)).2)) (fun ho => ?_) h
  obtain ⟨wn, rfl, h1, h4, rfl, rfl, hd, rfl, rfl, rfl⟩ := is_iff.1 ho
  simp only [Int.toNat_natCast]
  obtain ⟨m, hm⟩ : ∃ m, m = d.length / wn := ⟨_, rfl⟩
  rw [← hm]
  have hmd : m * wn ≤ d.length := by rw [hm]; exact Nat.div_mul_le_self _ _
  have hm2 : m ≤ d.length := by rw [hm]; exact Nat.div_le_self _ _
  refine ⟨m + 1, Eq.trans (congrArg (loopN spec_l18Delta_6_st (m + 1)) (by simp [dS])) (loopN_run (step := spec_l18Delta_6_st) (N := m) (fun j => (d, (wn : Int), bk, (m : Int), 256 ^ wn - 1, (dS d wn bk j).1, (dS d wn bk j).2, (j : Int))) (fun j hj => ?_) ?_ m 0 (by omega))⟩
  · have hc := chunks_lt h1 (hm ▸ hj)
    have hl := dS_len (d := d) (w := wn) (bk := bk) j
    have ej : IntKind.wrap .i64 ((j : Int) * (wn : Int)) = ((j * wn : Nat) : Int) := by
      rw [← Int.natCast_mul]; exact wrap64 (by omega) (by omega)
    have e0 : spec_l18Number_v ((d.take (((j * wn : Nat) : Int) + (wn : Int)).toNat).drop (((j * wn : Nat) : Int)).toNat) = dX d wn j := by
      rw [spec_l18Number_h, show (((j * wn : Nat) : Int) + (wn : Int)).toNat = j * wn + wn from by omega, Int.toNat_natCast, List.drop_take, show j * wn + wn - j * wn = wn from by omega]; rfl
    show (spec_l18Delta_6_step d (wn : Int) bk (m : Int) (256 ^ wn - 1) (dS d wn bk j).1 (dS d wn bk j).2 (j : Int)).val = _
    unfold spec_l18Delta_6_step
    rw [ej, wrap64 (i := ((j * wn : Nat) : Int) + (wn : Int)) (by omega) (by omega), e0]
    refine Tr.t (by simp; omega) ?_
    refine Tr.t (by omega) ?_
    refine Tr.t (is_true (by simp only [List.length_drop, List.length_take]; omega)) ?_
    cases bk with
    | true =>
      refine Tr.t rfl ?_
      refine Tr.t (is_true ⟨wn, rfl, h1, h4, by omega, rfl⟩) ?_
      rw [Tr.val_ok, wrap64 (i := (j : Int) + 1) (by omega) (by omega)]; rfl
    | false =>
      refine Tr.n (by simp) ?_
      refine Tr.t (is_true ⟨wn, rfl, h1, h4, by omega, rfl⟩) ?_
      rw [Tr.val_ok, wrap64 (i := (j : Int) + 1) (by omega) (by omega)]; rfl
  · show (spec_l18Delta_6_step d (wn : Int) bk (m : Int) (256 ^ wn - 1) (dS d wn bk m).1 (dS d wn bk m).2 (m : Int)).val = _
    unfold spec_l18Delta_6_step
    refine Tr.n (by simp) ?_
    rfl
theorem spec_l18Delta_is6 : LoopIs tab FT D2 live 25 spec_l18Delta_lo 0 6 := by
  refine loop_told (sl := spec_l18Delta_6_sl) (step := spec_l18Delta_6_st) (out := spec_l18Delta_6_out) (lor := spec_l18Delta_lo6) (fin := fun x => (spec_l18Delta_6_fin (x.1) (x.2.1) (x.2.2.1) (x.2.2.2.1) (x.2.2.2.2.1) (x.2.2.2.2.2.1) (x.2.2.2.2.2.2.1) (x.2.2.2.2.2.2.2))) (fun _ => rfl) ?_ (fun x n => spec_l18Delta_6_r x.1 x.2.1 x.2.2.1 x.2.2.2.1 x.2.2.2.2.1 x.2.2.2.2.2.1 x.2.2.2.2.2.2.1 x.2.2.2.2.2.2.2 n) (fun x ow => spec_l18Delta_6_h x.1 x.2.1 x.2.2.1 x.2.2.2.1 x.2.2.2.2.1 x.2.2.2.2.2.1 x.2.2.2.2.2.2.1 x.2.2.2.2.2.2.2 ow)
  intro s t h
  unfold spec_l18Delta_lo6 at h
  split at h
  · cases h; exact ⟨(_, _, _, _, _, _, _, _), rfl, rfl⟩
  · cases h
noncomputable def spec_l18Delta_t (d : List UInt8) (w : Int) (bk : Bool) : Tr (List UInt8) := (.ite (w ≠ 0) (.ite (0 ≤ (IntKind.wrap .u64 (IntKind.wrap .i64 ((8 : Int) * w)))) (.ite ((spec_l18Delta_o6_1 d w bk (IntKind.wrap .i64 (Int.tdiv (d.length : Int) w)) (IntKind.wrap .i64 ((IntKind.wrap .i64 ((1 : Int) * (2 ^ (min ((IntKind.wrap .u64 (IntKind.wrap .i64 ((8 : Int) * w)))).toNat 64)))) - (1 : Int))) (0 : Int) [] (0 : Int)) = true) (.ite ((0 : Int) ≤ (IntKind.wrap .i64 ((IntKind.wrap .i64 (Int.tdiv (d.length : Int) w)) * w)) ∧ (IntKind.wrap .i64 ((IntKind.wrap .i64 (Int.tdiv (d.length : Int) w)) * w)) ≤ (d.length : Int) ∧ (d.length : Int) ≤ (d.length : Int)) (.ite (roomFor (tab 5) ((spec_l18Delta_u6_1_3 d w bk (IntKind.wrap .i64 (Int.tdiv (d.length : Int) w)) (IntKind.wrap .i64 ((IntKind.wrap .i64 ((1 : Int) * (2 ^ (min ((IntKind.wrap .u64 (IntKind.wrap .i64 ((8 : Int) * w)))).toNat 64)))) - (1 : Int))) (0 : Int) [] (0 : Int)) ++ (bytesRow ((d.take ((d.length : Int)).toNat).drop ((IntKind.wrap .i64 ((IntKind.wrap .i64 (Int.tdiv (d.length : Int) w)) * w))).toNat))).length) (.ok (((spec_l18Delta_u6_1_3 d w bk (IntKind.wrap .i64 (Int.tdiv (d.length : Int) w)) (IntKind.wrap .i64 ((IntKind.wrap .i64 ((1 : Int) * (2 ^ (min ((IntKind.wrap .u64 (IntKind.wrap .i64 ((8 : Int) * w)))).toNat 64)))) - (1 : Int))) (0 : Int) [] (0 : Int)) ++ (bytesRow ((d.take ((d.length : Int)).toNat).drop ((IntKind.wrap .i64 ((IntKind.wrap .i64 (Int.tdiv (d.length : Int) w)) * w))).toNat))).map byteOf))
      .no)
     .no)
    .no)
   .no)
  .no)
def spec_l18Delta_mk (p : List UInt8) : Res := [(false, [⟨.str, .sh, TC.s p⟩])]
noncomputable def spec_l18Delta_c (d : List UInt8) (w : Int) (bk : Bool) : Bool := is (∃ wn : Nat, w = (wn : Int) ∧ (wn = 1 ∨ wn = 2 ∨ wn = 4) ∧ d.length ≤ 2000)
noncomputable def spec_l18Delta_v (d : List UInt8) (w : Int) (bk : Bool) : List UInt8 := hid ((dI d w.toNat bk (d.length / w.toNat)).2 ++ d.drop (d.length / w.toNat * w.toNat))
theorem spec_l18Delta_l (d : List UInt8) (w : Int) (bk : Bool) : (spec_l18Delta_c d w bk) = true → (spec_l18Delta_t d w bk).val = some (spec_l18Delta_v d w bk) := by
  intro h
  obtain ⟨wn, rfl, hw, hd⟩ := is_iff.1 h
  have h1 : 1 ≤ wn ∧ wn ≤ 4 := by omega
  obtain ⟨h1, h4⟩ := h1
  have e1 := dS_len (d := d) (w := wn) (bk := bk) (d.length / wn)
  have e2 := Nat.div_mul_le_self d.length wn
  have e3 := Nat.div_le_self d.length wn
  have em : IntKind.wrap .i64 ((IntKind.wrap .i64 ((1 : Int) * (2 ^ (min ((IntKind.wrap .u64 (IntKind.wrap .i64 ((8 : Int) * (wn : Int))))).toNat 64)))) - (1 : Int)) = 256 ^ wn - 1 := by
    rcases hw with rfl | rfl | rfl <;> rfl
  have en : IntKind.wrap .i64 (Int.tdiv (d.length : Int) (wn : Int)) = ((d.length / wn : Nat) : Int) := by
    rw [← Int.ofNat_tdiv]; generalize d.length / wn = q at e3 ⊢; exact wrap64 (by omega) (by omega)
  have et : IntKind.wrap .i64 (((d.length / wn : Nat) : Int) * (wn : Int)) = ((d.length / wn * wn : Nat) : Int) := by
    rw [← Int.natCast_mul]; generalize d.length / wn * wn = q at e2 ⊢; exact wrap64 (by omega) (by omega)
  unfold spec_l18Delta_t spec_l18Delta_v
  rw [hid_eq, em, en, et, Int.toNat_natCast, Int.toNat_natCast, Int.toNat_natCast, List.take_length]
  refine Tr.t (by omega) ?_
  refine Tr.t (by rw [IntKind.wrap_u64]; omega) ?_
  refine Tr.t (is_true ⟨wn, rfl, h1, h4, by rw [Int.toNat_natCast], rfl, hd, rfl, rfl, rfl⟩) ?_
  have eu : spec_l18Delta_u6_1_3 d (wn : Int) bk ((d.length / wn : Nat) : Int) (256 ^ wn - 1) 0 [] 0 = (dS d wn bk (d.length / wn)).2 := by
    unfold spec_l18Delta_u6_1_3
    rw [Int.toNat_natCast]
  rw [eu]
  refine Tr.t (by omega) ?_
  refine Tr.t (by unfold roomFor; simp only [show (tab 5).bytes = 1 from rfl, List.length_append, e1, bytesRow, List.length_map, List.length_drop]; omega) ?_
  rw [Tr.val_ok, List.map_append, (dS_dI h4 _).2, bytesRow_of]
noncomputable def spec_l18Delta_S : List Arg → Option (Bool × Res) := fun xs => match xs with
  | [(false, [(.str, TC.s d)]), (false, [(.int .i64, TC.i w)]), (false, [(.bool, TC.b bk)])] => some ((spec_l18Delta_c d w bk), spec_l18Delta_mk (spec_l18Delta_v d w bk))
  | _ => .none
theorem spec_l18Delta_e (d : List UInt8) (w : Int) (bk : Bool) : runF tab FT D2 live 25 spec_l18Delta_lo [(false, [(.str, TC.s d)]), (false, [(.int .i64, TC.i w)]), (false, [(.bool, TC.b bk)])] = (spec_l18Delta_t d w bk).run fun p => some (spec_l18Delta_mk p) := by kernel_rfl
theorem spec_l18Delta_s : ∀ xs r, spec_l18Delta_S xs = some (true, r) → runF tab FT D2 live 25 spec_l18Delta_lo xs = some r := by
  intro xs r h
  unfold spec_l18Delta_S at h
  split at h
  · simp only [Option.some.injEq, Prod.mk.injEq] at h
    obtain ⟨h1, rfl⟩ := h
    exact fun_told (spec_l18Delta_e _ _ _) (spec_l18Delta_l _ _ _) h1
  · cases h
noncomputable def D3 : Dt := also D2 25 spec_l18Delta_S
theorem d3 : DOk Go.Proofs.Try.prog tab D3 := d2.also mixed_ok tab_ok names_ok (fnLoops_two (by kernel_rfl) spec_l18Delta_is6 spec_l18Delta_is15) spec_l18Delta_s
theorem spec_l18Delta_h {d : List UInt8} {w : Int} {bk : Bool} : spec_l18Delta_v d w bk = (dI d w.toNat bk (d.length / w.toNat)).2 ++ d.drop (d.length / w.toNat * w.toNat) := hid_eq _
/-! spec_Undelta -/
noncomputable def spec_Undelta_t (d : List UInt8) (w : Int) : Tr (List UInt8) := (.ite ((!(spec_l18Width_v d w)) = true) (.ok ([]))
  (.ite ((spec_l18Delta_c d w true) = true) (.ok (spec_l18Delta_v d w true))
   .no))
def spec_Undelta_mk (p : List UInt8) : Res := [(false, [⟨.str, .sh, TC.s p⟩])]
noncomputable def spec_Undelta_c (d : List UInt8) (w : Int) : Bool := (bif (!(spec_l18Width_v d w)) then true else ((spec_l18Delta_c d w true) && true))
noncomputable def spec_Undelta_v (d : List UInt8) (w : Int) : List UInt8 := (bif (!(spec_l18Width_v d w)) then [] else (spec_l18Delta_v d w true))
theorem spec_Undelta_l (d : List UInt8) (w : Int) : (spec_Undelta_c d w) = true → (spec_Undelta_t d w).val = some (spec_Undelta_v d w) := by
  unfold spec_Undelta_t spec_Undelta_v spec_Undelta_c
  exact fun h => (Tr.ss h (fun h => rfl) (fun h => (Tr.gb h fun h => rfl)))
noncomputable def spec_Undelta_S : List Arg → Option (Bool × Res) := fun xs => match xs with
  | [(false, [(.str, TC.s d)]), (false, [(.int .i64, TC.i w)])] => some ((spec_Undelta_c d w), spec_Undelta_mk (spec_Undelta_v d w))
  | _ => .none
theorem spec_Undelta_e (d : List UInt8) (w : Int) : runF tab FT D3 live 11 noLoops [(false, [(.str, TC.s d)]), (false, [(.int .i64, TC.i w)])] = (spec_Undelta_t d w).run fun p => some (spec_Undelta_mk p) := by kernel_rfl
theorem spec_Undelta_s : ∀ xs r, spec_Undelta_S xs = some (true, r) → runF tab FT D3 live 11 noLoops xs = some r := by
  intro xs r h
  unfold spec_Undelta_S at h
  split at h
  · simp only [Option.some.injEq, Prod.mk.injEq] at h
    obtain ⟨h1, rfl⟩ := h
    exact fun_told (spec_Undelta_e _ _) (spec_Undelta_l _ _) h1
  · cases h
noncomputable def D4 : Dt := also D3 11 spec_Undelta_S
theorem d4 : DOk Go.Proofs.Try.prog tab D4 := d3.also mixed_ok tab_ok names_ok noLoops_ok spec_Undelta_s
theorem spec_Undelta_cc {d : List UInt8} {w : Int}  : (spec_Undelta_c d w) = true := by
  unfold spec_Undelta_c
  refine bifT (fun b1 => ?_) (fun b1 => ?_)
  · skip
    rfl
  · skip
    refine andT (by exact is_true (wOfS b1)) ?_
    rfl
/-! impl_isWidth -/
noncomputable def impl_isWidth_t (w : Int) : Tr (Bool) := (.ite ((w == (1 : Int)) = true) (.ok true)
  (.ite ((w == (2 : Int)) = true) (.ok true)
   (.ok (w == (4 : Int)))))
def impl_isWidth_mk (p : Bool) : Res := [(false, [⟨.bool, .sh, TC.b p⟩])]
noncomputable def impl_isWidth_c (w : Int) : Bool := true
noncomputable def impl_isWidth_v (w : Int) : Bool := (bif (w == (1 : Int)) then true else (bif (w == (2 : Int)) then true else (w == (4 : Int))))
theorem impl_isWidth_l (w : Int) : (impl_isWidth_c w) = true → (impl_isWidth_t w).val = some (impl_isWidth_v w) := by
  intro h
  skip
  unfold impl_isWidth_t impl_isWidth_v
  exact (Tr.s rfl (Tr.s rfl rfl))
noncomputable def impl_isWidth_S : List Arg → Option (Bool × Res) := fun xs => match xs with
  | [(false, [(.int .i64, TC.i w)])] => some (true, impl_isWidth_mk (impl_isWidth_v w))
  | _ => .none
theorem impl_isWidth_e (w : Int) : runF tab FT D4 live 26 noLoops [(false, [(.int .i64, TC.i w)])] = (impl_isWidth_t w).run fun p => some (impl_isWidth_mk p) := by kernel_rfl
theorem impl_isWidth_s : ∀ xs r, impl_isWidth_S xs = some (true, r) → runF tab FT D4 live 26 noLoops xs = some r := by
  intro xs r h
  unfold impl_isWidth_S at h
  split at h
  · simp only [Option.some.injEq, Prod.mk.injEq] at h
    obtain ⟨h1, rfl⟩ := h
    exact fun_told (impl_isWidth_e _) (impl_isWidth_l _) rfl
  · cases h
noncomputable def D5 : Dt := also D4 26 impl_isWidth_S
theorem d5 : DOk Go.Proofs.Try.prog tab D5 := d4.also mixed_ok tab_ok names_ok noLoops_ok impl_isWidth_s
theorem wOfI {d : List UInt8} {w : Int} (b : (!(impl_isWidth_v w)) = false) (c : decide ((d.length : Int) > (1100 : Int)) = false) : ∃ wn : Nat, w = (wn : Int) ∧ (wn = 1 ∨ wn = 2 ∨ wn = 4) ∧ d.length ≤ 2000 := by
  have h : impl_isWidth_v w = true := by simpa using b
  unfold impl_isWidth_v at h
  have c : ¬ (d.length : Int) > 1100 := by simpa using c
  refine ⟨w.toNat, ?_, ?_, ?_⟩ <;> (revert h; cases h1 : (w == 1) <;> cases h2 : (w == 2) <;> cases h4 : (w == 4) <;> simp at * <;> omega)
theorem wOfD {d : List UInt8} {w : Int} (b : (!(impl_isWidth_v w)) = false) (c : decide ((d.length : Int) > (1100 : Int)) = false) : ∃ wn : Nat, w = (wn : Int) ∧ 1 ≤ wn ∧ wn ≤ 4 ∧ d.length ≤ 2000 := by
  obtain ⟨wn, h1, h2, h3⟩ := wOfI b c
  exact ⟨wn, h1, by omega, by omega, h3⟩
/-! impl_getBits -/
abbrev impl_getBits_3_σ := List UInt8 × Int × Int × Int
abbrev impl_getBits_3_ω := (Int)
noncomputable def impl_getBits_3_step (s : List UInt8) (a : Int) (m : Int) (i : Int) : Tr (impl_getBits_3_σ ⊕ impl_getBits_3_ω) := (.ite ((decide (i < m)) = true) (.ite ((0 : Int) ≤ i ∧ i < (s.length : Int)) (.ite (0 ≤ (IntKind.wrap .i64 ((8 : Int) * i))) (.ok (.inl (s, (bits .u64 (fun a b => a ||| b) a (IntKind.wrap .u64 ((IntKind.wrap .u64 ((s.getD (i).toNat 0).toNat : Int)) * (2 ^ (min ((IntKind.wrap .i64 ((8 : Int) * i))).toNat 64))))), m, (IntKind.wrap .i64 (i + (1 : Int))))))
    .no)
   .no)
  (.ok (.inr a)))
noncomputable def impl_getBits_3_st : impl_getBits_3_σ → Tr (impl_getBits_3_σ ⊕ impl_getBits_3_ω) := fun x => (impl_getBits_3_step (x.1) (x.2.1) (x.2.2.1) (x.2.2.2))
noncomputable def impl_getBits_o3_1 (s : List UInt8) (a : Int) (m : Int) (i : Int) : Bool := is (a = 0 ∧ m = (s.length : Int) ∧ i = 0 ∧ s.length ≤ 8)
noncomputable def impl_getBits_u3_1 (s : List UInt8) (a : Int) (m : Int) (i : Int) : Int := ((leN s : Nat) : Int)
noncomputable def impl_getBits_3_fin (s : List UInt8) (a : Int) (m : Int) (i : Int) : Told impl_getBits_3_ω := (.leaf (impl_getBits_o3_1 s a m i) (impl_getBits_u3_1 s a m i))
def impl_getBits_3_sl (x : impl_getBits_3_σ) : List Slot := [⟨.val false [⟨.str, .sh, TC.s (x.1)⟩], ⟨0, 0⟩⟩, ⟨.val false [⟨.int .u64, .sh, TC.i (x.2.1)⟩], ⟨0, 0⟩⟩, ⟨.val false [⟨.int .i64, .sh, TC.i (x.2.2.1)⟩], ⟨0, 0⟩⟩, ⟨.val false [⟨.int .i64, .sh, TC.i (x.2.2.2)⟩], ⟨0, 0⟩⟩]
def impl_getBits_3_out : impl_getBits_3_ω → Ex × List Slot := (fun x => (.exit 0, [Slot.none, ⟨.val false [⟨.int .u64, .sh, TC.i x⟩], ⟨0, 0⟩⟩]))
noncomputable def impl_getBits_lo3 : List Slot → Option (Told (Ex × List Slot)) := fun s => match s with
  | [⟨.val false [⟨.str, .sh, TC.s s⟩], ⟨0, 0⟩⟩, ⟨.val false [⟨.int .u64, .sh, TC.i a⟩], ⟨0, 0⟩⟩, ⟨.val false [⟨.int .i64, .sh, TC.i m⟩], ⟨0, 0⟩⟩, ⟨.val false [⟨.int .i64, .sh, TC.i i⟩], ⟨0, 0⟩⟩] => some (((impl_getBits_3_fin s a m i)).map impl_getBits_3_out)
  | _ => .none
noncomputable def impl_getBits_lo : LoopTeller := fun r s => bif Nat.beq r 3 then impl_getBits_lo3 s else .none
theorem impl_getBits_3_r (s : List UInt8) (a : Int) (m : Int) (i : Int) (fuel : Nat) : rounds (rnd tab FT D5 live 43 impl_getBits_lo 0 3) leave (fuel + 1) (impl_getBits_3_sl (s, a, m, i)) = ((impl_getBits_3_step s a m i)).run (goOn (fun s => rounds (rnd tab FT D5 live 43 impl_getBits_lo 0 3) leave fuel (impl_getBits_3_sl s)) fun w => some (impl_getBits_3_out w)) := by kernel_rfl
theorem impl_getBits_3_h (s : List UInt8) (a : Int) (m : Int) (i : Int) (ow : impl_getBits_3_ω) : ((impl_getBits_3_fin s a m i)).val = some ow → ∃ fuel, loopN impl_getBits_3_st fuel (s, a, m, i) = some ow := by
  intro h
  refine auto_leaf (R := ((leN s : Nat) : Int)) (fun ho => ?_) h
  obtain ⟨rfl, rfl, rfl, h8⟩ := is_iff.1 ho
  refine ⟨s.length + 1, loopN_run (step := impl_getBits_3_st) (N := s.length) (fun j => (s, ((leN (s.take j) : Nat) : Int), (s.length : Int), (j : Int))) (fun j hj => ?_) ?_ s.length 0 (by omega)⟩
  · show (impl_getBits_3_step s ((leN (s.take j) : Nat) : Int) (s.length : Int) (j : Int)).val = _
    unfold impl_getBits_3_step
    rw [getBits_step hj h8]
    refine Tr.t (by simp; omega) ?_
    refine Tr.t (by constructor <;> omega) ?_
    refine Tr.t (by rw [wrap64 (by omega) (by omega)]; omega) ?_
    rw [Tr.val_ok, wrap64 (i := (j : Int) + 1) (by omega) (by omega)]; rfl
  · show (impl_getBits_3_step s ((leN (s.take s.length) : Nat) : Int) (s.length : Int) (s.length : Int)).val = _
    unfold impl_getBits_3_step
    refine Tr.n (by simp) ?_
    rw [List.take_length]; rfl
theorem impl_getBits_is3 : LoopIs tab FT D5 live 43 impl_getBits_lo 0 3 := by
  refine loop_told (sl := impl_getBits_3_sl) (step := impl_getBits_3_st) (out := impl_getBits_3_out) (lor := impl_getBits_lo3) (fin := fun x => (impl_getBits_3_fin (x.1) (x.2.1) (x.2.2.1) (x.2.2.2))) (fun _ => rfl) ?_ (fun x n => impl_getBits_3_r x.1 x.2.1 x.2.2.1 x.2.2.2 n) (fun x ow => impl_getBits_3_h x.1 x.2.1 x.2.2.1 x.2.2.2 ow)
  intro s t h
  unfold impl_getBits_lo3 at h
  split at h
  · cases h; exact ⟨(_, _, _, _), rfl, rfl⟩
  · cases h
noncomputable def impl_getBits_t (s : List UInt8) : Tr (Int) := (.ite ((impl_getBits_o3_1 s (0 : Int) (s.length : Int) (0 : Int)) = true) (.ok (impl_getBits_u3_1 s (0 : Int) (s.length : Int) (0 : Int)))
  .no)
def impl_getBits_mk (p : Int) : Res := [(false, [⟨.int .u64, .sh, TC.i p⟩])]
noncomputable def impl_getBits_c (s : List UInt8) : Bool := is (s.length ≤ 8)
noncomputable def impl_getBits_v (s : List UInt8) : Int := hid ((leN s : Nat) : Int)
theorem impl_getBits_l (s : List UInt8) : (impl_getBits_c s) = true → (impl_getBits_t s).val = some (impl_getBits_v s) := by
  intro h
  have h8 := is_iff.1 h
  unfold impl_getBits_t impl_getBits_v
  rw [hid_eq]
  refine Tr.t (is_true ⟨rfl, rfl, rfl, h8⟩) ?_
  rfl
noncomputable def impl_getBits_S : List Arg → Option (Bool × Res) := fun xs => match xs with
  | [(false, [(.str, TC.s s)])] => some ((impl_getBits_c s), impl_getBits_mk (impl_getBits_v s))
  | _ => .none
theorem impl_getBits_e (s : List UInt8) : runF tab FT D5 live 43 impl_getBits_lo [(false, [(.str, TC.s s)])] = (impl_getBits_t s).run fun p => some (impl_getBits_mk p) := by kernel_rfl
theorem impl_getBits_s : ∀ xs r, impl_getBits_S xs = some (true, r) → runF tab FT D5 live 43 impl_getBits_lo xs = some r := by
  intro xs r h
  unfold impl_getBits_S at h
  split at h
  · simp only [Option.some.injEq, Prod.mk.injEq] at h
    obtain ⟨h1, rfl⟩ := h
    exact fun_told (impl_getBits_e _) (impl_getBits_l _) h1
  · cases h
noncomputable def D6 : Dt := also D5 43 impl_getBits_S
theorem d6 : DOk Go.Proofs.Try.prog tab D6 := d5.also mixed_ok tab_ok names_ok (fnLoops_one (by kernel_rfl) impl_getBits_is3) impl_getBits_s
theorem impl_getBits_h {s : List UInt8} : impl_getBits_v s = ((leN s : Nat) : Int) := hid_eq _
/-! impl_putBytes -/
abbrev impl_putBytes_3_σ := Int × List (List TC) × Int × Int
abbrev impl_putBytes_3_ω := (List (List TC))
noncomputable def impl_putBytes_3_step (n : Int) (X : List (List TC)) (m : Int) (k : Int) : Tr (impl_putBytes_3_σ ⊕ impl_putBytes_3_ω) := (.ite ((decide (k < m)) = true) (.ite (0 ≤ (IntKind.wrap .i64 ((8 : Int) * k))) (.ite ((0 : Int) ≤ k ∧ k < (X.length : Int)) (.ok (.inl (n, (X.set (k).toNat (splice (row X k) 0 [TC.i (IntKind.wrap .u8 (Int.fdiv n (2 ^ (min ((IntKind.wrap .i64 ((8 : Int) * k))).toNat 64))))])), m, (IntKind.wrap .i64 (k + (1 : Int))))))
    .no)
   .no)
  (.ok (.inr X)))
noncomputable def impl_putBytes_3_st : impl_putBytes_3_σ → Tr (impl_putBytes_3_σ ⊕ impl_putBytes_3_ω) := fun x => (impl_putBytes_3_step (x.1) (x.2.1) (x.2.2.1) (x.2.2.2))
noncomputable def impl_putBytes_o3_1 (n : Int) (X : List (List TC)) (m : Int) (k : Int) : Bool := is (∃ sz : Nat, m = (sz : Int) ∧ sz ≤ 8 ∧ X = List.replicate sz [TC.i 0] ∧ k = 0)
noncomputable def impl_putBytes_u3_1 (n : Int) (X : List (List TC)) (m : Int) (k : Int) : List (List TC) := bRows n m.toNat
noncomputable def impl_putBytes_3_fin (n : Int) (X : List (List TC)) (m : Int) (k : Int) : Told impl_putBytes_3_ω := (.leaf (impl_putBytes_o3_1 n X m k) (impl_putBytes_u3_1 n X m k))
def impl_putBytes_3_sl (x : impl_putBytes_3_σ) : List Slot := [⟨.val false [⟨.int .i64, .sh, TC.i (x.1)⟩], ⟨0, 0⟩⟩, ⟨.val false [⟨.slice 5, .own true, TC.l (x.2.1)⟩], ⟨0, 0⟩⟩, ⟨.val false [⟨.int .i64, .sh, TC.i (x.2.2.1)⟩], ⟨0, 0⟩⟩, ⟨.val false [⟨.int .i64, .sh, TC.i (x.2.2.2)⟩], ⟨0, 0⟩⟩]
def impl_putBytes_3_out : impl_putBytes_3_ω → Ex × List Slot := (fun x => (.exit 0, [Slot.none, ⟨.val false [⟨.slice 5, .own true, TC.l x⟩], ⟨0, 0⟩⟩]))
noncomputable def impl_putBytes_lo3 : List Slot → Option (Told (Ex × List Slot)) := fun s => match s with
  | [⟨.val false [⟨.int .i64, .sh, TC.i n⟩], ⟨0, 0⟩⟩, ⟨.val false [⟨.slice 5, .own true, TC.l X⟩], ⟨0, 0⟩⟩, ⟨.val false [⟨.int .i64, .sh, TC.i m⟩], ⟨0, 0⟩⟩, ⟨.val false [⟨.int .i64, .sh, TC.i k⟩], ⟨0, 0⟩⟩] => some (((impl_putBytes_3_fin n X m k)).map impl_putBytes_3_out)
  | _ => .none
noncomputable def impl_putBytes_lo : LoopTeller := fun r s => bif Nat.beq r 3 then impl_putBytes_lo3 s else .none
theorem impl_putBytes_3_r (n : Int) (X : List (List TC)) (m : Int) (k : Int) (fuel : Nat) : rounds (rnd tab FT D6 live 44 impl_putBytes_lo 0 3) leave (fuel + 1) (impl_putBytes_3_sl (n, X, m, k)) = ((impl_putBytes_3_step n X m k)).run (goOn (fun s => rounds (rnd tab FT D6 live 44 impl_putBytes_lo 0 3) leave fuel (impl_putBytes_3_sl s)) fun w => some (impl_putBytes_3_out w)) := by kernel_rfl
theorem impl_putBytes_3_h (n : Int) (X : List (List TC)) (m : Int) (k : Int) (ow : impl_putBytes_3_ω) : ((impl_putBytes_3_fin n X m k)).val = some ow → ∃ fuel, loopN impl_putBytes_3_st fuel (n, X, m, k) = some ow := by
  intro h
  refine auto_leaf (R := bRows n m.toNat) (fun ho => ?_) h
  obtain ⟨sz, rfl, h8, rfl, rfl⟩ := is_iff.1 ho
  rw [wr_zero (n := n)]
  refine ⟨sz + 1, loopN_run (step := impl_putBytes_3_st) (N := sz) (fun j => (n, (wr sz (bAt n) (fun _ => [TC.i 0]) (fun p => decide (p < j))), (sz : Int), (j : Int))) (fun j hj => ?_) ?_ sz 0 (by omega)⟩
  · have e := wr_step (L := sz) (p0 := j) (F := bAt n) (O := fun _ => [TC.i 0]) (vis := fun p => decide (p < j)) (vis' := fun p => decide (p < j + 1)) hj (fun _ => rfl) (fun _ => rfl) (fun p _ => by
      rw [Bool.eq_iff_iff]; simp only [Bool.or_eq_true, decide_eq_true_eq, beq_iff_eq]; omega)
    show (impl_putBytes_3_step n (wr sz (bAt n) (fun _ => [TC.i 0]) (fun p => decide (p < j))) (sz : Int) (j : Int)).val = _
    unfold impl_putBytes_3_step
    rw [bAt_i64 (by omega)]
    refine Tr.t (by simp; omega) ?_
    refine Tr.t (by rw [wrap64 (by omega) (by omega)]; omega) ?_
    refine Tr.t ⟨by omega, by rw [wr_len]; omega⟩ ?_
    rw [Tr.val_ok, wrap64 (i := (j : Int) + 1) (by omega) (by omega)]
    show some (Sum.inl (n, (wr sz (bAt n) (fun _ => [TC.i 0]) (fun p => decide (p < j))).set j (splice ((wr sz (bAt n) (fun _ => [TC.i 0]) (fun p => decide (p < j))).getD j []) 0 (bAt n j)), (sz : Int), ((j + 1 : Nat) : Int))) = _
    rw [e]
  · show (impl_putBytes_3_step n (wr sz (bAt n) (fun _ => [TC.i 0]) (fun p => decide (p < sz))) (sz : Int) (sz : Int)).val = _
    refine Tr.n (by simp) ?_
    rw [wr_bRows]
    rfl
theorem impl_putBytes_is3 : LoopIs tab FT D6 live 44 impl_putBytes_lo 0 3 := by
  refine loop_told (sl := impl_putBytes_3_sl) (step := impl_putBytes_3_st) (out := impl_putBytes_3_out) (lor := impl_putBytes_lo3) (fin := fun x => (impl_putBytes_3_fin (x.1) (x.2.1) (x.2.2.1) (x.2.2.2))) (fun _ => rfl) ?_ (fun x n => impl_putBytes_3_r x.1 x.2.1 x.2.2.1 x.2.2.2 n) (fun x ow => impl_putBytes_3_h x.1 x.2.1 x.2.2.1 x.2.2.2 ow)
  intro s t h
  unfold impl_putBytes_lo3 at h
  split at h
  · cases h; exact ⟨(_, _, _, _), rfl, rfl⟩
  · cases h
noncomputable def impl_putBytes_t (n : Int) (size : Int) : Tr (List UInt8) := (.ite (0 ≤ size ∧ size ≤ size ∧ size * 1 ≤ 140737488355328 ∧ size ≤ 140737488355328) (.ite ((impl_putBytes_o3_1 n (List.replicate (size).toNat [TC.i (0 : Int)]) ((List.replicate (size).toNat [TC.i (0 : Int)]).length : Int) (0 : Int)) = true) (.ok ((impl_putBytes_u3_1 n (List.replicate (size).toNat [TC.i (0 : Int)]) ((List.replicate (size).toNat [TC.i (0 : Int)]).length : Int) (0 : Int)).map byteOf))
   .no)
  .no)
def impl_putBytes_mk (p : List UInt8) : Res := [(false, [⟨.str, .sh, TC.s p⟩])]
noncomputable def impl_putBytes_c (n : Int) (size : Int) : Bool := is (∃ sz : Nat, size = (sz : Int) ∧ sz ≤ 8)
noncomputable def impl_putBytes_v (n : Int) (size : Int) : List UInt8 := hid (bytesL n size.toNat)
theorem impl_putBytes_l (n : Int) (size : Int) : (impl_putBytes_c n size) = true → (impl_putBytes_t n size).val = some (impl_putBytes_v n size) := by
  intro h
  obtain ⟨sz, rfl, h8⟩ := is_iff.1 h
  unfold impl_putBytes_t
  refine Tr.t (by omega) ?_
  refine Tr.t (is_true ⟨sz, by simp, h8, rfl, rfl⟩) ?_
  unfold impl_putBytes_v
  rw [hid_eq]; simp; rfl
noncomputable def impl_putBytes_S : List Arg → Option (Bool × Res) := fun xs => match xs with
  | [(false, [(.int .i64, TC.i n)]), (false, [(.int .i64, TC.i size)])] => some ((impl_putBytes_c n size), impl_putBytes_mk (impl_putBytes_v n size))
  | _ => .none
theorem impl_putBytes_e (n : Int) (size : Int) : runF tab FT D6 live 44 impl_putBytes_lo [(false, [(.int .i64, TC.i n)]), (false, [(.int .i64, TC.i size)])] = (impl_putBytes_t n size).run fun p => some (impl_putBytes_mk p) := by kernel_rfl
theorem impl_putBytes_s : ∀ xs r, impl_putBytes_S xs = some (true, r) → runF tab FT D6 live 44 impl_putBytes_lo xs = some r := by
  intro xs r h
  unfold impl_putBytes_S at h
  split at h
  · simp only [Option.some.injEq, Prod.mk.injEq] at h
    obtain ⟨h1, rfl⟩ := h
    exact fun_told (impl_putBytes_e _ _) (impl_putBytes_l _ _) h1
  · cases h
noncomputable def D7 : Dt := also D6 44 impl_putBytes_S
theorem d7 : DOk Go.Proofs.Try.prog tab D7 := d6.also mixed_ok tab_ok names_ok (fnLoops_one (by kernel_rfl) impl_putBytes_is3) impl_putBytes_s
theorem impl_putBytes_h {n size : Int} : impl_putBytes_v n size = bytesL n size.toNat := hid_eq _
theorem impl_putBytes_len {n : Int} {sz : Nat} : (impl_putBytes_v n (sz : Int)).length = sz := by rw [impl_putBytes_h]; exact bytesL_len
/-! impl_differences -/
abbrev impl_differences_4_σ := Int × Bool × List UInt8 × Int × List UInt8
abbrev impl_differences_4_ω := (List UInt8 × List UInt8)
noncomputable def impl_differences_4_step (w : Int) (bk : Bool) (out : List UInt8) (bef : Int) (d : List UInt8) : Tr (impl_differences_4_σ ⊕ impl_differences_4_ω) := (.ite ((decide ((d.length : Int) ≥ w)) = true) (.ite ((0 : Int) ≤ (0 : Int) ∧ (0 : Int) ≤ w ∧ w ≤ (d.length : Int)) (.ite ((impl_getBits_c ((d.take (w).toNat).drop ((0 : Int)).toNat)) = true) (.ite (bk = true) (.ite ((impl_putBytes_c (IntKind.wrap .i64 (bef + (IntKind.wrap .i64 (impl_getBits_v ((d.take (w).toNat).drop ((0 : Int)).toNat))))) w) = true) (.ite (((out.length + (impl_putBytes_v (IntKind.wrap .i64 (bef + (IntKind.wrap .i64 (impl_getBits_v ((d.take (w).toNat).drop ((0 : Int)).toNat))))) w).length : Nat) : Int) ≤ 140737488355328) (.ite ((0 : Int) ≤ w ∧ w ≤ (d.length : Int) ∧ (d.length : Int) ≤ (d.length : Int)) (.ok (.inl (w, bk, (out ++ (impl_putBytes_v (IntKind.wrap .i64 (bef + (IntKind.wrap .i64 (impl_getBits_v ((d.take (w).toNat).drop ((0 : Int)).toNat))))) w)), (IntKind.wrap .i64 (bef + (IntKind.wrap .i64 (impl_getBits_v ((d.take (w).toNat).drop ((0 : Int)).toNat))))), ((d.take ((d.length : Int)).toNat).drop (w).toNat))))
        .no)
       .no)
      .no)
     (.ite ((impl_putBytes_c (IntKind.wrap .i64 ((IntKind.wrap .i64 (impl_getBits_v ((d.take (w).toNat).drop ((0 : Int)).toNat))) - bef)) w) = true) (.ite (((out.length + (impl_putBytes_v (IntKind.wrap .i64 ((IntKind.wrap .i64 (impl_getBits_v ((d.take (w).toNat).drop ((0 : Int)).toNat))) - bef)) w).length : Nat) : Int) ≤ 140737488355328) (.ite ((0 : Int) ≤ w ∧ w ≤ (d.length : Int) ∧ (d.length : Int) ≤ (d.length : Int)) (.ok (.inl (w, bk, (out ++ (impl_putBytes_v (IntKind.wrap .i64 ((IntKind.wrap .i64 (impl_getBits_v ((d.take (w).toNat).drop ((0 : Int)).toNat))) - bef)) w)), (IntKind.wrap .i64 (impl_getBits_v ((d.take (w).toNat).drop ((0 : Int)).toNat))), ((d.take ((d.length : Int)).toNat).drop (w).toNat))))
        .no)
       .no)
      .no))
    .no)
   .no)
  (.ok (.inr (out, d))))
noncomputable def impl_differences_4_st : impl_differences_4_σ → Tr (impl_differences_4_σ ⊕ impl_differences_4_ω) := fun x => (impl_differences_4_step (x.1) (x.2.1) (x.2.2.1) (x.2.2.2.1) (x.2.2.2.2))
noncomputable def impl_differences_o4_1 (w : Int) (bk : Bool) (out : List UInt8) (bef : Int) (d : List UInt8) : Bool := is (∃ wn : Nat, w = (wn : Int) ∧ 1 ≤ wn ∧ wn ≤ 4 ∧ d.length ≤ 2000 ∧ out = [] ∧ bef = 0)
noncomputable def impl_differences_u4_1_0 (w : Int) (bk : Bool) (out : List UInt8) (bef : Int) (d : List UInt8) : List UInt8 := (dI d w.toNat bk (d.length / w.toNat)).2
noncomputable def impl_differences_u4_1_1 (w : Int) (bk : Bool) (out : List UInt8) (bef : Int) (d : List UInt8) : List UInt8 := d.drop (d.length / w.toNat * w.toNat)
noncomputable def impl_differences_4_fin (w : Int) (bk : Bool) (out : List UInt8) (bef : Int) (d : List UInt8) : Told impl_differences_4_ω := (.leaf (impl_differences_o4_1 w bk out bef d) ((impl_differences_u4_1_0 w bk out bef d), (impl_differences_u4_1_1 w bk out bef d)))
def impl_differences_4_sl (x : impl_differences_4_σ) : List Slot := [⟨.val false [⟨.int .i64, .sh, TC.i (x.1)⟩], ⟨0, 0⟩⟩, ⟨.val false [⟨.bool, .sh, TC.b (x.2.1)⟩], ⟨0, 0⟩⟩, ⟨.bld 45 5 (x.2.2.1), ⟨0, 0⟩⟩, ⟨.val false [⟨.int .i64, .sh, TC.i (x.2.2.2.1)⟩], ⟨0, 0⟩⟩, ⟨.val false [⟨.str, .sh, TC.s (x.2.2.2.2)⟩], ⟨0, 0⟩⟩]
def impl_differences_4_out : impl_differences_4_ω → Ex × List Slot := (fun x => (.exit 0, [Slot.none, ⟨.bld 45 5 (x.1), ⟨0, 0⟩⟩, ⟨.val false [⟨.str, .sh, TC.s (x.2)⟩], ⟨0, 0⟩⟩]))
noncomputable def impl_differences_lo4 : List Slot → Option (Told (Ex × List Slot)) := fun s => match s with
  | [⟨.val false [⟨.int .i64, .sh, TC.i w⟩], ⟨0, 0⟩⟩, ⟨.val false [⟨.bool, .sh, TC.b bk⟩], ⟨0, 0⟩⟩, ⟨.bld 45 5 out, ⟨0, 0⟩⟩, ⟨.val false [⟨.int .i64, .sh, TC.i bef⟩], ⟨0, 0⟩⟩, ⟨.val false [⟨.str, .sh, TC.s d⟩], ⟨0, 0⟩⟩] => some (((impl_differences_4_fin w bk out bef d)).map impl_differences_4_out)
  | _ => .none
noncomputable def impl_differences_lo : LoopTeller := fun r s => bif Nat.beq r 4 then impl_differences_lo4 s else .none
theorem impl_differences_4_r (w : Int) (bk : Bool) (out : List UInt8) (bef : Int) (d : List UInt8) (fuel : Nat) : rounds (rnd tab FT D7 live 27 impl_differences_lo 0 4) leave (fuel + 1) (impl_differences_4_sl (w, bk, out, bef, d)) = ((impl_differences_4_step w bk out bef d)).run (goOn (fun s => rounds (rnd tab FT D7 live 27 impl_differences_lo 0 4) leave fuel (impl_differences_4_sl s)) fun w => some (impl_differences_4_out w)) := by kernel_rfl
theorem impl_differences_4_h (w : Int) (bk : Bool) (out : List UInt8) (bef : Int) (d : List UInt8) (ow : impl_differences_4_ω) : ((impl_differences_4_fin w bk out bef d)).val = some ow → ∃ fuel, loopN impl_differences_4_st fuel (w, bk, out, bef, d) = some ow := by
  intro h
  refine auto_leaf (R := ((dI d w.toNat bk (d.length / w.toNat)).2, d.drop (d.length / w.toNat * w.toNat))) (fun ho => ?_) h
  obtain ⟨wn, rfl, h1, h4, hd, rfl, rfl⟩ := is_iff.1 ho
  simp only [Int.toNat_natCast]
  obtain ⟨m, hm⟩ : ∃ m, m = d.length / wn := ⟨_, rfl⟩
  rw [← hm]
  refine ⟨m + 1, Eq.trans (congrArg (loopN impl_differences_4_st (m + 1)) (by simp [dI])) (loopN_run (step := impl_differences_4_st) (N := m) (fun j => ((wn : Int), bk, (dI d wn bk j).2, (dI d wn bk j).1, d.drop (j * wn))) (fun j hj => ?_) ?_ m 0 (by omega))⟩
  · have hc := chunks_lt h1 (hm ▸ hj)
    have hx := dX_bound (d := d) (w := wn) (j := j) h4
    have hl := dI_len (d := d) (w := wn) (bk := bk) j
    have e0 : impl_getBits_v (((d.drop (j * wn)).take ((wn : Int)).toNat).drop ((0 : Int)).toNat) = dX d wn j := by
      rw [impl_getBits_h, Int.toNat_natCast]; rfl
    show (impl_differences_4_step (wn : Int) bk (dI d wn bk j).2 (dI d wn bk j).1 (d.drop (j * wn))).val = _
    unfold impl_differences_4_step
    rw [e0, wrap64 (i := dX d wn j) (by omega) (by omega)]
    refine Tr.t (by simp only [List.length_drop, decide_eq_true_eq]; omega) ?_
    refine Tr.t (by simp only [List.length_drop]; omega) ?_
    refine Tr.t (is_true (by simp only [List.length_drop, List.length_take, Int.toNat_natCast]; omega)) ?_
    have hd2 : (((d.drop (j * wn)).take (((d.drop (j * wn)).length : Int)).toNat).drop ((wn : Int)).toNat) = d.drop ((j + 1) * wn) := by
      rw [Int.toNat_natCast, Int.toNat_natCast, List.take_length, List.drop_drop, Nat.succ_mul]
    cases bk with
    | true =>
      refine Tr.t rfl ?_
      refine Tr.t (is_true ⟨wn, rfl, by omega⟩) ?_
      refine Tr.t (by rw [impl_putBytes_len]; omega) ?_
      refine Tr.t (by simp only [List.length_drop]; omega) ?_
      rw [Tr.val_ok, hd2, impl_putBytes_h, Int.toNat_natCast]; rfl
    | false =>
      refine Tr.n (by simp) ?_
      refine Tr.t (is_true ⟨wn, rfl, by omega⟩) ?_
      refine Tr.t (by rw [impl_putBytes_len]; omega) ?_
      refine Tr.t (by simp only [List.length_drop]; omega) ?_
      rw [Tr.val_ok, hd2, impl_putBytes_h, Int.toNat_natCast]; rfl
  · have hc := chunks_end (L := d.length) h1
    rw [← hm] at hc
    show (impl_differences_4_step (wn : Int) bk (dI d wn bk m).2 (dI d wn bk m).1 (d.drop (m * wn))).val = _
    unfold impl_differences_4_step
    refine Tr.n (by simp only [List.length_drop, decide_eq_true_eq]; omega) ?_
    rfl
theorem impl_differences_is4 : LoopIs tab FT D7 live 27 impl_differences_lo 0 4 := by
  refine loop_told (sl := impl_differences_4_sl) (step := impl_differences_4_st) (out := impl_differences_4_out) (lor := impl_differences_lo4) (fin := fun x => (impl_differences_4_fin (x.1) (x.2.1) (x.2.2.1) (x.2.2.2.1) (x.2.2.2.2))) (fun _ => rfl) ?_ (fun x n => impl_differences_4_r x.1 x.2.1 x.2.2.1 x.2.2.2.1 x.2.2.2.2 n) (fun x ow => impl_differences_4_h x.1 x.2.1 x.2.2.1 x.2.2.2.1 x.2.2.2.2 ow)
  intro s t h
  unfold impl_differences_lo4 at h
  split at h
  · cases h; exact ⟨(_, _, _, _, _), rfl, rfl⟩
  · cases h
noncomputable def impl_differences_t (d : List UInt8) (w : Int) (bk : Bool) : Tr (List UInt8) := (.ite ((impl_differences_o4_1 w bk [] (0 : Int) d) = true) (.ite ((((impl_differences_u4_1_0 w bk [] (0 : Int) d).length + (impl_differences_u4_1_1 w bk [] (0 : Int) d).length : Nat) : Int) ≤ 9223372036854775807) (.ok ((impl_differences_u4_1_0 w bk [] (0 : Int) d) ++ (impl_differences_u4_1_1 w bk [] (0 : Int) d)))
   .no)
  .no)
def impl_differences_mk (p : List UInt8) : Res := [(false, [⟨.str, .sh, TC.s p⟩])]
noncomputable def impl_differences_c (d : List UInt8) (w : Int) (bk : Bool) : Bool := is (∃ wn : Nat, w = (wn : Int) ∧ 1 ≤ wn ∧ wn ≤ 4 ∧ d.length ≤ 2000)
noncomputable def impl_differences_v (d : List UInt8) (w : Int) (bk : Bool) : List UInt8 := hid ((dI d w.toNat bk (d.length / w.toNat)).2 ++ d.drop (d.length / w.toNat * w.toNat))
theorem impl_differences_l (d : List UInt8) (w : Int) (bk : Bool) : (impl_differences_c d w bk) = true → (impl_differences_t d w bk).val = some (impl_differences_v d w bk) := by
  intro h
  obtain ⟨wn, rfl, h1, h4, hd⟩ := is_iff.1 h
  unfold impl_differences_t impl_differences_v
  rw [hid_eq]
  refine Tr.t (is_true ⟨wn, rfl, h1, h4, hd, rfl, rfl⟩) ?_
  have e1 := dI_len (d := d) (w := wn) (bk := bk) (d.length / wn)
  have e2 := Nat.div_mul_le_self d.length wn
  refine Tr.t (by simp only [Int.toNat_natCast, List.length_drop, impl_differences_u4_1_0, impl_differences_u4_1_1]; omega) ?_
  rfl
noncomputable def impl_differences_S : List Arg → Option (Bool × Res) := fun xs => match xs with
  | [(false, [(.str, TC.s d)]), (false, [(.int .i64, TC.i w)]), (false, [(.bool, TC.b bk)])] => some ((impl_differences_c d w bk), impl_differences_mk (impl_differences_v d w bk))
  | _ => .none
theorem impl_differences_e (d : List UInt8) (w : Int) (bk : Bool) : runF tab FT D7 live 27 impl_differences_lo [(false, [(.str, TC.s d)]), (false, [(.int .i64, TC.i w)]), (false, [(.bool, TC.b bk)])] = (impl_differences_t d w bk).run fun p => some (impl_differences_mk p) := by kernel_rfl
theorem impl_differences_s : ∀ xs r, impl_differences_S xs = some (true, r) → runF tab FT D7 live 27 impl_differences_lo xs = some r := by
  intro xs r h
  unfold impl_differences_S at h
  split at h
  · simp only [Option.some.injEq, Prod.mk.injEq] at h
    obtain ⟨h1, rfl⟩ := h
    exact fun_told (impl_differences_e _ _ _) (impl_differences_l _ _ _) h1
  · cases h
noncomputable def D8 : Dt := also D7 27 impl_differences_S
theorem d8 : DOk Go.Proofs.Try.prog tab D8 := d7.also mixed_ok tab_ok names_ok (fnLoops_one (by kernel_rfl) impl_differences_is4) impl_differences_s
theorem impl_differences_h {d : List UInt8} {w : Int} {bk : Bool} : impl_differences_v d w bk = (dI d w.toNat bk (d.length / w.toNat)).2 ++ d.drop (d.length / w.toNat * w.toNat) := hid_eq _
/-! impl_Undelta -/
noncomputable def impl_Undelta_t (d : List UInt8) (w : Int) : Tr (List UInt8) := (.ite ((!(impl_isWidth_v w)) = true) (.ok ([]))
  (.ite ((decide ((d.length : Int) > (1100 : Int))) = true) (.ok ([]))
   (.ite ((impl_differences_c d w true) = true) (.ok (impl_differences_v d w true))
    .no)))
def impl_Undelta_mk (p : List UInt8) : Res := [(false, [⟨.str, .sh, TC.s p⟩])]
noncomputable def impl_Undelta_c (d : List UInt8) (w : Int) : Bool := (bif (!(impl_isWidth_v w)) then true else (bif (decide ((d.length : Int) > (1100 : Int))) then true else ((impl_differences_c d w true) && true)))
noncomputable def impl_Undelta_v (d : List UInt8) (w : Int) : List UInt8 := (bif (!(impl_isWidth_v w)) then [] else (bif (decide ((d.length : Int) > (1100 : Int))) then [] else (impl_differences_v d w true)))
theorem impl_Undelta_l (d : List UInt8) (w : Int) : (impl_Undelta_c d w) = true → (impl_Undelta_t d w).val = some (impl_Undelta_v d w) := by
  unfold impl_Undelta_t impl_Undelta_v impl_Undelta_c
  exact fun h => (Tr.ss h (fun h => rfl) (fun h => (Tr.ss h (fun h => rfl) (fun h => (Tr.gb h fun h => rfl)))))
noncomputable def impl_Undelta_S : List Arg → Option (Bool × Res) := fun xs => match xs with
  | [(false, [(.str, TC.s d)]), (false, [(.int .i64, TC.i w)])] => some ((impl_Undelta_c d w), impl_Undelta_mk (impl_Undelta_v d w))
  | _ => .none
theorem impl_Undelta_e (d : List UInt8) (w : Int) : runF tab FT D8 live 12 noLoops [(false, [(.str, TC.s d)]), (false, [(.int .i64, TC.i w)])] = (impl_Undelta_t d w).run fun p => some (impl_Undelta_mk p) := by kernel_rfl
theorem impl_Undelta_s : ∀ xs r, impl_Undelta_S xs = some (true, r) → runF tab FT D8 live 12 noLoops xs = some r := by
  intro xs r h
  unfold impl_Undelta_S at h
  split at h
  · simp only [Option.some.injEq, Prod.mk.injEq] at h
    obtain ⟨h1, rfl⟩ := h
    exact fun_told (impl_Undelta_e _ _) (impl_Undelta_l _ _) h1
  · cases h
noncomputable def D9 : Dt := also D8 12 impl_Undelta_S
theorem d9 : DOk Go.Proofs.Try.prog tab D9 := d8.also mixed_ok tab_ok names_ok noLoops_ok impl_Undelta_s
theorem impl_Undelta_cc {d : List UInt8} {w : Int}  : (impl_Undelta_c d w) = true := by
  unfold impl_Undelta_c
  refine bifT (fun b1 => ?_) (fun b1 => ?_)
  · skip
    rfl
  · skip
    refine bifT (fun b2 => ?_) (fun b2 => ?_)
    · skip
      rfl
    · skip
      refine andT (by exact is_true (wOfD b1 b2)) ?_
      rfl
/-! the law -/
noncomputable def laws_FnExactUndelta_t (x0 : List UInt8) (x1 : Int) : Tr Bool := (.ite ((decide ((x0.length : Int) > (1048576 : Int))) = true) (.ok true)
  (.ite ((spec_Undelta_c x0 x1) = true) (.ite ((impl_Undelta_c x0 x1) = true) (.ite ((!((impl_Undelta_v x0 x1) == (spec_Undelta_v x0 x1))) = true) (.ok false)
     (.ok true))
    .no)
   .no))
theorem laws_FnExactUndelta_e (x0 : List UInt8) (x1 : Int) : runF tab FT D9 live 4 noLoops [(false, [(.str, TC.s x0)]), (false, [(.int .i64, TC.i x1)])] = (laws_FnExactUndelta_t x0 x1).run fun p => some [(false, [⟨.bool, .sh, .b p⟩])] := by kernel_rfl
theorem Undelta_eq (d : List UInt8) (w : Int) : spec_Undelta_v d w = impl_Undelta_v d w := by
  have e : spec_l18Delta_v d w true = impl_differences_v d w true := spec_l18Delta_h.trans impl_differences_h.symm
  unfold spec_Undelta_v impl_Undelta_v
  rw [e]
  generalize impl_differences_v d w true = q
  unfold spec_l18Width_v impl_isWidth_v
  have hd : decide ((d.length : Int) > 1100) = !(decide ((d.length : Int) ≤ 1100)) := by
    rw [← decide_not]; exact decide_eq_decide.2 (by omega)
  rw [hd]
  cases (w == 1) <;> cases (w == 2) <;> cases (w == 4) <;> cases decide ((d.length : Int) ≤ 1100) <;> rfl
theorem laws_FnExactUndelta_p (x0 : List UInt8) (x1 : Int) (h0 : Typed tab (.str) (.s x0)) (h1 : Typed tab (.int .i64) (.i x1)) : (laws_FnExactUndelta_t x0 x1).val = some true := by
  unfold laws_FnExactUndelta_t
  rw [Undelta_eq]
  refine Tr.y ?_
  refine Tr.t (by first | exact (by first | (apply spec_Undelta_cc <;> assumption) | (first | (apply is_true; and_intros <;> (first | rfl | assumption | (apply spec_Undelta_cc <;> assumption) | (apply impl_Undelta_cc <;> assumption) | (first | (apply is_true; and_intros <;> (first | rfl | assumption | (apply spec_Undelta_cc <;> assumption) | (apply impl_Undelta_cc <;> assumption))) | (apply spec_Undelta_cc <;> assumption) | (apply impl_Undelta_cc <;> assumption)))) | (apply spec_Undelta_cc <;> assumption) | (apply impl_Undelta_cc <;> assumption))) | simp [*]) ?_
  refine Tr.t (by first | exact (by first | (apply impl_Undelta_cc <;> assumption) | (first | (apply is_true; and_intros <;> (first | rfl | assumption | (apply spec_Undelta_cc <;> assumption) | (apply impl_Undelta_cc <;> assumption) | (first | (apply is_true; and_intros <;> (first | rfl | assumption | (apply spec_Undelta_cc <;> assumption) | (apply impl_Undelta_cc <;> assumption))) | (apply spec_Undelta_cc <;> assumption) | (apply impl_Undelta_cc <;> assumption)))) | (apply spec_Undelta_cc <;> assumption) | (apply impl_Undelta_cc <;> assumption))) | simp [*]) ?_
  refine Tr.n (by first | (simp [spec_l18Width_v, spec_l18Number_u3_1, spec_l18Number_v, spec_l18Delta_u15_1_6, spec_l18Delta_u6_1_3, spec_l18Delta_v, spec_Undelta_v, impl_isWidth_v, impl_getBits_u3_1, impl_getBits_v, impl_putBytes_u3_1, impl_putBytes_v, impl_differences_u4_1_0, impl_differences_u4_1_1, impl_differences_v, impl_Undelta_v]; done) | (simp only [spec_l18Width_v, spec_l18Number_u3_1, spec_l18Number_v, spec_l18Delta_u15_1_6, spec_l18Delta_u6_1_3, spec_l18Delta_v, spec_Undelta_v, impl_isWidth_v, impl_getBits_u3_1, impl_getBits_v, impl_putBytes_u3_1, impl_putBytes_v, impl_differences_u4_1_0, impl_differences_u4_1_1, impl_differences_v, impl_Undelta_v, nth0, nth1, nth2, nth3, nth4, nth5, int_i, bool_b, str_s, list_l, cells_p, Bool.not_eq_true, bne_self_eq_false, beq_self_eq_true, Bool.not_true]; done) | (simp [spec_l18Width_v, spec_l18Number_u3_1, spec_l18Number_v, spec_l18Delta_u15_1_6, spec_l18Delta_u6_1_3, spec_l18Delta_v, spec_Undelta_v, impl_isWidth_v, impl_getBits_u3_1, impl_getBits_v, impl_putBytes_u3_1, impl_putBytes_v, impl_differences_u4_1_0, impl_differences_u4_1_1, impl_differences_v, impl_Undelta_v, nth0, nth1, nth2, nth3, nth4, nth5, int_i, bool_b, str_s, list_l, cells_p]; done) | (simp [spec_l18Width_v, spec_l18Number_u3_1, spec_l18Number_v, spec_l18Delta_u15_1_6, spec_l18Delta_u6_1_3, spec_l18Delta_v, spec_Undelta_v, impl_isWidth_v, impl_getBits_u3_1, impl_getBits_v, impl_putBytes_u3_1, impl_putBytes_v, impl_differences_u4_1_0, impl_differences_u4_1_1, impl_differences_v, impl_Undelta_v, nth0, nth1, nth2, nth3, nth4, nth5, int_i, bool_b, str_s, list_l, cells_p] <;> rfl)) ?_
  rfl
theorem laws_FnExactUndelta_pure : ∀ xs, ArgsTyped tab [9, 2] xs → runF tab FT D9 live 4 noLoops xs = yes := by
  intro xs h
  cases h with | cons l0 g0 h =>
  obtain ⟨z0_0, rfl⟩ := len_1 l0
  have q0 := g0 0 (by decide)
  have q0 : Typed tab (.str) z0_0 := q0
  obtain ⟨y0, rfl⟩ := typed_str q0
  cases h with | cons l1 g1 h =>
  obtain ⟨z1_0, rfl⟩ := len_1 l1
  have q1 := g1 0 (by decide)
  have q1 : Typed tab (.int .i64) z1_0 := q1
  obtain ⟨y1, rfl⟩ := typed_int q1
  cases h
  refine (laws_FnExactUndelta_e y0 y1).trans ?_
  rw [Tr.run_eq, laws_FnExactUndelta_p y0 y1 q0 q1]
  rfl
end Go.Proofs.Ytmaaolemlobjeaa.V
