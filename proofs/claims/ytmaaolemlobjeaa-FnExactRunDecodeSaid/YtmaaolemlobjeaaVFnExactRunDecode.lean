/- What the functions of FnExactRunDecode answer. No condition. -/
import Derived.Test.YtmaaolemlobjeaaVFacts
namespace Go.Proofs.Ytmaaolemlobjeaa.V
open Go
set_option maxRecDepth 100000
set_option linter.unusedVariables false
set_option linter.unusedSectionVars false
set_option linter.unusedSimpArgs false
set_option maxHeartbeats 2000000
def leN : List UInt8 → Nat
  | [] => 0
  | b :: l => b.toNat + 256 * leN l
theorem leN_lt : ∀ l : List UInt8, leN l < 256 ^ l.length
  | [] => by simp [leN]
  | b :: l => by
    have h := leN_lt l
    have hb := b.toNat_lt
    unfold leN
    rw [List.length_cons, Nat.pow_succ]
    omega
theorem leN_snoc : ∀ (l : List UInt8) (b : UInt8), leN (l ++ [b]) = leN l + b.toNat * 256 ^ l.length
  | [], b => by simp [leN]
  | c :: l, b => by
    rw [List.cons_append]
    unfold leN
    rw [leN_snoc l b, List.length_cons, Nat.pow_succ, Nat.mul_add, ← Nat.mul_assoc, Nat.mul_comm 256 b.toNat, Nat.mul_assoc, Nat.mul_comm 256 (256 ^ l.length)]
    omega
theorem or_hi {k a b : Nat} (h : a < 2 ^ k) : a ||| (b * 2 ^ k) = a + b * 2 ^ k := by
  have := Nat.shiftLeft_add_eq_or_of_lt h b
  rw [Nat.shiftLeft_eq] at this
  rw [Nat.or_comm, ← this, Nat.add_comm]
theorem bits_or_u64 {a c : Nat} (ha : a < 2 ^ 64) (hc : c < 2 ^ 64) : bits .u64 (fun a b => a ||| b) (a : Int) (c : Int) = ((a ||| c : Nat) : Int) := by
  have h1 : (BitVec.ofInt IntKind.u64.bits (a : Int) ||| BitVec.ofInt IntKind.u64.bits (c : Int)).toNat = a ||| c := by
    rw [BitVec.toNat_or, BitVec.ofInt_natCast, BitVec.ofInt_natCast, BitVec.toNat_ofNat, BitVec.toNat_ofNat, Nat.mod_eq_of_lt (show a < 2 ^ IntKind.u64.bits from ha), Nat.mod_eq_of_lt (show c < 2 ^ IntKind.u64.bits from hc)]
  unfold bits
  rw [h1, IntKind.wrap_u64]
  have : a ||| c < 2 ^ 64 := Nat.or_lt_two_pow ha hc
  omega
theorem bits_or_i64 {a c : Nat} (ha : a < 2 ^ 63) (hc : c < 2 ^ 63) : bits .i64 (fun a b => a ||| b) (a : Int) (c : Int) = ((a ||| c : Nat) : Int) := by
  have hp : (2 : Nat) ^ 63 < 2 ^ 64 := by decide
  have ha' : a < 2 ^ IntKind.i64.bits := Nat.lt_trans ha hp
  have hc' : c < 2 ^ IntKind.i64.bits := Nat.lt_trans hc hp
  have h1 : (BitVec.ofInt IntKind.i64.bits (a : Int) ||| BitVec.ofInt IntKind.i64.bits (c : Int)).toNat = a ||| c := by
    rw [BitVec.toNat_or, BitVec.ofInt_natCast, BitVec.ofInt_natCast, BitVec.toNat_ofNat, BitVec.toNat_ofNat, Nat.mod_eq_of_lt ha', Nat.mod_eq_of_lt hc']
  unfold bits
  rw [h1]
  have : a ||| c < 2 ^ 63 := Nat.or_lt_two_pow ha hc
  exact wrap64 (by omega) (by omega)
theorem pow8 (j : Nat) : 256 ^ j = 2 ^ (8 * j) := by rw [Nat.pow_mul]
theorem take_snoc {α : Type} [Inhabited α] {l : List α} {j : Nat} (h : j < l.length) (d : α) : l.take (j + 1) = l.take j ++ [l.getD j d] := by
  rw [List.take_add_one, List.getElem?_eq_getElem h, List.getD_eq_getElem?_getD, List.getElem?_eq_getElem h]; rfl
theorem getBits_step {s : List UInt8} {j : Nat} (h : j < s.length) (h8 : s.length ≤ 8) : bits .u64 (fun a b => a ||| b) ((leN (s.take j) : Nat) : Int) (IntKind.wrap .u64 ((IntKind.wrap .u64 ((s.getD (j : Int).toNat 0).toNat : Int)) * (2 ^ (min ((IntKind.wrap .i64 ((8 : Int) * (j : Int)))).toNat 64)))) = ((leN (s.take (j + 1)) : Nat) : Int) := by
  rw [wrap64 (i := (8 : Int) * (j : Int)) (by omega) (by omega), show ((8 : Int) * (j : Int)).toNat = 8 * j from by omega, Nat.min_eq_left (by omega), Int.toNat_natCast, take_snoc h 0, leN_snoc]
  have hl : (s.take j).length = j := by rw [List.length_take]; omega
  have ha := leN_lt (s.take j)
  rw [hl] at ha ⊢
  have hb := (s.getD j 0).toNat_lt
  have hp : (256 : Nat) ^ j ≤ 256 ^ 7 := Nat.pow_le_pow_right (by decide) (by omega)
  have hp7 : (256 : Nat) ^ 7 = 72057594037927936 := by decide
  have hm : (s.getD j 0).toNat * 256 ^ j ≤ 255 * 256 ^ j := Nat.mul_le_mul_right _ (by omega)
  have e2 : IntKind.wrap .u64 ((IntKind.wrap .u64 ((s.getD j 0).toNat : Int)) * (2 ^ (8 * j))) = (((s.getD j 0).toNat * 256 ^ j : Nat) : Int) := by
    rw [IntKind.wrap_u64, IntKind.wrap_u64, Int.emod_eq_of_lt (a := ((s.getD j 0).toNat : Int)) (by omega) (by omega), pow8]
    have e3 : (((s.getD j 0).toNat * 2 ^ (8 * j) : Nat) : Int) = ((s.getD j 0).toNat : Int) * 2 ^ (8 * j) := by push_cast; rfl
    rw [← e3, ← pow8]
    exact Int.emod_eq_of_lt (by omega) (by omega)
  rw [e2, bits_or_u64 (by omega) (by omega), pow8, or_hi (by rw [← pow8]; exact ha)]
theorem byteOf_byte (b : UInt8) : byteOf [TC.i b.toNat] = b := by
  unfold byteOf
  simp [nth, TC.int]
theorem bytesRow_of (l : List UInt8) : (bytesRow l).map byteOf = l := by
  unfold bytesRow
  rw [List.map_map]
  exact (List.map_congr_left fun b _ => byteOf_byte b).trans (List.map_id l)
def rdL (s : List UInt8) : Nat → List UInt8
  | 0 => []
  | j + 1 => rdL s j ++ List.replicate (s.getD (2 * j) 0).toNat (s.getD (2 * j + 1) 0)
def rdP (s : List UInt8) (j : Nat) : Bool := !((s.getD (2 * j) 0).toNat == 0) && decide ((rdL s j).length + (s.getD (2 * j) 0).toNat ≤ 1100)
theorem rdL_len {s : List UInt8} {j : Nat} (h : ∀ k, k < j → rdP s k = true) : (rdL s j).length ≤ 1100 := by
  cases j with
  | zero => simp [rdL]
  | succ j =>
    have := h j (by omega)
    unfold rdP at this
    rw [Bool.and_eq_true, decide_eq_true_eq] at this
    unfold rdL
    rw [List.length_append, List.length_replicate]
    exact this.2
theorem one_of {s : List UInt8} {j : Nat} (h : 2 * j + 2 ≤ s.length) : (s.take (2 * j + 2)).drop (2 * j + 1) = [s.getD (2 * j + 1) 0] := by
  have hl : 2 * j + 1 < s.length := by omega
  rw [show 2 * j + 2 = 2 * j + 1 + 1 from rfl, take_snoc hl 0, List.drop_append_of_le_length (by rw [List.length_take]; omega), List.drop_of_length_le (by rw [List.length_take]; omega)]
  rfl
theorem byte_b (b : UInt8) : byteOf [TC.i ((b.toNat : Nat) : Int)] = b := byteOf_byte b
theorem rd_test {b : UInt8} : (IntKind.wrap .i64 (b.toNat : Int) == (0 : Int)) = (b.toNat == 0) := by
  have hb := b.toNat_lt
  rw [wrap64 (by omega) (by omega), Bool.eq_iff_iff, beq_iff_eq, beq_iff_eq]
  omega
theorem rd_over {n : Nat} {b : UInt8} (h : n ≤ 1100) : decide (IntKind.wrap .i64 ((n : Int) + (IntKind.wrap .i64 (b.toNat : Int))) > (1100 : Int)) = !decide (n + b.toNat ≤ 1100) := by
  have hb := b.toNat_lt
  rw [wrap64 (i := (b.toNat : Int)) (by omega) (by omega), wrap64 (by omega) (by omega), ← decide_not]
  exact decide_eq_decide.2 (by omega)
theorem rd_over2 {n : Nat} {b : UInt8} (h : n ≤ 1100) : decide (IntKind.wrap .i64 ((n : Int) + (b.toNat : Int)) > (1100 : Int)) = !decide (n + b.toNat ≤ 1100) := by
  have hb := b.toNat_lt
  rw [wrap64 (by omega) (by omega), ← decide_not]
  exact decide_eq_decide.2 (by omega)
theorem repL_one (b : UInt8) : ∀ n, Lib.repeatL [b] n = List.replicate n b
  | 0 => rfl
  | n + 1 => by rw [Lib.repeatL, repL_one b n]; rfl
/-! spec_RunDecode -/
theorem rd_test0 {b : UInt8} : ((b.toNat : Int) == (0 : Int)) = (b.toNat == 0) := by
  rw [Bool.eq_iff_iff, beq_iff_eq, beq_iff_eq]
  omega
abbrev spec_RunDecode_8_σ := List UInt8 × List (List TC) × Int × Int
abbrev spec_RunDecode_8_ω := (List UInt8 × List (List TC) × Int)
noncomputable def spec_RunDecode_8_step (s : List UInt8) (X : List (List TC)) (i : Int) (n : Int) : Tr (spec_RunDecode_8_σ ⊕ spec_RunDecode_8_ω) := (.ite ((decide (n > (0 : Int))) = true) (.ite ((0 : Int) ≤ (IntKind.wrap .i64 (i + (1 : Int))) ∧ (IntKind.wrap .i64 (i + (1 : Int))) < (s.length : Int)) (.ite (roomFor (tab 5) (X ++ [[TC.i ((s.getD ((IntKind.wrap .i64 (i + (1 : Int)))).toNat 0).toNat : Int)]]).length) (.ok (.inl (s, (X ++ [[TC.i ((s.getD ((IntKind.wrap .i64 (i + (1 : Int)))).toNat 0).toNat : Int)]]), i, (IntKind.wrap .u8 (n - (1 : Int))))))
    .no)
   .no)
  (.ok (.inr (s, X, i))))
noncomputable def spec_RunDecode_8_st : spec_RunDecode_8_σ → Tr (spec_RunDecode_8_σ ⊕ spec_RunDecode_8_ω) := fun x => (spec_RunDecode_8_step (x.1) (x.2.1) (x.2.2.1) (x.2.2.2))
noncomputable def spec_RunDecode_o8_1 (s : List UInt8) (X : List (List TC)) (i : Int) (n : Int) : Bool := is (0 ≤ n ∧ n ≤ 255 ∧ 0 ≤ i ∧ i + 1 < (s.length : Int) ∧ s.length ≤ 140737488351232 ∧ X.length ≤ 4000)
noncomputable def spec_RunDecode_u8_1_1 (s : List UInt8) (X : List (List TC)) (i : Int) (n : Int) : List (List TC) := X ++ List.replicate n.toNat [TC.i ((s.getD (i + 1).toNat 0).toNat : Int)]
noncomputable def spec_RunDecode_8_fin (s : List UInt8) (X : List (List TC)) (i : Int) (n : Int) : Told spec_RunDecode_8_ω := (.leaf (spec_RunDecode_o8_1 s X i n) (s, (spec_RunDecode_u8_1_1 s X i n), i))
def spec_RunDecode_8_sl (x : spec_RunDecode_8_σ) : List Slot := [⟨.val false [⟨.str, .sh, TC.s (x.1)⟩], ⟨0, 0⟩⟩, ⟨.val false [⟨.slice 5, .own true, TC.l (x.2.1)⟩], ⟨0, 0⟩⟩, ⟨.val false [⟨.int .i64, .sh, TC.i (x.2.2.1)⟩], ⟨0, 0⟩⟩, ⟨.val false [⟨.int .u8, .sh, TC.i (x.2.2.2)⟩], ⟨0, 0⟩⟩]
def spec_RunDecode_8_out : spec_RunDecode_8_ω → Ex × List Slot := (fun x => (.exit 2, [⟨.val false [⟨.str, .sh, TC.s (x.1)⟩], ⟨0, 0⟩⟩, Slot.none, Slot.none, ⟨.val false [⟨.slice 5, .own true, TC.l (x.2.1)⟩], ⟨0, 0⟩⟩, ⟨.val false [⟨.int .i64, .sh, TC.i (x.2.2)⟩], ⟨0, 0⟩⟩]))
noncomputable def spec_RunDecode_lo8 : List Slot → Option (Told (Ex × List Slot)) := fun s => match s with
  | [⟨.val false [⟨.str, .sh, TC.s s⟩], ⟨0, 0⟩⟩, ⟨.val false [⟨.slice 5, .own true, TC.l X⟩], ⟨0, 0⟩⟩, ⟨.val false [⟨.int .i64, .sh, TC.i i⟩], ⟨0, 0⟩⟩, ⟨.val false [⟨.int .u8, .sh, TC.i n⟩], ⟨0, 0⟩⟩] => some (((spec_RunDecode_8_fin s X i n)).map spec_RunDecode_8_out)
  | _ => .none
abbrev spec_RunDecode_3_σ := List UInt8 × List (List TC) × Int
abbrev spec_RunDecode_3_ω := (List UInt8 × List (List TC)) ⊕ (List UInt8 × List (List TC))
noncomputable def spec_RunDecode_3_step (s : List UInt8) (X : List (List TC)) (i : Int) : Tr (spec_RunDecode_3_σ ⊕ spec_RunDecode_3_ω) := (.ite ((decide ((IntKind.wrap .i64 (i + (1 : Int))) < (s.length : Int))) = true) (.ite ((0 : Int) ≤ i ∧ i < (s.length : Int)) (.ite ((((s.getD (i).toNat 0).toNat : Int) == (0 : Int)) = true) (.ok (.inr (.inl (s, X))))
    (.ite ((0 : Int) ≤ i ∧ i < (s.length : Int)) (.ite ((decide ((IntKind.wrap .i64 ((X.length : Int) + (IntKind.wrap .i64 ((s.getD (i).toNat 0).toNat : Int)))) > (1100 : Int))) = true) (.ok (.inr (.inl (s, X))))
      (.ite ((0 : Int) ≤ i ∧ i < (s.length : Int)) (.ite ((spec_RunDecode_o8_1 s X i ((s.getD (i).toNat 0).toNat : Int)) = true) (.ok (.inl (s, (spec_RunDecode_u8_1_1 s X i ((s.getD (i).toNat 0).toNat : Int)), (IntKind.wrap .i64 (i + (2 : Int))))))
        .no)
       .no))
     .no))
   .no)
  (.ok (.inr (.inr (s, X)))))
noncomputable def spec_RunDecode_3_st : spec_RunDecode_3_σ → Tr (spec_RunDecode_3_σ ⊕ spec_RunDecode_3_ω) := fun x => (spec_RunDecode_3_step (x.1) (x.2.1) (x.2.2))
noncomputable def spec_RunDecode_k3_1 (s : List UInt8) (X : List (List TC)) (i : Int) : Bool := allI (rdP s) (s.length / 2)
noncomputable def spec_RunDecode_o3_2 (s : List UInt8) (X : List (List TC)) (i : Int) : Bool := is (s.length ≤ 140737488351232 ∧ X = [] ∧ i = 0)
noncomputable def spec_RunDecode_u3_2_1 (s : List UInt8) (X : List (List TC)) (i : Int) : List (List TC) := bytesRow (rdL s (s.length / 2))
noncomputable def spec_RunDecode_o3_3 (s : List UInt8) (X : List (List TC)) (i : Int) : Bool := is (s.length ≤ 140737488351232 ∧ X = [] ∧ i = 0)
noncomputable def spec_RunDecode_u3_3_1 (s : List UInt8) (X : List (List TC)) (i : Int) : List (List TC) := bytesRow (rdL s (idxI (rdP s) (s.length / 2)))
noncomputable def spec_RunDecode_3_fin (s : List UInt8) (X : List (List TC)) (i : Int) : Told spec_RunDecode_3_ω := (.br (spec_RunDecode_k3_1 s X i) (.leaf (spec_RunDecode_o3_2 s X i) (.inr (s, (spec_RunDecode_u3_2_1 s X i)))) (.leaf (spec_RunDecode_o3_3 s X i) (.inl (s, (spec_RunDecode_u3_3_1 s X i)))))
def spec_RunDecode_3_sl (x : spec_RunDecode_3_σ) : List Slot := [⟨.val false [⟨.str, .sh, TC.s (x.1)⟩], ⟨0, 0⟩⟩, ⟨.val false [⟨.slice 5, .own true, TC.l (x.2.1)⟩], ⟨0, 0⟩⟩, ⟨.val false [⟨.int .i64, .sh, TC.i (x.2.2)⟩], ⟨0, 0⟩⟩]
def spec_RunDecode_3_out : spec_RunDecode_3_ω → Ex × List Slot := (Sum.elim (fun x => (.ret, [⟨.val false [⟨.str, .sh, TC.s (x.1)⟩], ⟨0, 0⟩⟩, ⟨.val false [⟨.str, .sh, TC.s []⟩], ⟨0, 0⟩⟩, ⟨.val false [⟨.bool, .sh, TC.b false⟩], ⟨0, 0⟩⟩, ⟨.val false [⟨.slice 5, .own true, TC.l (x.2)⟩], ⟨0, 0⟩⟩])) (fun x => (.exit 0, [⟨.val false [⟨.str, .sh, TC.s (x.1)⟩], ⟨0, 0⟩⟩, Slot.none, Slot.none, ⟨.val false [⟨.slice 5, .own true, TC.l (x.2)⟩], ⟨0, 0⟩⟩])))
noncomputable def spec_RunDecode_lo3 : List Slot → Option (Told (Ex × List Slot)) := fun s => match s with
  | [⟨.val false [⟨.str, .sh, TC.s s⟩], ⟨0, 0⟩⟩, ⟨.val false [⟨.slice 5, .own true, TC.l X⟩], ⟨0, 0⟩⟩, ⟨.val false [⟨.int .i64, .sh, TC.i i⟩], ⟨0, 0⟩⟩] => some (((spec_RunDecode_3_fin s X i)).map spec_RunDecode_3_out)
  | _ => .none
noncomputable def spec_RunDecode_lo : LoopTeller := fun r s => bif Nat.beq r 3 then spec_RunDecode_lo3 s else bif Nat.beq r 8 then spec_RunDecode_lo8 s else .none
theorem spec_RunDecode_8_r (s : List UInt8) (X : List (List TC)) (i : Int) (n : Int) (fuel : Nat) : rounds (rnd tab FT D0 live 20 spec_RunDecode_lo 1 8) leave (fuel + 1) (spec_RunDecode_8_sl (s, X, i, n)) = ((spec_RunDecode_8_step s X i n)).run (goOn (fun s => rounds (rnd tab FT D0 live 20 spec_RunDecode_lo 1 8) leave fuel (spec_RunDecode_8_sl s)) fun w => some (spec_RunDecode_8_out w)) := by kernel_rfl
theorem spec_RunDecode_8_h (s : List UInt8) (X : List (List TC)) (i : Int) (n : Int) (ow : spec_RunDecode_8_ω) : ((spec_RunDecode_8_fin s X i n)).val = some ow → ∃ fuel, loopN spec_RunDecode_8_st fuel (s, X, i, n) = some ow := by
  intro h
  refine auto_leaf (R := (s, X ++ List.replicate n.toNat [TC.i ((s.getD (i + 1).toNat 0).toNat : Int)], i)) (fun ho => ?_) h
  obtain ⟨h0, h1, h2, h3, h4, h5⟩ := is_iff.1 ho
  obtain ⟨m, rfl⟩ : ∃ m : Nat, n = (m : Int) := ⟨n.toNat, by omega⟩
  obtain ⟨x, hx⟩ : ∃ x : List TC, x = [TC.i ((s.getD (i + 1).toNat 0).toNat : Int)] := ⟨_, rfl⟩
  rw [Int.toNat_natCast, ← hx]
  refine ⟨m + 1, Eq.trans (congrArg (loopN spec_RunDecode_8_st (m + 1)) (by simp)) (loopN_run (step := spec_RunDecode_8_st) (N := m) (fun j => (s, X ++ List.replicate j x, i, ((m : Int) - (j : Int)))) (fun j hj => ?_) ?_ m 0 (by omega))⟩
  · show (spec_RunDecode_8_step s (X ++ List.replicate j x) i ((m : Int) - (j : Int))).val = _
    unfold spec_RunDecode_8_step
    rw [wrap64 (i := i + 1) (by omega) (by omega), ← hx]
    refine Tr.t (by simp; omega) ?_
    refine Tr.t (by omega) ?_
    refine Tr.t (by unfold roomFor; simp only [show (tab 5).bytes = 1 from rfl, List.length_append, List.length_replicate, List.length_singleton]; omega) ?_
    rw [Tr.val_ok, List.append_assoc, ← List.replicate_succ', IntKind.wrap_u8, Int.emod_eq_of_lt (by omega) (by omega), show (m : Int) - (j : Int) - 1 = (m : Int) - ((j + 1 : Nat) : Int) from by omega]
  · show (spec_RunDecode_8_step s (X ++ List.replicate m x) i ((m : Int) - (m : Int))).val = _
    unfold spec_RunDecode_8_step
    refine Tr.n (by simp) ?_
    rfl
theorem spec_RunDecode_is8 : LoopIs tab FT D0 live 20 spec_RunDecode_lo 1 8 := by
  refine loop_told (sl := spec_RunDecode_8_sl) (step := spec_RunDecode_8_st) (out := spec_RunDecode_8_out) (lor := spec_RunDecode_lo8) (fin := fun x => (spec_RunDecode_8_fin (x.1) (x.2.1) (x.2.2.1) (x.2.2.2))) (fun _ => rfl) ?_ (fun x n => spec_RunDecode_8_r x.1 x.2.1 x.2.2.1 x.2.2.2 n) (fun x ow => spec_RunDecode_8_h x.1 x.2.1 x.2.2.1 x.2.2.2 ow)
  intro s t h
  unfold spec_RunDecode_lo8 at h
  split at h
  · cases h; exact ⟨(_, _, _, _), rfl, rfl⟩
  · cases h
theorem spec_RunDecode_3_r (s : List UInt8) (X : List (List TC)) (i : Int) (fuel : Nat) : rounds (rnd tab FT D0 live 20 spec_RunDecode_lo 0 3) leave (fuel + 1) (spec_RunDecode_3_sl (s, X, i)) = ((spec_RunDecode_3_step s X i)).run (goOn (fun s => rounds (rnd tab FT D0 live 20 spec_RunDecode_lo 0 3) leave fuel (spec_RunDecode_3_sl s)) fun w => some (spec_RunDecode_3_out w)) := by kernel_rfl
theorem spec_RunDecode_3_h (s : List UInt8) (X : List (List TC)) (i : Int) (ow : spec_RunDecode_3_ω) : ((spec_RunDecode_3_fin s X i)).val = some ow → ∃ fuel, loopN spec_RunDecode_3_st fuel (s, X, i) = some ow := by
  intro h
  refine auto_br (K := allI (rdP s) (s.length / 2)) rfl (fun ho => ?_) h
  have ho := ho.elim id id
  obtain ⟨hl, rfl, rfl⟩ := is_iff.1 ho
  show ∃ M, loopN spec_RunDecode_3_st M (s, [], 0) = some (bif allI (rdP s) (s.length / 2) then .inr (s, bytesRow (rdL s (s.length / 2))) else .inl (s, bytesRow (rdL s (idxI (rdP s) (s.length / 2)))))
  obtain ⟨m, hm⟩ : ∃ m, m = s.length / 2 := ⟨_, rfl⟩
  rw [← hm]
  refine loopN_along (step := spec_RunDecode_3_st) m (rdP s) (fun j => (s, bytesRow (rdL s j), ((2 * j : Nat) : Int))) (.inr (s, bytesRow (rdL s m))) (fun j => .inl (s, bytesRow (rdL s j))) (fun j hj hb => ?_) (fun hb => ?_)
  · have hlen := rdL_len hb
    have hb0 := (s.getD (2 * j) 0).toNat_lt
    have hw : IntKind.wrap .i64 (((2 * j : Nat) : Int) + (2 : Int)) = ((2 * j + 2 : Nat) : Int) := by rw [wrap64 (by omega) (by omega)]; omega
    have hw1 : IntKind.wrap .i64 (((2 * j : Nat) : Int) + (1 : Int)) = ((2 * j + 1 : Nat) : Int) := by rw [wrap64 (by omega) (by omega)]; omega
    constructor
    · intro hP
      unfold rdP at hP
      rw [Bool.and_eq_true, decide_eq_true_eq] at hP
      obtain ⟨p1, p2⟩ := hP
      have p1 : ((s.getD (2 * j) 0).toNat == 0) = false := by simpa using p1
      show (spec_RunDecode_3_step s (bytesRow (rdL s j)) ((2 * j : Nat) : Int)).val = _
      unfold spec_RunDecode_3_step
      rw [hw, hw1, Int.toNat_natCast, bytesRow_len, rd_test0, p1, rd_over hlen]
      refine Tr.t (by simp; omega) ?_
      refine Tr.t (by omega) ?_
      refine Tr.n (by simp) ?_
      refine Tr.t (by omega) ?_
      refine Tr.n (by rw [decide_eq_true p2]; simp) ?_
      refine Tr.t (by omega) ?_
      refine Tr.t (is_true ⟨by omega, by omega, by omega, by omega, hl, by rw [bytesRow_len]; omega⟩) ?_
      rw [Tr.val_ok]
      have eu : spec_RunDecode_u8_1_1 s (bytesRow (rdL s j)) ((2 * j : Nat) : Int) ((s.getD (2 * j) 0).toNat : Int) = bytesRow (rdL s (j + 1)) := by
        unfold spec_RunDecode_u8_1_1
        show _ = bytesRow (rdL s j ++ List.replicate (s.getD (2 * j) 0).toNat (s.getD (2 * j + 1) 0))
        rw [bytesRow_append, Int.toNat_natCast, show (((2 * j : Nat) : Int) + 1).toNat = 2 * j + 1 from by omega]
        unfold bytesRow
        rw [List.map_replicate]
      rw [eu]; rfl
    · intro hP
      show (spec_RunDecode_3_step s (bytesRow (rdL s j)) ((2 * j : Nat) : Int)).val = _
      unfold spec_RunDecode_3_step
      rw [hw, hw1, Int.toNat_natCast, bytesRow_len, rd_test0, rd_over hlen]
      refine Tr.t (by simp; omega) ?_
      refine Tr.t (by omega) ?_
      cases p1 : ((s.getD (2 * j) 0).toNat == 0) with
      | true =>
        refine Tr.t rfl ?_
        rfl
      | false =>
        refine Tr.n (by simp) ?_
        refine Tr.t (by omega) ?_
        unfold rdP at hP
        rw [p1] at hP
        refine Tr.t (by simpa using hP) ?_
        rfl
  · have hw1 : IntKind.wrap .i64 (((2 * m : Nat) : Int) + (1 : Int)) = ((2 * m + 1 : Nat) : Int) := by rw [wrap64 (by omega) (by omega)]; omega
    show (spec_RunDecode_3_step s (bytesRow (rdL s m)) ((2 * m : Nat) : Int)).val = _
    unfold spec_RunDecode_3_step
    rw [hw1]
    refine Tr.n (by simp; omega) ?_
    rfl
theorem spec_RunDecode_is3 : LoopIs tab FT D0 live 20 spec_RunDecode_lo 0 3 := by
  refine loop_told (sl := spec_RunDecode_3_sl) (step := spec_RunDecode_3_st) (out := spec_RunDecode_3_out) (lor := spec_RunDecode_lo3) (fin := fun x => (spec_RunDecode_3_fin (x.1) (x.2.1) (x.2.2))) (fun _ => rfl) ?_ (fun x n => spec_RunDecode_3_r x.1 x.2.1 x.2.2 n) (fun x ow => spec_RunDecode_3_h x.1 x.2.1 x.2.2 ow)
  intro s t h
  unfold spec_RunDecode_lo3 at h
  split at h
  · cases h; exact ⟨(_, _, _), rfl, rfl⟩
  · cases h
noncomputable def spec_RunDecode_t (s : List UInt8) : Tr (List UInt8 × Bool) := (.ite ((spec_RunDecode_k3_1 s [] (0 : Int)) = true) (.ite ((spec_RunDecode_o3_2 s [] (0 : Int)) = true) (.ite ((!((Int.tmod (s.length : Int) (2 : Int)) == (0 : Int))) = true) (.ok ([], false))
    (.ok (((spec_RunDecode_u3_2_1 s [] (0 : Int)).map byteOf), true)))
   .no)
  (.ite ((spec_RunDecode_o3_3 s [] (0 : Int)) = true) (.ok ([], false))
   .no))
def spec_RunDecode_mk (p : List UInt8 × Bool) : Res := [(false, [⟨.str, .sh, TC.s (p.1)⟩]), (false, [⟨.bool, .sh, TC.b (p.2)⟩])]
noncomputable def spec_RunDecode_c (s : List UInt8) : Bool := (bif (spec_RunDecode_k3_1 s [] (0 : Int)) then ((spec_RunDecode_o3_2 s [] (0 : Int)) && (bif (!((Int.tmod (s.length : Int) (2 : Int)) == (0 : Int))) then true else true)) else ((spec_RunDecode_o3_3 s [] (0 : Int)) && true))
noncomputable def spec_RunDecode_v (s : List UInt8) : List UInt8 × Bool := (bif (spec_RunDecode_k3_1 s [] (0 : Int)) then (bif (!((Int.tmod (s.length : Int) (2 : Int)) == (0 : Int))) then ([], false) else (((spec_RunDecode_u3_2_1 s [] (0 : Int)).map byteOf), true)) else ([], false))
theorem spec_RunDecode_l (s : List UInt8) : (spec_RunDecode_c s) = true → (spec_RunDecode_t s).val = some (spec_RunDecode_v s) := by
  unfold spec_RunDecode_t spec_RunDecode_v spec_RunDecode_c
  exact fun h => (Tr.ss h (fun h => (Tr.gb h fun h => (Tr.ss h (fun h => rfl) (fun h => rfl)))) (fun h => (Tr.gb h fun h => rfl)))
noncomputable def spec_RunDecode_S : List Arg → Option (Bool × Res) := fun xs => match xs with
  | [(false, [(.str, TC.s s)])] => some ((spec_RunDecode_c s), spec_RunDecode_mk (spec_RunDecode_v s))
  | _ => .none
theorem spec_RunDecode_e (s : List UInt8) : runF tab FT D0 live 20 spec_RunDecode_lo [(false, [(.str, TC.s s)])] = (spec_RunDecode_t s).run fun p => some (spec_RunDecode_mk p) := by kernel_rfl
theorem spec_RunDecode_s : ∀ xs r, spec_RunDecode_S xs = some (true, r) → runF tab FT D0 live 20 spec_RunDecode_lo xs = some r := by
  intro xs r h
  unfold spec_RunDecode_S at h
  split at h
  · simp only [Option.some.injEq, Prod.mk.injEq] at h
    obtain ⟨h1, rfl⟩ := h
    exact fun_told (spec_RunDecode_e _) (spec_RunDecode_l _) h1
  · cases h
noncomputable def D1 : Dt := also D0 20 spec_RunDecode_S
theorem d1 : DOk Go.Proofs.Try.prog tab D1 := d0.also mixed_ok tab_ok names_ok (fnLoops_two (by kernel_rfl) spec_RunDecode_is3 spec_RunDecode_is8) spec_RunDecode_s
theorem spec_RunDecode_cc {s : List UInt8} (hs : Typed tab (.str) (.s s)) : (spec_RunDecode_c s) = true := by
  unfold spec_RunDecode_c
  refine bifT (fun b1 => ?_) (fun b1 => ?_)
  · skip
    refine andT (by exact is_true ⟨typed_str_len hs, rfl, rfl⟩) ?_
    refine bifT (fun b2 => ?_) (fun b2 => ?_)
    · skip
      rfl
    · skip
      rfl
  · skip
    refine andT (by exact is_true ⟨typed_str_len hs, rfl, rfl⟩) ?_
    rfl
/-! strings_Repeat, by contract -/
noncomputable def strings_Repeat_c (s : List UInt8) (n : Int) : Bool := is (0 ≤ n ∧ n ≤ 9223372036854775807 ∧ s.length * n.toNat ≤ 140737488355328)
noncomputable def strings_Repeat_v (s : List UInt8) (n : Int) : List UInt8 := hid (Lib.repeatL s n.toNat)
def strings_Repeat_mk (p : List UInt8) : Res := [(false, [⟨.str, .sh, TC.s p⟩])]
noncomputable def strings_Repeat_S : List Arg → Option (Bool × Res) := fun xs => match xs with
  | [(false, [(.str, TC.s s)]), (false, [(.int .i64, TC.i n)])] => some ((strings_Repeat_c s n), strings_Repeat_mk (strings_Repeat_v s n))
  | _ => .none
noncomputable def D2 : Dt := also D1 37 strings_Repeat_S
theorem d2 : DOk Go.Proofs.Try.prog tab D2 := d1.alsoC names_ok (c := _) Go.Proofs.Try.func37 rfl (by
  intro xs r h w S hargs0 hS hargs
  unfold strings_Repeat_S at h
  split at h
  · rename_i s n
    simp only [Option.some.injEq, Prod.mk.injEq] at h
    obtain ⟨h1, rfl⟩ := h
    obtain ⟨h2, h3, h4⟩ := is_iff.1 h1
    obtain ⟨u, us, rfl, ha, hr⟩ := args_cons hargs
    obtain ⟨u2, us2, rfl, hb, hr⟩ := args_cons hr
    cases args_nil hr
    rw [rep_str' (arg_rep ha), rep_int' (arg_rep hb)]
    obtain ⟨m, rfl⟩ : ∃ m : Nat, n = (m : Int) := ⟨n.toNat, by omega⟩
    rw [Int.toNat_natCast] at h4
    refine Calls.mono (Any.strings_Repeat lays105 extra ⟨s.toArray⟩ m w (by omega) (by rw [bytes_size]; exact h4)) ?_
    rintro e w' ⟨rfl, hb⟩
    refine ⟨_, rfl, ?_⟩
    show PlainRes tab w S [(false, [⟨.str, .sh, .s (hid (Lib.repeatL s ((m : Int)).toNat))⟩])] _ w'
    rw [hid_eq, Int.toNat_natCast]
    exact plain_flat rfl (.str _) hb
  · cases h)
theorem strings_Repeat_h {s : List UInt8} {n : Int} : strings_Repeat_v s n = Lib.repeatL s n.toNat := hid_eq _
/-! impl_RunDecode -/
theorem rdE {s : List UInt8} (h : ((Int.tmod (s.length : Int) (2 : Int)) == (1 : Int)) = false) : s.length % 2 = 0 := by
  have h : ¬ (Int.tmod (s.length : Int) (2 : Int)) = 1 := by simpa using h
  rw [show (Int.tmod (s.length : Int) (2 : Int)) = ((s.length % 2 : Nat) : Int) from (Int.ofNat_tmod _ _).symm] at h
  omega
abbrev impl_RunDecode_5_σ := List UInt8 × List UInt8 × Int
abbrev impl_RunDecode_5_ω := (List UInt8) ⊕ (List UInt8)
noncomputable def impl_RunDecode_5_step (s : List UInt8) (out : List UInt8) (i : Int) : Tr (impl_RunDecode_5_σ ⊕ impl_RunDecode_5_ω) := (.ite ((decide (i < (s.length : Int))) = true) (.ite ((0 : Int) ≤ i ∧ i < (s.length : Int)) (.ite (((IntKind.wrap .i64 ((s.getD (i).toNat 0).toNat : Int)) == (0 : Int)) = true) (.ok (.inr (.inl out)))
    (.ite ((decide ((IntKind.wrap .i64 ((out.length : Int) + (IntKind.wrap .i64 ((s.getD (i).toNat 0).toNat : Int)))) > (1100 : Int))) = true) (.ok (.inr (.inl out)))
     (.ite ((0 : Int) ≤ (IntKind.wrap .i64 (i + (1 : Int))) ∧ (IntKind.wrap .i64 (i + (1 : Int))) ≤ (IntKind.wrap .i64 (i + (2 : Int))) ∧ (IntKind.wrap .i64 (i + (2 : Int))) ≤ (s.length : Int)) (.ite ((strings_Repeat_c ((s.take ((IntKind.wrap .i64 (i + (2 : Int)))).toNat).drop ((IntKind.wrap .i64 (i + (1 : Int)))).toNat) (IntKind.wrap .i64 ((s.getD (i).toNat 0).toNat : Int))) = true) (.ite (((out.length + (strings_Repeat_v ((s.take ((IntKind.wrap .i64 (i + (2 : Int)))).toNat).drop ((IntKind.wrap .i64 (i + (1 : Int)))).toNat) (IntKind.wrap .i64 ((s.getD (i).toNat 0).toNat : Int))).length : Nat) : Int) ≤ 140737488355328) (.ok (.inl (s, (out ++ (strings_Repeat_v ((s.take ((IntKind.wrap .i64 (i + (2 : Int)))).toNat).drop ((IntKind.wrap .i64 (i + (1 : Int)))).toNat) (IntKind.wrap .i64 ((s.getD (i).toNat 0).toNat : Int)))), (IntKind.wrap .i64 (i + (2 : Int))))))
        .no)
       .no)
      .no)))
   .no)
  (.ok (.inr (.inr out))))
noncomputable def impl_RunDecode_5_st : impl_RunDecode_5_σ → Tr (impl_RunDecode_5_σ ⊕ impl_RunDecode_5_ω) := fun x => (impl_RunDecode_5_step (x.1) (x.2.1) (x.2.2))
noncomputable def impl_RunDecode_k5_1 (s : List UInt8) (out : List UInt8) (i : Int) : Bool := allI (rdP s) (s.length / 2)
noncomputable def impl_RunDecode_o5_2 (s : List UInt8) (out : List UInt8) (i : Int) : Bool := is (s.length % 2 = 0 ∧ s.length ≤ 140737488351232 ∧ out = [] ∧ i = 0)
noncomputable def impl_RunDecode_u5_2 (s : List UInt8) (out : List UInt8) (i : Int) : List UInt8 := rdL s (s.length / 2)
noncomputable def impl_RunDecode_o5_3 (s : List UInt8) (out : List UInt8) (i : Int) : Bool := is (s.length % 2 = 0 ∧ s.length ≤ 140737488351232 ∧ out = [] ∧ i = 0)
noncomputable def impl_RunDecode_u5_3 (s : List UInt8) (out : List UInt8) (i : Int) : List UInt8 := rdL s (idxI (rdP s) (s.length / 2))
noncomputable def impl_RunDecode_5_fin (s : List UInt8) (out : List UInt8) (i : Int) : Told impl_RunDecode_5_ω := (.br (impl_RunDecode_k5_1 s out i) (.leaf (impl_RunDecode_o5_2 s out i) (.inr (impl_RunDecode_u5_2 s out i))) (.leaf (impl_RunDecode_o5_3 s out i) (.inl (impl_RunDecode_u5_3 s out i))))
def impl_RunDecode_5_sl (x : impl_RunDecode_5_σ) : List Slot := [⟨.val false [⟨.str, .sh, TC.s (x.1)⟩], ⟨0, 0⟩⟩, ⟨.bld 45 5 (x.2.1), ⟨0, 0⟩⟩, ⟨.val false [⟨.int .i64, .sh, TC.i (x.2.2)⟩], ⟨0, 0⟩⟩]
def impl_RunDecode_5_out : impl_RunDecode_5_ω → Ex × List Slot := (Sum.elim (fun x => (.ret, [⟨.val false [⟨.str, .sh, TC.s []⟩], ⟨0, 0⟩⟩, ⟨.val false [⟨.bool, .sh, TC.b false⟩], ⟨0, 0⟩⟩, ⟨.bld 45 5 x, ⟨0, 0⟩⟩])) (fun x => (.exit 0, [Slot.none, Slot.none, ⟨.bld 45 5 x, ⟨0, 0⟩⟩])))
noncomputable def impl_RunDecode_lo5 : List Slot → Option (Told (Ex × List Slot)) := fun s => match s with
  | [⟨.val false [⟨.str, .sh, TC.s s⟩], ⟨0, 0⟩⟩, ⟨.bld 45 5 out, ⟨0, 0⟩⟩, ⟨.val false [⟨.int .i64, .sh, TC.i i⟩], ⟨0, 0⟩⟩] => some (((impl_RunDecode_5_fin s out i)).map impl_RunDecode_5_out)
  | _ => .none
noncomputable def impl_RunDecode_lo : LoopTeller := fun r s => bif Nat.beq r 5 then impl_RunDecode_lo5 s else .none
theorem impl_RunDecode_5_r (s : List UInt8) (out : List UInt8) (i : Int) (fuel : Nat) : rounds (rnd tab FT D2 live 21 impl_RunDecode_lo 0 5) leave (fuel + 1) (impl_RunDecode_5_sl (s, out, i)) = ((impl_RunDecode_5_step s out i)).run (goOn (fun s => rounds (rnd tab FT D2 live 21 impl_RunDecode_lo 0 5) leave fuel (impl_RunDecode_5_sl s)) fun w => some (impl_RunDecode_5_out w)) := by kernel_rfl
theorem impl_RunDecode_5_h (s : List UInt8) (out : List UInt8) (i : Int) (ow : impl_RunDecode_5_ω) : ((impl_RunDecode_5_fin s out i)).val = some ow → ∃ fuel, loopN impl_RunDecode_5_st fuel (s, out, i) = some ow := by
  intro h
  refine auto_br (K := allI (rdP s) (s.length / 2)) rfl (fun ho => ?_) h
  have ho := ho.elim id id
  obtain ⟨he, hl, rfl, rfl⟩ := is_iff.1 ho
  show ∃ M, loopN impl_RunDecode_5_st M (s, [], 0) = some (bif allI (rdP s) (s.length / 2) then .inr (rdL s (s.length / 2)) else .inl (rdL s (idxI (rdP s) (s.length / 2))))
  obtain ⟨m, hm⟩ : ∃ m, m = s.length / 2 := ⟨_, rfl⟩
  rw [← hm]
  refine loopN_along (step := impl_RunDecode_5_st) m (rdP s) (fun j => (s, rdL s j, ((2 * j : Nat) : Int))) (.inr (rdL s m)) (fun j => .inl (rdL s j)) (fun j hj hb => ?_) (fun hb => ?_)
  · have hlen := rdL_len hb
    have hb0 := (s.getD (2 * j) 0).toNat_lt
    have h0 : (impl_RunDecode_5_step s (rdL s j) ((2 * j : Nat) : Int)).val = _ := rfl
    have hw : IntKind.wrap .i64 (((2 * j : Nat) : Int) + (2 : Int)) = ((2 * j + 2 : Nat) : Int) := by rw [wrap64 (by omega) (by omega)]; omega
    have hw1 : IntKind.wrap .i64 (((2 * j : Nat) : Int) + (1 : Int)) = ((2 * j + 1 : Nat) : Int) := by rw [wrap64 (by omega) (by omega)]; omega
    constructor
    · intro hP
      unfold rdP at hP
      rw [Bool.and_eq_true, decide_eq_true_eq] at hP
      obtain ⟨p1, p2⟩ := hP
      have p1 : ((s.getD (2 * j) 0).toNat == 0) = false := by simpa using p1
      show (impl_RunDecode_5_step s (rdL s j) ((2 * j : Nat) : Int)).val = _
      unfold impl_RunDecode_5_step
      rw [hw, hw1, Int.toNat_natCast, Int.toNat_natCast, Int.toNat_natCast, one_of (by omega), rd_test, p1, rd_over hlen]
      refine Tr.t (by simp; omega) ?_
      refine Tr.t (by omega) ?_
      refine Tr.n (by simp) ?_
      refine Tr.n (by rw [decide_eq_true p2]; simp) ?_
      refine Tr.t (by omega) ?_
      rw [wrap64 (i := ((s.getD (2 * j) 0).toNat : Int)) (by omega) (by omega)]
      refine Tr.t (is_true ⟨by omega, by omega, by rw [Int.toNat_natCast, List.length_singleton]; omega⟩) ?_
      rw [strings_Repeat_h, Int.toNat_natCast, repL_one]
      refine Tr.t (by rw [List.length_replicate]; omega) ?_
      rw [Tr.val_ok]; rfl
    · intro hP
      show (impl_RunDecode_5_step s (rdL s j) ((2 * j : Nat) : Int)).val = _
      unfold impl_RunDecode_5_step
      rw [hw, hw1, Int.toNat_natCast, Int.toNat_natCast, Int.toNat_natCast, one_of (by omega), rd_test, rd_over hlen]
      refine Tr.t (by simp; omega) ?_
      refine Tr.t (by omega) ?_
      cases p1 : ((s.getD (2 * j) 0).toNat == 0) with
      | true =>
        refine Tr.t rfl ?_
        rfl
      | false =>
        refine Tr.n (by simp) ?_
        unfold rdP at hP
        rw [p1] at hP
        refine Tr.t (by simpa using hP) ?_
        rfl
  · show (impl_RunDecode_5_step s (rdL s m) ((2 * m : Nat) : Int)).val = _
    unfold impl_RunDecode_5_step
    refine Tr.n (by simp; omega) ?_
    rfl
theorem impl_RunDecode_is5 : LoopIs tab FT D2 live 21 impl_RunDecode_lo 0 5 := by
  refine loop_told (sl := impl_RunDecode_5_sl) (step := impl_RunDecode_5_st) (out := impl_RunDecode_5_out) (lor := impl_RunDecode_lo5) (fin := fun x => (impl_RunDecode_5_fin (x.1) (x.2.1) (x.2.2))) (fun _ => rfl) ?_ (fun x n => impl_RunDecode_5_r x.1 x.2.1 x.2.2 n) (fun x ow => impl_RunDecode_5_h x.1 x.2.1 x.2.2 ow)
  intro s t h
  unfold impl_RunDecode_lo5 at h
  split at h
  · cases h; exact ⟨(_, _, _), rfl, rfl⟩
  · cases h
noncomputable def impl_RunDecode_t (s : List UInt8) : Tr (List UInt8 × Bool) := (.ite (((Int.tmod (s.length : Int) (2 : Int)) == (1 : Int)) = true) (.ok ([], false))
  (.ite ((impl_RunDecode_k5_1 s [] (0 : Int)) = true) (.ite ((impl_RunDecode_o5_2 s [] (0 : Int)) = true) (.ok ((impl_RunDecode_u5_2 s [] (0 : Int)), true))
    .no)
   (.ite ((impl_RunDecode_o5_3 s [] (0 : Int)) = true) (.ok ([], false))
    .no)))
def impl_RunDecode_mk (p : List UInt8 × Bool) : Res := [(false, [⟨.str, .sh, TC.s (p.1)⟩]), (false, [⟨.bool, .sh, TC.b (p.2)⟩])]
noncomputable def impl_RunDecode_c (s : List UInt8) : Bool := (bif ((Int.tmod (s.length : Int) (2 : Int)) == (1 : Int)) then true else (bif (impl_RunDecode_k5_1 s [] (0 : Int)) then ((impl_RunDecode_o5_2 s [] (0 : Int)) && true) else ((impl_RunDecode_o5_3 s [] (0 : Int)) && true)))
noncomputable def impl_RunDecode_v (s : List UInt8) : List UInt8 × Bool := (bif ((Int.tmod (s.length : Int) (2 : Int)) == (1 : Int)) then ([], false) else (bif (impl_RunDecode_k5_1 s [] (0 : Int)) then ((impl_RunDecode_u5_2 s [] (0 : Int)), true) else ([], false)))
theorem impl_RunDecode_l (s : List UInt8) : (impl_RunDecode_c s) = true → (impl_RunDecode_t s).val = some (impl_RunDecode_v s) := by
  unfold impl_RunDecode_t impl_RunDecode_v impl_RunDecode_c
  exact fun h => (Tr.ss h (fun h => rfl) (fun h => (Tr.ss h (fun h => (Tr.gb h fun h => rfl)) (fun h => (Tr.gb h fun h => rfl)))))
noncomputable def impl_RunDecode_S : List Arg → Option (Bool × Res) := fun xs => match xs with
  | [(false, [(.str, TC.s s)])] => some ((impl_RunDecode_c s), impl_RunDecode_mk (impl_RunDecode_v s))
  | _ => .none
theorem impl_RunDecode_e (s : List UInt8) : runF tab FT D2 live 21 impl_RunDecode_lo [(false, [(.str, TC.s s)])] = (impl_RunDecode_t s).run fun p => some (impl_RunDecode_mk p) := by kernel_rfl
theorem impl_RunDecode_s : ∀ xs r, impl_RunDecode_S xs = some (true, r) → runF tab FT D2 live 21 impl_RunDecode_lo xs = some r := by
  intro xs r h
  unfold impl_RunDecode_S at h
  split at h
  · simp only [Option.some.injEq, Prod.mk.injEq] at h
    obtain ⟨h1, rfl⟩ := h
    exact fun_told (impl_RunDecode_e _) (impl_RunDecode_l _) h1
  · cases h
noncomputable def D3 : Dt := also D2 21 impl_RunDecode_S
theorem d3 : DOk Go.Proofs.Try.prog tab D3 := d2.also mixed_ok tab_ok names_ok (fnLoops_one (by kernel_rfl) impl_RunDecode_is5) impl_RunDecode_s
theorem impl_RunDecode_cc {s : List UInt8} (hs : Typed tab (.str) (.s s)) : (impl_RunDecode_c s) = true := by
  unfold impl_RunDecode_c
  refine bifT (fun b1 => ?_) (fun b1 => ?_)
  · skip
    rfl
  · skip
    refine bifT (fun b2 => ?_) (fun b2 => ?_)
    · skip
      refine andT (by exact is_true ⟨rdE b1, typed_str_len hs, rfl, rfl⟩) ?_
      rfl
    · skip
      refine andT (by exact is_true ⟨rdE b1, typed_str_len hs, rfl, rfl⟩) ?_
      rfl
/-! the law -/
noncomputable def laws_FnExactRunDecode_t (x0 : List UInt8) : Tr Bool := (.ite ((decide ((x0.length : Int) > (1048576 : Int))) = true) (.ok true)
  (.ite ((spec_RunDecode_c x0) = true) (.ite ((impl_RunDecode_c x0) = true) (.ite ((!((impl_RunDecode_v x0).1 == (spec_RunDecode_v x0).1)) = true) (.ok false)
     (.ite ((!((impl_RunDecode_v x0).2 == (spec_RunDecode_v x0).2)) = true) (.ok false)
      (.ok true)))
    .no)
   .no))
theorem laws_FnExactRunDecode_e (x0 : List UInt8) : runF tab FT D3 live 7 noLoops [(false, [(.str, TC.s x0)])] = (laws_FnExactRunDecode_t x0).run fun p => some [(false, [⟨.bool, .sh, .b p⟩])] := by kernel_rfl
theorem RunDecode_eq (s : List UInt8) : spec_RunDecode_v s = impl_RunDecode_v s := by
  unfold spec_RunDecode_v impl_RunDecode_v
  have e1 : spec_RunDecode_k3_1 s [] (0 : Int) = allI (rdP s) (s.length / 2) := rfl
  have e2 : impl_RunDecode_k5_1 s [] (0 : Int) = allI (rdP s) (s.length / 2) := rfl
  have e3 : (spec_RunDecode_u3_2_1 s [] (0 : Int)).map byteOf = rdL s (s.length / 2) := bytesRow_of _
  have e4 : impl_RunDecode_u5_2 s [] (0 : Int) = rdL s (s.length / 2) := rfl
  have e5 : ((Int.tmod (s.length : Int) (2 : Int)) == (1 : Int)) = !((Int.tmod (s.length : Int) (2 : Int)) == (0 : Int)) := by
    rw [show (Int.tmod (s.length : Int) (2 : Int)) = ((s.length % 2 : Nat) : Int) from (Int.ofNat_tmod _ _).symm]
    have := Nat.mod_two_eq_zero_or_one s.length
    rcases this with h | h <;> rw [h] <;> rfl
  rw [e1, e2, e3, e4, e5]
  cases allI (rdP s) (s.length / 2) <;> cases ((Int.tmod (s.length : Int) (2 : Int)) == (0 : Int)) <;> rfl
theorem laws_FnExactRunDecode_p (x0 : List UInt8) (h0 : Typed tab (.str) (.s x0)) : (laws_FnExactRunDecode_t x0).val = some true := by
  unfold laws_FnExactRunDecode_t
  rw [RunDecode_eq]
  refine Tr.y ?_
  refine Tr.t (by first | exact (by first | (apply spec_RunDecode_cc <;> assumption) | (first | (apply is_true; and_intros <;> (first | rfl | assumption | (apply spec_RunDecode_cc <;> assumption) | (apply impl_RunDecode_cc <;> assumption) | (first | (apply is_true; and_intros <;> (first | rfl | assumption | (apply spec_RunDecode_cc <;> assumption) | (apply impl_RunDecode_cc <;> assumption))) | (apply spec_RunDecode_cc <;> assumption) | (apply impl_RunDecode_cc <;> assumption)))) | (apply spec_RunDecode_cc <;> assumption) | (apply impl_RunDecode_cc <;> assumption))) | simp [*]) ?_
  refine Tr.t (by first | exact (by first | (apply impl_RunDecode_cc <;> assumption) | (first | (apply is_true; and_intros <;> (first | rfl | assumption | (apply spec_RunDecode_cc <;> assumption) | (apply impl_RunDecode_cc <;> assumption) | (first | (apply is_true; and_intros <;> (first | rfl | assumption | (apply spec_RunDecode_cc <;> assumption) | (apply impl_RunDecode_cc <;> assumption))) | (apply spec_RunDecode_cc <;> assumption) | (apply impl_RunDecode_cc <;> assumption)))) | (apply spec_RunDecode_cc <;> assumption) | (apply impl_RunDecode_cc <;> assumption))) | simp [*]) ?_
  refine Tr.n (by first | (simp [spec_RunDecode_u8_1_1, spec_RunDecode_k3_1, spec_RunDecode_u3_2_1, spec_RunDecode_u3_3_1, spec_RunDecode_v, strings_Repeat_v, impl_RunDecode_k5_1, impl_RunDecode_u5_2, impl_RunDecode_u5_3, impl_RunDecode_v]; done) | (simp only [spec_RunDecode_u8_1_1, spec_RunDecode_k3_1, spec_RunDecode_u3_2_1, spec_RunDecode_u3_3_1, spec_RunDecode_v, strings_Repeat_v, impl_RunDecode_k5_1, impl_RunDecode_u5_2, impl_RunDecode_u5_3, impl_RunDecode_v, nth0, nth1, nth2, nth3, nth4, nth5, int_i, bool_b, str_s, list_l, cells_p, Bool.not_eq_true, bne_self_eq_false, beq_self_eq_true, Bool.not_true]; done) | (simp [spec_RunDecode_u8_1_1, spec_RunDecode_k3_1, spec_RunDecode_u3_2_1, spec_RunDecode_u3_3_1, spec_RunDecode_v, strings_Repeat_v, impl_RunDecode_k5_1, impl_RunDecode_u5_2, impl_RunDecode_u5_3, impl_RunDecode_v, nth0, nth1, nth2, nth3, nth4, nth5, int_i, bool_b, str_s, list_l, cells_p]; done) | (simp [spec_RunDecode_u8_1_1, spec_RunDecode_k3_1, spec_RunDecode_u3_2_1, spec_RunDecode_u3_3_1, spec_RunDecode_v, strings_Repeat_v, impl_RunDecode_k5_1, impl_RunDecode_u5_2, impl_RunDecode_u5_3, impl_RunDecode_v, nth0, nth1, nth2, nth3, nth4, nth5, int_i, bool_b, str_s, list_l, cells_p] <;> rfl)) ?_
  refine Tr.n (by first | (simp [spec_RunDecode_u8_1_1, spec_RunDecode_k3_1, spec_RunDecode_u3_2_1, spec_RunDecode_u3_3_1, spec_RunDecode_v, strings_Repeat_v, impl_RunDecode_k5_1, impl_RunDecode_u5_2, impl_RunDecode_u5_3, impl_RunDecode_v]; done) | (simp only [spec_RunDecode_u8_1_1, spec_RunDecode_k3_1, spec_RunDecode_u3_2_1, spec_RunDecode_u3_3_1, spec_RunDecode_v, strings_Repeat_v, impl_RunDecode_k5_1, impl_RunDecode_u5_2, impl_RunDecode_u5_3, impl_RunDecode_v, nth0, nth1, nth2, nth3, nth4, nth5, int_i, bool_b, str_s, list_l, cells_p, Bool.not_eq_true, bne_self_eq_false, beq_self_eq_true, Bool.not_true]; done) | (simp [spec_RunDecode_u8_1_1, spec_RunDecode_k3_1, spec_RunDecode_u3_2_1, spec_RunDecode_u3_3_1, spec_RunDecode_v, strings_Repeat_v, impl_RunDecode_k5_1, impl_RunDecode_u5_2, impl_RunDecode_u5_3, impl_RunDecode_v, nth0, nth1, nth2, nth3, nth4, nth5, int_i, bool_b, str_s, list_l, cells_p]; done) | (simp [spec_RunDecode_u8_1_1, spec_RunDecode_k3_1, spec_RunDecode_u3_2_1, spec_RunDecode_u3_3_1, spec_RunDecode_v, strings_Repeat_v, impl_RunDecode_k5_1, impl_RunDecode_u5_2, impl_RunDecode_u5_3, impl_RunDecode_v, nth0, nth1, nth2, nth3, nth4, nth5, int_i, bool_b, str_s, list_l, cells_p] <;> rfl)) ?_
  rfl
theorem laws_FnExactRunDecode_pure : ∀ xs, ArgsTyped tab [9] xs → runF tab FT D3 live 7 noLoops xs = yes := by
  intro xs h
  cases h with | cons l0 g0 h =>
  obtain ⟨z0_0, rfl⟩ := len_1 l0
  have q0 := g0 0 (by decide)
  have q0 : Typed tab (.str) z0_0 := q0
  obtain ⟨y0, rfl⟩ := typed_str q0
  cases h
  refine (laws_FnExactRunDecode_e y0).trans ?_
  rw [Tr.run_eq, laws_FnExactRunDecode_p y0 q0]
  rfl
end Go.Proofs.Ytmaaolemlobjeaa.V
