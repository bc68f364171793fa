/-
  Whole numbers as floats of 64 bits: what they are read as, compared, negated and added a nought to; conditions: at most 2^40 in size.
-/
import GoSem.Core.Float
import GoSem.Op.Unary
namespace Go.Proofs.Ytiakpmagbnccmaa.Fl
open Ieee
/-- The bits of a whole number as a float64. -/
def F (a : Int) : Nat := Ieee.double.write (.number (a < 0) a.natAbs 0)
theorem d_least : Ieee.double.leastPlace = -1074 := by decide
theorem d_frac : Ieee.double.fractionBits = 52 := rfl
theorem d_bin : Ieee.double.binade = 4503599627370496 := by decide
theorem d_inf : Ieee.double.infRung = 9218868437227405312 := by decide
theorem d_sign : Ieee.double.signWeight = 9223372036854775808 := by decide
theorem cut_exact (neg : Bool) (m d : Nat) : Toward.even.cut neg (m * 2 ^ d) d = m := by
  unfold Toward.cut
  by_cases hm : m = 0
  · subst hm; simp
  · have hlog : d ≤ (m * 2 ^ d).log2 := by
      have : 2 ^ d ≤ m * 2 ^ d := Nat.le_mul_of_pos_left _ (by omega)
      exact (Nat.le_log2 (by have := Nat.two_pow_pos d; intro h; rcases Nat.mul_eq_zero.1 h with h | h <;> omega)).2 this
    have hmin : min d ((m * 2 ^ d).log2 + 2) = d := by omega
    rw [hmin, Nat.one_shiftLeft]
    have hp := Nat.two_pow_pos d
    have e1 : m * 2 ^ d / 2 ^ d = m := Nat.mul_div_cancel _ hp
    have e2 : m * 2 ^ d % 2 ^ d = 0 := Nat.mul_mod_left _ _
    simp only [e1, e2]
    simp
theorem log2_bd {m : Nat} (h0 : m ≠ 0) (h : m < 2 ^ 53) : m.log2 ≤ 52 := by
  have := (Nat.log2_lt h0).2 h
  omega
theorem kept_bd {m : Nat} (h0 : m ≠ 0) (h : m < 2 ^ 53) : 4503599627370496 ≤ m * 2 ^ (52 - m.log2) ∧ m * 2 ^ (52 - m.log2) < 9007199254740992 := by
  have hl := log2_bd h0 h
  have h1 := Nat.log2_self_le h0
  have h2 := Nat.lt_log2_self (n := m)
  have e1 : 2 ^ m.log2 * 2 ^ (52 - m.log2) = 4503599627370496 := by rw [← Nat.pow_add, show m.log2 + (52 - m.log2) = 52 from by omega]
  have e2 : 2 ^ (m.log2 + 1) * 2 ^ (52 - m.log2) = 9007199254740992 := by rw [← Nat.pow_add, show m.log2 + 1 + (52 - m.log2) = 53 from by omega]
  have hp := Nat.two_pow_pos (52 - m.log2)
  constructor
  · rw [← e1]; exact Nat.mul_le_mul_right _ h1
  · rw [← e2]; exact Nat.mul_lt_mul_of_pos_right h2 hp
/-- The rung of a whole number that is not nought. -/
def rung (m : Nat) : Nat := (m.log2 + 1022) * 4503599627370496 + m * 2 ^ (52 - m.log2)
theorem nearest_up (neg : Bool) (m d : Nat) (h0 : m ≠ 0) (h : m < 2 ^ 53) : Ieee.double.nearest neg (m * 2 ^ d) (-(d : Int)) = Ieee.double.word neg (rung m) := by
  have hl := log2_bd h0 h
  have hk := kept_bd h0 h
  have hne : m * 2 ^ d ≠ 0 := by have := Nat.two_pow_pos d; intro h; rcases Nat.mul_eq_zero.1 h with h | h <;> omega
  have hlog : (m * 2 ^ d).log2 = m.log2 + d := by
    rw [Nat.log2_eq_iff hne]
    have h1 := Nat.log2_self_le h0
    have h2 := Nat.lt_log2_self (n := m)
    have hp := Nat.two_pow_pos d
    rw [Nat.pow_add, show m.log2 + d + 1 = (m.log2 + 1) + d from by omega, Nat.pow_add]
    exact ⟨Nat.mul_le_mul_right _ h1, Nat.mul_lt_mul_of_pos_right h2 hp⟩
  unfold Format.nearest
  rw [if_neg hne, d_least, d_frac, d_bin, d_inf, hlog]
  have hlast : max (-(d : Int) + ((m.log2 + d : Nat) : Int) - ((52 : Nat) : Int)) (-1074) = (m.log2 : Int) - 52 := by omega
  simp only [hlast]
  have e1 : ((m.log2 : Int) - 52 - -1074).toNat = m.log2 + 1022 := by omega
  rw [e1]
  have hcut : Toward.even.cut neg ((m * 2 ^ d) <<< (-(d : Int) - ((m.log2 : Int) - 52)).toNat) ((m.log2 : Int) - 52 - -(d : Int)).toNat = m * 2 ^ (52 - m.log2) := by
    by_cases c : m.log2 + d ≤ 52
    · rw [show ((m.log2 : Int) - 52 - -(d : Int)).toNat = 0 from by omega, show (-(d : Int) - ((m.log2 : Int) - 52)).toNat = 52 - m.log2 - d from by omega, Nat.shiftLeft_eq]
      have := cut_exact neg (m * 2 ^ d * 2 ^ (52 - m.log2 - d)) 0
      rw [Nat.pow_zero, Nat.mul_one] at this
      rw [this, Nat.mul_assoc, ← Nat.pow_add, show d + (52 - m.log2 - d) = 52 - m.log2 from by omega]
    · rw [show (-(d : Int) - ((m.log2 : Int) - 52)).toNat = 0 from by omega, show ((m.log2 : Int) - 52 - -(d : Int)).toNat = m.log2 + d - 52 from by omega, Nat.shiftLeft_zero]
      have := cut_exact neg (m * 2 ^ (52 - m.log2)) (m.log2 + d - 52)
      rw [Nat.mul_assoc, ← Nat.pow_add, show 52 - m.log2 + (m.log2 + d - 52) = d from by omega] at this
      exact this
  rw [hcut]
  congr 1
  unfold rung
  omega
theorem rung_bd {m : Nat} (h0 : m ≠ 0) (h : m < 2 ^ 53) : 4503599627370496 ≤ rung m ∧ rung m < 9218868437227405312 := by
  have hl := log2_bd h0 h
  have hk := kept_bd h0 h
  unfold rung; omega
theorem F_ne {a : Int} (h0 : a ≠ 0) (h : a.natAbs < 2 ^ 53) : F a = Ieee.double.word (a < 0) (rung a.natAbs) := by
  have := nearest_up (decide (a < 0)) a.natAbs 0 (by omega) h
  rw [Nat.pow_zero, Nat.mul_one] at this
  exact this
theorem F_zero : F 0 = 0 := by decide
theorem num_congr {s t : Bool} {m n : Nat} {i j : Int} (h1 : s = t) (h2 : m = n) (h3 : i = j) : Datum.number s m i = .number t n j := by rw [h1, h2, h3]
theorem read_word (neg : Bool) (m : Nat) (h0 : m ≠ 0) (h : m < 2 ^ 53) : Ieee.double.read (Ieee.double.word neg (rung m)) = .number neg (m * 2 ^ (52 - m.log2)) ((m.log2 : Int) - 52) := by
  have hr := rung_bd h0 h
  have hk := kept_bd h0 h
  have hl := log2_bd h0 h
  unfold Format.read Format.word
  rw [d_sign, d_bin, d_inf, d_least]
  generalize hR : rung m = R at hr
  have e1 : (if neg = true then 9223372036854775808 + R else R) / 9223372036854775808 % 2 = if neg = true then 1 else 0 := by split <;> omega
  have e2 : (if neg = true then 9223372036854775808 + R else R) % 9223372036854775808 = R := by split <;> omega
  rw [e1, e2]
  show (if R < 4503599627370496 then _ else _) = _
  rw [if_neg (by omega), if_pos (by omega)]
  have e3 : R / 4503599627370496 = m.log2 + 1023 := by rw [← hR]; unfold rung; omega
  have e4 : 4503599627370496 + R % 4503599627370496 = m * 2 ^ (52 - m.log2) := by rw [← hR]; unfold rung; omega
  have e5 : (-1074 : Int) + ((R / 4503599627370496 - 1 : Nat) : Int) = (m.log2 : Int) - 52 := by rw [e3]; omega
  have e6 : ((if neg = true then 1 else 0) == 1) = neg := by cases neg <;> rfl
  exact num_congr e6 e4 e5
theorem read_zero (neg : Bool) : Ieee.double.read (Ieee.double.word neg 0) = .number neg 0 (-1074) := by cases neg <;> decide
/-- A great power of 2, under a name: the least place. -/
def pow2 (n : Nat) : Nat := 2 ^ n
theorem pow2_pos (n : Nat) : 0 < pow2 n := Nat.two_pow_pos n
def P : Nat := pow2 1074
theorem P_pos : 0 < P := pow2_pos 1074
theorem signed_eq (neg : Bool) (m : Nat) (hl : m.log2 ≤ 52) : signed neg (m * 2 ^ (52 - m.log2)) (m.log2 + 1022) = (if neg then -(m : Int) else m) * (P : Int) := by
  have e : m * 2 ^ (52 - m.log2) * 2 ^ (m.log2 + 1022) = m * P := by
    rw [Nat.mul_assoc, ← Nat.pow_add]
    show m * pow2 (52 - m.log2 + (m.log2 + 1022)) = m * pow2 1074
    rw [show 52 - m.log2 + (m.log2 + 1022) = 1074 from by omega]
  unfold signed
  rw [Nat.shiftLeft_eq, e]
  generalize P = p
  split <;> simp [Int.neg_mul]
theorem F_read (a : Int) (h : a.natAbs < 2 ^ 53) : ∃ (m : Nat) (p : Int), Ieee.double.read (F a) = .number (a < 0) m p ∧ -1074 ≤ p ∧ signed (a < 0) m (p - -1074).toNat = a * (P : Int) := by
  by_cases h0 : a = 0
  · subst h0
    refine ⟨0, -1074, ?_, by omega, ?_⟩
    · rw [F_zero]; decide
    · simp [signed]
  · rw [F_ne h0 h, read_word _ _ (by omega) h]
    have hl := log2_bd (m := a.natAbs) (by omega) h
    refine ⟨_, _, rfl, by omega, ?_⟩
    rw [show ((a.natAbs.log2 : Int) - 52 - -1074).toNat = a.natAbs.log2 + 1022 from by omega, signed_eq _ _ hl]
    congr 1
    by_cases c : a < 0
    · rw [decide_eq_true c, if_pos rfl]; omega
    · rw [decide_eq_false c]; simp; omega
theorem signed_scale (s : Bool) (m i j : Nat) : signed s m (i + j) = signed s m i * ((pow2 j : Nat) : Int) := by
  unfold signed pow2
  rw [Nat.shiftLeft_eq, Nat.shiftLeft_eq, Nat.pow_add, ← Nat.mul_assoc]
  split <;> simp [Int.neg_mul]
theorem compare_scale (a b k : Int) (hk : 0 < k) : compare (a * k) (b * k) = compare a b := by
  have h1 : a * k < b * k ↔ a < b := ⟨fun h => Int.lt_of_mul_lt_mul_right h (Int.le_of_lt hk), fun h => Int.mul_lt_mul_of_pos_right h hk⟩
  have h2 : a * k = b * k ↔ a = b := ⟨fun h => Int.eq_of_mul_eq_mul_right (by omega) h, fun h => by rw [h]⟩
  simp only [compare, compareOfLessAndEq]
  by_cases c1 : a < b
  · rw [if_pos (h1.2 c1), if_pos c1]
  · rw [if_neg (fun h => c1 (h1.1 h)), if_neg c1]
    by_cases c2 : a = b
    · rw [if_pos (h2.2 c2), if_pos c2]
    · rw [if_neg (fun h => c2 (h2.1 h)), if_neg c2]
/-- How two whole numbers' bits stand to each other. -/
theorem F_order (a b : Int) (ha : a.natAbs < 2 ^ 53) (hb : b.natAbs < 2 ^ 53) : Ieee.double.order (F a) (F b) = some (compare a b) := by
  obtain ⟨m, p, e1, h1, s1⟩ := F_read a ha
  obtain ⟨n, q, e2, h2, s2⟩ := F_read b hb
  unfold Format.order
  rw [e1, e2]
  show some (compare (signed (a < 0) m (p - min p q).toNat) (signed (b < 0) n (q - min p q).toNat)) = _
  congr 1
  have k0 : (0 : Int) < ((pow2 (min p q - -1074).toNat : Nat) : Int) := by have := pow2_pos (min p q - -1074).toNat; omega
  rw [← compare_scale _ _ _ k0, ← signed_scale, ← signed_scale, show (p - min p q).toNat + (min p q - -1074).toNat = (p - -1074).toNat from by omega, show (q - min p q).toNat + (min p q - -1074).toNat = (q - -1074).toNat from by omega, s1, s2, compare_scale _ _ _ (by have := P_pos; omega)]
theorem nearest_pow (neg : Bool) (m d : Nat) (h0 : m ≠ 0) (h : m < 2 ^ 53) : Ieee.double.nearest neg (m * pow2 d) (-(d : Int)) = Ieee.double.word neg (rung m) := nearest_up neg m d h0 h
theorem nearest_P (neg : Bool) (m : Nat) (h0 : m ≠ 0) (h : m < 2 ^ 53) : Ieee.double.nearest neg (m * P) (-1074) = Ieee.double.word neg (rung m) := nearest_pow neg m 1074 h0 h
/-- A nought added: of a whole number itself; of what is below nought, too; of the nought below 0 the plain nought. -/
theorem F_add0 (a : Int) (h : a.natAbs < 2 ^ 53) : Ieee.double.add (F a) 0 = some (F a) := by
  obtain ⟨m, p, e1, h1, s1⟩ := F_read a h
  have e0 : Ieee.double.read 0 = .number false 0 (-1074) := by decide
  unfold Format.add
  rw [e1, e0]
  have hb : min p (-1074) = -1074 := by omega
  simp only [Datum.sum, hb]
  rw [s1]
  have hz : signed false 0 (-1074 - -1074 : Int).toNat = 0 := by decide
  rw [hz, Int.add_zero]
  have hP := P_pos
  by_cases c : a = 0
  · subst c
    rw [Int.zero_mul, F_zero]
    decide
  · have hne : a * (P : Int) ≠ 0 := Int.mul_ne_zero c (by omega)
    rw [if_neg hne, F_ne c h]
    have hs : decide (a * (P : Int) < 0) = decide (a < 0) := by
      have : a * (P : Int) < 0 ↔ a < 0 := by
        have := Int.mul_lt_mul_right (a := (P : Int)) (b := a) (c := 0) (by omega)
        rw [Int.zero_mul] at this
        exact this
      simp only [this]
    have hm : (a * (P : Int)).natAbs = a.natAbs * P := by rw [Int.natAbs_mul, Int.natAbs_natCast]
    rw [hs, hm]
    show some (Ieee.double.nearest (a < 0) (a.natAbs * P) (-1074)) = _
    rw [nearest_P _ _ (by omega) h]
theorem neg_zero : Op.negFloat .f64 (F 0) = 9223372036854775808 := by decide
theorem neg_zero_add : Ieee.double.add 9223372036854775808 0 = some 0 := by decide
theorem xor_sign (r : Nat) (h : r < 9223372036854775808) : r ^^^ 2 ^ 63 = 2 ^ 63 + r := by
  have h1 := Nat.two_pow_add_eq_or_of_lt (i := 63) (b := r) h 1
  rw [Nat.mul_one] at h1
  rw [h1]
  refine Nat.eq_of_testBit_eq fun i => ?_
  rw [Nat.testBit_xor, Nat.testBit_or, Nat.testBit_two_pow]
  by_cases c : 63 = i
  · subst c; rw [Nat.testBit_lt_two_pow h]; simp
  · simp [c]
theorem F_neg {a : Int} (h0 : a ≠ 0) (h : a.natAbs < 2 ^ 53) : Op.negFloat .f64 (F a) = F (-a) := by
  have hr := rung_bd (m := a.natAbs) (by omega) h
  rw [F_ne h0 h, F_ne (by omega) (by rw [Int.natAbs_neg]; exact h), Int.natAbs_neg]
  generalize rung a.natAbs = r at hr
  unfold Op.negFloat Format.word
  rw [d_sign]
  show (if decide (a < 0) = true then 9223372036854775808 + r else r) ^^^ 2 ^ 63 = if decide (-a < 0) = true then 9223372036854775808 + r else r
  by_cases c : a < 0
  · rw [if_pos (decide_eq_true c), if_neg (by simp; omega)]
    have := xor_sign r (by omega)
    rw [show (9223372036854775808 : Nat) + r = r ^^^ 2 ^ 63 from this.symm, Nat.xor_assoc, Nat.xor_self, Nat.xor_zero]
  · rw [if_neg (by simpa using c), if_pos (by simp; omega)]
    exact xor_sign r (by omega)
theorem F_negadd (a : Int) (h : a.natAbs < 2 ^ 53) : Ieee.double.add (Op.negFloat .f64 (F a)) 0 = some (F (-a)) := by
  by_cases c : a = 0
  · subst c; rw [neg_zero, neg_zero_add]; rfl
  · rw [F_neg c h]; exact F_add0 (-a) (by rw [Int.natAbs_neg]; exact h)
end Go.Proofs.Ytiakpmagbnccmaa.Fl
