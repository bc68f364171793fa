/-
  Plain lemmas on words of 64 bits (bits of a word that are got, set and packed), without any program.
-/
import Derived.Laws.Entries
import Derived.RowKit
import Derived.Test.YtijfkpoofpcacaaWMore
namespace Go.Proofs.Ytijfkpoofpcacaa.Core
open Go.RowKit Go.Proofs.YtijfkpoofpcacaaW.PrintWords
theorem wrap_u64 (n : Int) : IntKind.u64.wrap n = n % 18446744073709551616 := by simp [IntKind.wrap, IntKind.bits, IntKind.signed]
theorem wrap_u64_id (n : Int) (h0 : 0 ≤ n) (h1 : n < 18446744073709551616) : IntKind.u64.wrap n = n := by rw [wrap_u64]; omega
theorem wrap64_id (n : Int) (h0 : -9223372036854775808 ≤ n) (h1 : n < 9223372036854775808) : wrap64 n = n := by unfold wrap64; omega
theorem p64 : (2 : Nat) ^ 64 = 18446744073709551616 := rfl
/-- The numbers of words. -/
theorem bits_and (a b : Nat) (ha : a < 2 ^ 64) (hb : b < 2 ^ 64) : bits .and .u64 (a : Int) (b : Int) = ((a &&& b : Nat) : Int) := by
  have h1 : (BitVec.ofInt 64 (a : Int)).toNat = a := by rw [BitVec.ofInt_natCast, BitVec.toNat_ofNat]; exact Nat.mod_eq_of_lt ha
  have h2 : (BitVec.ofInt 64 (b : Int)).toNat = b := by rw [BitVec.ofInt_natCast, BitVec.toNat_ofNat]; exact Nat.mod_eq_of_lt hb
  have h3 : a &&& b < 2 ^ 64 := Nat.and_lt_two_pow _ hb
  show IntKind.u64.wrap ((BitVec.ofInt 64 (a : Int) &&& BitVec.ofInt 64 (b : Int)).toNat : Int) = _
  rw [BitVec.toNat_and, h1, h2, wrap_u64]
  rw [p64] at h3
  omega
theorem bits_or (a b : Nat) (ha : a < 2 ^ 64) (hb : b < 2 ^ 64) : bits .or .u64 (a : Int) (b : Int) = ((a ||| b : Nat) : Int) := by
  have h1 : (BitVec.ofInt 64 (a : Int)).toNat = a := by rw [BitVec.ofInt_natCast, BitVec.toNat_ofNat]; exact Nat.mod_eq_of_lt ha
  have h2 : (BitVec.ofInt 64 (b : Int)).toNat = b := by rw [BitVec.ofInt_natCast, BitVec.toNat_ofNat]; exact Nat.mod_eq_of_lt hb
  have h3 : a ||| b < 2 ^ 64 := Nat.or_lt_two_pow ha hb
  show IntKind.u64.wrap ((BitVec.ofInt 64 (a : Int) ||| BitVec.ofInt 64 (b : Int)).toNat : Int) = _
  rw [BitVec.toNat_or, h1, h2, wrap_u64]
  rw [p64] at h3
  omega
theorem bits_andNot (a b : Nat) (ha : a < 2 ^ 64) (hb : b < 2 ^ 64) : bits .andNot .u64 (a : Int) (b : Int) = ((a &&& (2 ^ 64 - (b + 1)) : Nat) : Int) := by
  have h1 : (BitVec.ofInt 64 (a : Int)).toNat = a := by rw [BitVec.ofInt_natCast, BitVec.toNat_ofNat]; exact Nat.mod_eq_of_lt ha
  have h2 : (BitVec.ofInt 64 (b : Int)).toNat = b := by rw [BitVec.ofInt_natCast, BitVec.toNat_ofNat]; exact Nat.mod_eq_of_lt hb
  have h3 : a &&& (2 ^ 64 - (b + 1)) < 2 ^ 64 := Nat.and_lt_two_pow _ (by omega)
  show IntKind.u64.wrap ((BitVec.ofInt 64 (a : Int) &&& ~~~ BitVec.ofInt 64 (b : Int)).toNat : Int) = _
  rw [BitVec.toNat_and, BitVec.toNat_not, h1, h2, wrap_u64, show 2 ^ 64 - 1 - b = 2 ^ 64 - (b + 1) from by omega]
  rw [p64] at h3 ⊢
  omega
/-- Are there such bits? -/
def okB (at_ n : Int) : Bool := decide (1 ≤ n) && decide (n ≤ 64) && decide (0 ≤ at_) && decide (at_ ≤ 64 - n)
theorem okB_iff {a n : Int} : okB a n = true ↔ 1 ≤ n ∧ n ≤ 64 ∧ 0 ≤ a ∧ a ≤ 64 - n := by simp [okB, and_assoc]
theorem okB_no {a n : Int} : okB a n = false ↔ ¬ (1 ≤ n ∧ n ≤ 64 ∧ 0 ≤ a ∧ a ≤ 64 - n) := by rw [← okB_iff]; simp
def setN (w a n v : Nat) : Nat := 2 ^ a * (2 ^ n * (w / 2 ^ (a + n)) + v % 2 ^ n) + w % 2 ^ a
theorem setN_testBit (w a n v i : Nat) : (setN w a n v).testBit i = if i < a then w.testBit i else if i < a + n then v.testBit (i - a) else w.testBit i := by
  unfold setN
  rw [Nat.testBit_two_pow_mul_add _ (Nat.mod_lt _ (Nat.two_pow_pos a))]
  by_cases h1 : i < a
  · rw [if_pos h1, if_pos h1, Nat.testBit_mod_two_pow]; simp [h1]
  · rw [if_neg h1, if_neg h1, Nat.testBit_two_pow_mul_add _ (Nat.mod_lt _ (Nat.two_pow_pos n))]
    by_cases h2 : i < a + n
    · rw [if_pos (by omega), if_pos h2, Nat.testBit_mod_two_pow]; simp [show i - a < n by omega]
    · rw [if_neg (by omega), if_neg h2, Nat.testBit_div_two_pow]; congr 1; omega
theorem setN_lt (w a n v : Nat) (hw : w < 2 ^ 64) (h : a + n ≤ 64) : setN w a n v < 2 ^ 64 := by
  refine Nat.lt_pow_two_of_testBit _ fun i hi => ?_
  rw [setN_testBit, if_neg (by omega), if_neg (by omega)]
  exact Nat.testBit_lt_two_pow (Nat.lt_of_lt_of_le hw (Nat.pow_le_pow_right (by decide) hi))
def getV (w a n : Int) : Int := if okB a n = true then w / 2 ^ a.toNat % 2 ^ n.toNat else 0
def setV (w a n v : Int) : Int := if okB a n = true then ((setN w.toNat a.toNat n.toNat v.toNat : Nat) : Int) else w
def fitsB (v n : Int) : Bool := decide (0 ≤ n) && (decide (63 < n) || decide (v < 2 ^ n.toNat))
theorem getV_ge (w a n : Int) : 0 ≤ getV w a n := by
  unfold getV; split
  · exact Int.emod_nonneg _ (by have := Int.pow_pos (m := n.toNat) (show (0 : Int) < 2 by decide); omega)
  · exact Int.le_refl 0
theorem pow_le64 (n : Nat) (h : n ≤ 64) : (2 : Int) ^ n ≤ 18446744073709551616 := by
  have h1 := Nat.pow_le_pow_right (show 0 < 2 by decide) h
  rw [p64] at h1
  have h2 : ((2 ^ n : Nat) : Int) = (2 : Int) ^ n := by simp
  omega
theorem getV_lt (w a n : Int) : getV w a n < 18446744073709551616 := by
  unfold getV; split
  · rename_i h
    rw [okB_iff] at h
    have h1 := Int.emod_lt_of_pos (w / 2 ^ a.toNat) (Int.pow_pos (m := n.toNat) (show (0 : Int) < 2 by decide))
    have h2 := pow_le64 n.toNat (by omega)
    omega
  · decide
/-- The bits of a number, one after the other. -/
theorem mod_succ (T i : Nat) : T % 2 ^ (i + 1) = T % 2 ^ i + (if T.testBit i = true then 2 ^ i else 0) := by
  rw [Nat.mod_pow_succ, Nat.testBit_eq_decide_div_mod_eq]
  have : T / 2 ^ i % 2 < 2 := Nat.mod_lt _ (by decide)
  by_cases h : T / 2 ^ i % 2 = 1
  · simp [h]
  · have h0 : T / 2 ^ i % 2 = 0 := by omega
    simp [h0]
theorem wf_u64 {x : Int} (h : (Lit.int .u64 x).wf = true) : 0 ≤ x ∧ x < 18446744073709551616 := by
  simp [Lit.wf, IntKind.min, IntKind.max, IntKind.signed, IntKind.bits] at h
  omega
theorem wf_i64 {x : Int} (h : (Lit.int .i64 x).wf = true) : -9223372036854775808 ≤ x ∧ x < 9223372036854775808 := by
  simp [Lit.wf, IntKind.min, IntKind.max, IntKind.signed, IntKind.bits] at h
  omega
theorem mask_lt (n a : Nat) (h : a + n ≤ 64) : (2 ^ n - 1) * 2 ^ a < 2 ^ 64 := by
  have h1 := Nat.two_pow_pos n
  have h2 : (2 ^ n - 1) * 2 ^ a < 2 ^ n * 2 ^ a := Nat.mul_lt_mul_of_pos_right (by omega) (Nat.two_pow_pos a)
  rw [← Nat.pow_add] at h2
  exact Nat.lt_of_lt_of_le h2 (Nat.pow_le_pow_right (by decide) (by omega))
theorem part_lt (v n a : Nat) (h : a + n ≤ 64) : v % 2 ^ n * 2 ^ a < 2 ^ 64 := by
  have h1 := Nat.mod_lt v (Nat.two_pow_pos n)
  have h2 : v % 2 ^ n * 2 ^ a < 2 ^ n * 2 ^ a := Nat.mul_lt_mul_of_pos_right h1 (Nat.two_pow_pos a)
  rw [← Nat.pow_add] at h2
  exact Nat.lt_of_lt_of_le h2 (Nat.pow_le_pow_right (by decide) (by omega))
theorem set_bits (w a n v : Nat) (hw : w < 2 ^ 64) (h : a + n ≤ 64) : (w &&& (2 ^ 64 - ((2 ^ n - 1) * 2 ^ a + 1))) ||| (v % 2 ^ n * 2 ^ a) = setN w a n v := by
  refine Nat.eq_of_testBit_eq fun i => ?_
  rw [setN_testBit, Nat.testBit_or, Nat.testBit_and, Nat.testBit_two_pow_sub_succ (mask_lt n a h), Nat.mul_comm (2 ^ n - 1), Nat.mul_comm (v % 2 ^ n), Nat.testBit_two_pow_mul, Nat.testBit_two_pow_mul, Nat.testBit_two_pow_sub_one, Nat.testBit_mod_two_pow]
  by_cases h1 : i < a
  · rw [if_pos h1]; simp [show ¬ a ≤ i by omega, show i < 64 by omega]
  · rw [if_neg h1]
    by_cases h2 : i < a + n
    · rw [if_pos h2]; simp [show a ≤ i by omega, show i - a < n by omega]
    · rw [if_neg h2]
      by_cases h3 : i < 64
      · simp [show ¬ i - a < n by omega, h3]
      · rw [Nat.testBit_lt_two_pow (Nat.lt_of_lt_of_le hw (Nat.pow_le_pow_right (by decide) (show 64 ≤ i by omega)))]
        simp [show ¬ i - a < n by omega]
theorem shl_nat (x a : Nat) (r : Nat) (ha : a ≤ 64) (hr : x * 2 ^ a < 2 ^ 64) (e : r = x * 2 ^ a := by rfl) : shl .u64 (x : Int) (a : Int) = (r : Int) := by
  subst e
  unfold shl
  rw [Int.toNat_natCast, show IntKind.bits .u64 = 64 from rfl, Nat.min_eq_left ha]
  rw [p64] at hr
  have e : (x : Int) * 2 ^ a = ((x * 2 ^ a : Nat) : Int) := by simp
  rw [e]
  exact wrap_u64_id _ (by omega) (by omega)
def topV (t s : Int) : Int × Bool := if -1 ≤ s ∧ s < 64 ∧ t < 281474976710656 then (65536 * t + (s + 1), true) else (0, false)
def entryV (t s : Int) : Int × Bool := if -1 ≤ s ∧ s < 64 ∧ t < 4294967296 then (4294967296 * t + (s + 1), true) else (0, false)
def handleB (c e t : Int) : Bool := decide (0 ≤ c) && decide (c < 8) && decide (0 ≤ e) && (decide (e < 16) || decide (e = 255)) && decide (1 ≤ t) && decide (t ≤ 4294967295)
def handleV (c e t : Int) : Int × Bool := if handleB c e t = true then (72057594037927936 * (c + 1) + 281474976710656 * e + t, true) else (0, false)
theorem handleB_iff {c e t : Int} : handleB c e t = true ↔ 0 ≤ c ∧ c < 8 ∧ 0 ≤ e ∧ (e < 16 ∨ e = 255) ∧ 1 ≤ t ∧ t ≤ 4294967295 := by simp [handleB, and_assoc]
theorem handleV_no {c e t : Int} (h : ¬ (0 ≤ c ∧ c < 8 ∧ 0 ≤ e ∧ (e < 16 ∨ e = 255) ∧ 1 ≤ t ∧ t ≤ 4294967295)) : handleV c e t = (0, false) := by
  unfold handleV; rw [if_neg]; rw [handleB_iff]; exact h
def partsV (h : Int) : Int × Int × Int × Bool := if handleB (h / 72057594037927936 - 1) (h / 281474976710656 % 256) (h % 281474976710656) = true then (h / 72057594037927936 - 1, h / 281474976710656 % 256, h % 281474976710656, true) else (0, 0, 0, false)
def movedV (w s : Int) : Int := 65536 * ((w / 65536 + 1) % 281474976710656) + ((if -1 ≤ s ∧ s < 64 then s else -1) + 1)
theorem handleV_yes {c e t : Int} (h : 0 ≤ c ∧ c < 8 ∧ 0 ≤ e ∧ (e < 16 ∨ e = 255) ∧ 1 ≤ t ∧ t ≤ 4294967295) : handleV c e t = (72057594037927936 * (c + 1) + 281474976710656 * e + t, true) := by
  unfold handleV; rw [if_pos (handleB_iff.2 h)]
theorem partsV_yes {h : Int} (c : handleB (h / 72057594037927936 - 1) (h / 281474976710656 % 256) (h % 281474976710656) = true) : partsV h = (h / 72057594037927936 - 1, h / 281474976710656 % 256, h % 281474976710656, true) := by
  unfold partsV; rw [if_pos c]
theorem partsV_no {h : Int} (c : ¬ handleB (h / 72057594037927936 - 1) (h / 281474976710656 % 256) (h % 281474976710656) = true) : partsV h = (0, 0, 0, false) := by
  unfold partsV; rw [if_neg c]
def rightB (S A C H G K : Int) : Bool := decide (1 ≤ S ∧ S ≤ 64 ∧ 0 ≤ A ∧ A ≤ 8 ∧ 1 ≤ C ∧ C ≤ 8 ∧ 1 ≤ H ∧ H ≤ 16 ∧ 1 ≤ G ∧ G ≤ 1048576 ∧ 0 ≤ K ∧ K ≤ 64)
theorem right_iff {S A C H G K : Int} : rightB S A C H G K = true ↔ (1 ≤ S ∧ S ≤ 64 ∧ 0 ≤ A ∧ A ≤ 8 ∧ 1 ≤ C ∧ C ≤ 8 ∧ 1 ≤ H ∧ H ≤ 16 ∧ 1 ≤ G ∧ G ≤ 1048576 ∧ 0 ≤ K ∧ K ≤ 64) := by simp [rightB]
theorem mul_le2 {a b m n : Int} (a0 : 0 ≤ a) (am : a ≤ m) (b0 : 0 ≤ b) (bn : b ≤ n) : 0 ≤ a * b ∧ a * b ≤ m * n :=
  ⟨Int.mul_nonneg a0 b0, Int.mul_le_mul am bn b0 (by omega)⟩
def slotsV (C H : Int) : Int := 4 + C * (1 + H + 2)
def roomV (A : Int) : Int := 2 + (if A < 3 then 3 else A)
def sizeV (S A C H : Int) : Int := slotsV C H + S * roomV A
theorem roomV_bd {A : Int} (h0 : 0 ≤ A) (h1 : A ≤ 8) : 5 ≤ roomV A ∧ roomV A ≤ 10 := by unfold roomV; split <;> omega
theorem slotsV_bd {C H : Int} (h0 : 0 ≤ C) (h1 : C ≤ 8) (h2 : 0 ≤ H) (h3 : H ≤ 16) : 4 ≤ slotsV C H ∧ slotsV C H ≤ 156 := by
  unfold slotsV
  have := mul_le2 (a := C) (b := 1 + H + 2) (m := 8) (n := 19) (by omega) (by omega) (by omega) (by omega)
  omega
theorem toList_loop (s : ByteArray) (d : Nat) : ∀ (i : Nat) (r : List UInt8), i + d = s.size → ByteArray.toList.loop s i r = r.reverse ++ s.data.toList.drop i := by
  induction d with
  | zero =>
    intro i r h
    rw [ByteArray.toList.loop, if_neg (by omega), List.drop_eq_nil_of_le (by show s.data.size ≤ i; have : s.data.size = s.size := rfl; omega)]; simp
  | succ d ih =>
    intro i r h
    have hlt : i < s.data.toList.length := by show i < s.data.size; have : s.data.size = s.size := rfl; omega
    rw [ByteArray.toList.loop, if_pos (by omega), ih (i + 1) _ (by omega), List.drop_eq_getElem_cons hlt]
    have : s.get! i = s.data.toList[i] := by
      show s.data[i]! = _
      rw [getElem!_pos s.data i (by simpa using hlt)]; simp
    rw [this]; simp
theorem toList_data (s : ByteArray) : s.toList = s.data.toList := by
  have := toList_loop s s.size 0 [] (by omega)
  simpa [ByteArray.toList] using this
end Go.Proofs.Ytijfkpoofpcacaa.Core
