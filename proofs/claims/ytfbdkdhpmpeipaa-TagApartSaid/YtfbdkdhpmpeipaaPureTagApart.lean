/-
  Proved here: the law TagApart holds of the functions that the print tells. (the pure statement over the printed functions; no condition beyond the numbers' kinds)
-/
import Derived.Test.YtfbdkdhpmpeipaaPTagApartx2
import Derived.Test.YtfbdkdhpmpeipaaCore
namespace Go.Proofs.Ytfbdkdhpmpeipaa.Pure
open Go.RowKit Go.Proofs.Ytfbdkdhpmpeipaa.PTagApart Go.Proofs.YtfbdkdhpmpeipaaW.PrintWords Go.Proofs.YtfbdkdhpmpeipaaW.PrintLast Go.Proofs.Ytfbdkdhpmpeipaa.Core

theorem p_some (a n : Int) : word_some.f a n = some (okB a n) := by
  unfold word_some.f okB
  by_cases h1 : n ≥ 1
  · by_cases h2 : n ≤ 64
    · by_cases h3 : a ≥ 0
      · rw [if_pos h1, if_pos h2, if_pos h3, wrap64_id _ (by omega) (by omega)]
        simp [show 1 ≤ n from h1, h2, show 0 ≤ a from h3]
      · rw [if_pos h1, if_pos h2, if_neg h3]; simp [show ¬ 0 ≤ a from h3]
    · rw [if_pos h1, if_neg h2]; simp [h2]
  · rw [if_neg h1]; simp [show ¬ 1 ≤ n from h1]
theorem p_mask (n : Nat) (h : n ≤ 64) : word_mask.f (n : Int) = some ((2 ^ n - 1 : Nat) : Int) := by
  unfold word_mask.f shl
  rw [if_pos (by omega), Int.toNat_natCast, show IntKind.bits .u64 = 64 from rfl, Nat.min_eq_left h]
  have h1 := Nat.pow_le_pow_right (show 0 < 2 by decide) h
  rw [p64] at h1
  have h2 : ((2 ^ n : Nat) : Int) = (2 : Int) ^ n := by simp
  have h3 := Nat.two_pow_pos n
  rw [wrap_u64, wrap_u64, ← h2]
  congr 1
  omega
theorem p_Get (w a n : Int) (h0 : 0 ≤ w) (h1 : w < 18446744073709551616) : word_Get.f w a n = some (getV w a n) := by
  unfold word_Get.f getV
  rw [p_some, Option.bind_some]
  by_cases h : okB a n = true
  · rw [if_pos h, if_pos h]
    rw [okB_iff] at h
    obtain ⟨w, rfl⟩ := Int.eq_ofNat_of_zero_le h0
    obtain ⟨a, rfl⟩ := Int.eq_ofNat_of_zero_le h.2.2.1
    obtain ⟨n, rfl⟩ := Int.eq_ofNat_of_zero_le (show 0 ≤ n by omega)
    rw [if_pos (by omega), p_mask n (by omega), Option.bind_some]
    unfold shr
    rw [Int.toNat_natCast, Int.toNat_natCast, show IntKind.bits .u64 = 64 from rfl, Nat.min_eq_left (by omega)]
    have e1 : (w : Int) / 2 ^ a = ((w / 2 ^ a : Nat) : Int) := by simp
    have e2 : (w : Int) / 2 ^ a % 2 ^ n = ((w / 2 ^ a % 2 ^ n : Nat) : Int) := by simp
    have h2 := Nat.pow_le_pow_right (show 0 < 2 by decide) (show n ≤ 64 by omega)
    have h3 : w / 2 ^ a ≤ w := Nat.div_le_self _ _
    have h4 := Nat.two_pow_pos n
    rw [p64] at h2
    rw [e2, e1, bits_and _ _ (by rw [p64]; omega) (by rw [p64]; omega), Nat.and_two_pow_sub_one_eq_mod]
  · rw [if_neg h, if_neg h]
theorem p_TopParts (w : Int) (h0 : 0 ≤ w) (h1 : w < 18446744073709551616) : tag_TopParts.f w = some (w / 65536, w % 65536 - 1) := by
  unfold tag_TopParts.f
  rw [p_Get w 16 48 h0 h1, Option.bind_some, p_Get w 0 16 h0 h1, Option.bind_some]
  simp [getV, okB]
  rw [wrap64_id (w % 65536) (by omega) (by omega), wrap64_id _ (by omega) (by omega)]
  exact ⟨by omega, rfl⟩
theorem p_Fits (v n : Int) (h0 : 0 ≤ v) (h1 : v < 18446744073709551616) : word_Fits.f v n = some (fitsB v n) := by
  unfold word_Fits.f fitsB
  by_cases ha : n ≥ 0
  · by_cases hb : n > 63
    · rw [if_pos ha, if_pos hb]; simp [show 0 ≤ n from ha, show 63 < n from hb]
    · rw [if_pos ha, if_neg hb, if_pos ha]
      unfold shr
      rw [show IntKind.bits .u64 = 64 from rfl, Nat.min_eq_left (by omega)]
      obtain ⟨n, rfl⟩ := Int.eq_ofNat_of_zero_le (show 0 ≤ n from ha)
      obtain ⟨v, rfl⟩ := Int.eq_ofNat_of_zero_le h0
      rw [Int.toNat_natCast]
      congr 1
      have e1 : (v : Int) / 2 ^ n = ((v / 2 ^ n : Nat) : Int) := by simp
      have e2 : (2 : Int) ^ n = ((2 ^ n : Nat) : Int) := by simp
      rw [e1, e2, Bool.eq_iff_iff]
      have h3 := Nat.div_eq_zero_iff (a := v) (b := 2 ^ n)
      have h4 := Nat.two_pow_pos n
      simp only [beq_iff_eq, Bool.and_eq_true, Bool.or_eq_true, decide_eq_true_eq]
      constructor
      · intro h
        have := h3.1 (by omega)
        omega
      · intro h
        have := h3.2 (by omega)
        omega
  · rw [if_neg ha]; simp [show ¬ 0 ≤ n from ha]
def packF : List S36 → Int → Int → Int × Bool
  | [], w, _ => (w, true)
  | b :: l, w, a => if okB a b.f0 = true ∧ fitsB b.f1 b.f0 = true then packF l (w + b.f1 * 2 ^ a.toNat) (a + b.f0) else (0, false)
theorem pack_step {w a v n : Int} (h : okB a n = true) (hv : fitsB v n = true) (hw0 : 0 ≤ w) (hw : w < 2 ^ a.toNat) (hv0 : 0 ≤ v) (hv1 : v < 18446744073709551616) :
    Go.bits .or .u64 w (shl .u64 v a) = w + v * 2 ^ a.toNat ∧ w + v * 2 ^ a.toNat < 2 ^ (a + n).toNat ∧ 0 ≤ w + v * 2 ^ a.toNat := by
  rw [okB_iff] at h
  obtain ⟨w, rfl⟩ := Int.eq_ofNat_of_zero_le hw0
  obtain ⟨v, rfl⟩ := Int.eq_ofNat_of_zero_le hv0
  obtain ⟨a, rfl⟩ := Int.eq_ofNat_of_zero_le h.2.2.1
  obtain ⟨n, rfl⟩ := Int.eq_ofNat_of_zero_le (show 0 ≤ n by omega)
  rw [show ((a : Int) + (n : Int)).toNat = a + n from by omega]
  simp only [Int.toNat_natCast] at hw ⊢
  have hv2 : v < 2 ^ n := by
    simp only [fitsB, Bool.and_eq_true, Bool.or_eq_true, decide_eq_true_eq, Int.toNat_natCast] at hv
    have e : ((2 ^ n : Nat) : Int) = (2 : Int) ^ n := by simp
    rcases hv.2 with h1 | h1
    · rw [show n = 64 from by omega, p64]; omega
    · omega
  have hw2 : w < 2 ^ a := by
    have e : ((2 ^ a : Nat) : Int) = (2 : Int) ^ a := by simp
    omega
  have hsum : w + v * 2 ^ a < 2 ^ (a + n) := by
    have h3 : (v + 1) * 2 ^ a ≤ 2 ^ n * 2 ^ a := Nat.mul_le_mul_right _ hv2
    rw [Nat.add_mul, Nat.one_mul, ← Nat.pow_add, Nat.add_comm n a] at h3
    omega
  have hle := Nat.pow_le_pow_right (show 0 < 2 by decide) (show a + n ≤ 64 by omega)
  have e3 : (w : Int) + (v : Int) * 2 ^ a = ((w + v * 2 ^ a : Nat) : Int) := by simp
  rw [p64] at hle
  rw [shl_nat v a (v * 2 ^ a) (by omega) (by rw [p64]; omega), bits_or _ _ (by rw [p64]; omega) (by rw [p64]; omega), e3]
  refine ⟨?_, ?_, by omega⟩
  · have := Nat.two_pow_add_eq_or_of_lt hw2 v
    rw [Nat.or_comm, Nat.mul_comm v, ← this, Nat.add_comm]
  · have e4 : ((2 ^ (a + n) : Nat) : Int) = (2 : Int) ^ (a + n) := by simp
    omega
theorem p_Pack_l (l : List S36) : ∀ (pre : List S36) (k : Nat) (w a : Int), l.length < k → (pre ++ l).length < 2 ^ 60 → 0 ≤ w → w < 2 ^ a.toNat → 0 ≤ a → a ≤ 64 → (∀ b ∈ l, 0 ≤ b.f1 ∧ b.f1 < 18446744073709551616) →
    word_Pack.l0 k w a (pre ++ l) ((pre ++ l).length : Int) (pre.length : Int) = some (packF l w a) := by
  induction l with
  | nil =>
    intro pre k w a hk hl h0 h1 h2 h3 hb
    obtain ⟨k, rfl⟩ : ∃ m, k = m + 1 := ⟨k - 1, by omega⟩
    simp only [word_Pack.l0]
    rw [if_neg (by simp)]; rfl
  | cons b l ih =>
    intro pre k w a hk hl h0 h1 h2 h3 hb
    obtain ⟨k, rfl⟩ : ∃ m, k = m + 1 := ⟨k - 1, by omega⟩
    have hlen : (pre ++ b :: l).length = pre.length + 1 + l.length := by simp; omega
    have hrd : rd_T36 (pre ++ b :: l) (pre.length : Int) = b := by simp [rd_T36]
    have hb1 := hb b (by simp)
    simp only [word_Pack.l0]
    rw [if_pos (by omega), if_pos (by omega), if_pos (by omega), hrd, p_some, Option.bind_some]
    simp only [packF]
    by_cases c1 : okB a b.f0 = true
    · rw [if_pos c1, p_Fits b.f1 b.f0 hb1.1 hb1.2, Option.bind_some]
      by_cases c2 : fitsB b.f1 b.f0 = true
      · obtain ⟨e1, e2, e3⟩ := pack_step c1 c2 h0 h1 hb1.1 hb1.2
        have c1' := okB_iff.1 c1
        rw [if_pos c2, if_pos h2, if_pos ⟨c1, c2⟩, e1, wrap64_id _ (by omega) (by omega), wrap64_id _ (by omega) (by omega)]
        have := ih (pre ++ [b]) k (w + b.f1 * 2 ^ a.toNat) (a + b.f0) (by simpa using hk) (by simpa using hl) e3 e2 (by omega) (by omega) (fun x hx => hb x (by simp [hx]))
        simp only [List.append_assoc, List.cons_append, List.nil_append, List.length_append, List.length_cons, List.length_nil] at this
        rw [← this]
        simp
      · rw [if_neg c2, if_neg (fun h => c2 h.2)]
    · rw [if_neg c1, if_neg (fun h => c1 h.1)]
theorem p_Pack (k : Nat) (l : List S36) (hk : l.length < k) (hl : l.length < 2 ^ 60) (hb : ∀ b ∈ l, 0 ≤ b.f1 ∧ b.f1 < 18446744073709551616) : word_Pack.f k l = some (packF l 0 0) :=
  p_Pack_l l [] k 0 0 hk hl (by decide) (by decide) (by decide) (by decide) hb
theorem packF_yes {n v : Int} {l : List S36} {w a : Int} (h1 : okB a n = true) (h2 : fitsB v n = true) : packF (⟨n, v⟩ :: l) w a = packF l (w + v * 2 ^ a.toNat) (a + n) := by
  simp only [packF]; rw [if_pos ⟨h1, h2⟩]
theorem packF_no {n v : Int} {l : List S36} {w a : Int} (h2 : fitsB v n = false) : packF (⟨n, v⟩ :: l) w a = (0, false) := by
  simp only [packF]; rw [if_neg (by rw [h2]; simp)]
theorem p_slots (s : Int) : tag_slots.f s = some (decide (-1 ≤ s ∧ s < 64)) := by
  unfold tag_slots.f
  by_cases h : s ≥ -1
  · rw [if_pos h]; simp [show -1 ≤ s from h]
  · rw [if_neg h]; simp [show ¬ -1 ≤ s from h]
theorem p_tagged16 (k : Nat) (t s : Int) (hk : 3 ≤ k) (h0 : 0 ≤ t) (h1 : t < 18446744073709551616) : tag_tagged.f k t s 16 = some (topV t s) := by
  unfold tag_tagged.f topV
  rw [p_slots, Option.bind_some]
  by_cases h : -1 ≤ s ∧ s < 64
  · rw [if_pos (by simpa using h), wrap64_id (s + 1) (by omega) (by omega), wrap_u64_id _ (by omega) (by omega), p_Pack k _ (by simp; omega) (by simp) (by
      intro b hb
      simp at hb
      rcases hb with rfl | rfl <;> simp <;> omega)]
    rw [wrap64_id (64 - _) (by decide) (by decide), packF_yes (by decide) (by simp [fitsB]; omega)]
    by_cases h2 : t < 281474976710656
    · rw [packF_yes (by decide) (by simp [fitsB]; omega), if_pos (by omega)]
      simp [packF]; omega
    · rw [packF_no (by simp [fitsB]; omega), if_neg (by omega)]; rfl
  · rw [if_neg (by simpa using h), if_neg (by omega)]
theorem p_tagged32 (k : Nat) (t s : Int) (hk : 3 ≤ k) (h0 : 0 ≤ t) (h1 : t < 18446744073709551616) : tag_tagged.f k t s 32 = some (entryV t s) := by
  unfold tag_tagged.f entryV
  rw [p_slots, Option.bind_some]
  by_cases h : -1 ≤ s ∧ s < 64
  · rw [if_pos (by simpa using h), wrap64_id (s + 1) (by omega) (by omega), wrap_u64_id _ (by omega) (by omega), p_Pack k _ (by simp; omega) (by simp) (by
      intro b hb
      simp at hb
      rcases hb with rfl | rfl <;> simp <;> omega)]
    rw [wrap64_id (64 - _) (by decide) (by decide), packF_yes (by decide) (by simp [fitsB]; omega)]
    by_cases h2 : t < 4294967296
    · rw [packF_yes (by decide) (by simp [fitsB]; omega), if_pos (by omega)]
      simp [packF]; omega
    · rw [packF_no (by simp [fitsB]; omega), if_neg (by omega)]; rfl
  · rw [if_neg (by simpa using h), if_neg (by omega)]
theorem p_Top (k : Nat) (t s : Int) (hk : 3 ≤ k) (h0 : 0 ≤ t) (h1 : t < 18446744073709551616) : tag_Top.f k t s = some (topV t s) := by
  unfold tag_Top.f
  rw [p_tagged16 k t s hk h0 h1]; rfl
theorem and48 (x : Int) (h0 : 0 ≤ x) (h1 : x < 18446744073709551616) : Go.bits .and .u64 x 281474976710655 = x % 281474976710656 := by
  obtain ⟨x, rfl⟩ := Int.eq_ofNat_of_zero_le h0
  have := bits_and x 281474976710655 (by rw [p64]; omega) (by rw [p64]; omega)
  rw [show (281474976710655 : Nat) = 2 ^ 48 - 1 from rfl, Nat.and_two_pow_sub_one_eq_mod] at this
  exact this
theorem p_Moved (k : Nat) (w s : Int) (hk : 3 ≤ k) (h0 : 0 ≤ w) (h1 : w < 18446744073709551616) : tag_Moved.f k w s = some (movedV w s) := by
  unfold tag_Moved.f movedV
  rw [p_slots, Option.bind_some, p_TopParts w h0 h1]
  simp only [Option.bind_some]
  rw [wrap_u64_id _ (by omega) (by omega), and48 _ (by omega) (by omega), p_Top k _ _ hk (by omega) (by omega), p_Top k _ _ hk (by omega) (by omega)]
  simp only [Option.bind_some]
  unfold topV
  by_cases h : -1 ≤ s ∧ s < 64
  · rw [if_pos (by simpa using h), if_pos h, if_pos (by omega)]
  · rw [if_neg (by simpa using h), if_neg h, if_pos (by omega)]
theorem p_Handle_yes (k : Nat) (c e t : Int) (hk : 5 ≤ k) (h : 0 ≤ c ∧ c < 8 ∧ 0 ≤ e ∧ (e < 16 ∨ e = 255) ∧ 1 ≤ t ∧ t ≤ 4294967295) :
    (word_Pack.f k (([(⟨32, t⟩ : S36), (⟨16, 0⟩ : S36), (⟨8, IntKind.u64.wrap (e)⟩ : S36), (⟨8, IntKind.u64.wrap (wrap64 (c + 1))⟩ : S36)] : List (S36)))) = some (handleV c e t) := by
  rw [wrap64_id (c + 1) (by omega) (by omega), wrap_u64_id _ (by omega) (by omega), wrap_u64_id _ (by omega) (by omega), p_Pack k _ (by simp; omega) (by simp) (by
      intro b hb
      simp at hb
      rcases hb with rfl | rfl | rfl | rfl <;> simp <;> omega)]
  unfold handleV
  rw [if_pos (handleB_iff.2 h)]
  rw [packF_yes (by decide) (by simp [fitsB]; omega), packF_yes (by decide) (by decide), packF_yes (by decide) (by simp [fitsB]; omega), packF_yes (by decide) (by simp [fitsB]; omega)]
  simp [packF]; omega
theorem p_Handle (k : Nat) (c e t : Int) (hk : 5 ≤ k) : tag_Handle.f k c e t = some (handleV c e t) := by
  unfold tag_Handle.f
  by_cases h1 : c < 0
  · rw [if_pos h1, handleV_no (by omega)]
  rw [if_neg h1]
  by_cases h2 : c ≥ 8
  · rw [if_pos h2, handleV_no (by omega)]
  rw [if_neg h2]
  by_cases h3 : e < 0
  · rw [if_pos h3, handleV_no (by omega)]
  rw [if_neg h3]
  by_cases h4 : e ≥ 16
  · rw [if_pos h4]
    by_cases h5 : e = 255
    · rw [if_pos h5]
      by_cases h6 : t < 1
      · rw [if_pos h6, handleV_no (by omega)]
      rw [if_neg h6]
      by_cases h7 : t > 4294967295
      · rw [if_pos h7, handleV_no (by omega)]
      rw [if_neg h7, p_Handle_yes k c e t hk (by omega)]; rfl
    · rw [if_neg h5, handleV_no (by omega)]
  · rw [if_neg h4]
    by_cases h6 : t < 1
    · rw [if_pos h6, handleV_no (by omega)]
    rw [if_neg h6]
    by_cases h7 : t > 4294967295
    · rw [if_pos h7, handleV_no (by omega)]
    rw [if_neg h7, p_Handle_yes k c e t hk (by omega)]; rfl
theorem p_awake5 (k : Nat) (hk : 5 ≤ k) : withylaw05_awake.f k = some true := at_rounds withylaw05_awake.mono hk (by decide +kernel : withylaw05_awake.f 5 = some true)
def unpF (w : Int) : List Int → Int → List Int → List Int × Bool
  | [], _, acc => (acc, true)
  | n :: l, a, acc => if okB a n = true then unpF w l (a + n) (acc ++ [getV w a n]) else ([], false)
theorem p_Unpack_l (w : Int) (h0 : 0 ≤ w) (h1 : w < 18446744073709551616) (l : List Int) : ∀ (pre : List Int) (k : Nat) (a : Int) (acc : List Int), l.length < k → (pre ++ l).length < 17592186044416 → acc.length ≤ pre.length →
    word_Unpack.l0 k w acc a (pre ++ l) ((pre ++ l).length : Int) (pre.length : Int) = some (unpF w l a acc) := by
  induction l with
  | nil =>
    intro pre k a acc hk hl ha
    obtain ⟨k, rfl⟩ : ∃ m, k = m + 1 := ⟨k - 1, by omega⟩
    simp only [word_Unpack.l0]
    rw [if_neg (by simp)]; rfl
  | cons n l ih =>
    intro pre k a acc hk hl ha
    obtain ⟨k, rfl⟩ : ∃ m, k = m + 1 := ⟨k - 1, by omega⟩
    have hlen : (pre ++ n :: l).length = pre.length + 1 + l.length := by simp; omega
    have hrd : rd (pre ++ n :: l) (pre.length : Int) = n := by simp [rd]
    simp only [word_Unpack.l0]
    rw [if_pos (by omega), if_pos (by omega), if_pos (by omega), hrd, p_some, Option.bind_some]
    simp only [unpF]
    by_cases c1 : okB a n = true
    · have c1' := okB_iff.1 c1
      rw [if_pos c1, if_pos c1, p_Get w a n h0 h1, Option.bind_some, if_pos (by omega), wrap64_id _ (by omega) (by omega), wrap64_id _ (by omega) (by omega)]
      have := ih (pre ++ [n]) k (a + n) (acc ++ [getV w a n]) (by simpa using hk) (by simpa using hl) (by simp; omega)
      simp only [List.append_assoc, List.cons_append, List.nil_append, List.length_append, List.length_cons, List.length_nil] at this
      rw [← this]
      simp
    · rw [if_neg c1, if_neg c1]
theorem p_Unpack (k : Nat) (w : Int) (l : List Int) (hk : l.length < k) (hl : l.length < 17592186044416) (h0 : 0 ≤ w) (h1 : w < 18446744073709551616) : word_Unpack.f k w l = some (unpF w l 0 []) :=
  p_Unpack_l w h0 h1 l [] k 0 [] hk hl (by decide)
theorem p_HandleParts (k : Nat) (h : Int) (hk : 5 ≤ k) (h0 : 0 ≤ h) (h1 : h < 18446744073709551616) : tag_HandleParts.f k h = some (partsV h) := by
  unfold tag_HandleParts.f
  rw [p_Unpack k h _ (by simp; omega) (by simp) h0 h1, Option.bind_some]
  have e : unpF h [32, 16, 8, 8] 0 [] = ([h % 4294967296, h / 4294967296 % 65536, h / 281474976710656 % 256, h / 72057594037927936 % 256], true) := by simp [unpF, okB, getV]
  rw [e]
  simp only [List.length_cons, List.length_nil]
  rw [if_neg (by omega), if_pos (by omega), if_pos (by omega), if_pos (by omega)]
  have r0 : rd [h % 4294967296, h / 4294967296 % 65536, h / 281474976710656 % 256, h / 72057594037927936 % 256] 0 = h % 4294967296 := rfl
  have r2 : rd [h % 4294967296, h / 4294967296 % 65536, h / 281474976710656 % 256, h / 72057594037927936 % 256] 2 = h / 281474976710656 % 256 := rfl
  have r3 : rd [h % 4294967296, h / 4294967296 % 65536, h / 281474976710656 % 256, h / 72057594037927936 % 256] 3 = h / 72057594037927936 % 256 := rfl
  rw [r0, r2, r3, wrap64_id (h / 72057594037927936 % 256) (by omega) (by omega), wrap64_id _ (by omega) (by omega), wrap64_id _ (by omega) (by omega), p_Handle k _ _ _ hk, Option.bind_some]
  by_cases c : handleB (h / 72057594037927936 - 1) (h / 281474976710656 % 256) (h % 281474976710656) = true
  · have c' := handleB_iff.1 c
    rw [partsV_yes c, handleV_yes (by omega)]
    simp only
    rw [if_pos trivial, if_pos (by omega)]
    simp; omega
  · rw [partsV_no c]
    rw [handleB_iff] at c
    by_cases d : handleB (h / 72057594037927936 % 256 - 1) (h / 281474976710656 % 256) (h % 4294967296) = true
    · have d' := handleB_iff.1 d
      rw [handleV_yes d']
      simp only
      rw [if_pos trivial, if_neg (by omega)]
    · rw [handleB_iff] at d
      rw [handleV_no d]
      rfl
theorem apart_l (w : Int) (w0 : 0 ≤ w) (w1 : w < 18446744073709551616) (l : List Int) : ∀ (pre : List Int) (k : Nat) (x : Int), 10 + l.length < k → pre.length + l.length ≤ 200 → 0 ≤ x → x < 18446744073709551616 → (x / 65536) = (w / 65536 + pre.length) % 281474976710656 →
    withylaw05_TagApart.l0 k w (pre ++ l) x (pre.length : Int) = some true := by
  induction l with
  | nil =>
    intro pre k x hk hl x0 x1 hx
    obtain ⟨k, rfl⟩ : ∃ m, k = m + 1 := ⟨k - 1, by omega⟩
    simp only [withylaw05_TagApart.l0, List.append_nil, List.length_nil] at hl ⊢
    rw [if_neg (by omega), p_TopParts w w0 w1, Option.bind_some, p_TopParts x x0 x1, Option.bind_some, p_HandleParts k 0 (by omega) (by decide) (by decide), Option.bind_some]
    simp only
    rw [wrap_u64_id (x / 65536 + 281474976710656) (by omega) (by omega), wrap_u64_id (x / 65536 + 281474976710656 - w / 65536) (by omega) (by omega), wrap_u64_id (pre.length : Int) (by omega) (by omega)]
    rw [show Int.tmod (x / 65536 + 281474976710656 - w / 65536) 281474976710656 = (x / 65536 + 281474976710656 - w / 65536) % 281474976710656 from Int.tmod_eq_emod_of_nonneg (by omega)]
    rw [if_pos (by omega), if_neg (by decide), p_awake5 k (by omega)]; rfl
  | cons s l ih =>
    intro pre k x hk hl x0 x1 hx
    obtain ⟨k, rfl⟩ : ∃ m, k = m + 1 := ⟨k - 1, by omega⟩
    simp only [List.length_cons] at hl hk
    have hlen : (pre ++ s :: l).length = pre.length + 1 + l.length := by simp; omega
    have hrd : rd (pre ++ s :: l) (pre.length : Int) = s := by simp [rd]
    simp only [withylaw05_TagApart.l0]
    rw [if_pos (by omega), if_pos (by omega), hrd, p_Moved k x s (by omega) x0 x1, Option.bind_some]
    have hm : movedV x s / 65536 = (x / 65536 + 1) % 281474976710656 ∧ 0 ≤ movedV x s ∧ movedV x s < 18446744073709551616 := by
      unfold movedV
      by_cases c : -1 ≤ s ∧ s < 64
      · rw [if_pos c]; omega
      · rw [if_neg c]; omega
    rw [if_neg (by
      intro e
      rw [e] at hm
      omega), wrap64_id _ (by omega) (by omega)]
    have := ih (pre ++ [s]) k (movedV x s) (by omega) (by simp; omega) hm.2.1 hm.2.2 (by rw [hm.1, hx]; simp; omega)
    simp only [List.append_assoc, List.cons_append, List.nil_append, List.length_append, List.length_cons, List.length_nil] at this
    rw [← this]
    simp
theorem TagApart : withylaw05_TagApart.Pure := by
  intro w l hw _ _ _
  obtain ⟨w0, w1⟩ := wf_u64 hw
  refine ⟨300, ?_⟩
  unfold withylaw05_TagApart.f
  by_cases c : (l.length : Int) > 200
  · rw [if_pos c, p_awake5 300 (by decide)]; rfl
  · rw [if_neg c]
    exact apart_l w w0 w1 l [] 300 w (by omega) (by simp; omega) w0 w1 (by simp; omega)

end Go.Proofs.Ytfbdkdhpmpeipaa.Pure
