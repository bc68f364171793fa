/-
  What the printed functions beneath ArenaPlays answer, in plain numbers; no condition beyond the numbers' kinds.
-/
import Derived.Test.YtijfkpoofpcacaaPArenaPlaysx6
import Derived.Test.YtijfkpoofpcacaaCore
import Derived.Test.YtijfkpoofpcacaaPuArenaPlays
namespace Go.Proofs.Ytijfkpoofpcacaa.PvArenaPlays
open Go.RowKit Go.Proofs.Ytijfkpoofpcacaa.PArenaPlays Go.Proofs.YtijfkpoofpcacaaW.PrintWords Go.Proofs.YtijfkpoofpcacaaW.PrintLast Go.Proofs.Ytijfkpoofpcacaa.Core Go.Proofs.Ytijfkpoofpcacaa.PuArenaPlays

theorem p_pBody (k : Nat) (S A C H G K s i : Int) (hk : 1 ≤ k) : plan_Body.f k S A C H G K s i = some (if rightB S A C H G K = true ∧ 0 ≤ s ∧ s < S ∧ 0 ≤ i ∧ 2 + i < roomV A then slotsV C H + s * roomV A + (2 + i) else -1) := by
  unfold plan_Body.f
  have r : A ≤ 8 → roomV A ≤ 10 := by intro h; unfold roomV; split <;> omega
  by_cases h1 : i < 0
  · rw [if_pos h1, if_neg (by omega)]
  · rw [if_neg h1]
    by_cases h2 : i > 8
    · rw [if_pos h2, if_neg (by
        intro c
        have := right_iff.1 c.1
        have := r (by omega)
        omega)]
    · rw [if_neg h2, wrap64_id _ (by omega) (by omega), p_pWithin k S A C H G K s (2 + i) hk, Option.bind_some]
      by_cases h : rightB S A C H G K = true ∧ 0 ≤ s ∧ s < S ∧ 0 ≤ i ∧ 2 + i < roomV A
      · rw [if_pos h, if_pos ⟨h.1, h.2.1, h.2.2.1, by omega, h.2.2.2.2⟩]
      · rw [if_neg h, if_neg (fun c => h ⟨c.1, c.2.1, c.2.2.1, by omega, c.2.2.2.2⟩)]
theorem p_mask (n : Nat) (h : n ≤ 64) : word_mask.f (n : Int) = some ((2 ^ n - 1 : Nat) : Int) := by
  unfold word_mask.f shl
  rw [if_pos (by omega), Int.toNat_natCast, show IntKind.bits .u64 = 64 from rfl, Nat.min_eq_left h]
  have h1 := Nat.pow_le_pow_right (show 0 < 2 by decide) h
  rw [p64] at h1
  have h2 : ((2 ^ n : Nat) : Int) = (2 : Int) ^ n := by simp
  have h3 := Nat.two_pow_pos n
  rw [wrap_u64, wrap_u64, ← h2]
  congr 1
  omega
theorem p_Get (w a n : Int) (h0 : 0 ≤ w) (h1 : w < 18446744073709551616) : word_Get.f w a n = some (getV w a n) := by
  unfold word_Get.f getV
  rw [p_some, Option.bind_some]
  by_cases h : okB a n = true
  · rw [if_pos h, if_pos h]
    rw [okB_iff] at h
    obtain ⟨w, rfl⟩ := Int.eq_ofNat_of_zero_le h0
    obtain ⟨a, rfl⟩ := Int.eq_ofNat_of_zero_le h.2.2.1
    obtain ⟨n, rfl⟩ := Int.eq_ofNat_of_zero_le (show 0 ≤ n by omega)
    rw [if_pos (by omega), p_mask n (by omega), Option.bind_some]
    unfold shr
    rw [Int.toNat_natCast, Int.toNat_natCast, show IntKind.bits .u64 = 64 from rfl, Nat.min_eq_left (by omega)]
    have e1 : (w : Int) / 2 ^ a = ((w / 2 ^ a : Nat) : Int) := by simp
    have e2 : (w : Int) / 2 ^ a % 2 ^ n = ((w / 2 ^ a % 2 ^ n : Nat) : Int) := by simp
    have h2 := Nat.pow_le_pow_right (show 0 < 2 by decide) (show n ≤ 64 by omega)
    have h3 : w / 2 ^ a ≤ w := Nat.div_le_self _ _
    have h4 := Nat.two_pow_pos n
    rw [p64] at h2
    rw [e2, e1, bits_and _ _ (by rw [p64]; omega) (by rw [p64]; omega), Nat.and_two_pow_sub_one_eq_mod]
  · rw [if_neg h, if_neg h]
theorem p_TopParts (w : Int) (h0 : 0 ≤ w) (h1 : w < 18446744073709551616) : tag_TopParts.f w = some (w / 65536, w % 65536 - 1) := by
  unfold tag_TopParts.f
  rw [p_Get w 16 48 h0 h1, Option.bind_some, p_Get w 0 16 h0 h1, Option.bind_some]
  simp [getV, okB]
  rw [wrap64_id (w % 65536) (by omega) (by omega), wrap64_id _ (by omega) (by omega)]
  exact ⟨by omega, rfl⟩
theorem and48 (x : Int) (h0 : 0 ≤ x) (h1 : x < 18446744073709551616) : Go.bits .and .u64 x 281474976710655 = x % 281474976710656 := by
  obtain ⟨x, rfl⟩ := Int.eq_ofNat_of_zero_le h0
  have := bits_and x 281474976710655 (by rw [p64]; omega) (by rw [p64]; omega)
  rw [show (281474976710655 : Nat) = 2 ^ 48 - 1 from rfl, Nat.and_two_pow_sub_one_eq_mod] at this
  exact this
theorem p_Moved (k : Nat) (w s : Int) (hk : 3 ≤ k) (h0 : 0 ≤ w) (h1 : w < 18446744073709551616) : tag_Moved.f k w s = some (movedV w s) := by
  unfold tag_Moved.f movedV
  rw [p_slots, Option.bind_some, p_TopParts w h0 h1]
  simp only [Option.bind_some]
  rw [wrap_u64_id _ (by omega) (by omega), and48 _ (by omega) (by omega), p_Top k _ _ hk (by omega) (by omega), p_Top k _ _ hk (by omega) (by omega)]
  simp only [Option.bind_some]
  unfold topV
  by_cases h : -1 ≤ s ∧ s < 64
  · rw [if_pos (by simpa using h), if_pos h, if_pos (by omega)]
  · rw [if_neg (by simpa using h), if_neg h, if_pos (by omega)]
theorem p_pHeader (k : Nat) (S A C H G K s : Int) (hk : 1 ≤ k) : plan_Header.f k S A C H G K s = some (if rightB S A C H G K = true ∧ 0 ≤ s ∧ s < S then slotsV C H + s * roomV A else -1) := by
  unfold plan_Header.f
  rw [p_pWithin k S A C H G K s 0 hk, Option.bind_some]
  have r : 2 ≤ roomV A := by unfold roomV; split <;> omega
  by_cases h : rightB S A C H G K = true ∧ 0 ≤ s ∧ s < S
  · rw [if_pos h, if_pos ⟨h.1, h.2.1, h.2.2, by decide, by omega⟩]; simp
  · rw [if_neg h, if_neg (fun c => h ⟨c.1, c.2.1, c.2.2.1⟩)]
def unpF (w : Int) : List Int → Int → List Int → List Int × Bool
  | [], _, acc => (acc, true)
  | n :: l, a, acc => if okB a n = true then unpF w l (a + n) (acc ++ [getV w a n]) else ([], false)
theorem p_Unpack_l (w : Int) (h0 : 0 ≤ w) (h1 : w < 18446744073709551616) (l : List Int) : ∀ (pre : List Int) (k : Nat) (a : Int) (acc : List Int), l.length < k → (pre ++ l).length < 17592186044416 → acc.length ≤ pre.length →
    word_Unpack.l0 k w acc a (pre ++ l) ((pre ++ l).length : Int) (pre.length : Int) = some (unpF w l a acc) := by
  induction l with
  | nil =>
    intro pre k a acc hk hl ha
    obtain ⟨k, rfl⟩ : ∃ m, k = m + 1 := ⟨k - 1, by omega⟩
    simp only [word_Unpack.l0]
    rw [if_neg (by simp)]; rfl
  | cons n l ih =>
    intro pre k a acc hk hl ha
    obtain ⟨k, rfl⟩ : ∃ m, k = m + 1 := ⟨k - 1, by omega⟩
    have hlen : (pre ++ n :: l).length = pre.length + 1 + l.length := by simp; omega
    have hrd : rd (pre ++ n :: l) (pre.length : Int) = n := by simp [rd]
    simp only [word_Unpack.l0]
    rw [if_pos (by omega), if_pos (by omega), if_pos (by omega), hrd, p_some, Option.bind_some]
    simp only [unpF]
    by_cases c1 : okB a n = true
    · have c1' := okB_iff.1 c1
      rw [if_pos c1, if_pos c1, p_Get w a n h0 h1, Option.bind_some, if_pos (by omega), wrap64_id _ (by omega) (by omega), wrap64_id _ (by omega) (by omega)]
      have := ih (pre ++ [n]) k (a + n) (acc ++ [getV w a n]) (by simpa using hk) (by simpa using hl) (by simp; omega)
      simp only [List.append_assoc, List.cons_append, List.nil_append, List.length_append, List.length_cons, List.length_nil] at this
      rw [← this]
      simp
    · rw [if_neg c1, if_neg c1]
theorem p_Unpack (k : Nat) (w : Int) (l : List Int) (hk : l.length < k) (hl : l.length < 17592186044416) (h0 : 0 ≤ w) (h1 : w < 18446744073709551616) : word_Unpack.f k w l = some (unpF w l 0 []) :=
  p_Unpack_l w h0 h1 l [] k 0 [] hk hl (by decide)

end Go.Proofs.Ytijfkpoofpcacaa.PvArenaPlays
