/-
  What the printed functions beneath layer 11 (root) answer, in plain numbers; no condition beyond the numbers' kinds.
-/
import Derived.Test.YtljfpkdbooineaaPRootPlaysx2
import Derived.Test.YtljfpkdbooineaaCore
namespace Go.Proofs.Ytljfpkdbooineaa.RootP
open Go.RowKit Go.Proofs.Ytljfpkdbooineaa.PRootPlays Go.Proofs.YtljfpkdbooineaaW.PrintWords Go.Proofs.YtljfpkdbooineaaW.PrintLast Go.Proofs.Ytljfpkdbooineaa.Core

theorem p_between (x lo hi : Int) : plan_between.f x lo hi = some (decide (lo ≤ x ∧ x ≤ hi)) := by
  unfold plan_between.f
  by_cases h : x ≥ lo
  · rw [if_pos h]; simp [show lo ≤ x from h]
  · rw [if_neg h]; simp [show ¬ lo ≤ x from h]
theorem p_pRight (S A C H G K : Int) : plan_Right.f S A C H G K = some (rightB S A C H G K) := by
  unfold plan_Right.f rightB
  simp only [p_between, Option.bind_some]
  by_cases h1 : 1 ≤ S ∧ S ≤ 64
  · rw [if_pos (decide_eq_true h1)]
    by_cases h2 : 0 ≤ A ∧ A ≤ 8
    · rw [if_pos (decide_eq_true h2)]
      by_cases h3 : 1 ≤ C ∧ C ≤ 8
      · rw [if_pos (decide_eq_true h3)]
        by_cases h4 : 1 ≤ H ∧ H ≤ 16
        · rw [if_pos (decide_eq_true h4)]
          by_cases h5 : 1 ≤ G ∧ G ≤ 1048576
          · rw [if_pos (decide_eq_true h5)]
            congr 1; rw [Bool.eq_iff_iff]; simp only [decide_eq_true_eq]; omega
          · rw [if_neg (by simpa using h5), decide_eq_false (by omega)]
        · rw [if_neg (by simpa using h4), decide_eq_false (by omega)]
      · rw [if_neg (by simpa using h3), decide_eq_false (by omega)]
    · rw [if_neg (by simpa using h2), decide_eq_false (by omega)]
  · rw [if_neg (by simpa using h1), decide_eq_false (by omega)]
theorem p_pPlace (S A C H G K who be ea i : Int) (hb0 : 0 ≤ be) (hb1 : be ≤ 17) (he0 : 1 ≤ ea) (he1 : ea ≤ 16) :
    plan_place.f S A C H G K who be ea i = some (if rightB S A C H G K = true ∧ 0 ≤ who ∧ who < C ∧ 0 ≤ i ∧ i < ea then 4 + be * C + who * ea + i else -1) := by
  unfold plan_place.f
  rw [p_pRight, Option.bind_some]
  by_cases h : rightB S A C H G K = true
  · have h' := right_iff.1 h
    rw [if_pos h, p_between, Option.bind_some, wrap64_id (C - 1) (by omega) (by omega)]
    by_cases h2 : 0 ≤ who ∧ who ≤ C - 1
    · rw [if_pos (decide_eq_true h2), p_between, Option.bind_some, wrap64_id (ea - 1) (by omega) (by omega)]
      by_cases h3 : 0 ≤ i ∧ i ≤ ea - 1
      · have m1 := mul_le2 (a := be) (b := C) (m := 17) (n := 8) (by omega) (by omega) (by omega) (by omega)
        have m2 := mul_le2 (a := who) (b := ea) (m := 8) (n := 16) (by omega) (by omega) (by omega) (by omega)
        rw [if_pos (decide_eq_true h3), if_pos ⟨h, by omega, by omega, by omega, by omega⟩, wrap64_id (be * C) (by omega) (by omega), wrap64_id (4 + be * C) (by omega) (by omega), wrap64_id (who * ea) (by omega) (by omega), wrap64_id (4 + be * C + who * ea) (by omega) (by omega), wrap64_id _ (by omega) (by omega)]
      · rw [if_neg (by simpa using h3), if_neg (by omega)]
    · rw [if_neg (by simpa using h2), if_neg (by omega)]
  · rw [if_neg h, if_neg (fun c => h c.1)]
theorem p_pPin (S A C H G K who : Int) : plan_Pin.f S A C H G K who = some (if rightB S A C H G K = true ∧ 0 ≤ who ∧ who < C then 4 + who else -1) := by
  unfold plan_Pin.f
  rw [p_pPlace _ _ _ _ _ _ _ _ _ _ (by decide) (by decide) (by decide) (by decide), Option.bind_some]
  by_cases h : rightB S A C H G K = true ∧ 0 ≤ who ∧ who < C
  · rw [if_pos h, if_pos ⟨h.1, h.2.1, h.2.2, by decide, by decide⟩]; simp
  · rw [if_neg h, if_neg (fun c => h ⟨c.1, c.2.1, c.2.2.1⟩)]
theorem p_some (a n : Int) : word_some.f a n = some (okB a n) := by
  unfold word_some.f okB
  by_cases h1 : n ≥ 1
  · by_cases h2 : n ≤ 64
    · by_cases h3 : a ≥ 0
      · rw [if_pos h1, if_pos h2, if_pos h3, wrap64_id _ (by omega) (by omega)]
        simp [show 1 ≤ n from h1, h2, show 0 ≤ a from h3]
      · rw [if_pos h1, if_pos h2, if_neg h3]; simp [show ¬ 0 ≤ a from h3]
    · rw [if_pos h1, if_neg h2]; simp [h2]
  · rw [if_neg h1]; simp [show ¬ 1 ≤ n from h1]
theorem p_Fits (v n : Int) (h0 : 0 ≤ v) (h1 : v < 18446744073709551616) : word_Fits.f v n = some (fitsB v n) := by
  unfold word_Fits.f fitsB
  by_cases ha : n ≥ 0
  · by_cases hb : n > 63
    · rw [if_pos ha, if_pos hb]; simp [show 0 ≤ n from ha, show 63 < n from hb]
    · rw [if_pos ha, if_neg hb, if_pos ha]
      unfold shr
      rw [show IntKind.bits .u64 = 64 from rfl, Nat.min_eq_left (by omega)]
      obtain ⟨n, rfl⟩ := Int.eq_ofNat_of_zero_le (show 0 ≤ n from ha)
      obtain ⟨v, rfl⟩ := Int.eq_ofNat_of_zero_le h0
      rw [Int.toNat_natCast]
      congr 1
      have e1 : (v : Int) / 2 ^ n = ((v / 2 ^ n : Nat) : Int) := by simp
      have e2 : (2 : Int) ^ n = ((2 ^ n : Nat) : Int) := by simp
      rw [e1, e2, Bool.eq_iff_iff]
      have h3 := Nat.div_eq_zero_iff (a := v) (b := 2 ^ n)
      have h4 := Nat.two_pow_pos n
      simp only [beq_iff_eq, Bool.and_eq_true, Bool.or_eq_true, decide_eq_true_eq]
      constructor
      · intro h
        have := h3.1 (by omega)
        omega
      · intro h
        have := h3.2 (by omega)
        omega
  · rw [if_neg ha]; simp [show ¬ 0 ≤ n from ha]
def packF : List S88 → Int → Int → Int × Bool
  | [], w, _ => (w, true)
  | b :: l, w, a => if okB a b.f0 = true ∧ fitsB b.f1 b.f0 = true then packF l (w + b.f1 * 2 ^ a.toNat) (a + b.f0) else (0, false)
theorem pack_step {w a v n : Int} (h : okB a n = true) (hv : fitsB v n = true) (hw0 : 0 ≤ w) (hw : w < 2 ^ a.toNat) (hv0 : 0 ≤ v) (hv1 : v < 18446744073709551616) :
    Go.bits .or .u64 w (shl .u64 v a) = w + v * 2 ^ a.toNat ∧ w + v * 2 ^ a.toNat < 2 ^ (a + n).toNat ∧ 0 ≤ w + v * 2 ^ a.toNat := by
  rw [okB_iff] at h
  obtain ⟨w, rfl⟩ := Int.eq_ofNat_of_zero_le hw0
  obtain ⟨v, rfl⟩ := Int.eq_ofNat_of_zero_le hv0
  obtain ⟨a, rfl⟩ := Int.eq_ofNat_of_zero_le h.2.2.1
  obtain ⟨n, rfl⟩ := Int.eq_ofNat_of_zero_le (show 0 ≤ n by omega)
  rw [show ((a : Int) + (n : Int)).toNat = a + n from by omega]
  simp only [Int.toNat_natCast] at hw ⊢
  have hv2 : v < 2 ^ n := by
    simp only [fitsB, Bool.and_eq_true, Bool.or_eq_true, decide_eq_true_eq, Int.toNat_natCast] at hv
    have e : ((2 ^ n : Nat) : Int) = (2 : Int) ^ n := by simp
    rcases hv.2 with h1 | h1
    · rw [show n = 64 from by omega, p64]; omega
    · omega
  have hw2 : w < 2 ^ a := by
    have e : ((2 ^ a : Nat) : Int) = (2 : Int) ^ a := by simp
    omega
  have hsum : w + v * 2 ^ a < 2 ^ (a + n) := by
    have h3 : (v + 1) * 2 ^ a ≤ 2 ^ n * 2 ^ a := Nat.mul_le_mul_right _ hv2
    rw [Nat.add_mul, Nat.one_mul, ← Nat.pow_add, Nat.add_comm n a] at h3
    omega
  have hle := Nat.pow_le_pow_right (show 0 < 2 by decide) (show a + n ≤ 64 by omega)
  have e3 : (w : Int) + (v : Int) * 2 ^ a = ((w + v * 2 ^ a : Nat) : Int) := by simp
  rw [p64] at hle
  rw [shl_nat v a (v * 2 ^ a) (by omega) (by rw [p64]; omega), bits_or _ _ (by rw [p64]; omega) (by rw [p64]; omega), e3]
  refine ⟨?_, ?_, by omega⟩
  · have := Nat.two_pow_add_eq_or_of_lt hw2 v
    rw [Nat.or_comm, Nat.mul_comm v, ← this, Nat.add_comm]
  · have e4 : ((2 ^ (a + n) : Nat) : Int) = (2 : Int) ^ (a + n) := by simp
    omega
theorem p_Pack_l (l : List S88) : ∀ (pre : List S88) (k : Nat) (w a : Int), l.length < k → (pre ++ l).length < 2 ^ 60 → 0 ≤ w → w < 2 ^ a.toNat → 0 ≤ a → a ≤ 64 → (∀ b ∈ l, 0 ≤ b.f1 ∧ b.f1 < 18446744073709551616) →
    word_Pack.l0 k w a (pre ++ l) ((pre ++ l).length : Int) (pre.length : Int) = some (packF l w a) := by
  induction l with
  | nil =>
    intro pre k w a hk hl h0 h1 h2 h3 hb
    obtain ⟨k, rfl⟩ : ∃ m, k = m + 1 := ⟨k - 1, by omega⟩
    simp only [word_Pack.l0]
    rw [if_neg (by simp)]; rfl
  | cons b l ih =>
    intro pre k w a hk hl h0 h1 h2 h3 hb
    obtain ⟨k, rfl⟩ : ∃ m, k = m + 1 := ⟨k - 1, by omega⟩
    have hlen : (pre ++ b :: l).length = pre.length + 1 + l.length := by simp; omega
    have hrd : rd_T88 (pre ++ b :: l) (pre.length : Int) = b := by simp [rd_T88]
    have hb1 := hb b (by simp)
    simp only [word_Pack.l0]
    rw [if_pos (by omega), if_pos (by omega), if_pos (by omega), hrd, p_some, Option.bind_some]
    simp only [packF]
    by_cases c1 : okB a b.f0 = true
    · rw [if_pos c1, p_Fits b.f1 b.f0 hb1.1 hb1.2, Option.bind_some]
      by_cases c2 : fitsB b.f1 b.f0 = true
      · obtain ⟨e1, e2, e3⟩ := pack_step c1 c2 h0 h1 hb1.1 hb1.2
        have c1' := okB_iff.1 c1
        rw [if_pos c2, if_pos h2, if_pos ⟨c1, c2⟩, e1, wrap64_id _ (by omega) (by omega), wrap64_id _ (by omega) (by omega)]
        have := ih (pre ++ [b]) k (w + b.f1 * 2 ^ a.toNat) (a + b.f0) (by simpa using hk) (by simpa using hl) e3 e2 (by omega) (by omega) (fun x hx => hb x (by simp [hx]))
        simp only [List.append_assoc, List.cons_append, List.nil_append, List.length_append, List.length_cons, List.length_nil] at this
        rw [← this]
        simp
      · rw [if_neg c2, if_neg (fun h => c2 h.2)]
    · rw [if_neg c1, if_neg (fun h => c1 h.1)]
theorem p_Pack (k : Nat) (l : List S88) (hk : l.length < k) (hl : l.length < 2 ^ 60) (hb : ∀ b ∈ l, 0 ≤ b.f1 ∧ b.f1 < 18446744073709551616) : word_Pack.f k l = some (packF l 0 0) :=
  p_Pack_l l [] k 0 0 hk hl (by decide) (by decide) (by decide) (by decide) hb
theorem packF_yes {n v : Int} {l : List S88} {w a : Int} (h1 : okB a n = true) (h2 : fitsB v n = true) : packF (⟨n, v⟩ :: l) w a = packF l (w + v * 2 ^ a.toNat) (a + n) := by
  simp only [packF]; rw [if_pos ⟨h1, h2⟩]
theorem packF_no {n v : Int} {l : List S88} {w a : Int} (h2 : fitsB v n = false) : packF (⟨n, v⟩ :: l) w a = (0, false) := by
  simp only [packF]; rw [if_neg (by rw [h2]; simp)]
theorem p_Handle_yes (k : Nat) (c e t : Int) (hk : 5 ≤ k) (h : 0 ≤ c ∧ c < 8 ∧ 0 ≤ e ∧ (e < 16 ∨ e = 255) ∧ 1 ≤ t ∧ t ≤ 4294967295) :
    (word_Pack.f k (([(⟨32, t⟩ : S88), (⟨16, 0⟩ : S88), (⟨8, IntKind.u64.wrap (e)⟩ : S88), (⟨8, IntKind.u64.wrap (wrap64 (c + 1))⟩ : S88)] : List (S88)))) = some (handleV c e t) := by
  rw [wrap64_id (c + 1) (by omega) (by omega), wrap_u64_id _ (by omega) (by omega), wrap_u64_id _ (by omega) (by omega), p_Pack k _ (by simp; omega) (by simp) (by
      intro b hb
      simp at hb
      rcases hb with rfl | rfl | rfl | rfl <;> simp <;> omega)]
  unfold handleV
  rw [if_pos (handleB_iff.2 h)]
  rw [packF_yes (by decide) (by simp [fitsB]; omega), packF_yes (by decide) (by decide), packF_yes (by decide) (by simp [fitsB]; omega), packF_yes (by decide) (by simp [fitsB]; omega)]
  simp [packF]; omega
theorem p_Handle (k : Nat) (c e t : Int) (hk : 5 ≤ k) : tag_Handle.f k c e t = some (handleV c e t) := by
  unfold tag_Handle.f
  by_cases h1 : c < 0
  · rw [if_pos h1, handleV_no (by omega)]
  rw [if_neg h1]
  by_cases h2 : c ≥ 8
  · rw [if_pos h2, handleV_no (by omega)]
  rw [if_neg h2]
  by_cases h3 : e < 0
  · rw [if_pos h3, handleV_no (by omega)]
  rw [if_neg h3]
  by_cases h4 : e ≥ 16
  · rw [if_pos h4]
    by_cases h5 : e = 255
    · rw [if_pos h5]
      by_cases h6 : t < 1
      · rw [if_pos h6, handleV_no (by omega)]
      rw [if_neg h6]
      by_cases h7 : t > 4294967295
      · rw [if_pos h7, handleV_no (by omega)]
      rw [if_neg h7, p_Handle_yes k c e t hk (by omega)]; rfl
    · rw [if_neg h5, handleV_no (by omega)]
  · rw [if_neg h4]
    by_cases h6 : t < 1
    · rw [if_pos h6, handleV_no (by omega)]
    rw [if_neg h6]
    by_cases h7 : t > 4294967295
    · rw [if_pos h7, handleV_no (by omega)]
    rw [if_neg h7, p_Handle_yes k c e t hk (by omega)]; rfl
theorem p_slots (s : Int) : tag_slots.f s = some (decide (-1 ≤ s ∧ s < 64)) := by
  unfold tag_slots.f
  by_cases h : s ≥ -1
  · rw [if_pos h]; simp [show -1 ≤ s from h]
  · rw [if_neg h]; simp [show ¬ -1 ≤ s from h]
theorem p_tagged16 (k : Nat) (t s : Int) (hk : 3 ≤ k) (h0 : 0 ≤ t) (h1 : t < 18446744073709551616) : tag_tagged.f k t s 16 = some (topV t s) := by
  unfold tag_tagged.f topV
  rw [p_slots, Option.bind_some]
  by_cases h : -1 ≤ s ∧ s < 64
  · rw [if_pos (by simpa using h), wrap64_id (s + 1) (by omega) (by omega), wrap_u64_id _ (by omega) (by omega), p_Pack k _ (by simp; omega) (by simp) (by
      intro b hb
      simp at hb
      rcases hb with rfl | rfl <;> simp <;> omega)]
    rw [wrap64_id (64 - _) (by decide) (by decide), packF_yes (by decide) (by simp [fitsB]; omega)]
    by_cases h2 : t < 281474976710656
    · rw [packF_yes (by decide) (by simp [fitsB]; omega), if_pos (by omega)]
      simp [packF]; omega
    · rw [packF_no (by simp [fitsB]; omega), if_neg (by omega)]; rfl
  · rw [if_neg (by simpa using h), if_neg (by omega)]
theorem p_tagged32 (k : Nat) (t s : Int) (hk : 3 ≤ k) (h0 : 0 ≤ t) (h1 : t < 18446744073709551616) : tag_tagged.f k t s 32 = some (entryV t s) := by
  unfold tag_tagged.f entryV
  rw [p_slots, Option.bind_some]
  by_cases h : -1 ≤ s ∧ s < 64
  · rw [if_pos (by simpa using h), wrap64_id (s + 1) (by omega) (by omega), wrap_u64_id _ (by omega) (by omega), p_Pack k _ (by simp; omega) (by simp) (by
      intro b hb
      simp at hb
      rcases hb with rfl | rfl <;> simp <;> omega)]
    rw [wrap64_id (64 - _) (by decide) (by decide), packF_yes (by decide) (by simp [fitsB]; omega)]
    by_cases h2 : t < 4294967296
    · rw [packF_yes (by decide) (by simp [fitsB]; omega), if_pos (by omega)]
      simp [packF]; omega
    · rw [packF_no (by simp [fitsB]; omega), if_neg (by omega)]; rfl
  · rw [if_neg (by simpa using h), if_neg (by omega)]
theorem p_Entry (k : Nat) (t s : Int) (hk : 3 ≤ k) (h0 : 0 ≤ t) (h1 : t < 18446744073709551616) : tag_Entry.f k t s = some (entryV t s) := by
  unfold tag_Entry.f
  rw [p_tagged32 k t s hk h0 h1]; rfl
theorem p_rRight (S A C H G K : Int) : withyref06_Right.f S A C H G K = some (rightB S A C H G K) := by
  unfold withyref06_Right.f rightB
  by_cases h1 : S ≥ 1
  · rw [if_pos h1]
    by_cases h2 : S ≤ 64
    · rw [if_pos h2]
      by_cases h3 : A ≥ 0
      · rw [if_pos h3]
        by_cases h4 : A ≤ 8
        · rw [if_pos h4]
          by_cases h5 : C ≥ 1
          · rw [if_pos h5]
            by_cases h6 : C ≤ 8
            · rw [if_pos h6]
              by_cases h7 : H ≥ 1
              · rw [if_pos h7]
                by_cases h8 : H ≤ 16
                · rw [if_pos h8]
                  by_cases h9 : G ≥ 1
                  · rw [if_pos h9]
                    by_cases h10 : G ≤ 1048576
                    · rw [if_pos h10]
                      by_cases h11 : K ≥ 0
                      · rw [if_pos h11]; congr 1; rw [Bool.eq_iff_iff]; simp only [decide_eq_true_eq]; omega
                      · rw [if_neg h11, decide_eq_false (by omega)]
                    · rw [if_neg h10, decide_eq_false (by omega)]
                  · rw [if_neg h9, decide_eq_false (by omega)]
                · rw [if_neg h8, decide_eq_false (by omega)]
              · rw [if_neg h7, decide_eq_false (by omega)]
            · rw [if_neg h6, decide_eq_false (by omega)]
          · rw [if_neg h5, decide_eq_false (by omega)]
        · rw [if_neg h4, decide_eq_false (by omega)]
      · rw [if_neg h3, decide_eq_false (by omega)]
    · rw [if_neg h2, decide_eq_false (by omega)]
  · rw [if_neg h1, decide_eq_false (by omega)]
theorem p_rHandle (c e t : Int) (h0 : 0 ≤ t) : withyref05_Handle.f c e t = some (handleV c e t) := by
  have yes : (0 ≤ c ∧ c < 8 ∧ 0 ≤ e ∧ (e < 16 ∨ e = 255) ∧ 1 ≤ t ∧ t ≤ 4294967295) → (some (IntKind.u64.wrap ((IntKind.u64.wrap ((IntKind.u64.wrap (72057594037927936 * (IntKind.u64.wrap (wrap64 (c + 1))))) + (IntKind.u64.wrap (281474976710656 * (IntKind.u64.wrap (e)))))) + t), true)) = some (handleV c e t) := by
    intro h
    unfold handleV
    rw [if_pos (handleB_iff.2 h), wrap64_id (c + 1) (by omega) (by omega), wrap_u64_id (c + 1) (by omega) (by omega), wrap_u64_id e (by omega) (by omega), wrap_u64_id (72057594037927936 * (c + 1)) (by omega) (by omega), wrap_u64_id (281474976710656 * e) (by omega) (by omega), wrap_u64_id (72057594037927936 * (c + 1) + 281474976710656 * e) (by omega) (by omega), wrap_u64_id _ (by omega) (by omega)]
  unfold withyref05_Handle.f
  by_cases h1 : c < 0
  · rw [if_pos h1, handleV_no (by omega)]
  rw [if_neg h1]
  by_cases h2 : c > 7
  · rw [if_pos h2, handleV_no (by omega)]
  rw [if_neg h2]
  by_cases h3 : e < 0
  · rw [if_pos h3, handleV_no (by omega)]
  rw [if_neg h3]
  by_cases h4 : e > 15
  · rw [if_pos h4]
    by_cases h5 : e = 255
    · rw [if_pos h5]
      by_cases h6 : t = 0
      · rw [if_pos h6, handleV_no (by omega)]
      rw [if_neg h6]
      by_cases h7 : t ≥ 4294967296
      · rw [if_pos h7, handleV_no (by omega)]
      rw [if_neg h7]; exact yes (by omega)
    · rw [if_neg h5, handleV_no (by omega)]
  · rw [if_neg h4]
    by_cases h6 : t = 0
    · rw [if_pos h6, handleV_no (by omega)]
    rw [if_neg h6]
    by_cases h7 : t ≥ 4294967296
    · rw [if_pos h7, handleV_no (by omega)]
    rw [if_neg h7]; exact yes (by omega)
theorem p_mask (n : Nat) (h : n ≤ 64) : word_mask.f (n : Int) = some ((2 ^ n - 1 : Nat) : Int) := by
  unfold word_mask.f shl
  rw [if_pos (by omega), Int.toNat_natCast, show IntKind.bits .u64 = 64 from rfl, Nat.min_eq_left h]
  have h1 := Nat.pow_le_pow_right (show 0 < 2 by decide) h
  rw [p64] at h1
  have h2 : ((2 ^ n : Nat) : Int) = (2 : Int) ^ n := by simp
  have h3 := Nat.two_pow_pos n
  rw [wrap_u64, wrap_u64, ← h2]
  congr 1
  omega
theorem p_Get (w a n : Int) (h0 : 0 ≤ w) (h1 : w < 18446744073709551616) : word_Get.f w a n = some (getV w a n) := by
  unfold word_Get.f getV
  rw [p_some, Option.bind_some]
  by_cases h : okB a n = true
  · rw [if_pos h, if_pos h]
    rw [okB_iff] at h
    obtain ⟨w, rfl⟩ := Int.eq_ofNat_of_zero_le h0
    obtain ⟨a, rfl⟩ := Int.eq_ofNat_of_zero_le h.2.2.1
    obtain ⟨n, rfl⟩ := Int.eq_ofNat_of_zero_le (show 0 ≤ n by omega)
    rw [if_pos (by omega), p_mask n (by omega), Option.bind_some]
    unfold shr
    rw [Int.toNat_natCast, Int.toNat_natCast, show IntKind.bits .u64 = 64 from rfl, Nat.min_eq_left (by omega)]
    have e1 : (w : Int) / 2 ^ a = ((w / 2 ^ a : Nat) : Int) := by simp
    have e2 : (w : Int) / 2 ^ a % 2 ^ n = ((w / 2 ^ a % 2 ^ n : Nat) : Int) := by simp
    have h2 := Nat.pow_le_pow_right (show 0 < 2 by decide) (show n ≤ 64 by omega)
    have h3 : w / 2 ^ a ≤ w := Nat.div_le_self _ _
    have h4 := Nat.two_pow_pos n
    rw [p64] at h2
    rw [e2, e1, bits_and _ _ (by rw [p64]; omega) (by rw [p64]; omega), Nat.and_two_pow_sub_one_eq_mod]
  · rw [if_neg h, if_neg h]
def unpF (w : Int) : List Int → Int → List Int → List Int × Bool
  | [], _, acc => (acc, true)
  | n :: l, a, acc => if okB a n = true then unpF w l (a + n) (acc ++ [getV w a n]) else ([], false)
theorem p_Unpack_l (w : Int) (h0 : 0 ≤ w) (h1 : w < 18446744073709551616) (l : List Int) : ∀ (pre : List Int) (k : Nat) (a : Int) (acc : List Int), l.length < k → (pre ++ l).length < 17592186044416 → acc.length ≤ pre.length →
    word_Unpack.l0 k w acc a (pre ++ l) ((pre ++ l).length : Int) (pre.length : Int) = some (unpF w l a acc) := by
  induction l with
  | nil =>
    intro pre k a acc hk hl ha
    obtain ⟨k, rfl⟩ : ∃ m, k = m + 1 := ⟨k - 1, by omega⟩
    simp only [word_Unpack.l0]
    rw [if_neg (by simp)]; rfl
  | cons n l ih =>
    intro pre k a acc hk hl ha
    obtain ⟨k, rfl⟩ : ∃ m, k = m + 1 := ⟨k - 1, by omega⟩
    have hlen : (pre ++ n :: l).length = pre.length + 1 + l.length := by simp; omega
    have hrd : rd (pre ++ n :: l) (pre.length : Int) = n := by simp [rd]
    simp only [word_Unpack.l0]
    rw [if_pos (by omega), if_pos (by omega), if_pos (by omega), hrd, p_some, Option.bind_some]
    simp only [unpF]
    by_cases c1 : okB a n = true
    · have c1' := okB_iff.1 c1
      rw [if_pos c1, if_pos c1, p_Get w a n h0 h1, Option.bind_some, if_pos (by omega), wrap64_id _ (by omega) (by omega), wrap64_id _ (by omega) (by omega)]
      have := ih (pre ++ [n]) k (a + n) (acc ++ [getV w a n]) (by simpa using hk) (by simpa using hl) (by simp; omega)
      simp only [List.append_assoc, List.cons_append, List.nil_append, List.length_append, List.length_cons, List.length_nil] at this
      rw [← this]
      simp
    · rw [if_neg c1, if_neg c1]
theorem p_Unpack (k : Nat) (w : Int) (l : List Int) (hk : l.length < k) (hl : l.length < 17592186044416) (h0 : 0 ≤ w) (h1 : w < 18446744073709551616) : word_Unpack.f k w l = some (unpF w l 0 []) :=
  p_Unpack_l w h0 h1 l [] k 0 [] hk hl (by decide)
theorem p_HandleParts (k : Nat) (h : Int) (hk : 5 ≤ k) (h0 : 0 ≤ h) (h1 : h < 18446744073709551616) : tag_HandleParts.f k h = some (partsV h) := by
  unfold tag_HandleParts.f
  rw [p_Unpack k h _ (by simp; omega) (by simp) h0 h1, Option.bind_some]
  have e : unpF h [32, 16, 8, 8] 0 [] = ([h % 4294967296, h / 4294967296 % 65536, h / 281474976710656 % 256, h / 72057594037927936 % 256], true) := by simp [unpF, okB, getV]
  rw [e]
  simp only [List.length_cons, List.length_nil]
  rw [if_neg (by omega), if_pos (by omega), if_pos (by omega), if_pos (by omega)]
  have r0 : rd [h % 4294967296, h / 4294967296 % 65536, h / 281474976710656 % 256, h / 72057594037927936 % 256] 0 = h % 4294967296 := rfl
  have r2 : rd [h % 4294967296, h / 4294967296 % 65536, h / 281474976710656 % 256, h / 72057594037927936 % 256] 2 = h / 281474976710656 % 256 := rfl
  have r3 : rd [h % 4294967296, h / 4294967296 % 65536, h / 281474976710656 % 256, h / 72057594037927936 % 256] 3 = h / 72057594037927936 % 256 := rfl
  rw [r0, r2, r3, wrap64_id (h / 72057594037927936 % 256) (by omega) (by omega), wrap64_id _ (by omega) (by omega), wrap64_id _ (by omega) (by omega), p_Handle k _ _ _ hk, Option.bind_some]
  by_cases c : handleB (h / 72057594037927936 - 1) (h / 281474976710656 % 256) (h % 281474976710656) = true
  · have c' := handleB_iff.1 c
    rw [partsV_yes c, handleV_yes (by omega)]
    simp only
    rw [if_pos trivial, if_pos (by omega)]
    simp; omega
  · rw [partsV_no c]
    rw [handleB_iff] at c
    by_cases d : handleB (h / 72057594037927936 % 256 - 1) (h / 281474976710656 % 256) (h % 4294967296) = true
    · have d' := handleB_iff.1 d
      rw [handleV_yes d']
      simp only
      rw [if_pos trivial, if_neg (by omega)]
    · rw [handleB_iff] at d
      rw [handleV_no d]
      rfl
theorem p_rSlot (s : Int) : withyref05_Slot.f s = some (decide (-1 ≤ s ∧ s < 64)) := by
  unfold withyref05_Slot.f
  by_cases h : s ≥ -1
  · rw [if_pos h]; simp [show -1 ≤ s from h]; omega
  · rw [if_neg h]; simp [show ¬ -1 ≤ s from h]
theorem p_rEntry (t s : Int) (h0 : 0 ≤ t) : withyref05_Entry.f t s = some (entryV t s) := by
  unfold withyref05_Entry.f entryV
  rw [p_rSlot, Option.bind_some]
  by_cases h : -1 ≤ s ∧ s < 64
  · rw [if_pos (by simpa using h)]
    by_cases h2 : t < 4294967296
    · rw [if_neg (by omega), if_pos (by omega), wrap64_id _ (by omega) (by omega), wrap_u64_id (4294967296 * t) (by omega) (by omega), wrap_u64_id (s + 1) (by omega) (by omega), wrap_u64_id _ (by omega) (by omega)]
    · rw [if_pos (by omega), if_neg (by omega)]
  · rw [if_neg (by simpa using h), if_neg (by omega)]

end Go.Proofs.Ytljfpkdbooineaa.RootP
