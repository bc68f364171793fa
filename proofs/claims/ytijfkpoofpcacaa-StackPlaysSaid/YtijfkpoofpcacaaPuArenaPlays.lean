/-
  What the printed functions beneath ArenaPlays answer, in plain numbers; no condition beyond the numbers' kinds.
-/
import Derived.Test.YtijfkpoofpcacaaPArenaPlaysx0
import Derived.Test.YtijfkpoofpcacaaPArenaPlaysx1
import Derived.Test.YtijfkpoofpcacaaPArenaPlaysx2
import Derived.Test.YtijfkpoofpcacaaPArenaPlaysx3
import Derived.Test.YtijfkpoofpcacaaPArenaPlaysx4
import Derived.Test.YtijfkpoofpcacaaPArenaPlaysx5
import Derived.Test.YtijfkpoofpcacaaCore
namespace Go.Proofs.Ytijfkpoofpcacaa.PuArenaPlays
open Go.RowKit Go.Proofs.Ytijfkpoofpcacaa.PArenaPlays Go.Proofs.YtijfkpoofpcacaaW.PrintWords Go.Proofs.YtijfkpoofpcacaaW.PrintLast Go.Proofs.Ytijfkpoofpcacaa.Core

theorem p_between (x lo hi : Int) : plan_between.f x lo hi = some (decide (lo ≤ x ∧ x ≤ hi)) := by
  unfold plan_between.f
  by_cases h : x ≥ lo
  · rw [if_pos h]; simp [show lo ≤ x from h]
  · rw [if_neg h]; simp [show ¬ lo ≤ x from h]
theorem p_pRight (S A C H G K : Int) : plan_Right.f S A C H G K = some (rightB S A C H G K) := by
  unfold plan_Right.f rightB
  simp only [p_between, Option.bind_some]
  by_cases h1 : 1 ≤ S ∧ S ≤ 64
  · rw [if_pos (decide_eq_true h1)]
    by_cases h2 : 0 ≤ A ∧ A ≤ 8
    · rw [if_pos (decide_eq_true h2)]
      by_cases h3 : 1 ≤ C ∧ C ≤ 8
      · rw [if_pos (decide_eq_true h3)]
        by_cases h4 : 1 ≤ H ∧ H ≤ 16
        · rw [if_pos (decide_eq_true h4)]
          by_cases h5 : 1 ≤ G ∧ G ≤ 1048576
          · rw [if_pos (decide_eq_true h5)]
            congr 1; rw [Bool.eq_iff_iff]; simp only [decide_eq_true_eq]; omega
          · rw [if_neg (by simpa using h5), decide_eq_false (by omega)]
        · rw [if_neg (by simpa using h4), decide_eq_false (by omega)]
      · rw [if_neg (by simpa using h3), decide_eq_false (by omega)]
    · rw [if_neg (by simpa using h2), decide_eq_false (by omega)]
  · rw [if_neg (by simpa using h1), decide_eq_false (by omega)]
theorem p_pSlots (S A C H G K : Int) (h : rightB S A C H G K = true) : plan_slots.f S A C H G K = some (slotsV C H) := by
  rw [right_iff] at h
  unfold plan_slots.f slotsV
  have := mul_le2 (a := C) (b := 1 + H + 2) (m := 8) (n := 19) (by omega) (by omega) (by omega) (by omega)
  rw [wrap64_id (1 + H) (by omega) (by omega), wrap64_id (1 + H + 2) (by omega) (by omega), wrap64_id (C * (1 + H + 2)) (by omega) (by omega), wrap64_id _ (by omega) (by omega)]
theorem p_pRoom (S A C H G K : Int) (h0 : -100 ≤ A) (h1 : A ≤ 100) : plan_room.f S A C H G K = some (roomV A) := by
  unfold plan_room.f roomV mx
  rw [wrap64_id _ (by split <;> omega) (by split <;> omega)]
theorem p_pSize (S A C H G K : Int) : plan_Size.f S A C H G K = some (if rightB S A C H G K = true then sizeV S A C H else 0) := by
  unfold plan_Size.f
  rw [p_pRight, Option.bind_some]
  by_cases h : rightB S A C H G K = true
  · have h' := right_iff.1 h
    have r := roomV_bd (A := A) (by omega) (by omega)
    have s := slotsV_bd (C := C) (H := H) (by omega) (by omega) (by omega) (by omega)
    have m := mul_le2 (a := S) (b := roomV A) (m := 64) (n := 10) (by omega) (by omega) (by omega) (by omega)
    rw [if_pos h, if_pos h, p_pSlots S A C H G K h, Option.bind_some, p_pRoom S A C H G K (by omega) (by omega), Option.bind_some, wrap64_id (S * roomV A) (by omega) (by omega), wrap64_id _ (by omega) (by omega)]; rfl
  · rw [if_neg h, if_neg h]
theorem p_slots (s : Int) : tag_slots.f s = some (decide (-1 ≤ s ∧ s < 64)) := by
  unfold tag_slots.f
  by_cases h : s ≥ -1
  · rw [if_pos h]; simp [show -1 ≤ s from h]
  · rw [if_neg h]; simp [show ¬ -1 ≤ s from h]
theorem p_some (a n : Int) : word_some.f a n = some (okB a n) := by
  unfold word_some.f okB
  by_cases h1 : n ≥ 1
  · by_cases h2 : n ≤ 64
    · by_cases h3 : a ≥ 0
      · rw [if_pos h1, if_pos h2, if_pos h3, wrap64_id _ (by omega) (by omega)]
        simp [show 1 ≤ n from h1, h2, show 0 ≤ a from h3]
      · rw [if_pos h1, if_pos h2, if_neg h3]; simp [show ¬ 0 ≤ a from h3]
    · rw [if_pos h1, if_neg h2]; simp [h2]
  · rw [if_neg h1]; simp [show ¬ 1 ≤ n from h1]
theorem p_Fits (v n : Int) (h0 : 0 ≤ v) (h1 : v < 18446744073709551616) : word_Fits.f v n = some (fitsB v n) := by
  unfold word_Fits.f fitsB
  by_cases ha : n ≥ 0
  · by_cases hb : n > 63
    · rw [if_pos ha, if_pos hb]; simp [show 0 ≤ n from ha, show 63 < n from hb]
    · rw [if_pos ha, if_neg hb, if_pos ha]
      unfold shr
      rw [show IntKind.bits .u64 = 64 from rfl, Nat.min_eq_left (by omega)]
      obtain ⟨n, rfl⟩ := Int.eq_ofNat_of_zero_le (show 0 ≤ n from ha)
      obtain ⟨v, rfl⟩ := Int.eq_ofNat_of_zero_le h0
      rw [Int.toNat_natCast]
      congr 1
      have e1 : (v : Int) / 2 ^ n = ((v / 2 ^ n : Nat) : Int) := by simp
      have e2 : (2 : Int) ^ n = ((2 ^ n : Nat) : Int) := by simp
      rw [e1, e2, Bool.eq_iff_iff]
      have h3 := Nat.div_eq_zero_iff (a := v) (b := 2 ^ n)
      have h4 := Nat.two_pow_pos n
      simp only [beq_iff_eq, Bool.and_eq_true, Bool.or_eq_true, decide_eq_true_eq]
      constructor
      · intro h
        have := h3.1 (by omega)
        omega
      · intro h
        have := h3.2 (by omega)
        omega
  · rw [if_neg ha]; simp [show ¬ 0 ≤ n from ha]
def packF : List S153 → Int → Int → Int × Bool
  | [], w, _ => (w, true)
  | b :: l, w, a => if okB a b.f0 = true ∧ fitsB b.f1 b.f0 = true then packF l (w + b.f1 * 2 ^ a.toNat) (a + b.f0) else (0, false)
theorem pack_step {w a v n : Int} (h : okB a n = true) (hv : fitsB v n = true) (hw0 : 0 ≤ w) (hw : w < 2 ^ a.toNat) (hv0 : 0 ≤ v) (hv1 : v < 18446744073709551616) :
    Go.bits .or .u64 w (shl .u64 v a) = w + v * 2 ^ a.toNat ∧ w + v * 2 ^ a.toNat < 2 ^ (a + n).toNat ∧ 0 ≤ w + v * 2 ^ a.toNat := by
  rw [okB_iff] at h
  obtain ⟨w, rfl⟩ := Int.eq_ofNat_of_zero_le hw0
  obtain ⟨v, rfl⟩ := Int.eq_ofNat_of_zero_le hv0
  obtain ⟨a, rfl⟩ := Int.eq_ofNat_of_zero_le h.2.2.1
  obtain ⟨n, rfl⟩ := Int.eq_ofNat_of_zero_le (show 0 ≤ n by omega)
  rw [show ((a : Int) + (n : Int)).toNat = a + n from by omega]
  simp only [Int.toNat_natCast] at hw ⊢
  have hv2 : v < 2 ^ n := by
    simp only [fitsB, Bool.and_eq_true, Bool.or_eq_true, decide_eq_true_eq, Int.toNat_natCast] at hv
    have e : ((2 ^ n : Nat) : Int) = (2 : Int) ^ n := by simp
    rcases hv.2 with h1 | h1
    · rw [show n = 64 from by omega, p64]; omega
    · omega
  have hw2 : w < 2 ^ a := by
    have e : ((2 ^ a : Nat) : Int) = (2 : Int) ^ a := by simp
    omega
  have hsum : w + v * 2 ^ a < 2 ^ (a + n) := by
    have h3 : (v + 1) * 2 ^ a ≤ 2 ^ n * 2 ^ a := Nat.mul_le_mul_right _ hv2
    rw [Nat.add_mul, Nat.one_mul, ← Nat.pow_add, Nat.add_comm n a] at h3
    omega
  have hle := Nat.pow_le_pow_right (show 0 < 2 by decide) (show a + n ≤ 64 by omega)
  have e3 : (w : Int) + (v : Int) * 2 ^ a = ((w + v * 2 ^ a : Nat) : Int) := by simp
  rw [p64] at hle
  rw [shl_nat v a (v * 2 ^ a) (by omega) (by rw [p64]; omega), bits_or _ _ (by rw [p64]; omega) (by rw [p64]; omega), e3]
  refine ⟨?_, ?_, by omega⟩
  · have := Nat.two_pow_add_eq_or_of_lt hw2 v
    rw [Nat.or_comm, Nat.mul_comm v, ← this, Nat.add_comm]
  · have e4 : ((2 ^ (a + n) : Nat) : Int) = (2 : Int) ^ (a + n) := by simp
    omega
theorem p_Pack_l (l : List S153) : ∀ (pre : List S153) (k : Nat) (w a : Int), l.length < k → (pre ++ l).length < 2 ^ 60 → 0 ≤ w → w < 2 ^ a.toNat → 0 ≤ a → a ≤ 64 → (∀ b ∈ l, 0 ≤ b.f1 ∧ b.f1 < 18446744073709551616) →
    word_Pack.l0 k w a (pre ++ l) ((pre ++ l).length : Int) (pre.length : Int) = some (packF l w a) := by
  induction l with
  | nil =>
    intro pre k w a hk hl h0 h1 h2 h3 hb
    obtain ⟨k, rfl⟩ : ∃ m, k = m + 1 := ⟨k - 1, by omega⟩
    simp only [word_Pack.l0]
    rw [if_neg (by simp)]; rfl
  | cons b l ih =>
    intro pre k w a hk hl h0 h1 h2 h3 hb
    obtain ⟨k, rfl⟩ : ∃ m, k = m + 1 := ⟨k - 1, by omega⟩
    have hlen : (pre ++ b :: l).length = pre.length + 1 + l.length := by simp; omega
    have hrd : rd_T153 (pre ++ b :: l) (pre.length : Int) = b := by simp [rd_T153]
    have hb1 := hb b (by simp)
    simp only [word_Pack.l0]
    rw [if_pos (by omega), if_pos (by omega), if_pos (by omega), hrd, p_some, Option.bind_some]
    simp only [packF]
    by_cases c1 : okB a b.f0 = true
    · rw [if_pos c1, p_Fits b.f1 b.f0 hb1.1 hb1.2, Option.bind_some]
      by_cases c2 : fitsB b.f1 b.f0 = true
      · obtain ⟨e1, e2, e3⟩ := pack_step c1 c2 h0 h1 hb1.1 hb1.2
        have c1' := okB_iff.1 c1
        rw [if_pos c2, if_pos h2, if_pos ⟨c1, c2⟩, e1, wrap64_id _ (by omega) (by omega), wrap64_id _ (by omega) (by omega)]
        have := ih (pre ++ [b]) k (w + b.f1 * 2 ^ a.toNat) (a + b.f0) (by simpa using hk) (by simpa using hl) e3 e2 (by omega) (by omega) (fun x hx => hb x (by simp [hx]))
        simp only [List.append_assoc, List.cons_append, List.nil_append, List.length_append, List.length_cons, List.length_nil] at this
        rw [← this]
        simp
      · rw [if_neg c2, if_neg (fun h => c2 h.2)]
    · rw [if_neg c1, if_neg (fun h => c1 h.1)]
theorem p_Pack (k : Nat) (l : List S153) (hk : l.length < k) (hl : l.length < 2 ^ 60) (hb : ∀ b ∈ l, 0 ≤ b.f1 ∧ b.f1 < 18446744073709551616) : word_Pack.f k l = some (packF l 0 0) :=
  p_Pack_l l [] k 0 0 hk hl (by decide) (by decide) (by decide) (by decide) hb
theorem packF_yes {n v : Int} {l : List S153} {w a : Int} (h1 : okB a n = true) (h2 : fitsB v n = true) : packF (⟨n, v⟩ :: l) w a = packF l (w + v * 2 ^ a.toNat) (a + n) := by
  simp only [packF]; rw [if_pos ⟨h1, h2⟩]
theorem packF_no {n v : Int} {l : List S153} {w a : Int} (h2 : fitsB v n = false) : packF (⟨n, v⟩ :: l) w a = (0, false) := by
  simp only [packF]; rw [if_neg (by rw [h2]; simp)]
theorem p_tagged16 (k : Nat) (t s : Int) (hk : 3 ≤ k) (h0 : 0 ≤ t) (h1 : t < 18446744073709551616) : tag_tagged.f k t s 16 = some (topV t s) := by
  unfold tag_tagged.f topV
  rw [p_slots, Option.bind_some]
  by_cases h : -1 ≤ s ∧ s < 64
  · rw [if_pos (by simpa using h), wrap64_id (s + 1) (by omega) (by omega), wrap_u64_id _ (by omega) (by omega), p_Pack k _ (by simp; omega) (by simp) (by
      intro b hb
      simp at hb
      rcases hb with rfl | rfl <;> simp <;> omega)]
    rw [wrap64_id (64 - _) (by decide) (by decide), packF_yes (by decide) (by simp [fitsB]; omega)]
    by_cases h2 : t < 281474976710656
    · rw [packF_yes (by decide) (by simp [fitsB]; omega), if_pos (by omega)]
      simp [packF]; omega
    · rw [packF_no (by simp [fitsB]; omega), if_neg (by omega)]; rfl
  · rw [if_neg (by simpa using h), if_neg (by omega)]
theorem p_tagged32 (k : Nat) (t s : Int) (hk : 3 ≤ k) (h0 : 0 ≤ t) (h1 : t < 18446744073709551616) : tag_tagged.f k t s 32 = some (entryV t s) := by
  unfold tag_tagged.f entryV
  rw [p_slots, Option.bind_some]
  by_cases h : -1 ≤ s ∧ s < 64
  · rw [if_pos (by simpa using h), wrap64_id (s + 1) (by omega) (by omega), wrap_u64_id _ (by omega) (by omega), p_Pack k _ (by simp; omega) (by simp) (by
      intro b hb
      simp at hb
      rcases hb with rfl | rfl <;> simp <;> omega)]
    rw [wrap64_id (64 - _) (by decide) (by decide), packF_yes (by decide) (by simp [fitsB]; omega)]
    by_cases h2 : t < 4294967296
    · rw [packF_yes (by decide) (by simp [fitsB]; omega), if_pos (by omega)]
      simp [packF]; omega
    · rw [packF_no (by simp [fitsB]; omega), if_neg (by omega)]; rfl
  · rw [if_neg (by simpa using h), if_neg (by omega)]
theorem p_Top (k : Nat) (t s : Int) (hk : 3 ≤ k) (h0 : 0 ≤ t) (h1 : t < 18446744073709551616) : tag_Top.f k t s = some (topV t s) := by
  unfold tag_Top.f
  rw [p_tagged16 k t s hk h0 h1]; rfl
theorem p_pWithin (k : Nat) (S A C H G K s i : Int) (hk : 1 ≤ k) :
    plan_within.f k S A C H G K s i = some (if rightB S A C H G K = true ∧ 0 ≤ s ∧ s < S ∧ 0 ≤ i ∧ i < roomV A then slotsV C H + s * roomV A + i else -1) := by
  obtain ⟨k, rfl⟩ : ∃ m, k = m + 1 := ⟨k - 1, by omega⟩
  unfold plan_within.f
  rw [p_pRight, Option.bind_some]
  by_cases h : rightB S A C H G K = true
  · have h' := right_iff.1 h
    have r := roomV_bd (A := A) (by omega) (by omega)
    have sl := slotsV_bd (C := C) (H := H) (by omega) (by omega) (by omega) (by omega)
    rw [if_pos h, p_between, Option.bind_some, wrap64_id (S - 1) (by omega) (by omega)]
    by_cases h2 : 0 ≤ s ∧ s ≤ S - 1
    · have m := mul_le2 (a := s) (b := roomV A) (m := 64) (n := 10) (by omega) (by omega) (by omega) (by omega)
      rw [if_pos (decide_eq_true h2), p_pRoom S A C H G K (by omega) (by omega), Option.bind_some, p_between, Option.bind_some, wrap64_id (roomV A - 1) (by omega) (by omega)]
      simp only [plan_within.j0]
      by_cases h3 : 0 ≤ i ∧ i ≤ roomV A - 1
      · rw [if_neg (by simp [h3]), p_pSlots S A C H G K h, Option.bind_some, p_pRoom S A C H G K (by omega) (by omega), Option.bind_some, if_pos ⟨h, by omega, by omega, by omega, by omega⟩, wrap64_id (s * roomV A) (by omega) (by omega), wrap64_id (slotsV C H + s * roomV A) (by omega) (by omega), wrap64_id _ (by omega) (by omega)]
      · rw [if_pos (by rw [decide_eq_false h3]; rfl), if_neg (by omega)]
    · rw [if_neg (by simpa using h2)]
      simp only [plan_within.j0]
      rw [if_pos trivial, if_neg (by omega)]
  · rw [if_neg h, if_neg (fun c => h c.1)]
    simp only [plan_within.j0]
    rw [if_pos trivial]
theorem p_pLink (k : Nat) (S A C H G K s : Int) (hk : 1 ≤ k) : plan_Link.f k S A C H G K s = some (if rightB S A C H G K = true ∧ 0 ≤ s ∧ s < S then slotsV C H + s * roomV A + 1 else -1) := by
  unfold plan_Link.f
  rw [p_pWithin k S A C H G K s 1 hk, Option.bind_some]
  have r : 2 ≤ roomV A := by unfold roomV; split <;> omega
  by_cases h : rightB S A C H G K = true ∧ 0 ≤ s ∧ s < S
  · rw [if_pos h, if_pos ⟨h.1, h.2.1, h.2.2, by decide, by omega⟩]
  · rw [if_neg h, if_neg (fun c => h ⟨c.1, c.2.1, c.2.2.1⟩)]
theorem p_rRight (S A C H G K : Int) : withyref06_Right.f S A C H G K = some (rightB S A C H G K) := by
  unfold withyref06_Right.f rightB
  by_cases h1 : S ≥ 1
  · rw [if_pos h1]
    by_cases h2 : S ≤ 64
    · rw [if_pos h2]
      by_cases h3 : A ≥ 0
      · rw [if_pos h3]
        by_cases h4 : A ≤ 8
        · rw [if_pos h4]
          by_cases h5 : C ≥ 1
          · rw [if_pos h5]
            by_cases h6 : C ≤ 8
            · rw [if_pos h6]
              by_cases h7 : H ≥ 1
              · rw [if_pos h7]
                by_cases h8 : H ≤ 16
                · rw [if_pos h8]
                  by_cases h9 : G ≥ 1
                  · rw [if_pos h9]
                    by_cases h10 : G ≤ 1048576
                    · rw [if_pos h10]
                      by_cases h11 : K ≥ 0
                      · rw [if_pos h11]; congr 1; rw [Bool.eq_iff_iff]; simp only [decide_eq_true_eq]; omega
                      · rw [if_neg h11, decide_eq_false (by omega)]
                    · rw [if_neg h10, decide_eq_false (by omega)]
                  · rw [if_neg h9, decide_eq_false (by omega)]
                · rw [if_neg h8, decide_eq_false (by omega)]
              · rw [if_neg h7, decide_eq_false (by omega)]
            · rw [if_neg h6, decide_eq_false (by omega)]
          · rw [if_neg h5, decide_eq_false (by omega)]
        · rw [if_neg h4, decide_eq_false (by omega)]
      · rw [if_neg h3, decide_eq_false (by omega)]
    · rw [if_neg h2, decide_eq_false (by omega)]
  · rw [if_neg h1, decide_eq_false (by omega)]
theorem p_rRoom (S A C H G K : Int) : withyref06_Room.f S A C H G K = some (if A < 3 then 3 else A) := by
  unfold withyref06_Room.f
  split <;> rfl
def pinW (c : Nat) : S91 := ⟨⟨#[112, 105, 110]⟩, (c : Int), 0⟩
def entW (c i : Nat) : S91 := ⟨⟨#[101, 110, 116, 114, 121]⟩, (c : Int), (i : Int)⟩
def vsW (c : Nat) : List S91 := [⟨⟨#[118, 105, 101, 119]⟩, (c : Int), 0⟩, ⟨⟨#[115, 116, 97, 114, 116]⟩, (c : Int), 0⟩]
def hlW (s : Nat) : List S91 := [⟨⟨#[104, 101, 97, 100, 101, 114]⟩, (s : Int), 0⟩, ⟨⟨#[108, 105, 110, 107]⟩, (s : Int), 0⟩]
def bodyW (s i : Nat) : S91 := ⟨⟨#[98, 111, 100, 121]⟩, (s : Int), (i : Int)⟩
def headsW : List S91 := [⟨⟨#[99, 108, 111, 99, 107]⟩, 0, 0⟩, ⟨⟨#[101, 112, 111, 99, 104]⟩, 0, 0⟩, ⟨⟨#[103, 114, 97, 121, 115]⟩, 0, 0⟩, ⟨⟨#[116, 111, 112]⟩, 0, 0⟩]
def roomN (A : Int) : Nat := (if A < 3 then 3 else A).toNat
def slotW (R s : Nat) : List S91 := hlW s ++ (List.range' 0 R).map (bodyW s)
def wordsL (S C H R : Nat) : List S91 :=
  headsW ++ (List.range' 0 C).map pinW ++ (List.range' 0 C).flatMap (fun c => (List.range' 0 H).map (entW c)) ++ (List.range' 0 C).flatMap vsW ++ (List.range' 0 S).flatMap (slotW R)
theorem words_l0 (S A H G K : Int) (d : Nat) : ∀ (k i : Nat) (x : List S91), x.length + d < 4398046511104 → i + d ≤ 100 →
    withyref06_Words.l0 (k + d + 1) x (i : Int) S A ((i + d : Nat) : Int) H G K = withyref06_Words.l1 k (x ++ (List.range' i d).map pinW) 0 S A ((i + d : Nat) : Int) H G K := by
  induction d with
  | zero =>
    intro k i x hx hi
    simp only [withyref06_Words.l0]
    rw [if_neg (by omega)]; simp
  | succ d ih =>
    intro k i x hx hi
    rw [show k + (d + 1) + 1 = (k + d + 1) + 1 from by omega]
    rw [withyref06_Words.l0]
    rw [if_pos (by omega), if_pos (by omega), wrap64_id _ (by omega) (by omega), show (i : Int) + 1 = ((i + 1 : Nat) : Int) from by omega, show i + (d + 1) = (i + 1) + d from by omega, ih k (i + 1) _ (by simp; omega) (by omega)]
    rw [List.range'_succ, List.map_cons]
    simp [pinW]
theorem words_l2 (S A C G K : Int) (c : Nat) (d : Nat) : ∀ (k i : Nat) (x : List S91), x.length + d < 4398046511104 → i + d ≤ 100 → c ≤ 100 →
    withyref06_Words.l2 (k + d + 1) x (c : Int) (i : Int) S A C ((i + d : Nat) : Int) G K = withyref06_Words.l1 k (x ++ (List.range' i d).map (entW c)) ((c + 1 : Nat) : Int) S A C ((i + d : Nat) : Int) G K := by
  induction d with
  | zero =>
    intro k i x hx hi hc
    simp only [withyref06_Words.l2]
    rw [if_neg (by omega), wrap64_id _ (by omega) (by omega)]; simp
  | succ d ih =>
    intro k i x hx hi hc
    rw [show k + (d + 1) + 1 = (k + d + 1) + 1 from by omega]
    rw [withyref06_Words.l2]
    rw [if_pos (by omega), if_pos (by omega), wrap64_id _ (by omega) (by omega), show (i : Int) + 1 = ((i + 1 : Nat) : Int) from by omega, show i + (d + 1) = (i + 1) + d from by omega, ih k (i + 1) _ (by simp; omega) (by omega) hc]
    rw [List.range'_succ, List.map_cons]
    simp [entW]
theorem words_l1 (S A G K : Int) (H : Nat) (hH : H ≤ 100) (d : Nat) : ∀ (k i : Nat) (x : List S91), x.length + d * H < 4398046511104 → i + d ≤ 100 →
    withyref06_Words.l1 (k + d * (H + 2) + 1) x (i : Int) S A ((i + d : Nat) : Int) (H : Int) G K = withyref06_Words.l3 k (x ++ (List.range' i d).flatMap fun c => (List.range' 0 H).map (entW c)) 0 S A ((i + d : Nat) : Int) (H : Int) G K := by
  induction d with
  | zero =>
    intro k i x hx hi
    simp only [withyref06_Words.l1]
    rw [if_neg (by omega)]; simp
  | succ d ih =>
    intro k i x hx hi
    have e : (d + 1) * H = d * H + H := by rw [Nat.add_mul, Nat.one_mul]
    rw [show k + (d + 1) * (H + 2) + 1 = ((k + d * (H + 2) + 1) + H + 1) + 1 from by rw [Nat.add_mul]; omega]
    rw [withyref06_Words.l1]
    rw [if_pos (by omega)]
    have h2 := words_l2 S A ((i + (d + 1) : Nat) : Int) G K i H (k + d * (H + 2) + 1) 0 x (by omega) (by omega) (by omega)
    rw [Nat.zero_add] at h2
    rw [show (0 : Int) = ((0 : Nat) : Int) from rfl, h2, show i + (d + 1) = (i + 1) + d from by omega, ih k (i + 1) _ (by simp; omega) (by omega)]
    rw [List.range'_succ, List.flatMap_cons]
    simp
theorem words_l3 (S A H G K : Int) (d : Nat) : ∀ (k i : Nat) (x : List S91), x.length + 2 * d < 4398046511104 → i + d ≤ 100 →
    withyref06_Words.l3 (k + d + 1) x (i : Int) S A ((i + d : Nat) : Int) H G K = withyref06_Words.l4 k (x ++ (List.range' i d).flatMap vsW) 0 S A ((i + d : Nat) : Int) H G K := by
  induction d with
  | zero =>
    intro k i x hx hi
    simp only [withyref06_Words.l3]
    rw [if_neg (by omega)]; simp
  | succ d ih =>
    intro k i x hx hi
    rw [show k + (d + 1) + 1 = (k + d + 1) + 1 from by omega]
    rw [withyref06_Words.l3]
    rw [if_pos (by omega), Option.bind_some, if_pos (by simp; omega), wrap64_id _ (by omega) (by omega), show (i : Int) + 1 = ((i + 1 : Nat) : Int) from by omega, show i + (d + 1) = (i + 1) + d from by omega, ih k (i + 1) _ (by simp; omega) (by omega)]
    rw [List.range'_succ, List.flatMap_cons]
    simp [vsW]
theorem words_l5 (S A C H G K : Int) (s : Nat) (d : Nat) : ∀ (k i : Nat) (x : List S91), x.length + d < 4398046511104 → i + d = roomN A → A ≤ 100 → s ≤ 100 →
    withyref06_Words.l5 (k + d + 1) x (s : Int) (i : Int) S A C H G K = withyref06_Words.l4 k (x ++ (List.range' i d).map (bodyW s)) ((s + 1 : Nat) : Int) S A C H G K := by
  have hr : (if A < 3 then 3 else A) = ((roomN A : Nat) : Int) := by unfold roomN; split <;> omega
  have hb : A ≤ 100 → roomN A ≤ 100 := by intro h; unfold roomN; split <;> omega
  induction d with
  | zero =>
    intro k i x hx hi hA hs
    simp only [withyref06_Words.l5]
    rw [p_rRoom, Option.bind_some, hr, if_neg (by omega), wrap64_id _ (by omega) (by omega)]; simp
  | succ d ih =>
    intro k i x hx hi hA hs
    have := hb hA
    rw [show k + (d + 1) + 1 = (k + d + 1) + 1 from by omega]
    rw [withyref06_Words.l5]
    rw [p_rRoom, Option.bind_some, hr, if_pos (by omega), if_pos (by omega), wrap64_id _ (by omega) (by omega), show (i : Int) + 1 = ((i + 1 : Nat) : Int) from by omega, ih k (i + 1) _ (by simp; omega) (by omega) hA hs]
    rw [List.range'_succ, List.map_cons]
    simp [bodyW]
theorem words_l4 (A C H G K : Int) (hA : A ≤ 100) (d : Nat) : ∀ (k i : Nat) (x : List S91), x.length + d * (roomN A + 2) < 4398046511104 → i + d ≤ 100 →
    withyref06_Words.l4 (k + d * (roomN A + 2) + 1) x (i : Int) ((i + d : Nat) : Int) A C H G K = some (x ++ (List.range' i d).flatMap (slotW (roomN A))) := by
  induction d with
  | zero =>
    intro k i x hx hi
    simp only [withyref06_Words.l4]
    rw [if_neg (by omega)]; simp
  | succ d ih =>
    intro k i x hx hi
    have e : (d + 1) * (roomN A + 2) = d * (roomN A + 2) + (roomN A + 2) := by rw [Nat.add_mul, Nat.one_mul]
    rw [show k + (d + 1) * (roomN A + 2) + 1 = ((k + d * (roomN A + 2) + 1) + roomN A + 1) + 1 from by omega]
    rw [withyref06_Words.l4]
    rw [if_pos (by omega), Option.bind_some, if_pos (by simp; omega)]
    rw [show (0 : Int) = ((0 : Nat) : Int) from rfl, words_l5 _ A C H G K i (roomN A) (k + d * (roomN A + 2) + 1) 0 _ (by simp; omega) (by omega) hA (by omega), show i + (d + 1) = (i + 1) + d from by omega, ih k (i + 1) _ (by simp; omega) (by omega)]
    rw [List.range'_succ, List.flatMap_cons]
    simp [slotW, hlW]
theorem sum_const (m : Nat) : ∀ (l : List Nat), (l.map fun _ => m).sum = l.length * m := by
  intro l
  induction l with
  | nil => simp
  | cons a l ih => rw [List.map_cons, List.sum_cons, ih, List.length_cons, Nat.add_mul]; omega
theorem ents_len (C H : Nat) : ((List.range' 0 C).flatMap (fun c => (List.range' 0 H).map (entW c))).length = C * H := by
  rw [List.length_flatMap]
  have := sum_const H (List.range' 0 C)
  simpa using this
theorem vs_len (C : Nat) : ((List.range' 0 C).flatMap vsW).length = C * 2 := by
  rw [List.length_flatMap]
  have := sum_const 2 (List.range' 0 C)
  simpa [vsW] using this
theorem p_rWords (k : Nat) (S C H : Nat) (A G K : Int) (hk : 2000 ≤ k) (hS : S ≤ 64) (hC : C ≤ 8) (hH : H ≤ 16) (hA : A ≤ 8) : withyref06_Words.f k (S : Int) A (C : Int) (H : Int) G K = some (wordsL S C H (roomN A)) := by
  have hR : roomN A ≤ 8 := by unfold roomN; split <;> omega
  have b1 : S * (roomN A + 2) ≤ 64 * 10 := Nat.mul_le_mul hS (by omega)
  have b2 : C * (H + 2) ≤ 8 * 18 := Nat.mul_le_mul hC (by omega)
  have b3 : C * H ≤ 8 * 16 := Nat.mul_le_mul hC hH
  refine at_rounds (k := (((0 + S * (roomN A + 2) + 1) + C + 1) + C * (H + 2) + 1) + C + 1) (withyref06_Words.mono _ _ _ _ _ _) (by omega) ?_
  have h0 := words_l0 S A H G K C (((0 + S * (roomN A + 2) + 1) + C + 1) + C * (H + 2) + 1) 0 headsW (by simp [headsW]; omega) (by omega)
  have h1 := words_l1 S A G K H (by omega) C ((0 + S * (roomN A + 2) + 1) + C + 1) 0 (headsW ++ (List.range' 0 C).map pinW) (by simp [headsW]; omega) (by omega)
  have l2 := ents_len C H
  have h3 := words_l3 S A H G K C (0 + S * (roomN A + 2) + 1) 0 (headsW ++ (List.range' 0 C).map pinW ++ (List.range' 0 C).flatMap (fun c => (List.range' 0 H).map (entW c))) (by rw [List.length_append, l2]; simp [headsW]; omega) (by omega)
  have l3 := vs_len C
  have h4 := words_l4 A C H G K (by omega) S 0 0 (headsW ++ (List.range' 0 C).map pinW ++ (List.range' 0 C).flatMap (fun c => (List.range' 0 H).map (entW c)) ++ (List.range' 0 C).flatMap vsW) (by rw [List.length_append, List.length_append, l2, l3]; simp [headsW]; omega) (by omega)
  simp only [Nat.zero_add] at h0 h1 h3 h4
  unfold withyref06_Words.f
  simp only [Nat.zero_add]
  exact (h0.trans (h1.trans (h3.trans h4)))
theorem wordsL_length (S C H R : Nat) : (wordsL S C H R).length = 4 + C + C * H + C * 2 + S * (R + 2) := by
  unfold wordsL
  simp only [List.length_append, List.length_flatMap, List.length_map, List.length_range']
  have e1 : ((List.range' 0 C).map fun _ => H).sum = C * H := by rw [sum_const]; simp
  have e2 : ((List.range' 0 C).map fun a => (vsW a).length).sum = C * 2 := by
    have := sum_const 2 (List.range' 0 C)
    simpa [vsW] using this
  have e3 : ((List.range' 0 S).map fun a => (slotW R a).length).sum = S * (R + 2) := by
    have := sum_const (R + 2) (List.range' 0 S)
    simp only [List.length_range'] at this
    rw [← this]
    congr 1
    apply List.map_congr_left
    intro a _
    simp [slotW, hlW]
  rw [e1, e2, e3]
  rfl
theorem sizes_eq (S C H : Nat) (A : Int) : ((wordsL S C H (roomN A)).length : Int) = sizeV (S : Int) A (C : Int) (H : Int) := by
  have e : ((roomN A : Nat) : Int) = (if A < 3 then 3 else A) := by unfold roomN; split <;> omega
  rw [wordsL_length]
  unfold sizeV slotsV roomV
  rw [← e]
  simp only [Int.natCast_add, Int.natCast_mul, Int.mul_add]
  omega
/-- Where a word stands, by its name. -/
def posW (C H R : Int) (x : S91) : Int :=
  if x.f0.data.toList = [99, 108, 111, 99, 107] then 0 else if x.f0.data.toList = [101, 112, 111, 99, 104] then 1 else if x.f0.data.toList = [103, 114, 97, 121, 115] then 2 else if x.f0.data.toList = [116, 111, 112] then 3
  else if x.f0.data.toList = [112, 105, 110] then 4 + x.f1 else if x.f0.data.toList = [101, 110, 116, 114, 121] then 4 + C + x.f1 * H + x.f2
  else if x.f0.data.toList = [118, 105, 101, 119] then 4 + (1 + H) * C + x.f1 * 2 else if x.f0.data.toList = [115, 116, 97, 114, 116] then 4 + (1 + H) * C + x.f1 * 2 + 1
  else if x.f0.data.toList = [104, 101, 97, 100, 101, 114] then 4 + C * (1 + H + 2) + x.f1 * (2 + R) else if x.f0.data.toList = [108, 105, 110, 107] then 4 + C * (1 + H + 2) + x.f1 * (2 + R) + 1
  else 4 + C * (1 + H + 2) + x.f1 * (2 + R) + (2 + x.f2)
def Idx (pos : S91 → Int) (b : Int) (l : List S91) : Prop := ∀ (j : Nat) (p : S91), l[j]? = some p → pos p = b + j
theorem Idx.append {pos : S91 → Int} {b : Int} {l m : List S91} (hl : Idx pos b l) (hm : Idx pos (b + l.length) m) : Idx pos b (l ++ m) := by
  intro j p h
  by_cases hj : j < l.length
  · rw [List.getElem?_append_left hj] at h; exact hl j p h
  · rw [List.getElem?_append_right (by omega)] at h
    have := hm _ p h
    omega
theorem Idx.map {pos : S91 → Int} {f : Nat → S91} {b : Int} (n : Nat) (h : ∀ k : Nat, pos (f k) = b + k) : ∀ i : Nat, Idx pos (b + i) ((List.range' i n).map f) := by
  induction n with
  | zero => intro i j p hp; simp at hp
  | succ n ih =>
    intro i j p hp
    rw [List.range'_succ, List.map_cons] at hp
    match j, hp with
    | 0, hp => simp at hp; subst hp; rw [h]; omega
    | j + 1, hp =>
      rw [List.getElem?_cons_succ] at hp
      have := ih (i + 1) j p hp
      omega
theorem Idx.flat {pos : S91 → Int} {f : Nat → List S91} {b : Int} {m : Nat} (n : Nat) (hm : ∀ k, (f k).length = m) (h : ∀ k : Nat, Idx pos (b + k * m) (f k)) : ∀ i : Nat, Idx pos (b + i * m) ((List.range' i n).flatMap f) := by
  induction n with
  | zero => intro i j p hp; simp at hp
  | succ n ih =>
    intro i
    rw [List.range'_succ, List.flatMap_cons]
    refine (h i).append ?_
    have := ih (i + 1)
    rw [hm i, show b + (i : Int) * (m : Int) + (m : Int) = b + ((i + 1 : Nat) : Int) * (m : Int) from by rw [Int.natCast_add, Int.add_mul]; omega]
    exact this
theorem pos_pin (C H R : Int) (k : Nat) : posW C H R (pinW k) = 4 + k := by simp [posW, pinW]
theorem pos_ent (C H R : Int) (c i : Nat) : posW C H R (entW c i) = 4 + C + c * H + i := by simp [posW, entW]
theorem pos_body (C H R : Int) (s i : Nat) : posW C H R (bodyW s i) = 4 + C * (1 + H + 2) + s * (2 + R) + (2 + i) := by simp [posW, bodyW]
theorem idx_words (S C H R : Nat) : Idx (posW C H R) 0 (wordsL S C H R) := by
  unfold wordsL
  have l1 := ents_len C H
  have l2 := vs_len C
  refine (((Idx.append ?_ ?_).append ?_).append ?_).append ?_
  · intro j p hp
    match j, hp with
    | 0, hp => simp [headsW] at hp; subst hp; simp [posW]
    | 1, hp => simp [headsW] at hp; subst hp; simp [posW]
    | 2, hp => simp [headsW] at hp; subst hp; simp [posW]
    | 3, hp => simp [headsW] at hp; subst hp; simp [posW]
    | j + 4, hp => simp [headsW] at hp
  · have := Idx.map (pos := posW C H R) (f := pinW) (b := 4) C (fun k => pos_pin _ _ _ k) 0
    exact this
  · have := Idx.flat (pos := posW C H R) (f := fun c => (List.range' 0 H).map (entW c)) (b := 4 + C) (m := H) C (fun k => by simp) (fun k => by
      have := Idx.map (pos := posW C H R) (f := entW k) (b := 4 + C + k * H) H (fun i => by rw [pos_ent]) 0
      simpa using this) 0
    simp only [List.length_append, List.length_map, List.length_range'] at this ⊢
    rw [show (0 : Int) + ((headsW.length + C : Nat) : Int) = 4 + C + ((0 : Nat) : Int) * H from by simp [headsW]]
    exact this
  · have := Idx.flat (pos := posW C H R) (f := vsW) (b := 4 + (1 + H) * C) (m := 2) C (fun k => rfl) (fun k => by
      intro j p hp
      match j, hp with
      | 0, hp => simp [vsW] at hp; subst hp; simp [posW]
      | 1, hp => simp [vsW] at hp; subst hp; simp [posW]
      | j + 2, hp => simp [vsW] at hp) 0
    simp only [List.length_append, l1, List.length_map, List.length_range'] at this ⊢
    rw [show (0 : Int) + ((headsW.length + C + C * H : Nat) : Int) = 4 + (1 + (H : Int)) * C + ((0 : Nat) : Int) * ((2 : Nat) : Int) from by
      simp [headsW]
      have e : (1 + (H : Int)) * C = C + C * H := by rw [Int.add_mul, Int.one_mul, Int.mul_comm (H : Int)]
      omega]
    exact this
  · have := Idx.flat (pos := posW C H R) (f := slotW R) (b := 4 + C * (1 + H + 2)) (m := 2 + R) S (fun k => by simp [slotW, hlW]; omega) (fun k => by
      unfold slotW
      refine Idx.append ?_ ?_
      · intro j p hp
        match j, hp with
        | 0, hp => simp [hlW] at hp; subst hp; simp [posW]
        | 1, hp => simp [hlW] at hp; subst hp; simp [posW]
        | j + 2, hp => simp [hlW] at hp
      · have := Idx.map (pos := posW C H R) (f := bodyW k) (b := 4 + C * (1 + H + 2) + k * (2 + R) + 2) R (fun i => by rw [pos_body]; omega) 0
        simpa [hlW] using this) 0
    simp only [List.length_append, l1, l2, List.length_map, List.length_range'] at this ⊢
    rw [show (0 : Int) + ((headsW.length + C + C * H + C * 2 : Nat) : Int) = 4 + (C : Int) * (1 + H + 2) + ((0 : Nat) : Int) * ((2 + R : Nat) : Int) from by simp [headsW, Int.mul_add]; omega]
    exact this
theorem same_word {x : S91} {t0 : ByteArray} {t1 t2 : Int} : (x.f0.toList == t0.toList && (x.f1 == t1 && x.f2 == t2)) = true ↔ x = ⟨t0, t1, t2⟩ := by
  constructor
  · intro h
    simp only [Bool.and_eq_true, beq_iff_eq] at h
    obtain ⟨h1, h2, h3⟩ := h
    have : x.f0 = t0 := by
      rw [toList_data, toList_data] at h1
      cases hx : x.f0
      cases ht : t0
      rw [hx, ht] at h1
      simpa using h1
    cases x
    simp_all
  · rintro rfl; simp
theorem at_l (pos : S91 → Int) (l : List S91) (hx : Idx pos 0 l) (hl : l.length < 100000) (t0 : ByteArray) (t1 t2 : Int) (d : Nat) : ∀ (k i : Nat), i + d = l.length → d < k →
    ((⟨t0, t1, t2⟩ : S91) ∈ l.drop i → withyref06_At.l0 k l (i : Int) t0 t1 t2 = some (pos ⟨t0, t1, t2⟩)) ∧ ((⟨t0, t1, t2⟩ : S91) ∉ l.drop i → withyref06_At.l0 k l (i : Int) t0 t1 t2 = some (-1)) := by
  induction d with
  | zero =>
    intro k i hi hk
    obtain ⟨k, rfl⟩ : ∃ m, k = m + 1 := ⟨k - 1, by omega⟩
    rw [withyref06_At.l0, if_neg (by omega), List.drop_eq_nil_of_le (by omega)]
    exact ⟨fun h => absurd h (by simp), fun _ => rfl⟩
  | succ d ih =>
    intro k i hi hk
    obtain ⟨k, rfl⟩ : ∃ m, k = m + 1 := ⟨k - 1, by omega⟩
    have hlt : i < l.length := by omega
    have hr : rd_T91 l (i : Int) = l[i] := by simp [rd_T91, List.getD, List.getElem?_eq_getElem hlt]
    rw [withyref06_At.l0, if_pos (by omega), if_pos (by omega), hr, List.drop_eq_getElem_cons hlt]
    by_cases c : l[i] = (⟨t0, t1, t2⟩ : S91)
    · have := hx i _ (List.getElem?_eq_getElem hlt)
      rw [if_pos (same_word.2 c), ← c, this]
      exact ⟨fun _ => by simp, fun h => absurd List.mem_cons_self h⟩
    · rw [if_neg (fun h => c (same_word.1 h)), wrap64_id _ (by omega) (by omega), show (i : Int) + 1 = ((i + 1 : Nat) : Int) from by omega]
      obtain ⟨h1, h2⟩ := ih k (i + 1) (by omega) (by omega)
      refine ⟨fun h => h1 ?_, fun h => h2 (fun m => h (List.mem_cons_of_mem _ m))⟩
      rcases List.mem_cons.1 h with h | h
      · exact absurd h.symm c
      · exact h
theorem words_len_lt {S C H R : Nat} (hS : S ≤ 64) (hC : C ≤ 8) (hH : H ≤ 16) (hR : R ≤ 8) : (wordsL S C H R).length < 1200 := by
  rw [wordsL_length]
  have b1 : S * (R + 2) ≤ 64 * 10 := Nat.mul_le_mul hS (by omega)
  have b3 : C * H ≤ 8 * 16 := Nat.mul_le_mul hC hH
  omega
theorem roomN_le {A : Int} (h : A ≤ 8) : roomN A ≤ 8 := by unfold roomN; split <;> omega
theorem p_rAt (k : Nat) (S C H : Nat) (A G K : Int) (t0 : ByteArray) (t1 t2 : Int) (hk : 2000 ≤ k) (h : rightB S A C H G K = true) (p : Prop) [Decidable p] (hp : (⟨t0, t1, t2⟩ : S91) ∈ wordsL S C H (roomN A) ↔ p) :
    withyref06_At.f k S A C H G K t0 t1 t2 = some (if p then posW C H (roomN A) ⟨t0, t1, t2⟩ else -1) := by
  unfold withyref06_At.f
  have h' := right_iff.1 h
  have hl := words_len_lt (S := S) (C := C) (H := H) (R := roomN A) (by omega) (by omega) (by omega) (roomN_le (by omega))
  rw [p_rRight, Option.bind_some, if_pos h, p_rWords k S C H A G K hk (by omega) (by omega) (by omega) (by omega), Option.bind_some]
  obtain ⟨h1, h2⟩ := at_l (posW C H (roomN A)) (wordsL S C H (roomN A)) (idx_words S C H (roomN A)) (by omega) t0 t1 t2 (wordsL S C H (roomN A)).length k 0 (by omega) (by omega)
  rw [List.drop_zero, hp] at h1 h2
  by_cases c : p
  · rw [if_pos c]; exact h1 c
  · rw [if_neg c]; exact h2 c
theorem p_rAt_no (k : Nat) (S C H : Int) (A G K : Int) (t0 : ByteArray) (t1 t2 : Int) (h : ¬ rightB S A C H G K = true) : withyref06_At.f k S A C H G K t0 t1 t2 = some (-1) := by
  unfold withyref06_At.f
  rw [p_rRight, Option.bind_some, if_neg h]
theorem mem_words {S C H R : Nat} {x : S91} : x ∈ wordsL S C H R ↔ x ∈ headsW ∨ (∃ c, c < C ∧ x = pinW c) ∨ (∃ c i, c < C ∧ i < H ∧ x = entW c i) ∨ (∃ c, c < C ∧ x ∈ vsW c) ∨ ∃ s, s < S ∧ (x ∈ hlW s ∨ ∃ i, i < R ∧ x = bodyW s i) := by
  unfold wordsL slotW
  simp only [List.mem_append, List.mem_map, List.mem_flatMap, List.mem_range'_1, Nat.zero_le, Nat.zero_add, true_and]
  constructor
  · rintro ((((h | ⟨c, hc, rfl⟩) | ⟨c, hc, i, hi, rfl⟩) | ⟨c, hc, h⟩) | ⟨s, hs, h | ⟨i, hi, rfl⟩⟩)
    · exact .inl h
    · exact .inr (.inl ⟨c, hc, rfl⟩)
    · exact .inr (.inr (.inl ⟨c, i, hc, hi, rfl⟩))
    · exact .inr (.inr (.inr (.inl ⟨c, hc, h⟩)))
    · exact .inr (.inr (.inr (.inr ⟨s, hs, .inl h⟩)))
    · exact .inr (.inr (.inr (.inr ⟨s, hs, .inr ⟨i, hi, rfl⟩⟩)))
  · rintro (h | ⟨c, hc, rfl⟩ | ⟨c, i, hc, hi, rfl⟩ | ⟨c, hc, h⟩ | ⟨s, hs, h | ⟨i, hi, rfl⟩⟩)
    · exact .inl (.inl (.inl (.inl h)))
    · exact .inl (.inl (.inl (.inr ⟨c, hc, rfl⟩)))
    · exact .inl (.inl (.inr ⟨c, hc, i, hi, rfl⟩))
    · exact .inl (.inr ⟨c, hc, h⟩)
    · exact .inr ⟨s, hs, .inl h⟩
    · exact .inr ⟨s, hs, .inr ⟨i, hi, rfl⟩⟩
theorem mem_pin {S C H R : Nat} {a : Int} : (⟨⟨#[112, 105, 110]⟩, a, 0⟩ : S91) ∈ wordsL S C H R ↔ 0 ≤ a ∧ a < C := by
  rw [mem_words]
  simp only [headsW, pinW, entW, vsW, hlW, bodyW, List.mem_cons, List.not_mem_nil, S91.mk.injEq, ByteArray.mk.injEq]
  simp
  constructor
  · rintro ⟨c, hc, rfl⟩; omega
  · intro h; exact ⟨a.toNat, by omega, by omega⟩
theorem mem_ent {S C H R : Nat} {a b : Int} : (⟨⟨#[101, 110, 116, 114, 121]⟩, a, b⟩ : S91) ∈ wordsL S C H R ↔ 0 ≤ a ∧ a < C ∧ 0 ≤ b ∧ b < H := by
  rw [mem_words]
  simp only [headsW, pinW, entW, vsW, hlW, bodyW, List.mem_cons, List.not_mem_nil, S91.mk.injEq, ByteArray.mk.injEq]
  simp
  constructor
  · rintro ⟨c, hc, i, hi, rfl, rfl⟩; omega
  · intro h; exact ⟨a.toNat, by omega, b.toNat, by omega, by omega, by omega⟩
theorem mem_view {S C H R : Nat} {a : Int} : (⟨⟨#[118, 105, 101, 119]⟩, a, 0⟩ : S91) ∈ wordsL S C H R ↔ 0 ≤ a ∧ a < C := by
  rw [mem_words]
  simp only [headsW, pinW, entW, vsW, hlW, bodyW, List.mem_cons, List.not_mem_nil, S91.mk.injEq, ByteArray.mk.injEq]
  simp
  constructor
  · rintro ⟨c, hc, rfl⟩; omega
  · intro h; exact ⟨a.toNat, by omega, by omega⟩
theorem mem_start {S C H R : Nat} {a : Int} : (⟨⟨#[115, 116, 97, 114, 116]⟩, a, 0⟩ : S91) ∈ wordsL S C H R ↔ 0 ≤ a ∧ a < C := by
  rw [mem_words]
  simp only [headsW, pinW, entW, vsW, hlW, bodyW, List.mem_cons, List.not_mem_nil, S91.mk.injEq, ByteArray.mk.injEq]
  simp
  constructor
  · rintro ⟨c, hc, rfl⟩; omega
  · intro h; exact ⟨a.toNat, by omega, by omega⟩
theorem mem_header {S C H R : Nat} {a : Int} : (⟨⟨#[104, 101, 97, 100, 101, 114]⟩, a, 0⟩ : S91) ∈ wordsL S C H R ↔ 0 ≤ a ∧ a < S := by
  rw [mem_words]
  simp only [headsW, pinW, entW, vsW, hlW, bodyW, List.mem_cons, List.not_mem_nil, S91.mk.injEq, ByteArray.mk.injEq]
  simp
  constructor
  · rintro ⟨c, hc, rfl⟩; omega
  · intro h; exact ⟨a.toNat, by omega, by omega⟩
theorem mem_link {S C H R : Nat} {a : Int} : (⟨⟨#[108, 105, 110, 107]⟩, a, 0⟩ : S91) ∈ wordsL S C H R ↔ 0 ≤ a ∧ a < S := by
  rw [mem_words]
  simp only [headsW, pinW, entW, vsW, hlW, bodyW, List.mem_cons, List.not_mem_nil, S91.mk.injEq, ByteArray.mk.injEq]
  simp
  constructor
  · rintro ⟨c, hc, rfl⟩; omega
  · intro h; exact ⟨a.toNat, by omega, by omega⟩
theorem mem_body {S C H R : Nat} {a b : Int} : (⟨⟨#[98, 111, 100, 121]⟩, a, b⟩ : S91) ∈ wordsL S C H R ↔ 0 ≤ a ∧ a < S ∧ 0 ≤ b ∧ b < R := by
  rw [mem_words]
  simp only [headsW, pinW, entW, vsW, hlW, bodyW, List.mem_cons, List.not_mem_nil, S91.mk.injEq, ByteArray.mk.injEq]
  simp
  constructor
  · rintro ⟨c, hc, i, hi, rfl, rfl⟩; omega
  · intro h; exact ⟨a.toNat, by omega, b.toNat, by omega, by omega, by omega⟩

end Go.Proofs.Ytijfkpoofpcacaa.PuArenaPlays
