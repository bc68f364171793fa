/-
  Contracts of the functions of layer 1 and of its reference (bits of words), walked by hand; conditions: the words' kinds.
-/
import Derived.Test.YtfbdkdhpmpeipaaPTagHandlesx2
import Derived.Test.YtfbdkdhpmpeipaaCore
import Derived.Lib.Hide
import Derived.Outline
namespace Go.Proofs.Ytfbdkdhpmpeipaa.WordC
open Go.RowKit Go.Proofs.Ytfbdkdhpmpeipaa.PTagHandles Go.Proofs.YtfbdkdhpmpeipaaW.PrintWords Go.Proofs.YtfbdkdhpmpeipaaW.PrintLast Go.Proofs.Ytfbdkdhpmpeipaa.Core

theorem p_some (a n : Int) : word_some.f a n = some (okB a n) := by
  unfold word_some.f okB
  by_cases h1 : n ≥ 1
  · by_cases h2 : n ≤ 64
    · by_cases h3 : a ≥ 0
      · rw [if_pos h1, if_pos h2, if_pos h3, wrap64_id _ (by omega) (by omega)]
        simp [show 1 ≤ n from h1, h2, show 0 ≤ a from h3]
      · rw [if_pos h1, if_pos h2, if_neg h3]; simp [show ¬ 0 ≤ a from h3]
    · rw [if_pos h1, if_neg h2]; simp [h2]
  · rw [if_neg h1]; simp [show ¬ 1 ≤ n from h1]
theorem p_mask (n : Nat) (h : n ≤ 64) : word_mask.f (n : Int) = some ((2 ^ n - 1 : Nat) : Int) := by
  unfold word_mask.f shl
  rw [if_pos (by omega), Int.toNat_natCast, show IntKind.bits .u64 = 64 from rfl, Nat.min_eq_left h]
  have h1 := Nat.pow_le_pow_right (show 0 < 2 by decide) h
  rw [p64] at h1
  have h2 : ((2 ^ n : Nat) : Int) = (2 : Int) ^ n := by simp
  have h3 := Nat.two_pow_pos n
  rw [wrap_u64, wrap_u64, ← h2]
  congr 1
  omega
theorem p_Get (w a n : Int) (h0 : 0 ≤ w) (h1 : w < 18446744073709551616) : word_Get.f w a n = some (getV w a n) := by
  unfold word_Get.f getV
  rw [p_some, Option.bind_some]
  by_cases h : okB a n = true
  · rw [if_pos h, if_pos h]
    rw [okB_iff] at h
    obtain ⟨w, rfl⟩ := Int.eq_ofNat_of_zero_le h0
    obtain ⟨a, rfl⟩ := Int.eq_ofNat_of_zero_le h.2.2.1
    obtain ⟨n, rfl⟩ := Int.eq_ofNat_of_zero_le (show 0 ≤ n by omega)
    rw [if_pos (by omega), p_mask n (by omega), Option.bind_some]
    unfold shr
    rw [Int.toNat_natCast, Int.toNat_natCast, show IntKind.bits .u64 = 64 from rfl, Nat.min_eq_left (by omega)]
    have e1 : (w : Int) / 2 ^ a = ((w / 2 ^ a : Nat) : Int) := by simp
    have e2 : (w : Int) / 2 ^ a % 2 ^ n = ((w / 2 ^ a % 2 ^ n : Nat) : Int) := by simp
    have h2 := Nat.pow_le_pow_right (show 0 < 2 by decide) (show n ≤ 64 by omega)
    have h3 : w / 2 ^ a ≤ w := Nat.div_le_self _ _
    have h4 := Nat.two_pow_pos n
    rw [p64] at h2
    rw [e2, e1, bits_and _ _ (by rw [p64]; omega) (by rw [p64]; omega), Nat.and_two_pow_sub_one_eq_mod]
  · rw [if_neg h, if_neg h]
theorem p_Fits (v n : Int) (h0 : 0 ≤ v) (h1 : v < 18446744073709551616) : word_Fits.f v n = some (fitsB v n) := by
  unfold word_Fits.f fitsB
  by_cases ha : n ≥ 0
  · by_cases hb : n > 63
    · rw [if_pos ha, if_pos hb]; simp [show 0 ≤ n from ha, show 63 < n from hb]
    · rw [if_pos ha, if_neg hb, if_pos ha]
      unfold shr
      rw [show IntKind.bits .u64 = 64 from rfl, Nat.min_eq_left (by omega)]
      obtain ⟨n, rfl⟩ := Int.eq_ofNat_of_zero_le (show 0 ≤ n from ha)
      obtain ⟨v, rfl⟩ := Int.eq_ofNat_of_zero_le h0
      rw [Int.toNat_natCast]
      congr 1
      have e1 : (v : Int) / 2 ^ n = ((v / 2 ^ n : Nat) : Int) := by simp
      have e2 : (2 : Int) ^ n = ((2 ^ n : Nat) : Int) := by simp
      rw [e1, e2, Bool.eq_iff_iff]
      have h3 := Nat.div_eq_zero_iff (a := v) (b := 2 ^ n)
      have h4 := Nat.two_pow_pos n
      simp only [beq_iff_eq, Bool.and_eq_true, Bool.or_eq_true, decide_eq_true_eq]
      constructor
      · intro h
        have := h3.1 (by omega)
        omega
      · intro h
        have := h3.2 (by omega)
        omega
  · rw [if_neg ha]; simp [show ¬ 0 ≤ n from ha]
def packF : List S36 → Int → Int → Int × Bool
  | [], w, _ => (w, true)
  | b :: l, w, a => if okB a b.f0 = true ∧ fitsB b.f1 b.f0 = true then packF l (w + b.f1 * 2 ^ a.toNat) (a + b.f0) else (0, false)
theorem pack_step {w a v n : Int} (h : okB a n = true) (hv : fitsB v n = true) (hw0 : 0 ≤ w) (hw : w < 2 ^ a.toNat) (hv0 : 0 ≤ v) (hv1 : v < 18446744073709551616) :
    Go.bits .or .u64 w (shl .u64 v a) = w + v * 2 ^ a.toNat ∧ w + v * 2 ^ a.toNat < 2 ^ (a + n).toNat ∧ 0 ≤ w + v * 2 ^ a.toNat := by
  rw [okB_iff] at h
  obtain ⟨w, rfl⟩ := Int.eq_ofNat_of_zero_le hw0
  obtain ⟨v, rfl⟩ := Int.eq_ofNat_of_zero_le hv0
  obtain ⟨a, rfl⟩ := Int.eq_ofNat_of_zero_le h.2.2.1
  obtain ⟨n, rfl⟩ := Int.eq_ofNat_of_zero_le (show 0 ≤ n by omega)
  rw [show ((a : Int) + (n : Int)).toNat = a + n from by omega]
  simp only [Int.toNat_natCast] at hw ⊢
  have hv2 : v < 2 ^ n := by
    simp only [fitsB, Bool.and_eq_true, Bool.or_eq_true, decide_eq_true_eq, Int.toNat_natCast] at hv
    have e : ((2 ^ n : Nat) : Int) = (2 : Int) ^ n := by simp
    rcases hv.2 with h1 | h1
    · rw [show n = 64 from by omega, p64]; omega
    · omega
  have hw2 : w < 2 ^ a := by
    have e : ((2 ^ a : Nat) : Int) = (2 : Int) ^ a := by simp
    omega
  have hsum : w + v * 2 ^ a < 2 ^ (a + n) := by
    have h3 : (v + 1) * 2 ^ a ≤ 2 ^ n * 2 ^ a := Nat.mul_le_mul_right _ hv2
    rw [Nat.add_mul, Nat.one_mul, ← Nat.pow_add, Nat.add_comm n a] at h3
    omega
  have hle := Nat.pow_le_pow_right (show 0 < 2 by decide) (show a + n ≤ 64 by omega)
  have e3 : (w : Int) + (v : Int) * 2 ^ a = ((w + v * 2 ^ a : Nat) : Int) := by simp
  rw [p64] at hle
  rw [shl_nat v a (v * 2 ^ a) (by omega) (by rw [p64]; omega), bits_or _ _ (by rw [p64]; omega) (by rw [p64]; omega), e3]
  refine ⟨?_, ?_, by omega⟩
  · have := Nat.two_pow_add_eq_or_of_lt hw2 v
    rw [Nat.or_comm, Nat.mul_comm v, ← this, Nat.add_comm]
  · have e4 : ((2 ^ (a + n) : Nat) : Int) = (2 : Int) ^ (a + n) := by simp
    omega
theorem p_Pack_l (l : List S36) : ∀ (pre : List S36) (k : Nat) (w a : Int), l.length < k → (pre ++ l).length < 2 ^ 60 → 0 ≤ w → w < 2 ^ a.toNat → 0 ≤ a → a ≤ 64 → (∀ b ∈ l, 0 ≤ b.f1 ∧ b.f1 < 18446744073709551616) →
    word_Pack.l0 k w a (pre ++ l) ((pre ++ l).length : Int) (pre.length : Int) = some (packF l w a) := by
  induction l with
  | nil =>
    intro pre k w a hk hl h0 h1 h2 h3 hb
    obtain ⟨k, rfl⟩ : ∃ m, k = m + 1 := ⟨k - 1, by omega⟩
    simp only [word_Pack.l0]
    rw [if_neg (by simp)]; rfl
  | cons b l ih =>
    intro pre k w a hk hl h0 h1 h2 h3 hb
    obtain ⟨k, rfl⟩ : ∃ m, k = m + 1 := ⟨k - 1, by omega⟩
    have hlen : (pre ++ b :: l).length = pre.length + 1 + l.length := by simp; omega
    have hrd : rd_T36 (pre ++ b :: l) (pre.length : Int) = b := by simp [rd_T36]
    have hb1 := hb b (by simp)
    simp only [word_Pack.l0]
    rw [if_pos (by omega), if_pos (by omega), if_pos (by omega), hrd, p_some, Option.bind_some]
    simp only [packF]
    by_cases c1 : okB a b.f0 = true
    · rw [if_pos c1, p_Fits b.f1 b.f0 hb1.1 hb1.2, Option.bind_some]
      by_cases c2 : fitsB b.f1 b.f0 = true
      · obtain ⟨e1, e2, e3⟩ := pack_step c1 c2 h0 h1 hb1.1 hb1.2
        have c1' := okB_iff.1 c1
        rw [if_pos c2, if_pos h2, if_pos ⟨c1, c2⟩, e1, wrap64_id _ (by omega) (by omega), wrap64_id _ (by omega) (by omega)]
        have := ih (pre ++ [b]) k (w + b.f1 * 2 ^ a.toNat) (a + b.f0) (by simpa using hk) (by simpa using hl) e3 e2 (by omega) (by omega) (fun x hx => hb x (by simp [hx]))
        simp only [List.append_assoc, List.cons_append, List.nil_append, List.length_append, List.length_cons, List.length_nil] at this
        rw [← this]
        simp
      · rw [if_neg c2, if_neg (fun h => c2 h.2)]
    · rw [if_neg c1, if_neg (fun h => c1 h.1)]
theorem p_Pack (k : Nat) (l : List S36) (hk : l.length < k) (hl : l.length < 2 ^ 60) (hb : ∀ b ∈ l, 0 ≤ b.f1 ∧ b.f1 < 18446744073709551616) : word_Pack.f k l = some (packF l 0 0) :=
  p_Pack_l l [] k 0 0 hk hl (by decide) (by decide) (by decide) (by decide) hb
theorem packF_yes {n v : Int} {l : List S36} {w a : Int} (h1 : okB a n = true) (h2 : fitsB v n = true) : packF (⟨n, v⟩ :: l) w a = packF l (w + v * 2 ^ a.toNat) (a + n) := by
  simp only [packF]; rw [if_pos ⟨h1, h2⟩]
theorem packF_no {n v : Int} {l : List S36} {w a : Int} (h2 : fitsB v n = false) : packF (⟨n, v⟩ :: l) w a = (0, false) := by
  simp only [packF]; rw [if_neg (by rw [h2]; simp)]
def unpF (w : Int) : List Int → Int → List Int → List Int × Bool
  | [], _, acc => (acc, true)
  | n :: l, a, acc => if okB a n = true then unpF w l (a + n) (acc ++ [getV w a n]) else ([], false)
theorem p_Unpack_l (w : Int) (h0 : 0 ≤ w) (h1 : w < 18446744073709551616) (l : List Int) : ∀ (pre : List Int) (k : Nat) (a : Int) (acc : List Int), l.length < k → (pre ++ l).length < 17592186044416 → acc.length ≤ pre.length →
    word_Unpack.l0 k w acc a (pre ++ l) ((pre ++ l).length : Int) (pre.length : Int) = some (unpF w l a acc) := by
  induction l with
  | nil =>
    intro pre k a acc hk hl ha
    obtain ⟨k, rfl⟩ : ∃ m, k = m + 1 := ⟨k - 1, by omega⟩
    simp only [word_Unpack.l0]
    rw [if_neg (by simp)]; rfl
  | cons n l ih =>
    intro pre k a acc hk hl ha
    obtain ⟨k, rfl⟩ : ∃ m, k = m + 1 := ⟨k - 1, by omega⟩
    have hlen : (pre ++ n :: l).length = pre.length + 1 + l.length := by simp; omega
    have hrd : rd (pre ++ n :: l) (pre.length : Int) = n := by simp [rd]
    simp only [word_Unpack.l0]
    rw [if_pos (by omega), if_pos (by omega), if_pos (by omega), hrd, p_some, Option.bind_some]
    simp only [unpF]
    by_cases c1 : okB a n = true
    · have c1' := okB_iff.1 c1
      rw [if_pos c1, if_pos c1, p_Get w a n h0 h1, Option.bind_some, if_pos (by omega), wrap64_id _ (by omega) (by omega), wrap64_id _ (by omega) (by omega)]
      have := ih (pre ++ [n]) k (a + n) (acc ++ [getV w a n]) (by simpa using hk) (by simpa using hl) (by simp; omega)
      simp only [List.append_assoc, List.cons_append, List.nil_append, List.length_append, List.length_cons, List.length_nil] at this
      rw [← this]
      simp
    · rw [if_neg c1, if_neg c1]
theorem p_Unpack (k : Nat) (w : Int) (l : List Int) (hk : l.length < k) (hl : l.length < 17592186044416) (h0 : 0 ≤ w) (h1 : w < 18446744073709551616) : word_Unpack.f k w l = some (unpF w l 0 []) :=
  p_Unpack_l w h0 h1 l [] k 0 [] hk hl (by decide)

theorem some_c (a n : Int) (w : World) : Calls Try.prog 38 #[.int .i64 a, .int .i64 n] w fun e w' => e = .returned (.bool (okB a n)) ∧ Drawn0 w w' :=
  word_some.calls a n _ w (p_some a n)
def mskV (n : Int) : Int := ((2 ^ n.toNat - 1 : Nat) : Int)
theorem mask_c (n : Int) (h0 : 0 ≤ n) (h : n ≤ 64) (w : World) : Calls Try.prog 39 #[.int .i64 n] w fun e w' => e = .returned (.int .u64 (mskV n)) ∧ Drawn0 w w' := by
  obtain ⟨m, rfl⟩ := Int.eq_ofNat_of_zero_le h0
  exact word_mask.calls _ _ w (p_mask m (by omega))
theorem get_c (x a n : Int) (h0 : 0 ≤ x) (h1 : x < 18446744073709551616) (w : World) : Calls Try.prog 15 #[.int .u64 x, .int .i64 a, .int .i64 n] w fun e w' => e = .returned (.int .u64 (getV x a n)) ∧ Drawn0 w w' :=
  word_Get.calls x a n _ w (p_Get x a n h0 h1)
theorem fits_c (x n : Int) (h0 : 0 ≤ x) (h1 : x < 18446744073709551616) (w : World) : Calls Try.prog 20 #[.int .u64 x, .int .i64 n] w fun e w' => e = .returned (.bool (fitsB x n)) ∧ Drawn0 w w' :=
  word_Fits.calls x n _ w (p_Fits x n h0 h1)
/-- What word.Set comes to where there are such bits, as the code spells it. -/
def setS (x a v m : Int) : Int := Go.bits .or .u64 (Go.bits .andNot .u64 x (IntKind.u64.wrap (m * 2 ^ min a.toNat 64))) (IntKind.u64.wrap (Go.bits .and .u64 v m * 2 ^ min a.toNat 64))
theorem setS_eq (x a n v : Int) (h : okB a n = true) (h0 : 0 ≤ x) (h1 : x < 18446744073709551616) (h2 : 0 ≤ v) (h3 : v < 18446744073709551616) : setS x a v (mskV n) = setV x a n v := by
  unfold setS setV mskV
  rw [if_pos h]
  rw [okB_iff] at h
  obtain ⟨w, rfl⟩ := Int.eq_ofNat_of_zero_le h0
  obtain ⟨v, rfl⟩ := Int.eq_ofNat_of_zero_le h2
  obtain ⟨a, rfl⟩ := Int.eq_ofNat_of_zero_le h.2.2.1
  obtain ⟨n, rfl⟩ := Int.eq_ofNat_of_zero_le (show 0 ≤ n by omega)
  simp only [Int.toNat_natCast]
  have hp := Nat.pow_le_pow_right (show 0 < 2 by decide) (show n ≤ 64 by omega)
  have hq := Nat.two_pow_pos n
  rw [p64] at hp
  rw [bits_and v _ (by rw [p64]; omega) (by rw [p64]; omega), Nat.and_two_pow_sub_one_eq_mod]
  have e1 : shl .u64 ((2 ^ n - 1 : Nat) : Int) (a : Int) = (((2 ^ n - 1) * 2 ^ a : Nat) : Int) := shl_nat _ _ _ (by omega) (Nat.lt_of_le_of_lt (Nat.le_refl _) (mask_lt n a (by omega)))
  have e2 : shl .u64 ((v % 2 ^ n : Nat) : Int) (a : Int) = ((v % 2 ^ n * 2 ^ a : Nat) : Int) := shl_nat _ _ _ (by omega) (part_lt v n a (by omega))
  unfold shl at e1 e2
  rw [Int.toNat_natCast, show IntKind.bits .u64 = 64 from rfl] at e1 e2
  rw [e1, e2, bits_andNot _ _ (by rw [p64]; omega) (mask_lt n a (by omega)), bits_or _ _ (Nat.lt_of_le_of_lt Nat.and_le_left (by rw [p64]; omega)) (part_lt v n a (by omega))]
  rw [set_bits w a n v (by rw [p64]; omega) (by omega)]
set_option maxHeartbeats 1000000 in
theorem set_yes (x a n v : Int) (h : okB a n = true) (w : World) :
    Calls Try.prog 18 #[.int .u64 x, .int .i64 a, .int .i64 n, .int .u64 v] w fun e w' => e = .returned (.int .u64 (setS x a v (mskV n))) ∧ Drawn0 w w' := by
  have hb := okB_iff.1 h
  have n0 : 0 ≤ n := by omega
  have n1 : n ≤ 64 := by omega
  have a0 : 0 ≤ a := by omega
  clear hb
  have H := Lib.hid h
  clear h
  unfold setS
  go_enter Try.func18, Try.ntmps18
  go_wp2_with (first | (go_at_call 38; refine (some_c a n _).mono ?_; rintro e w' ⟨rfl, ⟨nd, rfl⟩⟩; rw [H.out]) | (go_at_call 39; refine (mask_c n n0 n1 _).mono ?_; rintro e w' ⟨rfl, ⟨nd, rfl⟩⟩))
  go_quiet ((go_at_call 39; refine (mask_c n n0 n1 _).mono ?_; rintro e w' ⟨rfl, ⟨nd, rfl⟩⟩; first | exact ⟨rfl, _, World.drewN_drewN _ _ _⟩ | exact ⟨rfl, _, Eq.trans (World.drewN_drewN _ _ _) (congrArg (World.drewN _) (Nat.add_assoc _ _ _))⟩))
  go_wp2
  go_ret
  exact ⟨rfl, ((Drawn0.refl _).step _).step _⟩
set_option maxHeartbeats 1000000 in
theorem set_no (x a n v : Int) (h : okB a n = false) (w : World) :
    Calls Try.prog 18 #[.int .u64 x, .int .i64 a, .int .i64 n, .int .u64 v] w fun e w' => e = .returned (.int .u64 x) ∧ Drawn0 w w' := by
  have H := Lib.hid h
  clear h
  go_enter Try.func18, Try.ntmps18
  go_wp2_with (first | (go_at_call 38; refine (some_c a n _).mono ?_; rintro e w' ⟨rfl, ⟨nd, rfl⟩⟩; rw [H.out]))
  go_ret
  exact ⟨rfl, (Drawn0.refl _).step _⟩
theorem set_c (x a n v : Int) (h0 : 0 ≤ x) (h1 : x < 18446744073709551616) (h2 : 0 ≤ v) (h3 : v < 18446744073709551616) (w : World) :
    Calls Try.prog 18 #[.int .u64 x, .int .i64 a, .int .i64 n, .int .u64 v] w fun e w' => e = .returned (.int .u64 (setV x a n v)) ∧ Drawn0 w w' := by
  cases h : okB a n with
  | true => rw [← setS_eq x a n v h h0 h1 h2 h3]; exact set_yes x a n v h w
  | false => rw [show setV x a n v = x from by unfold setV; rw [h]; rfl]; exact set_no x a n v h w
theorem rSome_c (a n : Int) (w : World) : Calls Try.prog 25 #[.int .i64 a, .int .i64 n] w fun e w' => e = .returned (.bool (okB a n)) ∧ Drawn0 w w' := by
  by_cases h1 : 1 ≤ n
  · by_cases h2 : n ≤ 64
    · by_cases h3 : 0 ≤ a
      · by_cases h4 : a ≤ 64
        · have e : okB a n = decide (n ≤ 64 - a) := by rw [Bool.eq_iff_iff, okB_iff]; simp; omega
          rw [e]
          go_enter Try.func25, Try.ntmps25
          go_wp2
          go_ret
          exact ⟨rfl, Drawn0.refl _⟩
        · rw [okB_no.2 (by omega)]
          go_enter Try.func25, Try.ntmps25
          go_wp2
          go_ret
          exact ⟨rfl, Drawn0.refl _⟩
      · rw [okB_no.2 (by omega)]
        go_enter Try.func25, Try.ntmps25
        go_wp2
        go_ret
        exact ⟨rfl, Drawn0.refl _⟩
    · rw [okB_no.2 (by omega)]
      go_enter Try.func25, Try.ntmps25
      go_wp2
      go_ret
      exact ⟨rfl, Drawn0.refl _⟩
  · rw [okB_no.2 (by omega)]
    go_enter Try.func25, Try.ntmps25
    go_wp2
    go_ret
    exact ⟨rfl, Drawn0.refl _⟩
theorem ret_bool {a b : Bool} (h : a = b) : Ending.returned (.bool a) = .returned (.bool b) := by rw [h]
theorem ret_u64 {a b : Int} (h : a = b) : Ending.returned (.int .u64 a) = .returned (.int .u64 b) := by rw [h]
theorem div_step (y j : Nat) (h : (y : Int) < 18446744073709551616) : IntKind.u64.wrap (((y : Int) / 2 ^ j).tdiv 2) = ((y / 2 ^ j / 2 : Nat) : Int) := by
  have e : (y : Int) / 2 ^ j = ((y / 2 ^ j : Nat) : Int) := by simp
  have h1 := Nat.div_le_self y (2 ^ j)
  rw [e]
  generalize y / 2 ^ j = z at *
  rw [Int.tdiv_eq_ediv_of_nonneg (by omega), wrap_u64_id _ (by omega) (by omega)]; omega
theorem bit_last (y j : Nat) : (((y : Int) / 2 ^ j).tmod 2 == 1) = y.testBit j := by
  have e : (y : Int) / 2 ^ j = ((y / 2 ^ j : Nat) : Int) := by simp
  rw [e, Nat.testBit_eq_decide_div_mod_eq]
  generalize y / 2 ^ j = z at *
  rw [Int.tmod_eq_emod_of_nonneg (by omega), Bool.eq_iff_iff]
  simp only [beq_iff_eq, decide_eq_true_eq]
  omega
theorem power_step (j : Nat) (h : j + 1 ≤ 63) : IntKind.u64.wrap (2 * 2 ^ j) = ((2 ^ (j + 1) : Nat) : Int) := by
  have h1 := Nat.pow_le_pow_right (show 0 < 2 by decide) h
  have h2 : (2 : Nat) ^ 63 = 9223372036854775808 := rfl
  have e : (2 : Int) * 2 ^ j = ((2 ^ (j + 1) : Nat) : Int) := by simp [Int.pow_succ]; omega
  rw [e]
  generalize 2 ^ (j + 1) = z at *
  rw [wrap_u64_id _ (by omega) (by omega)]
theorem bit_c (x i : Int) (h0 : 0 ≤ x) (h1 : x < 18446744073709551616) (i0 : 0 ≤ i) (i1 : i ≤ 4611686018427387904) (w : World) :
    Calls Try.prog 40 #[.int .u64 x, .int .i64 i] w fun e w' => e = .returned (.bool (x.toNat.testBit i.toNat)) ∧ Drawn0 w w' := by
  obtain ⟨m, rfl⟩ := Int.eq_ofNat_of_zero_le i0
  obtain ⟨y, rfl⟩ := Int.eq_ofNat_of_zero_le h0
  simp only [Int.toNat_natCast]
  go_enter Try.func40, Try.ntmps40
  go_wp2
  go_loop [0, 5] (fun u v => ∃ j : Nat, j ≤ m ∧ u = .int .u64 ((y / 2 ^ j : Nat) : Int) ∧ v = .int .i64 (j : Int)) (fun _ v => m - (intOf v).toNat)
  case atStart => exact ⟨0, Nat.zero_le _, by simp, rfl⟩
  case round =>
    obtain ⟨j, hj, rfl, rfl⟩ := hrel
    have hd : y / 2 ^ j < 18446744073709551616 := by have := Nat.div_le_self y (2 ^ j); omega
    by_cases hlt : j < m
    · have he := Lib.hid (show y / 2 ^ (j + 1) = y / 2 ^ j / 2 from by rw [Nat.pow_succ, Nat.div_div_eq_div_mul])
      go_wp2
      go_round
      case rel => exact ⟨j + 1, by omega, by rw [he.out]; exact congrArg _ (div_step y j h1), by go_num⟩
      case measure => simp [intOf]; omega
    · have : j = m := by omega
      subst this
      go_wp2
      go_ret
      exact ⟨ret_bool (bit_last y j), Drawn0.refl _⟩
theorem power_c (i : Int) (i0 : 0 ≤ i) (i1 : i ≤ 63) (w : World) :
    Calls Try.prog 41 #[.int .i64 i] w fun e w' => e = .returned (.int .u64 ((2 ^ i.toNat : Nat) : Int)) ∧ Drawn0 w w' := by
  obtain ⟨m, rfl⟩ := Int.eq_ofNat_of_zero_le i0
  simp only [Int.toNat_natCast]
  go_enter Try.func41, Try.ntmps41
  go_wp2
  go_loop [3, 4] (fun u v => ∃ j : Nat, j ≤ m ∧ u = .int .u64 ((2 ^ j : Nat) : Int) ∧ v = .int .i64 (j : Int)) (fun _ v => m - (intOf v).toNat)
  case atStart => exact ⟨0, Nat.zero_le _, by simp, rfl⟩
  case round =>
    obtain ⟨j, hj, rfl, rfl⟩ := hrel
    by_cases hlt : j < m
    · have he := Lib.hid (power_step j (by omega))
      go_wp2
      go_round
      case rel => exact ⟨j + 1, by omega, by rw [← he.out], by go_num⟩
      case measure => simp [intOf]; omega
    · have : j = m := by omega
      subst this
      go_wp2
      go_ret
      exact ⟨by simp, Drawn0.refl _⟩
/-- The reference's Get: where there are such bits. -/
def getN (x a i : Nat) : Nat := x / 2 ^ a % 2 ^ i
theorem getN_step (x a i : Nat) : getN x a (i + 1) = getN x a i + if x.testBit (a + i) = true then 2 ^ i else 0 := by
  unfold getN
  rw [mod_succ, Nat.testBit_div_two_pow, Nat.add_comm i a]
theorem getN_lt (x a i : Nat) (h : i ≤ 64) : getN x a i < 18446744073709551616 := by
  have h1 : getN x a i < 2 ^ i := Nat.mod_lt _ (Nat.two_pow_pos _)
  have h2 := Nat.pow_le_pow_right (show 0 < 2 by decide) h
  rw [p64] at h2
  omega
theorem get_add (x a j : Nat) (hb : x.testBit (a + j) = true) (h : j + 1 ≤ 64) : IntKind.u64.wrap (((getN x a j : Nat) : Int) + 2 ^ j) = ((getN x a (j + 1) : Nat) : Int) := by
  have h1 := getN_lt x a (j + 1) h
  rw [getN_step, if_pos hb] at h1 ⊢
  have e : ((getN x a j : Nat) : Int) + 2 ^ j = ((getN x a j + 2 ^ j : Nat) : Int) := by simp
  rw [e]
  generalize getN x a j + 2 ^ j = z at *
  rw [wrap_u64_id _ (by omega) (by omega)]
theorem get_same (x a j : Nat) (hb : x.testBit (a + j) = false) : getN x a (j + 1) = getN x a j := by
  rw [getN_step, if_neg (by rw [hb]; decide)]; rfl
set_option maxHeartbeats 1000000 in
theorem rGet_yes (x a n : Nat) (hx : x < 18446744073709551616) (h1 : 1 ≤ n) (h2 : a + n ≤ 64) (w : World) :
    Calls Try.prog 16 #[.int .u64 (x : Int), .int .i64 (a : Int), .int .i64 (n : Int)] w fun e w' => e = .returned (.int .u64 ((getN x a n : Nat) : Int)) ∧ Drawn0 w w' := by
  have hok := Lib.hid (okB_iff.2 (show 1 ≤ (n : Int) ∧ (n : Int) ≤ 64 ∧ 0 ≤ (a : Int) ∧ (a : Int) ≤ 64 - (n : Int) by omega))
  go_enter Try.func16, Try.ntmps16
  go_wp2
  go_loopw [7, 8] (fun u v wr => ∃ j : Nat, j ≤ n ∧ u = .int .u64 ((getN x a j : Nat) : Int) ∧ v = .int .i64 (j : Int) ∧ Drawn0 w wr) (fun _ v _ => n - (intOf v).toNat)
  case atStart => exact ⟨0, Nat.zero_le _, by simp [getN, Nat.mod_one], rfl, Drawn0.refl _⟩
  case round =>
    obtain ⟨j, hj, rfl, rfl, hd⟩ := hrel
    have hD := Lib.hid hd
    clear hd
    by_cases hlt : j < n
    · have hl := getN_lt x a (j + 1) (by omega)
      have hs := Lib.hid (getN_step x a j)
      go_wp2_with (first | (go_at_call 25; refine (rSome_c _ _ _).mono ?_; rintro e w' ⟨rfl, ⟨nd, rfl⟩⟩; rw [hok.out]) | (go_at_call 40; refine (bit_c _ _ (by omega) (by omega) (by omega) (by omega) _).mono ?_; rintro e w' ⟨rfl, ⟨nd, rfl⟩⟩) | (go_at_call 41; refine (power_c _ (by omega) (by omega) _).mono ?_; rintro e w' ⟨rfl, ⟨nd, rfl⟩⟩))
      · have hb : x.testBit (a + j) = true := by rw [← show ((a : Int) + (j : Int)).toNat = a + j from by omega]; assumption
        go_roundw
        case rel => exact ⟨j + 1, by omega, congrArg _ (get_add x a j hb (by omega)), by go_num, ((hD.out.step _))⟩
        case measure => simp [intOf]; omega
      · have hb : x.testBit (a + j) = false := by rw [← show ((a : Int) + (j : Int)).toNat = a + j from by omega]; assumption
        go_roundw
        case rel => exact ⟨j + 1, by omega, by rw [get_same x a j hb], by go_num, ((hD.out.step _))⟩
        case measure => simp [intOf]; omega
    · have : j = n := by omega
      subst this
      go_wp2
      go_ret
      exact ⟨rfl, hD.out⟩
set_option maxHeartbeats 1000000 in
theorem rGet_no (x a n : Int) (h : okB a n = false) (w : World) :
    Calls Try.prog 16 #[.int .u64 x, .int .i64 a, .int .i64 n] w fun e w' => e = .returned (.int .u64 0) ∧ Drawn0 w w' := by
  have H := Lib.hid h
  clear h
  go_enter Try.func16, Try.ntmps16
  go_wp2
  go_loopw [7, 8] (fun u v wr => u = .int .u64 0 ∧ v = .int .i64 0 ∧ Drawn0 w wr) (fun _ v _ => 0)
  case atStart => exact ⟨rfl, rfl, Drawn0.refl _⟩
  case round =>
    obtain ⟨rfl, rfl, hd⟩ := hrel
    have hD := Lib.hid hd
    clear hd
    by_cases hlt : 0 < n
    all_goals
      go_wp2_with (first | (go_at_call 25; refine (rSome_c _ _ _).mono ?_; rintro e w' ⟨rfl, ⟨nd, rfl⟩⟩; rw [H.out]))
      go_ret
      exact ⟨rfl, by first | exact hD.out | exact hD.out.step _⟩
theorem rGet_c (x a n : Int) (h0 : 0 ≤ x) (h1 : x < 18446744073709551616) (w : World) :
    Calls Try.prog 16 #[.int .u64 x, .int .i64 a, .int .i64 n] w fun e w' => e = .returned (.int .u64 (getV x a n)) ∧ Drawn0 w w' := by
  cases h : okB a n with
  | true =>
    unfold getV
    rw [if_pos h]
    rw [okB_iff] at h
    obtain ⟨x, rfl⟩ := Int.eq_ofNat_of_zero_le h0
    obtain ⟨a, rfl⟩ := Int.eq_ofNat_of_zero_le h.2.2.1
    obtain ⟨n, rfl⟩ := Int.eq_ofNat_of_zero_le (show 0 ≤ n by omega)
    have := rGet_yes x a n (by omega) (by omega) (by omega) w
    simpa [getN] using this
  | false =>
    rw [show getV x a n = 0 from by unfold getV; rw [h]; rfl]
    exact rGet_no x a n h w
def setI (x a n v i : Nat) : Nat := setN x a n v % 2 ^ i
theorem setI_add (x a n v i : Nat) (hb : (setN x a n v).testBit i = true) (h : i + 1 ≤ 64) : IntKind.u64.wrap (((setI x a n v i : Nat) : Int) + 2 ^ i) = ((setI x a n v (i + 1) : Nat) : Int) := by
  unfold setI
  have h1 : setN x a n v % 2 ^ (i + 1) < 2 ^ (i + 1) := Nat.mod_lt _ (Nat.two_pow_pos _)
  have h2 := Nat.pow_le_pow_right (show 0 < 2 by decide) h
  rw [p64] at h2
  rw [mod_succ, if_pos hb] at h1 ⊢
  have e : ((setN x a n v % 2 ^ i : Nat) : Int) + 2 ^ i = ((setN x a n v % 2 ^ i + 2 ^ i : Nat) : Int) := by simp
  rw [e]
  generalize setN x a n v % 2 ^ i + 2 ^ i = z at *
  rw [wrap_u64_id _ (by omega) (by omega)]
theorem setI_same (x a n v i : Nat) (hb : (setN x a n v).testBit i = false) : setI x a n v (i + 1) = setI x a n v i := by
  unfold setI
  rw [mod_succ, if_neg (by rw [hb]; decide)]; rfl
set_option maxHeartbeats 2000000 in
theorem rSet_yes (x a n v : Nat) (hx : x < 18446744073709551616) (hv : v < 18446744073709551616) (h1 : 1 ≤ n) (h2 : a + n ≤ 64) (w : World) :
    Calls Try.prog 19 #[.int .u64 (x : Int), .int .i64 (a : Int), .int .i64 (n : Int), .int .u64 (v : Int)] w fun e w' => e = .returned (.int .u64 ((setN x a n v : Nat) : Int)) ∧ Drawn0 w w' := by
  have hok := Lib.hid (okB_iff.2 (show 1 ≤ (n : Int) ∧ (n : Int) ≤ 64 ∧ 0 ≤ (a : Int) ∧ (a : Int) ≤ 64 - (n : Int) by omega))
  go_enter Try.func19, Try.ntmps19
  go_wp2_with (first | (go_at_call 25; refine (rSome_c _ _ _).mono ?_; rintro e w' ⟨rfl, ⟨nd, rfl⟩⟩; rw [hok.out]))
  go_loopw [9, 10] (fun u z wr => ∃ j : Nat, j ≤ 64 ∧ u = .int .u64 ((setI x a n v j : Nat) : Int) ∧ z = .int .i64 (j : Int) ∧ Drawn0 w wr) (fun _ z _ => 64 - (intOf z).toNat)
  case atStart => exact ⟨0, Nat.zero_le _, by simp [setI, Nat.mod_one], rfl, (Drawn0.refl _).step _⟩
  case round =>
    obtain ⟨j, hj, rfl, rfl, hd⟩ := hrel
    have hD := Lib.hid hd
    clear hd
    by_cases hlt : j < 64
    · have ht := Lib.hid (setN_testBit x a n v j)
      by_cases ha : a ≤ j
      · by_cases hb : j < a + n
        · have hbit := Lib.hid (show (setN x a n v).testBit j = v.testBit (j - a) from by rw [ht.out, if_neg (by omega), if_pos hb])
          go_wp2_with (first | (go_at_call 40; refine (bit_c _ _ (by omega) (by omega) (by omega) (by omega) _).mono ?_; rintro e w' ⟨rfl, ⟨nd, rfl⟩⟩) | (go_at_call 41; refine (power_c _ (by omega) (by omega) _).mono ?_; rintro e w' ⟨rfl, ⟨nd, rfl⟩⟩))
          · have hb : (setN x a n v).testBit j = true := by rw [hbit.out]; assumption
            go_roundw
            case rel => exact ⟨j + 1, by omega, congrArg _ (setI_add x a n v j hb (by omega)), by go_num, ((hD.out.step _))⟩
            case measure => simp [intOf]; omega
          · have hb : (setN x a n v).testBit j = false := by rw [hbit.out]; assumption
            go_roundw
            case rel => exact ⟨j + 1, by omega, by rw [setI_same x a n v j hb], by go_num, ((hD.out.step _))⟩
            case measure => simp [intOf]; omega
        · have hbit := Lib.hid (show (setN x a n v).testBit j = x.testBit j from by rw [ht.out, if_neg (by omega), if_neg hb])
          go_wp2_with (first | (go_at_call 40; refine (bit_c _ _ (by omega) (by omega) (by omega) (by omega) _).mono ?_; rintro e w' ⟨rfl, ⟨nd, rfl⟩⟩) | (go_at_call 41; refine (power_c _ (by omega) (by omega) _).mono ?_; rintro e w' ⟨rfl, ⟨nd, rfl⟩⟩))
          · have hb : (setN x a n v).testBit j = true := by rw [hbit.out]; assumption
            go_roundw
            case rel => exact ⟨j + 1, by omega, congrArg _ (setI_add x a n v j hb (by omega)), by go_num, ((hD.out.step _))⟩
            case measure => simp [intOf]; omega
          · have hb : (setN x a n v).testBit j = false := by rw [hbit.out]; assumption
            go_roundw
            case rel => exact ⟨j + 1, by omega, by rw [setI_same x a n v j hb], by go_num, ((hD.out.step _))⟩
            case measure => simp [intOf]; omega
      · have hbit := Lib.hid (show (setN x a n v).testBit j = x.testBit j from by rw [ht.out, if_pos (by omega)])
        go_wp2_with (first | (go_at_call 40; refine (bit_c _ _ (by omega) (by omega) (by omega) (by omega) _).mono ?_; rintro e w' ⟨rfl, ⟨nd, rfl⟩⟩) | (go_at_call 41; refine (power_c _ (by omega) (by omega) _).mono ?_; rintro e w' ⟨rfl, ⟨nd, rfl⟩⟩))
        · have hb : (setN x a n v).testBit j = true := by rw [hbit.out]; assumption
          go_roundw
          case rel => exact ⟨j + 1, by omega, congrArg _ (setI_add x a n v j hb (by omega)), by go_num, ((hD.out.step _))⟩
          case measure => simp [intOf]; omega
        · have hb : (setN x a n v).testBit j = false := by rw [hbit.out]; assumption
          go_roundw
          case rel => exact ⟨j + 1, by omega, by rw [setI_same x a n v j hb], by go_num, ((hD.out.step _))⟩
          case measure => simp [intOf]; omega
    · have : j = 64 := by omega
      subst this
      have hend := Lib.hid (show setI x a n v 64 = setN x a n v from Nat.mod_eq_of_lt (setN_lt x a n v (by rw [p64]; omega) h2))
      go_wp2
      go_ret
      exact ⟨ret_u64 (by rw [hend.out]), hD.out⟩
theorem rSet_no (x a n v : Int) (h : okB a n = false) (w : World) :
    Calls Try.prog 19 #[.int .u64 x, .int .i64 a, .int .i64 n, .int .u64 v] w fun e w' => e = .returned (.int .u64 x) ∧ Drawn0 w w' := by
  have H := Lib.hid h
  clear h
  go_enter Try.func19, Try.ntmps19
  go_wp2_with (first | (go_at_call 25; refine (rSome_c _ _ _).mono ?_; rintro e w' ⟨rfl, ⟨nd, rfl⟩⟩; rw [H.out]))
  go_ret
  exact ⟨rfl, (Drawn0.refl _).step _⟩
theorem rSet_c (x a n v : Int) (h0 : 0 ≤ x) (h1 : x < 18446744073709551616) (h2 : 0 ≤ v) (h3 : v < 18446744073709551616) (w : World) :
    Calls Try.prog 19 #[.int .u64 x, .int .i64 a, .int .i64 n, .int .u64 v] w fun e w' => e = .returned (.int .u64 (setV x a n v)) ∧ Drawn0 w w' := by
  cases h : okB a n with
  | true =>
    unfold setV
    rw [if_pos h]
    rw [okB_iff] at h
    obtain ⟨x, rfl⟩ := Int.eq_ofNat_of_zero_le h0
    obtain ⟨v, rfl⟩ := Int.eq_ofNat_of_zero_le h2
    obtain ⟨a, rfl⟩ := Int.eq_ofNat_of_zero_le h.2.2.1
    obtain ⟨n, rfl⟩ := Int.eq_ofNat_of_zero_le (show 0 ≤ n by omega)
    simp only [Int.toNat_natCast]
    exact rSet_yes x a n v (by omega) (by omega) (by omega) (by omega) w
  | false =>
    rw [show setV x a n v = x from by unfold setV; rw [h]; rfl]
    exact rSet_no x a n v h w
theorem rFits_c (v n : Int) (w : World) :
    Calls Try.prog 21 #[.int .u64 v, .int .i64 n] w fun e w' => e = .returned (.bool (fitsB v n)) ∧ Drawn0 w w' := by
  by_cases h1 : 0 ≤ n
  · by_cases h2 : 63 < n
    · rw [show fitsB v n = true from by unfold fitsB; simp [h1, h2]]
      go_enter Try.func21, Try.ntmps21
      go_wp2
      go_ret
      exact ⟨rfl, Drawn0.refl _⟩
    · rw [show fitsB v n = decide (v < ((2 ^ n.toNat : Nat) : Int)) from by unfold fitsB; simp [h1, h2]]
      go_enter Try.func21, Try.ntmps21
      go_wp2_with (go_at_call 41; refine (power_c n h1 (by omega) _).mono ?_; rintro e w' ⟨rfl, ⟨nd, rfl⟩⟩)
      go_ret
      exact ⟨rfl, (Drawn0.refl _).step _⟩
  · rw [show fitsB v n = false from by unfold fitsB; simp [h1]]
    go_enter Try.func21, Try.ntmps21
    go_wp2
    go_ret
    exact ⟨rfl, Drawn0.refl _⟩
theorem cell_lit {w : World} {cs : Array Value} {t i : Nat} {v : Value} (h : cs[i]? = some v) : (w.alloc (.cells cs t)).cell? ⟨w.heap.size, i, none⟩ = some v := by
  show (match (w.alloc (.cells cs t)).heap[w.heap.size]? with | some (.cells c _ _) => if (none : Option Nat).isSome then none else c[i]? | _ => none) = _
  rw [heap_alloc_new]
  simpa using h
theorem lit_row (w : World) : Kd.C k36 (w.alloc (.cells #[.int .i64 3, .int .u64 5, .int .i64 1, .int .u64 1] 36)) (some ⟨w.heap.size, 0, none⟩) 2 [⟨3, 5⟩, ⟨1, 1⟩] := by
  refine ⟨rfl, by decide, fun _ => ⟨_, rfl, fun j p hj => ?_⟩⟩
  match j, hj with
  | 0, hj =>
    obtain rfl : (⟨3, 5⟩ : S36) = p := by simpa using hj
    refine ⟨[.int .i64 3, .int .u64 5], rfl, ?_, fun i u hi => ?_⟩
    · exact ⟨[.int .i64 3], [.int .u64 5], rfl, rfl, rfl⟩
    · match i, hi with
      | 0, hi => simp at hi; subst hi; exact cell_lit (i := 0) rfl
      | 1, hi => simp at hi; subst hi; exact cell_lit (i := 1) rfl
  | 1, hj =>
    obtain rfl : (⟨1, 1⟩ : S36) = p := by simpa using hj
    refine ⟨[.int .i64 1, .int .u64 1], rfl, ?_, fun i u hi => ?_⟩
    · exact ⟨[.int .i64 1], [.int .u64 1], rfl, rfl, rfl⟩
    · match i, hi with
      | 0, hi => simp at hi; subst hi; exact cell_lit (i := 2) rfl
      | 1, hi => simp at hi; subst hi; exact cell_lit (i := 3) rfl
set_option maxHeartbeats 1000000 in
theorem awake_c (w : World) : Calls Try.prog 17 #[] w fun e w' => e = .returned (.bool true) ∧ Below w.heap.size w w' := by
  have hp := Lib.hid (show word_Pack.f 3 [⟨3, 5⟩, ⟨1, 1⟩] = some (13, true) by decide +kernel)
  have hg := Lib.hid (show getV 43981 4 8 = 188 by decide +kernel)
  have hs := Lib.hid (show setV 0 60 4 31 = 17293822569102704640 by decide +kernel)
  go_enter Try.func17, Try.ntmps17
  go_wp2_with (first | (go_at_call 22; refine (word_Pack.calls 3 _ 2 _ 13 true _ (lit_row w) (by decide) hp.out).mono ?_; rintro e w1 ⟨rfl, hb1⟩; replace hb1 := Lib.hid hb1) | (go_at_call 15; refine (get_c _ _ _ (by decide) (by decide) _).mono ?_; rintro e w' ⟨rfl, ⟨nd, rfl⟩⟩; rw [hg.out]) | (go_at_call 18; refine (set_c _ _ _ _ (by decide) (by decide) (by decide) (by decide) _).mono ?_; rintro e w' ⟨rfl, ⟨nd, rfl⟩⟩; rw [hs.out]))
  go_ret
  exact ⟨rfl, pw_below_drewN (((Below.refl _ _).alloc (Nat.le_refl _) _).trans (hb1.out.mono (by simp))) _⟩
theorem gets_c (x a n : Int) (h0 : 0 ≤ x) (h1 : x < 18446744073709551616) (w : World) :
    Calls Try.prog 3 #[.int .u64 x, .int .i64 a, .int .i64 n] w fun e w' => e = .returned (.bool true) ∧ Below w.heap.size w w' := by
  go_enter Try.func3, Try.ntmps3
  go_wp2_with (first | (go_at_call 15; refine (get_c _ _ _ h0 h1 _).mono ?_; rintro e w' ⟨rfl, ⟨nd, rfl⟩⟩) | (go_at_call 16; refine (rGet_c _ _ _ h0 h1 _).mono ?_; rintro e w' ⟨rfl, ⟨nd, rfl⟩⟩) | (go_at_call 17; refine (awake_c _).mono ?_; rintro e w' ⟨rfl, hb⟩; replace hb := Lib.hid hb))
  go_ret
  exact ⟨rfl, (pw_below_drewN (Below.refl _ _) _).trans hb.out⟩
theorem sets_c (x a n v : Int) (h0 : 0 ≤ x) (h1 : x < 18446744073709551616) (h2 : 0 ≤ v) (h3 : v < 18446744073709551616) (w : World) :
    Calls Try.prog 4 #[.int .u64 x, .int .i64 a, .int .i64 n, .int .u64 v] w fun e w' => e = .returned (.bool true) ∧ Below w.heap.size w w' := by
  go_enter Try.func4, Try.ntmps4
  go_wp2_with (first | (go_at_call 18; refine (set_c _ _ _ _ h0 h1 h2 h3 _).mono ?_; rintro e w' ⟨rfl, ⟨nd, rfl⟩⟩) | (go_at_call 19; refine (rSet_c _ _ _ _ h0 h1 h2 h3 _).mono ?_; rintro e w' ⟨rfl, ⟨nd, rfl⟩⟩) | (go_at_call 17; refine (awake_c _).mono ?_; rintro e w' ⟨rfl, hb⟩; replace hb := Lib.hid hb))
  go_ret
  exact ⟨rfl, (pw_below_drewN (Below.refl _ _) _).trans hb.out⟩
theorem fits_law_c (x n : Int) (h0 : 0 ≤ x) (h1 : x < 18446744073709551616) (w : World) :
    Calls Try.prog 5 #[.int .u64 x, .int .i64 n] w fun e w' => e = .returned (.bool true) ∧ Below w.heap.size w w' := by
  go_enter Try.func5, Try.ntmps5
  go_wp2_with (first | (go_at_call 20; refine (fits_c _ _ h0 h1 _).mono ?_; rintro e w' ⟨rfl, ⟨nd, rfl⟩⟩) | (go_at_call 21; refine (rFits_c _ _ _).mono ?_; rintro e w' ⟨rfl, ⟨nd, rfl⟩⟩) | (go_at_call 17; refine (awake_c _).mono ?_; rintro e w' ⟨rfl, hb⟩; replace hb := Lib.hid hb))
  go_ret
  exact ⟨rfl, (pw_below_drewN (Below.refl _ _) _).trans hb.out⟩
end Go.Proofs.Ytfbdkdhpmpeipaa.WordC
