/-
  What was set is got; bits beside it stay: the law WordBack's walk, for every word.
-/
import Derived.Test.YtfbdkdhpmpeipaaWordC
namespace Go.Proofs.Ytfbdkdhpmpeipaa.WordC
open Go.RowKit Go.Proofs.Ytfbdkdhpmpeipaa.PTagHandles Go.Proofs.YtfbdkdhpmpeipaaW.PrintWords Go.Proofs.YtfbdkdhpmpeipaaW.PrintLast Go.Proofs.Ytfbdkdhpmpeipaa.Core
theorem get_of_bits (x y a b n : Nat) (h : ∀ i, i < n → x.testBit (a + i) = y.testBit (b + i)) : x / 2 ^ a % 2 ^ n = y / 2 ^ b % 2 ^ n := by
  refine Nat.eq_of_testBit_eq fun i => ?_
  rw [Nat.testBit_mod_two_pow, Nat.testBit_mod_two_pow, Nat.testBit_div_two_pow, Nat.testBit_div_two_pow]
  by_cases hi : i < n
  · rw [show i + a = a + i from by omega, show i + b = b + i from by omega, h i hi]
  · simp [hi]
theorem back1 (x a n v k : Int) (h : okB a n = true) (h0 : 0 ≤ x) (h2 : 0 ≤ v) (k0 : 0 ≤ k) (k1 : k < 64) (hk : k < a ∨ a + n ≤ k) : getV (setV x a n v) k 1 = getV x k 1 := by
  have hk1 : okB k 1 = true := okB_iff.2 (by omega)
  unfold getV setV
  rw [if_pos h, if_pos hk1, if_pos hk1]
  rw [okB_iff] at h
  obtain ⟨x, rfl⟩ := Int.eq_ofNat_of_zero_le h0
  obtain ⟨v, rfl⟩ := Int.eq_ofNat_of_zero_le h2
  obtain ⟨a, rfl⟩ := Int.eq_ofNat_of_zero_le h.2.2.1
  obtain ⟨n, rfl⟩ := Int.eq_ofNat_of_zero_le (show 0 ≤ n by omega)
  obtain ⟨k, rfl⟩ := Int.eq_ofNat_of_zero_le k0
  simp only [Int.toNat_natCast]
  have := get_of_bits (setN x a n v) x k k 1 (fun i hi => by
    obtain rfl : i = 0 := by omega
    rw [Nat.add_zero, setN_testBit]
    by_cases c : k < a
    · rw [if_pos c]
    · rw [if_neg c, if_neg (by omega)])
  exact_mod_cast this
theorem back2 (x a n v : Int) (h : okB a n = true) (h0 : 0 ≤ x) (h2 : 0 ≤ v) : getV (setV x a n v) a n = getV v 0 n := by
  have h' := okB_iff.1 h
  have hk1 : okB 0 n = true := okB_iff.2 (by omega)
  unfold getV setV
  rw [if_pos h, if_pos h, if_pos hk1]
  rw [okB_iff] at h
  obtain ⟨x, rfl⟩ := Int.eq_ofNat_of_zero_le h0
  obtain ⟨v, rfl⟩ := Int.eq_ofNat_of_zero_le h2
  obtain ⟨a, rfl⟩ := Int.eq_ofNat_of_zero_le h.2.2.1
  obtain ⟨n, rfl⟩ := Int.eq_ofNat_of_zero_le (show 0 ≤ n by omega)
  simp only [Int.toNat_natCast]
  have := get_of_bits (setN x a n v) v a 0 n (fun i hi => by
    rw [setN_testBit, if_neg (by omega), if_pos (by omega)]
    congr 1; omega)
  exact_mod_cast this
theorem back3 (x a n v : Int) (h : okB a n = true) (h0 : 0 ≤ x) (h2 : 0 ≤ v) : setV (setV x a n v) a n (getV x a n) = x := by
  unfold getV setV
  rw [if_pos h, if_pos h, if_pos h]
  rw [okB_iff] at h
  obtain ⟨x, rfl⟩ := Int.eq_ofNat_of_zero_le h0
  obtain ⟨v, rfl⟩ := Int.eq_ofNat_of_zero_le h2
  obtain ⟨a, rfl⟩ := Int.eq_ofNat_of_zero_le h.2.2.1
  obtain ⟨n, rfl⟩ := Int.eq_ofNat_of_zero_le (show 0 ≤ n by omega)
  simp only [Int.toNat_natCast]
  have e : (((x : Int) / 2 ^ a % 2 ^ n)).toNat = x / 2 ^ a % 2 ^ n := by
    rw [show ((x : Int) / 2 ^ a % 2 ^ n) = ((x / 2 ^ a % 2 ^ n : Nat) : Int) from by simp, Int.toNat_natCast]
  rw [e]
  congr 1
  refine Nat.eq_of_testBit_eq fun i => ?_
  rw [setN_testBit, setN_testBit, Nat.testBit_mod_two_pow, Nat.testBit_div_two_pow]
  by_cases c1 : i < a
  · rw [if_pos c1, if_pos c1]
  · rw [if_neg c1, if_neg c1]
    by_cases c2 : i < a + n
    · rw [if_pos c2, show i - a + a = i from by omega]; simp [show i - a < n by omega]
    · rw [if_neg c2, if_neg c2]
theorem setV_ge (x a n v : Int) (h0 : 0 ≤ x) : 0 ≤ setV x a n v := by
  unfold setV; split
  · omega
  · exact h0
theorem setV_lt (x a n v : Int) (h0 : 0 ≤ x) (h1 : x < 18446744073709551616) : setV x a n v < 18446744073709551616 := by
  unfold setV; split
  · rename_i h
    rw [okB_iff] at h
    have := setN_lt x.toNat a.toNat n.toNat v.toNat (by rw [p64]; omega) (by omega)
    rw [p64] at this
    omega
  · exact h1
set_option maxHeartbeats 1000000 in
theorem back_law_no (x a n v o : Int) (h0 : 0 ≤ x) (h1 : x < 18446744073709551616) (h2 : 0 ≤ v) (h3 : v < 18446744073709551616) (h : okB a n = false) (w : World) :
    Calls Try.prog 6 #[.int .u64 x, .int .i64 a, .int .i64 n, .int .u64 v, .int .i64 o] w fun e w' => e = .returned (.bool true) ∧ Below w.heap.size w w' := by
  have h' := okB_no.1 h
  have hs := Lib.hid (show setV x a n v = x from by unfold setV; rw [h]; rfl)
  clear h
  by_cases c1 : n < 1
  · clear h'
    go_enter Try.func6, Try.ntmps6
    go_wp2_with (first | (go_at_call 18; refine (set_c _ _ _ _ h0 h1 h2 h3 _).mono ?_; rintro e w' ⟨rfl, ⟨nd, rfl⟩⟩; rw [hs.out]) | (go_at_call 17; refine (awake_c _).mono ?_; rintro e w' ⟨rfl, hb⟩; replace hb := Lib.hid hb))
    go_ret
    exact ⟨rfl, (pw_below_drewN (Below.refl _ _) _).trans hb.out⟩
  by_cases c2 : 64 < n
  · clear h'
    go_enter Try.func6, Try.ntmps6
    go_wp2_with (first | (go_at_call 18; refine (set_c _ _ _ _ h0 h1 h2 h3 _).mono ?_; rintro e w' ⟨rfl, ⟨nd, rfl⟩⟩; rw [hs.out]) | (go_at_call 17; refine (awake_c _).mono ?_; rintro e w' ⟨rfl, hb⟩; replace hb := Lib.hid hb))
    go_ret
    exact ⟨rfl, (pw_below_drewN (Below.refl _ _) _).trans hb.out⟩
  by_cases c3 : a < 0
  · clear h'
    go_enter Try.func6, Try.ntmps6
    go_wp2_with (first | (go_at_call 18; refine (set_c _ _ _ _ h0 h1 h2 h3 _).mono ?_; rintro e w' ⟨rfl, ⟨nd, rfl⟩⟩; rw [hs.out]) | (go_at_call 17; refine (awake_c _).mono ?_; rintro e w' ⟨rfl, hb⟩; replace hb := Lib.hid hb))
    go_ret
    exact ⟨rfl, (pw_below_drewN (Below.refl _ _) _).trans hb.out⟩
  have c4 : 64 - n < a := by omega
  clear h'
  go_enter Try.func6, Try.ntmps6
  go_wp2_with (first | (go_at_call 18; refine (set_c _ _ _ _ h0 h1 h2 h3 _).mono ?_; rintro e w' ⟨rfl, ⟨nd, rfl⟩⟩; rw [hs.out]) | (go_at_call 17; refine (awake_c _).mono ?_; rintro e w' ⟨rfl, hb⟩; replace hb := Lib.hid hb))
  go_ret
  exact ⟨rfl, (pw_below_drewN (Below.refl _ _) _).trans hb.out⟩
set_option maxHeartbeats 2000000 in
theorem back_law_yes (x a n v o k : Int) (h0 : 0 ≤ x) (h1 : x < 18446744073709551616) (h2 : 0 ≤ v) (h3 : v < 18446744073709551616) (h : okB a n = true) (hk : wrap64 ((IntKind.u64.wrap o).tmod 64) = k) (k0 : 0 ≤ k) (k1 : k < 64) (w : World) :
    Calls Try.prog 6 #[.int .u64 x, .int .i64 a, .int .i64 n, .int .u64 v, .int .i64 o] w fun e w' => e = .returned (.bool true) ∧ Below w.heap.size w w' := by
  have g0 := setV_ge x a n v h0
  have g1 := setV_lt x a n v h0 h1
  have q0 := getV_ge x a n
  have q1 := getV_lt x a n
  obtain ⟨b1, b2, b3, b4⟩ := okB_iff.1 h
  have e2 := back2 x a n v h h0 h2
  have e3 := back3 x a n v h h0 h2
  by_cases c : k < a
  · have e1 := back1 x a n v k h h0 h2 k0 k1 (by omega)
    clear h
    go_enter Try.func6, Try.ntmps6
    go_wp2_with (first | (go_at_call 18; refine (set_c _ _ _ _ (by omega) (by omega) (by omega) (by omega) _).mono ?_; rintro e w' ⟨rfl, ⟨nd, rfl⟩⟩) | (go_at_call 15; refine (get_c _ _ _ (by omega) (by omega) _).mono ?_; rintro e w' ⟨rfl, ⟨nd, rfl⟩⟩) | (go_at_call 17; refine (awake_c _).mono ?_; rintro e w' ⟨rfl, hb⟩; replace hb := Lib.hid hb))
    go_ret
    exact ⟨rfl, (pw_below_drewN (Below.refl _ _) _).trans hb.out⟩
  by_cases c' : a + n ≤ k
  · have e1 := back1 x a n v k h h0 h2 k0 k1 (by omega)
    clear h
    go_enter Try.func6, Try.ntmps6
    go_wp2_with (first | (go_at_call 18; refine (set_c _ _ _ _ (by omega) (by omega) (by omega) (by omega) _).mono ?_; rintro e w' ⟨rfl, ⟨nd, rfl⟩⟩) | (go_at_call 15; refine (get_c _ _ _ (by omega) (by omega) _).mono ?_; rintro e w' ⟨rfl, ⟨nd, rfl⟩⟩) | (go_at_call 17; refine (awake_c _).mono ?_; rintro e w' ⟨rfl, hb⟩; replace hb := Lib.hid hb))
    go_ret
    exact ⟨rfl, (pw_below_drewN (Below.refl _ _) _).trans hb.out⟩
  clear h
  go_enter Try.func6, Try.ntmps6
  go_wp2_with (first | (go_at_call 18; refine (set_c _ _ _ _ (by omega) (by omega) (by omega) (by omega) _).mono ?_; rintro e w' ⟨rfl, ⟨nd, rfl⟩⟩) | (go_at_call 15; refine (get_c _ _ _ (by omega) (by omega) _).mono ?_; rintro e w' ⟨rfl, ⟨nd, rfl⟩⟩) | (go_at_call 17; refine (awake_c _).mono ?_; rintro e w' ⟨rfl, hb⟩; replace hb := Lib.hid hb))
  go_ret
  exact ⟨rfl, (pw_below_drewN (Below.refl _ _) _).trans hb.out⟩
theorem back_law_c (x a n v o : Int) (h0 : 0 ≤ x) (h1 : x < 18446744073709551616) (h2 : 0 ≤ v) (h3 : v < 18446744073709551616) (w : World) :
    Calls Try.prog 6 #[.int .u64 x, .int .i64 a, .int .i64 n, .int .u64 v, .int .i64 o] w fun e w' => e = .returned (.bool true) ∧ Below w.heap.size w w' := by
  cases h : okB a n with
  | false => exact back_law_no x a n v o h0 h1 h2 h3 h w
  | true =>
    have e : Int.tmod (IntKind.u64.wrap o) 64 = IntKind.u64.wrap o % 64 := Int.tmod_eq_emod_of_nonneg (by rw [wrap_u64]; omega)
    have e' : wrap64 ((IntKind.u64.wrap o).tmod 64) = IntKind.u64.wrap o % 64 := by rw [e, wrap64_id _ (by omega) (by omega)]
    exact back_law_yes x a n v o _ h0 h1 h2 h3 h e' (by omega) (by omega) w
end Go.Proofs.Ytfbdkdhpmpeipaa.WordC
