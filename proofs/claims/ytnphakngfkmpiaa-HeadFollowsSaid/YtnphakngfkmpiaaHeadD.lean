/-
  Contracts of head.Shaded, Blackened, Retired, Freed and Made, in closed form; conditions: the words' kinds.
-/
import Derived.Test.YtnphakngfkmpiaaHeadC
set_option linter.unusedVariables false
namespace Go.Proofs.Ytnphakngfkmpiaa.HeadC
open Go.RowKit Go.Proofs.Ytnphakngfkmpiaa.PHeadShades Go.Proofs.YtnphakngfkmpiaaW.PrintWords Go.Proofs.YtnphakngfkmpiaaW.PrintLast Go.Proofs.Ytnphakngfkmpiaa.Core

set_option maxHeartbeats 1000000 in
theorem shaded_no1 (x e : Int) (h0 : 0 ≤ x) (h1 : x < 18446744073709551616) (h2 : 0 ≤ e) (h3 : e < 18446744073709551616) (hl : livesB x = false) (w : World) :
    Calls Try.prog 43 #[.int .u64 x, .int .u64 e] w fun r w' => r = .returned (.tuple #[.int .u64 x, .bool false]) ∧ Below w.heap.size w w' := by
  go_enter Try.func43, Try.ntmps43
  go_wp2_with (go_at_call 63; refine (lives_c x h0 h1 _).mono ?_; rintro r w1 ⟨rfl, hb⟩; replace hb := Lib.hid hb)
  go_quiet (fail)
  go_wp2
  go_ret2
  exact ⟨rfl, pw_below_drewN (below_alloc hb.out _) _⟩
set_option maxHeartbeats 1000000 in
theorem shaded_no2 (x e : Int) (h0 : 0 ≤ x) (h1 : x < 18446744073709551616) (h2 : 0 ≤ e) (h3 : e < 18446744073709551616) (hl : livesB x = true) (hm : (uM x == blackI e) = true) (w : World) :
    Calls Try.prog 43 #[.int .u64 x, .int .u64 e] w fun r w' => r = .returned (.tuple #[.int .u64 x, .bool false]) ∧ Below w.heap.size w w' := by
  go_enter Try.func43, Try.ntmps43
  go_wp2_with (go_at_call 63; refine (lives_c x h0 h1 _).mono ?_; rintro r w1 ⟨rfl, hb⟩; replace hb := Lib.hid hb)
  go_quiet ((go_at_call 64; refine (black_c e h2 h3 _).mono ?_; rintro r w' ⟨rfl, ⟨nd, rfl⟩⟩; first | exact ⟨rfl, _, World.drewN_drewN _ _ _⟩ | exact ⟨rfl, _, Eq.trans (World.drewN_drewN _ _ _) (congrArg (World.drewN _) (Nat.add_assoc _ _ _))⟩))
  go_wp2
  go_ret2
  exact ⟨rfl, pw_below_drewN (below_alloc hb.out _) _⟩
set_option maxHeartbeats 1000000 in
theorem shaded_yes (x e : Int) (h0 : 0 ≤ x) (h1 : x < 18446744073709551616) (h2 : 0 ≤ e) (h3 : e < 18446744073709551616) (hl : livesB x = true) (hm : (uM x == blackI e) = false) (w : World) :
    Calls Try.prog 43 #[.int .u64 x, .int .u64 e] w fun r w' => r = .returned (.tuple #[.int .u64 (headN (uK x) (blackI e) true (uA x) (uN x) (uS x)), .bool true]) ∧ Below w.heap.size w w' := by
  obtain ⟨b1, b2, b3, b4, b5, b6, b7, b8, b9, b10⟩ := u_bd x h0 h1
  have bb := black_bd e
  obtain ⟨c1, c2⟩ := bb
  go_enter Try.func43, Try.ntmps43
  go_wp2_with (go_at_call 63; refine (lives_c x h0 h1 _).mono ?_; rintro r w1 ⟨rfl, hb⟩; replace hb := Lib.hid hb)
  go_quiet ((go_at_call 64; refine (black_c e h2 h3 _).mono ?_; rintro r w' ⟨rfl, ⟨nd, rfl⟩⟩; first | exact ⟨rfl, _, World.drewN_drewN _ _ _⟩ | exact ⟨rfl, _, Eq.trans (World.drewN_drewN _ _ _) (congrArg (World.drewN _) (Nat.add_assoc _ _ _))⟩))
  go_wp2_with (first | (go_at_call 64; refine (black_c e h2 h3 _).mono ?_; rintro r w' ⟨rfl, ⟨nd, rfl⟩⟩) | (go_at_call 36; refine (pack_ok _ _ _ _ _ _ (by omega) _).mono ?_; rintro r w2 ⟨rfl, hb2⟩; replace hb2 := Lib.hid hb2))
  go_ret2
  exact ⟨rfl, bT (by repeat (first | exact below_alloc hb.out _ | apply pw_below_drewN | (refine Below.setCell ?_ (by have := hb.out.size; simp <;> omega) _))) hb2.out⟩
theorem shaded_c (x e : Int) (h0 : 0 ≤ x) (h1 : x < 18446744073709551616) (h2 : 0 ≤ e) (h3 : e < 18446744073709551616) (w : World) :
    Calls Try.prog 43 #[.int .u64 x, .int .u64 e] w fun r w' => r = .returned (.tuple #[.int .u64 (shadedV x e).1, .bool (shadedV x e).2]) ∧ Below w.heap.size w w' := by
  cases hl : livesB x with
  | false =>
    rw [show shadedV x e = (x, false) from by unfold shadedV; rw [if_neg (by rw [hl]; simp)]]
    exact shaded_no1 x e h0 h1 h2 h3 hl w
  | true =>
    cases hm : (uM x == blackI e) with
    | true =>
      rw [show shadedV x e = (x, false) from by unfold shadedV; rw [if_neg (by simp at hm; simp [hm])]]
      exact shaded_no2 x e h0 h1 h2 h3 hl hm w
    | false =>
      rw [show shadedV x e = ((headN (uK x) (blackI e) true (uA x) (uN x) (uS x)), true) from by unfold shadedV; rw [if_pos (by simp at hm; exact ⟨hl, hm⟩)]]
      exact shaded_yes x e h0 h1 h2 h3 hl hm w
set_option maxHeartbeats 1000000 in
theorem retired_no1 (x e : Int) (h0 : 0 ≤ x) (h1 : x < 18446744073709551616) (h2 : 0 ≤ e) (h3 : e < 18446744073709551616) (hl : livesB x = false) (w : World) :
    Calls Try.prog 39 #[.int .u64 x, .int .u64 e] w fun r w' => r = .returned (.tuple #[.int .u64 x, .bool false]) ∧ Below w.heap.size w w' := by
  go_enter Try.func39, Try.ntmps39
  go_wp2_with (go_at_call 63; refine (lives_c x h0 h1 _).mono ?_; rintro r w1 ⟨rfl, hb⟩; replace hb := Lib.hid hb)
  go_quiet (fail)
  go_wp2
  go_ret2
  exact ⟨rfl, pw_below_drewN (below_alloc hb.out _) _⟩
set_option maxHeartbeats 1000000 in
theorem retired_no2 (x e : Int) (h0 : 0 ≤ x) (h1 : x < 18446744073709551616) (h2 : 0 ≤ e) (h3 : e < 18446744073709551616) (hl : livesB x = true) (hm : (uM x == blackI e) = true) (w : World) :
    Calls Try.prog 39 #[.int .u64 x, .int .u64 e] w fun r w' => r = .returned (.tuple #[.int .u64 x, .bool false]) ∧ Below w.heap.size w w' := by
  go_enter Try.func39, Try.ntmps39
  go_wp2_with (go_at_call 63; refine (lives_c x h0 h1 _).mono ?_; rintro r w1 ⟨rfl, hb⟩; replace hb := Lib.hid hb)
  go_quiet ((go_at_call 64; refine (black_c e h2 h3 _).mono ?_; rintro r w' ⟨rfl, ⟨nd, rfl⟩⟩; first | exact ⟨rfl, _, World.drewN_drewN _ _ _⟩ | exact ⟨rfl, _, Eq.trans (World.drewN_drewN _ _ _) (congrArg (World.drewN _) (Nat.add_assoc _ _ _))⟩))
  go_wp2
  go_ret2
  exact ⟨rfl, pw_below_drewN (below_alloc hb.out _) _⟩
set_option maxHeartbeats 1000000 in
theorem retired_yes (x e : Int) (h0 : 0 ≤ x) (h1 : x < 18446744073709551616) (h2 : 0 ≤ e) (h3 : e < 18446744073709551616) (hl : livesB x = true) (hm : (uM x == blackI e) = false) (w : World) :
    Calls Try.prog 39 #[.int .u64 x, .int .u64 e] w fun r w' => r = .returned (.tuple #[.int .u64 (headN 3 (uM x) false (uA x) (uN x) (e % 65536)), .bool true]) ∧ Below w.heap.size w w' := by
  obtain ⟨b1, b2, b3, b4, b5, b6, b7, b8, b9, b10⟩ := u_bd x h0 h1
  have bb := black_bd e
  obtain ⟨c1, c2⟩ := bb
  have he : bits .and .u64 e 65535 = e % 65536 := by
    obtain ⟨e, rfl⟩ := Int.eq_ofNat_of_zero_le h2
    have := bits_and e 65535 (by rw [p64]; omega) (by rw [p64]; omega)
    rw [show (65535 : Nat) = 2 ^ 16 - 1 from rfl, Nat.and_two_pow_sub_one_eq_mod] at this
    exact this
  have he0 : 0 ≤ e % 65536 := by omega
  have he1 : e % 65536 ≤ 65535 := by omega
  go_enter Try.func39, Try.ntmps39
  go_wp2_with (go_at_call 63; refine (lives_c x h0 h1 _).mono ?_; rintro r w1 ⟨rfl, hb⟩; replace hb := Lib.hid hb)
  go_quiet ((go_at_call 64; refine (black_c e h2 h3 _).mono ?_; rintro r w' ⟨rfl, ⟨nd, rfl⟩⟩; first | exact ⟨rfl, _, World.drewN_drewN _ _ _⟩ | exact ⟨rfl, _, Eq.trans (World.drewN_drewN _ _ _) (congrArg (World.drewN _) (Nat.add_assoc _ _ _))⟩))
  go_wp2_with (first | (go_at_call 64; refine (black_c e h2 h3 _).mono ?_; rintro r w' ⟨rfl, ⟨nd, rfl⟩⟩) | (go_at_call 36; refine (pack_ok _ _ _ _ _ _ (by omega) _).mono ?_; rintro r w2 ⟨rfl, hb2⟩; replace hb2 := Lib.hid hb2))
  go_ret2
  exact ⟨rfl, bT (by repeat (first | exact below_alloc hb.out _ | apply pw_below_drewN | (refine Below.setCell ?_ (by have := hb.out.size; simp <;> omega) _))) hb2.out⟩
theorem retired_c (x e : Int) (h0 : 0 ≤ x) (h1 : x < 18446744073709551616) (h2 : 0 ≤ e) (h3 : e < 18446744073709551616) (w : World) :
    Calls Try.prog 39 #[.int .u64 x, .int .u64 e] w fun r w' => r = .returned (.tuple #[.int .u64 (retiredV x e).1, .bool (retiredV x e).2]) ∧ Below w.heap.size w w' := by
  cases hl : livesB x with
  | false =>
    rw [show retiredV x e = (x, false) from by unfold retiredV; rw [if_neg (by rw [hl]; simp)]]
    exact retired_no1 x e h0 h1 h2 h3 hl w
  | true =>
    cases hm : (uM x == blackI e) with
    | true =>
      rw [show retiredV x e = (x, false) from by unfold retiredV; rw [if_neg (by simp at hm; simp [hm])]]
      exact retired_no2 x e h0 h1 h2 h3 hl hm w
    | false =>
      rw [show retiredV x e = ((headN 3 (uM x) false (uA x) (uN x) (e % 65536)), true) from by unfold retiredV; rw [if_pos (by simp at hm; exact ⟨hl, hm⟩)]]
      exact retired_yes x e h0 h1 h2 h3 hl hm w
set_option maxHeartbeats 1000000 in
theorem blackened_no1 (x : Int) (h0 : 0 ≤ x) (h1 : x < 18446744073709551616) (hk : okW x = false) (w : World) :
    Calls Try.prog 44 #[.int .u64 x] w fun r w' => r = .returned (.tuple #[.int .u64 x, .bool false]) ∧ Below w.heap.size w w' := by
  go_enter Try.func44, Try.ntmps44
  go_wp2_with (go_at_call 37; refine (unpack_c x h0 h1 _).mono ?_; rintro r w1 ⟨rfl, hb⟩; replace hb := Lib.hid hb)
  go_ret2
  exact ⟨rfl, below_alloc hb.out _⟩
set_option maxHeartbeats 1000000 in
theorem blackened_no2 (x : Int) (h0 : 0 ≤ x) (h1 : x < 18446744073709551616) (hk : okW x = true) (hg : uG x = false) (w : World) :
    Calls Try.prog 44 #[.int .u64 x] w fun r w' => r = .returned (.tuple #[.int .u64 x, .bool false]) ∧ Below w.heap.size w w' := by
  go_enter Try.func44, Try.ntmps44
  go_wp2_with (go_at_call 37; refine (unpack_c x h0 h1 _).mono ?_; rintro r w1 ⟨rfl, hb⟩; replace hb := Lib.hid hb)
  go_ret2
  exact ⟨rfl, below_alloc hb.out _⟩
set_option maxHeartbeats 1000000 in
theorem blackened_yes (x : Int) (h0 : 0 ≤ x) (h1 : x < 18446744073709551616) (hk : okW x = true) (hg : uG x = true) (w : World) :
    Calls Try.prog 44 #[.int .u64 x] w fun r w' => r = .returned (.tuple #[.int .u64 (headN (uK x) (uM x) false (uA x) (uN x) (uS x)), .bool true]) ∧ Below w.heap.size w w' := by
  obtain ⟨b1, b2, b3, b4, b5, b6, b7, b8, b9, b10⟩ := u_bd x h0 h1
  go_enter Try.func44, Try.ntmps44
  go_wp2_with (first | (go_at_call 37; refine (unpack_c x h0 h1 _).mono ?_; rintro r w1 ⟨rfl, hb⟩; replace hb := Lib.hid hb) | (go_at_call 36; refine (pack_ok _ _ _ _ _ _ (by omega) _).mono ?_; rintro r w2 ⟨rfl, hb2⟩; replace hb2 := Lib.hid hb2))
  go_ret2
  exact ⟨rfl, bT (below_alloc hb.out _) hb2.out⟩
theorem blackened_c (x : Int) (h0 : 0 ≤ x) (h1 : x < 18446744073709551616) (w : World) :
    Calls Try.prog 44 #[.int .u64 x] w fun r w' => r = .returned (.tuple #[.int .u64 (blackenedV x).1, .bool (blackenedV x).2]) ∧ Below w.heap.size w w' := by
  cases hk : okW x with
  | false =>
    rw [show blackenedV x = (x, false) from by unfold blackenedV; rw [if_neg (by rw [hk]; simp)]]
    exact blackened_no1 x h0 h1 hk w
  | true =>
    cases hg : uG x with
    | false =>
      rw [show blackenedV x = (x, false) from by unfold blackenedV; rw [if_neg (by rw [hg]; simp)]]
      exact blackened_no2 x h0 h1 hk hg w
    | true =>
      rw [show blackenedV x = (headN (uK x) (uM x) false (uA x) (uN x) (uS x), true) from by unfold blackenedV; rw [if_pos ⟨hk, hg⟩]]
      exact blackened_yes x h0 h1 hk hg w
set_option maxHeartbeats 1000000 in
theorem freed_no1 (x g : Int) (h0 : 0 ≤ x) (h1 : x < 18446744073709551616) (hk : okW x = false) (w : World) :
    Calls Try.prog 40 #[.int .u64 x, .int .i64 g] w fun r w' => r = .returned (.tuple #[.int .u64 x, .bool false]) ∧ Below w.heap.size w w' := by
  go_enter Try.func40, Try.ntmps40
  go_wp2_with (go_at_call 37; refine (unpack_c x h0 h1 _).mono ?_; rintro r w1 ⟨rfl, hb⟩; replace hb := Lib.hid hb)
  go_ret2
  exact ⟨rfl, below_alloc hb.out _⟩
set_option maxHeartbeats 1000000 in
theorem freed_no2 (x g : Int) (h0 : 0 ≤ x) (h1 : x < 18446744073709551616) (hk : okW x = true) (h3 : (uK x == 3) = false) (w : World) :
    Calls Try.prog 40 #[.int .u64 x, .int .i64 g] w fun r w' => r = .returned (.tuple #[.int .u64 x, .bool false]) ∧ Below w.heap.size w w' := by
  have h3' : (uK x != 3) = true := by simp at h3; simpa using h3
  go_enter Try.func40, Try.ntmps40
  go_wp2_with (go_at_call 37; refine (unpack_c x h0 h1 _).mono ?_; rintro r w1 ⟨rfl, hb⟩; replace hb := Lib.hid hb)
  go_ret2
  exact ⟨rfl, below_alloc hb.out _⟩
set_option maxHeartbeats 1000000 in
theorem freed_dead1 (x g : Int) (h0 : 0 ≤ x) (h1 : x < 18446744073709551616) (hk : okW x = true) (h3 : uK x = 3) (hg : g ≤ uN x + 1) (w : World) :
    Calls Try.prog 40 #[.int .u64 x, .int .i64 g] w fun r w' => r = .returned (.tuple #[.int .u64 (headN 4 (uM x) (uG x) (uA x) (uN x) (uS x)), .bool true]) ∧ Below w.heap.size w w' := by
  obtain ⟨b1, b2, b3, b4, b5, b6, b7, b8, b9, b10⟩ := u_bd x h0 h1
  have h3' : (uK x != 3) = false := by simp [h3]
  clear h3
  go_enter Try.func40, Try.ntmps40
  go_wp2_with (first | (go_at_call 37; refine (unpack_c x h0 h1 _).mono ?_; rintro r w1 ⟨rfl, hb⟩; replace hb := Lib.hid hb) | (go_at_call 36; refine (pack_ok _ _ _ _ _ _ (by omega) _).mono ?_; rintro r w2 ⟨rfl, hb2⟩; replace hb2 := Lib.hid hb2))
  go_ret2
  exact ⟨rfl, bT (below_alloc hb.out _) hb2.out⟩
set_option maxHeartbeats 1000000 in
theorem freed_dead2 (x g : Int) (h0 : 0 ≤ x) (h1 : x < 18446744073709551616) (hk : okW x = true) (h3 : uK x = 3) (hg : ¬ g ≤ uN x + 1) (hn : uN x = 4294967295) (w : World) :
    Calls Try.prog 40 #[.int .u64 x, .int .i64 g] w fun r w' => r = .returned (.tuple #[.int .u64 (headN 4 (uM x) (uG x) (uA x) (uN x) (uS x)), .bool true]) ∧ Below w.heap.size w w' := by
  obtain ⟨b1, b2, b3, b4, b5, b6, b7, b8, b9, b10⟩ := u_bd x h0 h1
  have h3' : (uK x != 3) = false := by simp [h3]
  clear h3
  have hn' : (4294967296 : Int) ≤ uN x + 1 := by omega
  clear hn
  have hg' : uN x + 1 < g := by omega
  clear hg
  go_enter Try.func40, Try.ntmps40
  go_wp2_with (first | (go_at_call 37; refine (unpack_c x h0 h1 _).mono ?_; rintro r w1 ⟨rfl, hb⟩; replace hb := Lib.hid hb) | (go_at_call 36; refine (pack_ok _ _ _ _ _ _ (by omega) _).mono ?_; rintro r w2 ⟨rfl, hb2⟩; replace hb2 := Lib.hid hb2))
  go_ret2
  exact ⟨rfl, bT (below_alloc hb.out _) hb2.out⟩
set_option maxHeartbeats 1000000 in
theorem freed_back (x g : Int) (h0 : 0 ≤ x) (h1 : x < 18446744073709551616) (hk : okW x = true) (h3 : uK x = 3) (hg : ¬ g ≤ uN x + 1) (hn : ¬ uN x = 4294967295) (w : World) :
    Calls Try.prog 40 #[.int .u64 x, .int .i64 g] w fun r w' => r = .returned (.tuple #[.int .u64 (headN 0 0 false 0 (uN x + 1) 0), .bool true]) ∧ Below w.heap.size w w' := by
  obtain ⟨b1, b2, b3, b4, b5, b6, b7, b8, b9, b10⟩ := u_bd x h0 h1
  have h3' : (uK x != 3) = false := by simp [h3]
  clear h3
  have hn' : uN x + 1 < 4294967296 := by omega
  clear hn
  have hg' : uN x + 1 < g := by omega
  clear hg
  go_enter Try.func40, Try.ntmps40
  go_wp2_with (first | (go_at_call 37; refine (unpack_c x h0 h1 _).mono ?_; rintro r w1 ⟨rfl, hb⟩; replace hb := Lib.hid hb) | (go_at_call 36; refine (pack_ok _ _ _ _ _ _ (by omega) _).mono ?_; rintro r w2 ⟨rfl, hb2⟩; replace hb2 := Lib.hid hb2))
  go_ret2
  exact ⟨rfl, bT (below_alloc hb.out _) hb2.out⟩
theorem freed_c (x g : Int) (h0 : 0 ≤ x) (h1 : x < 18446744073709551616) (w : World) :
    Calls Try.prog 40 #[.int .u64 x, .int .i64 g] w fun r w' => r = .returned (.tuple #[.int .u64 (freedV x g).1, .bool (freedV x g).2]) ∧ Below w.heap.size w w' := by
  cases hk : okW x with
  | false =>
    rw [show freedV x g = (x, false) from by unfold freedV; rw [if_neg (by rw [hk]; simp)]]
    exact freed_no1 x g h0 h1 hk w
  | true =>
    by_cases h3 : uK x = 3
    · by_cases hg : g ≤ uN x + 1
      · rw [show freedV x g = (headN 4 (uM x) (uG x) (uA x) (uN x) (uS x), true) from by unfold freedV; rw [if_pos ⟨hk, h3⟩, if_pos (.inl hg)]]
        exact freed_dead1 x g h0 h1 hk h3 hg w
      · by_cases hn : uN x = 4294967295
        · rw [show freedV x g = (headN 4 (uM x) (uG x) (uA x) (uN x) (uS x), true) from by unfold freedV; rw [if_pos ⟨hk, h3⟩, if_pos (.inr hn)]]
          exact freed_dead2 x g h0 h1 hk h3 hg hn w
        · rw [show freedV x g = (headN 0 0 false 0 (uN x + 1) 0, true) from by unfold freedV; rw [if_pos ⟨hk, h3⟩, if_neg (by rintro (h | h) <;> contradiction)]]
          exact freed_back x g h0 h1 hk h3 hg hn w
    · rw [show freedV x g = (x, false) from by unfold freedV; rw [if_neg (fun h => h3 h.2)]]
      exact freed_no2 x g h0 h1 hk (by simpa using h3) w
theorem born_bd (e : Int) : 0 ≤ bornI e ∧ bornI e ≤ 1 := by have := black_bd e; unfold bornI; split <;> omega
set_option maxHeartbeats 1000000 in
theorem made_no (k a n e : Int) (h2 : 0 ≤ e) (h3 : e < 18446744073709551616) (ha : a < 9223372036854775808) (hn : n < 9223372036854775808) (h1 : k ≠ 1) (h2' : k ≠ 2) (w : World) :
    Calls Try.prog 31 #[.int .i64 k, .int .i64 a, .int .i64 n, .int .u64 e] w fun r w' => r = .returned (.tuple #[.int .u64 0, .bool false]) ∧ Below w.heap.size w w' := by
  have e1 : (k != 1) = true := by simpa using h1
  have e2 : (k != 2) = true := by simpa using h2'
  clear h1 h2'
  go_enter Try.func31, Try.ntmps31
  go_wp2
  go_ret2
  exact ⟨rfl, Below.refl _ _⟩
set_option maxHeartbeats 1000000 in
theorem made_yes (k a n e : Int) (h2 : 0 ≤ e) (h3 : e < 18446744073709551616) (ha : a < 9223372036854775808) (hn : n < 9223372036854775808) (hk : k = 1 ∨ k = 2) (w : World) :
    Calls Try.prog 31 #[.int .i64 k, .int .i64 a, .int .i64 n, .int .u64 e] w fun r w' => r = .returned (.tuple #[.int .u64 (packV k (bornI e) false a n 0).1, .bool (packV k (bornI e) false a n 0).2]) ∧ Below w.heap.size w w' := by
  obtain ⟨c1, c2⟩ := born_bd e
  rcases hk with rfl | rfl
  all_goals
    go_enter Try.func31, Try.ntmps31
    go_wp2_with (first | (go_at_call 58; refine (born_c e h2 h3 _).mono ?_; rintro r w' ⟨rfl, ⟨nd, rfl⟩⟩) | (go_at_call 36; refine (pack_c _ _ _ _ _ _ (by omega) (by omega) ha hn (by omega) _).mono ?_; rintro r w2 ⟨rfl, hb2⟩; replace hb2 := Lib.hid hb2))
    go_ret2
    exact ⟨rfl, bT (pw_below_drewN (Below.refl _ _) _) hb2.out⟩
theorem made_c (k a n e : Int) (h2 : 0 ≤ e) (h3 : e < 18446744073709551616) (ha : a < 9223372036854775808) (hn : n < 9223372036854775808) (w : World) :
    Calls Try.prog 31 #[.int .i64 k, .int .i64 a, .int .i64 n, .int .u64 e] w fun r w' => r = .returned (.tuple #[.int .u64 (madeV k a n e).1, .bool (madeV k a n e).2]) ∧ Below w.heap.size w w' := by
  unfold madeV
  by_cases hk : k = 1 ∨ k = 2
  · rw [if_pos hk]; exact made_yes k a n e h2 h3 ha hn hk w
  · rw [if_neg hk]; exact made_no k a n e h2 h3 ha hn (fun h => hk (.inl h)) (fun h => hk (.inr h)) w
end Go.Proofs.Ytnphakngfkmpiaa.HeadC
