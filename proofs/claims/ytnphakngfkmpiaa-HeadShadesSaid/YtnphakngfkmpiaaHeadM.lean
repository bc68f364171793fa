/-
  The laws HeadPacks and HeadUnpacks: walks, for every header and every word.
-/
import Derived.Test.YtnphakngfkmpiaaHeadL
set_option linter.unusedVariables false
namespace Go.Proofs.Ytnphakngfkmpiaa.HeadC
open Go.RowKit Go.Proofs.Ytnphakngfkmpiaa.PHeadShades Go.Proofs.YtnphakngfkmpiaaW.PrintWords Go.Proofs.YtnphakngfkmpiaaW.PrintLast Go.Proofs.Ytnphakngfkmpiaa.Core

theorem headN_bd {k m : Int} {g : Bool} {a n s : Int} (h : 0 ≤ k ∧ k ≤ 4 ∧ 0 ≤ m ∧ m ≤ 1 ∧ 0 ≤ a ∧ a ≤ 15 ∧ 0 ≤ n ∧ n ≤ 4294967295 ∧ 0 ≤ s ∧ s ≤ 65535) : 0 ≤ headN k m g a n s ∧ headN k m g a n s < 18446744073709551616 := by
  unfold headN; split <;> omega
theorem u_headN {k m : Int} {g : Bool} {a n s : Int} (h : 0 ≤ k ∧ k ≤ 4 ∧ 0 ≤ m ∧ m ≤ 1 ∧ 0 ≤ a ∧ a ≤ 15 ∧ 0 ≤ n ∧ n ≤ 4294967295 ∧ 0 ≤ s ∧ s ≤ 65535) :
    okW (headN k m g a n s) = true ∧ uK (headN k m g a n s) = k ∧ uM (headN k m g a n s) = m ∧ uG (headN k m g a n s) = g ∧ uA (headN k m g a n s) = a ∧ uN (headN k m g a n s) = n ∧ uS (headN k m g a n s) = s := by
  have hb : 0 ≤ (if g = true then (16 : Int) else 0) ∧ (if g = true then (16 : Int) else 0) ≤ 16 ∧ ((if g = true then (16 : Int) else 0) = 16 ∨ (if g = true then (16 : Int) else 0) = 0) := by split <;> decide
  have ok : okW (headN k m g a n s) = true := by
    unfold okW headN; rw [decide_eq_true_eq]; omega
  obtain ⟨e1, e2, e3, e4, e5, e6⟩ := u_yes ok
  rw [e1, e2, e3, e4, e5, e6]
  refine ⟨ok, ?_, ?_, ?_, ?_, ?_, ?_⟩
  · unfold headN; omega
  · unfold headN; omega
  · cases g <;> (unfold headN; simp; omega)
  · unfold headN; omega
  · unfold headN; omega
  · unfold headN; omega
theorem headN_u {x : Int} (h0 : 0 ≤ x) (h1 : x < 18446744073709551616) (h : okW x = true) : headN (uK x) (uM x) (uG x) (uA x) (uN x) (uS x) = x := by
  obtain ⟨e1, e2, e3, e4, e5, e6⟩ := u_yes h
  rw [e1, e2, e3, e4, e5, e6]
  simp only [okW, decide_eq_true_eq] at h
  unfold headN
  by_cases c : x / 16 % 2 = 1
  · rw [if_pos (by simpa using c)]; omega
  · rw [if_neg (by simpa using c)]; omega
theorem unpackN_c (k m : Int) (g : Bool) (a n s : Int) (h : 0 ≤ k ∧ k ≤ 4 ∧ 0 ≤ m ∧ m ≤ 1 ∧ 0 ≤ a ∧ a ≤ 15 ∧ 0 ≤ n ∧ n ≤ 4294967295 ∧ 0 ≤ s ∧ s ≤ 65535) (w : World) :
    Calls Try.prog 37 #[.int .u64 (headN k m g a n s)] w fun e w' => e = .returned (.tuple #[.agg #[.int .i64 k, .int .i64 m, .bool g, .int .i64 a, .int .i64 n, .int .i64 s], .bool true]) ∧ Below w.heap.size w w' := by
  have b := headN_bd (g := g) h
  have := unpack_c (headN k m g a n s) b.1 b.2 w
  obtain ⟨e0, e1, e2, e3, e4, e5, e6⟩ := u_headN (g := g) h
  rw [e0, e1, e2, e3, e4, e5, e6] at this
  exact this
set_option maxHeartbeats 2000000 in
theorem lawPacks_no (k m : Int) (g : Bool) (a n s : Int) (h1 : k < 9223372036854775808) (h2 : m < 9223372036854775808) (h3 : a < 9223372036854775808) (h4 : n < 9223372036854775808) (h5 : s < 9223372036854775808) (hB : headB k m a n s = false) (w : World) :
    Calls Try.prog 8 #[.agg #[.int .i64 k, .int .i64 m, .bool g, .int .i64 a, .int .i64 n, .int .i64 s]] w fun r w' => r = .returned (.bool true) ∧ Below w.heap.size w w' := by
  have HV := Lib.hid (show packV k m g a n s = (0, false) from by unfold packV; rw [hB]; rfl)
  have HB := Lib.hid hB
  clear hB
  go_enter Try.func8, Try.ntmps8
  go_wp2_with (first | (go_at_call 36; refine (pack_c k m g a n s h1 h2 h3 h4 h5 _).mono ?_; rintro r v1 ⟨rfl, hb1⟩; rw [HV.out]; obtain ⟨hc, hf⟩ := bcell hb1; have hl := fun b (h : b < _) => Nat.lt_of_lt_of_le h hb1.size; replace hb1 := Lib.hid hb1) | (go_at_call 33; refine (rRight_c _ _ _ _ _ _ _).mono ?_; rintro r v2 ⟨rfl, hb2⟩; rw [HB.out]; obtain ⟨hc, hf⟩ := bcell hb2; have hl := fun b (h : b < _) => Nat.lt_of_lt_of_le h hb2.size; replace hb2 := Lib.hid hb2) | (go_at_call 34; refine (awake_c _).mono ?_; rintro r w9 ⟨rfl, hb⟩; replace hb := Lib.hid hb))
  go_ret
  exact ⟨rfl, by repeat (first | exact Below.refl _ _ | apply pw_below_drewN | refine below_alloc ?_ _ | (refine bT ?_ (Hid.out (by assumption))) | (refine Below.setCell ?_ (by simp <;> omega) _))⟩
set_option maxHeartbeats 2000000 in
theorem lawPacks_yes (k m : Int) (g : Bool) (a n s : Int) (h1 : k < 9223372036854775808) (h2 : m < 9223372036854775808) (h3 : a < 9223372036854775808) (h4 : n < 9223372036854775808) (h5 : s < 9223372036854775808) (h : 0 ≤ k ∧ k ≤ 4 ∧ 0 ≤ m ∧ m ≤ 1 ∧ 0 ≤ a ∧ a ≤ 15 ∧ 0 ≤ n ∧ n ≤ 4294967295 ∧ 0 ≤ s ∧ s ≤ 65535) (w : World) :
    Calls Try.prog 8 #[.agg #[.int .i64 k, .int .i64 m, .bool g, .int .i64 a, .int .i64 n, .int .i64 s]] w fun r w' => r = .returned (.bool true) ∧ Below w.heap.size w w' := by
  have HB := Lib.hid (show headB k m a n s = true from by unfold headB; rw [decide_eq_true h])
  have HR := Lib.hid h
  clear h
  go_enter Try.func8, Try.ntmps8
  go_wp2_with (first | (go_at_call 36; refine (pack_ok k m g a n s HR.out _).mono ?_; rintro r v1 ⟨rfl, hb1⟩; obtain ⟨hc, hf⟩ := bcell hb1; have hl := fun b (h : b < _) => Nat.lt_of_lt_of_le h hb1.size; have hw : w.heap.size < v1.heap.size := Nat.lt_of_lt_of_le (by first | omega | (simp; done) | (simp; omega)) hb1.size; replace hb1 := Lib.hid hb1) | (go_at_call 33; refine (rRight_c _ _ _ _ _ _ _).mono ?_; rintro r v2 ⟨rfl, hb2⟩; rw [HB.out]; obtain ⟨hc, hf⟩ := bcell hb2; have hl := fun b (h : b < _) => Nat.lt_of_lt_of_le h hb2.size; have hw : w.heap.size < v2.heap.size := Nat.lt_of_lt_of_le (by first | omega | (simp; done) | (simp; omega)) hb2.size; replace hb2 := Lib.hid hb2) | (go_at_call 37; refine (unpackN_c _ _ _ _ _ _ HR.out _).mono ?_; rintro r v3 ⟨rfl, hb3⟩; obtain ⟨hc, hf⟩ := bcell hb3; have hl := fun b (h : b < _) => Nat.lt_of_lt_of_le h hb3.size; have hw : w.heap.size < v3.heap.size := Nat.lt_of_lt_of_le (by first | omega | (simp; done) | (simp; omega)) hb3.size; replace hb3 := Lib.hid hb3) | (go_at_call 35; refine (rPack_c _ _ _ _ _ _ HR.out _).mono ?_; rintro r v4 ⟨rfl, hb4⟩; obtain ⟨hc, hf⟩ := bcell hb4; have hl := fun b (h : b < _) => Nat.lt_of_lt_of_le h hb4.size; have hw : w.heap.size < v4.heap.size := Nat.lt_of_lt_of_le (by first | omega | (simp; done) | (simp; omega)) hb4.size; replace hb4 := Lib.hid hb4) | (go_at_call 34; refine (awake_c _).mono ?_; rintro r w9 ⟨rfl, hb⟩; replace hb := Lib.hid hb))
  go_ret
  exact ⟨rfl, by repeat (first | exact Below.refl _ _ | apply pw_below_drewN | refine below_alloc ?_ _ | (refine bT ?_ (Hid.out (by assumption))) | (refine Below.setCell ?_ (by simp <;> omega) _))⟩
theorem lawPacks (k m : Int) (g : Bool) (a n s : Int) (h1 : k < 9223372036854775808) (h2 : m < 9223372036854775808) (h3 : a < 9223372036854775808) (h4 : n < 9223372036854775808) (h5 : s < 9223372036854775808) (w : World) :
    Calls Try.prog 8 #[.agg #[.int .i64 k, .int .i64 m, .bool g, .int .i64 a, .int .i64 n, .int .i64 s]] w fun r w' => r = .returned (.bool true) ∧ Below w.heap.size w w' := by
  cases hB : headB k m a n s with
  | false => exact lawPacks_no k m g a n s h1 h2 h3 h4 h5 hB w
  | true => exact lawPacks_yes k m g a n s h1 h2 h3 h4 h5 (by simpa [headB] using hB) w
set_option maxHeartbeats 2000000 in
theorem lawUnpacks_no (x : Int) (h0 : 0 ≤ x) (h1 : x < 18446744073709551616) (hk : okW x = false) (w : World) :
    Calls Try.prog 9 #[.int .u64 x] w fun r w' => r = .returned (.bool true) ∧ Below w.heap.size w w' := by
  obtain ⟨b1, b2, b3, b4, b5, b6, b7, b8, b9, b10⟩ := u_bd x h0 h1
  go_enter Try.func9, Try.ntmps9
  go_wp2_with (first | (go_at_call 37; refine (unpack_c x h0 h1 _).mono ?_; rintro r v1 ⟨rfl, hb1⟩; obtain ⟨hc, hf⟩ := bcell hb1; have hl := fun b (h : b < _) => Nat.lt_of_lt_of_le h hb1.size; replace hb1 := Lib.hid hb1) | (go_at_call 38; refine (rUnpack_c x h0 h1 _).mono ?_; rintro r v2 ⟨rfl, hb2⟩; obtain ⟨hc, hf⟩ := bcell hb2; have hl := fun b (h : b < _) => Nat.lt_of_lt_of_le h hb2.size; replace hb2 := Lib.hid hb2) | (go_at_call 36; refine (pack_ok _ _ _ _ _ _ (by omega) _).mono ?_; rintro r v3 ⟨rfl, hb3⟩; obtain ⟨hc, hf⟩ := bcell hb3; have hl := fun b (h : b < _) => Nat.lt_of_lt_of_le h hb3.size; replace hb3 := Lib.hid hb3) | (go_at_call 34; refine (awake_c _).mono ?_; rintro r w9 ⟨rfl, hb⟩; replace hb := Lib.hid hb))
  go_ret
  exact ⟨rfl, by repeat (first | exact Below.refl _ _ | apply pw_below_drewN | refine below_alloc ?_ _ | (refine bT ?_ (Hid.out (by assumption))) | (refine Below.setCell ?_ (by simp <;> omega) _))⟩
set_option maxHeartbeats 2000000 in
theorem lawUnpacks_yes (x : Int) (h0 : 0 ≤ x) (h1 : x < 18446744073709551616) (hk : okW x = true) (w : World) :
    Calls Try.prog 9 #[.int .u64 x] w fun r w' => r = .returned (.bool true) ∧ Below w.heap.size w w' := by
  obtain ⟨b1, b2, b3, b4, b5, b6, b7, b8, b9, b10⟩ := u_bd x h0 h1
  have HX := Lib.hid (headN_u h0 h1 hk)
  go_enter Try.func9, Try.ntmps9
  go_wp2_with (first | (go_at_call 37; refine (unpack_c x h0 h1 _).mono ?_; rintro r v1 ⟨rfl, hb1⟩; obtain ⟨hc, hf⟩ := bcell hb1; have hl := fun b (h : b < _) => Nat.lt_of_lt_of_le h hb1.size; replace hb1 := Lib.hid hb1) | (go_at_call 38; refine (rUnpack_c x h0 h1 _).mono ?_; rintro r v2 ⟨rfl, hb2⟩; obtain ⟨hc, hf⟩ := bcell hb2; have hl := fun b (h : b < _) => Nat.lt_of_lt_of_le h hb2.size; replace hb2 := Lib.hid hb2) | (go_at_call 36; refine (pack_ok _ _ _ _ _ _ (by omega) _).mono ?_; rintro r v3 ⟨rfl, hb3⟩; rw [HX.out]; obtain ⟨hc, hf⟩ := bcell hb3; have hl := fun b (h : b < _) => Nat.lt_of_lt_of_le h hb3.size; replace hb3 := Lib.hid hb3) | (go_at_call 34; refine (awake_c _).mono ?_; rintro r w9 ⟨rfl, hb⟩; replace hb := Lib.hid hb))
  go_ret
  exact ⟨rfl, by repeat (first | exact Below.refl _ _ | apply pw_below_drewN | refine below_alloc ?_ _ | (refine bT ?_ (Hid.out (by assumption))) | (refine Below.setCell ?_ (by simp <;> omega) _))⟩
theorem lawUnpacks (x : Int) (h0 : 0 ≤ x) (h1 : x < 18446744073709551616) (w : World) :
    Calls Try.prog 9 #[.int .u64 x] w fun r w' => r = .returned (.bool true) ∧ Below w.heap.size w w' := by
  cases hk : okW x with
  | false => exact lawUnpacks_no x h0 h1 hk w
  | true => exact lawUnpacks_yes x h0 h1 hk w
end Go.Proofs.Ytnphakngfkmpiaa.HeadC
