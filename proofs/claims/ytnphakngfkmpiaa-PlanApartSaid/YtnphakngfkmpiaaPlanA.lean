/-
  Each place of any right config has just one thing: contracts and the state of the law PlanApart's walk; conditions: the config's numbers.
-/
import Derived.Test.YtnphakngfkmpiaaCore
import Derived.Test.YtnphakngfkmpiaaPPlanApartx2
import Derived.Test.YtnphakngfkmpiaaPPlanApartx3
import Derived.Test.YtnphakngfkmpiaaBlk
import Derived.Lib.Hide
import Derived.Outline
set_option linter.unusedVariables false
set_option linter.unusedSectionVars false
namespace Go.Proofs.Ytnphakngfkmpiaa.PlanA
open Go.Proofs.Ytnphakngfkmpiaa.PPlanApart Go.RowKit Go.Proofs.YtnphakngfkmpiaaW.PrintWords Go.Proofs.YtnphakngfkmpiaaW.PrintLast Go.Proofs.YtnphakngfkmpiaaW.PrintMore Go.Proofs.Ytnphakngfkmpiaa.Core Go.Proofs.Ytnphakngfkmpiaa.Blk
theorem p_between (x lo hi : Int) : plan_between.f x lo hi = some (decide (lo ≤ x ∧ x ≤ hi)) := by
  unfold plan_between.f
  by_cases h : x ≥ lo
  · rw [if_pos h]; simp [show lo ≤ x from h]
  · rw [if_neg h]; simp [show ¬ lo ≤ x from h]
theorem p_pRight (S A C H G K : Int) : plan_Right.f S A C H G K = some (rightB S A C H G K) := by
  unfold plan_Right.f rightB
  simp only [p_between, Option.bind_some]
  by_cases h1 : 1 ≤ S ∧ S ≤ 64
  · rw [if_pos (decide_eq_true h1)]
    by_cases h2 : 0 ≤ A ∧ A ≤ 8
    · rw [if_pos (decide_eq_true h2)]
      by_cases h3 : 1 ≤ C ∧ C ≤ 8
      · rw [if_pos (decide_eq_true h3)]
        by_cases h4 : 1 ≤ H ∧ H ≤ 16
        · rw [if_pos (decide_eq_true h4)]
          by_cases h5 : 1 ≤ G ∧ G ≤ 1048576
          · rw [if_pos (decide_eq_true h5)]
            congr 1; rw [Bool.eq_iff_iff]; simp only [decide_eq_true_eq]; omega
          · rw [if_neg (by simpa using h5), decide_eq_false (by omega)]
        · rw [if_neg (by simpa using h4), decide_eq_false (by omega)]
      · rw [if_neg (by simpa using h3), decide_eq_false (by omega)]
    · rw [if_neg (by simpa using h2), decide_eq_false (by omega)]
  · rw [if_neg (by simpa using h1), decide_eq_false (by omega)]
theorem p_pSlots (S A C H G K : Int) (h : rightB S A C H G K = true) : plan_slots.f S A C H G K = some (slotsV C H) := by
  rw [right_iff] at h
  unfold plan_slots.f slotsV
  have := mul_le2 (a := C) (b := 1 + H + 2) (m := 8) (n := 19) (by omega) (by omega) (by omega) (by omega)
  rw [wrap64_id (1 + H) (by omega) (by omega), wrap64_id (1 + H + 2) (by omega) (by omega), wrap64_id (C * (1 + H + 2)) (by omega) (by omega), wrap64_id _ (by omega) (by omega)]
theorem p_pRoom (S A C H G K : Int) (h0 : -100 ≤ A) (h1 : A ≤ 100) : plan_room.f S A C H G K = some (roomV A) := by
  unfold plan_room.f roomV mx
  rw [wrap64_id _ (by split <;> omega) (by split <;> omega)]
theorem p_pSize (S A C H G K : Int) : plan_Size.f S A C H G K = some (if rightB S A C H G K = true then sizeV S A C H else 0) := by
  unfold plan_Size.f
  rw [p_pRight, Option.bind_some]
  by_cases h : rightB S A C H G K = true
  · have h' := right_iff.1 h
    have r := roomV_bd (A := A) (by omega) (by omega)
    have s := slotsV_bd (C := C) (H := H) (by omega) (by omega) (by omega) (by omega)
    have m := mul_le2 (a := S) (b := roomV A) (m := 64) (n := 10) (by omega) (by omega) (by omega) (by omega)
    rw [if_pos h, if_pos h, p_pSlots S A C H G K h, Option.bind_some, p_pRoom S A C H G K (by omega) (by omega), Option.bind_some, wrap64_id (S * roomV A) (by omega) (by omega), wrap64_id _ (by omega) (by omega)]; rfl
  · rw [if_neg h, if_neg h]
theorem p_pPlace (S A C H G K who be ea i : Int) (hb0 : 0 ≤ be) (hb1 : be ≤ 17) (he0 : 1 ≤ ea) (he1 : ea ≤ 16) :
    plan_place.f S A C H G K who be ea i = some (if rightB S A C H G K = true ∧ 0 ≤ who ∧ who < C ∧ 0 ≤ i ∧ i < ea then 4 + be * C + who * ea + i else -1) := by
  unfold plan_place.f
  rw [p_pRight, Option.bind_some]
  by_cases h : rightB S A C H G K = true
  · have h' := right_iff.1 h
    rw [if_pos h, p_between, Option.bind_some, wrap64_id (C - 1) (by omega) (by omega)]
    by_cases h2 : 0 ≤ who ∧ who ≤ C - 1
    · rw [if_pos (decide_eq_true h2), p_between, Option.bind_some, wrap64_id (ea - 1) (by omega) (by omega)]
      by_cases h3 : 0 ≤ i ∧ i ≤ ea - 1
      · have m1 := mul_le2 (a := be) (b := C) (m := 17) (n := 8) (by omega) (by omega) (by omega) (by omega)
        have m2 := mul_le2 (a := who) (b := ea) (m := 8) (n := 16) (by omega) (by omega) (by omega) (by omega)
        rw [if_pos (decide_eq_true h3), if_pos ⟨h, by omega, by omega, by omega, by omega⟩, wrap64_id (be * C) (by omega) (by omega), wrap64_id (4 + be * C) (by omega) (by omega), wrap64_id (who * ea) (by omega) (by omega), wrap64_id (4 + be * C + who * ea) (by omega) (by omega), wrap64_id _ (by omega) (by omega)]
      · rw [if_neg (by simpa using h3), if_neg (by omega)]
    · rw [if_neg (by simpa using h2), if_neg (by omega)]
  · rw [if_neg h, if_neg (fun c => h c.1)]
theorem p_pPin (S A C H G K who : Int) : plan_Pin.f S A C H G K who = some (if rightB S A C H G K = true ∧ 0 ≤ who ∧ who < C then 4 + who else -1) := by
  unfold plan_Pin.f
  rw [p_pPlace _ _ _ _ _ _ _ _ _ _ (by decide) (by decide) (by decide) (by decide), Option.bind_some]
  by_cases h : rightB S A C H G K = true ∧ 0 ≤ who ∧ who < C
  · rw [if_pos h, if_pos ⟨h.1, h.2.1, h.2.2, by decide, by decide⟩]; simp
  · rw [if_neg h, if_neg (fun c => h ⟨c.1, c.2.1, c.2.2.1⟩)]
theorem p_pView (S A C H G K who : Int) : plan_View.f S A C H G K who = some (if rightB S A C H G K = true ∧ 0 ≤ who ∧ who < C then 4 + (1 + H) * C + who * 2 else -1) := by
  unfold plan_View.f
  by_cases h : rightB S A C H G K = true
  · have h' := right_iff.1 h
    rw [wrap64_id _ (by omega) (by omega), p_pPlace _ _ _ _ _ _ _ _ _ _ (by omega) (by omega) (by decide) (by decide), Option.bind_some]
    simp
  · unfold plan_place.f
    rw [p_pRight, Option.bind_some, if_neg h, if_neg (fun c => h c.1)]; rfl
theorem p_pWithin (k : Nat) (S A C H G K s i : Int) (hk : 1 ≤ k) :
    plan_within.f k S A C H G K s i = some (if rightB S A C H G K = true ∧ 0 ≤ s ∧ s < S ∧ 0 ≤ i ∧ i < roomV A then slotsV C H + s * roomV A + i else -1) := by
  obtain ⟨k, rfl⟩ : ∃ m, k = m + 1 := ⟨k - 1, by omega⟩
  unfold plan_within.f
  rw [p_pRight, Option.bind_some]
  by_cases h : rightB S A C H G K = true
  · have h' := right_iff.1 h
    have r := roomV_bd (A := A) (by omega) (by omega)
    have sl := slotsV_bd (C := C) (H := H) (by omega) (by omega) (by omega) (by omega)
    rw [if_pos h, p_between, Option.bind_some, wrap64_id (S - 1) (by omega) (by omega)]
    by_cases h2 : 0 ≤ s ∧ s ≤ S - 1
    · have m := mul_le2 (a := s) (b := roomV A) (m := 64) (n := 10) (by omega) (by omega) (by omega) (by omega)
      rw [if_pos (decide_eq_true h2), p_pRoom S A C H G K (by omega) (by omega), Option.bind_some, p_between, Option.bind_some, wrap64_id (roomV A - 1) (by omega) (by omega)]
      simp only [plan_within.j0]
      by_cases h3 : 0 ≤ i ∧ i ≤ roomV A - 1
      · rw [if_neg (by simp [h3]), p_pSlots S A C H G K h, Option.bind_some, p_pRoom S A C H G K (by omega) (by omega), Option.bind_some, if_pos ⟨h, by omega, by omega, by omega, by omega⟩, wrap64_id (s * roomV A) (by omega) (by omega), wrap64_id (slotsV C H + s * roomV A) (by omega) (by omega), wrap64_id _ (by omega) (by omega)]
      · rw [if_pos (by rw [decide_eq_false h3]; rfl), if_neg (by omega)]
    · rw [if_neg (by simpa using h2)]
      simp only [plan_within.j0]
      rw [if_pos trivial, if_neg (by omega)]
  · rw [if_neg h, if_neg (fun c => h c.1)]
    simp only [plan_within.j0]
    rw [if_pos trivial]
theorem p_pHeader (k : Nat) (S A C H G K s : Int) (hk : 1 ≤ k) : plan_Header.f k S A C H G K s = some (if rightB S A C H G K = true ∧ 0 ≤ s ∧ s < S then slotsV C H + s * roomV A else -1) := by
  unfold plan_Header.f
  rw [p_pWithin k S A C H G K s 0 hk, Option.bind_some]
  have r : 2 ≤ roomV A := by unfold roomV; split <;> omega
  by_cases h : rightB S A C H G K = true ∧ 0 ≤ s ∧ s < S
  · rw [if_pos h, if_pos ⟨h.1, h.2.1, h.2.2, by decide, by omega⟩]; simp
  · rw [if_neg h, if_neg (fun c => h ⟨c.1, c.2.1, c.2.2.1⟩)]
theorem p_pSlot (k : Nat) (S A C H G K at_ : Int) (hk : 1 ≤ k) : plan_Slot.f k S A C H G K at_ = some (if rightB S A C H G K = true ∧ slotsV C H ≤ at_ ∧ at_ < sizeV S A C H then (at_ - slotsV C H) / roomV A else -1) := by
  obtain ⟨k, rfl⟩ : ∃ m, k = m + 1 := ⟨k - 1, by omega⟩
  unfold plan_Slot.f
  rw [p_pRight, Option.bind_some]
  by_cases h : rightB S A C H G K = true
  · have h' := right_iff.1 h
    have r := roomV_bd (A := A) (by omega) (by omega)
    have sl := slotsV_bd (C := C) (H := H) (by omega) (by omega) (by omega) (by omega)
    have m := mul_le2 (a := S) (b := roomV A) (m := 64) (n := 10) (by omega) (by omega) (by omega) (by omega)
    rw [if_pos h, p_pSlots S A C H G K h, Option.bind_some, p_pSize, if_pos h, Option.bind_some]
    simp only [plan_Slot.j0]
    by_cases h1 : at_ < slotsV C H
    · rw [if_pos h1, if_pos trivial, if_neg (by omega)]
    · rw [if_neg h1]
      by_cases h2 : at_ ≥ sizeV S A C H
      · rw [if_pos (by simpa using h2), if_neg (by omega)]
      · have hs : at_ < sizeV S A C H := by omega
        have hs' := hs
        unfold sizeV at hs'
        rw [if_neg (by simpa using h2), p_pSlots S A C H G K h, Option.bind_some, p_pRoom S A C H G K (by omega) (by omega), Option.bind_some, if_neg (by omega), if_pos ⟨h, by omega, hs⟩, wrap64_id (at_ - slotsV C H) (by omega) (by omega)]
        have t : Int.tdiv (at_ - slotsV C H) (roomV A) = (at_ - slotsV C H) / roomV A := Int.tdiv_eq_ediv_of_nonneg (by omega)
        have d0 : 0 ≤ (at_ - slotsV C H) / roomV A := Int.ediv_nonneg (by omega) (by omega)
        have d1 : (at_ - slotsV C H) / roomV A ≤ at_ - slotsV C H := Int.ediv_le_self _ (by omega)
        rw [t, wrap64_id _ (by omega) (by omega)]
  · rw [if_neg h, if_neg (fun c => h c.1)]
    simp only [plan_Slot.j0]
    rw [if_pos trivial]
theorem p_awake6 (k : Nat) (hk : 3 ≤ k) : withylaw06_awake.f k = some true := at_rounds withylaw06_awake.mono hk (by decide +kernel : withylaw06_awake.f 3 = some true)
theorem p_pEntry (S A C H G K who i : Int) : plan_Entry.f S A C H G K who i = some (if rightB S A C H G K = true ∧ 0 ≤ who ∧ who < C ∧ 0 ≤ i ∧ i < H then 4 + C + who * H + i else -1) := by
  unfold plan_Entry.f
  by_cases h : rightB S A C H G K = true
  · have h' := right_iff.1 h
    rw [p_pPlace _ _ _ _ _ _ _ _ _ _ (by decide) (by decide) (by omega) (by omega), Option.bind_some]
    simp
  · unfold plan_place.f
    rw [p_pRight, Option.bind_some, if_neg h, if_neg (fun c => h c.1)]; rfl
theorem p_pStart (S A C H G K who : Int) : plan_Start.f S A C H G K who = some (if rightB S A C H G K = true ∧ 0 ≤ who ∧ who < C then 4 + (1 + H) * C + who * 2 + 1 else -1) := by
  unfold plan_Start.f
  by_cases h : rightB S A C H G K = true
  · have h' := right_iff.1 h
    rw [wrap64_id _ (by omega) (by omega), p_pPlace _ _ _ _ _ _ _ _ _ _ (by omega) (by omega) (by decide) (by decide), Option.bind_some]
    simp
  · unfold plan_place.f
    rw [p_pRight, Option.bind_some, if_neg h, if_neg (fun c => h c.1)]; rfl
theorem p_pLink (k : Nat) (S A C H G K s : Int) (hk : 1 ≤ k) : plan_Link.f k S A C H G K s = some (if rightB S A C H G K = true ∧ 0 ≤ s ∧ s < S then slotsV C H + s * roomV A + 1 else -1) := by
  unfold plan_Link.f
  rw [p_pWithin k S A C H G K s 1 hk, Option.bind_some]
  have r : 2 ≤ roomV A := by unfold roomV; split <;> omega
  by_cases h : rightB S A C H G K = true ∧ 0 ≤ s ∧ s < S
  · rw [if_pos h, if_pos ⟨h.1, h.2.1, h.2.2, by decide, by omega⟩]
  · rw [if_neg h, if_neg (fun c => h ⟨c.1, c.2.1, c.2.2.1⟩)]
theorem p_pBody (k : Nat) (S A C H G K s i : Int) (hk : 1 ≤ k) : plan_Body.f k S A C H G K s i = some (if rightB S A C H G K = true ∧ 0 ≤ s ∧ s < S ∧ 0 ≤ i ∧ 2 + i < roomV A then slotsV C H + s * roomV A + (2 + i) else -1) := by
  unfold plan_Body.f
  have r : A ≤ 8 → roomV A ≤ 10 := by intro h; unfold roomV; split <;> omega
  by_cases h1 : i < 0
  · rw [if_pos h1, if_neg (by omega)]
  · rw [if_neg h1]
    by_cases h2 : i > 8
    · rw [if_pos h2, if_neg (by
        intro c
        have := right_iff.1 c.1
        have := r (by omega)
        omega)]
    · rw [if_neg h2, wrap64_id _ (by omega) (by omega), p_pWithin k S A C H G K s (2 + i) hk, Option.bind_some]
      by_cases h : rightB S A C H G K = true ∧ 0 ≤ s ∧ s < S ∧ 0 ≤ i ∧ 2 + i < roomV A
      · rw [if_pos h, if_pos ⟨h.1, h.2.1, h.2.2.1, by omega, h.2.2.2.2⟩]
      · rw [if_neg h, if_neg (fun c => h ⟨c.1, c.2.1, c.2.2.1, by omega, c.2.2.2.2⟩)]

def cfg (S A C H G K : Int) : Value := .agg #[.int .i64 S, .int .i64 A, .int .i64 C, .int .i64 H, .int .i64 G, .int .i64 K]
/-- What Fit makes. -/
def Small (S A C H G K : Int) : Prop := (1 ≤ S ∧ S ≤ 12) ∧ (0 ≤ A ∧ A ≤ 4) ∧ (1 ≤ C ∧ C ≤ 4) ∧ (1 ≤ H ∧ H ≤ 4) ∧ (1 ≤ G ∧ G ≤ 40) ∧ (0 ≤ K ∧ K ≤ 6)
theorem fit_f (a lo hi : Int) (h0 : 0 ≤ lo) (h1 : lo ≤ hi) (h2 : hi ≤ 100) : ∃ v, PPlanApart.withyref06_fit.f a lo hi = some v ∧ lo ≤ v ∧ v ≤ hi := by
  unfold PPlanApart.withyref06_fit.f
  have e1 : wrap64 (hi - lo) = hi - lo := wrap64_id _ (by omega) (by omega)
  have e2 : wrap64 (hi - lo + 1) = hi - lo + 1 := wrap64_id _ (by omega) (by omega)
  have e3 : IntKind.u64.wrap (hi - lo + 1) = hi - lo + 1 := wrap_u64_id _ (by omega) (by omega)
  have e4 : 0 ≤ IntKind.u64.wrap a := by rw [wrap_u64]; omega
  rw [e1, e2, e3, if_neg (by omega), Int.tmod_eq_emod_of_nonneg e4]
  have h3 := Int.emod_nonneg (IntKind.u64.wrap a) (show hi - lo + 1 ≠ 0 by omega)
  have h4 := Int.emod_lt_of_pos (IntKind.u64.wrap a) (show 0 < hi - lo + 1 by omega)
  generalize IntKind.u64.wrap a % (hi - lo + 1) = r at *
  rw [wrap64_id r (by omega) (by omega), wrap64_id _ (by omega) (by omega)]
  exact ⟨_, rfl, by omega, by omega⟩
theorem Fit_f (a0 a1 a2 a3 a4 a5 : Int) : ∃ S A C H G K, PPlanApart.withyref06_Fit.f a0 a1 a2 a3 a4 a5 = some (S, A, C, H, G, K) ∧ Small S A C H G K := by
  unfold PPlanApart.withyref06_Fit.f Small
  obtain ⟨v0, e0, h0⟩ := fit_f a0 1 12 (by omega) (by omega) (by omega)
  obtain ⟨v1, e1, h1⟩ := fit_f a1 0 4 (by omega) (by omega) (by omega)
  obtain ⟨v2, e2, h2⟩ := fit_f a2 1 4 (by omega) (by omega) (by omega)
  obtain ⟨v3, e3, h3⟩ := fit_f a3 1 4 (by omega) (by omega) (by omega)
  obtain ⟨v4, e4, h4⟩ := fit_f a4 1 40 (by omega) (by omega) (by omega)
  obtain ⟨v5, e5, h5⟩ := fit_f a5 0 6 (by omega) (by omega) (by omega)
  exact ⟨v0, v1, v2, v3, v4, v5, by simp [e0, e1, e2, e3, e4, e5], h0, h1, h2, h3, h4, h5⟩
theorem mark_c (b n c : Nat) (f : Nat → Int) (a : Int) (h0 : 0 ≤ a) (h1 : a < n) (hx0 : -1000000 ≤ f a.toNat) (hx1 : f a.toNat ≤ 1000000) (hn : n ≤ 1000000) (w : World) (hb : Blk w b 3 (rowF .i64 n f)) :
    Calls Try.prog 29 #[.slice (some ⟨b, 0, none⟩) n c, .int .i64 a] w fun e w' => e = .returned (.bool true) ∧ w' = w.setCell ⟨b, a.toNat, none⟩ (.int .i64 (f a.toNat + 1)) := by
  have hx := hb.cell (rowF_get (k := .i64) (n := n) (f := f) (i := a.toNat) (by omega))
  have hf := hb.frozen a.toNat
  go_enter Try.func29, Try.ntmps29
  go_wp2
  go_ret
  exact ⟨rfl, rfl⟩
section
variable (S A C H G K : Int) (hs : Small S A C H G K) (w : World)
include hs
theorem small_right : rightB S A C H G K = true := by
  unfold Small at hs
  rw [right_iff]; omega
theorem size_c : Calls Try.prog 17 #[cfg S A C H G K] w fun e w' => e = .returned (.int .i64 (sizeV S A C H)) ∧ Below w.heap.size w w' :=
  PPlanApart.plan_Size.calls S A C H G K _ w (by have := p_pSize S A C H G K; rw [if_pos (small_right S A C H G K hs)] at this; exact this)
theorem pin_c (k : Int) (h0 : 0 ≤ k) (h1 : k < C) : Calls Try.prog 19 #[cfg S A C H G K, .int .i64 k] w fun e w' => e = .returned (.int .i64 (4 + k)) ∧ Below w.heap.size w w' :=
  PPlanApart.plan_Pin.calls S A C H G K k _ w (by rw [p_pPin, if_pos ⟨small_right S A C H G K hs, h0, h1⟩])
theorem view_c (k : Int) (h0 : 0 ≤ k) (h1 : k < C) : Calls Try.prog 22 #[cfg S A C H G K, .int .i64 k] w fun e w' => e = .returned (.int .i64 (4 + C + C * H + k * 2)) ∧ Below w.heap.size w w' :=
  PPlanApart.plan_View.calls S A C H G K k _ w (by rw [p_pView, if_pos ⟨small_right S A C H G K hs, h0, h1⟩]; congr 1; rw [Int.add_mul, Int.one_mul, Int.mul_comm H C]; omega)
theorem place_f (who be ea i : Int) (hb0 : 0 ≤ be) (hb1 : be ≤ 17) (he0 : 1 ≤ ea) (he1 : ea ≤ 16) (h0 : 0 ≤ who) (h1 : who < C) (i0 : 0 ≤ i) (i1 : i < ea) : PPlanApart.plan_place.f S A C H G K who be ea i = some (4 + be * C + who * ea + i) := by
  have := p_pPlace S A C H G K who be ea i hb0 hb1 he0 he1
  rw [if_pos (by exact ⟨small_right S A C H G K hs, h0, h1, i0, i1⟩)] at this
  exact this
theorem entry_c (k i : Int) (h0 : 0 ≤ k) (h1 : k < C) (i0 : 0 ≤ i) (i1 : i < H) : Calls Try.prog 21 #[cfg S A C H G K, .int .i64 k, .int .i64 i] w fun e w' => e = .returned (.int .i64 (4 + C + k * H + i)) ∧ Below w.heap.size w w' := by
  have hs' := hs
  unfold Small at hs'
  refine PPlanApart.plan_Entry.calls S A C H G K k i _ w ?_
  unfold PPlanApart.plan_Entry.f
  rw [place_f S A C H G K hs k 1 H i (by omega) (by omega) (by omega) (by omega) h0 h1 i0 i1, Option.bind_some, Int.one_mul]
theorem start_c (k : Int) (h0 : 0 ≤ k) (h1 : k < C) : Calls Try.prog 23 #[cfg S A C H G K, .int .i64 k] w fun e w' => e = .returned (.int .i64 (4 + C + C * H + k * 2 + 1)) ∧ Below w.heap.size w w' := by
  have hs' := hs
  unfold Small at hs'
  refine PPlanApart.plan_Start.calls S A C H G K k _ w ?_
  unfold PPlanApart.plan_Start.f
  rw [wrap64_id (1 + H) (by omega) (by omega), place_f S A C H G K hs k (1 + H) 2 1 (by omega) (by omega) (by omega) (by omega) h0 h1 (by omega) (by omega), Option.bind_some]
  congr 1
  rw [Int.add_mul, Int.one_mul, Int.mul_comm H C]; omega
theorem header_c (s : Int) (h0 : 0 ≤ s) (h1 : s < S) : Calls Try.prog 24 #[cfg S A C H G K, .int .i64 s] w fun e w' => e = .returned (.int .i64 (slotsV C H + s * roomV A)) ∧ Below w.heap.size w w' :=
  PPlanApart.plan_Header.calls 1 S A C H G K s _ w (by rw [p_pHeader _ _ _ _ _ _ _ _ (Nat.le_refl _), if_pos ⟨small_right S A C H G K hs, h0, h1⟩])
theorem link_c (s : Int) (h0 : 0 ≤ s) (h1 : s < S) : Calls Try.prog 25 #[cfg S A C H G K, .int .i64 s] w fun e w' => e = .returned (.int .i64 (slotsV C H + s * roomV A + 1)) ∧ Below w.heap.size w w' :=
  PPlanApart.plan_Link.calls 1 S A C H G K s _ w (by rw [p_pLink _ _ _ _ _ _ _ _ (Nat.le_refl _), if_pos ⟨small_right S A C H G K hs, h0, h1⟩])
theorem body_c (s i : Int) (h0 : 0 ≤ s) (h1 : s < S) (i0 : 0 ≤ i) (i1 : 2 + i < roomV A) : Calls Try.prog 26 #[cfg S A C H G K, .int .i64 s, .int .i64 i] w fun e w' => e = .returned (.int .i64 (slotsV C H + s * roomV A + (2 + i))) ∧ Below w.heap.size w w' :=
  PPlanApart.plan_Body.calls 1 S A C H G K s i _ w (by rw [p_pBody _ _ _ _ _ _ _ _ _ (Nat.le_refl _), if_pos ⟨small_right S A C H G K hs, h0, h1, i0, i1⟩])
theorem slot_c (s i : Int) (h0 : 0 ≤ s) (h1 : s < S) (i0 : 0 ≤ i) (i1 : i < roomV A) : Calls Try.prog 27 #[cfg S A C H G K, .int .i64 (slotsV C H + s * roomV A + i)] w fun e w' => e = .returned (.int .i64 s) ∧ Below w.heap.size w w' := by
  have hs' := hs
  unfold Small at hs'
  have hr := roomV_bd (A := A) (by omega) (by omega)
  have hm : (s + 1) * roomV A ≤ S * roomV A := Int.mul_le_mul_of_nonneg_right (by omega) (by omega)
  have hm0 : 0 ≤ s * roomV A := Int.mul_nonneg h0 (by omega)
  rw [Int.add_mul, Int.one_mul] at hm
  refine PPlanApart.plan_Slot.calls 1 S A C H G K _ _ w ?_
  rw [p_pSlot _ _ _ _ _ _ _ _ (Nat.le_refl _), if_pos ⟨small_right S A C H G K hs, by omega, by unfold sizeV; omega⟩]
  congr 1
  rw [show slotsV C H + s * roomV A + i - slotsV C H = i + s * roomV A from by omega, Int.add_mul_ediv_right _ _ (by omega), Int.ediv_eq_zero_of_lt i0 i1]
  omega
theorem room_c : Calls Try.prog 30 #[cfg S A C H G K] w fun e w' => e = .returned (.int .i64 (roomV A - 2)) ∧ Below w.heap.size w w' := by
  refine PPlanApart.withyref06_Room.calls S A C H G K _ w ?_
  unfold PPlanApart.withyref06_Room.f roomV
  split
  · rfl
  · congr 1; omega
end
/-- The state of the law's walk: the config's block, the row of counts. -/
structure St (w0 w : World) (bC bM n : Nat) (S A C H G K : Int) (f : Nat → Int) : Prop where
  low : w0.heap.size ≤ bC
  low' : w0.heap.size ≤ bM
  ne : bC ≠ bM
  bel : Below w0.heap.size w0 w
  cf : Blk w bC 23 #[.int .i64 S, .int .i64 A, .int .i64 C, .int .i64 H, .int .i64 G, .int .i64 K]
  row : Blk w bM 3 (rowF .i64 n f)
theorem St.drew {w0 w bC bM n S A C H G K f} (h : St w0 w bC bM n S A C H G K f) (k : Nat) : St w0 (w.drewN k) bC bM n S A C H G K f := ⟨h.low, h.low', h.ne, pw_below_drewN h.bel _, h.cf.drewN _, h.row.drewN _⟩
theorem St.drew1 {w0 w bC bM n S A C H G K f} (h : St w0 w bC bM n S A C H G K f) : St w0 w.drew bC bM n S A C H G K f := ⟨h.low, h.low', h.ne, h.bel.drew, h.cf.drew, h.row.drew⟩
theorem St.below {w0 w w' bC bM n S A C H G K f} (h : St w0 w bC bM n S A C H G K f) (hb : Below w.heap.size w w') : St w0 w' bC bM n S A C H G K f :=
  ⟨h.low, h.low', h.ne, h.bel.trans (hb.mono h.bel.size), h.cf.below hb h.cf.lt, h.row.below hb h.row.lt⟩
theorem St.set {w0 w bC bM n S A C H G K f} (h : St w0 w bC bM n S A C H G K f) (i : Nat) (x : Int) : St w0 (w.setCell ⟨bM, i, none⟩ (.int .i64 x)) bC bM n S A C H G K (upd f i x) :=
  ⟨h.low, h.low', h.ne, h.bel.setCell h.low' _, h.cf.other _ h.ne _, by have := h.row.set i (.int .i64 x); rwa [rowF_set] at this⟩
/-- Which places have been met: p pins, e entries, v views and starts, s words of slots. -/
def inR (C CH B p e v s i : Int) : Prop := i < 4 ∨ (4 ≤ i ∧ i < 4 + p) ∨ (4 + C ≤ i ∧ i < 4 + C + e) ∨ (4 + C + CH ≤ i ∧ i < 4 + C + CH + v) ∨ (B ≤ i ∧ i < B + s)
instance (C CH B p e v s i : Int) : Decidable (inR C CH B p e v s i) := by unfold inR; infer_instance
def metF (C CH B p e v s : Int) (i : Nat) : Int := if inR C CH B p e v s (i : Int) then 1 else 0
theorem met_one {C CH B p e v s : Int} {i : Nat} (h : inR C CH B p e v s (i : Int)) : metF C CH B p e v s i = 1 := if_pos h
theorem met_none {C CH B p e v s : Int} {i : Nat} (h : ¬ inR C CH B p e v s (i : Int)) : metF C CH B p e v s i = 0 := if_neg h
theorem met_same {C CH B p e v s p' e' v' s' : Int} {i : Nat} (h : inR C CH B p e v s (i : Int) ↔ inR C CH B p' e' v' s' (i : Int)) : metF C CH B p e v s i = metF C CH B p' e' v' s' i := by
  unfold metF
  by_cases c : inR C CH B p e v s (i : Int)
  · rw [if_pos c, if_pos (h.1 c)]
  · rw [if_neg c, if_neg (fun h' => c (h.2 h'))]
theorem St.congr {w0 w bC bM n S A C H G K f g} (h : St w0 w bC bM n S A C H G K f) (hg : ∀ i, i < n → f i = g i) : St w0 w bC bM n S A C H G K g :=
  ⟨h.low, h.low', h.ne, h.bel, h.cf, by have := h.row; rwa [rowF_congr hg] at this⟩
theorem St.cells {w0 w bC bM n S A C H G K f} (h : St w0 w bC bM n S A C H G K f) : w.cell? ⟨bC, 0, none⟩ = some (.int .i64 S) ∧ w.cell? ⟨bC, 1, none⟩ = some (.int .i64 A) ∧ w.cell? ⟨bC, 2, none⟩ = some (.int .i64 C) ∧ w.cell? ⟨bC, 3, none⟩ = some (.int .i64 H) ∧ w.cell? ⟨bC, 4, none⟩ = some (.int .i64 G) ∧ w.cell? ⟨bC, 5, none⟩ = some (.int .i64 K) :=
  ⟨h.cf.cell (i := 0) rfl, h.cf.cell (i := 1) rfl, h.cf.cell (i := 2) rfl, h.cf.cell (i := 3) rfl, h.cf.cell (i := 4) rfl, h.cf.cell (i := 5) rfl⟩
/-- A place is met that wasn't. -/
theorem mark_s {w0 w bC bM n S A C H G K} {CH B p e v s p' e' v' s' : Int} (hS : St w0 w bC bM n S A C H G K (metF C CH B p e v s)) (hn : n ≤ 100000) (a : Int) (h0 : 0 ≤ a) (h1 : a < n)
    (hf : ¬ inR C CH B p e v s a) (hg : inR C CH B p' e' v' s' a) (h : ∀ i : Int, 0 ≤ i → i ≠ a → (inR C CH B p e v s i ↔ inR C CH B p' e' v' s' i)) :
    Calls Try.prog 29 #[.slice (some ⟨bM, 0, none⟩) n n, .int .i64 a] w fun e w' => e = .returned (.bool true) ∧ St w0 w' bC bM n S A C H G K (metF C CH B p' e' v' s') := by
  have hz : metF C CH B p e v s a.toNat = 0 := met_none (by rw [Int.toNat_of_nonneg h0]; exact hf)
  refine (mark_c bM n n _ a h0 h1 (by omega) (by omega) (by omega) w hS.row).mono ?_
  rintro e1 w' ⟨rfl, rfl⟩
  refine ⟨rfl, (hS.set a.toNat _).congr fun i hi => ?_⟩
  unfold upd
  by_cases c : i = a.toNat
  · rw [if_pos c, c, hz, met_one (by rw [Int.toNat_of_nonneg h0]; exact hg)]; rfl
  · rw [if_neg c]
    exact met_same (h i (by omega) (by omega))
theorem made_row (n : Nat) : madeCells (Value.int .i64 0).cells (n * 1) = rowF .i64 n (fun _ => 0) := by
  refine Array.ext_getElem? fun j => ?_
  rw [Nat.mul_one]
  by_cases hj : j < n
  · rw [rowF_get hj]
    have : j < (madeCells (Value.int .i64 0).cells n).size := by rw [size_madeCells]; exact hj
    rw [Array.getElem?_eq_getElem this]
    simp [madeCells, Value.cells, Nat.mod_one]
  · rw [rowF_none hj, Array.getElem?_eq_none]
    rw [size_madeCells]; omega
theorem info3 : (Try.prog.info? 3).map (fun i => (i.zero, i.size, i.bytes)) = some (some (.int .i64 0), 1, 8) := by kernel_rfl
theorem make_run (n : Int) (h0 : 0 ≤ n) (h1 : n ≤ 100000) (w : World) : (Instr.makeSlice 37 (.int .i64 n) (.int .i64 n)).run Try.prog w = .ok (.slice (some ⟨w.heap.size, 0, none⟩) n.toNat n.toNat) (w.alloc (.cells (rowF .i64 n.toNat (fun _ => 0)) 3)) := by
  obtain ⟨i, hi, e⟩ := Option.map_eq_some_iff.1 info3
  simp only [Prod.mk.injEq] at e
  obtain ⟨e0, e1, e2⟩ := e
  have := run_make w 37 3 i (.int .i64 0) Try.underlying37 hi e0 .i64 .i64 n n h0 (Int.le_refl _) (by rw [e2]; omega) (by omega)
  rw [e1, made_row] at this
  exact this
end Go.Proofs.Ytnphakngfkmpiaa.PlanA
