/-
  Contracts of layer 6 (plan) by the printed functions, and plan.Memory's own: a memory of the right words; condition: none beyond a right config where said.
-/
import Derived.Test.YtijfkpoofpcacaaPuArenaPlays
import Derived.Test.YtijfkpoofpcacaaMemT
import Derived.Test.YtijfkpoofpcacaaMemF
set_option linter.unusedVariables false
namespace Go.Proofs.Ytijfkpoofpcacaa.PlanC
open Go.RowKit Go.Proofs.Ytijfkpoofpcacaa.PArenaPlays Go.Proofs.YtijfkpoofpcacaaW.PrintWords Go.Proofs.Ytijfkpoofpcacaa.Blk Go.Proofs.Ytijfkpoofpcacaa.Core Go.Proofs.Ytijfkpoofpcacaa.PuArenaPlays Go.Proofs.Ytijfkpoofpcacaa.MemC Go.Proofs.Ytijfkpoofpcacaa.MemD Go.Proofs.Ytijfkpoofpcacaa.MemT Go.Proofs.Ytijfkpoofpcacaa.Memory
section
variable (S A C H G K : Int) (w : World)
theorem right_c : Calls Try.prog 66 #[.agg #[.int .i64 S, .int .i64 A, .int .i64 C, .int .i64 H, .int .i64 G, .int .i64 K]] w fun e w' => e = .returned (.bool (rightB S A C H G K)) ∧ Below w.heap.size w w' :=
  plan_Right.calls S A C H G K _ w (p_pRight S A C H G K)
theorem rRight_c : Calls Try.prog 21 #[.agg #[.int .i64 S, .int .i64 A, .int .i64 C, .int .i64 H, .int .i64 G, .int .i64 K]] w fun e w' => e = .returned (.bool (rightB S A C H G K)) ∧ Below w.heap.size w w' :=
  withyref06_Right.calls S A C H G K _ w (p_rRight S A C H G K)
theorem size_c : Calls Try.prog 67 #[.agg #[.int .i64 S, .int .i64 A, .int .i64 C, .int .i64 H, .int .i64 G, .int .i64 K]] w fun e w' => e = .returned (.int .i64 (if rightB S A C H G K = true then sizeV S A C H else 0)) ∧ Below w.heap.size w w' :=
  plan_Size.calls S A C H G K _ w (p_pSize S A C H G K)
theorem size_yes (h : rightB S A C H G K = true) : Calls Try.prog 67 #[.agg #[.int .i64 S, .int .i64 A, .int .i64 C, .int .i64 H, .int .i64 G, .int .i64 K]] w fun e w' => e = .returned (.int .i64 (sizeV S A C H)) ∧ Below w.heap.size w w' :=
  plan_Size.calls S A C H G K _ w (by have := p_pSize S A C H G K; rw [if_pos h] at this; exact this)
theorem link_c (h : rightB S A C H G K = true) (s : Int) (s0 : 0 ≤ s) (s1 : s < S) : Calls Try.prog 69 #[.agg #[.int .i64 S, .int .i64 A, .int .i64 C, .int .i64 H, .int .i64 G, .int .i64 K], .int .i64 s] w fun e w' => e = .returned (.int .i64 (slotsV C H + s * roomV A + 1)) ∧ Below w.heap.size w w' :=
  plan_Link.calls 1 S A C H G K s _ w (by rw [p_pLink 1 S A C H G K s (by decide), if_pos ⟨h, s0, s1⟩])
end
theorem top_c (w : World) : Calls Try.prog 68 #[.int .u64 0, .int .i64 0] w fun e w' => e = .returned (.tuple #[.int .u64 1, .bool true]) ∧ Below w.heap.size w w' :=
  tag_Top.calls 5 0 0 _ _ w (by rw [p_Top 5 0 0 (by decide) (by decide) (by decide)]; rfl)
theorem size_bd {S A C H G K : Int} (h : rightB S A C H G K = true) : 4 ≤ slotsV C H ∧ slotsV C H ≤ 156 ∧ 5 ≤ roomV A ∧ roomV A ≤ 10 ∧ slotsV C H + 5 ≤ sizeV S A C H ∧ sizeV S A C H ≤ 800 := by
  have hr := right_iff.1 h
  have h1 := slotsV_bd (C := C) (H := H) (by omega) (by omega) (by omega) (by omega)
  have h2 := roomV_bd (A := A) (by omega) (by omega)
  have h3 := mul_le2 (a := S) (b := roomV A) (m := 64) (n := 10) (by omega) (by omega) (by omega) (by omega)
  have h4 : 1 * roomV A ≤ S * roomV A := Int.mul_le_mul_of_nonneg_right (by omega) (by omega)
  unfold sizeV
  omega
theorem at_bd {S A C H G K : Int} (h : rightB S A C H G K = true) {s i : Int} (s0 : 0 ≤ s) (s1 : s < S) (i0 : 0 ≤ i) (i1 : i < roomV A) : 0 ≤ s * roomV A ∧ slotsV C H + s * roomV A + i < sizeV S A C H := by
  have hb := size_bd h
  have h4 : (s + 1) * roomV A ≤ S * roomV A := Int.mul_le_mul_of_nonneg_right (by omega) (by omega)
  rw [Int.add_mul] at h4
  unfold sizeV
  exact ⟨Int.mul_nonneg s0 (by omega), by omega⟩
theorem memory_no (S A C H G K : Int) (w : World) (h : rightB S A C H G K = false) : Calls Try.prog 20 #[.agg #[.int .i64 S, .int .i64 A, .int .i64 C, .int .i64 H, .int .i64 G, .int .i64 K]] w fun e w' => e = .returned (.pointer none) ∧ Below w.heap.size w w' := by
  have hf := Lib.hid (Blk.new w 23 #[.int .i64 S, .int .i64 A, .int .i64 C, .int .i64 H, .int .i64 G, .int .i64 K])
  replace h := Lib.hid h
  go_enter Try.func20, Try.ntmps20
  go_wp2_with (go_at_call 66; refine (right_c _ _ _ _ _ _ _).mono ?_; rintro e w1 ⟨rfl, hb1⟩; rw [h.out]; replace hb1 := Lib.hid hb1)
  go_ret
  exact ⟨rfl, below_pre hb1.out⟩
theorem f0_upd (A C H : Int) : upd (upd (fun _ => 0) 0 1) 3 1 = memF A C H 0 := by
  funext k
  unfold memF upd
  by_cases k3 : k = 3
  · subst k3; rfl
  · rw [if_neg k3]
    by_cases k0 : k = 0
    · rw [if_pos k0, if_pos k0]
    · rw [if_neg k0, if_neg k0, if_neg k3, if_neg]
      intro d
      have h1 := d.1
      have h2 := d.2.2
      rcases Int.lt_trichotomy (roomV A) 0 with g | g | g
      · unfold roomV at g; split at g <;> omega
      · unfold roomV at g; split at g <;> omega
      · have := Int.ediv_nonneg h1 (Int.le_of_lt g)
        omega
theorem rowB_new (w : World) (n : Nat) (f : Nat → Int) : RowB (w.alloc (.cells (rowF .u64 n f) 33)) (some ⟨w.heap.size, 0, none⟩) n w.heap.size n f :=
  ⟨Nat.le_refl _, fun _ => ⟨rfl, _, Blk.new w _ _, fun i hi => rowF_get hi⟩⟩
theorem rowB_put (w : World) (n i : Nat) (f : Nat → Int) (x : Int) : RowB (w.alloc (.cells ((rowF .u64 n f).setIfInBounds i (.int .u64 x)) 33)) (some ⟨w.heap.size, 0, none⟩) n w.heap.size n (upd f i x) := by
  rw [rowF_set]; exact rowB_new w n _
set_option maxHeartbeats 4000000 in
set_option maxRecDepth 100000 in
theorem memory_c (S A C H G K : Int) (w : World) (h : rightB S A C H G K = true) : Calls Try.prog 20 #[.agg #[.int .i64 S, .int .i64 A, .int .i64 C, .int .i64 H, .int .i64 G, .int .i64 K]] w fun e w' =>
    ∃ m b, e = .returned (.pointer (some ⟨m, 0, none⟩)) ∧ MemB w' m b (Ms.of (sizeV S A C H).toNat (memF A C H (S - 1).toNat)) ∧ w.heap.size ≤ m ∧ w.heap.size ≤ b ∧ Below w.heap.size w w' := by
  have hbd := size_bd h
  have hr := right_iff.1 h
  obtain ⟨n, hn⟩ := Int.eq_ofNat_of_zero_le (show 0 ≤ sizeV S A C H by omega)
  have hsz := Lib.hid hn
  have hat := fun (s : Int) (s0 : 0 ≤ s) (s1 : s < S) => at_bd h s0 s1 (i := 1) (by decide) (by omega)
  have hlk := fun (s : Int) (s0 : 0 ≤ s) (s1 : s < S) (w : World) => link_c S A C H G K w h s s0 s1
  obtain ⟨s4, s5, r4, r5, n4, n5⟩ := hbd
  rw [hn] at n4 n5
  rw [hn] at hat
  have m1 : ∀ w : World, (Instr.makeSlice 29 (.int .i64 (n : Int)) (.int .i64 (n : Int))).run Try.prog w = .ok (.slice (some ⟨w.heap.size, 0, none⟩) n n) (w.alloc (.cells (rowF .u64 n (fun _ => 0)) 33)) := fun w => make_run (n : Int) (by omega) (by omega) w
  have hf := Lib.hid (Blk.new w 23 #[.int .i64 S, .int .i64 A, .int .i64 C, .int .i64 H, .int .i64 G, .int .i64 K])
  replace hat := Lib.hid hat
  replace hlk := Lib.hid hlk
  replace h := Lib.hid h
  clear hn
  rw [hsz.out]
  obtain ⟨q1, q2, q3, q4⟩ : 1 ≤ S ∧ S ≤ 64 ∧ 0 ≤ A ∧ A ≤ 8 := by omega
  clear hr
  go_enter Try.func20, Try.ntmps20
  generalize hCFe : w.heap.size = CF at *
  go_wp2_with (first
    | (go_at_call 66; refine (right_c _ _ _ _ _ _ _).mono ?_; rintro e w1 ⟨rfl, hb1⟩; rw [h.out]; have hf1 := hf.out.below hb1 hf.out.lt; have k0 := hf1.cell (i := 0) rfl; have k1 := hf1.cell (i := 1) rfl; have k2 := hf1.cell (i := 2) rfl; have k3 := hf1.cell (i := 3) rfl; have k4 := hf1.cell (i := 4) rfl; have k5 := hf1.cell (i := 5) rfl; replace hf1 := Lib.hid hf1; replace hb1 := Lib.hid hb1)
    | (go_at_call 67; refine (size_yes _ _ _ _ _ _ _ h.out).mono ?_; rintro e w2 ⟨rfl, hb2⟩; rw [hsz.out]; have hf2 := hf1.out.below hb2 hf1.out.lt; replace hf2 := Lib.hid hf2; replace hb2 := Lib.hid hb2; have hR2 := rowB_new w2 n (fun _ => 0); obtain ⟨_, x0, y0⟩ := hR2.cell (show 0 < n by omega); replace hR2 := Lib.hid hR2)
    | (go_at_call 68; refine (top_c _).mono ?_; rintro e w4 ⟨rfl, hb4⟩; have hR4 := (rowB_put w2 n 0 (fun _ => 0) 1).below hb4 (Nat.le_refl _); have hf4 := (hf2.out.alloc _).below hb4 (hf2.out.alloc _).lt; obtain ⟨_, x3, y3⟩ := hR4.cell (show 3 < n by omega); have k4' := hf4.cell (i := 0) rfl; have ne1 : ¬ CF = w2.heap.size := fun c => absurd hf2.out.lt (by rw [c]; exact Nat.lt_irrefl _); replace hR4 := Lib.hid hR4; replace hf4 := Lib.hid hf4; replace hb4 := Lib.hid hb4))
  have hR5 := hR4.out.set 3 (by omega) 1
  rw [f0_upd A C H] at hR5
  have hf5 := hf4.out.other ⟨w2.heap.size, 3, none⟩ ne1 (.int .u64 1)
  have z1 := hb1.out.size
  have z2 := hb2.out.size
  have z4 := hb4.out.size
  have sza : ∀ o : Obj, (w2.alloc o).heap.size = w2.heap.size + 1 := fun o => by simp
  have szb : ∀ o : Obj, (w.alloc o).heap.size = CF + 1 := fun o => by rw [← hCFe]; simp
  rw [sza] at z4
  rw [szb] at z1
  have hW : Below CF w (w4.setCell ⟨w2.heap.size, 3, none⟩ (.int .u64 1)) := by
    have g1 : Below CF w w1 := hCFe ▸ below_pre hb1.out
    have g2 := g1.trans (hb2.out.mono (by omega))
    have g3 := (g2.alloc (by omega) (.cells ((rowF .u64 n (fun _ => 0)).setIfInBounds 0 (.int .u64 1)) 33)).trans (hb4.out.mono (by rw [sza]; omega))
    exact g3.setCell (p := ⟨w2.heap.size, 3, none⟩) (by show CF ≤ w2.heap.size; omega) _
  have hB0 : CF < w2.heap.size := by omega
  have hs5 : w2.heap.size < (w4.setCell ⟨w2.heap.size, 3, none⟩ (.int .u64 1)).heap.size := hR5.lt (by omega)
  clear hR4 hf4 hR2 hf2 hf1 hf hb4 hb2 hb1 x0 y0 x3 y3 k4' k0 k1 k2 k3 k4 k5 z1 z2 z4 m1 ne1 sza szb
  generalize w2.heap.size = B at *
  generalize w4.setCell ⟨B, 3, none⟩ (.int .u64 1) = w5 at *
  replace hR5 := Lib.hid hR5
  replace hf5 := Lib.hid hf5
  replace hW := Lib.hid hW
  go_loopw [22] (fun z wr => ∃ i : Nat, (i : Int) ≤ S - 1 ∧ z = .int .i64 (i : Int) ∧ RowB wr (some ⟨B, 0, none⟩) n B n (memF A C H i) ∧ Blk wr CF 23 #[.int .i64 S, .int .i64 A, .int .i64 C, .int .i64 H, .int .i64 G, .int .i64 K] ∧ Below CF w wr) (fun z _ => S.toNat - (intOf z).toNat)
  case atStart => exact ⟨0, by omega, rfl, hR5.out, hf5.out, hW.out⟩
  case round =>
    obtain ⟨i, hi, rfl, hRi, hCi, hWi⟩ := hrel
    have hlt' := hRi.lt (by omega)
    by_cases hlt : (i : Int) < S - 1
    · obtain ⟨p1, p2⟩ := hat.out i (by omega) (by omega)
      obtain ⟨ix, hix⟩ := Int.eq_ofNat_of_zero_le (show 0 ≤ slotsV C H + i * roomV A + 1 by omega)
      have hl := hlk.out i (by omega) (by omega)
      rw [hix] at hl p2
      have hix' := Lib.hid hix
      clear hix p1
      have k0 := hCi.cell (i := 0) rfl
      have k1 := hCi.cell (i := 1) rfl
      have k2 := hCi.cell (i := 2) rfl
      have k3 := hCi.cell (i := 3) rfl
      have k4 := hCi.cell (i := 4) rfl
      have k5 := hCi.cell (i := 5) rfl
      have p3 : ix < n := by omega
      replace hRi := Lib.hid hRi
      replace hCi := Lib.hid hCi
      replace hWi := Lib.hid hWi
      have ew : IntKind.u64.wrap ((i : Int) + 2) = (i : Int) + 2 := Core.wrap_u64_id _ (by omega) (by omega)
      go_wp2_with (go_at_call 69; refine (hl _).mono ?_; rintro e w7 ⟨rfl, hb7⟩; have hR7 := hRi.out.below hb7 (Nat.le_refl _); have hC7 := hCi.out.below hb7 hCi.out.lt; obtain ⟨_, x7, y7⟩ := hR7.cell p3; replace hR7 := Lib.hid hR7; replace hC7 := Lib.hid hC7; replace hb7 := Lib.hid hb7)
      go_roundw
      case rel =>
        have hR8 := hR7.out.set ix p3 ((i : Int) + 2)
        have e : ix = (slotsV C H + (i : Int) * roomV A + 1).toNat := by have := hix'.out; omega
        rw [e, memF_succ s4 r4, ← e] at hR8
        have sz := hb7.out.size
        exact ⟨i + 1, by omega, by go_num, hR8, hC7.out.other ⟨B, ix, none⟩ (by show ¬ CF = B; omega) _, (hWi.out.trans (hb7.out.mono (by omega))).setCell (p := ⟨B, ix, none⟩) (by show CF ≤ B; omega) _⟩
      case measure => simp [intOf]; omega
    · have hj : i = (S - 1).toNat := by omega
      replace hRi := Lib.hid hRi
      replace hCi := Lib.hid hCi
      replace hWi := Lib.hid hWi
      go_wp2_with (go_at_call 70; refine (of_c _ _ _ _ _ _ hRi.out (by omega)).mono ?_; rintro e w8 ⟨m, b, rfl, hM, hm, hb, hb8⟩; replace hM := Lib.hid hM; replace hb8 := Lib.hid hb8)
      go_ret
      rw [← hj]
      exact ⟨m, b, rfl, hM.out, by omega, by omega, hWi.out.trans (hb8.out.mono (by omega))⟩
end Go.Proofs.Ytijfkpoofpcacaa.PlanC
