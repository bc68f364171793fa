/-
  Each place of any right config has just one thing: the law PlanApart's walk, for every config.
-/
import Derived.Test.YtnphakngfkmpiaaPlanA
set_option linter.unusedVariables false
namespace Go.Proofs.Ytnphakngfkmpiaa.PlanA
open Go.RowKit Go.Proofs.YtnphakngfkmpiaaW.PrintWords Go.Proofs.YtnphakngfkmpiaaW.PrintLast Go.Proofs.YtnphakngfkmpiaaW.PrintMore Go.Proofs.Ytnphakngfkmpiaa.Core Go.Proofs.Ytnphakngfkmpiaa.Blk

theorem nums (S A C H G K : Int) (hs : Small S A C H G K) : ∃ N : Nat, sizeV S A C H = (N : Int) ∧ slotsV C H = 4 + 3 * C + C * H ∧ (N : Int) = 4 + 3 * C + C * H + S * roomV A ∧ N ≤ 1000 ∧ 1 ≤ C * H ∧ C * H ≤ 16 ∧ 5 ≤ S * roomV A := by
  unfold Small at hs
  have hr := roomV_bd (A := A) (by omega) (by omega)
  have h1 := mul_le2 (a := C) (b := H) (m := 4) (n := 4) (by omega) (by omega) (by omega) (by omega)
  have h2 := mul_le2 (a := S) (b := roomV A) (m := 12) (n := 10) (by omega) (by omega) (by omega) (by omega)
  have h3 : 1 * 1 ≤ C * H := Int.mul_le_mul (by omega) (by omega) (by omega) (by omega)
  have h4 : 1 * 5 ≤ S * roomV A := Int.mul_le_mul (by omega) (by omega) (by omega) (by omega)
  have e1 : slotsV C H = 4 + 3 * C + C * H := by
    unfold slotsV
    rw [show 1 + H + 2 = H + 3 from by omega, Int.mul_add]; omega
  have e2 : sizeV S A C H = 4 + 3 * C + C * H + S * roomV A := by unfold sizeV; rw [e1]
  exact ⟨(sizeV S A C H).toNat, by omega, e1, by omega, by omega, by omega, by omega, by omega⟩
theorem awake_c (w : World) : Calls Try.prog 18 #[] w fun e w' => e = .returned (.bool true) ∧ Below w.heap.size w w' :=
  PPlanApart.withylaw06_awake.calls 3 true w (p_awake6 3 (Nat.le_refl _))
attribute [local irreducible] sizeV slotsV roomV
set_option maxHeartbeats 4000000 in
set_option maxRecDepth 100000 in
theorem law_c (a0 a1 a2 a3 a4 a5 : Int) (w : World) : Calls Try.prog 6 #[cfg a0 a1 a2 a3 a4 a5] w fun e w' => e = .returned (.bool true) ∧ Below w.heap.size w w' := by
  obtain ⟨S, A, C, H, G, K, hF, hs⟩ := Fit_f a0 a1 a2 a3 a4 a5
  unfold cfg
  obtain ⟨N, hN, hsl, hB, hN1, hch0, hch1, hsr0⟩ := nums S A C H G K hs
  have hN0 : 12 ≤ N := by unfold Small at hs; omega
  replace hsl := Lib.hid hsl
  replace hB := Lib.hid hB
  have hK := Lib.hid True.intro
  have hs' := hs
  unfold Small at hs'
  obtain ⟨⟨S0, S1⟩, ⟨A0, A1⟩, ⟨C0, C1⟩, ⟨H0, H1⟩, _, _⟩ := hs'
  have hR0 := roomV_bd (A := A) (by omega) (by omega)
  obtain ⟨R0, R1⟩ := hR0
  have hB0 := Lib.hid ((Below.refl w.heap.size w).alloc (Nat.le_refl _) (.cells #[.int .i64 a0, .int .i64 a1, .int .i64 a2, .int .i64 a3, .int .i64 a4, .int .i64 a5] 23))
  have hC0 := Lib.hid (Blk.new w 23 #[.int .i64 a0, .int .i64 a1, .int .i64 a2, .int .i64 a3, .int .i64 a4, .int .i64 a5])
  have hm := make_run (N : Int) (by omega) (by omega)
  rw [Int.toNat_natCast] at hm
  replace hN := Lib.hid hN
  replace hF := Lib.hid hF
  replace hs := Lib.hid hs
  go_enter Try.func6, Try.ntmps6
  go_wp2_with (first | (go_at_call 28; refine (PPlanApart.withyref06_Fit.calls a0 a1 a2 a3 a4 a5 S A C H G K _ hF.out).mono ?_; rintro e w1 ⟨rfl, hb1⟩; have hC1 := hC0.out.below hb1 hC0.out.lt; have hB1 := Lib.hid (hB0.out.trans (hb1.mono hB0.out.size)); have f0 := hC1.frozen 0; have f1 := hC1.frozen 1; have f2 := hC1.frozen 2; have f3 := hC1.frozen 3; have f4 := hC1.frozen 4; have f5 := hC1.frozen 5; have x0 := hC1.cell (i := 0) rfl; have x1 := hC1.cell (i := 1) rfl; have x2 := hC1.cell (i := 2) rfl; have x3 := hC1.cell (i := 3) rfl; have x4 := hC1.cell (i := 4) rfl; have x5 := hC1.cell (i := 5) rfl; clear hb1; replace hC1 := Lib.hid hC1) | (go_at_call 17; refine (size_c S A C H G K hs.out _).mono ?_; rintro e w2 ⟨rfl, hb2⟩; rw [hN.out]; have hC2 := (((((hC1.out.set 0 (.int .i64 S)).set 1 (.int .i64 A)).set 2 (.int .i64 C)).set 3 (.int .i64 H)).set 4 (.int .i64 G)).set 5 (.int .i64 K); have hC3 := Lib.hid (show Blk w2 w.heap.size 23 #[.int .i64 S, .int .i64 A, .int .i64 C, .int .i64 H, .int .i64 G, .int .i64 K] from hC2.below hb2 hC2.lt); have hb3 := Below.setCell (Below.setCell (Below.setCell (Below.setCell (Below.setCell (Below.setCell hB1.out (p := ⟨w.heap.size, 0, none⟩) (Nat.le_refl _) (.int .i64 S)) (p := ⟨w.heap.size, 1, none⟩) (Nat.le_refl _) (.int .i64 A)) (p := ⟨w.heap.size, 2, none⟩) (Nat.le_refl _) (.int .i64 C)) (p := ⟨w.heap.size, 3, none⟩) (Nat.le_refl _) (.int .i64 H)) (p := ⟨w.heap.size, 4, none⟩) (Nat.le_refl _) (.int .i64 G)) (p := ⟨w.heap.size, 5, none⟩) (Nat.le_refl _) (.int .i64 K); have hB3 := Lib.hid (hb3.trans (hb2.mono hb3.size)); clear hC2 hb2 hb3))
  have hS0 := Lib.hid (show St w (w2.alloc (.cells (rowF .i64 N (fun _ => 0)) 3)) w.heap.size w2.heap.size N S A C H G K (fun _ => 0) from ⟨Nat.le_refl _, hB3.out.size, by have := hC3.out.lt; omega, hB3.out.alloc hB3.out.size _, hC3.out.alloc _, Blk.new _ _ _⟩)
  generalize w.heap.size = bC at *
  generalize w2.heap.size = bM at *
  go_loopw [5] (fun v wr => ∃ k : Nat, k ≤ 4 ∧ v = .int .i64 (k : Int) ∧ St w wr bC bM N S A C H G K (fun i => if i < k then 1 else 0)) (fun v _ => 4 - (intOf v).toNat)
  case atStart => exact ⟨0, by omega, rfl, hS0.out⟩
  case round =>
    clear hS0 hm
    obtain ⟨k, hk, rfl, hS⟩ := hrel
    replace hS := Lib.hid hS
    by_cases hlt : k < 4
    · have y0 := hS.out.row.cell (rowF_get (k := .i64) (n := N) (f := fun i => if i < k then 1 else 0) (i := k) (by omega))
      simp only [Nat.lt_irrefl, if_false] at y0
      have y1 := hS.out.row.frozen k
      go_wp2
      go_roundw
      case rel => exact ⟨k + 1, by omega, by go_num, (hS.out.set k 1).congr (fun i _ => by unfold upd; by_cases c : i = k; { subst c; simp }; by_cases c' : i < k; { simp [c, c', show i < k + 1 by omega] }; simp [c, c', show ¬ i < k + 1 by omega])⟩
      case measure => simp [intOf]; omega
    · obtain rfl : k = 4 := by omega
      have hS1 := Lib.hid (hS.out.congr (g := metF C (C * H) (slotsV C H) 0 0 0 0) (fun i _ => by
        have q2 := hsl.out
        by_cases c : i < 4
        · rw [met_one (by unfold inR; omega)]; simp [c]
        · rw [met_none (by unfold inR; omega)]; simp [c]))
      clear hS
      have hS := hS1
      clear hS1
      have x0 := hS.out.cf.cell (i := 0) rfl; have x1 := hS.out.cf.cell (i := 1) rfl; have x2 := hS.out.cf.cell (i := 2) rfl; have x3 := hS.out.cf.cell (i := 3) rfl; have x4 := hS.out.cf.cell (i := 4) rfl; have x5 := hS.out.cf.cell (i := 5) rfl
      go_wp2
      go_loopw [6, 7] (fun u v wr => ∃ k : Nat, (k : Int) ≤ C ∧ u = .bool true ∧ v = .int .i64 (k : Int) ∧ St w wr bC bM N S A C H G K (metF C (C * H) (slotsV C H) (k : Int) ((k : Int) * H) (2 * (k : Int)) 0)) (fun _ v _ => C.toNat - (intOf v).toNat)
      case atStart => exact ⟨0, by omega, rfl, rfl, hS.out.congr (fun i _ => by simp)⟩
      case round =>
        clear x0 x1 x2 x3 x4 x5 hS
        obtain ⟨k, hk, rfl, rfl, hS⟩ := hrel
        replace hS := Lib.hid hS
        have x0 := hS.out.cf.cell (i := 0) rfl; have x1 := hS.out.cf.cell (i := 1) rfl; have x2 := hS.out.cf.cell (i := 2) rfl; have x3 := hS.out.cf.cell (i := 3) rfl; have x4 := hS.out.cf.cell (i := 4) rfl; have x5 := hS.out.cf.cell (i := 5) rfl
        by_cases hlt : (k : Int) < C
        · have hkH0 : 0 ≤ (k : Int) * H := Int.mul_nonneg (by omega) (by omega)
          have hkH1 : ((k : Int) + 1) * H ≤ C * H := Int.mul_le_mul_of_nonneg_right (by omega) (by omega)
          rw [Int.add_mul, Int.one_mul] at hkH1
          go_wp2_with (first | (go_at_call 19; refine (pin_c S A C H G K hs.out _ _ (by omega) (by omega)).mono ?_; rintro e w' ⟨rfl, hb⟩; have hS' := Lib.hid (hS.out.below hb); clear hS hb; have hS := hS'; clear hS'; try clear x0 x1 x2 x3 x4 x5; have x0 := hS.out.cf.cell (i := 0) rfl; have x1 := hS.out.cf.cell (i := 1) rfl; have x2 := hS.out.cf.cell (i := 2) rfl; have x3 := hS.out.cf.cell (i := 3) rfl; have x4 := hS.out.cf.cell (i := 4) rfl; have x5 := hS.out.cf.cell (i := 5) rfl) | (go_at_call 22; refine (view_c S A C H G K hs.out _ _ (by omega) (by omega)).mono ?_; rintro e w' ⟨rfl, hb⟩; have hS' := Lib.hid (hS.out.below hb); clear hS hb; have hS := hS'; clear hS'; try clear x0 x1 x2 x3 x4 x5; have x0 := hS.out.cf.cell (i := 0) rfl; have x1 := hS.out.cf.cell (i := 1) rfl; have x2 := hS.out.cf.cell (i := 2) rfl; have x3 := hS.out.cf.cell (i := 3) rfl; have x4 := hS.out.cf.cell (i := 4) rfl; have x5 := hS.out.cf.cell (i := 5) rfl) | (go_at_call 23; refine (start_c S A C H G K hs.out _ _ (by omega) (by omega)).mono ?_; rintro e w' ⟨rfl, hb⟩; have hS' := Lib.hid (hS.out.below hb); clear hS hb; have hS := hS'; clear hS'; try clear x0 x1 x2 x3 x4 x5; have x0 := hS.out.cf.cell (i := 0) rfl; have x1 := hS.out.cf.cell (i := 1) rfl; have x2 := hS.out.cf.cell (i := 2) rfl; have x3 := hS.out.cf.cell (i := 3) rfl; have x4 := hS.out.cf.cell (i := 4) rfl; have x5 := hS.out.cf.cell (i := 5) rfl) | (go_at_call 29; refine (mark_s (p' := (k : Int) + 1) (e' := (k : Int) * H) (v' := 2 * (k : Int)) (s' := 0) hS.out (by omega) _ (by have q1 := hB.out; have q2 := hsl.out; have q3 := hK.out; omega) (by have q1 := hB.out; have q2 := hsl.out; have q3 := hK.out; omega) (by have q1 := hB.out; have q2 := hsl.out; have q3 := hK.out; unfold inR; omega) (by have q1 := hB.out; have q2 := hsl.out; have q3 := hK.out; unfold inR; omega) (by have q1 := hB.out; have q2 := hsl.out; have q3 := hK.out; unfold inR; omega)).mono ?_; rintro e w' ⟨rfl, hS'⟩; clear hS; have hS := Lib.hid hS'; clear hS'; try clear x0 x1 x2 x3 x4 x5; have x0 := hS.out.cf.cell (i := 0) rfl; have x1 := hS.out.cf.cell (i := 1) rfl; have x2 := hS.out.cf.cell (i := 2) rfl; have x3 := hS.out.cf.cell (i := 3) rfl; have x4 := hS.out.cf.cell (i := 4) rfl; have x5 := hS.out.cf.cell (i := 5) rfl) | (go_at_call 29; refine (mark_s (p' := (k : Int) + 1) (e' := (k : Int) * H) (v' := 2 * (k : Int) + 1) (s' := 0) hS.out (by omega) _ (by have q1 := hB.out; have q2 := hsl.out; have q3 := hK.out; omega) (by have q1 := hB.out; have q2 := hsl.out; have q3 := hK.out; omega) (by have q1 := hB.out; have q2 := hsl.out; have q3 := hK.out; unfold inR; omega) (by have q1 := hB.out; have q2 := hsl.out; have q3 := hK.out; unfold inR; omega) (by have q1 := hB.out; have q2 := hsl.out; have q3 := hK.out; unfold inR; omega)).mono ?_; rintro e w' ⟨rfl, hS'⟩; clear hS; have hS := Lib.hid hS'; clear hS'; try clear x0 x1 x2 x3 x4 x5; have x0 := hS.out.cf.cell (i := 0) rfl; have x1 := hS.out.cf.cell (i := 1) rfl; have x2 := hS.out.cf.cell (i := 2) rfl; have x3 := hS.out.cf.cell (i := 3) rfl; have x4 := hS.out.cf.cell (i := 4) rfl; have x5 := hS.out.cf.cell (i := 5) rfl) | (go_at_call 29; refine (mark_s (p' := (k : Int) + 1) (e' := (k : Int) * H) (v' := 2 * (k : Int) + 2) (s' := 0) hS.out (by omega) _ (by have q1 := hB.out; have q2 := hsl.out; have q3 := hK.out; omega) (by have q1 := hB.out; have q2 := hsl.out; have q3 := hK.out; omega) (by have q1 := hB.out; have q2 := hsl.out; have q3 := hK.out; unfold inR; omega) (by have q1 := hB.out; have q2 := hsl.out; have q3 := hK.out; unfold inR; omega) (by have q1 := hB.out; have q2 := hsl.out; have q3 := hK.out; unfold inR; omega)).mono ?_; rintro e w' ⟨rfl, hS'⟩; clear hS; have hS := Lib.hid hS'; clear hS'; try clear x0 x1 x2 x3 x4 x5; have x0 := hS.out.cf.cell (i := 0) rfl; have x1 := hS.out.cf.cell (i := 1) rfl; have x2 := hS.out.cf.cell (i := 2) rfl; have x3 := hS.out.cf.cell (i := 3) rfl; have x4 := hS.out.cf.cell (i := 4) rfl; have x5 := hS.out.cf.cell (i := 5) rfl))
          go_loopw [6, 8] (fun u v wr => ∃ i : Nat, (i : Int) ≤ H ∧ u = .bool true ∧ v = .int .i64 (i : Int) ∧ St w wr bC bM N S A C H G K (metF C (C * H) (slotsV C H) ((k : Int) + 1) ((k : Int) * H + (i : Int)) (2 * (k : Int) + 2) 0)) (fun _ v _ => H.toNat - (intOf v).toNat)
          case atStart => exact ⟨0, by omega, rfl, rfl, hS.out.congr (fun _ _ => met_same (by unfold inR; omega))⟩
          case round =>
            clear x0 x1 x2 x3 x4 x5 hS
            obtain ⟨i, hi, rfl, rfl, hS⟩ := hrel
            replace hS := Lib.hid hS
            have x0 := hS.out.cf.cell (i := 0) rfl; have x1 := hS.out.cf.cell (i := 1) rfl; have x2 := hS.out.cf.cell (i := 2) rfl; have x3 := hS.out.cf.cell (i := 3) rfl; have x4 := hS.out.cf.cell (i := 4) rfl; have x5 := hS.out.cf.cell (i := 5) rfl
            by_cases hlt' : (i : Int) < H
            · go_wp2_with (first | (go_at_call 21; refine (entry_c S A C H G K hs.out _ _ _ (by omega) (by omega) (by omega) (by omega)).mono ?_; rintro e w' ⟨rfl, hb⟩; have hS' := Lib.hid (hS.out.below hb); clear hS hb; have hS := hS'; clear hS'; try clear x0 x1 x2 x3 x4 x5; have x0 := hS.out.cf.cell (i := 0) rfl; have x1 := hS.out.cf.cell (i := 1) rfl; have x2 := hS.out.cf.cell (i := 2) rfl; have x3 := hS.out.cf.cell (i := 3) rfl; have x4 := hS.out.cf.cell (i := 4) rfl; have x5 := hS.out.cf.cell (i := 5) rfl) | (go_at_call 29; refine (mark_s (p' := (k : Int) + 1) (e' := (k : Int) * H + (i : Int) + 1) (v' := 2 * (k : Int) + 2) (s' := 0) hS.out (by omega) _ (by have q1 := hB.out; have q2 := hsl.out; have q3 := hK.out; omega) (by have q1 := hB.out; have q2 := hsl.out; have q3 := hK.out; omega) (by have q1 := hB.out; have q2 := hsl.out; have q3 := hK.out; unfold inR; omega) (by have q1 := hB.out; have q2 := hsl.out; have q3 := hK.out; unfold inR; omega) (by have q1 := hB.out; have q2 := hsl.out; have q3 := hK.out; unfold inR; omega)).mono ?_; rintro e w' ⟨rfl, hS'⟩; clear hS; have hS := Lib.hid hS'; clear hS'; try clear x0 x1 x2 x3 x4 x5; have x0 := hS.out.cf.cell (i := 0) rfl; have x1 := hS.out.cf.cell (i := 1) rfl; have x2 := hS.out.cf.cell (i := 2) rfl; have x3 := hS.out.cf.cell (i := 3) rfl; have x4 := hS.out.cf.cell (i := 4) rfl; have x5 := hS.out.cf.cell (i := 5) rfl))
              go_roundw
              case rel => exact ⟨i + 1, by omega, rfl, by go_num, hS.out.congr (fun _ _ => met_same (by unfold inR; omega))⟩
              case measure => simp [intOf]; omega
            · have hiH : (i : Int) = H := by omega
              have hek := Lib.hid (show ((k + 1 : Nat) : Int) * H = (k : Int) * H + H from by rw [Int.natCast_add, Int.add_mul]; simp)
              replace hiH := Lib.hid hiH
              go_wp2
              go_roundw
              case rel => first | exact ⟨k + 1, by omega, rfl, by go_num, hS.out.congr (fun _ _ => met_same (by have := hek.out; have := hiH.out; unfold inR; omega))⟩ | exact ⟨k + 1, by omega, by go_num, hS.out.congr (fun _ _ => met_same (by have := hek.out; have := hiH.out; unfold inR; omega))⟩
              case measure => simp [intOf]; omega
        · have hkC := Lib.hid (show (k : Int) = C by omega)
          have hS1 := Lib.hid (hS.out.congr (g := metF C (C * H) (slotsV C H) C (C * H) (2 * C) 0) (fun _ _ => met_same (by rw [hkC.out])))
          clear hS
          have hS := hS1
          clear hS1
          go_wp2
          go_loopw [6, 9] (fun u v wr => ∃ s : Nat, (s : Int) ≤ S ∧ u = .bool true ∧ v = .int .i64 (s : Int) ∧ St w wr bC bM N S A C H G K (metF C (C * H) (slotsV C H) C (C * H) (2 * C) ((s : Int) * roomV A))) (fun _ v _ => S.toNat - (intOf v).toNat)
          case atStart => exact ⟨0, by omega, rfl, rfl, hS.out.congr (fun _ _ => by simp)⟩
          case round =>
            clear x0 x1 x2 x3 x4 x5 hS
            obtain ⟨s, hsS, rfl, rfl, hS⟩ := hrel
            replace hS := Lib.hid hS
            have x0 := hS.out.cf.cell (i := 0) rfl; have x1 := hS.out.cf.cell (i := 1) rfl; have x2 := hS.out.cf.cell (i := 2) rfl; have x3 := hS.out.cf.cell (i := 3) rfl; have x4 := hS.out.cf.cell (i := 4) rfl; have x5 := hS.out.cf.cell (i := 5) rfl
            by_cases hlt' : (s : Int) < S
            · have hsR0 : 0 ≤ (s : Int) * roomV A := Int.mul_nonneg (by omega) (by omega)
              have hsR1 : ((s : Int) + 1) * roomV A ≤ S * roomV A := Int.mul_le_mul_of_nonneg_right (by omega) (by omega)
              rw [Int.add_mul, Int.one_mul] at hsR1
              go_wp2_with (first | (go_at_call 24; refine (header_c S A C H G K hs.out _ _ (by omega) (by omega)).mono ?_; rintro e w' ⟨rfl, hb⟩; have hS' := Lib.hid (hS.out.below hb); clear hS hb; have hS := hS'; clear hS'; try clear x0 x1 x2 x3 x4 x5; have x0 := hS.out.cf.cell (i := 0) rfl; have x1 := hS.out.cf.cell (i := 1) rfl; have x2 := hS.out.cf.cell (i := 2) rfl; have x3 := hS.out.cf.cell (i := 3) rfl; have x4 := hS.out.cf.cell (i := 4) rfl; have x5 := hS.out.cf.cell (i := 5) rfl) | (go_at_call 25; refine (link_c S A C H G K hs.out _ _ (by omega) (by omega)).mono ?_; rintro e w' ⟨rfl, hb⟩; have hS' := Lib.hid (hS.out.below hb); clear hS hb; have hS := hS'; clear hS'; try clear x0 x1 x2 x3 x4 x5; have x0 := hS.out.cf.cell (i := 0) rfl; have x1 := hS.out.cf.cell (i := 1) rfl; have x2 := hS.out.cf.cell (i := 2) rfl; have x3 := hS.out.cf.cell (i := 3) rfl; have x4 := hS.out.cf.cell (i := 4) rfl; have x5 := hS.out.cf.cell (i := 5) rfl) | (go_at_call 29; refine (mark_s (p' := C) (e' := C * H) (v' := 2 * C) (s' := (s : Int) * roomV A + 1) hS.out (by omega) _ (by have q1 := hB.out; have q2 := hsl.out; have q3 := hK.out; omega) (by have q1 := hB.out; have q2 := hsl.out; have q3 := hK.out; omega) (by have q1 := hB.out; have q2 := hsl.out; have q3 := hK.out; unfold inR; omega) (by have q1 := hB.out; have q2 := hsl.out; have q3 := hK.out; unfold inR; omega) (by have q1 := hB.out; have q2 := hsl.out; have q3 := hK.out; unfold inR; omega)).mono ?_; rintro e w' ⟨rfl, hS'⟩; clear hS; have hS := Lib.hid hS'; clear hS'; try clear x0 x1 x2 x3 x4 x5; have x0 := hS.out.cf.cell (i := 0) rfl; have x1 := hS.out.cf.cell (i := 1) rfl; have x2 := hS.out.cf.cell (i := 2) rfl; have x3 := hS.out.cf.cell (i := 3) rfl; have x4 := hS.out.cf.cell (i := 4) rfl; have x5 := hS.out.cf.cell (i := 5) rfl) | (go_at_call 29; refine (mark_s (p' := C) (e' := C * H) (v' := 2 * C) (s' := (s : Int) * roomV A + 2) hS.out (by omega) _ (by have q1 := hB.out; have q2 := hsl.out; have q3 := hK.out; omega) (by have q1 := hB.out; have q2 := hsl.out; have q3 := hK.out; omega) (by have q1 := hB.out; have q2 := hsl.out; have q3 := hK.out; unfold inR; omega) (by have q1 := hB.out; have q2 := hsl.out; have q3 := hK.out; unfold inR; omega) (by have q1 := hB.out; have q2 := hsl.out; have q3 := hK.out; unfold inR; omega)).mono ?_; rintro e w' ⟨rfl, hS'⟩; clear hS; have hS := Lib.hid hS'; clear hS'; try clear x0 x1 x2 x3 x4 x5; have x0 := hS.out.cf.cell (i := 0) rfl; have x1 := hS.out.cf.cell (i := 1) rfl; have x2 := hS.out.cf.cell (i := 2) rfl; have x3 := hS.out.cf.cell (i := 3) rfl; have x4 := hS.out.cf.cell (i := 4) rfl; have x5 := hS.out.cf.cell (i := 5) rfl))
              go_loopw [6, 10] (fun u v wr => ∃ i : Nat, (i : Int) ≤ roomV A - 2 ∧ u = .bool true ∧ v = .int .i64 (i : Int) ∧ St w wr bC bM N S A C H G K (metF C (C * H) (slotsV C H) C (C * H) (2 * C) ((s : Int) * roomV A + (2 + (i : Int))))) (fun _ v _ => (roomV A).toNat - (intOf v).toNat)
              case atStart => exact ⟨0, by omega, rfl, rfl, hS.out.congr (fun _ _ => by simp)⟩
              case round =>
                clear x0 x1 x2 x3 x4 x5 hS
                obtain ⟨i, hi, rfl, rfl, hS⟩ := hrel
                replace hS := Lib.hid hS
                have x0 := hS.out.cf.cell (i := 0) rfl; have x1 := hS.out.cf.cell (i := 1) rfl; have x2 := hS.out.cf.cell (i := 2) rfl; have x3 := hS.out.cf.cell (i := 3) rfl; have x4 := hS.out.cf.cell (i := 4) rfl; have x5 := hS.out.cf.cell (i := 5) rfl
                by_cases hlt2 : (i : Int) < roomV A - 2
                · go_wp2_with (first | (go_at_call 30; refine (room_c S A C H G K hs.out _).mono ?_; rintro e w' ⟨rfl, hb⟩; have hS' := Lib.hid (hS.out.below hb); clear hS hb; have hS := hS'; clear hS'; try clear x0 x1 x2 x3 x4 x5; have x0 := hS.out.cf.cell (i := 0) rfl; have x1 := hS.out.cf.cell (i := 1) rfl; have x2 := hS.out.cf.cell (i := 2) rfl; have x3 := hS.out.cf.cell (i := 3) rfl; have x4 := hS.out.cf.cell (i := 4) rfl; have x5 := hS.out.cf.cell (i := 5) rfl))
                  have hX := hS.out.cells
                  go_region_held3 (fun w' => w'.cell? ⟨bC, 0, none⟩ = some (.int .i64 S) ∧ w'.cell? ⟨bC, 1, none⟩ = some (.int .i64 A) ∧ w'.cell? ⟨bC, 2, none⟩ = some (.int .i64 C) ∧ w'.cell? ⟨bC, 3, none⟩ = some (.int .i64 H) ∧ w'.cell? ⟨bC, 4, none⟩ = some (.int .i64 G) ∧ w'.cell? ⟨bC, 5, none⟩ = some (.int .i64 K)) (assumption) (first | (go_at_call 26; refine (body_c S A C H G K hs.out _ _ _ (by omega) (by omega) (by omega) (by omega)).mono ?_; rintro e w' ⟨rfl, hb⟩; have hS' := Lib.hid (hS.out.below hb); clear hS hb; have hS := hS'; clear hS'; have hX := hS.out.cells) | (go_at_call 26; refine (body_c S A C H G K hs.out _ _ _ (by omega) (by omega) (by omega) (by omega)).mono ?_; rintro e w' ⟨rfl, hb⟩; have hS' := Lib.hid (hS.out.drew1.below hb); clear hS hb; have hS := hS'; clear hS'; have hX := hS.out.cells) | (go_at_call 27; refine (slot_c S A C H G K hs.out _ _ _ (by omega) (by omega) (by omega) (by omega)).mono ?_; rintro e w' ⟨rfl, hb⟩; have hS' := Lib.hid (hS.out.below hb); clear hS hb; have hS := hS'; clear hS'; have hX := hS.out.cells) | (go_at_call 27; refine (slot_c S A C H G K hs.out _ _ _ (by omega) (by omega) (by omega) (by omega)).mono ?_; rintro e w' ⟨rfl, hb⟩; have hS' := Lib.hid (hS.out.drew1.below hb); clear hS hb; have hS := hS'; clear hS'; have hX := hS.out.cells) | (go_at_call 29; refine (mark_s (p' := C) (e' := C * H) (v' := 2 * C) (s' := (s : Int) * roomV A + (2 + (i : Int)) + 1) hS.out (by omega) _ (by have q1 := hB.out; have q2 := hsl.out; have q3 := hK.out; omega) (by have q1 := hB.out; have q2 := hsl.out; have q3 := hK.out; omega) (by have q1 := hB.out; have q2 := hsl.out; have q3 := hK.out; unfold inR; omega) (by have q1 := hB.out; have q2 := hsl.out; have q3 := hK.out; unfold inR; omega) (by have q1 := hB.out; have q2 := hsl.out; have q3 := hK.out; unfold inR; omega)).mono ?_; rintro e w' ⟨rfl, hS'⟩; clear hS; have hS := Lib.hid hS'; clear hS'; have hX := hS.out.cells) | (go_at_call 29; refine (mark_s (p' := C) (e' := C * H) (v' := 2 * C) (s' := (s : Int) * roomV A + (2 + (i : Int)) + 1) hS.out.drew1 (by omega) _ (by have q1 := hB.out; have q2 := hsl.out; have q3 := hK.out; omega) (by have q1 := hB.out; have q2 := hsl.out; have q3 := hK.out; omega) (by have q1 := hB.out; have q2 := hsl.out; have q3 := hK.out; unfold inR; omega) (by have q1 := hB.out; have q2 := hsl.out; have q3 := hK.out; unfold inR; omega) (by have q1 := hB.out; have q2 := hsl.out; have q3 := hK.out; unfold inR; omega)).mono ?_; rintro e w' ⟨rfl, hS'⟩; clear hS; have hS := Lib.hid hS'; clear hS'; have hX := hS.out.cells))
                  go_wp2
                  go_roundw
                  case rel => first | exact ⟨i + 1, by omega, rfl, by go_num, hS.out.congr (fun _ _ => met_same (by unfold inR; omega))⟩ | exact ⟨i + 1, by omega, rfl, by go_num, hS.out.drew1.congr (fun _ _ => met_same (by unfold inR; omega))⟩
                  case measure => simp [intOf]; omega
                · have hiR := Lib.hid (show (i : Int) = roomV A - 2 by omega)
                  have hek := Lib.hid (show ((s + 1 : Nat) : Int) * roomV A = (s : Int) * roomV A + roomV A from by rw [Int.natCast_add, Int.add_mul]; simp)
                  go_wp2_with (first | (go_at_call 30; refine (room_c S A C H G K hs.out _).mono ?_; rintro e w' ⟨rfl, hb⟩; have hS' := Lib.hid (hS.out.below hb); clear hS hb; have hS := hS'; clear hS'; try clear x0 x1 x2 x3 x4 x5; have x0 := hS.out.cf.cell (i := 0) rfl; have x1 := hS.out.cf.cell (i := 1) rfl; have x2 := hS.out.cf.cell (i := 2) rfl; have x3 := hS.out.cf.cell (i := 3) rfl; have x4 := hS.out.cf.cell (i := 4) rfl; have x5 := hS.out.cf.cell (i := 5) rfl))
                  go_roundw
                  case rel => first | exact ⟨s + 1, by omega, rfl, by go_num, hS.out.congr (fun _ _ => met_same (by have := hek.out; have := hiR.out; unfold inR; omega))⟩ | exact ⟨s + 1, by omega, by go_num, hS.out.congr (fun _ _ => met_same (by have := hek.out; have := hiR.out; unfold inR; omega))⟩
                  case measure => simp [intOf]; omega
            · have hsE := Lib.hid (show (s : Int) = S by omega)
              have hS1 := Lib.hid (hS.out.congr (g := fun _ => 1) (fun i hi => by have q1 := hB.out; have q2 := hsl.out; rw [hsE.out]; exact met_one (by unfold inR; omega)))
              clear hS
              have hS := hS1
              clear hS1
              go_wp2
              go_loopw [6, 11] (fun u v wr => ∃ i : Nat, i ≤ N ∧ u = .bool true ∧ v = .int .i64 (i : Int) ∧ St w wr bC bM N S A C H G K (fun _ => 1)) (fun _ v _ => N - (intOf v).toNat)
              case atStart => exact ⟨0, by omega, rfl, rfl, hS.out⟩
              case round =>
                clear x0 x1 x2 x3 x4 x5 hS
                obtain ⟨i, hi, rfl, rfl, hS⟩ := hrel
                replace hS := Lib.hid hS
                by_cases hlt2 : i < N
                · have y0 := hS.out.row.cell (rowF_get (k := .i64) (n := N) (f := fun _ => 1) (i := i) hlt2)
                  go_wp2
                  go_roundw
                  case rel => exact ⟨i + 1, by omega, rfl, by go_num, hS.out⟩
                  case measure => simp [intOf]; omega
                · obtain rfl : i = N := by omega
                  go_wp2_with (go_at_call 18; refine (awake_c _).mono ?_; rintro e w' ⟨rfl, hb⟩; have hS' := Lib.hid (hS.out.below hb); clear hS hb; have hS := hS'; clear hS')
                  go_ret
                  exact ⟨rfl, hS.out.bel⟩
end Go.Proofs.Ytnphakngfkmpiaa.PlanA
