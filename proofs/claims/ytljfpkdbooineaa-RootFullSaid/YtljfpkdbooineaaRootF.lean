/-
  The law RootFull's walk: a table takes as many slots as it has entries, and no more; no condition.
-/
import Derived.Test.YtljfpkdbooineaaRootE
set_option linter.unusedVariables false
namespace Go.Proofs.Ytljfpkdbooineaa.RootF
open Go.RowKit Go.Proofs.YtljfpkdbooineaaW.PrintWords Go.Proofs.Ytljfpkdbooineaa.Blk Go.Proofs.Ytljfpkdbooineaa.Core Go.Proofs.Ytljfpkdbooineaa.RootP Go.Proofs.Ytljfpkdbooineaa.RootA Go.Proofs.Ytljfpkdbooineaa.RootB Go.Proofs.Ytljfpkdbooineaa.RootC Go.Proofs.Ytljfpkdbooineaa.RootN Go.Proofs.Ytljfpkdbooineaa.RootD Go.Proofs.Ytljfpkdbooineaa.RootE
theorem full_new (S A C G K : Int) (n : Nat) : Full (Rt.new S A C (n : Int) G K 0 n 0) S n 0 := ⟨rfl, rfl, rfl, fun j hj => absurd hj (Nat.not_lt_zero j), fun j _ => ⟨rfl, rfl⟩⟩
set_option maxHeartbeats 4000000 in
set_option maxRecDepth 100000 in
theorem full_c (a0 a1 a2 a3 a4 a5 d : Int) (d0 : -9223372036854775808 ≤ d) (d1 : d < 9223372036854775808) (w : World) : Calls Try.prog 8 #[.agg #[.int .i64 a0, .int .i64 a1, .int .i64 a2, .int .i64 a3, .int .i64 a4, .int .i64 a5], .int .i64 d] w fun e w' => e = .returned (.bool true) ∧ Below w.heap.size w w' := by
  go_enter Try.func8, Try.ntmps8
  have hf := Lib.hid (Blk.new w 48 #[.int .i64 a0, .int .i64 a1, .int .i64 a2, .int .i64 a3, .int .i64 a4, .int .i64 a5])
  go_upto_region 2 with (go_at_call 26; refine (fit_c _ _ _ _ _ _ _).mono ?_; rintro e w1 ⟨S, A, C, G, K, n, rfl, hs, hb1⟩; have hf1 := hf.out.below hb1 hf.out.lt; have c0 := hf1.cell (i := 0) rfl; have c1 := hf1.cell (i := 1) rfl; have c2 := hf1.cell (i := 2) rfl; have c3 := hf1.cell (i := 3) rfl; have c4 := hf1.cell (i := 4) rfl; have c5 := hf1.cell (i := 5) rfl; have z0 := hf1.frozen 0; have z1 := hf1.frozen 1; have z2 := hf1.frozen 2; have z3 := hf1.frozen 3; have z4 := hf1.frozen 4; have z5 := hf1.frozen 5; replace hf1 := Lib.hid hf1; replace hb1 := Lib.hid (below_pre hb1); replace hs := Lib.hid hs)
  have hc2 : Blk (World.setCell (World.setCell (World.setCell (World.setCell (World.setCell (World.setCell w1 ⟨w.heap.size, 0, none⟩ (.int .i64 S)) ⟨w.heap.size, 1, none⟩ (.int .i64 A)) ⟨w.heap.size, 2, none⟩ (.int .i64 C)) ⟨w.heap.size, 3, none⟩ (.int .i64 (n : Int))) ⟨w.heap.size, 4, none⟩ (.int .i64 G)) ⟨w.heap.size, 5, none⟩ (.int .i64 K)) w.heap.size 48 #[.int .i64 S, .int .i64 A, .int .i64 C, .int .i64 (n : Int), .int .i64 G, .int .i64 K] := (((((hf1.out.set 0 _).set 1 _).set 2 _).set 3 _).set 4 _).set 5 _
  have hB2 : Below w.heap.size w (World.setCell (World.setCell (World.setCell (World.setCell (World.setCell (World.setCell w1 ⟨w.heap.size, 0, none⟩ (.int .i64 S)) ⟨w.heap.size, 1, none⟩ (.int .i64 A)) ⟨w.heap.size, 2, none⟩ (.int .i64 C)) ⟨w.heap.size, 3, none⟩ (.int .i64 (n : Int))) ⟨w.heap.size, 4, none⟩ (.int .i64 G)) ⟨w.heap.size, 5, none⟩ (.int .i64 K)) := (((((hb1.out.setCell (p := ⟨w.heap.size, 0, none⟩) (Nat.le_refl _) _).setCell (p := ⟨w.heap.size, 1, none⟩) (Nat.le_refl _) _).setCell (p := ⟨w.heap.size, 2, none⟩) (Nat.le_refl _) _).setCell (p := ⟨w.heap.size, 3, none⟩) (Nat.le_refl _) _).setCell (p := ⟨w.heap.size, 4, none⟩) (Nat.le_refl _) _).setCell (p := ⟨w.heap.size, 5, none⟩) (Nat.le_refl _) _
  clear c0 c1 c2 c3 c4 c5 z0 z1 z2 z3 z4 z5
  generalize World.setCell (World.setCell (World.setCell (World.setCell (World.setCell (World.setCell w1 ⟨w.heap.size, 0, none⟩ (.int .i64 S)) ⟨w.heap.size, 1, none⟩ (.int .i64 A)) ⟨w.heap.size, 2, none⟩ (.int .i64 C)) ⟨w.heap.size, 3, none⟩ (.int .i64 (n : Int))) ⟨w.heap.size, 4, none⟩ (.int .i64 G)) ⟨w.heap.size, 5, none⟩ (.int .i64 K) = w2 at *
  have hCF := hc2.lt
  have c0 := hc2.cell (i := 0) rfl
  have c1 := hc2.cell (i := 1) rfl
  have c2 := hc2.cell (i := 2) rfl
  have c3 := hc2.cell (i := 3) rfl
  have c4 := hc2.cell (i := 4) rfl
  have c5 := hc2.cell (i := 5) rfl
  have hs' := hs.out
  obtain ⟨⟨s0, s1⟩, ⟨s2, s3⟩, ⟨s4, s5⟩, ⟨s6, s7⟩, ⟨s8, s9⟩, ⟨s10, s11⟩⟩ := hs'
  clear hb1 hf hf1
  generalize hCFe : w.heap.size = CF at *
  replace hc2 := Lib.hid hc2
  replace hB2 := Lib.hid hB2
  go_wp2_with (first
    | (go_at_call 27; refine (new_c S A C G K 0 0 n w2 (Int.le_refl 0) ⟨small_right hs.out, Int.le_refl 0, by omega⟩ (by decide)).mono ?_; rintro e w3 ⟨t, b, rfl, hT3, ht, hb, hb3⟩; have hc3 := Lib.hid (hc2.out.below hb3 hc2.out.lt); replace hT3 := Lib.hid hT3; replace hb3 := Lib.hid hb3)
    | (go_at_call 28; refine (awake_c _).mono ?_; rintro e w4 ⟨rfl, hb4⟩; have hc4 := Lib.hid (hc3.out.below hb4 hc3.out.lt); have hT4 := Lib.hid (hT3.out.next hb4); replace hb4 := Lib.hid hb4))
  have sz2 : CF ≤ w2.heap.size := by omega
  have hB4 := Lib.hid ((hB2.out.trans (hb3.out.mono sz2)).trans (hb4.out.mono (Nat.le_trans sz2 hb3.out.size)))
  have gt : CF < t := by omega
  have gb : CF < b := by omega
  have hF0 := full_new S A C G K n
  have nC : ¬ two t b CF := fun c => c.elim (fun e => by omega) (fun e => by omega)
  have gt' : CF ≤ t := by omega
  have gb' : CF ≤ b := by omega
  have sn : n ≤ 16 := by omega
  clear c0 c1 c2 c3 c4 c5 hc2 hc3 hT3 hb3 hb4 hB2
  go_loopw [6] (fun z wr => ∃ (j : Nat) (s : Rt), j ≤ n ∧ z = .int .i64 (j : Int) ∧ TabB wr t b s ∧ Full s S n j ∧ Blk wr CF 48 #[.int .i64 S, .int .i64 A, .int .i64 C, .int .i64 (n : Int), .int .i64 G, .int .i64 K] ∧ Below CF w wr) (fun z _ => n - (intOf z).toNat)
  case atStart => exact ⟨0, _, Nat.zero_le _, rfl, hT4.out, hF0, hc4.out, hB4.out⟩
  case round =>
    obtain ⟨j, s, hj, rfl, hT, hFu, hC, hB⟩ := hrel
    have ok := Lib.hid (hFu.ok sn)
    have c0 := hC.cell (i := 0) rfl
    have c3 := hC.cell (i := 3) rfl
    replace hT := Lib.hid hT
    replace hB := Lib.hid hB
    replace hC := Lib.hid hC
    by_cases hlt : j < n
    · have em : (j : Int).tmod S = (j : Int) % S := Int.tmod_eq_emod_of_nonneg (by omega)
      have m0 := Int.emod_nonneg (j : Int) (show S ≠ 0 by omega)
      have m1 := Int.emod_lt_of_pos (j : Int) (show 0 < S by omega)
      obtain ⟨tB, tI, hF1⟩ := hFu.take hlt m0 m1 (by omega)
      have ok1 := Lib.hid (hF1.ok sn)
      have hh := Lib.hid (hF1.held (by omega))
      replace tB := Lib.hid tB
      replace tI := Lib.hid tI
      replace hF1 := Lib.hid hF1
      replace hFu := Lib.hid hFu
      go_wp2_with (first
        | (go_at_call 29; refine (take_c _ t b s _ hT.out ok.out).mono ?_; rintro e w5 ⟨rfl, hT5, hF5⟩; rw [tI.out, tB.out]; have hC5 := Lib.hid (hC.out.fr hF5 nC); have hB5 := Lib.hid (below_two hB.out hF5 gt' gb' (by omega)); replace hT5 := Lib.hid hT5; replace hF5 := Lib.hid hF5)
        | (go_at_call 30; refine (held_c _ t b _ hT5.out ok1.out).mono ?_; rintro e w6 ⟨rfl, hb6⟩; rw [hh.out]; have hT6 := Lib.hid (hT5.out.next hb6); have hC6 := Lib.hid (hC5.out.below hb6 hC5.out.lt); have hB6 := Lib.hid (hB5.out.trans (hb6.mono (Nat.le_trans (by omega) hB5.out.size))); replace hb6 := Lib.hid hb6))
      go_roundw
      case rel => exact ⟨j + 1, _, by omega, by go_num, hT6.out, hF1.out, hC6.out, hB6.out⟩
      case measure => simp [intOf]; omega
    · have : j = n := by omega
      subst this
      have hz : takeB s 0 = false := by
        cases q : takeB s 0 with
        | false => rfl
        | true => have := (takeB_iff.1 q).1; rw [hFu.none, hFu.n] at this; omega
      have hzI : takeI s 0 = 0 := by unfold takeI; rw [hz]; rfl
      have hzS : takeS s 0 = s := by unfold takeS; rw [hz]; rfl
      have hr : decide (s.at_ < s.n) = false := decide_eq_false (by rw [hFu.none, hFu.n]; omega)
      obtain ⟨kk, hkk, hkl⟩ : ∃ kk : Nat, wrap64 ((IntKind.u64.wrap d).tmod (j : Int)) = kk ∧ kk < j := by
        have e4 : 0 ≤ IntKind.u64.wrap d := by rw [Core.wrap_u64]; omega
        rw [Int.tmod_eq_emod_of_nonneg e4]
        have h3 := Int.emod_nonneg (IntKind.u64.wrap d) (show (j : Int) ≠ 0 by omega)
        have h4 := Int.emod_lt_of_pos (IntKind.u64.wrap d) (show 0 < (j : Int) by omega)
        generalize IntKind.u64.wrap d % (j : Int) = r at *
        rw [wrap64_id r (by omega) (by omega)]
        exact ⟨r.toNat, by omega, by omega⟩
      obtain ⟨p1, p2, p3, p4, p5, p6, p7, p8⟩ := hFu.drop sn (by omega) hkl
      have nj : ((j - 1 : Nat) : Int) = (j : Int) - 1 := by omega
      replace p1 := Lib.hid p1
      replace p2 := Lib.hid p2
      replace p3 := Lib.hid p3
      replace p4 := Lib.hid p4
      replace p5 := Lib.hid p5
      replace p6 := Lib.hid p6
      replace p7 := Lib.hid p7
      replace p8 := Lib.hid p8
      replace hkk := Lib.hid hkk
      replace hFu := Lib.hid hFu
      replace hz := Lib.hid hz
      replace hzI := Lib.hid hzI
      replace hzS := Lib.hid hzS
      replace hr := Lib.hid hr
      go_wp2_with (first
        | (go_at_call 29; refine (take_c _ t b s _ hT.out ok.out).mono ?_; rintro e w5 ⟨rfl, hT5, hF5⟩; rw [hzI.out, hz.out]; rw [hzS.out] at hT5; have hC5 := Lib.hid (hC.out.fr hF5 nC); have hB5 := Lib.hid (below_two hB.out hF5 gt' gb' (by omega)); replace hT5 := Lib.hid hT5; replace hF5 := Lib.hid hF5)
        | (go_at_call 31; refine (room_c _ t b s hT5.out ok.out).mono ?_; rintro e w6 ⟨rfl, hb6⟩; rw [hr.out]; have hT6 := Lib.hid (hT5.out.next hb6); have hC6 := (hC5.out.below hb6 hC5.out.lt); have d3 := hC6.cell (i := 3) rfl; replace hC6 := Lib.hid hC6; have hB6 := Lib.hid (hB5.out.trans (hb6.mono (Nat.le_trans (by omega) hB5.out.size))); replace hb6 := Lib.hid hb6))
      have ew : IntKind.i64.wrap ((j : Int) - 1) = (j : Int) - 1 := by rw [IntKind.wrap_i64]; omega
      have hX : w6.cell? ⟨CF, 3, none⟩ = some (.int .i64 (j : Int)) := d3
      clear d3
      go_region_held3 (fun w' => w'.cell? ⟨CF, 3, none⟩ = some (.int .i64 (j : Int))) (assumption) (first
        | (go_at_call 32; rw [hkk.out]; refine (drop_c _ t b s _ hT6.out.drew ok.out).mono ?_; rintro e w7 ⟨rfl, hT7, hF7'⟩; rw [p1.out]; have hF7 := (Fr.drew (two t b) w6).trans hF7'; clear hF7'; have hC7 := hC6.out.fr hF7 nC; have hY : w7.cell? ⟨CF, 3, none⟩ = some (.int .i64 (j : Int)) := hC7.cell (i := 3) rfl; have hB7 := Lib.hid (below_two hB6.out hF7 gt' gb' (by omega)); replace hC7 := Lib.hid hC7; replace hT7 := Lib.hid hT7; replace hF7 := Lib.hid hF7)
        | (go_at_call 31; refine (room_c _ t b _ hT7.out p2.out).mono ?_; rintro e w8 ⟨rfl, hb8⟩; rw [p3.out]; have hT8 := Lib.hid (hT7.out.next hb8); have hC8 := (hC7.out.below hb8 hC7.out.lt); have hZ : w8.cell? ⟨CF, 3, none⟩ = some (.int .i64 (j : Int)) := hC8.cell (i := 3) rfl; replace hC8 := Lib.hid hC8; have hB8 := Lib.hid (hB7.out.trans (hb8.mono (Nat.le_trans (by omega) hB7.out.size))); replace hb8 := Lib.hid hb8)
        | (go_at_call 30; refine (held_c _ t b _ hT8.out p2.out).mono ?_; rintro e w9 ⟨rfl, hb9⟩; rw [p4.out, nj]; have hT9 := Lib.hid (hT8.out.next hb9); have hC9 := (hC8.out.below hb9 hC8.out.lt); have hV : w9.cell? ⟨CF, 3, none⟩ = some (.int .i64 (j : Int)) := hC9.cell (i := 3) rfl; replace hC9 := Lib.hid hC9; have hB9 := Lib.hid (hB8.out.trans (hb9.mono (Nat.le_trans (by omega) hB8.out.size))); replace hb9 := Lib.hid hb9))
      all_goals
        go_wp2_with (first
          | (go_at_call 29; refine (take_c _ t b _ _ hT9.out p2.out).mono ?_; rintro e w10 ⟨rfl, hT10, hF10⟩; rw [p6.out, p5.out]; have hB10 := Lib.hid (below_two hB9.out hF10 gt' gb' (by omega)); replace hT10 := Lib.hid hT10; replace hF10 := Lib.hid hF10)
          | (go_at_call 31; refine (room_c _ t b _ hT10.out p7.out).mono ?_; rintro e w11 ⟨rfl, hb11⟩; rw [p8.out]; have hB11 := Lib.hid (hB10.out.trans (hb11.mono (Nat.le_trans (by omega) hB10.out.size))); replace hb11 := Lib.hid hb11))
        go_ret
        exact ⟨rfl, hCFe ▸ hB11.out⟩
end Go.Proofs.Ytljfpkdbooineaa.RootF
