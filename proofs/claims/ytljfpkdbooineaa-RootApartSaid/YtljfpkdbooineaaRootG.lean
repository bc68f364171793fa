/-
  The law RootApart's walk: a handle that was dropped isn't found, nor one turned in any bit, nor by another client; no condition.
-/
import Derived.Test.YtljfpkdbooineaaRootE
import Derived.Laws.BitsAllLaws
set_option linter.unusedVariables false
namespace Go.Proofs.Ytljfpkdbooineaa.RootG
open Go.RowKit Go.Proofs.YtljfpkdbooineaaW.PrintWords Go.Proofs.Ytljfpkdbooineaa.Blk Go.Proofs.Ytljfpkdbooineaa.Core Go.Proofs.Ytljfpkdbooineaa.RootP Go.Proofs.Ytljfpkdbooineaa.RootA Go.Proofs.Ytljfpkdbooineaa.RootB Go.Proofs.Ytljfpkdbooineaa.RootC Go.Proofs.Ytljfpkdbooineaa.RootN Go.Proofs.Ytljfpkdbooineaa.RootD Go.Proofs.Ytljfpkdbooineaa.RootE
theorem cfg6 {w : World} {CF : Nat} {S A C H G K : Int} (h : Blk w CF 48 #[.int .i64 S, .int .i64 A, .int .i64 C, .int .i64 H, .int .i64 G, .int .i64 K]) :
    w.cell? ⟨CF, 0, none⟩ = some (.int .i64 S) ∧ w.cell? ⟨CF, 1, none⟩ = some (.int .i64 A) ∧ w.cell? ⟨CF, 2, none⟩ = some (.int .i64 C) ∧ w.cell? ⟨CF, 3, none⟩ = some (.int .i64 H) ∧ w.cell? ⟨CF, 4, none⟩ = some (.int .i64 G) ∧ w.cell? ⟨CF, 5, none⟩ = some (.int .i64 K) :=
  ⟨h.cell (i := 0) rfl, h.cell (i := 1) rfl, h.cell (i := 2) rfl, h.cell (i := 3) rfl, h.cell (i := 4) rfl, h.cell (i := 5) rfl⟩
theorem upd_upd (f : Nat → Int) (i : Nat) (x y : Int) : upd (upd f i x) i y = upd f i y := by
  funext j
  unfold upd
  by_cases c : j = i
  · rw [if_pos c, if_pos c]
  · rw [if_neg c, if_neg c, if_neg c]
/-- A table of which the first entry alone was used. -/
def one (S A C H G K who : Int) (n : Nat) (t x : Int) : Rt := ⟨S, A, C, H, G, K, who, n, upd (fun _ => 0) 0 t, upd (fun _ => -1) 0 x⟩
section
variable {S A C H G K who : Int} {n : Nat} {t x : Int}
theorem one_0 : (one S A C H G K who n t x).tag 0 = t ∧ (one S A C H G K who n t x).slot 0 = x := by simp [one, upd]
theorem one_j {j : Nat} (h : j ≠ 0) : (one S A C H G K who n t x).tag j = 0 ∧ (one S A C H G K who n t x).slot j = -1 := by simp [one, upd, h]
theorem one_ok (hn : n ≤ 16) (t0 : 0 ≤ t) (t1 : t ≤ 4294967295) (x0 : -1 ≤ x) (x1 : x < 64) : Okr (one S A C H G K who n t x) := by
  refine ⟨hn, fun j _ => ?_, fun j _ => ?_⟩
  · by_cases c : j = 0
    · subst c; rw [one_0.1]; exact ⟨t0, t1⟩
    · rw [(one_j c).1]; omega
  · by_cases c : j = 0
    · subst c; rw [one_0.2]; exact ⟨x0, x1⟩
    · rw [(one_j c).2]; omega
theorem one_new : Rt.new S A C H G K who n 0 = one S A C H G K who n 0 (-1) := by
  unfold Rt.new one
  congr 1
  · funext j; unfold upd; split <;> rfl
  · funext j; unfold upd; split <;> rfl
theorem one_take (hn : 0 < n) (t1 : t < 4294967295) {k : Int} (k0 : 0 ≤ k) (k1 : k < S) :
    takeB (one S A C H G K who n t (-1)) k = true ∧ takeI (one S A C H G K who n t (-1)) k = 0 ∧ takeH (one S A C H G K who n t (-1)) k = (handleV who 0 (t + 1)).1 ∧ takeS (one S A C H G K who n t (-1)) k = one S A C H G K who n (t + 1) k := by
  have hat : (one S A C H G K who n t (-1)).at_ = 0 := fst_eq hn (fr_iff.2 (by rw [one_0.1, one_0.2]; exact ⟨by decide, t1⟩)) (fun j hj => absurd hj (Nat.not_lt_zero j))
  have hB : takeB (one S A C H G K who n t (-1)) k = true := takeB_iff.2 ⟨by rw [hat]; exact hn, k0, k1⟩
  refine ⟨hB, by unfold takeI; rw [if_pos hB, hat]; rfl, by unfold takeH; rw [if_pos hB, hat, one_0.1]; rfl, ?_⟩
  unfold takeS
  rw [if_pos hB, hat, one_0.1]
  unfold one
  rw [upd_upd, upd_upd]
theorem one_drop (hn : 0 < n) (x0 : 0 ≤ x) : dropB (one S A C H G K who n t x) 0 = true ∧ dropS (one S A C H G K who n t x) 0 = one S A C H G K who n t (-1) := by
  have hB : dropB (one S A C H G K who n t x) 0 = true := dropB_iff.2 ⟨⟨Int.le_refl 0, by show (0 : Int) < (n : Int); omega⟩, by show 0 ≤ (one S A C H G K who n t x).slot 0; rw [one_0.2]; exact x0⟩
  refine ⟨hB, ?_⟩
  unfold dropS
  rw [if_pos hB]
  unfold one
  show Rt.mk _ _ _ _ _ _ _ _ _ (upd (upd (fun _ => -1) 0 x) 0 (-1)) = _
  rw [upd_upd]
theorem one_yes {h : Int} (hn : 0 < n) (hp : partsV h = (who, 0, t, true)) (x0 : 0 ≤ x) : findB (one S A C H G K who n t x) h = true ∧ findS (one S A C H G K who n t x) h = x := by
  have hB : findB (one S A C H G K who n t x) h = true := by
    rw [findB_iff, hp]
    exact ⟨rfl, rfl, ⟨Int.le_refl 0, by show (0 : Int) < (n : Int); omega⟩, one_0.1, by show 0 ≤ (one S A C H G K who n t x).slot 0; rw [one_0.2]; exact x0⟩
  refine ⟨hB, ?_⟩
  unfold findS
  rw [if_pos hB, hp]
  exact one_0.2
theorem one_no {h : Int} (hp : x < 0 ∨ ¬ partsV h = (who, 0, t, true)) : findB (one S A C H G K who n t x) h = false := by
  cases q : findB (one S A C H G K who n t x) h with
  | false => rfl
  | true =>
    exfalso
    obtain ⟨q1, q2, ⟨q3, q4⟩, q5, q6⟩ := findB_iff.1 q
    by_cases c : (partsV h).2.1.toNat = 0
    · rw [c, one_0.2] at q6
      rw [c, one_0.1] at q5
      rcases hp with hp | hp
      · omega
      · refine hp ?_
        have e : (partsV h).2.1 = 0 := by omega
        have : partsV h = ((partsV h).1, (partsV h).2.1, (partsV h).2.2.1, (partsV h).2.2.2) := rfl
        rw [this, q1, q2, e, ← q5]
        rfl
    · rw [(one_j c).2] at q6
      omega
end
theorem parts_is {h c e t : Int} (h0 : 0 ≤ h) (hp : partsV h = (c, e, t, true)) : h = 72057594037927936 * (c + 1) + 281474976710656 * e + t := by
  unfold partsV at hp
  split at hp
  · simp only [Prod.mk.injEq] at hp
    omega
  · simp at hp
/-- A word that is turned in one bit is another one. -/
theorem turn_ne (h : Nat) (c : Nat) (hh : h < 18446744073709551616) (hc : c < 64) : (h ^^^ 2 ^ c) < 18446744073709551616 ∧ (h ^^^ 2 ^ c) ≠ h := by
  have e : 2 ^ c < 2 ^ 64 := Nat.pow_lt_pow_right (by decide) hc
  refine ⟨Nat.xor_lt_two_pow (n := 64) hh e, fun q => ?_⟩
  have : (h ^^^ 2 ^ c).testBit c = h.testBit c := congrArg (·.testBit c) q
  rw [Nat.testBit_xor, Nat.testBit_two_pow_self] at this
  cases h.testBit c <;> simp at this
set_option maxHeartbeats 4000000 in
set_option maxRecDepth 100000 in
theorem apart_c (a0 a1 a2 a3 a4 a5 sl d : Int) (w : World) : Calls Try.prog 11 #[.agg #[.int .i64 a0, .int .i64 a1, .int .i64 a2, .int .i64 a3, .int .i64 a4, .int .i64 a5], .int .i64 sl, .int .i64 d] w fun e w' => e = .returned (.bool true) ∧ Below w.heap.size w w' := by
  go_enter Try.func11, Try.ntmps11
  have hf := Lib.hid (Blk.new w 48 #[.int .i64 a0, .int .i64 a1, .int .i64 a2, .int .i64 a3, .int .i64 a4, .int .i64 a5])
  go_upto_region 2 with (go_at_call 26; refine (fit_c _ _ _ _ _ _ _).mono ?_; rintro e w1 ⟨S, A, C, G, K, n, rfl, hs, hb1⟩; have hf1 := hf.out.below hb1 hf.out.lt; have c0 := hf1.cell (i := 0) rfl; have c1 := hf1.cell (i := 1) rfl; have c2 := hf1.cell (i := 2) rfl; have c3 := hf1.cell (i := 3) rfl; have c4 := hf1.cell (i := 4) rfl; have c5 := hf1.cell (i := 5) rfl; have z0 := hf1.frozen 0; have z1 := hf1.frozen 1; have z2 := hf1.frozen 2; have z3 := hf1.frozen 3; have z4 := hf1.frozen 4; have z5 := hf1.frozen 5; replace hf1 := Lib.hid hf1; replace hb1 := Lib.hid (below_pre hb1); replace hs := Lib.hid hs)
  have hc2 : Blk (World.setCell (World.setCell (World.setCell (World.setCell (World.setCell (World.setCell w1 ⟨w.heap.size, 0, none⟩ (.int .i64 S)) ⟨w.heap.size, 1, none⟩ (.int .i64 A)) ⟨w.heap.size, 2, none⟩ (.int .i64 C)) ⟨w.heap.size, 3, none⟩ (.int .i64 (n : Int))) ⟨w.heap.size, 4, none⟩ (.int .i64 G)) ⟨w.heap.size, 5, none⟩ (.int .i64 K)) w.heap.size 48 #[.int .i64 S, .int .i64 A, .int .i64 C, .int .i64 (n : Int), .int .i64 G, .int .i64 K] := (((((hf1.out.set 0 _).set 1 _).set 2 _).set 3 _).set 4 _).set 5 _
  have hB2 : Below w.heap.size w (World.setCell (World.setCell (World.setCell (World.setCell (World.setCell (World.setCell w1 ⟨w.heap.size, 0, none⟩ (.int .i64 S)) ⟨w.heap.size, 1, none⟩ (.int .i64 A)) ⟨w.heap.size, 2, none⟩ (.int .i64 C)) ⟨w.heap.size, 3, none⟩ (.int .i64 (n : Int))) ⟨w.heap.size, 4, none⟩ (.int .i64 G)) ⟨w.heap.size, 5, none⟩ (.int .i64 K)) := (((((hb1.out.setCell (p := ⟨w.heap.size, 0, none⟩) (Nat.le_refl _) _).setCell (p := ⟨w.heap.size, 1, none⟩) (Nat.le_refl _) _).setCell (p := ⟨w.heap.size, 2, none⟩) (Nat.le_refl _) _).setCell (p := ⟨w.heap.size, 3, none⟩) (Nat.le_refl _) _).setCell (p := ⟨w.heap.size, 4, none⟩) (Nat.le_refl _) _).setCell (p := ⟨w.heap.size, 5, none⟩) (Nat.le_refl _) _
  clear c0 c1 c2 c3 c4 c5 z0 z1 z2 z3 z4 z5
  generalize World.setCell (World.setCell (World.setCell (World.setCell (World.setCell (World.setCell w1 ⟨w.heap.size, 0, none⟩ (.int .i64 S)) ⟨w.heap.size, 1, none⟩ (.int .i64 A)) ⟨w.heap.size, 2, none⟩ (.int .i64 C)) ⟨w.heap.size, 3, none⟩ (.int .i64 (n : Int))) ⟨w.heap.size, 4, none⟩ (.int .i64 G)) ⟨w.heap.size, 5, none⟩ (.int .i64 K) = w2 at *
  have hCF := hc2.lt
  have c2 := hc2.cell (i := 2) rfl
  have z2 := hc2.frozen 2
  have hs' := hs.out
  obtain ⟨⟨s0, s1⟩, ⟨s2, s3⟩, ⟨s4, s5⟩, ⟨s6, s7⟩, ⟨s8, s9⟩, ⟨s10, s11⟩⟩ := hs'
  clear hb1 hf hf1
  generalize hCFe : w.heap.size = CF at *
  go_upto_region 3 with (fail)
  have hc3 : Blk (World.setCell w2 ⟨CF, 2, none⟩ (.int .i64 2)) CF 48 #[.int .i64 S, .int .i64 A, .int .i64 2, .int .i64 (n : Int), .int .i64 G, .int .i64 K] := hc2.set 2 _
  have hB3 := hB2.setCell (p := ⟨CF, 2, none⟩) (Nat.le_refl _) (.int .i64 2)
  have sz3 : CF < (World.setCell w2 ⟨CF, 2, none⟩ (.int .i64 2)).heap.size := hc3.lt
  clear c2 z2 hc2 hB2
  generalize World.setCell w2 ⟨CF, 2, none⟩ (.int .i64 2) = w3 at *
  have hr : rightB S A 2 (n : Int) G K = true := by rw [right_iff]; omega
  have hX := cfg6 hc3
  replace hc3 := Lib.hid hc3
  replace hB3 := Lib.hid hB3
  go_region_held3 (fun w' => w'.cell? ⟨CF, 0, none⟩ = some (.int .i64 S) ∧ w'.cell? ⟨CF, 1, none⟩ = some (.int .i64 A) ∧ w'.cell? ⟨CF, 2, none⟩ = some (.int .i64 2) ∧ w'.cell? ⟨CF, 3, none⟩ = some (.int .i64 (n : Int)) ∧ w'.cell? ⟨CF, 4, none⟩ = some (.int .i64 G) ∧ w'.cell? ⟨CF, 5, none⟩ = some (.int .i64 K)) (assumption) (first
    | (go_at_call 27; refine (new_c S A 2 G K 1 0 n w4 (Int.le_refl 0) ⟨hr, by decide, by decide⟩ (by decide)).mono ?_; rintro e w5 ⟨u, v, rfl, hU5, hu, hv, hb5⟩; have hc5 := hc4.out.below hb5 hc4.out.lt; have hZ := cfg6 hc5; replace hc5 := Lib.hid hc5; have hT5 := Lib.hid (hT4.out.next hb5); replace hU5 := Lib.hid hU5; replace hb5 := Lib.hid hb5)
    | (go_at_call 27; refine (new_c S A 2 G K 0 0 n w3.drew (Int.le_refl 0) ⟨hr, by decide, by decide⟩ (by decide)).mono ?_; rintro e w4 ⟨t, b, rfl, hT4, ht, hb, hb4'⟩; have hb4 : Below w3.heap.size w3 w4 := RootA.below_undrew hb4'; clear hb4'; have ht : w3.heap.size ≤ t := ht; have hb : w3.heap.size ≤ b := hb; have hc4 := hc3.out.below hb4 hc3.out.lt; have hY := cfg6 hc4; replace hc4 := Lib.hid hc4; replace hT4 := Lib.hid hT4; replace hb4 := Lib.hid hb4))
  rw [one_new] at hT5 hU5
  have q1 := hb4.out.size
  have q2 := hT4.out.lm
  have q3 := hT4.out.lb
  have d1 : ¬ two t b u := fun c => c.elim (fun e => by omega) (fun e => by omega)
  have d2 : ¬ two t b v := fun c => c.elim (fun e => by omega) (fun e => by omega)
  have d3 : ¬ two u v t := fun c => c.elim (fun e => by omega) (fun e => by omega)
  have d4 : ¬ two u v b := fun c => c.elim (fun e => by omega) (fun e => by omega)
  have gt : CF ≤ t := by omega
  have gb : CF ≤ b := by omega
  have gu : CF ≤ u := by omega
  have gv : CF ≤ v := by omega
  have sz3' : CF ≤ w3.heap.size := by omega
  have hB5 := Lib.hid ((hB3.out.trans (hb4.out.mono sz3')).trans (hb5.out.mono (by omega)))
  have e0 := hZ.1
  clear hX hY hZ q1 q2 q3 hc3 hc4 hT4 hb4 hb5 hB3 sz3
  obtain ⟨kk, hkk, k0, k1⟩ : ∃ kk : Int, wrap64 ((IntKind.u64.wrap sl).tmod S) = kk ∧ 0 ≤ kk ∧ kk < S := by
    have e4 : 0 ≤ IntKind.u64.wrap sl := by rw [Core.wrap_u64]; omega
    rw [Int.tmod_eq_emod_of_nonneg e4]
    have h3 := Int.emod_nonneg (IntKind.u64.wrap sl) (show S ≠ 0 by omega)
    have h4 := Int.emod_lt_of_pos (IntKind.u64.wrap sl) (show 0 < S by omega)
    generalize IntKind.u64.wrap sl % S = r at *
    exact ⟨_, wrap64_id r (by omega) (by omega), h3, h4⟩
  have hn0 : 0 < n := by omega
  have hn16 : n ≤ 16 := by omega
  have okA : Okr (one S A 2 (n : Int) G K 0 n 0 (-1)) := one_ok hn16 (by decide) (by decide) (by decide) (by decide)
  have okB : Okr (one S A 2 (n : Int) G K 1 n 0 (-1)) := one_ok hn16 (by decide) (by decide) (by decide) (by decide)
  have okA1 : Okr (one S A 2 (n : Int) G K 0 n 1 kk) := one_ok hn16 (by decide) (by decide) (by omega) (by omega)
  have okB1 : Okr (one S A 2 (n : Int) G K 1 n 1 kk) := one_ok hn16 (by decide) (by decide) (by omega) (by omega)
  have okA2 : Okr (one S A 2 (n : Int) G K 0 n 1 (-1)) := one_ok hn16 (by decide) (by decide) (by decide) (by decide)
  have okA3 : Okr (one S A 2 (n : Int) G K 0 n 2 kk) := one_ok hn16 (by decide) (by decide) (by omega) (by omega)
  obtain ⟨a1, a2, a3, a4⟩ := one_take (S := S) (A := A) (C := 2) (H := (n : Int)) (G := G) (K := K) (who := 0) (t := 0) hn0 (by decide) k0 k1
  obtain ⟨b1, b2, b3, b4⟩ := one_take (S := S) (A := A) (C := 2) (H := (n : Int)) (G := G) (K := K) (who := 1) (t := 0) hn0 (by decide) k0 k1
  obtain ⟨g1, g2, g3, g4⟩ := one_take (S := S) (A := A) (C := 2) (H := (n : Int)) (G := G) (K := K) (who := 0) (t := 1) hn0 (by decide) k0 k1
  rw [show (0 : Int) + 1 = 1 from rfl] at a4 b4
  rw [show (1 : Int) + 1 = 2 from rfl] at g4
  rw [show (handleV 0 0 (0 + 1)).1 = 72057594037927937 from by decide] at a3
  rw [show (handleV 1 0 (0 + 1)).1 = 144115188075855873 from by decide] at b3
  rw [show (handleV 0 0 (1 + 1)).1 = 72057594037927938 from by decide] at g3
  obtain ⟨f1, f2⟩ := one_yes (S := S) (A := A) (C := 2) (H := (n : Int)) (G := G) (K := K) (who := 0) (t := 1) (x := kk) (h := 72057594037927937) hn0 (by decide) k0
  have f3 := one_no (S := S) (A := A) (C := 2) (H := (n : Int)) (G := G) (K := K) (who := 0) (n := n) (t := 1) (x := kk) (h := 144115188075855873) (Or.inr (by decide))
  have f4 := one_no (S := S) (A := A) (C := 2) (H := (n : Int)) (G := G) (K := K) (who := 1) (n := n) (t := 1) (x := kk) (h := 72057594037927937) (Or.inr (by decide))
  have f5 := one_no (S := S) (A := A) (C := 2) (H := (n : Int)) (G := G) (K := K) (who := 0) (n := n) (t := 1) (x := -1) (h := 72057594037927937) (Or.inl (by decide))
  have f6 := one_no (S := S) (A := A) (C := 2) (H := (n : Int)) (G := G) (K := K) (who := 0) (n := n) (t := 2) (x := kk) (h := 72057594037927937) (Or.inr (by decide))
  have fx : ∀ y : Int, 0 ≤ y → y ≠ 72057594037927937 → findB (one S A 2 (n : Int) G K 0 n 1 kk) y = false := fun y y0 y1 => one_no (Or.inr (fun q => y1 (by have := parts_is y0 q; omega)))
  obtain ⟨bb, hbb, hb64⟩ : ∃ bb : Nat, (IntKind.u64.wrap d).tmod 64 = bb ∧ bb < 64 := by
    have e4 : 0 ≤ IntKind.u64.wrap d := by rw [Core.wrap_u64]; omega
    rw [Int.tmod_eq_emod_of_nonneg e4]
    exact ⟨(IntKind.u64.wrap d % 64).toNat, by omega, by omega⟩
  have e2' : 2 ^ bb < 2 ^ 64 := Nat.pow_lt_pow_right (by decide) hb64
  have e2 : 2 ^ bb < 18446744073709551616 := e2'
  clear e2'
  have hpw : IntKind.u64.wrap ((2 : Int) ^ bb) = ((2 ^ bb : Nat) : Int) := by
    rw [Core.wrap_u64, show ((2 : Int) ^ bb) = ((2 ^ bb : Nat) : Int) from (Int.natCast_pow 2 bb).symm]
    exact Int.emod_eq_of_lt (Int.natCast_nonneg _) (show ((2 ^ bb : Nat) : Int) < ((18446744073709551616 : Nat) : Int) from Int.ofNat_lt.2 e2)
  obtain ⟨y1, y2⟩ := turn_ne 72057594037927937 bb (by decide) hb64
  have hxo : bits .xor .u64 (72057594037927937 : Int) ((2 ^ bb : Nat) : Int) = ((72057594037927937 ^^^ 2 ^ bb : Nat) : Int) := u64_xor_nat 72057594037927937 (2 ^ bb) (by decide) e2
  generalize 2 ^ bb = pw at *
  generalize hye : 72057594037927937 ^^^ pw = yy at *
  obtain ⟨p1, p2⟩ := one_drop (S := S) (A := A) (C := 2) (H := (n : Int)) (G := G) (K := K) (who := 0) (t := 1) (x := kk) hn0 k0
  have fy := Lib.hid (fx yy (Int.natCast_nonneg _) (by omega))
  replace a1 := Lib.hid a1; replace a2 := Lib.hid a2; replace a3 := Lib.hid a3; replace a4 := Lib.hid a4
  replace b1 := Lib.hid b1; replace b2 := Lib.hid b2; replace b3 := Lib.hid b3; replace b4 := Lib.hid b4
  replace g1 := Lib.hid g1; replace g2 := Lib.hid g2; replace g3 := Lib.hid g3; replace g4 := Lib.hid g4
  replace f1 := Lib.hid f1; replace f2 := Lib.hid f2; replace f3 := Lib.hid f3; replace f4 := Lib.hid f4; replace f5 := Lib.hid f5; replace f6 := Lib.hid f6; replace fx := Lib.hid fx
  replace p1 := Lib.hid p1; replace p2 := Lib.hid p2
  go_wp2_with (first
    | (go_at_call 29; with_reducible (show Calls Try.prog 29 #[.pointer (some ⟨u, 0, none⟩), _] _ _); refine (take_c w6 u v _ _ hU6.out okB).mono ?_; rintro e w7 ⟨rfl, hU7, hF7⟩; rw [b1.out, b2.out, b3.out]; rw [b4.out] at hU7; have hT7 := Lib.hid (hT6.out.fr hF7 d3 d4); have hB7 := Lib.hid (below_two hB6.out hF7 gu gv (by omega)); replace hU7 := Lib.hid hU7; replace hF7 := Lib.hid hF7)
    | (go_at_call 29; with_reducible (show Calls Try.prog 29 #[.pointer (some ⟨t, 0, none⟩), _] _ _); refine (take_c w5 t b _ _ hT5.out okA).mono ?_; rintro e w6 ⟨rfl, hT6, hF6⟩; rw [a1.out, a2.out, a3.out]; rw [a4.out] at hT6; have hU6 := Lib.hid (hU5.out.fr hF6 d1 d2); have hB6 := Lib.hid (below_two hB5.out hF6 gt gb (by omega)); replace hT6 := Lib.hid hT6; replace hF6 := Lib.hid hF6)
    | (go_at_call 35; with_reducible (show Calls Try.prog 35 _ w7 _); refine (find_c w7 t b _ 72057594037927937 hT7.out okA1 (by decide) (by decide)).mono ?_; rintro e w8 ⟨rfl, hb8⟩; rw [f1.out, f2.out]; have hT8 := Lib.hid (hT7.out.next hb8); have hU8 := Lib.hid (hU7.out.next hb8); have hB8 := Lib.hid (hB7.out.trans (hb8.mono (Nat.le_trans (by omega) hB7.out.size))); replace hb8 := Lib.hid hb8)
    | (go_at_call 35; with_reducible (show Calls Try.prog 35 _ w8 _); refine (find_c w8 t b _ (yy : Int) hT8.out okA1 (by omega) (by omega)).mono ?_; rintro e w9 ⟨rfl, hb9⟩; rw [fy.out]; have hT9 := Lib.hid (hT8.out.next hb9); have hU9 := Lib.hid (hU8.out.next hb9); have hB9 := Lib.hid (hB8.out.trans (hb9.mono (Nat.le_trans (by omega) hB8.out.size))); replace hb9 := Lib.hid hb9)
    | (go_at_call 35; with_reducible (show Calls Try.prog 35 _ w9 _); refine (find_c w9 t b _ 144115188075855873 hT9.out okA1 (by decide) (by decide)).mono ?_; rintro e w10 ⟨rfl, hb10⟩; rw [f3.out]; have hT10 := Lib.hid (hT9.out.next hb10); have hU10 := Lib.hid (hU9.out.next hb10); have hB10 := Lib.hid (hB9.out.trans (hb10.mono (Nat.le_trans (by omega) hB9.out.size))); replace hb10 := Lib.hid hb10)
    | (go_at_call 35; with_reducible (show Calls Try.prog 35 _ w10 _); refine (find_c w10 u v _ 72057594037927937 hU10.out okB1 (by decide) (by decide)).mono ?_; rintro e w11 ⟨rfl, hb11⟩; rw [f4.out]; have hT11 := Lib.hid (hT10.out.next hb11); have hU11 := Lib.hid (hU10.out.next hb11); have hB11 := Lib.hid (hB10.out.trans (hb11.mono (Nat.le_trans (by omega) hB10.out.size))); replace hb11 := Lib.hid hb11)
    | (go_at_call 32; refine (drop_c w11 t b _ 0 hT11.out okA1).mono ?_; rintro e w12 ⟨rfl, hT12, hF12⟩; rw [p1.out]; rw [p2.out] at hT12; have hB12 := Lib.hid (below_two hB11.out hF12 gt gb (by omega)); replace hT12 := Lib.hid hT12; replace hF12 := Lib.hid hF12)
    | (go_at_call 35; with_reducible (show Calls Try.prog 35 _ w12 _); refine (find_c w12 t b _ 72057594037927937 hT12.out okA2 (by decide) (by decide)).mono ?_; rintro e w13 ⟨rfl, hb13⟩; rw [f5.out]; have hT13 := Lib.hid (hT12.out.next hb13); have hB13 := Lib.hid (hB12.out.trans (hb13.mono (Nat.le_trans (by omega) hB12.out.size))); replace hb13 := Lib.hid hb13)
    | (go_at_call 29; with_reducible (show Calls Try.prog 29 _ w13 _); refine (take_c w13 t b _ _ hT13.out okA2).mono ?_; rintro e w14 ⟨rfl, hT14, hF14⟩; rw [g1.out, g2.out, g3.out]; rw [g4.out] at hT14; have hB14 := Lib.hid (below_two hB13.out hF14 gt gb (by omega)); replace hT14 := Lib.hid hT14; replace hF14 := Lib.hid hF14)
    | (go_at_call 35; with_reducible (show Calls Try.prog 35 _ w14 _); refine (find_c w14 t b _ 72057594037927937 hT14.out okA3 (by decide) (by decide)).mono ?_; rintro e w15 ⟨rfl, hb15⟩; rw [f6.out]; have hB15 := Lib.hid (hB14.out.trans (hb15.mono (Nat.le_trans (by omega) hB14.out.size))); replace hb15 := Lib.hid hb15)
    | (go_at_call 28; refine (awake_c _).mono ?_; rintro e w16 ⟨rfl, hb16⟩; have hB16 := Lib.hid (hB15.out.trans (hb16.mono (Nat.le_trans (by omega) hB15.out.size))); replace hb16 := Lib.hid hb16))
  go_ret
  exact ⟨rfl, hCFe ▸ hB16.out⟩
end Go.Proofs.Ytljfpkdbooineaa.RootG
