/-
  The law EpochDone's walk; condition: the arguments as they are read.
-/
import Derived.Test.YtijfkpoofpcacaaEpochM
set_option linter.unusedVariables false
namespace Go.Proofs.Ytijfkpoofpcacaa.EpochD
open Go.RowKit Go.Proofs.YtijfkpoofpcacaaW.PrintWords Go.Proofs.Ytijfkpoofpcacaa.Blk Go.Proofs.Ytijfkpoofpcacaa.Core Go.Proofs.Ytijfkpoofpcacaa.MemC Go.Proofs.Ytijfkpoofpcacaa.MemD Go.Proofs.Ytijfkpoofpcacaa.MemT Go.Proofs.Ytijfkpoofpcacaa.Memory Go.Proofs.Ytijfkpoofpcacaa.PlanC Go.Proofs.Ytijfkpoofpcacaa.PlanD Go.Proofs.Ytijfkpoofpcacaa.StackC Go.Proofs.Ytijfkpoofpcacaa.StackF Go.Proofs.Ytijfkpoofpcacaa.StackP Go.Proofs.Ytijfkpoofpcacaa.StackG Go.Proofs.Ytijfkpoofpcacaa.EpochC Go.Proofs.Ytijfkpoofpcacaa.EpochS Go.Proofs.Ytijfkpoofpcacaa.EpochA Go.Proofs.Ytijfkpoofpcacaa.EpochM
/-- Nobody is pinned but in this epoch. -/
def Ready (c : Cf) (f : Nat → Int) (e : Int) : Prop := ∀ j : Nat, (j : Int) < c.C → f (4 + j) = 0 ∨ f (4 + j) = pinV e
theorem ready0 {c : Cf} (hr : c.right = true) (e : Int) : Ready c (memF c.A c.C c.H (c.S - 1).toNat) e := by
  intro j hj
  have h := pin_lt hr (who := (j : Int)) (by omega) hj
  have hb := size_bd hr
  refine .inl (memF_lo _ _ _ _ _ (by omega) ?_)
  unfold slotsV
  have hr' := right_iff.1 hr
  have := Int.mul_nonneg (show 0 ≤ c.C by omega) (show 0 ≤ c.H + 2 by omega)
  have e : c.C * (1 + c.H + 2) = c.C + c.C * (c.H + 2) := by rw [show 1 + c.H + 2 = 1 + (c.H + 2) by omega, Int.mul_add, Int.mul_one]
  omega
theorem Ready.pin {c : Cf} {f : Nat → Int} {e : Int} (h : Ready c f e) (a : Nat) : Ready c (upd f a (pinV e)) e := by
  intro j hj
  unfold upd
  by_cases q : 4 + j = a
  · rw [if_pos q]; exact .inr rfl
  · rw [if_neg q]; exact h j hj
theorem Ready.leave {c : Cf} {f : Nat → Int} {e : Int} (h : Ready c f e) (a : Nat) : Ready c (upd f a 0) e := by
  intro j hj
  unfold upd
  by_cases q : 4 + j = a
  · rw [if_pos q]; exact .inl rfl
  · rw [if_neg q]; exact h j hj
theorem Ready.at_ {c : Cf} {f : Nat → Int} {e x : Int} (h : Ready c f e) (h0 : 0 ≤ x) (h1 : x < c.C) : f (4 + x).toNat = 0 ∨ f (4 + x).toNat = pinV e := by
  have := h x.toNat (by omega)
  have e : (4 + x).toNat = 4 + x.toNat := by omega
  rw [e]; exact this
set_option maxHeartbeats 4000000 in
set_option maxRecDepth 100000 in
theorem doneC (c0 : Cf) (a : Int) (a0 : 0 ≤ a) (a1 : a < 256) (w : World) : Calls Try.prog 8 #[.agg #[.int .i64 c0.S, .int .i64 c0.A, .int .i64 c0.C, .int .i64 c0.H, .int .i64 c0.G, .int .i64 c0.K], .int .u8 a] w fun e w' => e = .returned (.bool true) ∧ Below w.heap.size w w' := by
  have hf0 := Lib.hid (Blk.new w 23 #[.int .i64 c0.S, .int .i64 c0.A, .int .i64 c0.C, .int .i64 c0.H, .int .i64 c0.G, .int .i64 c0.K])
  have hT0 := Lib.hid ((Below.refl w.heap.size w).alloc (Nat.le_refl _) (.cells #[.int .i64 c0.S, .int .i64 c0.A, .int .i64 c0.C, .int .i64 c0.H, .int .i64 c0.G, .int .i64 c0.K] 23))
  go_enter Try.func8, Try.ntmps8
  generalize hCFe : w.heap.size = CF at *
  go_upto_region 3 with (first
      | (go_at_call 31; refine (fitC c0 _).mono ?_; rintro e w1 ⟨c, rfl, hs, hb1⟩; have hr := small_right hs; have hf1 := hf0.out.below hb1 hf0.out.lt; obtain ⟨k0, k1, k2, k3, k4, k5⟩ := cfgs hf1; have z0 := hf1.frozen 0; have z1 := hf1.frozen 1; have z2 := hf1.frozen 2; have z3 := hf1.frozen 3; have z4 := hf1.frozen 4; have z5 := hf1.frozen 5; replace hf1 := Lib.hid hf1; replace hT0 := Lib.hid (hT0.out.trans (hb1.mono (by have := hT0.out.size; omega))); clear hb1; replace hr := Lib.hid hr; replace hs := Lib.hid hs)
      | (go_at_call 20; (show Calls _ _ _ (six w1 CF c) _); clear k0 k1 k2 k3 k4 k5 z0 z1 z2 z3 z4 z5; have hf2 := six_blk (c := c) hf1.out; have hT2 := six_below (c := c) hT0.out (b := CF) (by omega); generalize six w1 CF c = w2 at *; refine (memC c _ hr.out).mono ?_; rintro e w3 ⟨m, b, rfl, hM3, hm, hb, hb3⟩; have hf3 := hf2.below hb3 hf2.lt; have lt3 := hf2.lt; replace hT2 := Lib.hid (hT2.trans (hb3.mono (by have := hT2.size; omega))); have hcf := Lib.hid hf3; replace hM3 := Lib.hid hM3; obtain ⟨q0, q1, q2, q3, q4, q5⟩ := cfgs hf3; clear hb3 hf2 hf3))
  obtain ⟨n, hn⟩ : ∃ n : Nat, (n : Int) = c.size := ⟨c.size.toNat, by have := size_bd hr.out; unfold Cf.size; omega⟩
  have hS := S_bd hr.out
  have hf := Lib.hid (fine_of (n := n) (memF_U c.A c.C c.H (c.S - 1).toNat (by omega)))
  have hM : MemB w3 m b (Ms.of n (memF c.A c.C c.H (c.S - 1).toNat)) := by
    have := hM3.out
    rw [← hn, Int.toNat_natCast] at this
    exact this
  replace hM := Lib.hid hM
  have hT := hT2
  have ltm := hM.out.lm
  have ltb := hM.out.lb
  have mCF : CF < m := by omega
  have bCF : CF < b := by omega
  have hn8 := size_bd hr.out
  have hn8' : 9 ≤ n ∧ n ≤ 800 := by unfold Cf.size at hn; omega
  have hF1 : memF c.A c.C c.H (c.S - 1).toNat 1 = 0 := memF1 _ _ _ _ (by omega)
  replace hF1 := Lib.hid hF1
  replace hn := Lib.hid hn
  clear hM3 hT0 hf1 hf0 hT2 hS hn8
  have hc1 := hs.out
  unfold Cf.small at hc1
  obtain ⟨C, hC⟩ := Int.eq_ofNat_of_zero_le (show 0 ≤ c.C by omega)
  obtain ⟨k, hk⟩ := Int.eq_ofNat_of_zero_le (Int.emod_nonneg a (show c.C ≠ 0 by omega))
  have hkC := Int.emod_lt_of_pos a (show 0 < c.C by omega)
  rw [hk] at hkC
  have e1 : a.tmod c.C = (k : Int) := by rw [Int.tmod_eq_emod_of_nonneg a0, hk]
  have e2 : IntKind.i64.wrap a = a := IntWalk.i64_in _ (by omega)
  have e3 : IntKind.i64.wrap (k : Int) = k := IntWalk.i64_in _ (by omega)
  have hC0 : ¬ c.C = 0 := by omega
  have hC4 : C ≤ 4 := by omega
  have hCa : 1 ≤ c.C := by omega
  have hCb : c.C ≤ 4 := by omega
  have hC1 : 1 ≤ C := by omega
  have hk' : (0 : Int) ≤ k ∧ (k : Int) < c.C := ⟨by omega, hkC⟩
  clear hk hc1
  have hk := Lib.hid hk'
  clear hk' hkC
  replace hC := Lib.hid hC
  go_upto_region 4 with (fail)
  replace hcf := Lib.hid hcf.out.drew
  replace hM := Lib.hid hM.out.drew
  replace hT := Lib.hid hT.out.drew
  have hX : w3.drew.cell? ⟨CF, 0, none⟩ = some (.int .i64 c.S) ∧ w3.drew.cell? ⟨CF, 1, none⟩ = some (.int .i64 c.A) ∧ w3.drew.cell? ⟨CF, 2, none⟩ = some (.int .i64 c.C) ∧ w3.drew.cell? ⟨CF, 3, none⟩ = some (.int .i64 c.H) ∧ w3.drew.cell? ⟨CF, 4, none⟩ = some (.int .i64 c.G) ∧ w3.drew.cell? ⟨CF, 5, none⟩ = some (.int .i64 c.K) := cfgs hcf.out
  have hE : Hid ((Ms.of n (memF c.A c.C c.H (c.S - 1).toNat)).f 1 = 0 ∧ Ready c (Ms.of n (memF c.A c.C c.H (c.S - 1).toNat)).f 0) := Lib.hid ⟨hF1.out, ready0 hr.out 0⟩
  have sz3 : w3.drew.heap.size = w3.heap.size := rfl
  clear q0 q1 q2 q3 q4 q5
  go_cut [7, 8, 9] (fun va vb vc wx => ∃ pa pb pc, va = .pointer (some ⟨pa, 0, none⟩) ∧ vb = .pointer (some ⟨pb, 0, none⟩) ∧ vc = .pointer (some ⟨pc, 0, none⟩) ∧ PinB wx pa 0 (4 + (k : Int)) 0 ∧ AdvB wx pb c 0 0 0 0 ∧ LevB wx pc (4 + (k : Int)) false ∧ pa ≠ pb ∧ pa ≠ pc ∧ pb ≠ pc ∧ w3.heap.size ≤ pa ∧ w3.heap.size ≤ pb ∧ w3.heap.size ≤ pc ∧ MemB wx m b (Ms.of n (memF c.A c.C c.H (c.S - 1).toNat)) ∧ Blk wx CF 23 #[.int .i64 c.S, .int .i64 c.A, .int .i64 c.C, .int .i64 c.H, .int .i64 c.G, .int .i64 c.K] ∧ Below CF w wx)
  case first =>
    go_region_held3 (fun w' => w'.cell? ⟨CF, 0, none⟩ = some (.int .i64 c.S) ∧ w'.cell? ⟨CF, 1, none⟩ = some (.int .i64 c.A) ∧ w'.cell? ⟨CF, 2, none⟩ = some (.int .i64 c.C) ∧ w'.cell? ⟨CF, 3, none⟩ = some (.int .i64 c.H) ∧ w'.cell? ⟨CF, 4, none⟩ = some (.int .i64 c.G) ∧ w'.cell? ⟨CF, 5, none⟩ = some (.int .i64 c.K)) (assumption) (first
      | (go_at_call 32; refine (newPinC c _ hr.out (k : Int) hk.out.1 hk.out.2).mono ?_; rintro e wnhA ⟨p0, rfl, ghA, hA, hb3⟩; replace hcf := Lib.hid (hcf.out.below hb3 hcf.out.lt); have hYhA := cfgs hcf.out; have lhA := Blk.lt hA; (try replace hB := Lib.hid (Blk.below hB.out hb3 (Blk.lt hB.out))); (try replace hL := Lib.hid (Blk.below hL.out hb3 (Blk.lt hL.out))); replace hA := Lib.hid hA; have znhA := hb3.size; replace hM := Lib.hid (hM.out.next hb3); replace hT := Lib.hid (hT.out.trans (hb3.mono (by have := hT.out.size; omega))); clear hb3)
      | (go_at_call 39; refine (newAdvC c _ hr.out).mono ?_; rintro e wnhB ⟨p1, rfl, ghB, hB, hb3⟩; replace hcf := Lib.hid (hcf.out.below hb3 hcf.out.lt); have hYhB := cfgs hcf.out; have lhB := Blk.lt hB; (try replace hA := Lib.hid (Blk.below hA.out hb3 (Blk.lt hA.out))); (try replace hL := Lib.hid (Blk.below hL.out hb3 (Blk.lt hL.out))); replace hB := Lib.hid hB; have znhB := hb3.size; replace hM := Lib.hid (hM.out.next hb3); replace hT := Lib.hid (hT.out.trans (hb3.mono (by have := hT.out.size; omega))); clear hb3)
      | (go_at_call 38; refine (newLevC c _ hr.out (k : Int) hk.out.1 hk.out.2).mono ?_; rintro e wnhL ⟨p2, rfl, ghL, hL, hb3⟩; replace hcf := Lib.hid (hcf.out.below hb3 hcf.out.lt); have hYhL := cfgs hcf.out; have lhL := Blk.lt hL; (try replace hA := Lib.hid (Blk.below hA.out hb3 (Blk.lt hA.out))); (try replace hB := Lib.hid (Blk.below hB.out hb3 (Blk.lt hB.out))); replace hL := Lib.hid hL; have znhL := hb3.size; replace hM := Lib.hid (hM.out.next hb3); replace hT := Lib.hid (hT.out.trans (hb3.mono (by have := hT.out.size; omega))); clear hb3))
    all_goals
      go_wp2
      go_meet
      case rel => exact ⟨p0, p1, p2, rfl, rfl, rfl, hA.out, hB.out, hL.out, by omega, by omega, by omega, by omega, by omega, by omega, hM.out, hcf.out, hT.out⟩
  case rest =>
    obtain ⟨pa, pb, pc, rfl, rfl, rfl, c1, c2, c3, nab, nac, nbc, ga, gb, gc, c4, c5, c6⟩ := hcut
    clear hcf hM hT hX
    have hA := Lib.hid c1
    have hB := Lib.hid c2
    have hL := Lib.hid c3
    have hM := Lib.hid c4
    have hcf := Lib.hid c5
    have hT := Lib.hid c6
    clear c1 c2 c3 c4 c5 c6
    go_wp2
    go_loopw [10] (fun z wr => ∃ (i : Nat) (M : Ms), i ≤ 3 ∧ z = .int .i64 (i : Int) ∧ PinB wr pa 0 (4 + (k : Int)) (i : Int) ∧ AdvB wr pb c 0 0 0 0 ∧ LevB wr pc (4 + (k : Int)) false ∧ MemB wr m b M ∧ (M.f 1 = 0 ∧ Ready c M.f 0) ∧ Fine M n i ∧ Blk wr CF 23 #[.int .i64 c.S, .int .i64 c.A, .int .i64 c.C, .int .i64 c.H, .int .i64 c.G, .int .i64 c.K] ∧ Below CF w wr) (fun z _ => 3 - (intOf z).toNat)
    case atStart => exact ⟨0, _, by omega, rfl, hA.out, hB.out, hL.out, hM.out, hE.out, hf.out, hcf.out, hT.out⟩
    case round =>
      obtain ⟨i, M, hi, rfl, c1, c2, c3, c4, c5, c6, c7, c8⟩ := hrel
      clear hA hB hL hM hcf hT hE hf
      have hA := Lib.hid c1
      have hB := Lib.hid c2
      have hL := Lib.hid c3
      have hM := Lib.hid c4
      have hE := Lib.hid c5
      have hf := Lib.hid c6
      have hcf := Lib.hid c7
      have hT := Lib.hid c8
      clear c1 c2 c3 c4 c5 c6 c7 c8
      have hle : i = 0 ∨ i = 1 ∨ i = 2 ∨ i = 3 := by omega
      rcases hle with rfl | rfl | rfl | i3
      · go_wp2_with (first
      | (go_at_call 33; refine (pnA hr.out hM.out hf.out hn.out (by omega) (not_two (by omega) (by omega))  hA.out).mono ?_; rintro e v1 ⟨rfl, M', hP', hM', ef', et', hf', hF'⟩; have hE' := (show M'.f 1 = 0 ∧ Ready c M'.f 0 by rw [ef']; exact hE.out); replace hB := Lib.hid (Blk.fr hB.out hF' (not_three (by omega) (by omega) (by omega))); replace hL := Lib.hid (Blk.fr hL.out hF' (not_three (by omega) (by omega) (by omega))); replace hcf := Lib.hid (Blk.fr hcf.out hF' (not_three (by omega) (by omega) (by omega))); have hTT := below_three hT.out hF' (by have := hT.out.size; omega) (by omega) (by omega) (by omega); replace hT := Lib.hid hTT; have zz1 := hF'.size; clear hTT hF'; rw [hE.out.1] at hP'; replace hA := Lib.hid hP'; replace hM := Lib.hid hM'; replace hf := Lib.hid hf'; replace hE := Lib.hid hE'; clear hP' hM' hf' ef' et' hE'))
        go_roundw
        case rel => exact ⟨1, _, by omega, rfl, hA.out, hB.out, hL.out, hM.out, hE.out, hf.out, hcf.out, hT.out⟩
        case measure => simp [intOf]
      · go_wp2_with (first
      | (go_at_call 33; refine (pnB hr.out hM.out hf.out hn.out (by omega) (not_two (by omega) (by omega)) hk.out hA.out).mono ?_; rintro e v2 ⟨rfl, M', hP', hM', ef', et', hf', hF'⟩; have hE' := (show M'.f 1 = 0 ∧ Ready c M'.f 0 by rw [ef']; exact ⟨(upd_ne (by have := hk.out; omega)).trans hE.out.1, hE.out.2.pin _⟩); replace hB := Lib.hid (Blk.fr hB.out hF' (not_three (by omega) (by omega) (by omega))); replace hL := Lib.hid (Blk.fr hL.out hF' (not_three (by omega) (by omega) (by omega))); replace hcf := Lib.hid (Blk.fr hcf.out hF' (not_three (by omega) (by omega) (by omega))); have hTT := below_three hT.out hF' (by have := hT.out.size; omega) (by omega) (by omega) (by omega); replace hT := Lib.hid hTT; have zz2 := hF'.size; clear hTT hF'; replace hA := Lib.hid hP'; replace hM := Lib.hid hM'; replace hf := Lib.hid hf'; replace hE := Lib.hid hE'; clear hP' hM' hf' ef' et' hE'))
        go_roundw
        case rel => exact ⟨2, _, by omega, rfl, hA.out, hB.out, hL.out, hM.out, hE.out, hf.out, hcf.out, hT.out⟩
        case measure => simp [intOf]
      · go_wp2_with (first
      | (go_at_call 33; refine (pnC hr.out hM.out hf.out hn.out (by omega) (not_two (by omega) (by omega)) hE.out.1 hA.out).mono ?_; rintro e v3 ⟨rfl, M', hP', hM', ef', et', hf', hF'⟩; have hE' := (show M'.f 1 = 0 ∧ Ready c M'.f 0 by rw [ef']; exact hE.out); replace hB := Lib.hid (Blk.fr hB.out hF' (not_three (by omega) (by omega) (by omega))); replace hL := Lib.hid (Blk.fr hL.out hF' (not_three (by omega) (by omega) (by omega))); replace hcf := Lib.hid (Blk.fr hcf.out hF' (not_three (by omega) (by omega) (by omega))); have hTT := below_three hT.out hF' (by have := hT.out.size; omega) (by omega) (by omega) (by omega); replace hT := Lib.hid hTT; have zz3 := hF'.size; clear hTT hF'; replace hA := Lib.hid hP'; replace hM := Lib.hid hM'; replace hf := Lib.hid hf'; replace hE := Lib.hid hE'; clear hP' hM' hf' ef' et' hE'))
        go_roundw
        case rel => exact ⟨3, _, by omega, rfl, hA.out, hB.out, hL.out, hM.out, hE.out, hf.out, hcf.out, hT.out⟩
        case measure => simp [intOf]
      · have hA3 : PinB wr pa 0 (4 + (k : Int)) 3 := by
          have := hA.out
          rwa [show (i : Int) = 3 from by omega] at this
        have hge : ¬ (i : Int) < 3 := by omega
        replace hf := Lib.hid (hf.out.mono (show i ≤ 3 by omega))
        clear hA i3 hi
        have hA := Lib.hid hA3
        clear hA3
        go_wp2
        go_loopw [11] (fun z wr => ∃ (i : Nat) (M : Ms), i ≤ C + 2 ∧ z = .int .i64 (i : Int) ∧ PinB wr pa 0 (4 + (k : Int)) 3 ∧ ((i = 0 ∧ AdvB wr pb c 0 0 0 0 ∧ (M.f 1 = 0 ∧ Ready c M.f 0)) ∨ (1 ≤ i ∧ i ≤ C ∧ AdvB wr pb c 0 0 ((i - 1 : Nat) : Int) 1 ∧ (M.f 1 = 0 ∧ Ready c M.f 0)) ∨ (i = C + 1 ∧ AdvB wr pb c 0 0 c.C 2 ∧ (M.f 1 = 0 ∧ Ready c M.f 0)) ∨ (i = C + 2 ∧ AdvB wr pb c ((0 + 1) % 18446744073709551616) 0 c.C 3)) ∧ LevB wr pc (4 + (k : Int)) false ∧ MemB wr m b M ∧ Fine M n (3 + i) ∧ Blk wr CF 23 #[.int .i64 c.S, .int .i64 c.A, .int .i64 c.C, .int .i64 c.H, .int .i64 c.G, .int .i64 c.K] ∧ Below CF w wr) (fun z _ => C + 2 - (intOf z).toNat)
        case atStart => exact ⟨0, _, by omega, rfl, hA.out, .inl ⟨rfl, hB.out, hE.out⟩, hL.out, hM.out, hf.out, hcf.out, hT.out⟩
        case round =>
          obtain ⟨i, M2, hi2, rfl, c1, c2, c3, c4, c6, c7, c8⟩ := hrel
          clear hA hB hL hM hcf hT hE hf
          have hA := Lib.hid c1
          have hL := Lib.hid c3
          have hM := Lib.hid c4
          have hf := Lib.hid c6
          have hcf := Lib.hid c7
          have hT := Lib.hid c8
          obtain ⟨q0, q1, q2, q3, q4, q5⟩ := cfgs c7
          clear c1 c3 c4 c6 c7 c8
          have hcC := hC.out
          rcases c2 with ⟨i1, d1, d2⟩ | ⟨i1, i2, d1, d2⟩ | ⟨i1, d1, d2⟩ | ⟨i1, d1⟩
          · have hB := Lib.hid d1
            have hE := Lib.hid d2
            have hlt : (i : Int) < c.C + 2 := by omega
            clear d1 d2
            replace i1 := Lib.hid i1
            replace hcC := Lib.hid hcC
            go_wp2_with (first
      | (go_at_call 41; refine (adS hr.out hM.out hf.out hn.out (by omega) (not_two (by omega) (by omega))  hB.out).mono ?_; rintro e v1 ⟨rfl, M', hP', hM', ef', et', hf', hF'⟩; have hE' := (show M'.f 1 = 0 ∧ Ready c M'.f 0 by rw [ef']; exact hE.out); replace hA := Lib.hid (Blk.fr hA.out hF' (not_three (by omega) (by omega) (by omega))); replace hL := Lib.hid (Blk.fr hL.out hF' (not_three (by omega) (by omega) (by omega))); replace hcf := Lib.hid (Blk.fr hcf.out hF' (not_three (by omega) (by omega) (by omega))); have hTT := below_three hT.out hF' (by have := hT.out.size; omega) (by omega) (by omega) (by omega); replace hT := Lib.hid hTT; have zz1 := hF'.size; clear hTT hF'; rw [hE.out.1] at hP'; replace hB := Lib.hid hP'; replace hM := Lib.hid hM'; replace hf := Lib.hid hf'; replace hE := Lib.hid hE'; clear hP' hM' hf' ef' et' hE'))
            go_roundw
            case rel =>
              have i1' := i1.out
              exact ⟨i + 1, _, by omega, by go_num, hA.out, .inr (.inl ⟨by omega, by omega, (by rw [show ((i + 1 - 1 : Nat) : Int) = 0 from by omega]; exact hB.out), hE.out⟩), hL.out, hM.out, hf.out.mono (by omega), hcf.out, hT.out⟩
            case measure => have := i1.out; simp [intOf]; omega
          · have hB := Lib.hid d1
            have hE := Lib.hid d2
            have hlt : (i : Int) < c.C + 2 := by omega
            have hi4 : ((i - 1 : Nat) : Int) < c.C := by omega
            have hi5 : (0 : Int) ≤ ((i - 1 : Nat) : Int) ∧ ((i - 1 : Nat) : Int) < c.C := ⟨by omega, hi4⟩
            clear d1 d2
            replace hcC := Lib.hid hcC
            go_wp2_with (first
      | (go_at_call 41; refine (adN hr.out hM.out hf.out hn.out (by omega) (not_two (by omega) (by omega)) hi5 (hE.out.2.at_ hi5.1 hi5.2) hB.out).mono ?_; rintro e v2 ⟨rfl, M', hP', hM', ef', et', hf', hF'⟩; have hE' := (show M'.f 1 = 0 ∧ Ready c M'.f 0 by rw [ef']; exact hE.out); replace hA := Lib.hid (Blk.fr hA.out hF' (not_three (by omega) (by omega) (by omega))); replace hL := Lib.hid (Blk.fr hL.out hF' (not_three (by omega) (by omega) (by omega))); replace hcf := Lib.hid (Blk.fr hcf.out hF' (not_three (by omega) (by omega) (by omega))); have hTT := below_three hT.out hF' (by have := hT.out.size; omega) (by omega) (by omega) (by omega); replace hT := Lib.hid hTT; have zz2 := hF'.size; clear hTT hF'; replace hB := Lib.hid hP'; replace hM := Lib.hid hM'; replace hf := Lib.hid hf'; replace hE := Lib.hid hE'; clear hP' hM' hf' ef' et' hE'))
            go_roundw
            case rel =>
              have hB2 := hB.out
              have hcC2 := hcC.out
              by_cases hl : i = C
              · rw [if_pos (by omega), show ((i - 1 : Nat) : Int) + 1 = c.C by omega] at hB2
                exact ⟨i + 1, _, by omega, by go_num, hA.out, .inr (.inr (.inl ⟨by omega, hB2, hE.out⟩)), hL.out, hM.out, hf.out, hcf.out, hT.out⟩
              · rw [if_neg (by omega), show ((i - 1 : Nat) : Int) + 1 = ((i + 1 - 1 : Nat) : Int) by omega] at hB2
                exact ⟨i + 1, _, by omega, by go_num, hA.out, .inr (.inl ⟨by omega, by omega, hB2, hE.out⟩), hL.out, hM.out, hf.out, hcf.out, hT.out⟩
            case measure => simp [intOf]; omega
          · have hB := Lib.hid d1
            have hE := Lib.hid d2
            have hlt : (i : Int) < c.C + 2 := by omega
            clear d1 d2
            replace hcC := Lib.hid hcC
            replace i1 := Lib.hid i1
            go_wp2_with (first
      | (go_at_call 41; refine (adW hr.out hM.out hf.out hn.out (by omega) (not_two (by omega) (by omega)) hE.out.1 hB.out).mono ?_; rintro e v3 ⟨rfl, M', hP', hM', ef', et', hf', hF'⟩; replace hA := Lib.hid (Blk.fr hA.out hF' (not_three (by omega) (by omega) (by omega))); replace hL := Lib.hid (Blk.fr hL.out hF' (not_three (by omega) (by omega) (by omega))); replace hcf := Lib.hid (Blk.fr hcf.out hF' (not_three (by omega) (by omega) (by omega))); have hTT := below_three hT.out hF' (by have := hT.out.size; omega) (by omega) (by omega) (by omega); replace hT := Lib.hid hTT; have zz3 := hF'.size; clear hTT hF'; replace hB := Lib.hid hP'; replace hM := Lib.hid hM'; replace hf := Lib.hid hf'; clear hP' hM' hf' ef' et'))
            go_roundw
            case rel => exact ⟨i + 1, _, by have := i1.out; omega, by go_num, hA.out, .inr (.inr (.inr ⟨by have := i1.out; omega, hB.out⟩)), hL.out, hM.out, hf.out, hcf.out, hT.out⟩
            case measure => have := i1.out; simp [intOf]; omega
          · have hB := Lib.hid d1
            have hlt : ¬ (i : Int) < c.C + 2 := by omega
            clear d1
            replace i1 := Lib.hid i1
            replace hcC := Lib.hid hcC
            have k1 : True := trivial
            go_wp2_with (first
      | (go_at_call 40; have _t := k1; refine (lvA hr.out hM.out hf.out hn.out (by omega) (not_two (by omega) (by omega)) hk.out hL.out).mono ?_; rintro e v1 ⟨rfl, M', hP', hM', ef', et', hf', hF'⟩; replace hA := Lib.hid (Blk.fr hA.out hF' (not_three (by omega) (by omega) (by omega))); replace hB := Lib.hid (Blk.fr hB.out hF' (not_three (by omega) (by omega) (by omega))); replace hcf := Lib.hid (Blk.fr hcf.out hF' (not_three (by omega) (by omega) (by omega))); have hTT := below_three hT.out hF' (by have := hT.out.size; omega) (by omega) (by omega) (by omega); replace hT := Lib.hid hTT; have zz1 := hF'.size; clear hTT hF'; replace hL := Lib.hid hP'; replace hM := Lib.hid hM'; replace hf := Lib.hid hf'; clear hP' hM' hf' ef' et'; clear k1 _t)
      | (go_at_call 26; refine (touches_c _ m b _ hM.out).mono ?_; rintro e w' ⟨rfl, rfl⟩)
      | (go_at_call 33; refine (pnD hr.out hM.out hf.out hn.out (by omega) (not_two (by omega) (by omega))  hA.out).mono ?_; rintro e v2 ⟨rfl, hP', hM', hF'⟩; replace hB := Lib.hid (Blk.fr hB.out hF' (not_three (by omega) (by omega) (by omega))); replace hL := Lib.hid (Blk.fr hL.out hF' (not_three (by omega) (by omega) (by omega))); replace hcf := Lib.hid (Blk.fr hcf.out hF' (not_three (by omega) (by omega) (by omega))); have hTT := below_three hT.out hF' (by have := hT.out.size; omega) (by omega) (by omega) (by omega); replace hT := Lib.hid hTT; have zz2 := hF'.size; clear hTT hF'; replace hA := Lib.hid hP'; replace hM := Lib.hid hM'; clear hP' hM')
      | (go_at_call 41; refine (adD hr.out hM.out hf.out hn.out (by omega) (not_two (by omega) (by omega))  hB.out).mono ?_; rintro e v3 ⟨rfl, hP', hM', hF'⟩; replace hA := Lib.hid (Blk.fr hA.out hF' (not_three (by omega) (by omega) (by omega))); replace hL := Lib.hid (Blk.fr hL.out hF' (not_three (by omega) (by omega) (by omega))); replace hcf := Lib.hid (Blk.fr hcf.out hF' (not_three (by omega) (by omega) (by omega))); have hTT := below_three hT.out hF' (by have := hT.out.size; omega) (by omega) (by omega) (by omega); replace hT := Lib.hid hTT; have zz3 := hF'.size; clear hTT hF'; replace hB := Lib.hid hP'; replace hM := Lib.hid hM'; clear hP' hM')
      | (go_at_call 40; refine (lvD hr.out hM.out hf.out hn.out (by omega) (not_two (by omega) (by omega))  hL.out).mono ?_; rintro e v4 ⟨rfl, hP', hM', hF'⟩; replace hA := Lib.hid (Blk.fr hA.out hF' (not_three (by omega) (by omega) (by omega))); replace hB := Lib.hid (Blk.fr hB.out hF' (not_three (by omega) (by omega) (by omega))); replace hcf := Lib.hid (Blk.fr hcf.out hF' (not_three (by omega) (by omega) (by omega))); have hTT := below_three hT.out hF' (by have := hT.out.size; omega) (by omega) (by omega) (by omega); replace hT := Lib.hid hTT; have zz4 := hF'.size; clear hTT hF'; replace hL := Lib.hid hP'; replace hM := Lib.hid hM'; clear hP' hM')
      | (go_at_call 37; refine (awake8C _).mono ?_; rintro e w10 ⟨rfl, hb10⟩; replace hT := Lib.hid (hT.out.trans (hb10.mono (by have := hT.out.size; omega))); clear hb10))
            go_ret
            exact ⟨rfl, hCFe ▸ hT.out⟩
end Go.Proofs.Ytijfkpoofpcacaa.EpochD
