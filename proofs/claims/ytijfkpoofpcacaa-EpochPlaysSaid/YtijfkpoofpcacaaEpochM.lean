/-
  The law EpochMoves' walk; condition: the arguments as they are read.
-/
import Derived.Test.YtijfkpoofpcacaaEpochA
set_option linter.unusedVariables false
namespace Go.Proofs.Ytijfkpoofpcacaa.EpochM
open Go.RowKit Go.Proofs.YtijfkpoofpcacaaW.PrintWords Go.Proofs.Ytijfkpoofpcacaa.Blk Go.Proofs.Ytijfkpoofpcacaa.Core Go.Proofs.Ytijfkpoofpcacaa.MemC Go.Proofs.Ytijfkpoofpcacaa.MemD Go.Proofs.Ytijfkpoofpcacaa.MemT Go.Proofs.Ytijfkpoofpcacaa.Memory Go.Proofs.Ytijfkpoofpcacaa.PlanC Go.Proofs.Ytijfkpoofpcacaa.PlanD Go.Proofs.Ytijfkpoofpcacaa.StackC Go.Proofs.Ytijfkpoofpcacaa.StackF Go.Proofs.Ytijfkpoofpcacaa.StackP Go.Proofs.Ytijfkpoofpcacaa.StackG Go.Proofs.Ytijfkpoofpcacaa.EpochC Go.Proofs.Ytijfkpoofpcacaa.EpochS Go.Proofs.Ytijfkpoofpcacaa.EpochA
theorem wf8 {x : Int} (h : (Lit.int .u8 x).wf = true) : 0 ≤ x ∧ x < 256 := by
  simp [Lit.wf, IntKind.min, IntKind.max, IntKind.signed, IntKind.bits] at h
  omega
theorem pinV_small {e : Int} (h0 : 0 ≤ e) (h1 : e < 1000000) : pinV e = 2 * e + 1 := by unfold pinV; omega
theorem memF1 (A C H : Int) (j : Nat) (h4 : 4 ≤ slotsV C H) : memF A C H j 1 = 0 := by
  unfold memF
  rw [if_neg (by decide), if_neg (by decide), if_neg (fun x => by have := x.1; omega)]
theorem memF_lo (A C H : Int) (j k : Nat) (hk : 4 ≤ k) (h4 : (k : Int) < slotsV C H) : memF A C H j k = 0 := by
  unfold memF
  rw [if_neg (by omega), if_neg (by omega), if_neg (fun x => by have := x.1; omega)]
theorem ad_f {M : Ms} {a v : Int} (h0 : 0 ≤ a) (h1 : a < M.n) : M.adV a v = (M.f a.toNat + v) % 18446744073709551616 ∧ (M.adS a v).f = upd M.f a.toNat ((M.f a.toNat + v) % 18446744073709551616) := by
  have hi : M.inn a = true := inn_iff.2 ⟨h0, h1⟩
  unfold Ms.adV Ms.adS
  rw [if_pos hi, if_pos hi]
  exact ⟨rfl, rfl⟩
set_option maxHeartbeats 4000000 in
set_option maxRecDepth 100000 in
theorem movesC (c0 : Cf) (a : Int) (a0 : 0 ≤ a) (a1 : a < 256) (w : World) : Calls Try.prog 5 #[.agg #[.int .i64 c0.S, .int .i64 c0.A, .int .i64 c0.C, .int .i64 c0.H, .int .i64 c0.G, .int .i64 c0.K], .int .u8 a] w fun e w' => e = .returned (.bool true) ∧ Below w.heap.size w w' := by
  have hf0 := Lib.hid (Blk.new w 23 #[.int .i64 c0.S, .int .i64 c0.A, .int .i64 c0.C, .int .i64 c0.H, .int .i64 c0.G, .int .i64 c0.K])
  have hT0 := Lib.hid ((Below.refl w.heap.size w).alloc (Nat.le_refl _) (.cells #[.int .i64 c0.S, .int .i64 c0.A, .int .i64 c0.C, .int .i64 c0.H, .int .i64 c0.G, .int .i64 c0.K] 23))
  go_enter Try.func5, Try.ntmps5
  generalize hCFe : w.heap.size = CF at *
  go_upto_region 4 with (first
      | (go_at_call 31; refine (fitC c0 _).mono ?_; rintro e w1 ⟨c, rfl, hs, hb1⟩; have hr := small_right hs; have hf1 := hf0.out.below hb1 hf0.out.lt; obtain ⟨k0, k1, k2, k3, k4, k5⟩ := cfgs hf1; have z0 := hf1.frozen 0; have z1 := hf1.frozen 1; have z2 := hf1.frozen 2; have z3 := hf1.frozen 3; have z4 := hf1.frozen 4; have z5 := hf1.frozen 5; replace hf1 := Lib.hid hf1; replace hT0 := Lib.hid (hT0.out.trans (hb1.mono (by have := hT0.out.size; omega))); clear hb1; replace hr := Lib.hid hr; replace hs := Lib.hid hs)
      | (go_at_call 20; (show Calls _ _ _ (six w1 CF c) _); clear k0 k1 k2 k3 k4 k5 z0 z1 z2 z3 z4 z5; have hf2 := six_blk (c := c) hf1.out; have hT2 := six_below (c := c) hT0.out (b := CF) (by omega); generalize six w1 CF c = w2 at *; refine (memC c _ hr.out).mono ?_; rintro e w3 ⟨m, b, rfl, hM3, hm, hb, hb3⟩; have hf3 := hf2.below hb3 hf2.lt; have lt3 := hf2.lt; replace hT2 := Lib.hid (hT2.trans (hb3.mono (by have := hT2.size; omega))); have hcf := Lib.hid hf3; replace hM3 := Lib.hid hM3; obtain ⟨q0, q1, q2, q3, q4, q5⟩ := cfgs hf3; clear hb3 hf2 hf3)
      | (go_at_call 32; refine (newPinC c _ hr.out 0 (by decide) (by have := hs.out; unfold Cf.small at this; omega)).mono ?_; rintro e w4 ⟨p, rfl, hp, hP, hb'⟩; have lm3 := hM3.out.lm; have lb3 := hM3.out.lb; have lc3 := hcf.out.lt; replace hcf := Lib.hid (hcf.out.below hb' hcf.out.lt); have hM4 := Lib.hid (hM3.out.next hb'); have hT4 := Lib.hid (hT2.out.trans (hb'.mono (by have := hT2.out.size; omega))); have lp := Blk.lt hP; have hA := Lib.hid hP; clear hb' hP q0 q1 q2 q3 q4 q5))
  have ltp := Blk.lt hA.out
  obtain ⟨n, hn⟩ : ∃ n : Nat, (n : Int) = c.size := ⟨c.size.toNat, by have := size_bd hr.out; unfold Cf.size; omega⟩
  have hS := S_bd hr.out
  have hf := Lib.hid (fine_of (n := n) (memF_U c.A c.C c.H (c.S - 1).toNat (by omega)))
  have hM9 : MemB w3 m b (Ms.of n (memF c.A c.C c.H (c.S - 1).toNat)) := by
    have := hM3.out
    rw [← hn, Int.toNat_natCast] at this
    exact this
  have hM := hM4
  have ltm := hM.out.lm
  have ltb := hM.out.lb
  have mCF : CF < m := by omega
  have bCF : CF < b := by omega
  have hn8 := size_bd hr.out
  have hn8' : 9 ≤ n ∧ n ≤ 800 := by unfold Cf.size at hn; omega
  have hF1 : memF c.A c.C c.H (c.S - 1).toNat 1 = 0 := memF1 _ _ _ _ (by omega)
  replace hF1 := Lib.hid hF1
  replace hn := Lib.hid hn
  clear hM9 hT0 hf1 hf0 hS hn8
  have npm : p ≠ m := by omega
  have npb : p ≠ b := by omega
  have npc : p ≠ CF := by omega
  have hT := hT4
  have hM : MemB w4 m b (Ms.of n (memF c.A c.C c.H (c.S - 1).toNat)) := by
    have := hM4.out
    rw [← hn.out, Int.toNat_natCast] at this
    exact this
  replace hM := Lib.hid hM
  have hE : Hid ((Ms.of n (memF c.A c.C c.H (c.S - 1).toNat)).f 1 = 0) := hF1
  have hc1 := hs.out
  unfold Cf.small at hc1
  have hcC : (0 : Int) ≤ 0 ∧ (0 : Int) < c.C := by omega
  replace hcC := Lib.hid hcC
  obtain ⟨N, hN⟩ : ∃ N : Nat, (N : Int) = a % 7 := ⟨(a % 7).toNat, by omega⟩
  have hN7 : N < 7 := by omega
  have e1 : a.tmod 7 = (N : Int) := by rw [Int.tmod_eq_emod_of_nonneg a0, hN]
  have e2 : IntKind.u8.wrap (N : Int) = N := by rw [IntKind.wrap_u8]; omega
  have e3 : IntKind.i64.wrap (N : Int) = N := IntWalk.i64_in _ (by omega)
  have e4 : IntKind.u64.wrap (N : Int) = N := Core.wrap_u64_id _ (by omega) (by omega)
  clear hM4 hT4 hM3 hT2 hF1 hc1
  replace hN := Lib.hid hN
  go_wp2_with (first
      | (go_at_call 33; refine (pnA hr.out hM.out hf.out hn.out (by omega) (not_two (by omega) (by omega))  hA.out).mono ?_; rintro e v1 ⟨rfl, M', hP', hM', ef', et', hf', hF'⟩; have hE' := (show M'.f 1 = 0 by rw [ef']; exact hE.out); replace hcf := Lib.hid (Blk.fr hcf.out hF' (not_three (by omega) (by omega) (by omega))); have hTT := below_three hT.out hF' (by have := hT.out.size; omega) (by omega) (by omega) (by omega); replace hT := Lib.hid hTT; have zz1 := hF'.size; clear hTT hF'; rw [hE.out] at hP'; replace hA := Lib.hid hP'; replace hM := Lib.hid hM'; replace hf := Lib.hid hf'; replace hE := Lib.hid hE'; clear hP' hM' hf' ef' et' hE'))
  have lt7 := hT.out.size
  go_loopw [7] (fun z wr => ∃ (i : Nat) (M : Ms), i ≤ N ∧ z = .int .i64 (i : Int) ∧ PinB wr p (i : Int) 4 1 ∧ MemB wr m b M ∧ M.f 1 = (i : Int) ∧ Fine M n (1 + 3 * i) ∧ Blk wr CF 23 #[.int .i64 c.S, .int .i64 c.A, .int .i64 c.C, .int .i64 c.H, .int .i64 c.G, .int .i64 c.K] ∧ Below CF w wr) (fun z _ => N - (intOf z).toNat)
  case atStart => exact ⟨0, _, Nat.zero_le _, rfl, hA.out, hM.out, hE.out, hf.out.mono (by omega), hcf.out, hT.out⟩
  case round =>
    obtain ⟨i, M, hi, rfl, c1, c2, c3, c4, c5, c6⟩ := hrel
    have hA := Lib.hid c1
    have hM := Lib.hid c2
    have hE := Lib.hid c3
    have hf := Lib.hid c4
    have hcf := Lib.hid c5
    have hT := Lib.hid c6
    have ok := Lib.hid (c4.ok (by omega) (by omega))
    clear c1 c2 c3 c4 c5 c6
    by_cases hlt : i < N
    · have hlt' : (i : Int) < (N : Int) := by omega
      have e5 : IntKind.u64.wrap (i : Int) = i := Core.wrap_u64_id _ (by omega) (by omega)
      have e6 : IntKind.u64.wrap ((i : Int) + 1) = (i : Int) + 1 := Core.wrap_u64_id _ (by omega) (by omega)
      have i0 : (0 : Int) ≤ 1 ∧ (1 : Int) < M.n := by rw [hf.out.n]; omega
      obtain ⟨v1, v2⟩ := ad_f (M := M) (a := 1) (v := 1) i0.1 i0.2
      have v3 : (M.f (Int.toNat 1) + 1) % 18446744073709551616 = (i : Int) + 1 := by
        rw [show Int.toNat 1 = 1 from rfl, hE.out]; omega
      rw [v3] at v1 v2
      have hE1 : (M.adS 1 1).f 1 = (i : Int) + 1 := by rw [v2]; exact upd_eq
      have e7 : ((i : Int) + 1 != (i : Int) + 1) = false := by simp
      clear v2 v3 i0
      replace v1 := Lib.hid v1
      have k1 : True := trivial
      have k2 : True := trivial
      go_wp2_with (first
      | (go_at_call 34; refine (add_c _ m b M 1 hM.out ok.out 1 (by decide) (by decide)).mono ?_; rintro e u1 ⟨rfl, hM', hF'⟩; rw [v1.out]; replace hA := Lib.hid (Blk.fr hA.out hF' (not_two npm npb)); replace hcf := Lib.hid (hcf.out.fr hF' (not_two (by omega) (by omega))); replace hf := Lib.hid (hf.out.ad 1 1); replace hT := Lib.hid (hT.out.trans (hF'.below (n := CF) (fun k hk => ⟨by have := hT.out.size; omega, not_two (by omega) (by omega)⟩))); have zz0 := hF'.size; replace hM := Lib.hid hM'; replace hE := Lib.hid hE1; clear hM' hF')
      | (go_at_call 33; have _t := k1; refine (pnB hr.out hM.out hf.out hn.out (by omega) (not_two (by omega) (by omega)) (k := 0) hcC.out hA.out).mono ?_; rintro e v1 ⟨rfl, M', hP', hM', ef', et', hf', hF'⟩; have hE' := (show M'.f 1 = (i : Int) + 1 by rw [ef', upd_ne (by decide)]; exact hE.out); replace hcf := Lib.hid (Blk.fr hcf.out hF' (not_three (by omega) (by omega) (by omega))); have hTT := below_three hT.out hF' (by have := hT.out.size; omega) (by omega) (by omega) (by omega); replace hT := Lib.hid hTT; have zz1 := hF'.size; clear hTT hF'; replace hA := Lib.hid hP'; replace hM := Lib.hid hM'; replace hf := Lib.hid hf'; replace hE := Lib.hid hE'; clear hP' hM' hf' ef' et' hE'; clear k1 _t)
      | (go_at_call 33; refine (pnC' hr.out hM.out hf.out hn.out (by omega) (not_two (by omega) (by omega)) (by rw [hE.out]; omega) hA.out).mono ?_; rintro e v2 ⟨rfl, M', hP', hM', ef', et', hf', hF'⟩; have hE' := (show M'.f 1 = (i : Int) + 1 by rw [ef']; exact hE.out); replace hcf := Lib.hid (Blk.fr hcf.out hF' (not_three (by omega) (by omega) (by omega))); have hTT := below_three hT.out hF' (by have := hT.out.size; omega) (by omega) (by omega) (by omega); replace hT := Lib.hid hTT; have zz2 := hF'.size; clear hTT hF'; rw [hE.out] at hP'; replace hA := Lib.hid hP'; replace hM := Lib.hid hM'; replace hf := Lib.hid hf'; replace hE := Lib.hid hE'; clear hP' hM' hf' ef' et' hE'))
      go_roundw
      case rel => exact ⟨i + 1, _, by omega, by go_num, hA.out, hM.out, hE.out, hf.out.mono (by omega), hcf.out, hT.out⟩
      case measure => simp [intOf]; omega
    · have hge : i = N := by omega
      subst hge
      have e8 : IntKind.u64.wrap (2 * (i : Int)) = 2 * i := Core.wrap_u64_id _ (by omega) (by omega)
      have e9 : IntKind.u64.wrap (2 * (i : Int) + 1) = 2 * (i : Int) + 1 := Core.wrap_u64_id _ (by omega) (by omega)
      have hpv := pinV_small (e := (i : Int)) (by omega) (by omega)
      have hpa : Cf.pin c 0 = 4 := (pin_lt hr.out hcC.out.1 hcC.out.2).1
      have h10 : (1 : Nat) ≠ (4 + (0 : Int)).toNat := by decide
      replace hpa := Lib.hid hpa
      replace hpv := Lib.hid hpv
      have k1 : True := trivial
      go_wp2_with (first
      | (go_at_call 33; have _t := k1; refine (pnB hr.out hM.out hf.out hn.out (by omega) (not_two (by omega) (by omega)) (k := 0) hcC.out hA.out).mono ?_; rintro e v1 ⟨rfl, M', hP', hM', ef', et', hf', hF'⟩; have hE' := (show M'.f 1 = (i : Int) ∧ M'.f 4 = pinV (i : Int) by rw [ef']; exact ⟨(upd_ne (by decide)).trans hE.out, upd_eq⟩); replace hcf := Lib.hid (Blk.fr hcf.out hF' (not_three (by omega) (by omega) (by omega))); have hTT := below_three hT.out hF' (by have := hT.out.size; omega) (by omega) (by omega) (by omega); replace hT := Lib.hid hTT; have zz1 := hF'.size; clear hTT hF'; replace hA := Lib.hid hP'; replace hM := Lib.hid hM'; replace hf := Lib.hid hf'; replace hE := Lib.hid hE'; clear hP' hM' hf' ef' et' hE'; clear k1 _t)
      | (go_at_call 33; refine (pnC hr.out hM.out hf.out hn.out (by omega) (not_two (by omega) (by omega)) hE.out.1 hA.out).mono ?_; rintro e v2 ⟨rfl, M', hP', hM', ef', et', hf', hF'⟩; have hE' := (show M'.f 1 = (i : Int) ∧ M'.f 4 = pinV (i : Int) by rw [ef']; exact hE.out); replace hcf := Lib.hid (Blk.fr hcf.out hF' (not_three (by omega) (by omega) (by omega))); have hTT := below_three hT.out hF' (by have := hT.out.size; omega) (by omega) (by omega) (by omega); replace hT := Lib.hid hTT; have zz2 := hF'.size; clear hTT hF'; have j0 := Blk.cell hP' (i := 0) (v := .int .u64 (i : Int)) rfl; obtain ⟨g0, g1, g2, g3, g4, g5⟩ := cfgs hcf.out; have hnn := Lib.hid hf'.n; have ok2 := Lib.hid (hf'.ok (by omega) (by omega)); replace hA := Lib.hid hP'; replace hM := Lib.hid hM'; replace hf := Lib.hid hf'; replace hE := Lib.hid hE'; clear hP' hM' hf' ef' et' hE')
      | (go_at_call 36; refine (pinAtC c _ 0).mono ?_; rintro e w8 ⟨rfl, hb8⟩; rw [hpa.out]; replace hM := Lib.hid (hM.out.next hb8); replace hT := Lib.hid (hT.out.trans (hb8.mono (by have := hT.out.size; omega))); have hz8 := hb8.size; clear hb8)
      | (go_at_call 35; refine (load_c _ m b _ 4 hM.out ok2.out).mono ?_; rintro e w9 ⟨rfl, _, hF9⟩; rw [ld_v (by decide) (by rw [hnn.out]; omega), show (4 : Int).toNat = 4 from rfl, hE.out.2, hpv.out]; have hTT := hT.out.trans (hF9.below (n := CF) (fun k hk => ⟨by have := hT.out.size; omega, fun x => x.elim (fun e => by omega) (fun e => by omega)⟩)); replace hT := Lib.hid hTT; clear hTT hF9)
      | (go_at_call 37; refine (awake8C _).mono ?_; rintro e w10 ⟨rfl, hb10⟩; replace hT := Lib.hid (hT.out.trans (hb10.mono (by have := hT.out.size; omega))); clear hb10))
      go_ret
      exact ⟨rfl, hCFe ▸ hT.out⟩
end Go.Proofs.Ytijfkpoofpcacaa.EpochM
