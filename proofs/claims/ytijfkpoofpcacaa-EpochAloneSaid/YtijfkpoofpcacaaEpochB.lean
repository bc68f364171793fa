/-
  The law EpochAlone's walk; condition: the arguments as they are read.
-/
import Derived.Test.YtijfkpoofpcacaaEpochI
set_option linter.unusedVariables false
set_option linter.unusedSimpArgs false
namespace Go.Proofs.Ytijfkpoofpcacaa.EpochB
open Go.RowKit Go.Proofs.YtijfkpoofpcacaaW.PrintWords Go.Proofs.Ytijfkpoofpcacaa.Blk Go.Proofs.Ytijfkpoofpcacaa.Core Go.Proofs.Ytijfkpoofpcacaa.MemC Go.Proofs.Ytijfkpoofpcacaa.MemD Go.Proofs.Ytijfkpoofpcacaa.MemT Go.Proofs.Ytijfkpoofpcacaa.Memory Go.Proofs.Ytijfkpoofpcacaa.PlanC Go.Proofs.Ytijfkpoofpcacaa.PlanD Go.Proofs.Ytijfkpoofpcacaa.StackC Go.Proofs.Ytijfkpoofpcacaa.StackF Go.Proofs.Ytijfkpoofpcacaa.StackP Go.Proofs.Ytijfkpoofpcacaa.StackG Go.Proofs.Ytijfkpoofpcacaa.EpochC Go.Proofs.Ytijfkpoofpcacaa.EpochS Go.Proofs.Ytijfkpoofpcacaa.EpochA Go.Proofs.Ytijfkpoofpcacaa.EpochM Go.Proofs.Ytijfkpoofpcacaa.EpochD Go.Proofs.Ytijfkpoofpcacaa.EpochI
/-- Nobody is pinned. -/
def Idle (c : Cf) (f : Nat → Int) : Prop := ∀ j : Nat, (j : Int) < c.C → f (4 + j) = 0
theorem idle0 {c : Cf} (hr : c.right = true) : Idle c (memF c.A c.C c.H (c.S - 1).toNat) := by
  intro j hj
  have h := pin_lt hr (who := (j : Int)) (by omega) hj
  have hb := size_bd hr
  refine memF_lo _ _ _ _ _ (by omega) ?_
  unfold slotsV
  have hr' := right_iff.1 hr
  have := Int.mul_nonneg (show 0 ≤ c.C by omega) (show 0 ≤ c.H + 2 by omega)
  have e : c.C * (1 + c.H + 2) = c.C + c.C * (c.H + 2) := by rw [show 1 + c.H + 2 = 1 + (c.H + 2) by omega, Int.mul_add, Int.mul_one]
  omega
theorem Idle.ready {c : Cf} {f : Nat → Int} (h : Idle c f) (e : Int) : Ready c f e := fun j hj => .inl (h j hj)
theorem Idle.top {c : Cf} {f : Nat → Int} (h : Idle c f) (v : Int) : Idle c (upd f 1 v) := fun j hj => by rw [upd_ne (by omega)]; exact h j hj
/-- Nobody but client k is pinned, that one in e. -/
def Only (c : Cf) (k : Nat) (f : Nat → Int) (e : Int) : Prop := ∀ j : Nat, (j : Int) < c.C → f (4 + j) = if j = k then pinV e else 0
theorem Idle.pin {c : Cf} {f : Nat → Int} (h : Idle c f) {k : Nat} (e : Int) : Only c k (upd f (4 + (k : Int)).toNat (pinV e)) e := by
  intro j hj
  unfold upd
  by_cases q : j = k
  · rw [if_pos (by omega), if_pos q]
  · rw [if_neg (by omega), if_neg q]; exact h j hj
theorem Only.ready {c : Cf} {k : Nat} {f : Nat → Int} {e : Int} (h : Only c k f e) : Ready c f e := by
  intro j hj
  have := h j hj
  by_cases q : j = k
  · rw [if_pos q] at this; exact .inr this
  · rw [if_neg q] at this; exact .inl this
theorem Only.top {c : Cf} {k : Nat} {f : Nat → Int} {e : Int} (h : Only c k f e) (v : Int) : Only c k (upd f 1 v) e := fun j hj => by rw [upd_ne (by omega)]; exact h j hj
theorem Only.lo {c : Cf} {k : Nat} {f : Nat → Int} {e : Int} (h : Only c k f e) (hk : (k : Int) < c.C) (e' : Int) : ∀ j : Nat, j < k → f (4 + j) = 0 ∨ f (4 + j) = pinV e' := by
  intro j hj
  have := h j (by omega)
  rw [if_neg (by omega)] at this; exact .inl this
theorem Only.stop {c : Cf} {k : Nat} {f : Nat → Int} {e : Int} (h : Only c k f e) (hk : (k : Int) < c.C) (h0 : 0 ≤ e) (h1 : e < 100) : ¬ (f (4 + k) = 0 ∨ f (4 + k) = pinV (e + 1)) := by
  have := h k hk
  rw [if_pos rfl] at this
  rw [this]; unfold pinV; omega
theorem Only.leave {c : Cf} {k : Nat} {f : Nat → Int} {e : Int} (h : Only c k f e) : Idle c (upd f (4 + (k : Int)).toNat 0) := by
  intro j hj
  unfold upd
  by_cases q : j = k
  · rw [if_pos (by omega)]
  · rw [if_neg (by omega), h j hj, if_neg q]
set_option maxHeartbeats 4000000 in
set_option maxRecDepth 100000 in
theorem aloneC (c0 : Cf) (a z : Int) (a0 : 0 ≤ a) (a1 : a < 256) (z0 : 0 ≤ z) (z1 : z < 256) (w : World) : Calls Try.prog 7 #[.agg #[.int .i64 c0.S, .int .i64 c0.A, .int .i64 c0.C, .int .i64 c0.H, .int .i64 c0.G, .int .i64 c0.K], .int .u8 a, .int .u8 z] w fun e w' => e = .returned (.bool true) ∧ Below w.heap.size w w' := by
  have hf0 := Lib.hid (Blk.new w 23 #[.int .i64 c0.S, .int .i64 c0.A, .int .i64 c0.C, .int .i64 c0.H, .int .i64 c0.G, .int .i64 c0.K])
  have hT0 := Lib.hid ((Below.refl w.heap.size w).alloc (Nat.le_refl _) (.cells #[.int .i64 c0.S, .int .i64 c0.A, .int .i64 c0.C, .int .i64 c0.H, .int .i64 c0.G, .int .i64 c0.K] 23))
  go_enter Try.func7, Try.ntmps7
  generalize hCFe : w.heap.size = CF at *
  go_upto_region 3 with (first
      | (go_at_call 31; refine (fitC c0 _).mono ?_; rintro e w1 ⟨c, rfl, hs, hb1⟩; have hr := small_right hs; have hf1 := hf0.out.below hb1 hf0.out.lt; obtain ⟨k0, k1, k2, k3, k4, k5⟩ := cfgs hf1; have z0 := hf1.frozen 0; have z1 := hf1.frozen 1; have z2 := hf1.frozen 2; have z3 := hf1.frozen 3; have z4 := hf1.frozen 4; have z5 := hf1.frozen 5; replace hf1 := Lib.hid hf1; replace hT0 := Lib.hid (hT0.out.trans (hb1.mono (by have := hT0.out.size; omega))); clear hb1; replace hr := Lib.hid hr; replace hs := Lib.hid hs)
      | (go_at_call 20; (show Calls _ _ _ (six w1 CF c) _); clear k0 k1 k2 k3 k4 k5 z0 z1 z2 z3 z4 z5; have hf2 := six_blk (c := c) hf1.out; have hT2 := six_below (c := c) hT0.out (b := CF) (by omega); generalize six w1 CF c = w2 at *; refine (memC c _ hr.out).mono ?_; rintro e w3 ⟨m, b, rfl, hM3, hm, hb, hb3⟩; have hf3 := hf2.below hb3 hf2.lt; have lt3 := hf2.lt; replace hT2 := Lib.hid (hT2.trans (hb3.mono (by have := hT2.size; omega))); have hcf := Lib.hid hf3; replace hM3 := Lib.hid hM3; obtain ⟨q0, q1, q2, q3, q4, q5⟩ := cfgs hf3; clear hb3 hf2 hf3))
  obtain ⟨n, hn⟩ : ∃ n : Nat, (n : Int) = c.size := ⟨c.size.toNat, by have := size_bd hr.out; unfold Cf.size; omega⟩
  have hS := S_bd hr.out
  have hf := Lib.hid (fine_of (n := n) (memF_U c.A c.C c.H (c.S - 1).toNat (by omega)))
  have hM : MemB w3 m b (Ms.of n (memF c.A c.C c.H (c.S - 1).toNat)) := by
    have := hM3.out
    rw [← hn, Int.toNat_natCast] at this
    exact this
  replace hM := Lib.hid hM
  have hT := hT2
  have ltm := hM.out.lm
  have ltb := hM.out.lb
  have mCF : CF < m := by omega
  have bCF : CF < b := by omega
  have hn8 := size_bd hr.out
  have hn8' : 9 ≤ n ∧ n ≤ 800 := by unfold Cf.size at hn; omega
  have hF1 : memF c.A c.C c.H (c.S - 1).toNat 1 = 0 := memF1 _ _ _ _ (by omega)
  replace hF1 := Lib.hid hF1
  replace hn := Lib.hid hn
  clear hM3 hT0 hf1 hf0 hT2 hS hn8
  have hc1 := hs.out
  unfold Cf.small at hc1
  obtain ⟨C, hC⟩ := Int.eq_ofNat_of_zero_le (show 0 ≤ c.C by omega)
  obtain ⟨k, hk⟩ := Int.eq_ofNat_of_zero_le (Int.emod_nonneg a (show c.C ≠ 0 by omega))
  have hkC := Int.emod_lt_of_pos a (show 0 < c.C by omega)
  rw [hk] at hkC
  have e1 : a.tmod c.C = (k : Int) := by rw [Int.tmod_eq_emod_of_nonneg a0, hk]
  have e2 : IntKind.i64.wrap a = a := IntWalk.i64_in _ (by omega)
  have e3 : IntKind.i64.wrap (k : Int) = k := IntWalk.i64_in _ (by omega)
  obtain ⟨N, hN⟩ : ∃ N : Nat, (N : Int) = z % 9 := ⟨(z % 9).toNat, by omega⟩
  have hN9 : N < 9 := by omega
  have e4 : z.tmod 9 = (N : Int) := by rw [Int.tmod_eq_emod_of_nonneg z0, hN]
  have e5 : IntKind.u8.wrap (N : Int) = N := by rw [IntKind.wrap_u8]; omega
  have e6 : IntKind.i64.wrap (N : Int) = N := IntWalk.i64_in _ (by omega)
  have e7 : IntKind.u64.wrap (N : Int) = N := Core.wrap_u64_id _ (by omega) (by omega)
  have hC0 : ¬ c.C = 0 := by omega
  have hCa : 1 ≤ c.C := by omega
  have hCb : c.C ≤ 4 := by omega
  have hk' : (0 : Int) ≤ k ∧ (k : Int) < c.C := ⟨by omega, hkC⟩
  clear hk hc1
  have hk := Lib.hid hk'
  clear hk' hkC
  replace hC := Lib.hid hC
  replace hN := Lib.hid hN
  go_wp2
  have hE : Hid ((Ms.of n (memF c.A c.C c.H (c.S - 1).toNat)).f 1 = ((0 : Nat) : Int) ∧ Idle c (Ms.of n (memF c.A c.C c.H (c.S - 1).toNat)).f) := Lib.hid ⟨hF1.out, idle0 hr.out⟩
  go_loopw [9] (fun y wr => ∃ (i : Nat) (M : Ms), i ≤ N ∧ y = .int .i64 (i : Int) ∧ MemB wr m b M ∧ (M.f 1 = (i : Int) ∧ Idle c M.f) ∧ M.t = (i : Int) * (c.C + 2) ∧ Fine M n (6 * i) ∧ Blk wr CF 23 #[.int .i64 c.S, .int .i64 c.A, .int .i64 c.C, .int .i64 c.H, .int .i64 c.G, .int .i64 c.K] ∧ Below CF w wr ∧ w3.heap.size ≤ wr.heap.size) (fun y _ => N - (intOf y).toNat)
  case atStart => exact ⟨0, _, Nat.zero_le _, rfl, hM.out, hE.out, by simp [Ms.of], hf.out, hcf.out, hT.out, by omega⟩
  case round =>
    obtain ⟨i, M, hi, rfl, c1, c2, c3, c4, c5, c6, c7⟩ := hrel
    clear hM hE hf hcf hT
    have hM := Lib.hid c1
    have hE := Lib.hid c2
    have hTt := Lib.hid c3
    have hf := Lib.hid c4
    have hcf := Lib.hid c5
    have hT := Lib.hid c6
    obtain ⟨q0, q1, q2, q3, q4, q5⟩ := cfgs c5
    clear c1 c2 c3 c4 c5 c6
    by_cases hlt : i < N
    · have hlt' : (i : Int) < (N : Int) := by omega
      go_upto_region 10 with (go_at_call 39; refine (newAdvC c _ hr.out).mono ?_; rintro e w5 ⟨pb, rfl, hp, hB0, hb3⟩; have hBB : AdvI w5 pb c (i : Int) 0 := advI_new hB0; have lmm := hM.out.lm; have lbb := hM.out.lb; have lcc := hcf.out.lt; replace hcf := Lib.hid (hcf.out.below hb3 hcf.out.lt); replace hM := Lib.hid (hM.out.next hb3); replace hT := Lib.hid (hT.out.trans (hb3.mono (by have := hT.out.size; omega))); have z5 := hb3.size; have lB := Blk.lt hB0; have hB := Lib.hid hBB; clear hb3 hB0 hBB)
      have npm : pb ≠ m := by omega
      have npb : pb ≠ b := by omega
      have npc : pb ≠ CF := by omega
      obtain ⟨r0, r1, r2, r3, r4, r5⟩ := cfgs hcf.out
      clear q0 q1 q2 q3 q4 q5
      go_wp2
      go_loopw [11] (fun y wr => ∃ (j : Nat) (M : Ms), (j : Int) ≤ c.C + 1 ∧ y = .int .i64 (j : Int) ∧ AdvI wr pb c (i : Int) j ∧ MemB wr m b M ∧ (M.f 1 = (i : Int) ∧ Idle c M.f) ∧ M.t = (i : Int) * (c.C + 2) + j ∧ Fine M n (6 * i + j) ∧ Blk wr CF 23 #[.int .i64 c.S, .int .i64 c.A, .int .i64 c.C, .int .i64 c.H, .int .i64 c.G, .int .i64 c.K] ∧ Below CF w wr ∧ w5.heap.size ≤ wr.heap.size) (fun y _ => (c.C + 1).toNat - (intOf y).toNat)
      case atStart => exact ⟨0, _, by omega, rfl, hB.out, hM.out, hE.out, by rw [hTt.out]; simp, hf.out, hcf.out, hT.out, by omega⟩
      case round =>
        obtain ⟨j, M2, hj, rfl, c0', c1, c2, c3, c4, c5, c6, c8⟩ := hrel
        clear hM hE hTt hf hcf hT hB
        have hB := Lib.hid c0'
        have hM := Lib.hid c1
        have hE := Lib.hid c2
        have hTt := Lib.hid c3
        have hf := Lib.hid c4
        have hcf := Lib.hid c5
        have hT := Lib.hid c6
        obtain ⟨q0, q1, q2, q3, q4, q5⟩ := cfgs c5
        clear c0' c1 c2 c3 c4 c5 c6
        by_cases hjl : (j : Int) < c.C + 1
        · go_wp2_with (first
      | (go_at_call 41; refine (adI hr.out hM.out hf.out hn.out (by omega) (not_two (by omega) (by omega)) ⟨hE.out.1, hE.out.2.ready _⟩ (by omega) hB.out).mono ?_; rintro e v1 ⟨rfl, M', hP', hM', ef', et', hf', hF'⟩; have hE' := (show M'.f 1 = (i : Int) ∧ Idle c M'.f by rw [ef']; exact hE.out); replace hcf := Lib.hid (Blk.fr hcf.out hF' (not_three (by omega) (by omega) (by omega))); have hTT := below_three hT.out hF' (by have := hT.out.size; omega) (by omega) (by omega) (by omega); replace hT := Lib.hid hTT; have zz1 := hF'.size; clear hTT hF'; have htt := et'.trans (congrArg (· + 1) hTt.out); replace hTt := Lib.hid htt; clear htt; replace hB := Lib.hid hP'; replace hM := Lib.hid hM'; replace hf := Lib.hid hf'; replace hE := Lib.hid hE'; clear hP' hM' hf' ef' et' hE'))
          go_roundw
          case rel =>
            have hx := hTt.out
            exact ⟨j + 1, _, by omega, by go_num, hB.out, hM.out, hE.out, by rw [hx]; omega, hf.out.mono (by omega), hcf.out, hT.out, by omega⟩
          case measure => simp [intOf]; omega
        · have hjC : (j : Int) = c.C + 1 := by omega
          have hw1 : ((i : Int) + 1) % 18446744073709551616 = (i : Int) + 1 := by omega
          have e8 : IntKind.u64.wrap (i : Int) = i := Core.wrap_u64_id _ (by omega) (by omega)
          have e9 : IntKind.u64.wrap ((i : Int) + 1) = (i : Int) + 1 := Core.wrap_u64_id _ (by omega) (by omega)
          have e10 : IntKind.i64.wrap ((i : Int) + 1) = (i : Int) + 1 := IntWalk.i64_in _ (by omega)
          have e11 : IntKind.i64.wrap (c.C + 2) = c.C + 2 := IntWalk.i64_in _ (by omega)
          have hmul := mul_le2 (a := (i : Int) + 1) (b := c.C + 2) (m := 9) (n := 6) (by omega) (by omega) (by omega) (by omega)
          have e12 : IntKind.i64.wrap (((i : Int) + 1) * (c.C + 2)) = ((i : Int) + 1) * (c.C + 2) := IntWalk.i64_in _ (by omega)
          have e13 : ((i : Int) * (c.C + 2) + j + 1 != ((i : Int) + 1) * (c.C + 2)) = false := by
            have : ((i : Int) + 1) * (c.C + 2) = (i : Int) * (c.C + 2) + (c.C + 2) := by rw [Int.add_mul]; omega
            rw [this]; simp; omega
          have e13c : (((i + 1 : Nat) : Int)) * (c.C + 2) = (i : Int) * (c.C + 2) + (c.C + 2) := by rw [show ((i + 1 : Nat) : Int) = (i : Int) + 1 from by omega, Int.add_mul]; omega
          have e14 : ((i : Int) + 1 != (i : Int) + 1) = false := by simp
          clear hmul
          have hX : wr.drew.cell? ⟨CF, 0, none⟩ = some (.int .i64 c.S) ∧ wr.drew.cell? ⟨CF, 1, none⟩ = some (.int .i64 c.A) ∧ wr.drew.cell? ⟨CF, 2, none⟩ = some (.int .i64 c.C) ∧ wr.drew.cell? ⟨CF, 3, none⟩ = some (.int .i64 c.H) ∧ wr.drew.cell? ⟨CF, 4, none⟩ = some (.int .i64 c.G) ∧ wr.drew.cell? ⟨CF, 5, none⟩ = some (.int .i64 c.K) := cfgs (hcf.out.drew)
          replace hjC := Lib.hid hjC
          replace hw1 := Lib.hid hw1
          replace hB := Lib.hid (hB.out.fr (Fr.drew (fun _ => False) wr) id)
          replace hM := Lib.hid hM.out.drew
          replace hcf := Lib.hid hcf.out.drew
          replace hT := Lib.hid hT.out.drew
          have c8' : w5.heap.size ≤ wr.drew.heap.size := c8
          go_wp2
          refine wp_region_held_drew (S := fun w' => w'.cell? ⟨CF, 0, none⟩ = some (.int .i64 c.S) ∧ w'.cell? ⟨CF, 1, none⟩ = some (.int .i64 c.A) ∧ w'.cell? ⟨CF, 2, none⟩ = some (.int .i64 c.C) ∧ w'.cell? ⟨CF, 3, none⟩ = some (.int .i64 c.H) ∧ w'.cell? ⟨CF, 4, none⟩ = some (.int .i64 c.G) ∧ w'.cell? ⟨CF, 5, none⟩ = some (.int .i64 c.K)) (by kernel_rfl) hX (fun hHeld => ?_)
          refine wpAnyH_take (i := 0) (oi := { dst := some 50, op := Op.move (Operand.tmp 10), type := 49, pos := "law.go:128", after := #[], guard := none }) (v := ?va0) rfl (by kernel_rfl) (by kernel_rfl) (by kernel_rfl) (fun _ _ _ h => h) (Or.inl ⟨by rfl, ?hya0⟩) (by assumption) ?rsa0
          case hya0 => (intro w hSw; first | (go_simp; done) | (go_simp; with_reducible rfl) | ((try dsimp only at hSw); go_split_ands; go_simp; done) | ((try dsimp only at hSw); go_split_ands; go_simp; with_reducible rfl))
          case' rsa0 => (try simp only [Act.put, List.setIfInBounds_toArray, List.set_cons_zero, List.set_cons_succ])
          refine wpAnyH_take (i := 1) (oi := { dst := some 51, op := Op.move (Operand.tmp 7), type := 24, pos := "law.go:128", after := #[], guard := none }) (v := ?va1) rfl (by kernel_rfl) (by kernel_rfl) (by kernel_rfl) (fun _ _ _ h => h) (Or.inl ⟨by rfl, ?hya1⟩) (by assumption) ?rsa1
          case hya1 => (intro w hSw; first | (go_simp; done) | (go_simp; with_reducible rfl) | ((try dsimp only at hSw); go_split_ands; go_simp; done) | ((try dsimp only at hSw); go_split_ands; go_simp; with_reducible rfl))
          case' rsa1 => (try simp only [Act.put, List.setIfInBounds_toArray, List.set_cons_zero, List.set_cons_succ])
          refine wpAnyH_ready (rs := [2]) (by kernel_rfl) (by simp) ?_
          refine AllReadyH.cons (o := { dst := some 52, op := Op.call { callee := Callee.value (Operand.func 41), args := #[Operand.tmp 50, Operand.tmp 51], argTypes := #[49, 24] }, type := 4, pos := "law.go:128", after := #[{ on := 0, ground := Ground.data }, { on := 1, ground := Ground.data }], guard := none }) rfl (fun K hK => ?_) AllReadyH.nil
          go_simp
          (go_at_call 41; refine (adF hr.out hM.out hf.out hn.out (by omega) (not_two (by omega) (by omega)) hE.out.1 hjC.out hB.out).mono ?_; rintro e v1 ⟨rfl, M', hP', hM', ef', et', hf', hF'⟩; have hE' := (show M'.f 1 = (i : Int) + 1 ∧ Idle c M'.f by rw [ef', hw1.out]; exact ⟨upd_eq, hE.out.2.top _⟩); replace hcf := Lib.hid (Blk.fr hcf.out hF' (not_three (by omega) (by omega) (by omega))); have hTT := below_three hT.out hF' (by have := hT.out.size; omega) (by omega) (by omega) (by omega); replace hT := Lib.hid hTT; have zz1 := hF'.size; clear hTT hF'; rw [hw1.out] at hP'; have j0 := Blk.cell hP' (i := 0) (v := .int .u64 ((i : Int) + 1)) rfl; have htt := et'.trans (congrArg (· + 1) hTt.out); replace hTt := Lib.hid htt; clear htt; have hX2 := cfgs hcf.out; replace hB := Lib.hid hP'; replace hM := Lib.hid hM'; replace hf := Lib.hid hf'; replace hE := Lib.hid hE'; clear hP' hM' hf' ef' et' hE')
          refine hK.out _ _ (by assumption) (fun hHeld => ?_)
          clear hK K
          try simp only [Act.put, List.setIfInBounds_toArray, List.set_cons_zero, List.set_cons_succ]
          refine wpAnyH_take (i := 3) (oi := { dst := some 53, op := Op.unOp UnOp.not 4 (Operand.tmp 52), type := 4, pos := "law.go:128", after := #[{ on := 2, ground := Ground.data }], guard := none }) (v := ?va3) rfl (by kernel_rfl) (by kernel_rfl) (by kernel_rfl) (fun _ _ _ h => h) (Or.inl ⟨by rfl, ?hya3⟩) (by assumption) ?rsa3
          case hya3 => (intro w hSw; first | (go_simp; done) | (go_simp; with_reducible rfl) | ((try dsimp only at hSw); go_split_ands; go_simp; done) | ((try dsimp only at hSw); go_split_ands; go_simp; with_reducible rfl))
          case' rsa3 => (try simp only [Act.put, List.setIfInBounds_toArray, List.set_cons_zero, List.set_cons_succ])
          refine wpAnyH_take (i := 4) (oi := { dst := some 54, op := Op.move (Operand.tmp 53), type := 4, pos := "law.go:128", after := #[{ on := 3, ground := Ground.data }, { on := 2, ground := Ground.chain }], guard := none }) (v := ?va4) rfl (by kernel_rfl) (by kernel_rfl) (by kernel_rfl) (fun _ _ _ h => h) (Or.inl ⟨by rfl, ?hya4⟩) (by assumption) ?rsa4
          case hya4 => (intro w hSw; first | (go_simp; done) | (go_simp; with_reducible rfl) | ((try dsimp only at hSw); go_split_ands; go_simp; done) | ((try dsimp only at hSw); go_split_ands; go_simp; with_reducible rfl))
          case' rsa4 => (try simp only [Act.put, List.setIfInBounds_toArray, List.set_cons_zero, List.set_cons_succ])
          refine wpAnyH_take (i := 5) (oi := { dst := some 55, op := Op.move (Operand.tmp 10), type := 49, pos := "law.go:128", after := #[{ on := 4, ground := Ground.guard }], guard := some (4, false) }) (v := ?va5) rfl (by kernel_rfl) (by kernel_rfl) (by kernel_rfl) (fun _ _ _ h => h) (Or.inl ⟨by rfl, ?hya5⟩) (by assumption) ?rsa5
          case hya5 => (intro w hSw; first | (go_simp; done) | (go_simp; with_reducible rfl) | ((try dsimp only at hSw); go_split_ands; go_simp; done) | ((try dsimp only at hSw); go_split_ands; go_simp; with_reducible rfl))
          case' rsa5 => (try simp only [Act.put, List.setIfInBounds_toArray, List.set_cons_zero, List.set_cons_succ])
          refine wpAnyH_take (i := 6) (oi := { dst := some 56, op := Op.nilCheck (Operand.tmp 55), type := 0, pos := "law.go:128", after := #[{ on := 5, ground := Ground.data }, { on := 4, ground := Ground.guard }], guard := some (4, false) }) (v := ?va6) rfl (by kernel_rfl) (by kernel_rfl) (by kernel_rfl) (fun _ _ _ h => h) (Or.inl ⟨by rfl, ?hya6⟩) (by assumption) ?rsa6
          case hya6 => (intro w hSw; first | (go_simp; done) | (go_simp; with_reducible rfl) | ((try dsimp only at hSw); go_split_ands; go_simp; done) | ((try dsimp only at hSw); go_split_ands; go_simp; with_reducible rfl))
          case' rsa6 => (try simp only [Act.put, List.setIfInBounds_toArray, List.set_cons_zero, List.set_cons_succ])
          refine wpAnyH_take (i := 7) (oi := { dst := some 57, op := Op.fieldAddr 54 (Operand.tmp 56) 0, type := 0, pos := "law.go:128", after := #[{ on := 6, ground := Ground.data }, { on := 4, ground := Ground.guard }], guard := some (4, false) }) (v := ?va7) rfl (by kernel_rfl) (by kernel_rfl) (by kernel_rfl) (fun _ _ _ h => h) (Or.inl ⟨by rfl, ?hya7⟩) (by assumption) ?rsa7
          case hya7 => (intro w hSw; first | (go_simp; done) | (go_simp; with_reducible rfl) | ((try dsimp only at hSw); go_split_ands; go_simp; done) | ((try dsimp only at hSw); go_split_ands; go_simp; with_reducible rfl))
          case' rsa7 => (try simp only [Act.put, List.setIfInBounds_toArray, List.set_cons_zero, List.set_cons_succ])
          refine wpAnyH_take (i := 9) (oi := { dst := some 59, op := Op.move (Operand.tmp 9), type := 3, pos := "law.go:128", after := #[{ on := 4, ground := Ground.guard }], guard := some (4, false) }) (v := ?va9) rfl (by kernel_rfl) (by kernel_rfl) (by kernel_rfl) (fun _ _ _ h => h) (Or.inl ⟨by rfl, ?hya9⟩) (by assumption) ?rsa9
          case hya9 => (intro w hSw; first | (go_simp; done) | (go_simp; with_reducible rfl) | ((try dsimp only at hSw); go_split_ands; go_simp; done) | ((try dsimp only at hSw); go_split_ands; go_simp; with_reducible rfl))
          case' rsa9 => (try simp only [Act.put, List.setIfInBounds_toArray, List.set_cons_zero, List.set_cons_succ])
          refine wpAnyH_take (i := 10) (oi := { dst := some 60, op := Op.convert 3 33 (Operand.tmp 59), type := 33, pos := "law.go:128", after := #[{ on := 9, ground := Ground.data }, { on := 4, ground := Ground.guard }], guard := some (4, false) }) (v := ?va10) rfl (by kernel_rfl) (by kernel_rfl) (by kernel_rfl) (fun _ _ _ h => h) (Or.inl ⟨by rfl, ?hya10⟩) (by assumption) ?rsa10
          case hya10 => (intro w hSw; first | (go_simp; done) | (go_simp; with_reducible rfl) | ((try dsimp only at hSw); go_split_ands; go_simp; done) | ((try dsimp only at hSw); go_split_ands; go_simp; with_reducible rfl))
          case' rsa10 => (try simp only [Act.put, List.setIfInBounds_toArray, List.set_cons_zero, List.set_cons_succ])
          refine wpAnyH_take (i := 11) (oi := { dst := some 61, op := Op.binOp BinOp.add 33 (Operand.tmp 60) (Operand.const (Value.int IntKind.u64 1)) 33, type := 33, pos := "law.go:128", after := #[{ on := 10, ground := Ground.data }, { on := 4, ground := Ground.guard }], guard := some (4, false) }) (v := ?va11) rfl (by kernel_rfl) (by kernel_rfl) (by kernel_rfl) (fun _ _ _ h => h) (Or.inl ⟨by rfl, ?hya11⟩) (by assumption) ?rsa11
          case hya11 => (intro w hSw; first | (go_simp; done) | (go_simp; with_reducible rfl) | ((try dsimp only at hSw); go_split_ands; go_simp; done) | ((try dsimp only at hSw); go_split_ands; go_simp; with_reducible rfl))
          case' rsa11 => (try simp only [Act.put, List.setIfInBounds_toArray, List.set_cons_zero, List.set_cons_succ])
          refine wpAnyH_ready (rs := [8]) (by kernel_rfl) (by simp) ?_
          refine AllReadyH.cons (o := { dst := some 58, op := Op.load 33 (Operand.tmp 57), type := 33, pos := "law.go:128", after := #[{ on := 7, ground := Ground.data }, { on := 4, ground := Ground.guard }], guard := some (4, false) }) rfl (fun K hK => ?_) AllReadyH.nil
          go_simp
          refine hK.out _ _ (by assumption) (fun hHeld => ?_)
          clear hK K
          try simp only [Act.put, List.setIfInBounds_toArray, List.set_cons_zero, List.set_cons_succ]
          refine wpAnyH_take (i := 12) (oi := { dst := some 62, op := Op.binOp BinOp.neq 33 (Operand.tmp 58) (Operand.tmp 61) 33, type := 4, pos := "law.go:128", after := #[{ on := 8, ground := Ground.data }, { on := 11, ground := Ground.data }, { on := 4, ground := Ground.guard }], guard := some (4, false) }) (v := ?va12) rfl (by kernel_rfl) (by kernel_rfl) (by kernel_rfl) (fun _ _ _ h => h) (Or.inl ⟨by rfl, ?hya12⟩) (by assumption) ?rsa12
          case hya12 => (intro w hSw; first | (go_simp; done) | (go_simp; with_reducible rfl) | ((try dsimp only at hSw); go_split_ands; go_simp; done) | ((try dsimp only at hSw); go_split_ands; go_simp; with_reducible rfl))
          case' rsa12 => (try simp only [Act.put, List.setIfInBounds_toArray, List.set_cons_zero, List.set_cons_succ])
          refine wpAnyH_take (i := 13) (oi := { dst := some 63, op := Op.pick (Operand.tmp 54) (Operand.const (Value.bool true)) (Operand.tmp 62), type := 4, pos := "law.go:128", after := #[{ on := 4, ground := Ground.data }, { on := 12, ground := Ground.data }], guard := none }) (v := ?va13) rfl (by kernel_rfl) (by kernel_rfl) (by kernel_rfl) (fun _ _ _ h => h) (Or.inl ⟨by rfl, ?hya13⟩) (by assumption) ?rsa13
          case hya13 => (intro w hSw; first | (go_simp; done) | (go_simp; with_reducible rfl) | ((try dsimp only at hSw); go_split_ands; go_simp; done) | ((try dsimp only at hSw); go_split_ands; go_simp; with_reducible rfl))
          case' rsa13 => (try simp only [Act.put, List.setIfInBounds_toArray, List.set_cons_zero, List.set_cons_succ])
          refine wpAnyH_take (i := 14) (oi := { dst := some 64, op := Op.move (Operand.tmp 63), type := 4, pos := "law.go:128", after := #[{ on := 13, ground := Ground.data }, { on := 4, ground := Ground.chain }], guard := none }) (v := ?va14) rfl (by kernel_rfl) (by kernel_rfl) (by kernel_rfl) (fun _ _ _ h => h) (Or.inl ⟨by rfl, ?hya14⟩) (by assumption) ?rsa14
          case hya14 => (intro w hSw; first | (go_simp; done) | (go_simp; with_reducible rfl) | ((try dsimp only at hSw); go_split_ands; go_simp; done) | ((try dsimp only at hSw); go_split_ands; go_simp; with_reducible rfl))
          case' rsa14 => (try simp only [Act.put, List.setIfInBounds_toArray, List.set_cons_zero, List.set_cons_succ])
          refine wpAnyH_take (i := 15) (oi := { dst := some 65, op := Op.move (Operand.tmp 7), type := 24, pos := "law.go:128", after := #[{ on := 14, ground := Ground.guard }], guard := some (14, false) }) (v := ?va15) rfl (by kernel_rfl) (by kernel_rfl) (by kernel_rfl) (fun _ _ _ h => h) (Or.inl ⟨by rfl, ?hya15⟩) (by assumption) ?rsa15
          case hya15 => (intro w hSw; first | (go_simp; done) | (go_simp; with_reducible rfl) | ((try dsimp only at hSw); go_split_ands; go_simp; done) | ((try dsimp only at hSw); go_split_ands; go_simp; with_reducible rfl))
          case' rsa15 => (try simp only [Act.put, List.setIfInBounds_toArray, List.set_cons_zero, List.set_cons_succ])
          refine wpAnyH_take (i := 17) (oi := { dst := some 67, op := Op.move (Operand.tmp 9), type := 3, pos := "law.go:128", after := #[{ on := 14, ground := Ground.guard }], guard := some (14, false) }) (v := ?va17) rfl (by kernel_rfl) (by kernel_rfl) (by kernel_rfl) (fun _ _ _ h => h) (Or.inl ⟨by rfl, ?hya17⟩) (by assumption) ?rsa17
          case hya17 => (intro w hSw; first | (go_simp; done) | (go_simp; with_reducible rfl) | ((try dsimp only at hSw); go_split_ands; go_simp; done) | ((try dsimp only at hSw); go_split_ands; go_simp; with_reducible rfl))
          case' rsa17 => (try simp only [Act.put, List.setIfInBounds_toArray, List.set_cons_zero, List.set_cons_succ])
          refine wpAnyH_take (i := 18) (oi := { dst := some 68, op := Op.binOp BinOp.add 3 (Operand.tmp 67) (Operand.const (Value.int IntKind.i64 1)) 3, type := 3, pos := "law.go:128", after := #[{ on := 17, ground := Ground.data }, { on := 14, ground := Ground.guard }], guard := some (14, false) }) (v := ?va18) rfl (by kernel_rfl) (by kernel_rfl) (by kernel_rfl) (fun _ _ _ h => h) (Or.inl ⟨by rfl, ?hya18⟩) (by assumption) ?rsa18
          case hya18 => (intro w hSw; first | (go_simp; done) | (go_simp; with_reducible rfl) | ((try dsimp only at hSw); go_split_ands; go_simp; done) | ((try dsimp only at hSw); go_split_ands; go_simp; with_reducible rfl))
          case' rsa18 => (try simp only [Act.put, List.setIfInBounds_toArray, List.set_cons_zero, List.set_cons_succ])
          refine wpAnyH_take (i := 19) (oi := { dst := some 69, op := Op.fieldAddr 23 (Operand.tmp 3) 2, type := 0, pos := "law.go:128", after := #[{ on := 14, ground := Ground.guard }], guard := some (14, false) }) (v := ?va19) rfl (by kernel_rfl) (by kernel_rfl) (by kernel_rfl) (fun _ _ _ h => h) (Or.inl ⟨by rfl, ?hya19⟩) (by assumption) ?rsa19
          case hya19 => (intro w hSw; first | (go_simp; done) | (go_simp; with_reducible rfl) | ((try dsimp only at hSw); go_split_ands; go_simp; done) | ((try dsimp only at hSw); go_split_ands; go_simp; with_reducible rfl))
          case' rsa19 => (try simp only [Act.put, List.setIfInBounds_toArray, List.set_cons_zero, List.set_cons_succ])
          refine wpAnyH_take (i := 20) (oi := { dst := some 70, op := Op.load 3 (Operand.tmp 69), type := 3, pos := "law.go:128", after := #[{ on := 19, ground := Ground.data }, { on := 14, ground := Ground.guard }], guard := some (14, false) }) (v := ?va20) rfl (by kernel_rfl) (by kernel_rfl) (by kernel_rfl) (fun _ _ _ h => h) (Or.inl ⟨by rfl, ?hya20⟩) (by assumption) ?rsa20
          case hya20 => (intro w hSw; first | (go_simp; done) | (go_simp; with_reducible rfl) | ((try dsimp only at hSw); go_split_ands; go_simp; done) | ((try dsimp only at hSw); go_split_ands; go_simp; with_reducible rfl))
          case' rsa20 => (try simp only [Act.put, List.setIfInBounds_toArray, List.set_cons_zero, List.set_cons_succ])
          refine wpAnyH_take (i := 21) (oi := { dst := some 71, op := Op.binOp BinOp.add 3 (Operand.tmp 70) (Operand.const (Value.int IntKind.i64 2)) 3, type := 3, pos := "law.go:128", after := #[{ on := 20, ground := Ground.data }, { on := 14, ground := Ground.guard }], guard := some (14, false) }) (v := ?va21) rfl (by kernel_rfl) (by kernel_rfl) (by kernel_rfl) (fun _ _ _ h => h) (Or.inl ⟨by rfl, ?hya21⟩) (by assumption) ?rsa21
          case hya21 => (intro w hSw; first | (go_simp; done) | (go_simp; with_reducible rfl) | ((try dsimp only at hSw); go_split_ands; go_simp; done) | ((try dsimp only at hSw); go_split_ands; go_simp; with_reducible rfl))
          case' rsa21 => (try simp only [Act.put, List.setIfInBounds_toArray, List.set_cons_zero, List.set_cons_succ])
          refine wpAnyH_take (i := 22) (oi := { dst := some 72, op := Op.binOp BinOp.mul 3 (Operand.tmp 68) (Operand.tmp 71) 3, type := 3, pos := "law.go:128", after := #[{ on := 18, ground := Ground.data }, { on := 21, ground := Ground.data }, { on := 14, ground := Ground.guard }], guard := some (14, false) }) (v := ?va22) rfl (by kernel_rfl) (by kernel_rfl) (by kernel_rfl) (fun _ _ _ h => h) (Or.inl ⟨by rfl, ?hya22⟩) (by assumption) ?rsa22
          case hya22 => (intro w hSw; first | (go_simp; done) | (go_simp; with_reducible rfl) | ((try dsimp only at hSw); go_split_ands; go_simp; done) | ((try dsimp only at hSw); go_split_ands; go_simp; with_reducible rfl))
          case' rsa22 => (try simp only [Act.put, List.setIfInBounds_toArray, List.set_cons_zero, List.set_cons_succ])
          refine wpAnyH_ready (rs := [16]) (by kernel_rfl) (by simp) ?_
          refine AllReadyH.cons (o := { dst := some 66, op := Op.call { callee := Callee.value (Operand.func 26), args := #[Operand.tmp 65], argTypes := #[24] }, type := 3, pos := "law.go:128", after := #[{ on := 15, ground := Ground.data }, { on := 14, ground := Ground.chain }, { on := 14, ground := Ground.guard }], guard := some (14, false) }) rfl (fun K hK => ?_) AllReadyH.nil
          go_simp
          (go_at_call 26; refine (touches_c _ m b _ hM.out).mono ?_; rintro e w' ⟨rfl, rfl⟩; rw [hTt.out])
          refine hK.out _ _ (by assumption) (fun hHeld => ?_)
          clear hK K
          try simp only [Act.put, List.setIfInBounds_toArray, List.set_cons_zero, List.set_cons_succ]
          refine wpAnyH_take (i := 23) (oi := { dst := some 73, op := Op.binOp BinOp.neq 3 (Operand.tmp 66) (Operand.tmp 72) 3, type := 4, pos := "law.go:128", after := #[{ on := 16, ground := Ground.data }, { on := 22, ground := Ground.data }, { on := 14, ground := Ground.guard }], guard := some (14, false) }) (v := ?va23) rfl (by kernel_rfl) (by kernel_rfl) (by kernel_rfl) (fun _ _ _ h => h) (Or.inl ⟨by rfl, ?hya23⟩) (by assumption) ?rsa23
          case hya23 => (intro w hSw; first | (go_simp; done) | (go_simp; with_reducible rfl) | ((try dsimp only at hSw); go_split_ands; go_simp; done) | ((try dsimp only at hSw); go_split_ands; go_simp; with_reducible rfl))
          case' rsa23 => (try simp only [Act.put, List.setIfInBounds_toArray, List.set_cons_zero, List.set_cons_succ])
          refine wpAnyH_take (i := 24) (oi := { dst := some 74, op := Op.pick (Operand.tmp 64) (Operand.const (Value.bool true)) (Operand.tmp 73), type := 4, pos := "law.go:128", after := #[{ on := 14, ground := Ground.data }, { on := 23, ground := Ground.data }], guard := none }) (v := ?va24) rfl (by kernel_rfl) (by kernel_rfl) (by kernel_rfl) (fun _ _ _ h => h) (Or.inl ⟨by rfl, ?hya24⟩) (by assumption) ?rsa24
          case hya24 => (intro w hSw; first | (go_simp; done) | (go_simp; with_reducible rfl) | ((try dsimp only at hSw); go_split_ands; go_simp; done) | ((try dsimp only at hSw); go_split_ands; go_simp; with_reducible rfl))
          case' rsa24 => (try simp only [Act.put, List.setIfInBounds_toArray, List.set_cons_zero, List.set_cons_succ])
          refine wpAnyH_done (by kernel_rfl) ?_ _
          go_wp2
          go_roundw
          case rel =>
            have hx := hTt.out
            have hj' := hjC.out
            have hz := e13c
            exact ⟨i + 1, _, by omega, by go_num, hM.out, hE.out, by rw [hx, hz]; omega, hf.out.mono (by omega), hcf.out, hT.out, by omega⟩
          case measure => simp [intOf]; omega
    · obtain rfl : N = i := by omega
      have hlt' : ¬ (N : Int) < (N : Int) := by omega
      go_wp2
      have hk1 : True := trivial
      replace hcf := Lib.hid hcf.out.drew
      replace hM := Lib.hid hM.out.drew
      replace hT := Lib.hid hT.out.drew
      have hX : wr.drew.cell? ⟨CF, 0, none⟩ = some (.int .i64 c.S) ∧ wr.drew.cell? ⟨CF, 1, none⟩ = some (.int .i64 c.A) ∧ wr.drew.cell? ⟨CF, 2, none⟩ = some (.int .i64 c.C) ∧ wr.drew.cell? ⟨CF, 3, none⟩ = some (.int .i64 c.H) ∧ wr.drew.cell? ⟨CF, 4, none⟩ = some (.int .i64 c.G) ∧ wr.drew.cell? ⟨CF, 5, none⟩ = some (.int .i64 c.K) := cfgs hcf.out
      clear q0 q1 q2 q3 q4 q5
      go_cut [12, 13, 14] (fun va vb vc wx => ∃ pa pb pc, va = .pointer (some ⟨pa, 0, none⟩) ∧ vb = .pointer (some ⟨pb, 0, none⟩) ∧ vc = .pointer (some ⟨pc, 0, none⟩) ∧ PinB wx pa 0 (4 + (k : Int)) 0 ∧ AdvB wx pb c 0 0 0 0 ∧ AdvB wx pc c 0 0 0 0 ∧ pa ≠ pb ∧ pa ≠ pc ∧ pb ≠ pc ∧ wr.heap.size ≤ pa ∧ wr.heap.size ≤ pb ∧ wr.heap.size ≤ pc ∧ MemB wx m b M ∧ Blk wx CF 23 #[.int .i64 c.S, .int .i64 c.A, .int .i64 c.C, .int .i64 c.H, .int .i64 c.G, .int .i64 c.K] ∧ Below CF w wx)
      case first =>
        have z0r : wr.drew.heap.size = wr.heap.size := rfl
        go_region_held3 (fun w' => w'.cell? ⟨CF, 0, none⟩ = some (.int .i64 c.S) ∧ w'.cell? ⟨CF, 1, none⟩ = some (.int .i64 c.A) ∧ w'.cell? ⟨CF, 2, none⟩ = some (.int .i64 c.C) ∧ w'.cell? ⟨CF, 3, none⟩ = some (.int .i64 c.H) ∧ w'.cell? ⟨CF, 4, none⟩ = some (.int .i64 c.G) ∧ w'.cell? ⟨CF, 5, none⟩ = some (.int .i64 c.K)) (assumption) (first
      | (go_at_call 32; refine (newPinC c _ hr.out (k : Int) hk.out.1 hk.out.2).mono ?_; rintro e wnhA ⟨p0, rfl, ghA, hA, hb3⟩; replace hcf := Lib.hid (hcf.out.below hb3 hcf.out.lt); have hYhA := cfgs hcf.out; have lhA := Blk.lt hA; (try replace hB := Lib.hid (Blk.below hB.out hb3 (Blk.lt hB.out))); (try replace hL := Lib.hid (Blk.below hL.out hb3 (Blk.lt hL.out))); replace hA := Lib.hid hA; have znhA := hb3.size; replace hM := Lib.hid (hM.out.next hb3); replace hT := Lib.hid (hT.out.trans (hb3.mono (by have := hT.out.size; omega))); clear hb3)
      | (go_at_call 39; have _t := hk1; clear _t hk1; refine (newAdvC c _ hr.out).mono ?_; rintro e wnhB ⟨p1, rfl, ghB, hB, hb3⟩; replace hcf := Lib.hid (hcf.out.below hb3 hcf.out.lt); have hYhB := cfgs hcf.out; have lhB := Blk.lt hB; (try replace hA := Lib.hid (Blk.below hA.out hb3 (Blk.lt hA.out))); (try replace hL := Lib.hid (Blk.below hL.out hb3 (Blk.lt hL.out))); replace hB := Lib.hid hB; have znhB := hb3.size; replace hM := Lib.hid (hM.out.next hb3); replace hT := Lib.hid (hT.out.trans (hb3.mono (by have := hT.out.size; omega))); clear hb3)
      | (go_at_call 39; refine (newAdvC c _ hr.out).mono ?_; rintro e wnhL ⟨p2, rfl, ghL, hL, hb3⟩; replace hcf := Lib.hid (hcf.out.below hb3 hcf.out.lt); have hYhL := cfgs hcf.out; have lhL := Blk.lt hL; (try replace hA := Lib.hid (Blk.below hA.out hb3 (Blk.lt hA.out))); (try replace hB := Lib.hid (Blk.below hB.out hb3 (Blk.lt hB.out))); replace hL := Lib.hid hL; have znhL := hb3.size; replace hM := Lib.hid (hM.out.next hb3); replace hT := Lib.hid (hT.out.trans (hb3.mono (by have := hT.out.size; omega))); clear hb3))
        all_goals
          go_wp2
          go_meet
          case rel => first
            | exact ⟨p0, p1, p2, rfl, rfl, rfl, hA.out, hB.out, hL.out, by omega, by omega, by omega, by omega, by omega, by omega, hM.out, hcf.out, hT.out⟩
            | exact ⟨p0, p2, p1, rfl, rfl, rfl, hA.out, hL.out, hB.out, by omega, by omega, by omega, by omega, by omega, by omega, hM.out, hcf.out, hT.out⟩
      case rest =>
        obtain ⟨pa, pb, pc, rfl, rfl, rfl, c1, c2, c3, nab, nac, nbc, ga, gb, gc, c4, c5, c6⟩ := hcut
        clear hcf hM hT hX
        have hA := Lib.hid c1
        have hB := Lib.hid (advI_new (e := (N : Int)) c2)
        have hL := Lib.hid (advK_new (e := (N : Int) + 1) (k := k) c3)
        have hM := Lib.hid c4
        have hcf := Lib.hid c5
        have hT := Lib.hid c6
        clear c1 c2 c3 c4 c5 c6
        have e15 : ((N : Int) != (N : Int)) = false := by simp
        go_wp2_with (first
      | (go_at_call 33; refine (pnA hr.out hM.out hf.out hn.out (by omega) (not_two (by omega) (by omega))  hA.out).mono ?_; rintro e v1 ⟨rfl, M', hP', hM', ef', et', hf', hF'⟩; have hE' := (show M'.f 1 = (N : Int) ∧ Idle c M'.f by rw [ef']; exact hE.out); replace hB := Lib.hid (AdvI.fr hB.out hF' (not_three (by omega) (by omega) (by omega))); replace hL := Lib.hid (AdvK.fr hL.out hF' (not_three (by omega) (by omega) (by omega))); replace hcf := Lib.hid (Blk.fr hcf.out hF' (not_three (by omega) (by omega) (by omega))); have hTT := below_three hT.out hF' (by have := hT.out.size; omega) (by omega) (by omega) (by omega); replace hT := Lib.hid hTT; have zz1 := hF'.size; clear hTT hF'; rw [hE.out.1] at hP'; replace hA := Lib.hid hP'; replace hM := Lib.hid hM'; replace hf := Lib.hid hf'; replace hE := Lib.hid hE'; clear hP' hM' hf' ef' et' hE')
      | (go_at_call 33; refine (pnB hr.out hM.out hf.out hn.out (by omega) (not_two (by omega) (by omega)) hk.out hA.out).mono ?_; rintro e v2 ⟨rfl, M', hP', hM', ef', et', hf', hF'⟩; have hE' := (show M'.f 1 = (N : Int) ∧ Only c k M'.f N by rw [ef']; exact ⟨(upd_ne (by have := hk.out; omega)).trans hE.out.1, hE.out.2.pin _⟩); replace hB := Lib.hid (AdvI.fr hB.out hF' (not_three (by omega) (by omega) (by omega))); replace hL := Lib.hid (AdvK.fr hL.out hF' (not_three (by omega) (by omega) (by omega))); replace hcf := Lib.hid (Blk.fr hcf.out hF' (not_three (by omega) (by omega) (by omega))); have hTT := below_three hT.out hF' (by have := hT.out.size; omega) (by omega) (by omega) (by omega); replace hT := Lib.hid hTT; have zz2 := hF'.size; clear hTT hF'; replace hA := Lib.hid hP'; replace hM := Lib.hid hM'; replace hf := Lib.hid hf'; replace hE := Lib.hid hE'; clear hP' hM' hf' ef' et' hE')
      | (go_at_call 33; refine (pnC hr.out hM.out hf.out hn.out (by omega) (not_two (by omega) (by omega)) hE.out.1 hA.out).mono ?_; rintro e v3 ⟨rfl, M', hP', hM', ef', et', hf', hF'⟩; have hE' := (show M'.f 1 = (N : Int) ∧ Only c k M'.f N by rw [ef']; exact hE.out); replace hB := Lib.hid (AdvI.fr hB.out hF' (not_three (by omega) (by omega) (by omega))); replace hL := Lib.hid (AdvK.fr hL.out hF' (not_three (by omega) (by omega) (by omega))); replace hcf := Lib.hid (Blk.fr hcf.out hF' (not_three (by omega) (by omega) (by omega))); have hTT := below_three hT.out hF' (by have := hT.out.size; omega) (by omega) (by omega) (by omega); replace hT := Lib.hid hTT; have zz3 := hF'.size; clear hTT hF'; have j0 := Blk.cell hP' (i := 0) (v := .int .u64 (N : Int)) rfl; replace hA := Lib.hid hP'; replace hM := Lib.hid hM'; replace hf := Lib.hid hf'; replace hE := Lib.hid hE'; clear hP' hM' hf' ef' et' hE'))
        go_loopw [15] (fun y wr => ∃ (i : Nat) (M : Ms), (i : Int) ≤ c.C + 2 ∧ y = .int .i64 (i : Int) ∧ PinB wr pa N (4 + (k : Int)) 3 ∧ (((i : Int) ≤ c.C + 1 ∧ AdvI wr pb c N i ∧ (M.f 1 = (N : Int) ∧ Only c k M.f N)) ∨ ((i : Int) = c.C + 2 ∧ AdvB wr pb c ((N : Int) + 1) N c.C 3 ∧ (M.f 1 = (N : Int) + 1 ∧ Only c k M.f N))) ∧ AdvK wr pc c ((N : Int) + 1) k 0 ∧ MemB wr m b M ∧ Fine M n (6 * N + 3 + i) ∧ Blk wr CF 23 #[.int .i64 c.S, .int .i64 c.A, .int .i64 c.C, .int .i64 c.H, .int .i64 c.G, .int .i64 c.K] ∧ Below CF w wr) (fun y _ => (c.C + 2).toNat - (intOf y).toNat)
        case atStart => exact ⟨0, _, by omega, rfl, hA.out, .inl ⟨by omega, hB.out, hE.out⟩, hL.out, hM.out, hf.out, hcf.out, hT.out⟩
        case round =>
          obtain ⟨i, M2, hi2, rfl, c1, c2, c3, c4, c6, c7, c8⟩ := hrel
          clear hA hB hL hM hcf hT hE hf
          have hA := Lib.hid c1
          have hL := Lib.hid c3
          have hM := Lib.hid c4
          have hf := Lib.hid c6
          have hcf := Lib.hid c7
          have hT := Lib.hid c8
          obtain ⟨q0, q1, q2, q3, q4, q5⟩ := cfgs c7
          clear c1 c3 c4 c6 c7 c8
          rcases c2 with ⟨i1, d1, d2⟩ | ⟨i1, d1, d2⟩
          · have hB := Lib.hid d1
            have hE := Lib.hid d2
            have hlt : (i : Int) < c.C + 2 := by omega
            clear d1 d2
            by_cases hjl : (i : Int) ≤ c.C
            · go_wp2_with (first
      | (go_at_call 41; refine (adI hr.out hM.out hf.out hn.out (by omega) (not_two (by omega) (by omega)) ⟨hE.out.1, hE.out.2.ready⟩ hjl hB.out).mono ?_; rintro e v1 ⟨rfl, M', hP', hM', ef', et', hf', hF'⟩; have hE' := (show M'.f 1 = (N : Int) ∧ Only c k M'.f N by rw [ef']; exact hE.out); replace hA := Lib.hid (Blk.fr hA.out hF' (not_three (by omega) (by omega) (by omega))); replace hL := Lib.hid (AdvK.fr hL.out hF' (not_three (by omega) (by omega) (by omega))); replace hcf := Lib.hid (Blk.fr hcf.out hF' (not_three (by omega) (by omega) (by omega))); have hTT := below_three hT.out hF' (by have := hT.out.size; omega) (by omega) (by omega) (by omega); replace hT := Lib.hid hTT; have zz1 := hF'.size; clear hTT hF'; replace hB := Lib.hid hP'; replace hM := Lib.hid hM'; replace hf := Lib.hid hf'; replace hE := Lib.hid hE'; clear hP' hM' hf' ef' et' hE'))
              go_roundw
              case rel => exact ⟨i + 1, _, by omega, by go_num, hA.out, .inl ⟨by omega, hB.out, hE.out⟩, hL.out, hM.out, hf.out, hcf.out, hT.out⟩
              case measure => simp [intOf]; omega
            · have hjC : (i : Int) = c.C + 1 := by omega
              have hw1 : ((N : Int) + 1) % 18446744073709551616 = (N : Int) + 1 := by omega
              replace hjC := Lib.hid hjC
              replace hw1 := Lib.hid hw1
              go_wp2_with (first
      | (go_at_call 41; refine (adF hr.out hM.out hf.out hn.out (by omega) (not_two (by omega) (by omega)) hE.out.1 hjC.out hB.out).mono ?_; rintro e v2 ⟨rfl, M', hP', hM', ef', et', hf', hF'⟩; have hE' := (show M'.f 1 = (N : Int) + 1 ∧ Only c k M'.f N by rw [ef', hw1.out]; exact ⟨upd_eq, hE.out.2.top _⟩); replace hA := Lib.hid (Blk.fr hA.out hF' (not_three (by omega) (by omega) (by omega))); replace hL := Lib.hid (AdvK.fr hL.out hF' (not_three (by omega) (by omega) (by omega))); replace hcf := Lib.hid (Blk.fr hcf.out hF' (not_three (by omega) (by omega) (by omega))); have hTT := below_three hT.out hF' (by have := hT.out.size; omega) (by omega) (by omega) (by omega); replace hT := Lib.hid hTT; have zz2 := hF'.size; clear hTT hF'; rw [hw1.out] at hP'; replace hB := Lib.hid hP'; replace hM := Lib.hid hM'; replace hf := Lib.hid hf'; replace hE := Lib.hid hE'; clear hP' hM' hf' ef' et' hE'))
              go_roundw
              case rel => exact ⟨i + 1, _, by have := hjC.out; omega, by go_num, hA.out, .inr ⟨by have := hjC.out; omega, hB.out, hE.out⟩, hL.out, hM.out, hf.out, hcf.out, hT.out⟩
              case measure => simp [intOf]; omega
          · have hB := Lib.hid d1
            have hE := Lib.hid d2
            have hlt : ¬ (i : Int) < c.C + 2 := by omega
            replace hf := Lib.hid (hf.out.mono (show 6 * N + 3 + i ≤ 100 + 0 by omega))
            clear d1 d2 i1
            go_wp2
            go_loopw [16] (fun y wr => ∃ (i : Nat) (M : Ms), i ≤ 40 ∧ y = .int .i64 (i : Int) ∧ PinB wr pa N (4 + (k : Int)) 3 ∧ AdvB wr pb c ((N : Int) + 1) N c.C 3 ∧ (M.f 1 = (N : Int) + 1 ∧ Only c k M.f N) ∧ AdvK wr pc c ((N : Int) + 1) k i ∧ MemB wr m b M ∧ Fine M n (100 + i) ∧ Blk wr CF 23 #[.int .i64 c.S, .int .i64 c.A, .int .i64 c.C, .int .i64 c.H, .int .i64 c.G, .int .i64 c.K] ∧ Below CF w wr) (fun y _ => 40 - (intOf y).toNat)
            case atStart => exact ⟨0, _, by omega, rfl, hA.out, hB.out, hE.out, hL.out, hM.out, hf.out, hcf.out, hT.out⟩
            case round =>
              clear hlt hi2 q0 q1 q2 q3 q4 q5
              obtain ⟨i, M3, hi2, rfl, c1, c2, c5, c3, c4, c6, c7, c8⟩ := hrel
              clear hA hB hL hM hcf hT hE hf
              have hA := Lib.hid c1
              have hB := Lib.hid c2
              have hE := Lib.hid c5
              have hL := Lib.hid c3
              have hM := Lib.hid c4
              have hf := Lib.hid c6
              have hcf := Lib.hid c7
              have hT := Lib.hid c8
              obtain ⟨q0, q1, q2, q3, q4, q5⟩ := cfgs c7
              clear c1 c2 c3 c4 c5 c6 c7 c8
              by_cases hlt : i < 40
              · have hlt' : (i : Int) < 40 := by omega
                go_wp2_with (first
      | (go_at_call 41; refine (adK hr.out hM.out hf.out hn.out (by omega) (not_two (by omega) (by omega)) hE.out.1 hk.out.2 (hE.out.2.lo hk.out.2 _) (hE.out.2.stop hk.out.2 (by omega) (by omega)) hL.out).mono ?_; rintro e v1 ⟨rfl, M', hP', hM', ef', et', hf', hF'⟩; have hE' := (show M'.f 1 = (N : Int) + 1 ∧ Only c k M'.f N by rw [ef']; exact hE.out); replace hA := Lib.hid (Blk.fr hA.out hF' (not_three (by omega) (by omega) (by omega))); replace hB := Lib.hid (Blk.fr hB.out hF' (not_three (by omega) (by omega) (by omega))); replace hcf := Lib.hid (Blk.fr hcf.out hF' (not_three (by omega) (by omega) (by omega))); have hTT := below_three hT.out hF' (by have := hT.out.size; omega) (by omega) (by omega) (by omega); replace hT := Lib.hid hTT; have zz1 := hF'.size; clear hTT hF'; replace hL := Lib.hid hP'; replace hM := Lib.hid hM'; replace hf := Lib.hid hf'; replace hE := Lib.hid hE'; clear hP' hM' hf' ef' et' hE'))
                go_roundw
                case rel => exact ⟨i + 1, _, by omega, by go_num, hA.out, hB.out, hE.out, hL.out, hM.out, hf.out, hcf.out, hT.out⟩
                case measure => simp [intOf]; omega
              · have hlt' : ¬ (i : Int) < 40 := by omega
                have hG := hL.out.go (by have := hk.out; omega) hk.out.2
                have hj0 : AdvI wr pc c ((N : Int) + 1) (k + 1 + 0) := hG
                replace hf := Lib.hid (hf.out.mono (show 100 + i ≤ 140 by omega))
                clear hL hG
                have hL := Lib.hid hj0
                clear hj0
                go_wp2_with (first
      | (go_at_call 38; refine (newLevC c _ hr.out (k : Int) hk.out.1 hk.out.2).mono ?_; rintro e wnD ⟨pd, rfl, gD, hD, hb3⟩; have lpa := Blk.lt hA.out; have lpb := Blk.lt hB.out; have lpc := AdvI.lt hL.out; have lmm := hM.out.lm; have lbb := hM.out.lb; have lcc := hcf.out.lt; replace hcf := Lib.hid (hcf.out.below hb3 hcf.out.lt); replace hA := Lib.hid (Blk.below hA.out hb3 (Blk.lt hA.out)); replace hB := Lib.hid (Blk.below hB.out hb3 (Blk.lt hB.out)); replace hL := Lib.hid (hL.out.below hb3 hL.out.lt); have lD := Blk.lt hD; replace hD := Lib.hid hD; replace hM := Lib.hid (hM.out.next hb3); replace hT := Lib.hid (hT.out.trans (hb3.mono (by have := hT.out.size; omega))); have znD := hb3.size; have na : pa ≠ pd := (by omega); have nb : pb ≠ pd := (by omega); have nc : pc ≠ pd := (by omega); have nm : pd ≠ m := (by omega); have nbb : pd ≠ b := (by omega); have ncf : pd ≠ CF := (by omega); clear hb3)
      | (go_at_call 40; refine (lvA hr.out hM.out hf.out hn.out (by omega) (not_two (by omega) (by omega)) hk.out hD.out).mono ?_; rintro e v1 ⟨rfl, M', hP', hM', ef', et', hf', hF'⟩; have hE' := (show M'.f 1 = (N : Int) + 1 ∧ Idle c M'.f by rw [ef']; exact ⟨(upd_ne (by have := hk.out; omega)).trans hE.out.1, hE.out.2.leave⟩); replace hA := Lib.hid (Blk.fr hA.out hF' (not_three (by omega) (by omega) (by omega))); replace hB := Lib.hid (Blk.fr hB.out hF' (not_three (by omega) (by omega) (by omega))); replace hL := Lib.hid (AdvI.fr hL.out hF' (not_three (by omega) (by omega) (by omega))); replace hcf := Lib.hid (Blk.fr hcf.out hF' (not_three (by omega) (by omega) (by omega))); have hTT := below_three hT.out hF' (by have := hT.out.size; omega) (by omega) (by omega) (by omega); replace hT := Lib.hid hTT; have zz1 := hF'.size; clear hTT hF'; replace hD := Lib.hid hP'; replace hM := Lib.hid hM'; replace hf := Lib.hid hf'; replace hE := Lib.hid hE'; clear hP' hM' hf' ef' et' hE'))
                go_loopw [18, 19] (fun zd y wr => ∃ (d : Bool) (i : Nat) (M : Ms), (i : Int) ≤ c.C + 2 ∧ zd = .bool d ∧ y = .int .i64 (i : Int) ∧ PinB wr pa N (4 + (k : Int)) 3 ∧ AdvB wr pb c ((N : Int) + 1) N c.C 3 ∧ (((k : Int) + 1 + i ≤ c.C + 1 ∧ AdvI wr pc c ((N : Int) + 1) (k + 1 + i) ∧ (M.f 1 = (N : Int) + 1 ∧ Idle c M.f)) ∨ (c.C + 2 ≤ (k : Int) + 1 + i ∧ d = true ∧ AdvB wr pc c ((N : Int) + 2) ((N : Int) + 1) c.C 3)) ∧ MemB wr m b M ∧ Fine M n (150 + i) ∧ Blk wr CF 23 #[.int .i64 c.S, .int .i64 c.A, .int .i64 c.C, .int .i64 c.H, .int .i64 c.G, .int .i64 c.K] ∧ Below CF w wr) (fun _ y _ => (c.C + 2).toNat - (intOf y).toNat)
                case atStart => exact ⟨false, 0, _, by omega, rfl, rfl, hA.out, hB.out, .inl ⟨by have := hk.out; omega, hL.out, hE.out⟩, hM.out, hf.out.mono (by omega), hcf.out, hT.out⟩
                case round =>
                  clear hlt hlt' hi2 q0 q1 q2 q3 q4 q5
                  obtain ⟨d, i, M4, hi2, rfl, rfl, c1, c2, c3, c4, c6, c7, c8⟩ := hrel
                  clear hA hB hL hM hcf hT hE hf hD
                  have hA := Lib.hid c1
                  have hB := Lib.hid c2
                  have hM := Lib.hid c4
                  have hf := Lib.hid c6
                  have hcf := Lib.hid c7
                  have hT := Lib.hid c8
                  obtain ⟨q0, q1, q2, q3, q4, q5⟩ := cfgs c7
                  clear c1 c2 c4 c6 c7 c8
                  by_cases hlt : (i : Int) < c.C + 2
                  · rcases c3 with ⟨i1, d1, d2⟩ | ⟨i1, rfl, d1⟩
                    · have hL := Lib.hid d1
                      have hE := Lib.hid d2
                      clear d1 d2
                      by_cases hjl : ((k + 1 + i : Nat) : Int) ≤ c.C
                      · go_wp2_with (first
      | (go_at_call 41; refine (adI hr.out hM.out hf.out hn.out (by omega) (not_two (by omega) (by omega)) ⟨hE.out.1, hE.out.2.ready _⟩ hjl hL.out).mono ?_; rintro e v1 ⟨rfl, M', hP', hM', ef', et', hf', hF'⟩; have hE' := (show M'.f 1 = (N : Int) + 1 ∧ Idle c M'.f by rw [ef']; exact hE.out); replace hA := Lib.hid (Blk.fr hA.out hF' (not_three (by omega) (by omega) (by omega))); replace hB := Lib.hid (Blk.fr hB.out hF' (not_three (by omega) (by omega) (by omega))); replace hcf := Lib.hid (Blk.fr hcf.out hF' (not_three (by omega) (by omega) (by omega))); have hTT := below_three hT.out hF' (by have := hT.out.size; omega) (by omega) (by omega) (by omega); replace hT := Lib.hid hTT; have zz1 := hF'.size; clear hTT hF'; replace hL := Lib.hid hP'; replace hM := Lib.hid hM'; replace hf := Lib.hid hf'; replace hE := Lib.hid hE'; clear hP' hM' hf' ef' et' hE'))
                        go_roundw
                        case rel => exact ⟨_, i + 1, _, by omega, rfl, by go_num, hA.out, hB.out, .inl ⟨by omega, hL.out, hE.out⟩, hM.out, hf.out, hcf.out, hT.out⟩
                        case measure => simp [intOf]; omega
                      · have hjC : ((k + 1 + i : Nat) : Int) = c.C + 1 := by omega
                        have hw1 : ((N : Int) + 1 + 1) % 18446744073709551616 = (N : Int) + 2 := by omega
                        replace hjC := Lib.hid hjC
                        replace hw1 := Lib.hid hw1
                        go_wp2_with (first
      | (go_at_call 41; refine (adF hr.out hM.out hf.out hn.out (by omega) (not_two (by omega) (by omega)) hE.out.1 hjC.out hL.out).mono ?_; rintro e v2 ⟨rfl, M', hP', hM', ef', et', hf', hF'⟩; replace hA := Lib.hid (Blk.fr hA.out hF' (not_three (by omega) (by omega) (by omega))); replace hB := Lib.hid (Blk.fr hB.out hF' (not_three (by omega) (by omega) (by omega))); replace hcf := Lib.hid (Blk.fr hcf.out hF' (not_three (by omega) (by omega) (by omega))); have hTT := below_three hT.out hF' (by have := hT.out.size; omega) (by omega) (by omega) (by omega); replace hT := Lib.hid hTT; have zz2 := hF'.size; clear hTT hF'; rw [hw1.out] at hP'; replace hL := Lib.hid hP'; replace hM := Lib.hid hM'; replace hf := Lib.hid hf'; clear hP' hM' hf' ef' et'))
                        go_roundw
                        case rel => exact ⟨_, i + 1, _, by omega, rfl, by go_num, hA.out, hB.out, .inr ⟨by have := hjC.out; omega, rfl, hL.out⟩, hM.out, hf.out, hcf.out, hT.out⟩
                        case measure => simp [intOf]; omega
                    · have hL := Lib.hid d1
                      clear d1
                      go_wp2_with (first
      | (go_at_call 41; refine (adD hr.out hM.out hf.out hn.out (by omega) (not_two (by omega) (by omega))  hL.out).mono ?_; rintro e v1 ⟨rfl, hP', hM', hF'⟩; replace hA := Lib.hid (Blk.fr hA.out hF' (not_three (by omega) (by omega) (by omega))); replace hB := Lib.hid (Blk.fr hB.out hF' (not_three (by omega) (by omega) (by omega))); replace hcf := Lib.hid (Blk.fr hcf.out hF' (not_three (by omega) (by omega) (by omega))); have hTT := below_three hT.out hF' (by have := hT.out.size; omega) (by omega) (by omega) (by omega); replace hT := Lib.hid hTT; have zz1 := hF'.size; clear hTT hF'; replace hL := Lib.hid hP'; replace hM := Lib.hid hM'; clear hP' hM'))
                      go_roundw
                      case rel => exact ⟨_, i + 1, _, by omega, rfl, by go_num, hA.out, hB.out, .inr ⟨by omega, rfl, hL.out⟩, hM.out, hf.out.mono (by omega), hcf.out, hT.out⟩
                      case measure => simp [intOf]; omega
                  · rcases c3 with ⟨i1, d1, d2⟩ | ⟨i1, rfl, d1⟩
                    · exfalso; omega
                    · have e16 : IntKind.u64.wrap ((N : Int) + 1) = (N : Int) + 1 := Core.wrap_u64_id _ (by omega) (by omega)
                      have e17 : IntKind.u64.wrap ((N : Int) + 2) = (N : Int) + 2 := Core.wrap_u64_id _ (by omega) (by omega)
                      have e18 : (((N : Int) + 1) == ((N : Int) + 1)) = true := by simp
                      have e19 : (((N : Int) + 2) == ((N : Int) + 2)) = true := by simp
                      go_wp2
                      have hL := Lib.hid (Blk.drew d1)
                      replace hA := Lib.hid (Blk.drew hA.out)
                      replace hB := Lib.hid (Blk.drew hB.out)
                      replace hT := Lib.hid hT.out.drew
                      clear d1 hcf hM hf q0 q1 q2 q3 q4 q5
                      have hX : wr.drew.cell? ⟨pb, 0, none⟩ = some (.int .u64 ((N : Int) + 1)) ∧ wr.drew.cell? ⟨pa, 0, none⟩ = some (.int .u64 (N : Int)) ∧ wr.drew.cell? ⟨pc, 0, none⟩ = some (.int .u64 ((N : Int) + 2)) := ⟨Blk.cell hB.out (i := 0) (v := .int .u64 ((N : Int) + 1)) rfl, Blk.cell hA.out (i := 0) (v := .int .u64 (N : Int)) rfl, Blk.cell hL.out (i := 0) (v := .int .u64 ((N : Int) + 2)) rfl⟩
                      go_region_held3 (fun w' => w'.cell? ⟨pb, 0, none⟩ = some (.int .u64 ((N : Int) + 1)) ∧ w'.cell? ⟨pa, 0, none⟩ = some (.int .u64 (N : Int)) ∧ w'.cell? ⟨pc, 0, none⟩ = some (.int .u64 ((N : Int) + 2))) (assumption) (first
      | (go_at_call 37; refine (awake8C _).mono ?_; rintro e w10 ⟨rfl, hb10⟩; replace hA := Lib.hid (Blk.below hA.out hb10 (Blk.lt hA.out)); replace hB := Lib.hid (Blk.below hB.out hb10 (Blk.lt hB.out)); replace hL := Lib.hid (Blk.below hL.out hb10 (Blk.lt hL.out)); have hY : w10.cell? ⟨pb, 0, none⟩ = some (.int .u64 ((N : Int) + 1)) ∧ w10.cell? ⟨pa, 0, none⟩ = some (.int .u64 (N : Int)) ∧ w10.cell? ⟨pc, 0, none⟩ = some (.int .u64 ((N : Int) + 2)) := ⟨Blk.cell hB.out (i := 0) (v := .int .u64 ((N : Int) + 1)) rfl, Blk.cell hA.out (i := 0) (v := .int .u64 (N : Int)) rfl, Blk.cell hL.out (i := 0) (v := .int .u64 ((N : Int) + 2)) rfl⟩; replace hT := Lib.hid (hT.out.trans (hb10.mono (by have := hT.out.size; omega))); clear hb10))
                      all_goals
                        go_wp2
                        go_ret
                        exact ⟨rfl, hCFe ▸ hT.out⟩
end Go.Proofs.Ytijfkpoofpcacaa.EpochB
