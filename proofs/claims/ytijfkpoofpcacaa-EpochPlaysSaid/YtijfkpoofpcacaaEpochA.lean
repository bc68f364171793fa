/-
  Layer 8 (epoch): the document's example; no condition.
-/
import Derived.Test.YtijfkpoofpcacaaEpochS
import Derived.Deep.DeepCutAuto
import Derived.Deep.CutBlock
import Derived.Deep.CutRange
set_option linter.unusedVariables false
namespace Go.Proofs.Ytijfkpoofpcacaa.EpochA
open Go.RowKit Go.Proofs.YtijfkpoofpcacaaW.PrintWords Go.Proofs.Ytijfkpoofpcacaa.Blk Go.Proofs.Ytijfkpoofpcacaa.Core Go.Proofs.Ytijfkpoofpcacaa.MemC Go.Proofs.Ytijfkpoofpcacaa.MemD Go.Proofs.Ytijfkpoofpcacaa.MemT Go.Proofs.Ytijfkpoofpcacaa.Memory Go.Proofs.Ytijfkpoofpcacaa.PlanC Go.Proofs.Ytijfkpoofpcacaa.PlanD Go.Proofs.Ytijfkpoofpcacaa.StackC Go.Proofs.Ytijfkpoofpcacaa.StackF Go.Proofs.Ytijfkpoofpcacaa.StackP Go.Proofs.Ytijfkpoofpcacaa.StackG Go.Proofs.Ytijfkpoofpcacaa.EpochC Go.Proofs.Ytijfkpoofpcacaa.EpochS
def c8 : Cf := ⟨1, 0, 1, 1, 1, 0⟩
def F8 : Nat → Int := memF c8.A c8.C c8.H (c8.S - 1).toNat
def F8b : Nat → Int := upd F8 4 (pinV 0)
def F8c : Nat → Int := upd F8b 1 ((0 + 1) % 18446744073709551616)
set_option maxHeartbeats 4000000 in
set_option maxRecDepth 100000 in
theorem awake8C (w : World) : Calls Try.prog 37 #[] w fun e w' => e = .returned (.bool true) ∧ Below w.heap.size w w' := by
  have hbx := Lib.hid (Blk.new w 23 #[.int .i64 c8.S, .int .i64 c8.A, .int .i64 c8.C, .int .i64 c8.H, .int .i64 c8.G, .int .i64 c8.K])
  have hr : c8.right = true := by decide +kernel
  have hfi : Fine (Ms.of 13 F8) 13 0 := fine_of (memF_U _ _ _ _ (by decide))
  have hn : ((13 : Nat) : Int) = c8.size := by decide +kernel
  replace hr := Lib.hid hr
  replace hn := Lib.hid hn
  replace hfi := Lib.hid hfi
  go_enter Try.func37, Try.ntmps37
  generalize hCFe : w.heap.size = CF at *
  go_upto_region 3 with (go_at_call 20; refine (memC c8 _ hr.out).mono ?_; rintro e w1 ⟨m, b, rfl, hM, hm, hb, hb1⟩; have hf1 := hbx.out.below hb1 hbx.out.lt; have hX := cfgs hf1.drew; replace hf1 := Lib.hid hf1.drew; replace hM := Lib.hid hM.drew; replace hb1 := Lib.hid hb1)
  have szb : ∀ o : Obj, (w.alloc o).heap.size = CF + 1 := fun o => by rw [← hCFe]; simp
  have hT := Lib.hid (below_pre hb1.out).drew
  have lt1 : CF < w1.drew.heap.size := hf1.out.lt
  have lm : m < w1.drew.heap.size := hM.out.lm
  have lb : b < w1.drew.heap.size := hM.out.lb
  have hM0 : MemB w1.drew m b (Ms.of 13 F8) := hM.out
  rw [szb] at hm hb
  clear hb1 szb hbx hM
  go_cut [3, 4, 5] (fun va vb vc wx => ∃ pa pb pc, va = .pointer (some ⟨pa, 0, none⟩) ∧ vb = .pointer (some ⟨pb, 0, none⟩) ∧ vc = .pointer (some ⟨pc, 0, none⟩) ∧ PinB wx pa 0 4 0 ∧ AdvB wx pb c8 0 0 0 0 ∧ AdvB wx pc c8 0 0 0 0 ∧ pa ≠ pb ∧ pa ≠ pc ∧ pb ≠ pc ∧ w1.drew.heap.size ≤ pa ∧ w1.drew.heap.size ≤ pb ∧ w1.drew.heap.size ≤ pc ∧ Below w1.drew.heap.size w1.drew wx)
  case first =>
    have tok1 : True := trivial
    have hB := Lib.hid (Below.refl w1.drew.heap.size w1.drew)
    go_region_held3 (fun w' => w'.cell? ⟨CF, 0, none⟩ = some (.int .i64 c8.S) ∧ w'.cell? ⟨CF, 1, none⟩ = some (.int .i64 c8.A) ∧ w'.cell? ⟨CF, 2, none⟩ = some (.int .i64 c8.C) ∧ w'.cell? ⟨CF, 3, none⟩ = some (.int .i64 c8.H) ∧ w'.cell? ⟨CF, 4, none⟩ = some (.int .i64 c8.G) ∧ w'.cell? ⟨CF, 5, none⟩ = some (.int .i64 c8.K)) (assumption) (first
      | (go_at_call 32; refine (newPinC c8 _ hr.out 0 (by decide) (by decide)).mono ?_; rintro e w3 ⟨p0, rfl, g0, hp0, hb3⟩; replace hf1 := Lib.hid (hf1.out.below hb3 hf1.out.lt); have hY0 := cfgs hf1.out; have l0 := Blk.lt hp0; (try replace hp1 := Lib.hid (Blk.below hp1.out hb3 (Blk.lt hp1.out))); (try replace hp2 := Lib.hid (Blk.below hp2.out hb3 (Blk.lt hp2.out))); replace hp0 := Lib.hid hp0; have z0 := hb3.size; replace hB := Lib.hid (hB.out.trans (hb3.mono hB.out.size)); clear hb3)
      | (go_at_call 39; have _t := tok1; refine (newAdvC c8 _ hr.out).mono ?_; rintro e w4 ⟨p1, rfl, g1, hp1, hb3⟩; replace hf1 := Lib.hid (hf1.out.below hb3 hf1.out.lt); have hY1 := cfgs hf1.out; have l1 := Blk.lt hp1; (try replace hp0 := Lib.hid (Blk.below hp0.out hb3 (Blk.lt hp0.out))); replace hp1 := Lib.hid hp1; have z1 := hb3.size; replace hB := Lib.hid (hB.out.trans (hb3.mono hB.out.size)); clear hb3 tok1 _t)
      | (go_at_call 39; refine (newAdvC c8 _ hr.out).mono ?_; rintro e w5 ⟨p2, rfl, g2, hp2, hb3⟩; replace hf1 := Lib.hid (hf1.out.below hb3 hf1.out.lt); have hY2 := cfgs hf1.out; have l2 := Blk.lt hp2; (try replace hp0 := Lib.hid (Blk.below hp0.out hb3 (Blk.lt hp0.out))); replace hp1 := Lib.hid (Blk.below hp1.out hb3 (Blk.lt hp1.out)); replace hp2 := Lib.hid hp2; have z2 := hb3.size; replace hB := Lib.hid (hB.out.trans (hb3.mono hB.out.size)); clear hb3))
    all_goals
      go_wp2
      go_meet
      case rel =>
        first
          | exact ⟨p0, p1, p2, rfl, rfl, rfl, hp0.out, hp1.out, hp2.out, by omega, by omega, by omega, by omega, by omega, by omega, hB.out⟩
          | exact ⟨p0, p2, p1, rfl, rfl, rfl, hp0.out, hp2.out, hp1.out, by omega, by omega, by omega, by omega, by omega, by omega, hB.out⟩
  case rest =>
    obtain ⟨pa, pb, pc, rfl, rfl, rfl, ha, hb', hc', nab, nac, nbc, ga, gb, gc, hbl⟩ := hcut
    have hcf := Lib.hid (hf1.out.below hbl hf1.out.lt)
    have hM := Lib.hid (hM0.next hbl)
    have hT' := bT hT.out hbl
    rw [hCFe] at hT'
    replace hT := Lib.hid hT'
    have sz2 := hbl.size
    have hf := hfi
    have hE : Hid ((Ms.of 13 F8).f = F8) := Lib.hid rfl
    clear hf1 hM0 hbl hX hT' hfi
    have hA := Lib.hid ha
    have hB := Lib.hid hb'
    have hC := Lib.hid hc'
    clear ha hb' hc'
    have k1 : True := trivial
    have k2 : True := trivial
    have k4 : True := trivial
    have k5 : True := trivial
    have k6 : True := trivial
    go_wp2_with (first
        | (go_at_call 33; have _t := k1; refine (pnA hr.out hM.out hf.out hn.out (by omega) (not_two (by omega) (by omega))  hA.out).mono ?_; rintro e v1 ⟨rfl, M', hP', hM', ef', et', hf', hF'⟩; have hE' := (show M'.f = F8 from ef'.trans hE.out); replace hB := Lib.hid (Blk.fr hB.out hF' (not_three (by omega) (by omega) (by omega))); replace hC := Lib.hid (Blk.fr hC.out hF' (not_three (by omega) (by omega) (by omega))); replace hcf := Lib.hid (Blk.fr hcf.out hF' (not_three (by omega) (by omega) (by omega))); have hTT := below_three hT.out hF' (by have := hT.out.size; omega) (by omega) (by omega) (by omega); replace hT := Lib.hid hTT; have zz1 := hF'.size; clear hTT hF'; rw [show (Ms.of 13 F8).f 1 = 0 from by decide +kernel] at hP'; replace hA := Lib.hid hP'; replace hM := Lib.hid hM'; replace hf := Lib.hid hf'; replace hE := Lib.hid hE'; clear hP' hM' hf' ef' et' hE'; clear k1 _t)
        | (go_at_call 33; have _t := k2; refine (pnB hr.out hM.out hf.out hn.out (by omega) (not_two (by omega) (by omega)) (k := 0) ⟨by decide, by decide⟩ hA.out).mono ?_; rintro e v2 ⟨rfl, M', hP', hM', ef', et', hf', hF'⟩; have hE' := (show M'.f = F8b from by rw [ef', hE.out]; rfl); replace hB := Lib.hid (Blk.fr hB.out hF' (not_three (by omega) (by omega) (by omega))); replace hC := Lib.hid (Blk.fr hC.out hF' (not_three (by omega) (by omega) (by omega))); replace hcf := Lib.hid (Blk.fr hcf.out hF' (not_three (by omega) (by omega) (by omega))); have hTT := below_three hT.out hF' (by have := hT.out.size; omega) (by omega) (by omega) (by omega); replace hT := Lib.hid hTT; have zz2 := hF'.size; clear hTT hF'; replace hA := Lib.hid hP'; replace hM := Lib.hid hM'; replace hf := Lib.hid hf'; replace hE := Lib.hid hE'; clear hP' hM' hf' ef' et' hE'; clear k2 _t)
        | (go_at_call 33; refine (pnC hr.out hM.out hf.out hn.out (by omega) (not_two (by omega) (by omega)) (by rw [hE.out]; decide +kernel) hA.out).mono ?_; rintro e v3 ⟨rfl, M', hP', hM', ef', et', hf', hF'⟩; have hE' := (show M'.f = F8b from ef'.trans hE.out); replace hB := Lib.hid (Blk.fr hB.out hF' (not_three (by omega) (by omega) (by omega))); replace hC := Lib.hid (Blk.fr hC.out hF' (not_three (by omega) (by omega) (by omega))); replace hcf := Lib.hid (Blk.fr hcf.out hF' (not_three (by omega) (by omega) (by omega))); have hTT := below_three hT.out hF' (by have := hT.out.size; omega) (by omega) (by omega) (by omega); replace hT := Lib.hid hTT; have zz3 := hF'.size; clear hTT hF'; replace hA := Lib.hid hP'; replace hM := Lib.hid hM'; replace hf := Lib.hid hf'; replace hE := Lib.hid hE'; clear hP' hM' hf' ef' et' hE')
        | (go_at_call 41; have _t := k4; refine (adS hr.out hM.out hf.out hn.out (by omega) (not_two (by omega) (by omega))  hB.out).mono ?_; rintro e v4 ⟨rfl, M', hP', hM', ef', et', hf', hF'⟩; have hE' := (show M'.f = F8b from ef'.trans hE.out); replace hA := Lib.hid (Blk.fr hA.out hF' (not_three (by omega) (by omega) (by omega))); replace hC := Lib.hid (Blk.fr hC.out hF' (not_three (by omega) (by omega) (by omega))); replace hcf := Lib.hid (Blk.fr hcf.out hF' (not_three (by omega) (by omega) (by omega))); have hTT := below_three hT.out hF' (by have := hT.out.size; omega) (by omega) (by omega) (by omega); replace hT := Lib.hid hTT; have zz4 := hF'.size; clear hTT hF'; rw [hE.out, show F8b 1 = 0 from by decide +kernel] at hP'; replace hB := Lib.hid hP'; replace hM := Lib.hid hM'; replace hf := Lib.hid hf'; replace hE := Lib.hid hE'; clear hP' hM' hf' ef' et' hE'; clear k4 _t)
        | (go_at_call 41; have _t := k5; refine (adN hr.out hM.out hf.out hn.out (by omega) (not_two (by omega) (by omega)) ⟨by decide, by decide⟩ (by rw [hE.out]; exact .inr (by decide +kernel)) hB.out).mono ?_; rintro e v5 ⟨rfl, M', hP', hM', ef', et', hf', hF'⟩; have hE' := (show M'.f = F8b from ef'.trans hE.out); replace hA := Lib.hid (Blk.fr hA.out hF' (not_three (by omega) (by omega) (by omega))); replace hC := Lib.hid (Blk.fr hC.out hF' (not_three (by omega) (by omega) (by omega))); replace hcf := Lib.hid (Blk.fr hcf.out hF' (not_three (by omega) (by omega) (by omega))); have hTT := below_three hT.out hF' (by have := hT.out.size; omega) (by omega) (by omega) (by omega); replace hT := Lib.hid hTT; have zz5 := hF'.size; clear hTT hF'; rw [if_pos (show (0 : Int) + 1 = c8.C from rfl)] at hP'; replace hB := Lib.hid hP'; replace hM := Lib.hid hM'; replace hf := Lib.hid hf'; replace hE := Lib.hid hE'; clear hP' hM' hf' ef' et' hE'; clear k5 _t)
        | (go_at_call 41; have _t := k6; refine (adW hr.out hM.out hf.out hn.out (by omega) (not_two (by omega) (by omega)) (by rw [hE.out]; decide +kernel) hB.out).mono ?_; rintro e v6 ⟨rfl, M', hP', hM', ef', et', hf', hF'⟩; have hE' := (show M'.f = F8c from by rw [ef', hE.out]; rfl); replace hA := Lib.hid (Blk.fr hA.out hF' (not_three (by omega) (by omega) (by omega))); replace hC := Lib.hid (Blk.fr hC.out hF' (not_three (by omega) (by omega) (by omega))); replace hcf := Lib.hid (Blk.fr hcf.out hF' (not_three (by omega) (by omega) (by omega))); have hTT := below_three hT.out hF' (by have := hT.out.size; omega) (by omega) (by omega) (by omega); replace hT := Lib.hid hTT; have zz6 := hF'.size; clear hTT hF'; replace hB := Lib.hid hP'; replace hM := Lib.hid hM'; replace hf := Lib.hid hf'; replace hE := Lib.hid hE'; clear hP' hM' hf' ef' et' hE'; clear k6 _t))
    go_loopw [6] (fun z wr => ∃ (i : Nat) (N : Ms), i ≤ 9 ∧ z = .int .i64 (i : Int) ∧ AdvB wr pc c8 0 (if i = 0 then 0 else 1) 0 (if i = 0 then 0 else 1) ∧ MemB wr m b N ∧ N.f = F8c ∧ Fine N 13 (6 + i) ∧ PinB wr pa 0 4 3 ∧ AdvB wr pb c8 ((0 + 1) % 18446744073709551616) 0 (0 + 1) 3 ∧ Blk wr CF 23 #[.int .i64 c8.S, .int .i64 c8.A, .int .i64 c8.C, .int .i64 c8.H, .int .i64 c8.G, .int .i64 c8.K] ∧ Below CF w wr ∧ w1.drew.heap.size ≤ wr.heap.size) (fun z _ => 9 - (intOf z).toNat)
    case atStart => exact ⟨0, _, by omega, rfl, hC.out, hM.out, hE.out, hf.out.mono (by omega), hA.out, hB.out, hcf.out, hT.out, by omega⟩
    case round =>
      obtain ⟨i, N, hi, rfl, c1, c2, c3, c4, c5, c6, c7, c8', c9⟩ := hrel
      have hC := Lib.hid c1
      have hM := Lib.hid c2
      have hE := Lib.hid c3
      have hf := Lib.hid c4
      have hA := Lib.hid c5
      have hB := Lib.hid c6
      have hcf := Lib.hid c7
      have hT := Lib.hid c8'
      have hle : i = 0 ∨ (0 < i ∧ i < 9) ∨ i = 9 := by omega
      clear c1 c2 c3 c4 c5 c6 c7 c8'
      rcases hle with rfl | hlt | rfl
      · go_wp2_with (go_at_call 41; refine (adS hr.out hM.out hf.out hn.out (by omega) (not_two (by omega) (by omega))  hC.out).mono ?_; rintro e v1 ⟨rfl, M', hP', hM', ef', et', hf', hF'⟩; have hE' := (show M'.f = F8c from ef'.trans hE.out); replace hA := Lib.hid (Blk.fr hA.out hF' (not_three (by omega) (by omega) (by omega))); replace hB := Lib.hid (Blk.fr hB.out hF' (not_three (by omega) (by omega) (by omega))); replace hcf := Lib.hid (Blk.fr hcf.out hF' (not_three (by omega) (by omega) (by omega))); have hTT := below_three hT.out hF' (by have := hT.out.size; omega) (by omega) (by omega) (by omega); replace hT := Lib.hid hTT; have zz1 := hF'.size; clear hTT hF'; rw [hE.out, show F8c 1 = 1 from by decide +kernel] at hP'; replace hC := Lib.hid hP'; replace hM := Lib.hid hM'; replace hf := Lib.hid hf'; replace hE := Lib.hid hE'; clear hP' hM' hf' ef' et' hE')
        go_roundw
        case rel =>
          have hC2 := hC.out
          exact ⟨1, _, by omega, rfl, hC2, hM.out, hE.out, hf.out.mono (by omega), hA.out, hB.out, hcf.out, hT.out, by omega⟩
        case measure => simp [intOf]
      · have hC2 := hC.out
        rw [if_neg (by omega)] at hC2
        clear hC
        have hC := Lib.hid hC2
        clear hC2
        obtain ⟨hl0, hl9⟩ := hlt
        go_wp2_with (go_at_call 41; refine (adB hr.out hM.out hf.out hn.out (by omega) (not_two (by omega) (by omega)) ⟨by decide, by decide⟩ (by rw [hE.out]; decide +kernel) hC.out).mono ?_; rintro e v1 ⟨rfl, M', hP', hM', ef', et', hf', hF'⟩; have hE' := (show M'.f = F8c from ef'.trans hE.out); replace hA := Lib.hid (Blk.fr hA.out hF' (not_three (by omega) (by omega) (by omega))); replace hB := Lib.hid (Blk.fr hB.out hF' (not_three (by omega) (by omega) (by omega))); replace hcf := Lib.hid (Blk.fr hcf.out hF' (not_three (by omega) (by omega) (by omega))); have hTT := below_three hT.out hF' (by have := hT.out.size; omega) (by omega) (by omega) (by omega); replace hT := Lib.hid hTT; have zz1 := hF'.size; clear hTT hF'; replace hC := Lib.hid hP'; replace hM := Lib.hid hM'; replace hf := Lib.hid hf'; replace hE := Lib.hid hE'; clear hP' hM' hf' ef' et' hE')
        go_roundw
        case rel =>
          have hC2 := hC.out
          exact ⟨i + 1, _, by omega, by go_num, by rw [if_neg (by omega)]; exact hC2, hM.out, hE.out, hf.out.mono (by omega), hA.out, hB.out, hcf.out, hT.out, by omega⟩
        case measure => simp [intOf]; omega
      · have j0 := Blk.cell hA.out (i := 0) (v := .int .u64 0) rfl
        have j1 := Blk.cell hB.out (i := 0) (v := .int .u64 1) rfl
        obtain ⟨k0, k1, k2, k3, k4, k5⟩ := cfgs hcf.out
        have e4 : Cf.pin c8 0 = 4 := by decide +kernel
        have ok := hf.out.ok (by decide) (by omega)
        have e5 : N.ldV 4 = 1 := by
          rw [ld_v (by decide) (by rw [hf.out.n]; decide), hE.out]
          decide +kernel
        replace e4 := Lib.hid e4
        replace e5 := Lib.hid e5
        replace ok := Lib.hid ok
        go_wp2_with (first
          | (go_at_call 36; refine (pinAtC c8 _ 0).mono ?_; rintro e w8 ⟨rfl, hb8⟩; rw [e4.out]; replace hM := Lib.hid (hM.out.next hb8); replace hT := Lib.hid (hT.out.trans (hb8.mono (by have := hT.out.size; omega))); have hz8 := hb8.size; clear hb8)
          | (go_at_call 35; refine (load_c _ m b N 4 hM.out ok.out).mono ?_; rintro e w9 ⟨rfl, _, hF9⟩; rw [e5.out]; have hTT := hT.out.trans (hF9.below (n := CF) (fun k hk => ⟨by have := hT.out.size; omega, fun x => x.elim (fun e => by omega) (fun e => by omega)⟩)); replace hT := Lib.hid hTT; clear hTT hF9))
        go_ret
        exact ⟨rfl, hT.out⟩
end Go.Proofs.Ytijfkpoofpcacaa.EpochA
