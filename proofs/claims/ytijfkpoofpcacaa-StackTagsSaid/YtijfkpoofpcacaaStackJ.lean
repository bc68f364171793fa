/-
  The law StackTags' walk; condition: the arguments as they are read.
-/
import Derived.Test.YtijfkpoofpcacaaQueueI
import Derived.Test.YtijfkpoofpcacaaOpenB
set_option linter.unusedVariables false
set_option linter.unusedSimpArgs false
namespace Go.Proofs.Ytijfkpoofpcacaa.StackJ
open Go.RowKit Go.Proofs.YtijfkpoofpcacaaW.PrintWords Go.Proofs.Ytijfkpoofpcacaa.Blk Go.Proofs.Ytijfkpoofpcacaa.Core Go.Proofs.Ytijfkpoofpcacaa.MemC Go.Proofs.Ytijfkpoofpcacaa.MemD Go.Proofs.Ytijfkpoofpcacaa.MemT Go.Proofs.Ytijfkpoofpcacaa.Memory Go.Proofs.Ytijfkpoofpcacaa.PlanC Go.Proofs.Ytijfkpoofpcacaa.PlanD Go.Proofs.Ytijfkpoofpcacaa.StackC Go.Proofs.Ytijfkpoofpcacaa.StackL Go.Proofs.Ytijfkpoofpcacaa.StackS Go.Proofs.Ytijfkpoofpcacaa.StackT Go.Proofs.Ytijfkpoofpcacaa.StackF Go.Proofs.Ytijfkpoofpcacaa.StackP Go.Proofs.Ytijfkpoofpcacaa.StackQ Go.Proofs.Ytijfkpoofpcacaa.StackG Go.Proofs.Ytijfkpoofpcacaa.StackI Go.Proofs.Ytijfkpoofpcacaa.QueueI Go.Proofs.Ytijfkpoofpcacaa.Opens
theorem tag_of {c : Cf} (hr : c.right = true) {f : Nat → Int} {t : Int} {L : List Int} (h : Stk c f t L) : (f 3).tdiv 65536 = t ∧ 0 ≤ t := by
  have hb := hd_bd h.lk
  have hS := S_bd hr
  have ht := h.t0
  have h2 := hb.2 (by omega)
  refine ⟨?_, ht⟩
  rw [Int.tdiv_eq_ediv_of_nonneg (by rw [h.top]; omega), h.top]
  omega
theorem ups_len : ∀ (n k : Nat), (ups k n).length = n
  | 0, _ => rfl
  | n + 1, k => by show (ups (k + 1) n).length + 1 = n + 1; rw [ups_len n (k + 1)]
set_option maxHeartbeats 4000000 in
set_option maxRecDepth 100000 in
theorem tagsC (c0 : Cf) (w : World) (A : Option Addr) (nw cw : Nat) (g : Nat → Bool) (hl : nw ≤ cw) (hS : Sl w A nw 1 (fun i _ => .bool (g i))) (hnw : nw ≤ 140737488355328) : Calls Try.prog 12 #[.agg #[.int .i64 c0.S, .int .i64 c0.A, .int .i64 c0.C, .int .i64 c0.H, .int .i64 c0.G, .int .i64 c0.K], .slice A nw cw] w fun e w' => e = .returned (.bool true) ∧ Below w.heap.size w w' := by
  replace hS := Lib.hid hS
  have hf0 := Lib.hid (Blk.new w 23 #[.int .i64 c0.S, .int .i64 c0.A, .int .i64 c0.C, .int .i64 c0.H, .int .i64 c0.G, .int .i64 c0.K])
  have hT0 := Lib.hid ((Below.refl w.heap.size w).alloc (Nat.le_refl _) (.cells #[.int .i64 c0.S, .int .i64 c0.A, .int .i64 c0.C, .int .i64 c0.H, .int .i64 c0.G, .int .i64 c0.K] 23))
  go_enter Try.func12, Try.ntmps12
  generalize hCFe : w.heap.size = CF at *
  by_cases hw : 200 < nw
  · have hw' : (200 : Int) < (nw : Int) := by omega
    go_wp2_with (first
      | (go_at_call 31; refine (fitC c0 _).mono ?_; rintro e w1 ⟨c, rfl, hs, hb1⟩; have hr := small_right hs; have hf1 := hf0.out.below hb1 hf0.out.lt; obtain ⟨k0, k1, k2, k3, k4, k5⟩ := cfgs hf1; have z0 := hf1.frozen 0; have z1 := hf1.frozen 1; have z2 := hf1.frozen 2; have z3 := hf1.frozen 3; have z4 := hf1.frozen 4; have z5 := hf1.frozen 5; replace hf1 := Lib.hid hf1; replace hT0 := Lib.hid (hT0.out.trans (hb1.mono (by have := hT0.out.size; omega))); clear hb1; replace hr := Lib.hid hr; replace hs := Lib.hid hs)
      | (go_at_call 20; (show Calls _ _ _ (six w1 CF c) _); clear k0 k1 k2 k3 k4 k5 z0 z1 z2 z3 z4 z5; have hf2 := six_blk (c := c) hf1.out; have hT2 := six_below (c := c) hT0.out (b := CF) (by omega); generalize six w1 CF c = w2 at *; refine (memC c _ hr.out).mono ?_; rintro e w3 ⟨m, b, rfl, hM3, hm, hb, hb3⟩; have hf3 := hf2.below hb3 hf2.lt; have lt3 := hf2.lt; replace hT2 := Lib.hid (hT2.trans (hb3.mono (by have := hT2.size; omega))); have hcf := Lib.hid hf3; replace hM3 := Lib.hid hM3; obtain ⟨q0, q1, q2, q3, q4, q5⟩ := cfgs hf3; clear hb3 hf2 hf3)
      | (go_at_call 27; refine (awake7C _).mono ?_; rintro e w4 ⟨rfl, hb'⟩; replace hT2 := Lib.hid (hT2.out.trans (hb'.mono (by have := hT2.out.size; omega))); clear hb'))
    go_ret
    exact ⟨by simp [hw], hCFe ▸ hT2.out⟩
  · have hw' : ¬ (200 : Int) < (nw : Int) := by omega
    go_wp2_with (first
      | (go_at_call 31; refine (fitC c0 _).mono ?_; rintro e w1 ⟨c, rfl, hs, hb1⟩; have hr := small_right hs; have hf1 := hf0.out.below hb1 hf0.out.lt; obtain ⟨k0, k1, k2, k3, k4, k5⟩ := cfgs hf1; have z0 := hf1.frozen 0; have z1 := hf1.frozen 1; have z2 := hf1.frozen 2; have z3 := hf1.frozen 3; have z4 := hf1.frozen 4; have z5 := hf1.frozen 5; replace hf1 := Lib.hid hf1; replace hT0 := Lib.hid (hT0.out.trans (hb1.mono (by have := hT0.out.size; omega))); clear hb1; replace hr := Lib.hid hr; replace hs := Lib.hid hs)
      | (go_at_call 20; (show Calls _ _ _ (six w1 CF c) _); clear k0 k1 k2 k3 k4 k5 z0 z1 z2 z3 z4 z5; have hf2 := six_blk (c := c) hf1.out; have hT2 := six_below (c := c) hT0.out (b := CF) (by omega); generalize six w1 CF c = w2 at *; refine (memC c _ hr.out).mono ?_; rintro e w3 ⟨m, b, rfl, hM3, hm, hb, hb3⟩; have hf3 := hf2.below hb3 hf2.lt; have lt3 := hf2.lt; replace hT2 := Lib.hid (hT2.trans (hb3.mono (by have := hT2.size; omega))); have hcf := Lib.hid hf3; replace hM3 := Lib.hid hM3; obtain ⟨q0, q1, q2, q3, q4, q5⟩ := cfgs hf3; clear hb3 hf2 hf3))
    obtain ⟨n, hn⟩ : ∃ n : Nat, (n : Int) = c.size := ⟨c.size.toNat, by have := size_bd hr.out; unfold Cf.size; omega⟩
    have hS := S_bd hr.out
    have hf := Lib.hid (fine_of (n := n) (memF_U c.A c.C c.H (c.S - 1).toNat (by omega)))
    have hM : MemB w3 m b (Ms.of n (memF c.A c.C c.H (c.S - 1).toNat)) := by
      have := hM3.out
      rw [← hn, Int.toNat_natCast] at this
      exact this
    replace hM := Lib.hid hM
    have hT := hT2
    have ltm := hM.out.lm
    have ltb := hM.out.lb
    have mCF : CF < m := by omega
    have bCF : CF < b := by omega
    have hn8 := size_bd hr.out
    have hn8' : 9 ≤ n ∧ n ≤ 800 := by unfold Cf.size at hn; omega
    replace hn := Lib.hid hn
    clear hM3 hT0 hf1 hf0 hT2 hS hn8
    have hc1 := hs.out
    unfold Cf.small at hc1
    have hS12 : c.S ≤ 12 := by omega
    have hS1 : 1 ≤ c.S := by omega
    obtain ⟨k, hk⟩ := Int.eq_ofNat_of_zero_le (show 0 ≤ c.S by omega)
    have hst := stk_start hr.out
    rw [show c.S.toNat = k by omega] at hst
    have hPt : Part c (ups 0 k) [] := ⟨List.nodup_nil, fun x h => (by cases h), fun x h => (by cases h), by rw [ups_len]; simp; omega⟩
    have hQ := QJ.nil w3 w3.heap.size w3.heap.size
    obtain ⟨B, hB⟩ : ∃ B : Nat, B = w3.heap.size := ⟨_, rfl⟩
    rw [← hB] at hQ
    have mB : m < B := by omega
    have bB : b < B := by omega
    have cB : CF < B := by omega
    clear hc1
    replace hk := Lib.hid hk
    go_loopw [6, 7, 8] (fun vh vn vi wr => ∃ (i t D : Nat) (L Q : List Int) (M : Ms), i ≤ nw ∧ t ≤ i ∧ vn = .int .u64 (t : Int) ∧ vi = .int .i64 (i : Int) ∧ D ≤ wr.heap.size ∧ QJ wr B D vh Q ∧ Part c L Q ∧ Stk c M.f t L ∧ MemB wr m b M ∧ Fine M n (3 * i) ∧ Blk wr CF 23 #[.int .i64 c.S, .int .i64 c.A, .int .i64 c.C, .int .i64 c.H, .int .i64 c.G, .int .i64 c.K] ∧ Below CF w wr ∧ B ≤ wr.heap.size) (fun _ _ vi _ => nw - (intOf vi).toNat)
    case atStart => exact ⟨0, 0, B, ups 0 k, [], _, by omega, by omega, rfl, rfl, by omega, hQ, hPt, hst, hM.out, hf.out, hcf.out, hT.out, by omega⟩
    case round =>
      obtain ⟨i, t, D, L, Q, M, hi, ht, rfl, rfl, hD, c1, c2, c3, c4, c5, c6, c7, c8⟩ := hrel
      clear hQ hPt hst hM hf hcf hT q0 q1 q2 q3 q4 q5 hB
      obtain ⟨AQ, cQ, rfl, hcQ⟩ := c1.slice
      have hP := Lib.hid c2
      have hE := Lib.hid c3
      have hM := Lib.hid c4
      have hf := Lib.hid c5
      have hcf := Lib.hid c6
      have hT := Lib.hid c7
      obtain ⟨q0, q1, q2, q3, q4, q5⟩ := cfgs c6
      by_cases hlt : i < nw
      · have hlt' : (i : Int) < (nw : Int) := by omega
        have hQ := Lib.hid (c1.start (Nat.le_refl _))
        obtain ⟨bw, ow, hAw, hcw⟩ := (hS.out.below c7 (by omega)).at_ hlt
        subst hAw
        have jW : wr.cell? ⟨bw, ow + i, none⟩ = some (.bool (g i)) := by simpa using hcw 0 (by decide)
        have hi0 : (0 : Int) ≤ i := by omega
        clear c1 c2 c3 c4 c5 c6 c7 hcw
        cases hg : g i with
        | true =>
          rw [hg] at jW
          replace hg := Lib.hid hg
          go_wp2_with (first
      | (go_at_call 44; refine (newPopC c _ hr.out).mono ?_; rintro e v1 ⟨p, rfl, gp, hP0, hb'⟩; replace hcf := Lib.hid (Blk.below hcf.out hb' (Blk.lt hcf.out)); replace hM := Lib.hid (hM.out.next hb'); replace hT := Lib.hid (hT.out.trans (hb'.mono (by have := hT.out.size; omega))); replace hQ := Lib.hid (hQ.out.below hb'); have hI := Lib.hid (take_new hE.out hP0); have lp := Blk.lt hP0; have gp1 := hb'.size; clear hP0; have zz1 := hb'.size; clear hb'))
          obtain ⟨D1, hD1⟩ : ∃ D1 : Nat, D1 = wr.heap.size := ⟨_, rfl⟩
          rw [← hD1] at hQ
          have gpD : D1 ≤ p := by omega
          clear hD1
          go_loopw [10] (fun z wr => ∃ (e : Nat) (M : Ms), e ≤ 3 ∧ z = .int .i64 (e : Int) ∧ TakeI wr p c M.f (t : Int) L e ∧ QJ wr B D1 (.slice AQ Q.length cQ) Q ∧ MemB wr m b M ∧ Fine M n (3 * i + e) ∧ Blk wr CF 23 #[.int .i64 c.S, .int .i64 c.A, .int .i64 c.C, .int .i64 c.H, .int .i64 c.G, .int .i64 c.K] ∧ Below CF w wr ∧ v1.heap.size ≤ wr.heap.size) (fun z _ => 3 - (intOf z).toNat)
          case atStart => exact ⟨0, _, by omega, rfl, hI.out, hQ.out, hM.out, hf.out, hcf.out, hT.out, by omega⟩
          case round =>
            obtain ⟨e, M2, he, rfl, c0', c1, c2, c4, c6, c7, d8⟩ := hrel
            clear hI hQ hM hf hcf hT q0 q1 q2 q3 q4 q5
            have hI := Lib.hid c0'
            have hQ := Lib.hid c1
            have hM := Lib.hid c2
            have hf := Lib.hid c4
            have hcf := Lib.hid c6
            have hT := Lib.hid c7
            obtain ⟨q0, q1, q2, q3, q4, q5⟩ := cfgs c6
            clear c0' c1 c2 c4 c6 c7
            by_cases hle : e < 3
            · have hle' : (e : Int) < 3 := by omega
              go_wp2_with (first
      | (go_at_call 45; refine (tkC hr.out hM.out hf.out hn.out (by omega) (not_two (by omega) (by omega)) (t := (t : Int)) (by omega) hle hI.out).mono ?_; rintro e v1 ⟨dd, rfl, M', hP', hM', hf', hF'⟩; replace hcf := Lib.hid (Blk.fr hcf.out hF' (not_three (by omega) (by omega) (by omega))); replace hQ := Lib.hid (hQ.out.fr hF' (fun k hk => by rcases hk with rfl | rfl | rfl <;> omega)); have hTT := below_three hT.out hF' (by have := hT.out.size; omega) (by omega) (by omega) (by omega); replace hT := Lib.hid hTT; have zz1 := hF'.size; clear hTT hF'; replace hI := Lib.hid hP'; replace hM := Lib.hid hM'; clear hP' hM'; replace hf := Lib.hid hf'; clear hf'))
              go_roundw
              case rel => exact ⟨e + 1, _, by omega, by go_num, hI.out, hQ.out, hM.out, hf.out, hcf.out, hT.out, by omega⟩
              case measure => simp [intOf]; omega
            · have hge : ¬ (e : Int) < 3 := by omega
              have e3' : e = 3 := by omega
              have hI3 := hI.out
              rw [e3'] at hI3
              obtain ⟨sl, ⟨em, tp, nx, hp0⟩, hTk⟩ := take_end hI3 (fun x hx => hE.out.lk.mem x hx)
              have j0 := Blk.cell hp0 (i := 0) (v := .int .i64 sl) rfl
              replace hf := Lib.hid (hf.out.mono (show 3 * i + e ≤ 3 * (i + 1) by omega))
              clear hI hI3 e3'
              rcases hTk with ⟨hL, hsl, hE2⟩ | ⟨r, hL, hsl, hE2⟩
              · have hneg : ¬ 0 ≤ sl := by omega
                replace hsl := Lib.hid hsl
                replace hL := Lib.hid hL
                replace hE2 := Lib.hid hE2
                obtain ⟨t1, t2⟩ := tag_of hr.out hE2.out
                have t3 : IntKind.u64.wrap (t : Int) = t := Core.wrap_u64_id _ (by omega) (by omega)
                have t4 : ((t : Int) != (t : Int)) = false := by simp
                have hnn := hf.out.n
                replace hnn := Lib.hid hnn
                go_wp2_with (first
      | (go_at_call 24; refine (words_n _ m b n _ hM.out hnn.out (by omega)).mono ?_; rintro e u1 ⟨A1, cc1, b1, rfl, _, hR1, hb'⟩; obtain ⟨hA1, j3, _⟩ := hR1.cell (i := 3) (by omega); subst hA1; replace hcf := Lib.hid (hcf.out.below hb' hcf.out.lt); replace hM := Lib.hid (hM.out.next hb'); replace hQ := Lib.hid (hQ.out.below hb'); have zw := hb'.size; replace hT := Lib.hid (hT.out.trans (hb'.mono (by have := hT.out.size; omega))); clear hb' hR1))
                go_roundw
                case rel => exact ⟨i + 1, t, _, _, _, _, by omega, by omega, by go_num, by go_num, Nat.le_refl _, (hQ.out.start (Nat.le_refl _)), (by have := hP.out; rw [hL.out] at this; exact this), hE2.out, hM.out, hf.out, hcf.out, hT.out, by omega⟩
                case measure => simp [intOf]; omega
              · have hge0 := hsl.1
                obtain ⟨t1, t2⟩ := tag_of hr.out hE2
                have t3 : IntKind.u64.wrap ((t : Int) + 1) = (t : Int) + 1 := Core.wrap_u64_id _ (by omega) (by omega)
                have t4 : (((t : Int) + 1) != ((t : Int) + 1)) = false := by simp
                have hqa := hP.out.all
                have hql : (Q.length + 1) * 8 ≤ 140737488355328 := by omega
                have hPt := hP.out
                rw [hL] at hPt
                have hnd := hE.out.nd
                rw [hL] at hnd
                have hP2 := Lib.hid (hPt.take hsl hnd)
                have hql2 : (Q ++ [sl]).length = Q.length + 1 := by simp
                have hnn := hf.out.n
                replace hnn := Lib.hid hnn
                replace hL := Lib.hid hL
                replace hE2 := Lib.hid hE2
                replace hql2 := Lib.hid hql2
                clear hqa hPt hnd
                go_wp2_with (first
      | ((with_reducible refine gate_builtin (b := .append) (xs := #[.tmp 54, .tmp 59]) rfl ?_); at_builtin; refine QJ.append (w0 := wr) (B := B) (D := D1) rfl (.tmp 54) (.tmp 59) 35 rfl Try.underlying35 infoI (.slice AQ Q.length cQ) Q sl rfl rfl hQ.out (Below.refl B wr) (by omega) hql ?_; intro v2' w10 hq10 hb10; replace hQ := Lib.hid hq10; replace hcf := Lib.hid (Blk.below hcf.out hb10 cB); replace hM := Lib.hid (hM.out.below hb10 mB bB); replace hT := Lib.hid (hT.out.trans (hb10.mono (by omega))); have z10 := hb10.size; clear hb10 hq10)
      | (go_at_call 24; refine (words_n _ m b n _ hM.out hnn.out (by omega)).mono ?_; rintro e u1 ⟨A1, cc1, b1, rfl, _, hR1, hb'⟩; obtain ⟨hA1, j3, _⟩ := hR1.cell (i := 3) (by omega); subst hA1; replace hcf := Lib.hid (hcf.out.below hb' hcf.out.lt); replace hM := Lib.hid (hM.out.next hb'); replace hQ := Lib.hid (hQ.out.below hb'); have zw := hb'.size; replace hT := Lib.hid (hT.out.trans (hb'.mono (by have := hT.out.size; omega))); clear hb' hR1))
                go_roundw
                case rel => exact ⟨i + 1, t + 1, _, _, _, _, by omega, by omega, by go_num, by go_num, Nat.le_refl _, (hQ.out.start (Nat.le_refl _)), hP2.out, hE2.out, hM.out, hf.out, hcf.out, hT.out, by omega⟩
                case measure => simp [intOf]; omega
        | false =>
          rw [hg] at jW
          replace hg := Lib.hid hg
          obtain ⟨t1, t2⟩ := tag_of hr.out hE.out
          have hnn := hf.out.n
          replace hnn := Lib.hid hnn
          generalize hnq : Q.length = nq at *
          cases Q with
          | nil =>
            obtain rfl : nq = 0 := hnq.symm
            clear hnq
            have t3 : IntKind.u64.wrap (t : Int) = t := Core.wrap_u64_id _ (by omega) (by omega)
            have t4 : ((t : Int) != (t : Int)) = false := by simp
            have l0 : ([] : List Int).length = 0 := rfl
            go_wp2_with (first
      | (go_at_call 24; refine (words_n _ m b n _ hM.out hnn.out (by omega)).mono ?_; rintro e u1 ⟨A1, cc1, b1, rfl, _, hR1, hb'⟩; obtain ⟨hA1, j3, _⟩ := hR1.cell (i := 3) (by omega); subst hA1; replace hcf := Lib.hid (hcf.out.below hb' hcf.out.lt); replace hM := Lib.hid (hM.out.next hb'); replace hQ := Lib.hid (hQ.out.below hb'); have zw := hb'.size; replace hT := Lib.hid (hT.out.trans (hb'.mono (by have := hT.out.size; omega))); clear hb' hR1))
            go_roundw
            case rel => exact ⟨i + 1, t, _, _, _, _, by omega, by omega, by go_num, by go_num, Nat.le_refl _, (hQ.out.start (Nat.le_refl _)), hP.out, hE.out, hM.out, hf.out.mono (by omega), hcf.out, hT.out, by omega⟩
            case measure => simp [intOf]; omega
          | cons x s =>
            obtain ⟨hn1, hc1, bq, oq, hAq, jQ⟩ := hQ.out.first
            clear t1
            subst hAq
            have hnq' : nq = s.length + 1 := hnq.symm
            have hnqS : nq = s.length + 1 := hnq'
            have hpos : (0 : Int) < (nq : Int) := by omega
            have hpos' : 0 < nq := by omega
            replace hn1 := Lib.hid hn1
            clear hnq hnq'
            replace hnqS := Lib.hid hnqS
            have hx := hP.out.rg x (List.mem_cons_self ..)
            have hxL := hP.out.ap x (List.mem_cons_self ..)
            go_wp2
            replace hM := Lib.hid hM.out.drew
            replace hQ := Lib.hid hQ.out.drew
            replace hcf := Lib.hid (Blk.drew hcf.out)
            replace hT := Lib.hid hT.out.drew
            have hX : (wr.drew.cell? ⟨CF, 0, none⟩ = some (.int .i64 c.S) ∧ wr.drew.cell? ⟨CF, 1, none⟩ = some (.int .i64 c.A) ∧ wr.drew.cell? ⟨CF, 2, none⟩ = some (.int .i64 c.C) ∧ wr.drew.cell? ⟨CF, 3, none⟩ = some (.int .i64 c.H) ∧ wr.drew.cell? ⟨CF, 4, none⟩ = some (.int .i64 c.G) ∧ wr.drew.cell? ⟨CF, 5, none⟩ = some (.int .i64 c.K)) ∧ wr.drew.cell? ⟨bq, oq, none⟩ = some (.int .i64 x) := ⟨cfgs hcf.out, jQ⟩
            have z0r : wr.drew.heap.size = wr.heap.size := rfl
            clear q0 q1 q2 q3 q4 q5
            go_cut [11] (fun va wx => ∃ p, va = .pointer (some ⟨p, 0, none⟩) ∧ wr.heap.size ≤ p ∧ LayI wx p c M.f (t : Int) L x 0 ∧ p < wx.heap.size ∧ MemB wx m b M ∧ QJ wx B wr.heap.size (.slice (some ⟨bq, oq, none⟩) nq cQ) (x :: s) ∧ Blk wx CF 23 #[.int .i64 c.S, .int .i64 c.A, .int .i64 c.C, .int .i64 c.H, .int .i64 c.G, .int .i64 c.K] ∧ Below CF w wx)
            case first =>
              go_region_held3 (fun w' => (w'.cell? ⟨CF, 0, none⟩ = some (.int .i64 c.S) ∧ w'.cell? ⟨CF, 1, none⟩ = some (.int .i64 c.A) ∧ w'.cell? ⟨CF, 2, none⟩ = some (.int .i64 c.C) ∧ w'.cell? ⟨CF, 3, none⟩ = some (.int .i64 c.H) ∧ w'.cell? ⟨CF, 4, none⟩ = some (.int .i64 c.G) ∧ w'.cell? ⟨CF, 5, none⟩ = some (.int .i64 c.K)) ∧ w'.cell? ⟨bq, oq, none⟩ = some (.int .i64 x)) (assumption) (first
      | (go_at_call 46; refine (newPushC c _ x hr.out hx.1 hx.2).mono ?_; rintro e v1 ⟨p, rfl, gp, hP0, hb'⟩; replace hcf := Lib.hid (Blk.below hcf.out hb' (Blk.lt hcf.out)); replace hM := Lib.hid (hM.out.next hb'); replace hT := Lib.hid (hT.out.trans (hb'.mono (by have := hT.out.size; omega))); replace hQ := Lib.hid (hQ.out.below hb'); have hI := Lib.hid (lay_new hE.out hP0); have lp := Blk.lt hP0; have gp1 := hb'.size; obtain ⟨e0, _, bq', oq', eq', jQ'⟩ := hQ.out.first; clear e0; cases eq'; have hY : (v1.cell? ⟨CF, 0, none⟩ = some (.int .i64 c.S) ∧ v1.cell? ⟨CF, 1, none⟩ = some (.int .i64 c.A) ∧ v1.cell? ⟨CF, 2, none⟩ = some (.int .i64 c.C) ∧ v1.cell? ⟨CF, 3, none⟩ = some (.int .i64 c.H) ∧ v1.cell? ⟨CF, 4, none⟩ = some (.int .i64 c.G) ∧ v1.cell? ⟨CF, 5, none⟩ = some (.int .i64 c.K)) ∧ v1.cell? ⟨bq, oq, none⟩ = some (.int .i64 x) := ⟨cfgs hcf.out, jQ'⟩; clear hP0; have zz1 := hb'.size; clear hb'))
              all_goals
                go_wp2
                go_meet
                case rel => exact ⟨p, rfl, gp, hI.out, lp, hM.out, hQ.out, hcf.out, hT.out⟩
            case rest =>
              obtain ⟨p, rfl, gp, c0', lp, c1, c2, c6, c7⟩ := hcut
              clear hM hQ hcf hT hX jQ
              have hI := Lib.hid c0'
              have hM := Lib.hid c1
              have hQ := Lib.hid c2
              have hcf := Lib.hid c6
              have hT := Lib.hid c7
              obtain ⟨q0, q1, q2, q3, q4, q5⟩ := cfgs c6
              clear c0' c1 c2 c6 c7
              go_wp2
              go_loopw [12] (fun z wz => ∃ (e : Nat) (M : Ms), e ≤ 3 ∧ z = .int .i64 (e : Int) ∧ LayI wz p c M.f (t : Int) L x e ∧ MemB wz m b M ∧ Fine M n (3 * i + e) ∧ QJ wz B wr.heap.size (.slice (some ⟨bq, oq, none⟩) nq cQ) (x :: s) ∧ Blk wz CF 23 #[.int .i64 c.S, .int .i64 c.A, .int .i64 c.C, .int .i64 c.H, .int .i64 c.G, .int .i64 c.K] ∧ Below CF w wz ∧ wc.heap.size ≤ wz.heap.size) (fun z _ => 3 - (intOf z).toNat)
              case atStart => exact ⟨0, _, by omega, rfl, hI.out, hM.out, hf.out, hQ.out, hcf.out, hT.out, by omega⟩
              case round =>
                obtain ⟨e, M2, he, rfl, c0', c1, c4, c2, c6, c7, d8⟩ := hrel
                clear hI hQ hM hf hcf hT q0 q1 q2 q3 q4 q5
                have hI := Lib.hid c0'
                have hM := Lib.hid c1
                have hf := Lib.hid c4
                have hQ := Lib.hid c2
                have hcf := Lib.hid c6
                have hT := Lib.hid c7
                obtain ⟨q0, q1, q2, q3, q4, q5⟩ := cfgs c6
                clear c0' c1 c2 c4 c6 c7
                by_cases hle : e < 3
                · have hle' : (e : Int) < 3 := by omega
                  go_wp2_with (first
      | (go_at_call 47; refine (lyC hr.out hM.out hf.out hn.out (by omega) (not_two (by omega) (by omega)) (t := (t : Int)) (by omega) hle hx hxL hI.out).mono ?_; rintro e v1 ⟨dd, rfl, M', hP', hM', hf', hF'⟩; replace hcf := Lib.hid (Blk.fr hcf.out hF' (not_three (by omega) (by omega) (by omega))); replace hQ := Lib.hid (hQ.out.fr hF' (fun k hk => by rcases hk with rfl | rfl | rfl <;> omega)); have hTT := below_three hT.out hF' (by have := hT.out.size; omega) (by omega) (by omega) (by omega); replace hT := Lib.hid hTT; have zz1 := hF'.size; clear hTT hF'; replace hI := Lib.hid hP'; replace hM := Lib.hid hM'; clear hP' hM'; replace hf := Lib.hid hf'; clear hf'))
                  go_roundw
                  case rel => exact ⟨e + 1, _, by omega, by go_num, hI.out, hM.out, hf.out, hQ.out, hcf.out, hT.out, by omega⟩
                  case measure => simp [intOf]; omega
                · have hge : ¬ (e : Int) < 3 := by omega
                  have e3' : e = 3 := by omega
                  have hI3 := hI.out
                  rw [e3'] at hI3
                  have hE2 := lay_end hI3
                  obtain ⟨t1, t2⟩ := tag_of hr.out hE2
                  have t3 : IntKind.u64.wrap ((t : Int) + 1) = (t : Int) + 1 := Core.wrap_u64_id _ (by omega) (by omega)
                  have t4 : (((t : Int) + 1) != ((t : Int) + 1)) = false := by simp
                  have hnn := hf.out.n
                  replace hnn := Lib.hid hnn
                  replace hE2 := Lib.hid hE2
                  have hP2 := Lib.hid hP.out.lay
                  have hQ0 := hQ
                  replace hQ := Lib.hid hQ.out.next1
                  clear hI hI3 e3'
                  go_wp2_with (first
      | (go_at_call 24; refine (words_n _ m b n _ hM.out hnn.out (by omega)).mono ?_; rintro e u1 ⟨A1, cc1, b1, rfl, _, hR1, hb'⟩; obtain ⟨hA1, j3, _⟩ := hR1.cell (i := 3) (by omega); subst hA1; replace hcf := Lib.hid (hcf.out.below hb' hcf.out.lt); replace hM := Lib.hid (hM.out.next hb'); replace hQ := Lib.hid (hQ.out.below hb'); have zw := hb'.size; replace hT := Lib.hid (hT.out.trans (hb'.mono (by have := hT.out.size; omega))); clear hb' hR1))
                  go_roundw
                  case rel => exact ⟨i + 1, t + 1, _, _, _, _, by omega, by omega, by go_num, by go_num, Nat.le_refl _, (hQ.out.start (Nat.le_refl _)), hP2.out, hE2.out, hM.out, hf.out.mono (by omega), hcf.out, hT.out, by omega⟩
                  case measure => simp [intOf]; omega
      · have hlt' : ¬ (i : Int) < (nw : Int) := by omega
        have hLL := hE.out.list hr.out
        have hu := hf.out.u
        have hnn := hf.out.n
        have hall := hP.out.all
        have e1 : IntKind.i64.wrap (c.S - (Q.length : Int)) = c.S - (Q.length : Int) := IntWalk.i64_in _ (by omega)
        have e2 : ((L.length : Int) == c.S - (Q.length : Int)) = true := by rw [beq_iff_eq]; omega
        clear c1 c2 c3 c4 c5 c6 c7 hall
        replace hLL := Lib.hid hLL
        replace hnn := Lib.hid hnn
        go_wp2
        replace hM := Lib.hid hM.out.drew
        replace hcf := Lib.hid (Blk.drew hcf.out)
        replace hT := Lib.hid hT.out.drew
        have hX : wr.drew.cell? ⟨CF, 0, none⟩ = some (.int .i64 c.S) ∧ wr.drew.cell? ⟨CF, 1, none⟩ = some (.int .i64 c.A) ∧ wr.drew.cell? ⟨CF, 2, none⟩ = some (.int .i64 c.C) ∧ wr.drew.cell? ⟨CF, 3, none⟩ = some (.int .i64 c.H) ∧ wr.drew.cell? ⟨CF, 4, none⟩ = some (.int .i64 c.G) ∧ wr.drew.cell? ⟨CF, 5, none⟩ = some (.int .i64 c.K) := cfgs hcf.out
        clear q0 q1 q2 q3 q4 q5
        go_region_held3 (fun w' => w'.cell? ⟨CF, 0, none⟩ = some (.int .i64 c.S) ∧ w'.cell? ⟨CF, 1, none⟩ = some (.int .i64 c.A) ∧ w'.cell? ⟨CF, 2, none⟩ = some (.int .i64 c.C) ∧ w'.cell? ⟨CF, 3, none⟩ = some (.int .i64 c.H) ∧ w'.cell? ⟨CF, 4, none⟩ = some (.int .i64 c.G) ∧ w'.cell? ⟨CF, 5, none⟩ = some (.int .i64 c.K)) (assumption) (first
      | (go_at_call 24; refine (words_n _ m b n _ hM.out hnn.out (by omega)).mono ?_; rintro e u1 ⟨A1, cc1, b1, rfl, _, hR1, hb'⟩; replace hcf := Lib.hid (Blk.below hcf.out hb' (Blk.lt hcf.out)); replace hM := Lib.hid (hM.out.next hb'); replace hT := Lib.hid (hT.out.trans (hb'.mono (by have := hT.out.size; omega))); have hY1 : u1.cell? ⟨CF, 0, none⟩ = some (.int .i64 c.S) ∧ u1.cell? ⟨CF, 1, none⟩ = some (.int .i64 c.A) ∧ u1.cell? ⟨CF, 2, none⟩ = some (.int .i64 c.C) ∧ u1.cell? ⟨CF, 3, none⟩ = some (.int .i64 c.H) ∧ u1.cell? ⟨CF, 4, none⟩ = some (.int .i64 c.G) ∧ u1.cell? ⟨CF, 5, none⟩ = some (.int .i64 c.K) := cfgs hcf.out; replace hR1 := Lib.hid hR1; clear hb')
      | (go_at_call 29; refine (listC c _ _ _ _ n M.f hu hr.out hn.out hR1.out).mono ?_; rintro e u2 ⟨u, rfl, hLu, hb'⟩; rw [hLL.out] at hLu; obtain ⟨A2, cc2, rfl, _⟩ := hLu; replace hcf := Lib.hid (Blk.below hcf.out hb' (Blk.lt hcf.out)); replace hM := Lib.hid (hM.out.next hb'); replace hT := Lib.hid (hT.out.trans (hb'.mono (by have := hT.out.size; omega))); have hY2 : u2.cell? ⟨CF, 0, none⟩ = some (.int .i64 c.S) ∧ u2.cell? ⟨CF, 1, none⟩ = some (.int .i64 c.A) ∧ u2.cell? ⟨CF, 2, none⟩ = some (.int .i64 c.C) ∧ u2.cell? ⟨CF, 3, none⟩ = some (.int .i64 c.H) ∧ u2.cell? ⟨CF, 4, none⟩ = some (.int .i64 c.G) ∧ u2.cell? ⟨CF, 5, none⟩ = some (.int .i64 c.K) := cfgs hcf.out; clear hb')
      | (go_at_call 27; refine (awake7C _).mono ?_; rintro e u3 ⟨rfl, hb'⟩; replace hcf := Lib.hid (Blk.below hcf.out hb' (Blk.lt hcf.out)); replace hM := Lib.hid (hM.out.next hb'); replace hT := Lib.hid (hT.out.trans (hb'.mono (by have := hT.out.size; omega))); have hY3 : u3.cell? ⟨CF, 0, none⟩ = some (.int .i64 c.S) ∧ u3.cell? ⟨CF, 1, none⟩ = some (.int .i64 c.A) ∧ u3.cell? ⟨CF, 2, none⟩ = some (.int .i64 c.C) ∧ u3.cell? ⟨CF, 3, none⟩ = some (.int .i64 c.H) ∧ u3.cell? ⟨CF, 4, none⟩ = some (.int .i64 c.G) ∧ u3.cell? ⟨CF, 5, none⟩ = some (.int .i64 c.K) := cfgs hcf.out; clear hb'))
        all_goals
          go_wp2
          go_ret
          exact ⟨rfl, hCFe ▸ hT.out⟩
end Go.Proofs.Ytijfkpoofpcacaa.StackJ
