/-
  The law StackAlone's walk; condition: the config as it is read.
-/
import Derived.Test.YtijfkpoofpcacaaStackG
set_option linter.unusedVariables false
namespace Go.Proofs.Ytijfkpoofpcacaa.StackW
open Go.RowKit Go.Proofs.YtijfkpoofpcacaaW.PrintWords Go.Proofs.Ytijfkpoofpcacaa.Blk Go.Proofs.Ytijfkpoofpcacaa.Core Go.Proofs.Ytijfkpoofpcacaa.MemC Go.Proofs.Ytijfkpoofpcacaa.MemD Go.Proofs.Ytijfkpoofpcacaa.MemT Go.Proofs.Ytijfkpoofpcacaa.Memory Go.Proofs.Ytijfkpoofpcacaa.PlanC Go.Proofs.Ytijfkpoofpcacaa.PlanD Go.Proofs.Ytijfkpoofpcacaa.StackC Go.Proofs.Ytijfkpoofpcacaa.StackL Go.Proofs.Ytijfkpoofpcacaa.StackS Go.Proofs.Ytijfkpoofpcacaa.StackT Go.Proofs.Ytijfkpoofpcacaa.StackF Go.Proofs.Ytijfkpoofpcacaa.StackP Go.Proofs.Ytijfkpoofpcacaa.StackQ Go.Proofs.Ytijfkpoofpcacaa.StackG Go.Proofs.Ytijfkpoofpcacaa.Opens
def downs : Nat → List Int
  | 0 => []
  | n + 1 => (n : Int) :: downs n
theorem downs_len (n : Nat) : (downs n).length = n := by
  induction n with
  | zero => rfl
  | succ n ih => simp [downs, ih]
theorem downs_mem {n : Nat} {x : Int} (h : x ∈ downs n) : 0 ≤ x ∧ x < n := by
  induction n with
  | zero => cases h
  | succ n ih =>
    rcases List.mem_cons.1 h with rfl | h
    · omega
    · have := ih h; omega
theorem Stk.cast {c : Cf} {f : Nat → Int} {t t' : Int} {L L' : List Int} (h : Stk c f t L) (e : t = t') (e' : L = L') : Stk c f t' L' := by subst e; subst e'; exact h
set_option maxHeartbeats 4000000 in
set_option maxRecDepth 100000 in
theorem aloneC (c0 : Cf) (w : World) : Calls Try.prog 14 #[.agg #[.int .i64 c0.S, .int .i64 c0.A, .int .i64 c0.C, .int .i64 c0.H, .int .i64 c0.G, .int .i64 c0.K]] w fun e w' => e = .returned (.bool true) ∧ Below w.heap.size w w' := by
  have hf := Lib.hid (Blk.new w 23 #[.int .i64 c0.S, .int .i64 c0.A, .int .i64 c0.C, .int .i64 c0.H, .int .i64 c0.G, .int .i64 c0.K])
  have hT0 := Lib.hid ((Below.refl w.heap.size w).alloc (Nat.le_refl _) (.cells #[.int .i64 c0.S, .int .i64 c0.A, .int .i64 c0.C, .int .i64 c0.H, .int .i64 c0.G, .int .i64 c0.K] 23))
  go_enter Try.func14, Try.ntmps14
  generalize hCFe : w.heap.size = CF at *
  go_wp2_with (first
    | (go_at_call 31; refine (fitC c0 _).mono ?_; rintro e w1 ⟨c, rfl, hs, hb1⟩; have hr := small_right hs; have hf1 := hf.out.below hb1 hf.out.lt; obtain ⟨k0, k1, k2, k3, k4, k5⟩ := cfgs hf1; have z0 := hf1.frozen 0; have z1 := hf1.frozen 1; have z2 := hf1.frozen 2; have z3 := hf1.frozen 3; have z4 := hf1.frozen 4; have z5 := hf1.frozen 5; replace hf1 := Lib.hid hf1; replace hT0 := Lib.hid (hT0.out.trans (hb1.mono (by have := hT0.out.size; omega))); clear hb1; replace hr := Lib.hid hr; replace hs := Lib.hid hs)
    | (go_at_call 20; (show Calls _ _ _ (six w1 CF c) _); clear k0 k1 k2 k3 k4 k5 z0 z1 z2 z3 z4 z5; have hf2 := six_blk (c := c) hf1.out; have hT2 := six_below (c := c) hT0.out (b := CF) (by omega); generalize six w1 CF c = w2 at *; refine (memC c _ hr.out).mono ?_; rintro e w3 ⟨m, b, rfl, hM3, hm, hb, hb3⟩; have hf3 := hf2.below hb3 hf2.lt; have lt3 := hf2.lt; replace hT2 := Lib.hid (hT2.trans (hb3.mono (by have := hT2.size; omega))); replace hf3 := Lib.hid hf3; replace hM3 := Lib.hid hM3; clear hb3 hf2))
  have hS := S_bd hr.out
  obtain ⟨k, hk⟩ := Int.eq_ofNat_of_zero_le (show 0 ≤ c.S by omega)
  have hkk : c.S.toNat = k := by omega
  obtain ⟨n, hn⟩ : ∃ n : Nat, (n : Int) = c.size := ⟨c.size.toNat, by have := size_bd hr.out; unfold Cf.size; omega⟩
  have hst := stk_start hr.out
  have hfi := fine_of (n := n) (memF_U c.A c.C c.H (c.S - 1).toNat (by omega))
  have hMM : MemB w3 m b (Ms.of n (memF c.A c.C c.H (c.S - 1).toNat)) := by
    have := hM3.out
    rw [← hn, Int.toNat_natCast] at this
    exact this
  rw [hkk] at hst
  have hk64 : k ≤ 64 := by omega
  have hk1 : 1 ≤ k := by omega
  replace hk := Lib.hid hk
  replace hn := Lib.hid hn
  clear hkk hM3 hT0 hf1 hf
  replace hst := Lib.hid hst
  replace hfi := Lib.hid hfi
  replace hMM := Lib.hid hMM
  clear hS
  have mCF : CF < m := by omega
  have bCF : CF < b := by omega
  have ltm := hMM.out.lm
  have ltb := hMM.out.lb
  go_loopw [4] (fun z wr => ∃ (s : Nat) (M : Ms), s ≤ k ∧ z = .int .i64 (s : Int) ∧ MemB wr m b M ∧ Fine M n (3 * s) ∧ Stk c M.f s (ups s (k - s)) ∧ Blk wr CF 23 #[.int .i64 c.S, .int .i64 c.A, .int .i64 c.C, .int .i64 c.H, .int .i64 c.G, .int .i64 c.K] ∧ Below w.heap.size w wr) (fun z _ => k - (intOf z).toNat)
  case atStart => exact ⟨0, _, Nat.zero_le _, rfl, hMM.out, hfi.out, hst.out, hf3.out, hCFe.symm ▸ hT2.out⟩
  case round =>
    obtain ⟨s, M, hs', rfl, hMs, hfs, hss, hcs, hWs⟩ := hrel
    have kc0 := cfgs hcs
    obtain ⟨k0, k1, k2, k3, k4, k5⟩ := kc0
    have lts := hMs.lm
    have ltsb := hMs.lb
    have ltc := hcs.lt
    have hkS := hk.out
    by_cases hlt : s < k
    · have hltS : (s : Int) < c.S := by omega
      obtain ⟨d, hd⟩ : ∃ d, k - s = d + 1 := ⟨k - s - 1, by omega⟩
      rw [hd] at hss
      change Stk c M.f s ((s : Int) :: ups (s + 1) d) at hss
      replace hkS := Lib.hid hkS
      have hU := hfs.u
      replace hMs := Lib.hid hMs
      replace hfs := Lib.hid hfs
      replace hss := Lib.hid hss
      replace hcs := Lib.hid hcs
      replace hWs := Lib.hid hWs
      replace hd := Lib.hid hd
      clear hU
      have hT1 : 3 * s ≤ 1000 := by omega
      have hne : ((s : Int) != (s : Int)) = false := by simp
      have tk1 : True := trivial
      have tk2 : True := trivial
      have tk3 : True := trivial
      go_wp2_with (first
        | (go_at_call 44; refine (newPopC c _ hr.out).mono ?_; rintro e w4 ⟨p, rfl, hp, hP, hb4⟩; replace hMs := Lib.hid (hMs.out.next hb4); replace hcs := Lib.hid (hcs.out.below hb4 hcs.out.lt); replace hWs := Lib.hid (hWs.out.trans (hb4.mono (by have := hWs.out.size; exact this))); have npm : p ≠ m := (by omega); have npb : p ≠ b := (by omega); have npc : CF ≠ p := (by omega); have ltp := Blk.lt hP; replace hP := Lib.hid hP; clear hb4)
        | (go_at_call 45; have _t := tk1; refine (al1 hr.out hMs.out hfs.out hn.out (by omega) (not_two npm npb) hss.out hP.out (by decide) (by decide)).mono ?_; rintro e w5 ⟨rfl, M1, hP1, hM1, ef1, hf1, hF1⟩; have hs1 : Stk c M1.f s ((s : Int) :: ups (s + 1) d) := (by rw [ef1]; exact hss.out); have hc1 := hcs.out.fr hF1 (not_three npc (by omega) (by omega)); replace hP1 := Lib.hid hP1; replace hM1 := Lib.hid hM1; replace hf1 := Lib.hid hf1; replace hF1 := Lib.hid hF1; replace hs1 := Lib.hid hs1; replace hc1 := Lib.hid hc1; clear tk1 _t ef1)
        | (go_at_call 45; have _t := tk2; refine (al2 hr.out hM1.out hf1.out hn.out (by omega) (not_two npm npb) hs1.out hP1.out).mono ?_; rintro e w6 ⟨rfl, M2, hP2, hM2, ef2, hf2, hF2⟩; have hs2 : Stk c M2.f s ((s : Int) :: ups (s + 1) d) := (by rw [ef2]; exact hs1.out); have hc2 := hc1.out.fr hF2 (not_three npc (by omega) (by omega)); replace hP2 := Lib.hid hP2; replace hM2 := Lib.hid hM2; replace hf2 := Lib.hid hf2; replace hF2 := Lib.hid hF2; replace hs2 := Lib.hid hs2; replace hc2 := Lib.hid hc2; clear tk2 _t ef2)
        | (go_at_call 45; have _t := tk3; refine (al3 hr.out hM2.out hf2.out hn.out (by omega) (not_two npm npb) hs2.out (by omega) hP2.out).mono ?_; rintro e w7 ⟨rfl, M3, hP3, hM3, hs3, hf3', hF3⟩; have hc3 := hc2.out.fr hF3 (not_three npc (by omega) (by omega)); have j0 := Blk.cell hP3 (i := 0) (v := .int .i64 (s : Int)) rfl; have j1 := Blk.cell hP3 (i := 1) (v := .bool false) rfl; have hu3 := Lib.hid (hf2.out.u 3); replace hP3 := Lib.hid hP3; replace hM3 := Lib.hid hM3; replace hf3' := Lib.hid hf3'; replace hF3 := Lib.hid hF3; replace hs3 := Lib.hid hs3; replace hc3 := Lib.hid hc3; clear tk3 _t)
        | (go_at_call 45; refine (al4 hr.out hM3.out hf3'.out hn.out (by omega) (not_two npm npb) hP3.out hu3.out.1 hu3.out.2).mono ?_; rintro e w8 ⟨rfl, hP4, hM4, hF4⟩; have hc4 := hc3.out.fr hF4 (not_three npc (by omega) (by omega)); replace hP4 := Lib.hid hP4; replace hM4 := Lib.hid hM4; replace hF4 := Lib.hid hF4; replace hc4 := Lib.hid hc4))
      go_roundw
      case rel =>
        have e1 : k - (s + 1) = d := by have := hd.out; omega
        have z := hWs.out.size
        have b1 := below_three hWs.out (((hF1.out.trans hF2.out).trans hF3.out).trans hF4.out) z (by omega) (by omega) (by omega)
        exact ⟨s + 1, M3, by omega, by go_num, hM4.out, hf3'.out, Stk.cast hs3.out (by omega) (by rw [e1]), hc4.out, b1⟩
      case measure => simp [intOf]; omega
    · have : s = k := by omega
      subst this
      have e0 : s - s = 0 := by omega
      rw [e0] at hss
      change Stk c M.f s [] at hss
      have hnS : ¬ (s : Int) < c.S := by omega
      have hT1 : 3 * s ≤ 1000 := by omega
      replace hkS := Lib.hid hkS
      replace hMs := Lib.hid hMs
      replace hfs := Lib.hid hfs
      replace hss := Lib.hid hss
      replace hcs := Lib.hid hcs
      replace hWs := Lib.hid hWs
      have tk1 : True := trivial
      go_wp2_with (first
        | (go_at_call 44; refine (newPopC c _ hr.out).mono ?_; rintro e w4 ⟨p, rfl, hp, hP, hb4⟩; replace hMs := Lib.hid (hMs.out.next hb4); replace hcs := Lib.hid (hcs.out.below hb4 hcs.out.lt); replace hWs := Lib.hid (hWs.out.trans (hb4.mono (by have := hWs.out.size; exact this))); have npm : p ≠ m := (by omega); have npb : p ≠ b := (by omega); have npc : CF ≠ p := (by omega); have ltp := Blk.lt hP; replace hP := Lib.hid hP; clear hb4)
        | (go_at_call 45; have _t := tk1; refine (alE hr.out hMs.out hfs.out hn.out (by omega) (not_two npm npb) hss.out hP.out (by decide) (by decide)).mono ?_; rintro e w5 ⟨rfl, M1, hP1, hM1, ef1, hf1, hF1⟩; have hs1 : Stk c M1.f s [] := (by rw [ef1]; exact hss.out); have hc1 := hcs.out.fr hF1 (not_three npc (by omega) (by omega)); have j0 := Blk.cell hP1 (i := 0) (v := .int .i64 (-1)) rfl; have j1 := Blk.cell hP1 (i := 1) (v := .bool true) rfl; have hu1 := Lib.hid (hf1.u 3); have hne2 : (M1.t != M1.t) = false := (by simp); obtain ⟨l0, l1, l2, l3, l4, l5⟩ := cfgs hc1; replace hP1 := Lib.hid hP1; replace hM1 := Lib.hid hM1; replace hf1 := Lib.hid hf1; replace hF1 := Lib.hid hF1; replace hs1 := Lib.hid hs1; replace hc1 := Lib.hid hc1; clear tk1 _t ef1)
        | (go_at_call 26; have _t := hM1; refine (touches_c _ m b _ hM1.out).mono ?_; rintro e w6 ⟨rfl, rfl⟩; clear _t)
        | (go_at_call 45; refine (al4 hr.out hM1.out hf1.out hn.out (by omega) (not_two npm npb) hP1.out hu1.out.1 hu1.out.2).mono ?_; rintro e w8 ⟨rfl, hP4, hM4, hF4⟩; have hc4 := hc1.out.fr hF4 (not_three npc (by omega) (by omega)); obtain ⟨l0, l1, l2, l3, l4, l5⟩ := cfgs hc4; replace hP4 := Lib.hid hP4; replace hM4 := Lib.hid hM4; replace hF4 := Lib.hid hF4; replace hc4 := Lib.hid hc4; clear hM1)
        | (go_at_call 26; refine (touches_c _ m b _ hM4.out).mono ?_; rintro e w9 ⟨rfl, rfl⟩))
      have z0 := hWs.out.size
      have hW2 := Lib.hid (below_three hWs.out (hF1.out.trans hF4.out) z0 (by omega) (by omega) (by omega))
      have z1 := hF1.out.size
      have z4 := hF4.out.size
      have ltm8 := hM4.out.lm
      have ltb8 := hM4.out.lb
      have ltc8 := hc4.out.lt
      clear hF1 hF4 hP4 hP1 hMs hfs hss hcs hc1 hWs hu1 hne2 k0 k1 k2 k3 k4 k5 l0 l1 l2 l3 l4 l5 j0 j1 npm npb npc z1 z4 z0 hp ltp
      generalize hB : w8.heap.size = B at *
      have hO : w8.ownsRow B 3 1 (.slice none 0 0) (downs 0).length (nums .i64 (downs 0)) := World.ownsRow_nil _ _ _ _
      replace hO := Lib.hid hO
      go_loopw [8, 9] (fun v z wq => ∃ (j : Nat) (N : Ms), j ≤ s ∧ z = .int .i64 (j : Int) ∧ MemB wq m b N ∧ Fine N n (3 * s + 1 + 3 * j) ∧ Stk c N.f (s + j : Nat) (downs j) ∧ Blk wq CF 23 #[.int .i64 c.S, .int .i64 c.A, .int .i64 c.C, .int .i64 c.H, .int .i64 c.G, .int .i64 c.K] ∧ Below w.heap.size w wq ∧ wq.ownsRow B 3 1 v (downs j).length (nums .i64 (downs j)) ∧ B ≤ wq.heap.size) (fun _ z _ => s - (intOf z).toNat)
      case atStart => exact ⟨0, M1, Nat.zero_le _, rfl, hM4.out, hf1.out, hs1.out, hc4.out, hW2.out, hO.out, by omega⟩
      case round =>
        obtain ⟨j, N, hj', rfl, hMs, hfs, hss, hcs, hWs, hOs, hBs⟩ := hrel
        obtain ⟨k0, k1, k2, k3, k4, k5⟩ := cfgs hcs
        obtain ⟨AL, cL, rfl, hRd⟩ := own_reads hOs
        have hkS := hk.out
        have dl := downs_len j
        have hkq := Lib.hid (fun (k : Nat) (hk : (Value.slice AL (downs j).length cL).ownBlock = some k) => And.intro (own_base hOs k hk) (own_lt hOs k hk))
        by_cases hlt : j < s
        · have hltS : (j : Int) < c.S := by omega
          have hnm : (j : Int) ∉ downs j := fun q => by have := downs_mem q; omega
          replace hkS := Lib.hid hkS
          replace hMs := Lib.hid hMs
          replace hfs := Lib.hid hfs
          replace hss := Lib.hid hss
          replace hcs := Lib.hid hcs
          replace hWs := Lib.hid hWs
          replace hOs := Lib.hid hOs
          replace hRd := Lib.hid hRd
          replace hnm := Lib.hid hnm
          replace dl := Lib.hid dl
          have tk1 : True := trivial
          have tk2 : True := trivial
          go_wp2_with (first
            | (go_at_call 46; refine (newPushC c _ (j : Int) hr.out (by omega) hltS).mono ?_; rintro e w4 ⟨p, rfl, hp, hP, hb4⟩; replace hMs := Lib.hid (hMs.out.next hb4); replace hcs := Lib.hid (hcs.out.below hb4 hcs.out.lt); replace hWs := Lib.hid (hWs.out.trans (hb4.mono (by have := hWs.out.size; exact this))); replace hOs := Lib.hid (pw_own_below hOs.out hb4); have z4 := hb4.size; have npm : p ≠ m := (by omega); have npb : p ≠ b := (by omega); have npc : CF ≠ p := (by omega); have ltp := Blk.lt hP; replace hP := Lib.hid hP; clear hb4)
            | (go_at_call 47; have _t := tk1; refine (pl1 hr.out hMs.out hfs.out hn.out (by omega) (not_two npm npb) hss.out hP.out (by decide) (by decide)).mono ?_; rintro e w5 ⟨rfl, N1, hP1, hN1, ef1, hg1, hF1⟩; have hs1 : Stk c N1.f (s + j : Nat) (downs j) := (by rw [ef1]; exact hss.out); have hc1 := hcs.out.fr hF1 (not_three npc (by omega) (by omega)); replace hP1 := Lib.hid hP1; replace hN1 := Lib.hid hN1; replace hg1 := Lib.hid hg1; replace hF1 := Lib.hid hF1; replace hs1 := Lib.hid hs1; replace hc1 := Lib.hid hc1; clear tk1 _t ef1)
            | (go_at_call 47; have _t := tk2; refine (pl2 hr.out hN1.out hg1.out hn.out (by omega) (not_two npm npb) hs1.out ⟨by omega, hltS⟩ hnm.out hP1.out).mono ?_; rintro e w6 ⟨rfl, N2, hP2, hN2, hs2, hl2, hg2, hF2⟩; have hc2 := hc1.out.fr hF2 (not_three npc (by omega) (by omega)); replace hP2 := Lib.hid hP2; replace hN2 := Lib.hid hN2; replace hg2 := Lib.hid hg2; replace hF2 := Lib.hid hF2; replace hs2 := Lib.hid hs2; replace hl2 := Lib.hid hl2; replace hc2 := Lib.hid hc2; clear tk2 _t)
            | (go_at_call 47; refine (pl3 hr.out hN2.out hg2.out hn.out (by omega) (not_two npm npb) hs2.out (by omega) ⟨by omega, hltS⟩ hnm.out hl2.out hP2.out).mono ?_; rintro e w7 ⟨rfl, N3, hP3, hN3, hs3, hg3, hF3⟩; have hc3 := hc2.out.fr hF3 (not_three npc (by omega) (by omega)); have hF := (hF1.out.trans hF2.out).trans hF3; have hO7 := own_move hOs.out (fun k hk => hF.keep k (own_lt hOs.out k hk) (not_three (by have := hkq.out k hk; omega) (by have := hkq.out k hk; omega) (by have := hkq.out k hk; omega))); have zF := hF.size; have hW7 := Lib.hid (below_three hWs.out hF (by have := hWs.out.size; omega) (by omega) (by omega) (by omega)); replace hO7 := Lib.hid (hO7.alloc (.cells #[.int .i64 (j : Int)] 3)); clear hF; replace hP3 := Lib.hid hP3; replace hN3 := Lib.hid hN3; replace hg3 := Lib.hid hg3; replace hF3 := Lib.hid hF3; replace hs3 := Lib.hid hs3; replace hc3 := Lib.hid hc3)
            | ((with_reducible refine gate_builtin (b := .append) (xs := #[.tmp 127, .tmp 128]) rfl ?_); at_builtin; refine print_append_row (w0 := w7) B rfl (.tmp 127) (.tmp 128) 35 3 .i64 8 rfl Try.underlying35 infoI (by decide) (.slice (some ⟨w7.heap.size, 0, none⟩) 1 1) [(j : Int)] (downs j) AL (downs j).length cL rfl rfl (own_lit w7 B 3 .i64 [(j : Int)] (by omega) (by simp)) (own_reads' hO7.out) ((Below.refl B w7).alloc (by omega) _) (by simp; omega) (by have := dl.out; simp; omega) ?_; intro v1 w10 ho1 hb10 _ _; replace ho1 := Lib.hid ho1; replace hb10 := Lib.hid hb10))
          go_roundw
          case rel =>
            have e1 : ([(j : Int)] ++ downs j) = downs (j + 1) := rfl
            have ho2 := ho1.out
            rw [e1] at ho2
            have z7 := hb10.out.size
            exact ⟨j + 1, N3, by omega, by go_num, hN3.out.below hb10.out (by omega) (by omega), hg3.out.mono (by omega), Stk.cast hs3.out (by omega) rfl, hc3.out.below hb10.out (by omega), hW7.out.trans (hb10.out.mono (by omega)), ho2, by omega⟩
          case measure => simp [intOf]; omega
        · have e2 : j = s := by omega
          subst e2
          have hnS2 : ¬ (j : Int) < c.S := by omega
          have hLL := hss.list hr.out
          have hLi := li_of_own hOs (by omega)
          have hu := hfs.u
          have hnn := hfs.n
          replace hkS := Lib.hid hkS
          replace hM := Lib.hid hMs.drew
          have hcs2 := Lib.hid hcs.drew
          have hX : wr.drew.cell? ⟨CF, 0, none⟩ = some (.int .i64 c.S) ∧ wr.drew.cell? ⟨CF, 1, none⟩ = some (.int .i64 c.A) ∧ wr.drew.cell? ⟨CF, 2, none⟩ = some (.int .i64 c.C) ∧ wr.drew.cell? ⟨CF, 3, none⟩ = some (.int .i64 c.H) ∧ wr.drew.cell? ⟨CF, 4, none⟩ = some (.int .i64 c.G) ∧ wr.drew.cell? ⟨CF, 5, none⟩ = some (.int .i64 c.K) := cfgs hcs.drew
          replace hcs := hcs2
          clear hcs2
          replace hT := Lib.hid hWs.drew
          have hLi := Lib.hid (hLi.below (Below.refl _ _).drew)
          clear hMs hWs hOs hss hfs hRd hkq
          replace hLL := Lib.hid hLL
          replace dl := Lib.hid dl
          replace hnn := Lib.hid hnn
          have hn8 := size_bd hr.out
          have hn8' : n ≤ 800 := by have := hn.out; unfold Cf.size at this; omega
          clear hn8
          go_wp2
          go_region_held3 (fun w' => w'.cell? ⟨CF, 0, none⟩ = some (.int .i64 c.S) ∧ w'.cell? ⟨CF, 1, none⟩ = some (.int .i64 c.A) ∧ w'.cell? ⟨CF, 2, none⟩ = some (.int .i64 c.C) ∧ w'.cell? ⟨CF, 3, none⟩ = some (.int .i64 c.H) ∧ w'.cell? ⟨CF, 4, none⟩ = some (.int .i64 c.G) ∧ w'.cell? ⟨CF, 5, none⟩ = some (.int .i64 c.K)) (assumption) (first
            | (go_at_call 24; refine (words_n _ m b n _ hM.out hnn.out (by omega)).mono ?_; rintro e w11 ⟨A1, c1, b1, rfl, _, hR1, hb⟩; replace hcs := Lib.hid (hcs.out.below hb hcs.out.lt); have hY := cfgs hcs.out; replace hT := Lib.hid (hT.out.trans (hb.mono (by have := hT.out.size; exact this))); replace hLi := Lib.hid (hLi.out.below hb); replace hR1 := Lib.hid hR1; clear hb)
            | (go_at_call 29; refine (listC c _ _ _ _ n N.f hu hr.out hn.out hR1.out).mono ?_; rintro e w12 ⟨u, rfl, hLu, hb⟩; rw [hLL.out] at hLu; replace hcs := Lib.hid (hcs.out.below hb hcs.out.lt); have hZ := cfgs hcs.out; replace hT := Lib.hid (hT.out.trans (hb.mono (by have := hT.out.size; exact this))); replace hLi := Lib.hid (hLi.out.below hb); replace hLu := Lib.hid hLu; clear hb)
            | (go_at_call 28; refine (sameC _ _ _ _ _ (downs j) (downs j) hLu.out hLi.out).mono ?_; rintro e w13 ⟨rfl, hb⟩; rw [decide_eq_true rfl]; replace hcs := Lib.hid (hcs.out.below hb hcs.out.lt); have hQ := cfgs hcs.out; replace hT := Lib.hid (hT.out.trans (hb.mono (by have := hT.out.size; exact this))); clear hb)
            | (go_at_call 27; refine (awake7C _).mono ?_; rintro e w14 ⟨rfl, hb⟩; replace hcs := Lib.hid (hcs.out.below hb hcs.out.lt); have hP := cfgs hcs.out; replace hT := Lib.hid (hT.out.trans (hb.mono (by have := hT.out.size; exact this))); clear hb))
          all_goals
            go_wp2
            go_ret
            exact ⟨rfl, hCFe ▸ hT.out⟩
end Go.Proofs.Ytijfkpoofpcacaa.StackW
