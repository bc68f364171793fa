/-
 What the law ArenaPlays needs of the seat's texts (MakerG, OpenB, OpenW, CoreRow): the words and functions that the kit's print.sh printed, and our own; no condition of its own.
-/
import Derived.ChangeArms
import Derived.Deep.Fields
import Derived.ChangeSame
import Derived.WideShapes
import Derived.RowKit
import Derived.Test.YtijfkpoofpcacaaZArenaPlays5
set_option linter.unusedVariables false
set_option linter.unusedSectionVars false
set_option linter.unusedSimpArgs false
section
namespace Go.Proofs.Ytijfkpoofpcacaa.MakerG
open Go.RowKit Go.Proofs.YtijfkpoofpcacaaW.PrintWords Go.Proofs.Ytijfkpoofpcacaa.Blk Go.Proofs.Ytijfkpoofpcacaa.Core Go.Proofs.Ytijfkpoofpcacaa.MemC Go.Proofs.Ytijfkpoofpcacaa.MemD Go.Proofs.Ytijfkpoofpcacaa.MemT Go.Proofs.Ytijfkpoofpcacaa.Memory Go.Proofs.Ytijfkpoofpcacaa.PlanC Go.Proofs.Ytijfkpoofpcacaa.PlanD Go.Proofs.Ytijfkpoofpcacaa.RefM Go.Proofs.Ytijfkpoofpcacaa.StackC Go.Proofs.Ytijfkpoofpcacaa.StackL Go.Proofs.Ytijfkpoofpcacaa.StackS Go.Proofs.Ytijfkpoofpcacaa.StackF Go.Proofs.Ytijfkpoofpcacaa.StackP Go.Proofs.Ytijfkpoofpcacaa.StackG Go.Proofs.Ytijfkpoofpcacaa.StackT Go.Proofs.Ytijfkpoofpcacaa.HeadC Go.Proofs.Ytijfkpoofpcacaa.ArenaC Go.Proofs.Ytijfkpoofpcacaa.ArenaM Go.Proofs.Ytijfkpoofpcacaa.ArenaP Go.Proofs.Ytijfkpoofpcacaa.ArenaL Go.Proofs.Ytijfkpoofpcacaa.ArenaR Go.Proofs.Ytijfkpoofpcacaa.ArenaQ Go.Proofs.Ytijfkpoofpcacaa.ArenaU Go.Proofs.Ytijfkpoofpcacaa.ArenaW Go.Proofs.Ytijfkpoofpcacaa.ArenaY Go.Proofs.Ytijfkpoofpcacaa.MakerL Go.Proofs.Ytijfkpoofpcacaa.MakerM Go.Proofs.Ytijfkpoofpcacaa.MakerF Go.Proofs.Ytijfkpoofpcacaa.MakerT Go.Proofs.Ytijfkpoofpcacaa.MakerU Go.Proofs.Ytijfkpoofpcacaa.MakerV Go.Proofs.Ytijfkpoofpcacaa.MakerW Go.Proofs.Ytijfkpoofpcacaa.MakerX Go.Proofs.Ytijfkpoofpcacaa.MakerY Go.Proofs.Ytijfkpoofpcacaa.StackQ Go.Proofs.Ytijfkpoofpcacaa.TakerL Go.Proofs.Ytijfkpoofpcacaa.MakerA Go.Proofs.Ytijfkpoofpcacaa.MakerD Go.Proofs.Ytijfkpoofpcacaa.MakerE Go.Proofs.Ytijfkpoofpcacaa.ArenaT Go.Proofs.Ytijfkpoofpcacaa.StackI Go.Proofs.Ytijfkpoofpcacaa.Opens
open Go.Proofs.Ytijfkpoofpcacaa.TakerS (IQ blk_one fr_grown)
open Go.Proofs.Ytijfkpoofpcacaa.TakerT (refListQ)
theorem made_rowi (n : Nat) : madeCells (Value.int .i64 0).cells (n * 1) = rowF .i64 n (fun _ => 0) := by
 refine Array.ext_getElem? fun j => ?_
 rw [Nat.mul_one]
 by_cases hj : j < n
 ·rw [rowF_get hj]
  have : j < (madeCells (Value.int .i64 0).cells n).size := by rw [size_madeCells]; exact hj
  rw [Array.getElem?_eq_getElem this]
  simp [madeCells, Value.cells, Nat.mod_one]
 ·rw [rowF_none hj, Array.getElem?_eq_none]
  rw [size_madeCells]; omega
theorem make_i (C : Nat) (h1 : C ≤ 1000) (w : World) : (Instr.makeSlice 35 (.int .i64 (C : Int)) (.int .i64 (C : Int))).run Try.prog w = .ok (.slice (some ⟨w.heap.size, 0, none⟩) C C) (w.alloc (.cells (rowF .i64 C (fun _ => 0)) 3)) := by
 obtain ⟨i, hi, e⟩ := Option.map_eq_some_iff.1 infoI
 simp only [Prod.mk.injEq] at e
 obtain ⟨e0, e1, e2⟩ := e
 have := run_make w 35 3 i _ Try.underlying35 hi e0 .i64 .i64 C C (by omega) (Int.le_refl _) (by rw [e2]; omega) (by omega)
 rw [e1, Int.toNat_natCast, made_rowi] at this
 exact this
theorem below_drewN9 (w : World) (k : Nat) : Below w.heap.size w (w.drewN k) := below_drewN' (Below.refl w.heap.size w)
theorem below_drew9 (w : World) : Below w.heap.size w w.drew := (Below.refl w.heap.size w).drew
theorem sl_at {w : World} {A : Option Addr} {n m : Nat} {V : Nat → Nat → Value} (h : Sl w A n m V) {i : Nat} (hi : i < n) : ∃ b off, A = some ⟨b, off, none⟩ ∧ b < w.heap.size ∧ ∀ j, j < m → w.cell? ⟨b, off + i * m + j, none⟩ = some (V i j) := by
 obtain ⟨b, off, e, hl, hc⟩ := h (by omega)
 exact ⟨b, off, e, hl, hc i hi⟩
set_option maxHeartbeats 8000000 in
set_option maxRecDepth 100000 in
theorem playsC (c0 : Cf) (w : World) (A1 A2 : Option Addr) (n1 c1 n2 c2 : Nat) (V : Nat → Value) (q : Nat → Int) (hl1 : n1 ≤ c1) (hl2 : n2 ≤ c2) (hS1 : Sl w A1 n1 1 (fun i _ => V i)) (hV : ∀ i, i < n1 → WV w (V i)) (hS2 : Sl w A2 n2 1 (fun i _ => .int .i64 (q i))) (hn2 : n2 ≤ 1152921504606846976) :
  Calls Try.prog 18 #[.agg #[.int .i64 c0.S, .int .i64 c0.A, .int .i64 c0.C, .int .i64 c0.H, .int .i64 c0.G, .int .i64 c0.K], .slice A1 n1 c1, .slice A2 n2 c2] w fun e w' => e = .returned (.bool true) ∧ Below w.heap.size w w' := by
 replace hS1 := Lib.hid hS1
 replace hS2 := Lib.hid hS2
 replace hV := Lib.hid hV
 have hf0 := Lib.hid (Blk.new w 23 #[.int .i64 c0.S, .int .i64 c0.A, .int .i64 c0.C, .int .i64 c0.H, .int .i64 c0.G, .int .i64 c0.K])
 have hT0 := Lib.hid ((Below.refl w.heap.size w).alloc (Nat.le_refl _) (.cells #[.int .i64 c0.S, .int .i64 c0.A, .int .i64 c0.C, .int .i64 c0.H, .int .i64 c0.G, .int .i64 c0.K] 23))
 go_enter Try.func18, Try.ntmps18
 generalize hCFe : w.heap.size = CF at *
 go_upto_region 2 with (go_at_call 31; refine (fitC c0 _).mono ?_; rintro e w1 ⟨ca, rfl, hs, hb1⟩; have hr := small_right hs; have hf1 := hf0.out.below hb1 hf0.out.lt; obtain ⟨k0, k1, k2, k3, k4, k5⟩ := cfgs hf1; have z0 := hf1.frozen 0; have z1 := hf1.frozen 1; have z2 := hf1.frozen 2; have z3 := hf1.frozen 3; have z4 := hf1.frozen 4; have z5 := hf1.frozen 5; replace hf1 := Lib.hid hf1; replace hT0 := Lib.hid (hT0.out.trans (hb1.mono (by have := hT0.out.size; omega))); clear hb1; replace hr := Lib.hid hr; replace hs := Lib.hid hs)
 change Code.wp _ _ _ _ (six w1 CF ca)
 clear k0 k1 k2 k3 k4 k5 z0 z1 z2 z3 z4 z5
 have hf2 := six_blk (c := ca) hf1.out
 have hT2 := six_below (c := ca) hT0.out (b := CF) (by omega)
 generalize six w1 CF ca = w2 at *
 have hc1 := hs.out
 unfold Cf.small at hc1
 obtain ⟨c, hc'⟩ : ∃ c : Cf, (⟨ca.S, ca.A, ca.C, ca.H, 1 + ca.G % 4, ca.K⟩ : Cf) = c := ⟨_, rfl⟩
 have g0 : (0 : Int) ≤ ca.G := by omega
 have g1 : ca.G ≤ 40 := by omega
 have k4 := (cfgs hf2).2.2.2.2.1
 have z4 := hf2.frozen 4
 have hs' : c.small := by rw [← hc']; unfold Cf.small; simp only; omega
 have hr := small_right hs'
 have hf3 : Blk (w2.setCell ⟨CF, 4, none⟩ (.int .i64 (1 + ca.G % 4))) CF 23 #[.int .i64 c.S, .int .i64 c.A, .int .i64 c.C, .int .i64 c.H, .int .i64 c.G, .int .i64 c.K] := by
  rw [← hc']; exact hf2.set 4 _
 have hT3 := hT2.setCell (p := ⟨CF, 4, none⟩) (by show CF ≤ CF; omega) (.int .i64 (1 + ca.G % 4))
 replace hs := Lib.hid hs'
 clear hc1 hT0 hf0 hf1 hf2 hT2 hs' hc'
 replace hr := Lib.hid hr
 go_upto_region 3 with (fail)
 generalize w2.setCell ⟨CF, 4, none⟩ (.int .i64 (1 + ca.G % 4)) = w3 at *
 have hcf := Lib.hid hf3.drew
 have hT := Lib.hid hT3.drew
 have hc1 := hs.out
 unfold Cf.small at hc1
 obtain ⟨kS, hk⟩ := Int.eq_ofNat_of_zero_le (show 0 ≤ c.S by omega)
 have hmk : ∀ w, (Instr.makeSlice 35 (.int .i64 c.S) (.int .i64 c.S)).run Try.prog w = .ok (.slice (some ⟨w.heap.size, 0, none⟩) kS kS) (w.alloc (.cells (rowF .i64 kS (fun _ => 0)) 3)) := by
  rw [hk]; exact make_i kS (by omega)
 have hkS := Lib.hid (show c.S.toNat = kS by omega)
 have hX' : w3.drew.cell? ⟨CF, 0, none⟩ = some (.int .i64 c.S) ∧ w3.drew.cell? ⟨CF, 1, none⟩ = some (.int .i64 c.A) ∧ w3.drew.cell? ⟨CF, 2, none⟩ = some (.int .i64 c.C) ∧ w3.drew.cell? ⟨CF, 3, none⟩ = some (.int .i64 c.H) ∧ w3.drew.cell? ⟨CF, 4, none⟩ = some (.int .i64 c.G) ∧ w3.drew.cell? ⟨CF, 5, none⟩ = some (.int .i64 c.K) := cfgs hcf.out
 have hS12 : c.S ≤ 12 := by omega
 have hS1' : 1 ≤ c.S := by omega
 replace hk := Lib.hid hk
 clear hf3 hT3 hc1 k4 z4
 go_cut [7] (fun v7 wx => ∃ m b RB WB, v7 = .pointer (some ⟨WB, 0, none⟩) ∧ (CF < m ∧ CF < b) ∧ CF < RB ∧ (RB ≠ m ∧ RB ≠ b) ∧ (CF < WB ∧ WB ≠ m ∧ WB ≠ b ∧ RB ≠ WB) ∧ MemB wx m b (Ms.of c.size.toNat (memF c.A c.C c.H (c.S - 1).toNat)) ∧ Blk wx RB 3 (rowF .i64 kS (fun _ => 0)) ∧ Blk wx WB 101 (worldA c m RB) ∧ Blk wx CF 23 #[.int .i64 c.S, .int .i64 c.A, .int .i64 c.C, .int .i64 c.H, .int .i64 c.G, .int .i64 c.K] ∧ Below CF w wx)
 case first =>
  refine wp_region_held_drew (S := fun w' => w'.cell? ⟨CF, 0, none⟩ = some (.int .i64 c.S) ∧ w'.cell? ⟨CF, 1, none⟩ = some (.int .i64 c.A) ∧ w'.cell? ⟨CF, 2, none⟩ = some (.int .i64 c.C) ∧ w'.cell? ⟨CF, 3, none⟩ = some (.int .i64 c.H) ∧ w'.cell? ⟨CF, 4, none⟩ = some (.int .i64 c.G) ∧ w'.cell? ⟨CF, 5, none⟩ = some (.int .i64 c.K)) (by kernel_rfl) hX' (fun hHeld => ?_)
  generalize w3.drew = w3d at *
  refine wpAnyH_take (i := 0) (oi := ⟨some 28, .load 23 (.tmp 3), 23, "law.go:148", #[], none⟩) (v := ?vq1) rfl (by kernel_rfl) (by kernel_rfl) (by kernel_rfl) (fun _ _ _ h => h) (Or.inl ⟨by rfl, ?hyq1⟩) (by assumption) ?rsq1
  case hyq1 => (intro w hSw; first | (go_simp; first | done | with_reducible rfl) | ((try dsimp only at hSw); go_split_ands; go_simp; first | done | with_reducible rfl))
  case' rsq1 => (try simp only [Act.put, pA, pB, pC])
  refine wpAnyH_take (i := 1) (oi := ⟨some 29, .load 23 (.tmp 3), 23, "law.go:148", #[], none⟩) (v := ?vq2) rfl (by kernel_rfl) (by kernel_rfl) (by kernel_rfl) (fun _ _ _ h => h) (Or.inl ⟨by rfl, ?hyq2⟩) (by assumption) ?rsq2
  case hyq2 => (intro w hSw; first | (go_simp; first | done | with_reducible rfl) | ((try dsimp only at hSw); go_split_ands; go_simp; first | done | with_reducible rfl))
  case' rsq2 => (try simp only [Act.put, pA, pB, pC])
  refine wpAnyH_take (i := 3) (oi := ⟨some 31, .fieldAddr 23 (.tmp 3) 0, 0, "law.go:148", #[], none⟩) (v := ?vq3) rfl (by kernel_rfl) (by kernel_rfl) (by kernel_rfl) (fun _ _ _ h => h) (Or.inl ⟨by rfl, ?hyq3⟩) (by assumption) ?rsq3
  case hyq3 => (intro w hSw; first | (go_simp; first | done | with_reducible rfl) | ((try dsimp only at hSw); go_split_ands; go_simp; first | done | with_reducible rfl))
  case' rsq3 => (try simp only [Act.put, pA, pB, pC])
  refine wpAnyH_take (i := 4) (oi := ⟨some 32, .load 3 (.tmp 31), 3, "law.go:148", #[⟨3, .data⟩], none⟩) (v := ?vq4) rfl (by kernel_rfl) (by kernel_rfl) (by kernel_rfl) (fun _ _ _ h => h) (Or.inl ⟨by rfl, ?hyq4⟩) (by assumption) ?rsq4
  case hyq4 => (intro w hSw; first | (go_simp; first | done | with_reducible rfl) | ((try dsimp only at hSw); go_split_ands; go_simp; first | done | with_reducible rfl))
  case' rsq4 => (try simp only [Act.put, pA, pB, pC])
  refine wpAnyH_ready (rs := [2, 5]) (by kernel_rfl) (by simp) ?_
  refine AllReadyH.cons (o := ⟨some 30, .call { callee := .value (.func 20), args := #[.tmp 29], argTypes := #[23] }, 24, "law.go:148", #[⟨1, .data⟩], none⟩) rfl (fun K hK => ?_) ?_
  ·go_simp
   (go_at_call 20; (with_reducible refine (memC c _ hr.out).mono ?_); rintro e wm ⟨m, b, rfl, hM3, hm, hb, hb9⟩; have lcf := hcf.out.lt; have hlm := Lib.hid (show CF < m ∧ CF < b from ⟨by omega, by omega⟩); replace hcf := Lib.hid (hcf.out.below hb9 lcf); have hT9 := hT.out.size; replace hT := Lib.hid (hT.out.trans (hb9.mono (by omega))); (try (have lrb := hR.out.lt; replace hR := Lib.hid (hR.out.below hb9 lrb); have hRm := Lib.hid (show RB ≠ m ∧ RB ≠ b from ⟨by omega, by omega⟩))); have hM := Lib.hid hM3; have hY1 := cfgs hcf.out; clear hb9 hM3 hm hb lcf hT9)
   refine hK.out _ _ (by assumption) (fun hHeld => ?_)
   clear hK K
   try simp only [Act.put, pA, pB, pC]
   refine wpAnyH_ready (rs := [5]) (by kernel_rfl) (by simp) ?_
   refine AllReadyH.cons (o := ⟨some 33, .makeSlice 35 (.tmp 32) (.tmp 32), 35, "law.go:148", #[⟨4, .data⟩, ⟨4, .data⟩], none⟩) rfl (fun K hK => ?_) ?_
   ·go_simp
    (have hN0 := Blk.new wm 3 (rowF .i64 kS (fun _ => 0)); have hb9 := Below.alloc (Below.refl wm.heap.size wm) (Nat.le_refl _) (.cells (rowF .i64 kS (fun _ => 0)) 3); obtain ⟨wz, hwz⟩ : ∃ wz, wm.alloc (.cells (rowF .i64 kS (fun _ => 0)) 3) = wz := ⟨_, rfl⟩; rw [hwz] at hN0 hb9; (try simp only [hwz]); have lcf := hcf.out.lt; have hlR := Lib.hid (show CF < wm.heap.size by omega); (try (have lm := hM.out.lm; have lb := hM.out.lb; have hRm := Lib.hid (show wm.heap.size ≠ m ∧ wm.heap.size ≠ b from ⟨by omega, by omega⟩); replace hM := Lib.hid (hM.out.next hb9))); replace hcf := Lib.hid (hcf.out.below hb9 lcf); have hT9 := hT.out.size; replace hT := Lib.hid (hT.out.trans (hb9.mono (by omega))); have hR := Lib.hid hN0; have hY2 := cfgs hcf.out; clear hwz hN0 hb9 lcf hT9; generalize wm.heap.size = RB at *)
    refine hK.out _ _ (by assumption) (fun hHeld => ?_)
    clear hK K
    try simp only [Act.put, pA, pB, pC]
    refine wpAnyH_take (i := 6) (oi := ⟨some 34, .build 101 #[(0, .tmp 28), (1, .tmp 30), (2, .tmp 33)], 101, "law.go:148", #[⟨0, .data⟩, ⟨2, .data⟩, ⟨5, .data⟩], none⟩) (v := ?vq5) rfl (by kernel_rfl) (by kernel_rfl) (by kernel_rfl) (fun _ _ _ h => h) (Or.inl ⟨by rfl, ?hyq5⟩) (by assumption) ?rsq5
    case hyq5 => (intro w hSw; first | (go_simp; first | done | with_reducible rfl) | ((try dsimp only at hSw); go_split_ands; go_simp; first | done | with_reducible rfl))
    case' rsq5 => (try simp only [Act.put, pA, pB, pC])
    refine wpAnyH_ready (rs := [7]) (by kernel_rfl) (by simp) ?_
    refine AllReadyH.cons (o := ⟨some 35, .box 101 (.tmp 34), 99, "law.go:148", #[⟨6, .data⟩], none⟩) rfl (fun K hK => ?_) ?_
    ·go_simp
     (have hN0 := Blk.new wz 101 (worldA c m RB); have hb9 := Below.alloc (Below.refl wz.heap.size wz) (Nat.le_refl _) (.cells (worldA c m RB) 101); obtain ⟨wx, hwx⟩ : ∃ wx, wz.alloc (.cells (worldA c m RB) 101) = wx := ⟨_, rfl⟩; rw [hwx] at hN0 hb9; have hwx' := hwx; unfold worldA at hwx'; (try rw [hkS.out] at hwx'); (try simp only [hwx']); have lcf := hcf.out.lt; have lm := hM.out.lm; have lb := hM.out.lb; have lr := hR.out.lt; have hlW := Lib.hid (show CF < wz.heap.size ∧ wz.heap.size ≠ m ∧ wz.heap.size ≠ b ∧ RB ≠ wz.heap.size from ⟨by omega, by omega, by omega, by omega⟩); replace hM := Lib.hid (hM.out.next hb9); replace hcf := Lib.hid (hcf.out.below hb9 lcf); replace hR := Lib.hid (hR.out.below hb9 lr); have hT9 := hT.out.size; replace hT := Lib.hid (hT.out.trans (hb9.mono (by omega))); have hW := Lib.hid hN0; have hY3 := cfgs hcf.out; clear hwx hwx' hN0 hb9 lcf hT9 lm lb lr; generalize wz.heap.size = WB at *)
     refine hK.out _ _ (by assumption) (fun hHeld => ?_)
     clear hK K
     try simp only [Act.put, pA, pB, pC]
     refine wpAnyH_take (i := 8) (oi := ⟨some 7, .assign (.tmp 35), 99, "law.go:148", #[⟨7, .data⟩, ⟨2, .chain⟩, ⟨0, .phase⟩, ⟨1, .phase⟩, ⟨2, .phase⟩, ⟨3, .phase⟩, ⟨4, .phase⟩, ⟨5, .phase⟩, ⟨6, .phase⟩, ⟨7, .phase⟩], none⟩) (v := ?vq6) rfl (by kernel_rfl) (by kernel_rfl) (by kernel_rfl) (fun _ _ _ h => h) (Or.inl ⟨by rfl, ?hyq6⟩) (by assumption) ?rsq6
     case hyq6 => (intro w hSw; first | (go_simp; first | done | with_reducible rfl) | ((try dsimp only at hSw); go_split_ands; go_simp; first | done | with_reducible rfl))
     case' rsq6 => (try simp only [Act.put, pA, pB, pC])
     refine wpAnyH_done (by kernel_rfl) ?_ _
     clear hX'
     go_wp2
     go_meet
     case rel => exact ⟨m, b, RB, WB, rfl, hlm.out, hlR.out, hRm.out, hlW.out, hM.out, hR.out, hW.out, hcf.out, hT.out⟩
    exact AllReadyH.nil
   exact AllReadyH.nil
  refine AllReadyH.cons (o := ⟨some 33, .makeSlice 35 (.tmp 32) (.tmp 32), 35, "law.go:148", #[⟨4, .data⟩, ⟨4, .data⟩], none⟩) rfl (fun K hK => ?_) ?_
  ·go_simp
   (have hN0 := Blk.new w3d 3 (rowF .i64 kS (fun _ => 0)); have hb9 := Below.alloc (Below.refl w3d.heap.size w3d) (Nat.le_refl _) (.cells (rowF .i64 kS (fun _ => 0)) 3); obtain ⟨wz, hwz⟩ : ∃ wz, w3d.alloc (.cells (rowF .i64 kS (fun _ => 0)) 3) = wz := ⟨_, rfl⟩; rw [hwz] at hN0 hb9; (try simp only [hwz]); have lcf := hcf.out.lt; have hlR := Lib.hid (show CF < w3d.heap.size by omega); (try (have lm := hM.out.lm; have lb := hM.out.lb; have hRm := Lib.hid (show w3d.heap.size ≠ m ∧ w3d.heap.size ≠ b from ⟨by omega, by omega⟩); replace hM := Lib.hid (hM.out.next hb9))); replace hcf := Lib.hid (hcf.out.below hb9 lcf); have hT9 := hT.out.size; replace hT := Lib.hid (hT.out.trans (hb9.mono (by omega))); have hR := Lib.hid hN0; have hY2 := cfgs hcf.out; clear hwz hN0 hb9 lcf hT9; generalize w3d.heap.size = RB at *)
   refine hK.out _ _ (by assumption) (fun hHeld => ?_)
   clear hK K
   try simp only [Act.put, pA, pB, pC]
   refine wpAnyH_ready (rs := [2]) (by kernel_rfl) (by simp) ?_
   refine AllReadyH.cons (o := ⟨some 30, .call { callee := .value (.func 20), args := #[.tmp 29], argTypes := #[23] }, 24, "law.go:148", #[⟨1, .data⟩], none⟩) rfl (fun K hK => ?_) ?_
   ·go_simp
    (go_at_call 20; (with_reducible refine (memC c _ hr.out).mono ?_); rintro e wm ⟨m, b, rfl, hM3, hm, hb, hb9⟩; have lcf := hcf.out.lt; have hlm := Lib.hid (show CF < m ∧ CF < b from ⟨by omega, by omega⟩); replace hcf := Lib.hid (hcf.out.below hb9 lcf); have hT9 := hT.out.size; replace hT := Lib.hid (hT.out.trans (hb9.mono (by omega))); (try (have lrb := hR.out.lt; replace hR := Lib.hid (hR.out.below hb9 lrb); have hRm := Lib.hid (show RB ≠ m ∧ RB ≠ b from ⟨by omega, by omega⟩))); have hM := Lib.hid hM3; have hY1 := cfgs hcf.out; clear hb9 hM3 hm hb lcf hT9)
    refine hK.out _ _ (by assumption) (fun hHeld => ?_)
    clear hK K
    try simp only [Act.put, pA, pB, pC]
    refine wpAnyH_take (i := 6) (oi := ⟨some 34, .build 101 #[(0, .tmp 28), (1, .tmp 30), (2, .tmp 33)], 101, "law.go:148", #[⟨0, .data⟩, ⟨2, .data⟩, ⟨5, .data⟩], none⟩) (v := ?vq7) rfl (by kernel_rfl) (by kernel_rfl) (by kernel_rfl) (fun _ _ _ h => h) (Or.inl ⟨by rfl, ?hyq7⟩) (by assumption) ?rsq7
    case hyq7 => (intro w hSw; first | (go_simp; first | done | with_reducible rfl) | ((try dsimp only at hSw); go_split_ands; go_simp; first | done | with_reducible rfl))
    case' rsq7 => (try simp only [Act.put, pA, pB, pC])
    refine wpAnyH_ready (rs := [7]) (by kernel_rfl) (by simp) ?_
    refine AllReadyH.cons (o := ⟨some 35, .box 101 (.tmp 34), 99, "law.go:148", #[⟨6, .data⟩], none⟩) rfl (fun K hK => ?_) ?_
    ·go_simp
     (have hN0 := Blk.new wm 101 (worldA c m RB); have hb9 := Below.alloc (Below.refl wm.heap.size wm) (Nat.le_refl _) (.cells (worldA c m RB) 101); obtain ⟨wx, hwx⟩ : ∃ wx, wm.alloc (.cells (worldA c m RB) 101) = wx := ⟨_, rfl⟩; rw [hwx] at hN0 hb9; have hwx' := hwx; unfold worldA at hwx'; (try rw [hkS.out] at hwx'); (try simp only [hwx']); have lcf := hcf.out.lt; have lm := hM.out.lm; have lb := hM.out.lb; have lr := hR.out.lt; have hlW := Lib.hid (show CF < wm.heap.size ∧ wm.heap.size ≠ m ∧ wm.heap.size ≠ b ∧ RB ≠ wm.heap.size from ⟨by omega, by omega, by omega, by omega⟩); replace hM := Lib.hid (hM.out.next hb9); replace hcf := Lib.hid (hcf.out.below hb9 lcf); replace hR := Lib.hid (hR.out.below hb9 lr); have hT9 := hT.out.size; replace hT := Lib.hid (hT.out.trans (hb9.mono (by omega))); have hW := Lib.hid hN0; have hY3 := cfgs hcf.out; clear hwx hwx' hN0 hb9 lcf hT9 lm lb lr; generalize wm.heap.size = WB at *)
     refine hK.out _ _ (by assumption) (fun hHeld => ?_)
     clear hK K
     try simp only [Act.put, pA, pB, pC]
     refine wpAnyH_take (i := 8) (oi := ⟨some 7, .assign (.tmp 35), 99, "law.go:148", #[⟨7, .data⟩, ⟨2, .chain⟩, ⟨0, .phase⟩, ⟨1, .phase⟩, ⟨2, .phase⟩, ⟨3, .phase⟩, ⟨4, .phase⟩, ⟨5, .phase⟩, ⟨6, .phase⟩, ⟨7, .phase⟩], none⟩) (v := ?vq8) rfl (by kernel_rfl) (by kernel_rfl) (by kernel_rfl) (fun _ _ _ h => h) (Or.inl ⟨by rfl, ?hyq8⟩) (by assumption) ?rsq8
     case hyq8 => (intro w hSw; first | (go_simp; first | done | with_reducible rfl) | ((try dsimp only at hSw); go_split_ands; go_simp; first | done | with_reducible rfl))
     case' rsq8 => (try simp only [Act.put, pA, pB, pC])
     refine wpAnyH_done (by kernel_rfl) ?_ _
     clear hX'
     go_wp2
     go_meet
     case rel => exact ⟨m, b, RB, WB, rfl, hlm.out, hlR.out, hRm.out, hlW.out, hM.out, hR.out, hW.out, hcf.out, hT.out⟩
    exact AllReadyH.nil
   exact AllReadyH.nil
  exact AllReadyH.nil
 case rest =>
  obtain ⟨m, b, RB, WB, rfl, ⟨lm, lb⟩, lR, ⟨rm, rb⟩, ⟨lW, Wm, Wb, RW⟩, hM0, hR0, hW0, hcf0, hT0⟩ := hcut
  clear hX' hcf hT hmk
  have hcf := Lib.hid hcf0
  have hT := Lib.hid hT0
  have hR := Lib.hid hR0
  have hW := Lib.hid hW0
  obtain ⟨n, hn⟩ : ∃ n : Nat, (n : Int) = c.size := ⟨c.size.toNat, by have := size_bd hr.out; unfold Cf.size; omega⟩
  have hM : MemB wc m b (Ms.of n (memF c.A c.C c.H (c.S - 1).toNat)) := by
   have := hM0
   rw [← hn, Int.toNat_natCast] at this
   exact this
  replace hM := Lib.hid hM
  have hf := Lib.hid (fine_of (n := n) (memF_U c.A c.C c.H (c.S - 1).toNat (by omega)))
  have hn8 := size_bd hr.out
  have hn8' : 9 ≤ n ∧ n ≤ 800 := by unfold Cf.size at hn; omega
  replace hn := Lib.hid hn
  clear hM0 hR0 hW0 hcf0 hT0 hn8
  have k6 := (world_cells hW.out).2.1
  by_cases hw6 : 6 < n1
  ·have hw' : (6 : Int) < (n1 : Int) := by omega
   go_wp2_with (go_at_call 53; refine (awake12C _).mono ?_; rintro e w4 ⟨rfl, hb9⟩; replace hT := Lib.hid (hT.out.trans (hb9.mono (by have := hT.out.size; omega))); clear hb9)
   go_ret
   exact ⟨rfl, hCFe ▸ hT.out⟩
  ·have hw' : ¬ (6 : Int) < (n1 : Int) := by omega
   go_upto_region 6 with (go_at_call 53; refine (awake12C _).mono ?_; rintro e w4 ⟨rfl, hb9⟩; have hT9 := hT.out.size; have lcf9 := hcf.out.lt; replace hT := Lib.hid (hT.out.trans (hb9.mono (by omega))); replace hcf := Lib.hid (hcf.out.below hb9 lcf9); replace hM := Lib.hid (hM.out.next hb9); replace hR := Lib.hid (hR.out.below hb9 hR.out.lt); replace hW := Lib.hid (hW.out.below hb9 hW.out.lt); clear hb9 hT9 lcf9)
   have hst := stk_start hr.out
   rw [hkS.out] at hst
   replace hst := Lib.hid hst
   have hmk := make_mk n1 (by omega)
   have hG0 := Blk.new w4 107 (marr n1 (fun _ => Mr.new))
   have hb9 := Below.alloc (Below.refl w4.heap.size w4) (Nat.le_refl _) (.cells (marr n1 (fun _ => Mr.new)) 107)
   have lcf := hcf.out.lt
   have llm := hM.out.lm
   have llb := hM.out.lb
   have llr := hR.out.lt
   have llw := hW.out.lt
   have hM5 := hM.out.next hb9
   have hcf5 := hcf.out.below hb9 lcf
   have hR5 := hR.out.below hb9 llr
   have hW5 := hW.out.below hb9 llw
   have hT5 := hT.out.trans (hb9.mono (by have := hT.out.size; omega))
   go_upto_region 7 with (fail)
   clear hmk hM hcf hT hR hW hb9 k6
   generalize hB : w4.heap.size = B at *
   generalize w4.alloc (.cells (marr n1 (fun _ => Mr.new)) 107) = w5 at *
   have hM := Lib.hid hM5
   have hT := Lib.hid hT5
   have hcf := Lib.hid hcf5
   have hR := Lib.hid hR5
   have hW := Lib.hid hW5
   have hG : Hid (Blk w5 B 107 (marr n1 (Mn V 0))) := Lib.hid hG0
   clear hM5 hT5 hcf5 hR5 hW5 hG0 hB
   go_wp2
   go_loopw [9] (fun vi wz => ∃ i : Nat, i ≤ n1 ∧ vi = .int .i64 (i : Int) ∧ Blk wz B 107 (marr n1 (Mn V i)) ∧ MemB wz m b (Ms.of n (memF c.A c.C c.H (c.S - 1).toNat)) ∧ Blk wz CF 23 #[.int .i64 c.S, .int .i64 c.A, .int .i64 c.C, .int .i64 c.H, .int .i64 c.G, .int .i64 c.K] ∧ Blk wz RB 3 (rowF .i64 kS (fun _ => 0)) ∧ Blk wz WB 101 (worldA c m RB) ∧ Below CF w wz) (fun vi _ => n1 - (intOf vi).toNat)
   case atStart => exact ⟨0, by omega, rfl, hG.out, hM.out, hcf.out, hR.out, hW.out, hT.out⟩
   case round =>
    obtain ⟨i, hi, rfl, c1', c2', c3', c4', c5', c6'⟩ := hrel
    clear hM hT hcf hG hR hW
    have hG := Lib.hid c1'
    have hM := Lib.hid c2'
    have hcf := Lib.hid c3'
    have hR := Lib.hid c4'
    have hW := Lib.hid c5'
    have hT := Lib.hid c6'
    clear c1' c2' c3' c4' c5' c6'
    by_cases hlt : i < n1
    ·have hlt' : (i : Int) < (n1 : Int) := by omega
     obtain ⟨bv, ov, hAv, lbv, jv0⟩ := sl_at (hS1.out.below hT.out (by omega)) hlt
     subst hAv
     have jv : wr.cell? ⟨bv, ov + i, none⟩ = some (V i) := by simpa using jv0
     obtain ⟨A', n', c', g', hVe, hVc, hVs⟩ := hV.out i hlt
     rw [hVe] at jv
     have g1 : wr.cell? ⟨B, i * 10, none⟩ = some (.slice none 0 0) := by
      have := hG.out.cell (marr_get (k := 0) hlt (by decide))
      rw [Nat.add_zero, Nat.mul_comm] at this
      rw [this]; unfold Mn; rw [if_neg (Nat.lt_irrefl i)]; rfl
     have g2 := hG.out.frozen (i * 10)
     have hi0 : (0 : Int) ≤ (i : Int) := by omega
     clear jv0 hVc hVs
     replace hVe := Lib.hid hVe
     go_wp2
     go_roundw
     case rel =>
      have hb9 := hG.out.set (i * 10) (.slice A' n' c')
      rw [← hVe.out] at hb9 ⊢
      rw [Nat.mul_comm i 10, marr_wv hlt (V i), show ({ Mn V i i with wv := V i } : Mr) = { Mr.new with wv := V i } by unfold Mn; rw [if_neg (Nat.lt_irrefl i)], Mn_put] at hb9
      rw [Nat.mul_comm i 10]
      have hF9 := Fr.set (fun k => k = B) wr (p := ⟨B, 10 * i, none⟩) rfl (V i)
      exact ⟨i + 1, by omega, by go_num, hb9, hM.out.fr hF9 (by omega) (by omega), Blk.fr hcf.out hF9 (by omega), Blk.fr hR.out hF9 (by omega), Blk.fr hW.out hF9 (by omega), hT.out.setCell (p := ⟨B, 10 * i, none⟩) (by show CF ≤ B; omega) _⟩
     case measure => simp [intOf]; omega
    ·have hlt' : ¬ (i : Int) < (n1 : Int) := by omega
     obtain rfl : i = n1 := by omega
     have hAI := mn_ai hr.out (show (kS : Int) = c.S by have := hk.out; omega) hst.out V i
     have hAB : AB c w wr (CF + 1) B WB RB m b i (Mn V i) (fun _ => 0) := mn_ab hG.out hW.out (by rw [hkS.out]; exact hR.out) ⟨by omega, by omega, RW, fun k h => by rcases h with rfl | rfl <;> exact ⟨by omega, by omega, by omega⟩⟩ (fun k h => by rcases h with rfl | rfl | rfl | rfl | rfl <;> omega) hV.out
     replace hAI := Lib.hid hAI
     replace hAB := Lib.hid hAB
     clear hG hR hW
     go_wp2
     go_loopw [10] (fun vk wr => ∃ (k t : Nat) (L : List Int) (T : Nat → Mr) (own : Int → Nat) (μ : Int → Int) (M : Ms), k ≤ n2 ∧ k ≤ 500 ∧ t ≤ k ∧ vk = .int .i64 (k : Int) ∧ AB c w wr (CF + 1) B WB RB m b i T μ ∧ AI c M.f t L i T own μ ∧ MemB wr m b M ∧ Fine M n k ∧ Blk wr CF 23 #[.int .i64 c.S, .int .i64 c.A, .int .i64 c.C, .int .i64 c.H, .int .i64 c.G, .int .i64 c.K] ∧ Below CF w wr) (fun vk _ => n2 - (intOf vk).toNat)
     case atStart => exact ⟨0, 0, _, _, _, _, _, by omega, by omega, by omega, rfl, hAB.out, hAI.out, hM.out, hf.out, hcf.out, hT.out⟩
     case round =>
      obtain ⟨k, t, L, T, own, μ, M, hk5, hk4, htk, rfl, c1', c2', c3', c4', c5', c6'⟩ := hrel
      clear hAB hAI hM hf hcf hT
      have hB := Lib.hid c1'
      have hI := Lib.hid c2'
      have hM := Lib.hid c3'
      have hf := Lib.hid c4'
      have hcf := Lib.hid c5'
      have hT := Lib.hid c6'
      clear c1' c2' c3' c4' c5' c6'
      by_cases hboth : k < n2 ∧ k < 500
      ·obtain ⟨hlt, h4⟩ := hboth
       ·have hlt2 : (k : Int) < (n2 : Int) := by omega
        have h4' : (k : Int) < 500 := by omega
        obtain ⟨bq, oq, hAq, _, jq⟩ := (hS2.out.below hT.out (by omega)).num hlt
        subst hAq
        generalize q k = z at *
        go_upto_region 15 with (fail)
        clear jq
        go_cut [102] (fun v102 wx => v102 = .bool false ∧ ∃ (t' : Nat) (L' : List Int) (T' : Nat → Mr) (own' : Int → Nat) (μ' : Int → Int) (M' : Ms), t' ≤ t + 1 ∧ AB c w wx (CF + 1) B WB RB m b i T' μ' ∧ AI c M'.f t' L' i T' own' μ' ∧ MemB wx m b M' ∧ Fine M' n (k + 1) ∧ Blk wx CF 23 #[.int .i64 c.S, .int .i64 c.A, .int .i64 c.C, .int .i64 c.H, .int .i64 c.G, .int .i64 c.K] ∧ Below CF w wx)
        case first =>
         by_cases hz0 : 0 ≤ z
         ·by_cases hz1 : z < i
          ·obtain ⟨j, rfl⟩ := Int.eq_ofNat_of_zero_le hz0
           have hji : j < i := by omega
           have hT0 : Below w.heap.size w wr := by rw [hCFe]; exact hT.out
           have hcon := stStep hr.out hM.out hf.out (by omega) hn.out (by omega) hB.out hI.out hji hT0 (by omega)
           rw [Nat.mul_comm] at hcon
           replace hcon := Lib.hid hcon
           clear hT0
           go_wp2_with (go_at_call 60; refine hcon.out.mono ?_; rintro e v1 ⟨rfl, hAf⟩; replace hAf := Lib.hid hAf)
           go_meet
           case rel =>
            obtain ⟨M', t', L', T', own', μ', ht', hM', hf', hB', hI', hlo'⟩ := hAf.out
            have ht0 := hI'.stk.t0
            refine ⟨rfl, t'.toNat, L', T', own', μ', M', by omega, hB', by rw [Int.toNat_of_nonneg ht0]; exact hI', hM', hf', hcf.out.below hlo' (by omega), hT.out.trans (hlo'.mono (by omega))⟩
          ·have hz1' : ¬ z < (i : Int) := hz1
           go_wp2
           go_meet
           case rel => exact ⟨rfl, t, L, T, own, μ, M, by omega, hB.out, hI.out, hM.out, hf.out.mono (by omega), hcf.out, hT.out⟩
         ·have hz0' : ¬ 0 ≤ z := hz0
          go_wp2
          go_meet
          case rel => exact ⟨rfl, t, L, T, own, μ, M, by omega, hB.out, hI.out, hM.out, hf.out.mono (by omega), hcf.out, hT.out⟩
        case rest =>
         obtain ⟨rfl, t', L', T', own', μ', M', ht', c1', c2', c3', c4', c5', c6'⟩ := hcut
         clear hB hI hM hf hcf hT
         have hB := Lib.hid c1'
         have hI := Lib.hid c2'
         have hM := Lib.hid c3'
         have hf := Lib.hid c4'
         have hcf := Lib.hid c5'
         have hT := Lib.hid c6'
         clear c1' c2' c3' c4' c5' c6'
         go_wp2
         go_loopw [12] (fun va wy => ∃ a : Nat, a ≤ i ∧ va = .int .i64 (a : Int) ∧ AB c w wy (CF + 1) B WB RB m b i T' μ' ∧ MemB wy m b M' ∧ Blk wy CF 23 #[.int .i64 c.S, .int .i64 c.A, .int .i64 c.C, .int .i64 c.H, .int .i64 c.G, .int .i64 c.K] ∧ Below CF w wy) (fun va _ => i - (intOf va).toNat)
         case atStart => exact ⟨0, by omega, rfl, hB.out, hM.out, hcf.out, hT.out⟩
         case round =>
          obtain ⟨a, ha, rfl, c1', c3', c5', c6'⟩ := hrel
          clear hB hM hcf hT
          have hB := Lib.hid c1'
          have hM := Lib.hid c3'
          have hcf := Lib.hid c5'
          have hT := Lib.hid c6'
          clear c1' c3' c5' c6'
          by_cases hai : a < i
          ·have hai' : (a : Int) < (i : Int) := by omega
           go_wp2
           go_loopw [13] (fun vb wy => ∃ p : Nat, p ≤ a ∧ vb = .int .i64 (p : Int) ∧ AB c w wy (CF + 1) B WB RB m b i T' μ' ∧ MemB wy m b M' ∧ Blk wy CF 23 #[.int .i64 c.S, .int .i64 c.A, .int .i64 c.C, .int .i64 c.H, .int .i64 c.G, .int .i64 c.K] ∧ Below CF w wy) (fun vb _ => a - (intOf vb).toNat)
           case atStart => exact ⟨0, by omega, rfl, hB.out, hM.out, hcf.out, hT.out⟩
           case round =>
            obtain ⟨p, hp, rfl, c1', c3', c5', c6'⟩ := hrel
            clear hB hM hcf hT
            have hB := Lib.hid c1'
            have hM := Lib.hid c3'
            have hcf := Lib.hid c5'
            have hT := Lib.hid c6'
            clear c1' c3' c5' c6'
            by_cases hpa : p < a
            ·have hpa' : (p : Int) < (a : Int) := by omega
             have hpi' : (p : Int) < (i : Int) := by omega
             have ha0 : (0 : Int) ≤ (a : Int) := by omega
             have hp0 : (0 : Int) ≤ (p : Int) := by omega
             have j1 := hB.out.blk.cell (marr_get (k := 6) hai (by decide))
             have j2 := hB.out.blk.cell (marr_get (k := 6) (show p < i by omega) (by decide))
             rw [Nat.mul_comm] at j1 j2
             replace j1 : wr.cell? ⟨B, a * 10 + 6, none⟩ = some (T' a).hv := j1
             replace j2 : wr.cell? ⟨B, p * 10 + 6, none⟩ = some (T' p).hv := j2
             have hmt := meetC wr.drew (CF + 1) (CF + 1) (T' a).hv (T' p).hv (T' a).h (T' p).h ((IQ.drew (hB.out.has a hai)).li (by have := has_len hr.out hI.out hai; omega)) ((IQ.drew (hB.out.has p (by omega))).li (by have := has_len hr.out hI.out (show p < i by omega); omega)) (has_ap hI.out hai (by omega) (by omega))
             obtain ⟨A3, c3, e3, _⟩ := IQ.slice (hB.out.has a hai)
             obtain ⟨A4, c4, e4, _⟩ := IQ.slice (hB.out.has p (by omega))
             rw [e3] at j1 hmt
             rw [e4] at j2 hmt
             replace hmt := Lib.hid hmt
             have hX' : wr.drew.cell? ⟨B, a * 10 + 6, none⟩ = some (.slice A3 (T' a).h.length c3) ∧ wr.drew.cell? ⟨B, p * 10 + 6, none⟩ = some (.slice A4 (T' p).h.length c4) := ⟨j1, j2⟩
             replace e3 := Lib.hid e3
             replace e4 := Lib.hid e4
             go_upto_region 23 with (fail)
             go_region_held3 (fun w' => w'.cell? ⟨B, a * 10 + 6, none⟩ = some (.slice A3 (T' a).h.length c3) ∧ w'.cell? ⟨B, p * 10 + 6, none⟩ = some (.slice A4 (T' p).h.length c4)) (assumption) ((go_at_call 61; refine hmt.out.mono ?_; rintro e w' ⟨rfl, rfl⟩))
             clear hX' j1 j2
             go_wp2
             go_roundw
             case rel => exact ⟨p + 1, by omega, by go_num, hB.out.below (below_drew9 wr), hM.out.drew, hcf.out.drew, hT.out.drew⟩
             case measure => simp [intOf]; omega
            ·have hpa' : ¬ (p : Int) < (a : Int) := by omega
             go_wp2
             go_roundw
             case rel => exact ⟨a + 1, by omega, by go_num, hB.out, hM.out, hcf.out, hT.out⟩
             case measure => simp [intOf]; omega
          ·have hai' : ¬ (a : Int) < (i : Int) := by omega
           go_wp2
           go_roundw
           case rel => exact ⟨k + 1, t', L', T', own', μ', M', by omega, by omega, by omega, by go_num, hB.out, hI.out, hM.out, hf.out, hcf.out, hT.out⟩
           case measure => simp [intOf]; omega
      ·rcases (show (k < n2 ∧ ¬ k < 500) ∨ ¬ k < n2 by omega) with ⟨hl1, hl2⟩ | hl1
       focus
        have hlt2 : (k : Int) < (n2 : Int) := by omega
        have h4' : ¬ (k : Int) < 500 := by omega
        go_upto_region 25 with (fail)
       rotate_left 1
       focus
        have hlt2 : ¬ (k : Int) < (n2 : Int) := by omega
        go_upto_region 25 with (fail)
       all_goals
        have hnn := Lib.hid hf.out.n
        have hU := Lib.hid hf.out.u
        have hL64 := hI.out.stk.len hr.out
        obtain ⟨q0, q1, q2, q3, q4, q5⟩ := cfgs hcf.out
        have k6 := (world_cells hB.out.wld).2.1
        go_upto_region 27 with (first
         | (go_at_call 24; refine (words_n _ m b n _ hM.out hnn.out (by omega)).mono ?_; rintro e wa ⟨A1, cc1, b1, rfl, _, hR1, hb9⟩; replace hB := Lib.hid (hB.out.below hb9); replace hM := Lib.hid (hM.out.next hb9); replace hcf := Lib.hid (hcf.out.below hb9 hcf.out.lt); replace hT := Lib.hid (hT.out.trans (hb9.mono (by have := hT.out.size; omega))); obtain ⟨q0, q1, q2, q3, q4, q5⟩ := cfgs hcf.out; replace hR1 := Lib.hid hR1; clear hb9)
         | (go_at_call 30; refine (refListQ c _ A1 cc1 b1 n _ hU.out hr.out hn.out hR1.out).mono ?_; rintro e wq ⟨v, rfl, hLu, hb9⟩; rw [hI.out.stk.list hr.out] at hLu; replace hB := Lib.hid (hB.out.below hb9); replace hM := Lib.hid (hM.out.next hb9); replace hcf := Lib.hid (hcf.out.below hb9 hcf.out.lt); replace hT := Lib.hid (hT.out.trans (hb9.mono (by have := hT.out.size; omega))); replace hR1 := Lib.hid (hR1.out.below hb9 (Nat.le_refl _)); have hLi := Lib.hid (IQ.li hLu (by have := S_bd hr.out; omega)); clear hb9 hLu))
        obtain ⟨lw, elw⟩ : ∃ lw, wa.heap.size = lw := ⟨_, rfl⟩
        rw [elw] at hLi
        clear elw q0 q1 q2 q3 q4 q5 k6
        go_wp2
        go_loopw [16] (fun vs wz => ∃ s : Nat, (s : Int) ≤ c.S ∧ vs = .int .i64 (s : Int) ∧ AB c w wz (CF + 1) B WB RB m b i T μ ∧ MemB wz m b M ∧ Blk wz CF 23 #[.int .i64 c.S, .int .i64 c.A, .int .i64 c.C, .int .i64 c.H, .int .i64 c.G, .int .i64 c.K] ∧ RowB wz A1 cc1 b1 n M.f ∧ Li wz lw v L ∧ Below CF w wz) (fun vs _ => c.S.toNat - (intOf vs).toNat)
        case atStart => exact ⟨0, by omega, rfl, hB.out, hM.out, hcf.out, hR1.out, hLi.out, hT.out⟩
        case round =>
         obtain ⟨s, hs0, rfl, c1', c2', c3', c4', c5', c6'⟩ := hrel
         clear hB hM hcf hR1 hLi hT
         have hB := Lib.hid c1'
         have hM := Lib.hid c2'
         have hcf := Lib.hid c3'
         have hR1 := Lib.hid c4'
         have hLi := Lib.hid c5'
         have hT := Lib.hid c6'
         clear c1' c2' c3' c4' c5' c6'
         obtain ⟨q0, q1, q2, q3, q4, q5⟩ := cfgs hcf.out
         by_cases hsS : (s : Int) < c.S
         ·have hsR : InR c (s : Int) := ⟨by omega, hsS⟩
          obtain ⟨iz, hpl, hiz⟩ : ∃ iz : Nat, c.pl s 0 = (iz : Int) ∧ iz < n := by
           have hb := pl_bd hr.out hsR (o := 0) ⟨Int.le_refl 0, by have := room_bd hr.out; omega⟩
           have := hn.out
           exact ⟨(c.pl s 0).toNat, by omega, by omega⟩
          have hizI : (iz : Int) < (n : Int) := by omega
          have hiz0 : (0 : Int) ≤ (iz : Int) := by omega
          have hXe : M.f iz = hw c M.f s := by unfold hw; rw [hpl]; rfl
          have hX0 := (hU.out iz).1
          have hX1 := (hU.out iz).2
          rw [hXe] at hX0 hX1
          obtain ⟨d, hd⟩ : ∃ d : Int, d = (if (s : Int) ∈ L ∨ uK (hw c M.f s) = 4 then 1 else 0) := ⟨_, rfl⟩
          have hfin := fin_ok hr.out hI.out hsR hd
          generalize hw c M.f s = X at *
          have hd1 : 0 ≤ d ∧ d ≤ 1 := by rw [hd]; split <;> omega
          have hcb := cm_bd T s d hd1.1 hd1.2
          replace hpl := Lib.hid hpl
          replace hXe := Lib.hid hXe
          replace hfin := Lib.hid hfin
          replace hcb := Lib.hid hcb
          obtain ⟨hA1, _, _⟩ := hR1.out.cell hiz
          subst hA1
          go_upto_region 31 with (first
           | (go_at_call 63; refine (atHeaderC c _ WB m RB s hB.out.wld hr.out hsR).mono ?_; rintro e wb ⟨rfl, hb9⟩; rw [hpl.out]; replace hB := Lib.hid (hB.out.below hb9); replace hM := Lib.hid (hM.out.next hb9); replace hcf := Lib.hid (hcf.out.below hb9 hcf.out.lt); replace hT := Lib.hid (hT.out.trans (hb9.mono (by have := hT.out.size; omega))); replace hR1 := Lib.hid (hR1.out.below hb9 (Nat.le_refl _)); replace hLi := Lib.hid (hLi.out.below hb9); have cw := (hR1.out.cell hiz).2.1; rw [hXe.out] at cw; clear hb9)
           | (go_at_call 62; refine (rUnpack_c X hX0 hX1 _).mono ?_; rintro e wd ⟨rfl, hb9⟩; replace hB := Lib.hid (hB.out.below hb9); replace hM := Lib.hid (hM.out.next hb9); replace hcf := Lib.hid (hcf.out.below hb9 hcf.out.lt); replace hT := Lib.hid (hT.out.trans (hb9.mono (by have := hT.out.size; omega))); replace hR1 := Lib.hid (hR1.out.below hb9 (Nat.le_refl _)); replace hLi := Lib.hid (hLi.out.below hb9); clear hb9))
          have hN0 := Blk.new wd 85 #[.int .i64 (uK X), .int .i64 (uM X), .bool (uG X), .int .i64 (uA X), .int .i64 (uN X), .int .i64 (uS X)]
          have hb9 := Below.alloc (Below.refl wd.heap.size wd) (Nat.le_refl _) (.cells #[.int .i64 (uK X), .int .i64 (uM X), .bool (uG X), .int .i64 (uA X), .int .i64 (uN X), .int .i64 (uS X)] 85)
          replace hB := Lib.hid (hB.out.below hb9); replace hM := Lib.hid (hM.out.next hb9); replace hcf := Lib.hid (hcf.out.below hb9 hcf.out.lt); replace hT := Lib.hid (hT.out.trans (hb9.mono (by have := hT.out.size; omega)))
          replace hR1 := Lib.hid (hR1.out.below hb9 (Nat.le_refl _))
          replace hLi := Lib.hid (hLi.out.below hb9)
          have hN := Lib.hid hN0
          clear hN0 hb9 cw q0 q1 q2 q3 q4 q5
          generalize wd.alloc (.cells #[.int .i64 (uK X), .int .i64 (uM X), .bool (uG X), .int .i64 (uA X), .int .i64 (uN X), .int .i64 (uS X)] 85) = w5 at *
          generalize wd.heap.size = nb at *
          have hhas := Lib.hid (hasC _ _ _ L (s : Int) hLi.out)
          have n0 := (six_cells hN.out).1.1
          go_upto_region 32 with (fail)
          go_cut [156] (fun v156 wx => v156 = .bool (decide ((s : Int) ∈ L ∨ uK X = 4)) ∧ wx = w5)
          case first =>
           by_cases hm : (s : Int) ∈ L
           ·have hh := hhas.out
            rw [decide_eq_true hm] at hh
            have e1 : decide ((s : Int) ∈ L ∨ uK X = 4) = true := decide_eq_true (.inl hm)
            replace hh := Lib.hid hh
            replace e1 := Lib.hid e1
            replace hm := Lib.hid hm
            go_wp2_with (go_at_call 49; refine hh.out.mono ?_; rintro e w' ⟨rfl, rfl⟩)
            go_meet
            case rel => exact ⟨by rw [e1.out], rfl⟩
           ·have hh := hhas.out
            rw [decide_eq_false hm] at hh
            replace hh := Lib.hid hh
            by_cases h4 : uK X = 4
            ·have e1 : decide ((s : Int) ∈ L ∨ uK X = 4) = true := decide_eq_true (.inr h4)
             have e2 : (uK X == 4) = true := by rw [h4]; rfl
             replace e1 := Lib.hid e1
             replace hm := Lib.hid hm
             replace h4 := Lib.hid h4
             go_wp2_with (go_at_call 49; refine hh.out.mono ?_; rintro e w' ⟨rfl, rfl⟩)
             go_meet
             case rel => exact ⟨by rw [e1.out], rfl⟩
            ·have e1 : decide ((s : Int) ∈ L ∨ uK X = 4) = false := decide_eq_false (fun k => k.elim hm h4)
             have e2 : (uK X == 4) = false := by rw [beq_eq_false_iff_ne]; exact h4
             replace e1 := Lib.hid e1
             replace hm := Lib.hid hm
             replace h4 := Lib.hid h4
             go_wp2_with (go_at_call 49; refine hh.out.mono ?_; rintro e w' ⟨rfl, rfl⟩)
             go_meet
             case rel => exact ⟨by rw [e1.out], rfl⟩
          case rest =>
           obtain ⟨rfl, hwc'⟩ := hcut
           obtain rfl : w5 = wc := hwc'.symm
           clear hhas
           go_upto_if 156 with (fail)
           go_cut [19] (fun v19 wx => v19 = .int .i64 d ∧ wx = w5)
           case first =>
            by_cases hm : (s : Int) ∈ L ∨ uK X = 4
            ·rw [if_pos hm] at hd
             rw [decide_eq_true hm]
             replace hm := Lib.hid hm
             replace hd := Lib.hid hd
             go_wp2
             go_meet
             case rel => exact ⟨by rw [hd.out], rfl⟩
            ·rw [if_neg hm] at hd
             rw [decide_eq_false hm]
             replace hm := Lib.hid hm
             replace hd := Lib.hid hd
             go_wp2
             go_meet
             case rel => exact ⟨by rw [hd.out], rfl⟩
           case rest =>
            obtain ⟨rfl, hwc'⟩ := hcut
            obtain rfl : w5 = wc := hwc'.symm
            replace hd := Lib.hid hd
            go_wp2
            go_loopw [19, 20] (fun vn vj wy => ∃ j : Nat, j ≤ i ∧ vn = .int .i64 (cm T s d j) ∧ vj = .int .i64 (j : Int) ∧ wy = w5) (fun _ vj _ => i - (intOf vj).toNat)
            case atStart => exact ⟨0, by omega, rfl, rfl, rfl⟩
            case round =>
             obtain ⟨j, hj0, rfl, rfl, hwy⟩ := hrel
             subst hwy
             have hcbj := hcb.out j
             by_cases hji : j < i
             ·have hji' : (j : Int) < (i : Int) := by omega
              have hj00 : (0 : Int) ≤ (j : Int) := by omega
              have y6 := hB.out.blk.cell (marr_get (k := 6) hji (by decide))
              rw [Nat.mul_comm] at y6
              replace y6 : wr.cell? ⟨B, j * 10 + 6, none⟩ = some (T j).hv := y6
              have hhj := hasC _ _ _ _ (s : Int) ((hB.out.has j hji).li (by have := has_len hr.out hI.out hji; omega))
              obtain ⟨A3, c3, e3, _⟩ := IQ.slice (hB.out.has j hji)
              rw [e3] at y6 hhj
              replace e3 := Lib.hid e3
              by_cases hm : (s : Int) ∈ (T j).h
              ·have hcs : cm T s d (j + 1) = cm T s d j + 1 := by show cm T s d j + _ = _; rw [if_pos hm]
               rw [decide_eq_true hm] at hhj
               replace hcs := Lib.hid hcs
               replace hhj := Lib.hid hhj
               replace hm := Lib.hid hm
               go_wp2_with (go_at_call 49; refine hhj.out.mono ?_; rintro e w' ⟨rfl, rfl⟩)
               go_roundw
               case rel => exact ⟨j + 1, by omega, by rw [hcs.out], by go_num, (by first | rfl | trivial)⟩
               case measure => simp [intOf]; omega
              ·have hcs : cm T s d (j + 1) = cm T s d j := by show cm T s d j + _ = _; rw [if_neg hm]; omega
               rw [decide_eq_false hm] at hhj
               replace hcs := Lib.hid hcs
               replace hhj := Lib.hid hhj
               replace hm := Lib.hid hm
               go_wp2_with (go_at_call 49; refine hhj.out.mono ?_; rintro e w' ⟨rfl, rfl⟩)
               go_roundw
               case rel => exact ⟨j + 1, by omega, by rw [hcs.out], by go_num, (by first | rfl | trivial)⟩
               case measure => simp [intOf]; omega
             ·have hji' : ¬ (j : Int) < (i : Int) := by omega
              obtain rfl : j = i := by omega
              obtain ⟨f1, f2⟩ := hfin.out
              go_upto_region 39 with (fail)
              have n4 := (six_cells hN.out).1.2.2.2.2.1
              have k7 := (world_cells hB.out.wld).2.2
              have s2 : s < c.S.toNat := by omega
              have r0 : wr.cell? ⟨RB, s, none⟩ = some (.int .i64 (μ s)) := hB.out.row.cell (rowF_get s2)
              have s0 : (0 : Int) ≤ (s : Int) := by omega
              have s1 : (s : Int) < max c.S 0 := by omega
              have f3 : ¬ (1 : Int) < cm T s d j := by omega
              generalize cm T s d j = C at *
              replace f2 := Lib.hid f2
              go_cut [196] (fun v196 wx => v196 = .bool false ∧ ∃ nq, wx = wr.drewN nq)
              case first =>
               by_cases h0 : uK X = 0
               ·have e0 : (uK X == 0) = true := by rw [h0]; rfl
                by_cases hq : uN X = μ s
                ·have e1 : (uN X != μ s) = false := by rw [hq]; simp
                 replace h0 := Lib.hid h0
                 replace hq := Lib.hid hq
                 go_quiet (fail)
                 go_wp2
                 go_meet
                 case rel => exact ⟨rfl, nq, rfl⟩
                ·have e1 : (uN X != μ s) = true := by rw [bne_iff_ne]; exact hq
                 have e2 : (C == 1) = false := beq_eq_false_iff_ne.2 (fun k => hq (f2.out h0 k))
                 replace h0 := Lib.hid h0
                 replace hq := Lib.hid hq
                 go_quiet (fail)
                 go_wp2
                 go_meet
                 case rel => exact ⟨rfl, nq, rfl⟩
               ·have e0 : (uK X == 0) = false := beq_eq_false_iff_ne.2 h0
                replace h0 := Lib.hid h0
                go_quiet (fail)
                go_wp2
                go_meet
                case rel => exact ⟨rfl, nq, rfl⟩
              case rest =>
               obtain ⟨rfl, nq, hwc'⟩ := hcut
               subst hwc'
               have hb9 := below_drewN9 wr nq
               go_wp2
               go_roundw
               case rel => exact ⟨s + 1, by omega, by go_num, hB.out.below hb9, hM.out.drewN nq, hcf.out.drewN nq, hR1.out.below hb9 (Nat.le_refl _), hLi.out.below hb9, hT.out.trans (hb9.mono (by have := hT.out.size; omega))⟩
               case measure => simp [intOf]; omega
         ·have hsS' := hsS
          obtain ⟨hA1, r2, _⟩ := hR1.out.cell (i := 2) (by omega)
          subst hA1
          rw [hI.out.g2] at r2
          go_wp2
          go_ret
          exact ⟨rfl, hCFe ▸ hT.out⟩
end Go.Proofs.Ytijfkpoofpcacaa.MakerG
end
namespace Go.Proofs.Ytijfkpoofpcacaa.Opens
end Go.Proofs.Ytijfkpoofpcacaa.Opens
section
namespace Go.Proofs.Ytijfkpoofpcacaa.OpenW
open Go.ChangeShapes Go.WideShapes Go.Deep Go.RowKit Go.Proofs.Ytijfkpoofpcacaa.Opens Go.Proofs.Ytijfkpoofpcacaa.MakerT
theorem wf8 {x : Int} (h : (Lit.int .u8 x).wf = true) : 0 ≤ x ∧ x < 256 := by
 simp [Lit.wf, IntKind.min, IntKind.max, IntKind.signed, IntKind.bits] at h
 omega
section
variable {H : Type} {enc : TypeId × Value → H} {P : Program} {W : World} {base : Nat} {spare : Nat → Bool} {held : Bool}
theorem row_structs {t e : TypeId} {fs : Array Field} {V : Value} {fuel : Nat} {y : DataW H × List MemPlace} (ht : P.underlying t = some (.slice e)) (hs : P.underlying e = some (.struct fs)) (hone : ∀ (i : Nat) (f : Field), fs[i]? = some f → f.offset = i ∧ P.cellsOf f.type = 1) (hC : P.cellsOf e = fs.size) (hpos : 0 < fs.size)
  (hf : DataW.trod enc P W base spare held fuel t [V] = some y) :
  ∃ (A : Option Addr) (n c : Nat) (F : Nat → Nat → Value), V = .slice A n c ∧ n ≤ c ∧ Sl W A n fs.size F ∧ ∀ i, i < n → ∀ j f, fs[j]? = some f → ∃ k y, DataW.trod enc P W base spare held k f.type [F i j] = some y := by
 rcases open_slice ht hf with ⟨hcs, _⟩ | ⟨x, l, c, m, n, D, Pl, hcs, _, hl, hm, hmm, hx, hall⟩
 ·simp at hcs
  subst hcs
  exact ⟨none, 0, 0, fun _ _ => undef, rfl, Nat.le_refl _, fun h => absurd h (by decide), fun i hi => absurd hi (by omega)⟩
 ·simp at hcs
  subst hcs
  have hlm : l ≤ m := by rw [hmm]; split <;> omega
  have each : ∀ i, i < m → ∃ V : Nat → Value, (∀ j, j < fs.size → W.cell? ((x.add (i * fs.size)).add j) = some (V j)) ∧ ∀ j f, fs[j]? = some f → ∃ n y, DataW.trod enc P W base spare held n f.type [V j] = some y := by
   intro i hi
   obtain ⟨cs', h1, h2⟩ := hall i hi
   rw [hC] at h1
   obtain ⟨_, hlen, hcell⟩ := World.cells?_some h1
   obtain ⟨xs, k, hk, hxy, _, hxl, hff⟩ := DataW.trod_struct hs h2
   refine ⟨fun j => cs'.getD j undef, fun j hj => ?_, fun j f hfj => ?_⟩
   ·have := hcell j hj
    rw [this]
    simp [List.getD, List.getElem?_eq_getElem (show j < cs'.length by omega)]
   ·have hlt : j < fs.size := (Array.getElem?_eq_some_iff.1 hfj).1
    obtain ⟨ho, hc1⟩ := hone j f hfj
    have g := hff j f hfj
    rw [ho, hc1] at g
    rw [take1_drop cs' j undef (by omega), List.getElem?_eq_getElem (by omega)] at g
    exact ⟨k, _, g⟩
  obtain ⟨F, hF⟩ := choose_lt each
  refine ⟨some x, l, c, F, rfl, hl, fun hn => ?_, fun i hi => (hF i (by omega)).2⟩
  have c0 := (hF 0 (by omega)).1 0 hpos
  obtain ⟨b, o, spot⟩ := x
  have hspot : spot = none := by simpa [Addr.add] using World.cell?_spot c0
  subst hspot
  refine ⟨b, o, rfl, ?_, fun i hi j hj => ?_⟩
  ·rw [add_plain, add_plain] at c0
   exact cell_lt c0
  ·have := (hF i (by omega)).1 j hj
   rwa [add_plain, add_plain] at this
theorem row_works {t e : TypeId} {fs : Array Field} {f0 f1 f2 f3 f4 : Field} {V : Value} {fuel : Nat} {y : DataW H × List MemPlace} (ht : P.underlying t = some (.slice e)) (hs : P.underlying e = some (.struct fs)) (hfs : fs = #[f0, f1, f2, f3, f4]) (hone : ∀ (i : Nat) (f : Field), fs[i]? = some f → f.offset = i ∧ P.cellsOf f.type = 1) (hC : P.cellsOf e = 5)
  (t0 : P.underlying f0.type = some .bool) (t1 : P.underlying f1.type = some .bool) (t2 : P.underlying f2.type = some (.int .u8)) (t3 : P.underlying f3.type = some (.int .u8)) (t4 : P.underlying f4.type = some (.int .u64))
  (hf : DataW.trod enc P W base spare held fuel t [V] = some y) : WV W V := by
 have h5 : fs.size = 5 := by rw [hfs]; rfl
 obtain ⟨A, n, c, F, rfl, hc, hS, hT⟩ := row_structs ht hs hone (by rw [h5]; exact hC) (by omega) hf
 have each : ∀ i, i < n → ∃ x : Wk, x.ok ∧ ∀ j, j < 5 → F i j = wkv x j := by
  intro i hi
  obtain ⟨_, _, r0⟩ := hT i hi 0 f0 (by rw [hfs]; rfl)
  obtain ⟨_, _, r1⟩ := hT i hi 1 f1 (by rw [hfs]; rfl)
  obtain ⟨_, _, r2⟩ := hT i hi 2 f2 (by rw [hfs]; rfl)
  obtain ⟨_, _, r3⟩ := hT i hi 3 f3 (by rw [hfs]; rfl)
  obtain ⟨_, _, r4⟩ := hT i hi 4 f4 (by rw [hfs]; rfl)
  obtain ⟨b0, e0, _⟩ := DataW.trod_bool t0 r0
  obtain ⟨b1, e1, _⟩ := DataW.trod_bool t1 r1
  obtain ⟨b2, e2, _, w2⟩ := DataW.trod_int t2 r2
  obtain ⟨b3, e3, _, w3⟩ := DataW.trod_int t3 r3
  obtain ⟨b4, e4, _, w4⟩ := DataW.trod_int t4 r4
  simp at e0 e1 e2 e3 e4
  refine ⟨⟨b0, b1, b2, b3, b4⟩, ⟨wf8 w2, wf8 w3, Core.wf_u64 w4⟩, fun j hj => ?_⟩
  match j, hj with
  | 0, _ => exact e0
  | 1, _ => exact e1
  | 2, _ => exact e2
  | 3, _ => exact e3
  | 4, _ => exact e4
 haveI : Inhabited Wk := ⟨⟨false, false, 0, 0, 0⟩⟩
 obtain ⟨g, hg⟩ := choose_lt each
 exact ⟨A, n, c, g, rfl, hc, fun j hj => (hg j hj).1, by rw [h5] at hS; exact hS.congr (fun i hi j hj => (hg i hi).2 j hj)⟩
theorem open_works {t e e2 : TypeId} {fs : Array Field} {f0 f1 f2 f3 f4 : Field} {A : Option Addr} {len cap : Nat} {d : DataW H} {ps : List MemPlace}
  (ht : P.underlying t = some (.slice e)) (he : P.underlying e = some (.slice e2)) (hs : P.underlying e2 = some (.struct fs)) (hfs : fs = #[f0, f1, f2, f3, f4]) (hone : ∀ (i : Nat) (f : Field), fs[i]? = some f → f.offset = i ∧ P.cellsOf f.type = 1) (hC : P.cellsOf e = 1) (hC2 : P.cellsOf e2 = 5)
  (t0 : P.underlying f0.type = some .bool) (t1 : P.underlying f1.type = some .bool) (t2 : P.underlying f2.type = some (.int .u8)) (t3 : P.underlying f3.type = some (.int .u8)) (t4 : P.underlying f4.type = some (.int .u64)) (h : DataW.Trod enc P W base spare held t (.slice A len cap) d ps) :
  len ≤ cap ∧ ∃ V : Nat → Value, Sl W A len 1 (fun i _ => V i) ∧ ∀ i, i < len → WV W (V i) := by
 obtain ⟨fuel, hf⟩ := h
 rcases open_slice1 ht hC hf with ⟨hcs, _⟩ | ⟨x, l, c, m, n, V, D, Pl, hcs, _, hl, hm, hmm, hx, hall⟩
 ·simp [Value.cells] at hcs
  obtain ⟨rfl, rfl, rfl⟩ := hcs
  exact ⟨Nat.le_refl _, fun _ => undef, fun h => absurd h (by decide), fun i hi => absurd hi (by omega)⟩
 ·simp [Value.cells] at hcs
  obtain ⟨rfl, rfl, rfl⟩ := hcs
  have hlm : len ≤ m := by rw [hmm]; split <;> omega
  refine ⟨hl, V, fun hn => ?_, fun i hi => row_works he hs hfs hone hC2 t0 t1 t2 t3 t4 (hall i (by omega)).2⟩
  have c0 := (hall 0 (by omega)).1
  obtain ⟨b, o, spot⟩ := x
  have hspot : spot = none := by simpa [Addr.add] using World.cell?_spot c0
  subst hspot
  refine ⟨b, o, rfl, ?_, fun i hi j hj => ?_⟩
  ·rw [add_plain] at c0
   exact cell_lt c0
  ·have := (hall i (by omega)).1
   rw [add_plain] at this
   obtain rfl : j = 0 := by omega
   rw [Nat.mul_one]
   exact this
end
theorem work_one : ∀ (fs : Array Field), Try.prog.underlying 105 = some (.struct fs) → ∀ (i : Nat) (f : Field), fs[i]? = some f → f.offset = i ∧ Try.prog.cellsOf f.type = 1 := by
 intro fs hfs i f h
 rw [Try.underlying105] at hfs
 injection hfs with hfs
 injection hfs with hfs
 subst hfs
 have hi : i < 5 := (Array.getElem?_eq_some_iff.1 h).1
 match i, hi with
 | 0, _ => injection h with h; subst h; exact ⟨rfl, by kernel_rfl⟩
 | 1, _ => injection h with h; subst h; exact ⟨rfl, by kernel_rfl⟩
 | 2, _ => injection h with h; subst h; exact ⟨rfl, by kernel_rfl⟩
 | 3, _ => injection h with h; subst h; exact ⟨rfl, by kernel_rfl⟩
 | 4, _ => injection h with h; subst h; exact ⟨rfl, by kernel_rfl⟩
theorem open_w {H : Type} {enc : TypeId × Value → H} {W : World} {base : Nat} {spare : Nat → Bool} {held : Bool} {A : Option Addr} {len cap : Nat} {d : DataW H} {ps : List MemPlace} (h : DataW.Trod enc Try.prog W base spare held 98 (.slice A len cap) d ps) :
  len ≤ cap ∧ ∃ V : Nat → Value, Sl W A len 1 (fun i _ => V i) ∧ ∀ i, i < len → WV W (V i) :=
 open_works Try.underlying98 Try.underlying103 Try.underlying105 rfl (work_one _ Try.underlying105) (by kernel_rfl) (by kernel_rfl) (by exact Try.underlying4) (by exact Try.underlying4) (by exact Try.underlying5) (by exact Try.underlying5) (by exact Try.underlying33) h
end Go.Proofs.Ytijfkpoofpcacaa.OpenW
end
section
namespace Go.Proofs.Ytijfkpoofpcacaa.CoreRow
open Go.ChangeShapes Go.WideShapes Go.RowKit Go.Deep
section
variable {H : Type} {enc : TypeId × Value → H} {P : Program} {w : World} {base : Nat} {spare : Nat → Bool} {held : Bool}
theorem open_cells {r : Reach} {b0 : Nat} {t : TypeId} {fs : Array Field} {v : Value} {d : DataW H} {p : List MemPlace} (hs : P.underlying t = some (.struct fs)) (hone : oneCellFields P fs = true) (hC : P.cellsOf t = fs.size)
  (hv : Value.okWide P w r b0 t v) (h : DataW.Trod enc P w base spare held t v d p) :
  ∃ cs : List Value, v = .agg cs.toArray ∧ cs.length = fs.size ∧ ∀ (j : Nat) (f : Field), fs[j]? = some f → ∃ (n : Nat) (y : DataW H × List MemPlace), DataW.trod enc P w base spare held n f.type [cs.getD j undef] = some y := by
 obtain ⟨⟨cs⟩, rfl, hsz⟩ := okWide_struct hs hv
 obtain ⟨fuel, hf⟩ := h
 obtain ⟨xs, n, _, hx, _, hlen, hg⟩ := DataW.trod_struct hs hf
 have hcl : cs.length = fs.size := hsz.trans hC
 refine ⟨cs, rfl, hcl, fun j f hj => ?_⟩
 obtain ⟨ho, hk⟩ := hone_of hone j f hj
 have hjl : j < fs.size := (Array.getElem?_eq_some_iff.1 hj).1
 have h1 := hg j f hj
 rw [ho, hk] at h1
 have e := take1_drop cs j undef (by omega)
 have h2 : DataW.trod enc P w base spare held n f.type [cs.getD j undef] = xs[j]? := by rw [← e]; exact h1
 exact ⟨n, _, h2.trans (List.getElem?_eq_getElem (by omega))⟩
theorem cell_int {fs : Array Field} {cs : List Value} {k : IntKind} {ti : TypeId} (hi : P.underlying ti = some (.int k)) (hg : ∀ (j : Nat) (f : Field), fs[j]? = some f → ∃ (n : Nat) (y : DataW H × List MemPlace), DataW.trod enc P w base spare held n f.type [cs.getD j undef] = some y)
  (j : Nat) (ht : (fs.map (·.type))[j]? = some ti) : ∃ a : Int, cs.getD j undef = .int k a ∧ (Lit.int k a).wf = true := by
 rw [Array.getElem?_map] at ht
 obtain ⟨f, hf, ht⟩ := Option.map_eq_some_iff.1 ht
 obtain ⟨n, y, hy⟩ := hg j f hf
 rw [ht] at hy
 obtain ⟨a, ha, _, hw⟩ := DataW.trod_int hi hy
 exact ⟨a, (List.cons.inj ha).1, hw⟩
theorem open_ints6 {r : Reach} {b0 : Nat} {t ti : TypeId} {fs : Array Field} {v : Value} {d : DataW H} {p : List MemPlace} (hs : P.underlying t = some (.struct fs)) (hi : P.underlying ti = some (.int .i64)) (hone : oneCellFields P fs = true) (hC : P.cellsOf t = fs.size) (h6 : fs.map (·.type) = #[ti, ti, ti, ti, ti, ti])
  (hv : Value.okWide P w r b0 t v) (h : DataW.Trod enc P w base spare held t v d p) :
  ∃ a0 a1 a2 a3 a4 a5 : Int, v = .agg #[.int .i64 a0, .int .i64 a1, .int .i64 a2, .int .i64 a3, .int .i64 a4, .int .i64 a5] ∧ (Lit.int .i64 a0).wf = true ∧ (Lit.int .i64 a1).wf = true ∧ (Lit.int .i64 a2).wf = true ∧ (Lit.int .i64 a3).wf = true ∧ (Lit.int .i64 a4).wf = true ∧ (Lit.int .i64 a5).wf = true := by
 obtain ⟨cs, rfl, hl, hg⟩ := open_cells hs hone hC hv h
 have h6' : fs.size = 6 := by have := congrArg Array.size h6; simpa using this
 obtain ⟨a0, e0, w0⟩ := cell_int hi hg 0 (by rw [h6]; rfl)
 obtain ⟨a1, e1, w1⟩ := cell_int hi hg 1 (by rw [h6]; rfl)
 obtain ⟨a2, e2, w2⟩ := cell_int hi hg 2 (by rw [h6]; rfl)
 obtain ⟨a3, e3, w3⟩ := cell_int hi hg 3 (by rw [h6]; rfl)
 obtain ⟨a4, e4, w4⟩ := cell_int hi hg 4 (by rw [h6]; rfl)
 obtain ⟨a5, e5, w5⟩ := cell_int hi hg 5 (by rw [h6]; rfl)
 refine ⟨a0, a1, a2, a3, a4, a5, ?_, w0, w1, w2, w3, w4, w5⟩
 rw [h6'] at hl
 match cs, hl with
 | [c0, c1, c2, c3, c4, c5], _ =>
  simp at e0 e1 e2 e3 e4 e5
  subst e0 e1 e2 e3 e4 e5
  rfl
end
end Go.Proofs.Ytijfkpoofpcacaa.CoreRow
end
