/-
  The law EpochNone's walk; condition: the arguments as they are read.
-/
import Derived.Test.YtijfkpoofpcacaaEpochA
set_option linter.unusedVariables false
namespace Go.Proofs.Ytijfkpoofpcacaa.EpochN
open Go.RowKit Go.Proofs.YtijfkpoofpcacaaW.PrintWords Go.Proofs.Ytijfkpoofpcacaa.Blk Go.Proofs.Ytijfkpoofpcacaa.Core Go.Proofs.Ytijfkpoofpcacaa.MemC Go.Proofs.Ytijfkpoofpcacaa.MemD Go.Proofs.Ytijfkpoofpcacaa.MemT Go.Proofs.Ytijfkpoofpcacaa.Memory Go.Proofs.Ytijfkpoofpcacaa.PlanC Go.Proofs.Ytijfkpoofpcacaa.PlanD Go.Proofs.Ytijfkpoofpcacaa.StackC Go.Proofs.Ytijfkpoofpcacaa.StackG Go.Proofs.Ytijfkpoofpcacaa.EpochC Go.Proofs.Ytijfkpoofpcacaa.EpochS Go.Proofs.Ytijfkpoofpcacaa.EpochA
set_option maxHeartbeats 4000000 in
set_option maxRecDepth 100000 in
theorem none_yes (c : Cf) (s : Int) (w : World) (h : c.right = true) (s0 : 0 ≤ s) (s1 : s < c.C) : Calls Try.prog 6 #[.agg #[.int .i64 c.S, .int .i64 c.A, .int .i64 c.C, .int .i64 c.H, .int .i64 c.G, .int .i64 c.K], .int .i64 s] w fun e w' => e = .returned (.bool true) ∧ Below w.heap.size w w' := by
  have hf := Lib.hid (Blk.new w 23 #[.int .i64 c.S, .int .i64 c.A, .int .i64 c.C, .int .i64 c.H, .int .i64 c.G, .int .i64 c.K])
  have hT := Lib.hid ((Below.refl w.heap.size w).alloc (Nat.le_refl _) (.cells #[.int .i64 c.S, .int .i64 c.A, .int .i64 c.C, .int .i64 c.H, .int .i64 c.G, .int .i64 c.K] 23))
  replace h := Lib.hid h
  have tk : True := trivial
  go_enter Try.func6, Try.ntmps6
  generalize hCFe : w.heap.size = CF at *
  go_wp2_with (go_at_call 21; have _t := tk; refine (rRightC c _).mono ?_; rintro e w1 ⟨rfl, hb⟩; rw [h.out]; replace hf := Lib.hid (hf.out.below hb hf.out.lt); obtain ⟨k0, k1, k2, k3, k4, k5⟩ := cfgs hf.out; replace hT := Lib.hid (hT.out.trans (hb.mono (by have := hT.out.size; omega))); clear hb tk _t)
  replace hf := Lib.hid hf.out.drew
  replace hT := Lib.hid hT.out.drew
  have hX : w1.drew.cell? ⟨CF, 0, none⟩ = some (.int .i64 c.S) ∧ w1.drew.cell? ⟨CF, 1, none⟩ = some (.int .i64 c.A) ∧ w1.drew.cell? ⟨CF, 2, none⟩ = some (.int .i64 c.C) ∧ w1.drew.cell? ⟨CF, 3, none⟩ = some (.int .i64 c.H) ∧ w1.drew.cell? ⟨CF, 4, none⟩ = some (.int .i64 c.G) ∧ w1.drew.cell? ⟨CF, 5, none⟩ = some (.int .i64 c.K) := cfgs hf.out
  go_region_held3 (fun w' => w'.cell? ⟨CF, 0, none⟩ = some (.int .i64 c.S) ∧ w'.cell? ⟨CF, 1, none⟩ = some (.int .i64 c.A) ∧ w'.cell? ⟨CF, 2, none⟩ = some (.int .i64 c.C) ∧ w'.cell? ⟨CF, 3, none⟩ = some (.int .i64 c.H) ∧ w'.cell? ⟨CF, 4, none⟩ = some (.int .i64 c.G) ∧ w'.cell? ⟨CF, 5, none⟩ = some (.int .i64 c.K)) (assumption) (first
    | (go_at_call 32; refine (newPinC c _ h.out s s0 s1).mono ?_; rintro e w2 ⟨pa, rfl, _, _, hb⟩; replace hf := Lib.hid (hf.out.below hb hf.out.lt); have hA1 := cfgs hf.out; replace hT := Lib.hid (hT.out.trans (hb.mono (by have := hT.out.size; omega))); clear hb)
    | (go_at_call 38; refine (newLevC c _ h.out s s0 s1).mono ?_; rintro e w3 ⟨pa, rfl, _, _, hb⟩; replace hf := Lib.hid (hf.out.below hb hf.out.lt); have hA2 := cfgs hf.out; replace hT := Lib.hid (hT.out.trans (hb.mono (by have := hT.out.size; omega))); clear hb)
    | (go_at_call 39; refine (newAdvC c _ h.out).mono ?_; rintro e w4 ⟨pa, rfl, _, _, hb⟩; replace hf := Lib.hid (hf.out.below hb hf.out.lt); have hA3 := cfgs hf.out; replace hT := Lib.hid (hT.out.trans (hb.mono (by have := hT.out.size; omega))); clear hb)
    | (go_at_call 21; refine (rRightC c _).mono ?_; rintro e w5 ⟨rfl, hb⟩; rw [h.out]; replace hf := Lib.hid (hf.out.below hb hf.out.lt); have hA4 := cfgs hf.out; replace hT := Lib.hid (hT.out.trans (hb.mono (by have := hT.out.size; omega))); clear hb)
    | (go_at_call 33; refine (pin_nil _ _).mono ?_; rintro e w6 ⟨rfl, rfl⟩)
    | (go_at_call 40; refine (lev_nil _ _).mono ?_; rintro e w6 ⟨rfl, rfl⟩)
    | (go_at_call 41; refine (adv_nil _ _).mono ?_; rintro e w6 ⟨rfl, rfl⟩)
    | (go_at_call 37; refine (awake8C _).mono ?_; rintro e w7 ⟨rfl, hb⟩; replace hf := Lib.hid (hf.out.below hb hf.out.lt); have hA5 := cfgs hf.out; replace hT := Lib.hid (hT.out.trans (hb.mono (by have := hT.out.size; omega))); clear hb))
  all_goals
    go_wp2
    go_ret
    exact ⟨rfl, hCFe ▸ hT.out⟩
set_option maxHeartbeats 4000000 in
set_option maxRecDepth 100000 in
theorem none_lo (c : Cf) (s : Int) (w : World) (h : c.right = true) (s0 : s < 0) : Calls Try.prog 6 #[.agg #[.int .i64 c.S, .int .i64 c.A, .int .i64 c.C, .int .i64 c.H, .int .i64 c.G, .int .i64 c.K], .int .i64 s] w fun e w' => e = .returned (.bool true) ∧ Below w.heap.size w w' := by
  have hf := Lib.hid (Blk.new w 23 #[.int .i64 c.S, .int .i64 c.A, .int .i64 c.C, .int .i64 c.H, .int .i64 c.G, .int .i64 c.K])
  have hT := Lib.hid ((Below.refl w.heap.size w).alloc (Nat.le_refl _) (.cells #[.int .i64 c.S, .int .i64 c.A, .int .i64 c.C, .int .i64 c.H, .int .i64 c.G, .int .i64 c.K] 23))
  have hn : ¬ (c.right = true ∧ 0 ≤ s ∧ s < c.C) := fun x => by omega
  replace hn := Lib.hid hn
  replace h := Lib.hid h
  have tk : True := trivial
  go_enter Try.func6, Try.ntmps6
  generalize hCFe : w.heap.size = CF at *
  go_wp2_with (go_at_call 21; have _t := tk; refine (rRightC c _).mono ?_; rintro e w1 ⟨rfl, hb⟩; rw [h.out]; replace hf := Lib.hid (hf.out.below hb hf.out.lt); obtain ⟨k0, k1, k2, k3, k4, k5⟩ := cfgs hf.out; replace hT := Lib.hid (hT.out.trans (hb.mono (by have := hT.out.size; omega))); clear hb tk _t)
  replace hf := Lib.hid hf.out.drew
  replace hT := Lib.hid hT.out.drew
  have hX : w1.drew.cell? ⟨CF, 0, none⟩ = some (.int .i64 c.S) ∧ w1.drew.cell? ⟨CF, 1, none⟩ = some (.int .i64 c.A) ∧ w1.drew.cell? ⟨CF, 2, none⟩ = some (.int .i64 c.C) ∧ w1.drew.cell? ⟨CF, 3, none⟩ = some (.int .i64 c.H) ∧ w1.drew.cell? ⟨CF, 4, none⟩ = some (.int .i64 c.G) ∧ w1.drew.cell? ⟨CF, 5, none⟩ = some (.int .i64 c.K) := cfgs hf.out
  go_region_held3 (fun w' => w'.cell? ⟨CF, 0, none⟩ = some (.int .i64 c.S) ∧ w'.cell? ⟨CF, 1, none⟩ = some (.int .i64 c.A) ∧ w'.cell? ⟨CF, 2, none⟩ = some (.int .i64 c.C) ∧ w'.cell? ⟨CF, 3, none⟩ = some (.int .i64 c.H) ∧ w'.cell? ⟨CF, 4, none⟩ = some (.int .i64 c.G) ∧ w'.cell? ⟨CF, 5, none⟩ = some (.int .i64 c.K)) (assumption) (first
    | (go_at_call 32; refine (newPin_no c _ s hn.out).mono ?_; rintro e w2 ⟨rfl, hb⟩; replace hf := Lib.hid (hf.out.below hb hf.out.lt); have hA1 := cfgs hf.out; replace hT := Lib.hid (hT.out.trans (hb.mono (by have := hT.out.size; omega))); clear hb)
    | (go_at_call 38; refine (newLev_no c _ s hn.out).mono ?_; rintro e w3 ⟨rfl, hb⟩; replace hf := Lib.hid (hf.out.below hb hf.out.lt); have hA2 := cfgs hf.out; replace hT := Lib.hid (hT.out.trans (hb.mono (by have := hT.out.size; omega))); clear hb)
    | (go_at_call 39; refine (newAdvC c _ h.out).mono ?_; rintro e w4 ⟨pa, rfl, _, _, hb⟩; replace hf := Lib.hid (hf.out.below hb hf.out.lt); have hA3 := cfgs hf.out; replace hT := Lib.hid (hT.out.trans (hb.mono (by have := hT.out.size; omega))); clear hb)
    | (go_at_call 21; refine (rRightC c _).mono ?_; rintro e w5 ⟨rfl, hb⟩; rw [h.out]; replace hf := Lib.hid (hf.out.below hb hf.out.lt); have hA4 := cfgs hf.out; replace hT := Lib.hid (hT.out.trans (hb.mono (by have := hT.out.size; omega))); clear hb)
    | (go_at_call 33; refine (pin_nil _ _).mono ?_; rintro e w6 ⟨rfl, rfl⟩)
    | (go_at_call 40; refine (lev_nil _ _).mono ?_; rintro e w6 ⟨rfl, rfl⟩)
    | (go_at_call 41; refine (adv_nil _ _).mono ?_; rintro e w6 ⟨rfl, rfl⟩)
    | (go_at_call 37; refine (awake8C _).mono ?_; rintro e w7 ⟨rfl, hb⟩; replace hf := Lib.hid (hf.out.below hb hf.out.lt); have hA5 := cfgs hf.out; replace hT := Lib.hid (hT.out.trans (hb.mono (by have := hT.out.size; omega))); clear hb))
  all_goals
    go_wp2
    go_ret
    exact ⟨rfl, hCFe ▸ hT.out⟩
set_option maxHeartbeats 4000000 in
set_option maxRecDepth 100000 in
theorem none_hi (c : Cf) (s : Int) (w : World) (h : c.right = true) (s0 : 0 ≤ s) (s1 : c.C ≤ s) : Calls Try.prog 6 #[.agg #[.int .i64 c.S, .int .i64 c.A, .int .i64 c.C, .int .i64 c.H, .int .i64 c.G, .int .i64 c.K], .int .i64 s] w fun e w' => e = .returned (.bool true) ∧ Below w.heap.size w w' := by
  have hf := Lib.hid (Blk.new w 23 #[.int .i64 c.S, .int .i64 c.A, .int .i64 c.C, .int .i64 c.H, .int .i64 c.G, .int .i64 c.K])
  have hT := Lib.hid ((Below.refl w.heap.size w).alloc (Nat.le_refl _) (.cells #[.int .i64 c.S, .int .i64 c.A, .int .i64 c.C, .int .i64 c.H, .int .i64 c.G, .int .i64 c.K] 23))
  have hn : ¬ (c.right = true ∧ 0 ≤ s ∧ s < c.C) := fun x => by omega
  replace hn := Lib.hid hn
  have hd : decide (s < c.C) = false := decide_eq_false (by omega)
  replace h := Lib.hid h
  have tk : True := trivial
  go_enter Try.func6, Try.ntmps6
  generalize hCFe : w.heap.size = CF at *
  go_wp2_with (go_at_call 21; have _t := tk; refine (rRightC c _).mono ?_; rintro e w1 ⟨rfl, hb⟩; rw [h.out]; replace hf := Lib.hid (hf.out.below hb hf.out.lt); obtain ⟨k0, k1, k2, k3, k4, k5⟩ := cfgs hf.out; replace hT := Lib.hid (hT.out.trans (hb.mono (by have := hT.out.size; omega))); clear hb tk _t)
  replace hf := Lib.hid hf.out.drew
  replace hT := Lib.hid hT.out.drew
  have hX : w1.drew.cell? ⟨CF, 0, none⟩ = some (.int .i64 c.S) ∧ w1.drew.cell? ⟨CF, 1, none⟩ = some (.int .i64 c.A) ∧ w1.drew.cell? ⟨CF, 2, none⟩ = some (.int .i64 c.C) ∧ w1.drew.cell? ⟨CF, 3, none⟩ = some (.int .i64 c.H) ∧ w1.drew.cell? ⟨CF, 4, none⟩ = some (.int .i64 c.G) ∧ w1.drew.cell? ⟨CF, 5, none⟩ = some (.int .i64 c.K) := cfgs hf.out
  go_region_held3 (fun w' => w'.cell? ⟨CF, 0, none⟩ = some (.int .i64 c.S) ∧ w'.cell? ⟨CF, 1, none⟩ = some (.int .i64 c.A) ∧ w'.cell? ⟨CF, 2, none⟩ = some (.int .i64 c.C) ∧ w'.cell? ⟨CF, 3, none⟩ = some (.int .i64 c.H) ∧ w'.cell? ⟨CF, 4, none⟩ = some (.int .i64 c.G) ∧ w'.cell? ⟨CF, 5, none⟩ = some (.int .i64 c.K)) (assumption) (first
    | (go_at_call 32; refine (newPin_no c _ s hn.out).mono ?_; rintro e w2 ⟨rfl, hb⟩; replace hf := Lib.hid (hf.out.below hb hf.out.lt); have hA1 := cfgs hf.out; replace hT := Lib.hid (hT.out.trans (hb.mono (by have := hT.out.size; omega))); clear hb)
    | (go_at_call 38; refine (newLev_no c _ s hn.out).mono ?_; rintro e w3 ⟨rfl, hb⟩; replace hf := Lib.hid (hf.out.below hb hf.out.lt); have hA2 := cfgs hf.out; replace hT := Lib.hid (hT.out.trans (hb.mono (by have := hT.out.size; omega))); clear hb)
    | (go_at_call 39; refine (newAdvC c _ h.out).mono ?_; rintro e w4 ⟨pa, rfl, _, _, hb⟩; replace hf := Lib.hid (hf.out.below hb hf.out.lt); have hA3 := cfgs hf.out; replace hT := Lib.hid (hT.out.trans (hb.mono (by have := hT.out.size; omega))); clear hb)
    | (go_at_call 21; refine (rRightC c _).mono ?_; rintro e w5 ⟨rfl, hb⟩; rw [h.out]; replace hf := Lib.hid (hf.out.below hb hf.out.lt); have hA4 := cfgs hf.out; replace hT := Lib.hid (hT.out.trans (hb.mono (by have := hT.out.size; omega))); clear hb)
    | (go_at_call 33; refine (pin_nil _ _).mono ?_; rintro e w6 ⟨rfl, rfl⟩)
    | (go_at_call 40; refine (lev_nil _ _).mono ?_; rintro e w6 ⟨rfl, rfl⟩)
    | (go_at_call 41; refine (adv_nil _ _).mono ?_; rintro e w6 ⟨rfl, rfl⟩)
    | (go_at_call 37; refine (awake8C _).mono ?_; rintro e w7 ⟨rfl, hb⟩; replace hf := Lib.hid (hf.out.below hb hf.out.lt); have hA5 := cfgs hf.out; replace hT := Lib.hid (hT.out.trans (hb.mono (by have := hT.out.size; omega))); clear hb))
  all_goals
    go_wp2
    go_ret
    exact ⟨rfl, hCFe ▸ hT.out⟩
set_option maxHeartbeats 4000000 in
set_option maxRecDepth 100000 in
theorem none_no (c : Cf) (s : Int) (w : World) (h : c.right = false) : Calls Try.prog 6 #[.agg #[.int .i64 c.S, .int .i64 c.A, .int .i64 c.C, .int .i64 c.H, .int .i64 c.G, .int .i64 c.K], .int .i64 s] w fun e w' => e = .returned (.bool true) ∧ Below w.heap.size w w' := by
  have hf := Lib.hid (Blk.new w 23 #[.int .i64 c.S, .int .i64 c.A, .int .i64 c.C, .int .i64 c.H, .int .i64 c.G, .int .i64 c.K])
  have hT := Lib.hid ((Below.refl w.heap.size w).alloc (Nat.le_refl _) (.cells #[.int .i64 c.S, .int .i64 c.A, .int .i64 c.C, .int .i64 c.H, .int .i64 c.G, .int .i64 c.K] 23))
  have hn : ¬ (c.right = true ∧ 0 ≤ s ∧ s < c.C) := fun x => by rw [h] at x; exact absurd x.1 (by decide)
  replace hn := Lib.hid hn
  replace h := Lib.hid h
  have tk : True := trivial
  go_enter Try.func6, Try.ntmps6
  generalize hCFe : w.heap.size = CF at *
  go_wp2_with (go_at_call 21; have _t := tk; refine (rRightC c _).mono ?_; rintro e w1 ⟨rfl, hb⟩; rw [h.out]; replace hf := Lib.hid (hf.out.below hb hf.out.lt); obtain ⟨k0, k1, k2, k3, k4, k5⟩ := cfgs hf.out; replace hT := Lib.hid (hT.out.trans (hb.mono (by have := hT.out.size; omega))); clear hb tk _t)
  replace hf := Lib.hid hf.out.drew
  replace hT := Lib.hid hT.out.drew
  have hX : w1.drew.cell? ⟨CF, 0, none⟩ = some (.int .i64 c.S) ∧ w1.drew.cell? ⟨CF, 1, none⟩ = some (.int .i64 c.A) ∧ w1.drew.cell? ⟨CF, 2, none⟩ = some (.int .i64 c.C) ∧ w1.drew.cell? ⟨CF, 3, none⟩ = some (.int .i64 c.H) ∧ w1.drew.cell? ⟨CF, 4, none⟩ = some (.int .i64 c.G) ∧ w1.drew.cell? ⟨CF, 5, none⟩ = some (.int .i64 c.K) := cfgs hf.out
  go_region_held3 (fun w' => w'.cell? ⟨CF, 0, none⟩ = some (.int .i64 c.S) ∧ w'.cell? ⟨CF, 1, none⟩ = some (.int .i64 c.A) ∧ w'.cell? ⟨CF, 2, none⟩ = some (.int .i64 c.C) ∧ w'.cell? ⟨CF, 3, none⟩ = some (.int .i64 c.H) ∧ w'.cell? ⟨CF, 4, none⟩ = some (.int .i64 c.G) ∧ w'.cell? ⟨CF, 5, none⟩ = some (.int .i64 c.K)) (assumption) (first
    | (go_at_call 32; refine (newPin_no c _ s hn.out).mono ?_; rintro e w2 ⟨rfl, hb⟩; replace hf := Lib.hid (hf.out.below hb hf.out.lt); have hA1 := cfgs hf.out; replace hT := Lib.hid (hT.out.trans (hb.mono (by have := hT.out.size; omega))); clear hb)
    | (go_at_call 38; refine (newLev_no c _ s hn.out).mono ?_; rintro e w3 ⟨rfl, hb⟩; replace hf := Lib.hid (hf.out.below hb hf.out.lt); have hA2 := cfgs hf.out; replace hT := Lib.hid (hT.out.trans (hb.mono (by have := hT.out.size; omega))); clear hb)
    | (go_at_call 39; refine (newAdv_no c _ h.out).mono ?_; rintro e w4 ⟨rfl, hb⟩; replace hf := Lib.hid (hf.out.below hb hf.out.lt); have hA3 := cfgs hf.out; replace hT := Lib.hid (hT.out.trans (hb.mono (by have := hT.out.size; omega))); clear hb)
    | (go_at_call 21; refine (rRightC c _).mono ?_; rintro e w5 ⟨rfl, hb⟩; rw [h.out]; replace hf := Lib.hid (hf.out.below hb hf.out.lt); have hA4 := cfgs hf.out; replace hT := Lib.hid (hT.out.trans (hb.mono (by have := hT.out.size; omega))); clear hb)
    | (go_at_call 33; refine (pin_nil _ _).mono ?_; rintro e w6 ⟨rfl, rfl⟩)
    | (go_at_call 40; refine (lev_nil _ _).mono ?_; rintro e w6 ⟨rfl, rfl⟩)
    | (go_at_call 41; refine (adv_nil _ _).mono ?_; rintro e w6 ⟨rfl, rfl⟩)
    | (go_at_call 37; refine (awake8C _).mono ?_; rintro e w7 ⟨rfl, hb⟩; replace hf := Lib.hid (hf.out.below hb hf.out.lt); have hA5 := cfgs hf.out; replace hT := Lib.hid (hT.out.trans (hb.mono (by have := hT.out.size; omega))); clear hb))
  all_goals
    go_wp2
    go_ret
    exact ⟨rfl, hCFe ▸ hT.out⟩
theorem noneC (c : Cf) (s : Int) (w : World) : Calls Try.prog 6 #[.agg #[.int .i64 c.S, .int .i64 c.A, .int .i64 c.C, .int .i64 c.H, .int .i64 c.G, .int .i64 c.K], .int .i64 s] w fun e w' => e = .returned (.bool true) ∧ Below w.heap.size w w' := by
  cases h : c.right with
  | false => exact none_no c s w h
  | true =>
    rcases Int.lt_or_le s 0 with h0 | h0
    · exact none_lo c s w h h0
    · rcases Int.lt_or_le s c.C with h1 | h1
      · exact none_yes c s w h h0 h1
      · exact none_hi c s w h h0 h1
end Go.Proofs.Ytijfkpoofpcacaa.EpochN
