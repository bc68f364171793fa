/-
  The law StackLists' walk; condition: the arguments as they are read.
-/
import Derived.Test.YtijfkpoofpcacaaStackU
set_option linter.unusedVariables false
namespace Go.Proofs.Ytijfkpoofpcacaa.StackV
open Go.RowKit Go.Proofs.Ytijfkpoofpcacaa.RefM Go.Proofs.YtijfkpoofpcacaaW.PrintWords Go.Proofs.Ytijfkpoofpcacaa.Blk Go.Proofs.Ytijfkpoofpcacaa.Core Go.Proofs.Ytijfkpoofpcacaa.MemC Go.Proofs.Ytijfkpoofpcacaa.MemD Go.Proofs.Ytijfkpoofpcacaa.MemT Go.Proofs.Ytijfkpoofpcacaa.Memory Go.Proofs.Ytijfkpoofpcacaa.PlanC Go.Proofs.Ytijfkpoofpcacaa.PlanD Go.Proofs.Ytijfkpoofpcacaa.StackC Go.Proofs.Ytijfkpoofpcacaa.StackL Go.Proofs.Ytijfkpoofpcacaa.StackS Go.Proofs.Ytijfkpoofpcacaa.StackT Go.Proofs.Ytijfkpoofpcacaa.StackF Go.Proofs.Ytijfkpoofpcacaa.StackP Go.Proofs.Ytijfkpoofpcacaa.StackU Go.Proofs.Ytijfkpoofpcacaa.Opens
theorem lists_long (c : Cf) (w : World) (A : Option Addr) (n cc : Nat) (ft : Bool) (h : 700 < n) : Calls Try.prog 4 #[.agg #[.int .i64 c.S, .int .i64 c.A, .int .i64 c.C, .int .i64 c.H, .int .i64 c.G, .int .i64 c.K], .slice A n cc, .bool ft] w fun e w' => e = .returned (.bool true) ∧ Below w.heap.size w w' := by
  have h' : (700 : Int) < (n : Int) := by omega
  clear h
  go_enter Try.func4, Try.ntmps4
  go_wp2_with (go_at_call 27; refine (awake7C _).mono ?_; rintro e w1 ⟨rfl, hb⟩; replace hb := Lib.hid (below_pre hb))
  go_ret
  exact ⟨rfl, hb.out⟩
set_option maxHeartbeats 4000000 in
set_option maxRecDepth 100000 in
theorem lists_a (c : Cf) (w : World) (A : Option Addr) (n cc : Nat) (ft : Bool) (h : n ≤ 700) (hPk0 : Pk c (.slice A n cc) w) (hft : ft = false) : Calls Try.prog 4 #[.agg #[.int .i64 c.S, .int .i64 c.A, .int .i64 c.C, .int .i64 c.H, .int .i64 c.G, .int .i64 c.K], .slice A n cc, .bool ft] w fun e w' => e = .returned (.bool true) ∧ Below w.heap.size w w' := by
  have hf := Lib.hid (Blk.new w 23 #[.int .i64 c.S, .int .i64 c.A, .int .i64 c.C, .int .i64 c.H, .int .i64 c.G, .int .i64 c.K])
  have hT0 := Lib.hid ((Below.refl w.heap.size w).alloc (Nat.le_refl _) (.cells #[.int .i64 c.S, .int .i64 c.A, .int .i64 c.C, .int .i64 c.H, .int .i64 c.G, .int .i64 c.K] 23))
  have h' : ¬ (700 : Int) < (n : Int) := by omega
  subst hft
  have hPk1 : Pk c (.slice A n cc) (w.alloc (.cells #[.int .i64 c.S, .int .i64 c.A, .int .i64 c.C, .int .i64 c.H, .int .i64 c.G, .int .i64 c.K] 23)) := by
    obtain ⟨RD, L, a1, a2, a3, a4⟩ := hPk0
    exact ⟨RD, L, a2 _ _ a1 hT0.out, a2, a3, a4⟩
  clear hPk0
  replace hPk1 := Lib.hid hPk1
  go_enter Try.func4, Try.ntmps4
  generalize hCFe : w.heap.size = CF at *
  go_wp2
  have hfz := hf
  have hT := hT0
  have hPk := hPk1.out
  clear hf hT0 hPk1
  generalize w.alloc (.cells #[.int .i64 c.S, .int .i64 c.A, .int .i64 c.C, .int .i64 c.H, .int .i64 c.G, .int .i64 c.K] 23) = wa at *
  obtain ⟨RD, L, hRD, hcar, hL, hRf⟩ := hPk
  have hRDd := Lib.hid (hcar wa wa.drew hRD (Below.refl _ _).drew)
  have hX : wa.drew.cell? ⟨CF, 0, none⟩ = some (.int .i64 c.S) ∧ wa.drew.cell? ⟨CF, 1, none⟩ = some (.int .i64 c.A) ∧ wa.drew.cell? ⟨CF, 2, none⟩ = some (.int .i64 c.C) ∧ wa.drew.cell? ⟨CF, 3, none⟩ = some (.int .i64 c.H) ∧ wa.drew.cell? ⟨CF, 4, none⟩ = some (.int .i64 c.G) ∧ wa.drew.cell? ⟨CF, 5, none⟩ = some (.int .i64 c.K) := cfgs hfz.out.drew
  replace hfz := Lib.hid hfz.out.drew
  replace hT := Lib.hid hT.out.drew
  replace hcar := Lib.hid hcar
  replace hL := Lib.hid hL
  replace hRf := Lib.hid hRf
  clear hRD
  go_region_held3 (fun w' => w'.cell? ⟨CF, 0, none⟩ = some (.int .i64 c.S) ∧ w'.cell? ⟨CF, 1, none⟩ = some (.int .i64 c.A) ∧ w'.cell? ⟨CF, 2, none⟩ = some (.int .i64 c.C) ∧ w'.cell? ⟨CF, 3, none⟩ = some (.int .i64 c.H) ∧ w'.cell? ⟨CF, 4, none⟩ = some (.int .i64 c.G) ∧ w'.cell? ⟨CF, 5, none⟩ = some (.int .i64 c.K)) (assumption) (first
    | (go_at_call 29; refine (hL.out _ hRDd.out).mono ?_; rintro e w8 ⟨u, rfl, hu, hb⟩; replace hfz := Lib.hid (hfz.out.below hb hfz.out.lt); have hY := cfgs hfz.out; replace hRDd := Lib.hid (hcar.out _ _ hRDd.out hb); replace hT := Lib.hid (hT.out.trans (hb.mono (by have := hT.out.size; omega))); (try replace hv := Lib.hid (hv.out.below hb)); replace hu := Lib.hid hu; clear hb)
    | (go_at_call 30; refine (hRf.out _ hRDd.out).mono ?_; rintro e w9 ⟨v, rfl, hv, hb⟩; replace hfz := Lib.hid (hfz.out.below hb hfz.out.lt); have hZ := cfgs hfz.out; replace hRDd := Lib.hid (hcar.out _ _ hRDd.out hb); replace hT := Lib.hid (hT.out.trans (hb.mono (by have := hT.out.size; omega))); (try replace hu := Lib.hid (hu.out.below hb)); replace hv := Lib.hid hv; clear hb)
    | (go_at_call 28; refine (sameC _ _ _ _ _ L L hu.out hv.out).mono ?_; rintro e w10 ⟨rfl, hb⟩; rw [decide_eq_true rfl]; replace hfz := Lib.hid (hfz.out.below hb hfz.out.lt); have hQ := cfgs hfz.out; replace hT := Lib.hid (hT.out.trans (hb.mono (by have := hT.out.size; omega))); clear hb)
    | (go_at_call 27; refine (awake7C _).mono ?_; rintro e w11 ⟨rfl, hb⟩; replace hfz := Lib.hid (hfz.out.below hb hfz.out.lt); have hP := cfgs hfz.out; replace hT := Lib.hid (hT.out.trans (hb.mono (by have := hT.out.size; omega))); clear hb))
  all_goals
    go_wp2
    go_ret
    exact ⟨rfl, hCFe ▸ hT.out⟩
set_option maxHeartbeats 4000000 in
set_option maxRecDepth 100000 in
theorem lists_b (c : Cf) (w : World) (A : Option Addr) (n cc : Nat) (ft : Bool) (h : n ≤ 700) (hPk0 : Pk c (.slice A n cc) w) (hft : ft = true) (hr : c.right = false) : Calls Try.prog 4 #[.agg #[.int .i64 c.S, .int .i64 c.A, .int .i64 c.C, .int .i64 c.H, .int .i64 c.G, .int .i64 c.K], .slice A n cc, .bool ft] w fun e w' => e = .returned (.bool true) ∧ Below w.heap.size w w' := by
  have hf := Lib.hid (Blk.new w 23 #[.int .i64 c.S, .int .i64 c.A, .int .i64 c.C, .int .i64 c.H, .int .i64 c.G, .int .i64 c.K])
  have hT0 := Lib.hid ((Below.refl w.heap.size w).alloc (Nat.le_refl _) (.cells #[.int .i64 c.S, .int .i64 c.A, .int .i64 c.C, .int .i64 c.H, .int .i64 c.G, .int .i64 c.K] 23))
  have h' : ¬ (700 : Int) < (n : Int) := by omega
  subst hft
  replace hr := Lib.hid hr
  have hPk1 : ∀ w1, Below (w.alloc (.cells #[.int .i64 c.S, .int .i64 c.A, .int .i64 c.C, .int .i64 c.H, .int .i64 c.G, .int .i64 c.K] 23)).heap.size (w.alloc (.cells #[.int .i64 c.S, .int .i64 c.A, .int .i64 c.C, .int .i64 c.H, .int .i64 c.G, .int .i64 c.K] 23)) w1 → Pk c (.slice A n cc) w1 := by
    obtain ⟨RD, L, a1, a2, a3, a4⟩ := hPk0
    exact fun w1 hb => ⟨RD, L, a2 _ _ (a2 _ _ a1 hT0.out) hb, a2, a3, a4⟩
  clear hPk0
  replace hPk1 := Lib.hid hPk1
  go_enter Try.func4, Try.ntmps4
  generalize hCFe : w.heap.size = CF at *
  go_wp2_with (go_at_call 21; refine (rRightC c _).mono ?_; rintro e w1 ⟨rfl, hb1⟩; rw [hr.out]; have hf1 := hf.out.below hb1 hf.out.lt; obtain ⟨k0, k1, k2, k3, k4, k5⟩ := cfgs hf1; replace hf1 := Lib.hid hf1; replace hb1 := Lib.hid hb1)
  have hfz := hf1
  have hT := Lib.hid (hT0.out.trans (hb1.out.mono (by have := hT0.out.size; omega)))
  have hPk := hPk1.out _ hb1.out
  clear hf hT0 hPk1 hf1 hb1
  obtain ⟨RD, L, hRD, hcar, hL, hRf⟩ := hPk
  have hRDd := Lib.hid (hcar w1 w1.drew hRD (Below.refl _ _).drew)
  have hX : w1.drew.cell? ⟨CF, 0, none⟩ = some (.int .i64 c.S) ∧ w1.drew.cell? ⟨CF, 1, none⟩ = some (.int .i64 c.A) ∧ w1.drew.cell? ⟨CF, 2, none⟩ = some (.int .i64 c.C) ∧ w1.drew.cell? ⟨CF, 3, none⟩ = some (.int .i64 c.H) ∧ w1.drew.cell? ⟨CF, 4, none⟩ = some (.int .i64 c.G) ∧ w1.drew.cell? ⟨CF, 5, none⟩ = some (.int .i64 c.K) := cfgs hfz.out.drew
  replace hfz := Lib.hid hfz.out.drew
  replace hT := Lib.hid hT.out.drew
  replace hcar := Lib.hid hcar
  replace hL := Lib.hid hL
  replace hRf := Lib.hid hRf
  clear hRD
  go_region_held3 (fun w' => w'.cell? ⟨CF, 0, none⟩ = some (.int .i64 c.S) ∧ w'.cell? ⟨CF, 1, none⟩ = some (.int .i64 c.A) ∧ w'.cell? ⟨CF, 2, none⟩ = some (.int .i64 c.C) ∧ w'.cell? ⟨CF, 3, none⟩ = some (.int .i64 c.H) ∧ w'.cell? ⟨CF, 4, none⟩ = some (.int .i64 c.G) ∧ w'.cell? ⟨CF, 5, none⟩ = some (.int .i64 c.K)) (assumption) (first
    | (go_at_call 29; refine (hL.out _ hRDd.out).mono ?_; rintro e w8 ⟨u, rfl, hu, hb⟩; replace hfz := Lib.hid (hfz.out.below hb hfz.out.lt); have hY := cfgs hfz.out; replace hRDd := Lib.hid (hcar.out _ _ hRDd.out hb); replace hT := Lib.hid (hT.out.trans (hb.mono (by have := hT.out.size; omega))); (try replace hv := Lib.hid (hv.out.below hb)); replace hu := Lib.hid hu; clear hb)
    | (go_at_call 30; refine (hRf.out _ hRDd.out).mono ?_; rintro e w9 ⟨v, rfl, hv, hb⟩; replace hfz := Lib.hid (hfz.out.below hb hfz.out.lt); have hZ := cfgs hfz.out; replace hRDd := Lib.hid (hcar.out _ _ hRDd.out hb); replace hT := Lib.hid (hT.out.trans (hb.mono (by have := hT.out.size; omega))); (try replace hu := Lib.hid (hu.out.below hb)); replace hv := Lib.hid hv; clear hb)
    | (go_at_call 28; refine (sameC _ _ _ _ _ L L hu.out hv.out).mono ?_; rintro e w10 ⟨rfl, hb⟩; rw [decide_eq_true rfl]; replace hfz := Lib.hid (hfz.out.below hb hfz.out.lt); have hQ := cfgs hfz.out; replace hT := Lib.hid (hT.out.trans (hb.mono (by have := hT.out.size; omega))); clear hb)
    | (go_at_call 27; refine (awake7C _).mono ?_; rintro e w11 ⟨rfl, hb⟩; replace hfz := Lib.hid (hfz.out.below hb hfz.out.lt); have hP := cfgs hfz.out; replace hT := Lib.hid (hT.out.trans (hb.mono (by have := hT.out.size; omega))); clear hb))
  all_goals
    go_wp2
    go_ret
    exact ⟨rfl, hCFe ▸ hT.out⟩
set_option maxHeartbeats 4000000 in
set_option maxRecDepth 100000 in
theorem lists_c (c : Cf) (w : World) (A : Option Addr) (n cc : Nat) (ft : Bool) (h : n ≤ 700) (hPk0 : Pk c (.slice A n cc) w) (hft : ft = true) (hr : c.right = true) (hs : ¬ c.S ≤ 20) : Calls Try.prog 4 #[.agg #[.int .i64 c.S, .int .i64 c.A, .int .i64 c.C, .int .i64 c.H, .int .i64 c.G, .int .i64 c.K], .slice A n cc, .bool ft] w fun e w' => e = .returned (.bool true) ∧ Below w.heap.size w w' := by
  have hf := Lib.hid (Blk.new w 23 #[.int .i64 c.S, .int .i64 c.A, .int .i64 c.C, .int .i64 c.H, .int .i64 c.G, .int .i64 c.K])
  have hT0 := Lib.hid ((Below.refl w.heap.size w).alloc (Nat.le_refl _) (.cells #[.int .i64 c.S, .int .i64 c.A, .int .i64 c.C, .int .i64 c.H, .int .i64 c.G, .int .i64 c.K] 23))
  have h' : ¬ (700 : Int) < (n : Int) := by omega
  subst hft
  have hd : decide (c.S ≤ 20) = false := decide_eq_false hs
  replace hr := Lib.hid hr
  have hPk1 : ∀ w1, Below (w.alloc (.cells #[.int .i64 c.S, .int .i64 c.A, .int .i64 c.C, .int .i64 c.H, .int .i64 c.G, .int .i64 c.K] 23)).heap.size (w.alloc (.cells #[.int .i64 c.S, .int .i64 c.A, .int .i64 c.C, .int .i64 c.H, .int .i64 c.G, .int .i64 c.K] 23)) w1 → Pk c (.slice A n cc) w1 := by
    obtain ⟨RD, L, a1, a2, a3, a4⟩ := hPk0
    exact fun w1 hb => ⟨RD, L, a2 _ _ (a2 _ _ a1 hT0.out) hb, a2, a3, a4⟩
  clear hPk0
  replace hPk1 := Lib.hid hPk1
  go_enter Try.func4, Try.ntmps4
  generalize hCFe : w.heap.size = CF at *
  go_wp2_with (go_at_call 21; refine (rRightC c _).mono ?_; rintro e w1 ⟨rfl, hb1⟩; rw [hr.out]; have hf1 := hf.out.below hb1 hf.out.lt; obtain ⟨k0, k1, k2, k3, k4, k5⟩ := cfgs hf1; replace hf1 := Lib.hid hf1; replace hb1 := Lib.hid hb1)
  have hfz := hf1
  have hT := Lib.hid (hT0.out.trans (hb1.out.mono (by have := hT0.out.size; omega)))
  have hPk := hPk1.out _ hb1.out
  clear k0 k1 k2 k3 k4 k5 hf hT0 hPk1 hf1 hb1
  obtain ⟨RD, L, hRD, hcar, hL, hRf⟩ := hPk
  have hRDd := Lib.hid (hcar w1 w1.drew hRD (Below.refl _ _).drew)
  have hX : w1.drew.cell? ⟨CF, 0, none⟩ = some (.int .i64 c.S) ∧ w1.drew.cell? ⟨CF, 1, none⟩ = some (.int .i64 c.A) ∧ w1.drew.cell? ⟨CF, 2, none⟩ = some (.int .i64 c.C) ∧ w1.drew.cell? ⟨CF, 3, none⟩ = some (.int .i64 c.H) ∧ w1.drew.cell? ⟨CF, 4, none⟩ = some (.int .i64 c.G) ∧ w1.drew.cell? ⟨CF, 5, none⟩ = some (.int .i64 c.K) := cfgs hfz.out.drew
  replace hfz := Lib.hid hfz.out.drew
  replace hT := Lib.hid hT.out.drew
  replace hcar := Lib.hid hcar
  replace hL := Lib.hid hL
  replace hRf := Lib.hid hRf
  clear hRD
  go_region_held3 (fun w' => w'.cell? ⟨CF, 0, none⟩ = some (.int .i64 c.S) ∧ w'.cell? ⟨CF, 1, none⟩ = some (.int .i64 c.A) ∧ w'.cell? ⟨CF, 2, none⟩ = some (.int .i64 c.C) ∧ w'.cell? ⟨CF, 3, none⟩ = some (.int .i64 c.H) ∧ w'.cell? ⟨CF, 4, none⟩ = some (.int .i64 c.G) ∧ w'.cell? ⟨CF, 5, none⟩ = some (.int .i64 c.K)) (assumption) (first
    | (go_at_call 29; refine (hL.out _ hRDd.out).mono ?_; rintro e w8 ⟨u, rfl, hu, hb⟩; replace hfz := Lib.hid (hfz.out.below hb hfz.out.lt); have hY := cfgs hfz.out; replace hRDd := Lib.hid (hcar.out _ _ hRDd.out hb); replace hT := Lib.hid (hT.out.trans (hb.mono (by have := hT.out.size; omega))); (try replace hv := Lib.hid (hv.out.below hb)); replace hu := Lib.hid hu; clear hb)
    | (go_at_call 30; refine (hRf.out _ hRDd.out).mono ?_; rintro e w9 ⟨v, rfl, hv, hb⟩; replace hfz := Lib.hid (hfz.out.below hb hfz.out.lt); have hZ := cfgs hfz.out; replace hRDd := Lib.hid (hcar.out _ _ hRDd.out hb); replace hT := Lib.hid (hT.out.trans (hb.mono (by have := hT.out.size; omega))); (try replace hu := Lib.hid (hu.out.below hb)); replace hv := Lib.hid hv; clear hb)
    | (go_at_call 28; refine (sameC _ _ _ _ _ L L hu.out hv.out).mono ?_; rintro e w10 ⟨rfl, hb⟩; rw [decide_eq_true rfl]; replace hfz := Lib.hid (hfz.out.below hb hfz.out.lt); have hQ := cfgs hfz.out; replace hT := Lib.hid (hT.out.trans (hb.mono (by have := hT.out.size; omega))); clear hb)
    | (go_at_call 27; refine (awake7C _).mono ?_; rintro e w11 ⟨rfl, hb⟩; replace hfz := Lib.hid (hfz.out.below hb hfz.out.lt); have hP := cfgs hfz.out; replace hT := Lib.hid (hT.out.trans (hb.mono (by have := hT.out.size; omega))); clear hb))
  all_goals
    go_wp2
    go_ret
    exact ⟨rfl, hCFe ▸ hT.out⟩
set_option maxHeartbeats 4000000 in
set_option maxRecDepth 100000 in
theorem lists_fit (c : Cf) (w : World) (A : Option Addr) (n cc : Nat) (q : Nat → Int) (h : n ≤ 700) (hc : n ≤ cc) (hS : Sl w A n 1 (fun i _ => .int .u64 (q i))) (hq : ∀ i, i < n → 0 ≤ q i ∧ q i < 18446744073709551616) (hr : c.right = true) (hs : c.S ≤ 20) : Calls Try.prog 4 #[.agg #[.int .i64 c.S, .int .i64 c.A, .int .i64 c.C, .int .i64 c.H, .int .i64 c.G, .int .i64 c.K], .slice A n cc, .bool true] w fun e w' => e = .returned (.bool true) ∧ Below w.heap.size w w' := by
  have hf := Lib.hid (Blk.new w 23 #[.int .i64 c.S, .int .i64 c.A, .int .i64 c.C, .int .i64 c.H, .int .i64 c.G, .int .i64 c.K])
  have hT0 := Lib.hid ((Below.refl w.heap.size w).alloc (Nat.le_refl _) (.cells #[.int .i64 c.S, .int .i64 c.A, .int .i64 c.C, .int .i64 c.H, .int .i64 c.G, .int .i64 c.K] 23))
  have h' : ¬ (700 : Int) < (n : Int) := by omega
  have hd : decide (c.S ≤ 20) = true := decide_eq_true hs
  have hU := memF_U c.A c.C c.H (c.S - 1).toNat (by omega)
  have hbd := size_bd hr
  have hbd' : 9 ≤ c.size ∧ c.size ≤ 800 := by unfold Cf.size; omega
  clear hbd
  replace hr := Lib.hid hr
  replace hU := Lib.hid hU
  replace hS := Lib.hid hS
  replace hq := Lib.hid hq
  go_enter Try.func4, Try.ntmps4
  generalize hCFe : w.heap.size = CF at *
  go_wp2_with (first
    | (go_at_call 21; refine (rRightC c _).mono ?_; rintro e w1 ⟨rfl, hb1⟩; rw [hr.out]; have hf1 := hf.out.below hb1 hf.out.lt; obtain ⟨k0, k1, k2, k3, k4, k5⟩ := cfgs hf1; replace hf1 := Lib.hid hf1; replace hb1 := Lib.hid hb1)
    | (go_at_call 25; refine (refMemC c _ hr.out).mono ?_; rintro e w2 ⟨AA, ca, b, N, rfl, hN, hb0, hR, hb2⟩; have hf2 := hf1.out.below hb2 hf1.out.lt; replace hf2 := Lib.hid hf2; replace hR := Lib.hid hR; replace hb2 := Lib.hid hb2))
  obtain ⟨e0, hca, _⟩ := rd_of_row hR.out (by omega)
  subst e0
  have hT := Lib.hid ((hT0.out.trans (hb1.out.mono (by have := hT0.out.size; omega))).trans (hb2.out.mono (by have := hT0.out.size; have := hb1.out.size; omega)))
  have hS2 := Lib.hid (hS.out.below hT.out (by omega))
  have hbCF : CF < b := Nat.lt_of_lt_of_le hf1.out.lt hb0
  have hR0 := hR.out
  have hm0 : mix q (memF c.A c.C c.H (c.S - 1).toNat) 0 = memF c.A c.C c.H (c.S - 1).toNat := by funext j; unfold mix; rw [if_neg (by omega)]
  rw [← hm0] at hR0
  generalize memF c.A c.C c.H (c.S - 1).toNat = mf at *
  replace hR0 := Lib.hid hR0
  have hbS : ∀ g o, A = some ⟨g, o, none⟩ → 0 < n → g < w.heap.size := fun g o e hn => by
    obtain ⟨g', o', e', hl, _⟩ := hS.out hn
    rw [e] at e'
    cases e'
    exact hl
  replace hbS := Lib.hid hbS
  clear k0 k1 k2 k3 k4 k5 hf hT0 hf1 hb1 hb2 hR hm0 hS hb0
  go_loopw [8] (fun z wr => ∃ i : Nat, i ≤ n ∧ i ≤ N ∧ z = .int .i64 (i : Int) ∧ RowB wr (some ⟨b, 0, none⟩) ca b N (mix q mf i) ∧ Fr (fun k => k = b) w2 wr) (fun z _ => n - (intOf z).toNat)
  case atStart => exact ⟨0, Nat.zero_le _, Nat.zero_le _, rfl, hR0.out, Fr.refl _ _⟩
  case round =>
    obtain ⟨i, hi, hi2, rfl, hRi, hF⟩ := hrel
    by_cases hlt : i < n
    · by_cases hlt2 : i < N
      · obtain ⟨_, x5, y5⟩ := hRi.cell hlt2
        have hSi := hS2.out.fr hF (fun g o e hn => by have := hbS.out g o e hn; intro (e2 : g = b); omega)
        obtain ⟨g, o, rfl, _, hcl⟩ := hSi (by omega)
        have x6 := hcl i hlt 0 (by decide)
        rw [Nat.mul_one] at x6
        have x6' : wr.cell? ⟨g, o + i, none⟩ = some (.int .u64 (q i)) := x6
        clear hcl x6 hSi
        replace hRi := Lib.hid hRi
        replace hF := Lib.hid hF
        go_wp2
        go_roundw
        case rel =>
          have hR8 := hRi.out.set i hlt2 (q i)
          rw [mix_succ] at hR8
          exact ⟨i + 1, by omega, by omega, by go_num, hR8, hF.out.trans (Fr.set (fun k => k = b) _ (p := ⟨b, i, none⟩) rfl _)⟩
        case measure => simp [intOf]; omega
      · have e1 : i = N := by omega
        have hlt' : (i : Int) < (n : Int) := by omega
        subst e1
        have hU2 : U (mix q mf i) := fun j => by
          unfold mix
          split
          · exact hq.out j (by omega)
          · exact hU.out j
        obtain ⟨_, _, hRd⟩ := rd_of_row hRi (by omega)
        have hPk := pk_right hU2 hr.out hN hca hRd
        have hfz := Lib.hid (hf2.out.fr hF (fun e => by have e' : CF = b := e; omega))
        replace hT := Lib.hid (hT.out.trans (hF.below (fun k hk => ⟨by have := hT.out.size; omega, fun e => by have e' : k = b := e; omega⟩)))
        clear hf2 hRi hF hRd hU2 hR0 hS2
        go_wp2
        obtain ⟨RD, L, hRD, hcar, hL, hRf⟩ := hPk
        have hRDd := Lib.hid (hcar wr wr.drew hRD (Below.refl _ _).drew)
        have hX : wr.drew.cell? ⟨CF, 0, none⟩ = some (.int .i64 c.S) ∧ wr.drew.cell? ⟨CF, 1, none⟩ = some (.int .i64 c.A) ∧ wr.drew.cell? ⟨CF, 2, none⟩ = some (.int .i64 c.C) ∧ wr.drew.cell? ⟨CF, 3, none⟩ = some (.int .i64 c.H) ∧ wr.drew.cell? ⟨CF, 4, none⟩ = some (.int .i64 c.G) ∧ wr.drew.cell? ⟨CF, 5, none⟩ = some (.int .i64 c.K) := cfgs hfz.out.drew
        replace hfz := Lib.hid hfz.out.drew
        replace hT := Lib.hid hT.out.drew
        replace hcar := Lib.hid hcar
        replace hL := Lib.hid hL
        replace hRf := Lib.hid hRf
        clear hRD
        go_region_held3 (fun w' => w'.cell? ⟨CF, 0, none⟩ = some (.int .i64 c.S) ∧ w'.cell? ⟨CF, 1, none⟩ = some (.int .i64 c.A) ∧ w'.cell? ⟨CF, 2, none⟩ = some (.int .i64 c.C) ∧ w'.cell? ⟨CF, 3, none⟩ = some (.int .i64 c.H) ∧ w'.cell? ⟨CF, 4, none⟩ = some (.int .i64 c.G) ∧ w'.cell? ⟨CF, 5, none⟩ = some (.int .i64 c.K)) (assumption) (first
          | (go_at_call 29; refine (hL.out _ hRDd.out).mono ?_; rintro e w8 ⟨u, rfl, hu, hb⟩; replace hfz := Lib.hid (hfz.out.below hb hfz.out.lt); have hY := cfgs hfz.out; replace hRDd := Lib.hid (hcar.out _ _ hRDd.out hb); replace hT := Lib.hid (hT.out.trans (hb.mono (by have := hT.out.size; omega))); (try replace hv := Lib.hid (hv.out.below hb)); replace hu := Lib.hid hu; clear hb)
          | (go_at_call 30; refine (hRf.out _ hRDd.out).mono ?_; rintro e w9 ⟨v, rfl, hv, hb⟩; replace hfz := Lib.hid (hfz.out.below hb hfz.out.lt); have hZ := cfgs hfz.out; replace hRDd := Lib.hid (hcar.out _ _ hRDd.out hb); replace hT := Lib.hid (hT.out.trans (hb.mono (by have := hT.out.size; omega))); (try replace hu := Lib.hid (hu.out.below hb)); replace hv := Lib.hid hv; clear hb)
          | (go_at_call 28; refine (sameC _ _ _ _ _ L L hu.out hv.out).mono ?_; rintro e w10 ⟨rfl, hb⟩; rw [decide_eq_true rfl]; replace hfz := Lib.hid (hfz.out.below hb hfz.out.lt); have hQ := cfgs hfz.out; replace hT := Lib.hid (hT.out.trans (hb.mono (by have := hT.out.size; omega))); clear hb)
          | (go_at_call 27; refine (awake7C _).mono ?_; rintro e w11 ⟨rfl, hb⟩; replace hfz := Lib.hid (hfz.out.below hb hfz.out.lt); have hP := cfgs hfz.out; replace hT := Lib.hid (hT.out.trans (hb.mono (by have := hT.out.size; omega))); clear hb))
        all_goals
          go_wp2
          go_ret
          exact ⟨rfl, hCFe ▸ hT.out⟩
    · have e1 : i = n := by omega
      subst e1
      have hU2 : U (mix q mf i) := fun j => by
        unfold mix
        split
        · exact hq.out j (by omega)
        · exact hU.out j
      obtain ⟨_, _, hRd⟩ := rd_of_row hRi (by omega)
      have hPk := pk_right hU2 hr.out hN hca hRd
      have hfz := Lib.hid (hf2.out.fr hF (fun e => by have e' : CF = b := e; omega))
      replace hT := Lib.hid (hT.out.trans (hF.below (fun k hk => ⟨by have := hT.out.size; omega, fun e => by have e' : k = b := e; omega⟩)))
      clear hf2 hRi hF hRd hU2 hR0 hS2
      go_wp2
      obtain ⟨RD, L, hRD, hcar, hL, hRf⟩ := hPk
      have hRDd := Lib.hid (hcar wr wr.drew hRD (Below.refl _ _).drew)
      have hX : wr.drew.cell? ⟨CF, 0, none⟩ = some (.int .i64 c.S) ∧ wr.drew.cell? ⟨CF, 1, none⟩ = some (.int .i64 c.A) ∧ wr.drew.cell? ⟨CF, 2, none⟩ = some (.int .i64 c.C) ∧ wr.drew.cell? ⟨CF, 3, none⟩ = some (.int .i64 c.H) ∧ wr.drew.cell? ⟨CF, 4, none⟩ = some (.int .i64 c.G) ∧ wr.drew.cell? ⟨CF, 5, none⟩ = some (.int .i64 c.K) := cfgs hfz.out.drew
      replace hfz := Lib.hid hfz.out.drew
      replace hT := Lib.hid hT.out.drew
      replace hcar := Lib.hid hcar
      replace hL := Lib.hid hL
      replace hRf := Lib.hid hRf
      clear hRD
      go_region_held3 (fun w' => w'.cell? ⟨CF, 0, none⟩ = some (.int .i64 c.S) ∧ w'.cell? ⟨CF, 1, none⟩ = some (.int .i64 c.A) ∧ w'.cell? ⟨CF, 2, none⟩ = some (.int .i64 c.C) ∧ w'.cell? ⟨CF, 3, none⟩ = some (.int .i64 c.H) ∧ w'.cell? ⟨CF, 4, none⟩ = some (.int .i64 c.G) ∧ w'.cell? ⟨CF, 5, none⟩ = some (.int .i64 c.K)) (assumption) (first
        | (go_at_call 29; refine (hL.out _ hRDd.out).mono ?_; rintro e w8 ⟨u, rfl, hu, hb⟩; replace hfz := Lib.hid (hfz.out.below hb hfz.out.lt); have hY := cfgs hfz.out; replace hRDd := Lib.hid (hcar.out _ _ hRDd.out hb); replace hT := Lib.hid (hT.out.trans (hb.mono (by have := hT.out.size; omega))); (try replace hv := Lib.hid (hv.out.below hb)); replace hu := Lib.hid hu; clear hb)
        | (go_at_call 30; refine (hRf.out _ hRDd.out).mono ?_; rintro e w9 ⟨v, rfl, hv, hb⟩; replace hfz := Lib.hid (hfz.out.below hb hfz.out.lt); have hZ := cfgs hfz.out; replace hRDd := Lib.hid (hcar.out _ _ hRDd.out hb); replace hT := Lib.hid (hT.out.trans (hb.mono (by have := hT.out.size; omega))); (try replace hu := Lib.hid (hu.out.below hb)); replace hv := Lib.hid hv; clear hb)
        | (go_at_call 28; refine (sameC _ _ _ _ _ L L hu.out hv.out).mono ?_; rintro e w10 ⟨rfl, hb⟩; rw [decide_eq_true rfl]; replace hfz := Lib.hid (hfz.out.below hb hfz.out.lt); have hQ := cfgs hfz.out; replace hT := Lib.hid (hT.out.trans (hb.mono (by have := hT.out.size; omega))); clear hb)
        | (go_at_call 27; refine (awake7C _).mono ?_; rintro e w11 ⟨rfl, hb⟩; replace hfz := Lib.hid (hfz.out.below hb hfz.out.lt); have hP := cfgs hfz.out; replace hT := Lib.hid (hT.out.trans (hb.mono (by have := hT.out.size; omega))); clear hb))
      all_goals
        go_wp2
        go_ret
        exact ⟨rfl, hCFe ▸ hT.out⟩
theorem listsC (c : Cf) (w : World) (A : Option Addr) (n cc : Nat) (ft : Bool) (q : Nat → Int) (hc : n ≤ cc) (hS : Sl w A n 1 (fun i _ => .int .u64 (q i))) (hq : ∀ i, i < n → 0 ≤ q i ∧ q i < 18446744073709551616) : Calls Try.prog 4 #[.agg #[.int .i64 c.S, .int .i64 c.A, .int .i64 c.C, .int .i64 c.H, .int .i64 c.G, .int .i64 c.K], .slice A n cc, .bool ft] w fun e w' => e = .returned (.bool true) ∧ Below w.heap.size w w' := by
  rcases Nat.lt_or_ge 700 n with h | h
  · exact lists_long c w A n cc ft h
  · have hPk := pk_any (c := c) (show n ≤ 100000 by omega) hc hS hq
    cases ft with
    | false => exact lists_a c w A n cc false h hPk rfl
    | true =>
      cases hr : c.right with
      | false => exact lists_b c w A n cc true h hPk rfl hr
      | true =>
        by_cases hs : c.S ≤ 20
        · exact lists_fit c w A n cc q h hc hS hq hr hs
        · exact lists_c c w A n cc true h hPk rfl hr hs
end Go.Proofs.Ytijfkpoofpcacaa.StackV
