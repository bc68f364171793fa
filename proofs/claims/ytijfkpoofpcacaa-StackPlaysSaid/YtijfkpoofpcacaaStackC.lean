/-
  Contracts of layer 7 (stack): what each step of a Pop and of a Push does to its own cells and to the memory; condition: a right config, as many touches as fit a number.
-/
import Derived.Test.YtijfkpoofpcacaaPlanD
import Derived.Deep.RegionHeld3
import Derived.IntWalk
set_option linter.unusedVariables false
set_option linter.unusedSectionVars false
namespace Go.Proofs.Ytijfkpoofpcacaa.StackC
open Go.RowKit Go.Proofs.YtijfkpoofpcacaaW.PrintWords Go.Proofs.Ytijfkpoofpcacaa.Blk Go.Proofs.Ytijfkpoofpcacaa.Core Go.Proofs.Ytijfkpoofpcacaa.MemC Go.Proofs.Ytijfkpoofpcacaa.MemD Go.Proofs.Ytijfkpoofpcacaa.MemT Go.Proofs.Ytijfkpoofpcacaa.PlanC Go.Proofs.Ytijfkpoofpcacaa.PlanD
/-- The blocks that a machine's step may write. -/
def three (p m b : Nat) : Nat → Prop := fun k => k = p ∨ two m b k
theorem two_three {p m b : Nat} {w w' : World} (h : Fr (two m b) w w') : Fr (three p m b) w w' := h.mono (fun _ x => .inr x)
theorem fr_p {p m b : Nat} (w : World) (i : Nat) (v : Value) : Fr (three p m b) w (w.setCell ⟨p, i, none⟩ v) := Fr.set (three p m b) w (p := ⟨p, i, none⟩) (.inl rfl) v
theorem _root_.Go.Proofs.Ytijfkpoofpcacaa.MemC.MemB.set {w : World} {m b : Nat} {M : Ms} (h : MemB w m b M) {p : Nat} (np : ¬ two m b p) (i : Nat) (v : Value) : MemB (w.setCell ⟨p, i, none⟩ v) m b M :=
  h.fr (Fr.set (fun k => k = p) w (p := ⟨p, i, none⟩) rfl v) (fun e => np (.inl e.symm)) (fun e => np (.inr e.symm))
theorem ldV_bd {M : Ms} (ok : Ok M) (a : Int) : 0 ≤ M.ldV a ∧ M.ldV a < 18446744073709551616 := by
  unfold Ms.ldV
  split
  · exact ok.f _
  · exact ⟨Int.le_refl 0, by decide⟩
theorem cell_off {w : World} {p i j : Nat} {v : Value} (h : i ≠ j) : (w.setCell ⟨p, i, none⟩ v).cell? ⟨p, j, none⟩ = w.cell? ⟨p, j, none⟩ := World.cell?_setCell_other _ _ _ _ (fun e => h (congrArg Addr.off e))
def popA (c : Cf) (sl : Int) (em : Bool) (a : Int) (tp : Int) (nx : Int) : Array Value := #[.int .i64 sl, .bool em, .int .i64 c.S, .int .i64 c.A, .int .i64 c.C, .int .i64 c.H, .int .i64 c.G, .int .i64 c.K, .int .i64 a, .int .u64 tp, .int .i64 nx]
theorem pop_cells {w : World} {p t : Nat} {c : Cf} {sl : Int} {em : Bool} {a : Int} {tp : Int} {nx : Int} (h : Blk w p t (popA c sl em a tp nx)) :
    w.cell? ⟨p, 0, none⟩ = some (.int .i64 sl) ∧ w.cell? ⟨p, 1, none⟩ = some (.bool em) ∧ w.cell? ⟨p, 2, none⟩ = some (.int .i64 c.S) ∧ w.cell? ⟨p, 3, none⟩ = some (.int .i64 c.A) ∧ w.cell? ⟨p, 4, none⟩ = some (.int .i64 c.C) ∧ w.cell? ⟨p, 5, none⟩ = some (.int .i64 c.H) ∧ w.cell? ⟨p, 6, none⟩ = some (.int .i64 c.G) ∧ w.cell? ⟨p, 7, none⟩ = some (.int .i64 c.K) ∧ w.cell? ⟨p, 8, none⟩ = some (.int .i64 a) ∧ w.cell? ⟨p, 9, none⟩ = some (.int .u64 tp) ∧ w.cell? ⟨p, 10, none⟩ = some (.int .i64 nx) :=
  ⟨h.cell (i := 0) rfl, h.cell (i := 1) rfl, h.cell (i := 2) rfl, h.cell (i := 3) rfl, h.cell (i := 4) rfl, h.cell (i := 5) rfl, h.cell (i := 6) rfl, h.cell (i := 7) rfl, h.cell (i := 8) rfl, h.cell (i := 9) rfl, h.cell (i := 10) rfl⟩
def pushA (c : Cf) (sl : Int) (a : Int) (tp : Int) : Array Value := #[.int .i64 c.S, .int .i64 c.A, .int .i64 c.C, .int .i64 c.H, .int .i64 c.G, .int .i64 c.K, .int .i64 sl, .int .i64 a, .int .u64 tp]
theorem push_cells {w : World} {p t : Nat} {c : Cf} {sl : Int} {a : Int} {tp : Int} (h : Blk w p t (pushA c sl a tp)) :
    w.cell? ⟨p, 0, none⟩ = some (.int .i64 c.S) ∧ w.cell? ⟨p, 1, none⟩ = some (.int .i64 c.A) ∧ w.cell? ⟨p, 2, none⟩ = some (.int .i64 c.C) ∧ w.cell? ⟨p, 3, none⟩ = some (.int .i64 c.H) ∧ w.cell? ⟨p, 4, none⟩ = some (.int .i64 c.G) ∧ w.cell? ⟨p, 5, none⟩ = some (.int .i64 c.K) ∧ w.cell? ⟨p, 6, none⟩ = some (.int .i64 sl) ∧ w.cell? ⟨p, 7, none⟩ = some (.int .i64 a) ∧ w.cell? ⟨p, 8, none⟩ = some (.int .u64 tp) :=
  ⟨h.cell (i := 0) rfl, h.cell (i := 1) rfl, h.cell (i := 2) rfl, h.cell (i := 3) rfl, h.cell (i := 4) rfl, h.cell (i := 5) rfl, h.cell (i := 6) rfl, h.cell (i := 7) rfl, h.cell (i := 8) rfl⟩
theorem pop_k10 {w : World} {p : Nat} {c : Cf} {sl : Int} {em : Bool} {a : Int} {tp : Int} {v : Value} (h : w.cell? ⟨p, 0, none⟩ = some (.int .i64 sl) ∧ w.cell? ⟨p, 1, none⟩ = some (.bool em) ∧ w.cell? ⟨p, 2, none⟩ = some (.int .i64 c.S) ∧ w.cell? ⟨p, 3, none⟩ = some (.int .i64 c.A) ∧ w.cell? ⟨p, 4, none⟩ = some (.int .i64 c.C) ∧ w.cell? ⟨p, 5, none⟩ = some (.int .i64 c.H) ∧ w.cell? ⟨p, 6, none⟩ = some (.int .i64 c.G) ∧ w.cell? ⟨p, 7, none⟩ = some (.int .i64 c.K) ∧ w.cell? ⟨p, 8, none⟩ = some (.int .i64 a) ∧ w.cell? ⟨p, 9, none⟩ = some (.int .u64 tp)) :
    (w.setCell ⟨p, 10, none⟩ v).cell? ⟨p, 0, none⟩ = some (.int .i64 sl) ∧ (w.setCell ⟨p, 10, none⟩ v).cell? ⟨p, 1, none⟩ = some (.bool em) ∧ (w.setCell ⟨p, 10, none⟩ v).cell? ⟨p, 2, none⟩ = some (.int .i64 c.S) ∧ (w.setCell ⟨p, 10, none⟩ v).cell? ⟨p, 3, none⟩ = some (.int .i64 c.A) ∧ (w.setCell ⟨p, 10, none⟩ v).cell? ⟨p, 4, none⟩ = some (.int .i64 c.C) ∧ (w.setCell ⟨p, 10, none⟩ v).cell? ⟨p, 5, none⟩ = some (.int .i64 c.H) ∧ (w.setCell ⟨p, 10, none⟩ v).cell? ⟨p, 6, none⟩ = some (.int .i64 c.G) ∧ (w.setCell ⟨p, 10, none⟩ v).cell? ⟨p, 7, none⟩ = some (.int .i64 c.K) ∧ (w.setCell ⟨p, 10, none⟩ v).cell? ⟨p, 8, none⟩ = some (.int .i64 a) ∧ (w.setCell ⟨p, 10, none⟩ v).cell? ⟨p, 9, none⟩ = some (.int .u64 tp) := by
  obtain ⟨x0, x1, x2, x3, x4, x5, x6, x7, x8, x9⟩ := h
  exact ⟨(cell_off (by decide)).trans x0, (cell_off (by decide)).trans x1, (cell_off (by decide)).trans x2, (cell_off (by decide)).trans x3, (cell_off (by decide)).trans x4, (cell_off (by decide)).trans x5, (cell_off (by decide)).trans x6, (cell_off (by decide)).trans x7, (cell_off (by decide)).trans x8, (cell_off (by decide)).trans x9⟩
theorem pop_k0 {w : World} {p : Nat} {c : Cf} {em : Bool} {tp : Int} {nx : Int} {v : Value} (h : w.cell? ⟨p, 1, none⟩ = some (.bool em) ∧ w.cell? ⟨p, 2, none⟩ = some (.int .i64 c.S) ∧ w.cell? ⟨p, 3, none⟩ = some (.int .i64 c.A) ∧ w.cell? ⟨p, 4, none⟩ = some (.int .i64 c.C) ∧ w.cell? ⟨p, 5, none⟩ = some (.int .i64 c.H) ∧ w.cell? ⟨p, 6, none⟩ = some (.int .i64 c.G) ∧ w.cell? ⟨p, 7, none⟩ = some (.int .i64 c.K) ∧ w.cell? ⟨p, 9, none⟩ = some (.int .u64 tp) ∧ w.cell? ⟨p, 10, none⟩ = some (.int .i64 nx)) :
    (w.setCell ⟨p, 0, none⟩ v).cell? ⟨p, 1, none⟩ = some (.bool em) ∧ (w.setCell ⟨p, 0, none⟩ v).cell? ⟨p, 2, none⟩ = some (.int .i64 c.S) ∧ (w.setCell ⟨p, 0, none⟩ v).cell? ⟨p, 3, none⟩ = some (.int .i64 c.A) ∧ (w.setCell ⟨p, 0, none⟩ v).cell? ⟨p, 4, none⟩ = some (.int .i64 c.C) ∧ (w.setCell ⟨p, 0, none⟩ v).cell? ⟨p, 5, none⟩ = some (.int .i64 c.H) ∧ (w.setCell ⟨p, 0, none⟩ v).cell? ⟨p, 6, none⟩ = some (.int .i64 c.G) ∧ (w.setCell ⟨p, 0, none⟩ v).cell? ⟨p, 7, none⟩ = some (.int .i64 c.K) ∧ (w.setCell ⟨p, 0, none⟩ v).cell? ⟨p, 9, none⟩ = some (.int .u64 tp) ∧ (w.setCell ⟨p, 0, none⟩ v).cell? ⟨p, 10, none⟩ = some (.int .i64 nx) := by
  obtain ⟨x1, x2, x3, x4, x5, x6, x7, x9, x10⟩ := h
  exact ⟨(cell_off (by decide)).trans x1, (cell_off (by decide)).trans x2, (cell_off (by decide)).trans x3, (cell_off (by decide)).trans x4, (cell_off (by decide)).trans x5, (cell_off (by decide)).trans x6, (cell_off (by decide)).trans x7, (cell_off (by decide)).trans x9, (cell_off (by decide)).trans x10⟩
theorem pop_k8 {w : World} {p : Nat} {c : Cf} {em : Bool} {tp : Int} {nx : Int} {v : Value} (h : w.cell? ⟨p, 1, none⟩ = some (.bool em) ∧ w.cell? ⟨p, 2, none⟩ = some (.int .i64 c.S) ∧ w.cell? ⟨p, 3, none⟩ = some (.int .i64 c.A) ∧ w.cell? ⟨p, 4, none⟩ = some (.int .i64 c.C) ∧ w.cell? ⟨p, 5, none⟩ = some (.int .i64 c.H) ∧ w.cell? ⟨p, 6, none⟩ = some (.int .i64 c.G) ∧ w.cell? ⟨p, 7, none⟩ = some (.int .i64 c.K) ∧ w.cell? ⟨p, 9, none⟩ = some (.int .u64 tp) ∧ w.cell? ⟨p, 10, none⟩ = some (.int .i64 nx)) :
    (w.setCell ⟨p, 8, none⟩ v).cell? ⟨p, 1, none⟩ = some (.bool em) ∧ (w.setCell ⟨p, 8, none⟩ v).cell? ⟨p, 2, none⟩ = some (.int .i64 c.S) ∧ (w.setCell ⟨p, 8, none⟩ v).cell? ⟨p, 3, none⟩ = some (.int .i64 c.A) ∧ (w.setCell ⟨p, 8, none⟩ v).cell? ⟨p, 4, none⟩ = some (.int .i64 c.C) ∧ (w.setCell ⟨p, 8, none⟩ v).cell? ⟨p, 5, none⟩ = some (.int .i64 c.H) ∧ (w.setCell ⟨p, 8, none⟩ v).cell? ⟨p, 6, none⟩ = some (.int .i64 c.G) ∧ (w.setCell ⟨p, 8, none⟩ v).cell? ⟨p, 7, none⟩ = some (.int .i64 c.K) ∧ (w.setCell ⟨p, 8, none⟩ v).cell? ⟨p, 9, none⟩ = some (.int .u64 tp) ∧ (w.setCell ⟨p, 8, none⟩ v).cell? ⟨p, 10, none⟩ = some (.int .i64 nx) := by
  obtain ⟨x1, x2, x3, x4, x5, x6, x7, x9, x10⟩ := h
  exact ⟨(cell_off (by decide)).trans x1, (cell_off (by decide)).trans x2, (cell_off (by decide)).trans x3, (cell_off (by decide)).trans x4, (cell_off (by decide)).trans x5, (cell_off (by decide)).trans x6, (cell_off (by decide)).trans x7, (cell_off (by decide)).trans x9, (cell_off (by decide)).trans x10⟩
section
variable (c : Cf) (w : World) (p m b : Nat) (M : Ms) (hc : c.right = true) (hM : MemB w m b M) (ok : Ok M) (np : ¬ two m b p) (sl : Int) (em : Bool) (tp nx : Int)
include hc hM ok np
set_option maxHeartbeats 4000000 in
set_option maxRecDepth 100000 in
theorem pop_0a (hx : firstI c.S (M.ldV 3) < 0) (hp : Blk w p 66 (popA c sl em 0 tp nx)) : Calls Try.prog 45 #[.pointer (some ⟨p, 0, none⟩), .pointer (some ⟨m, 0, none⟩)] w fun e w' =>
    e = .returned (.bool true) ∧ Blk w' p 66 (popA c sl true 3 ((M.ldV 3)) nx) ∧ MemB w' m b (M.ldS 3) ∧ Fr (three p m b) w w' := by
  have hF := Lib.hid (Fr.refl (three p m b) w)
  obtain ⟨k0, k1, k2, k3, k4, k5, k6, k7, k8, k9, k10⟩ := pop_cells hp
  obtain ⟨x0, x1⟩ := ldV_bd ok 3
  have hl := load_c w m b M 3 hM ok
  generalize M.ldV 3 = x at *
  replace hp := Lib.hid hp
  replace hM := Lib.hid hM
  go_enter Try.func45, Try.ntmps45
  go_wp2_with (go_at_call 35; refine (hl).mono ?_; rintro e w1 ⟨rfl, hM', hF'⟩; replace hp := Lib.hid (hp.out.fr hF' np); replace hM := Lib.hid hM'; replace hF := Lib.hid (hF.out.trans (two_three hF')); clear hM' hF'; obtain ⟨l0, l1, l2, l3, l4, l5, l6, l7, l8, l9, l10⟩ := pop_cells hp.out; have z8 := hp.out.frozen 8; have z9 := hp.out.frozen 9)
  have hp' : Blk ((w1.setCell ⟨p, 9, none⟩ (.int .u64 x)).setCell ⟨p, 8, none⟩ (.int .i64 1)) p 66 (popA c sl em 1 x nx) := ((hp.out.set 9 _).set 8 _)
  have hM' := ((hM.out.set np 9 (.int .u64 x)).set np 8 (.int .i64 1))
  have hF' := ((hF.out.trans (fr_p w1 9 (.int .u64 x))).trans (fr_p (w1.setCell ⟨p, 9, none⟩ (.int .u64 x)) 8 (.int .i64 1)))
  clear hp hM hF k0 k1 k2 k3 k4 k5 k6 k7 k8 k9 k10 l0 l1 l2 l3 l4 l5 l6 l7 l8 l9 l10 z8 z9 hl
  generalize (w1.setCell ⟨p, 9, none⟩ (.int .u64 x)).setCell ⟨p, 8, none⟩ (.int .i64 1) = w2 at *
  have hp := Lib.hid hp'
  have hM := Lib.hid hM'
  have hF := Lib.hid hF'
  clear hp' hM' hF'
  replace hp := Lib.hid hp.out.drew
  replace hM := Lib.hid hM.out.drew
  replace hF := Lib.hid (hF.out.trans (Fr.drew _ w2))
  have hX0 := pop_cells hp.out
  have hX : w2.drew.cell? ⟨p, 0, none⟩ = some (.int .i64 sl) ∧ w2.drew.cell? ⟨p, 1, none⟩ = some (.bool em) ∧ w2.drew.cell? ⟨p, 2, none⟩ = some (.int .i64 c.S) ∧ w2.drew.cell? ⟨p, 3, none⟩ = some (.int .i64 c.A) ∧ w2.drew.cell? ⟨p, 4, none⟩ = some (.int .i64 c.C) ∧ w2.drew.cell? ⟨p, 5, none⟩ = some (.int .i64 c.H) ∧ w2.drew.cell? ⟨p, 6, none⟩ = some (.int .i64 c.G) ∧ w2.drew.cell? ⟨p, 7, none⟩ = some (.int .i64 c.K) ∧ w2.drew.cell? ⟨p, 8, none⟩ = some (.int .i64 1) ∧ w2.drew.cell? ⟨p, 9, none⟩ = some (.int .u64 x) ∧ w2.drew.cell? ⟨p, 10, none⟩ = some (.int .i64 nx) := hX0
  clear hX0
  go_region_held3 (fun w' => w'.cell? ⟨p, 0, none⟩ = some (.int .i64 sl) ∧ w'.cell? ⟨p, 1, none⟩ = some (.bool em) ∧ w'.cell? ⟨p, 2, none⟩ = some (.int .i64 c.S) ∧ w'.cell? ⟨p, 3, none⟩ = some (.int .i64 c.A) ∧ w'.cell? ⟨p, 4, none⟩ = some (.int .i64 c.C) ∧ w'.cell? ⟨p, 5, none⟩ = some (.int .i64 c.H) ∧ w'.cell? ⟨p, 6, none⟩ = some (.int .i64 c.G) ∧ w'.cell? ⟨p, 7, none⟩ = some (.int .i64 c.K) ∧ w'.cell? ⟨p, 8, none⟩ = some (.int .i64 1) ∧ w'.cell? ⟨p, 9, none⟩ = some (.int .u64 x) ∧ w'.cell? ⟨p, 10, none⟩ = some (.int .i64 nx)) (assumption) (first
    | (go_at_call 75; refine (firstC c _ x x0 x1).mono ?_; rintro e w3 ⟨rfl, hb⟩; replace hp := Lib.hid (hp.out.below hb hp.out.lt); replace hM := Lib.hid (hM.out.next hb); replace hF := Lib.hid (hF.out.trans (fr_below hb)); have hY := pop_cells hp.out; clear hb; have z1 := hp.out.frozen 1; have z8 := hp.out.frozen 8))
  obtain ⟨l0, l1, l2, l3, l4, l5, l6, l7, l8, l9, l10⟩ := hY
  go_wp2
  go_ret
  exact ⟨rfl, (hp.out.set 1 _).set 8 _, (hM.out.set np 1 _).set np 8 _, (hF.out.trans (fr_p w3 1 (.bool true))).trans (fr_p _ 8 _)⟩
set_option maxHeartbeats 4000000 in
set_option maxRecDepth 100000 in
theorem pop_0b (hx : 0 ≤ firstI c.S (M.ldV 3)) (hp : Blk w p 66 (popA c sl em 0 tp nx)) : Calls Try.prog 45 #[.pointer (some ⟨p, 0, none⟩), .pointer (some ⟨m, 0, none⟩)] w fun e w' =>
    e = .returned (.bool false) ∧ Blk w' p 66 (popA c sl em 1 ((M.ldV 3)) nx) ∧ MemB w' m b (M.ldS 3) ∧ Fr (three p m b) w w' := by
  have hF := Lib.hid (Fr.refl (three p m b) w)
  obtain ⟨k0, k1, k2, k3, k4, k5, k6, k7, k8, k9, k10⟩ := pop_cells hp
  obtain ⟨x0, x1⟩ := ldV_bd ok 3
  have hl := load_c w m b M 3 hM ok
  generalize M.ldV 3 = x at *
  replace hp := Lib.hid hp
  replace hM := Lib.hid hM
  go_enter Try.func45, Try.ntmps45
  go_wp2_with (go_at_call 35; refine (hl).mono ?_; rintro e w1 ⟨rfl, hM', hF'⟩; replace hp := Lib.hid (hp.out.fr hF' np); replace hM := Lib.hid hM'; replace hF := Lib.hid (hF.out.trans (two_three hF')); clear hM' hF'; obtain ⟨l0, l1, l2, l3, l4, l5, l6, l7, l8, l9, l10⟩ := pop_cells hp.out; have z8 := hp.out.frozen 8; have z9 := hp.out.frozen 9)
  have hp' : Blk ((w1.setCell ⟨p, 9, none⟩ (.int .u64 x)).setCell ⟨p, 8, none⟩ (.int .i64 1)) p 66 (popA c sl em 1 x nx) := ((hp.out.set 9 _).set 8 _)
  have hM' := ((hM.out.set np 9 (.int .u64 x)).set np 8 (.int .i64 1))
  have hF' := ((hF.out.trans (fr_p w1 9 (.int .u64 x))).trans (fr_p (w1.setCell ⟨p, 9, none⟩ (.int .u64 x)) 8 (.int .i64 1)))
  clear hp hM hF k0 k1 k2 k3 k4 k5 k6 k7 k8 k9 k10 l0 l1 l2 l3 l4 l5 l6 l7 l8 l9 l10 z8 z9 hl
  generalize (w1.setCell ⟨p, 9, none⟩ (.int .u64 x)).setCell ⟨p, 8, none⟩ (.int .i64 1) = w2 at *
  have hp := Lib.hid hp'
  have hM := Lib.hid hM'
  have hF := Lib.hid hF'
  clear hp' hM' hF'
  replace hp := Lib.hid hp.out.drew
  replace hM := Lib.hid hM.out.drew
  replace hF := Lib.hid (hF.out.trans (Fr.drew _ w2))
  have hX0 := pop_cells hp.out
  have hX : w2.drew.cell? ⟨p, 0, none⟩ = some (.int .i64 sl) ∧ w2.drew.cell? ⟨p, 1, none⟩ = some (.bool em) ∧ w2.drew.cell? ⟨p, 2, none⟩ = some (.int .i64 c.S) ∧ w2.drew.cell? ⟨p, 3, none⟩ = some (.int .i64 c.A) ∧ w2.drew.cell? ⟨p, 4, none⟩ = some (.int .i64 c.C) ∧ w2.drew.cell? ⟨p, 5, none⟩ = some (.int .i64 c.H) ∧ w2.drew.cell? ⟨p, 6, none⟩ = some (.int .i64 c.G) ∧ w2.drew.cell? ⟨p, 7, none⟩ = some (.int .i64 c.K) ∧ w2.drew.cell? ⟨p, 8, none⟩ = some (.int .i64 1) ∧ w2.drew.cell? ⟨p, 9, none⟩ = some (.int .u64 x) ∧ w2.drew.cell? ⟨p, 10, none⟩ = some (.int .i64 nx) := hX0
  clear hX0
  go_region_held3 (fun w' => w'.cell? ⟨p, 0, none⟩ = some (.int .i64 sl) ∧ w'.cell? ⟨p, 1, none⟩ = some (.bool em) ∧ w'.cell? ⟨p, 2, none⟩ = some (.int .i64 c.S) ∧ w'.cell? ⟨p, 3, none⟩ = some (.int .i64 c.A) ∧ w'.cell? ⟨p, 4, none⟩ = some (.int .i64 c.C) ∧ w'.cell? ⟨p, 5, none⟩ = some (.int .i64 c.H) ∧ w'.cell? ⟨p, 6, none⟩ = some (.int .i64 c.G) ∧ w'.cell? ⟨p, 7, none⟩ = some (.int .i64 c.K) ∧ w'.cell? ⟨p, 8, none⟩ = some (.int .i64 1) ∧ w'.cell? ⟨p, 9, none⟩ = some (.int .u64 x) ∧ w'.cell? ⟨p, 10, none⟩ = some (.int .i64 nx)) (assumption) (first
    | (go_at_call 75; refine (firstC c _ x x0 x1).mono ?_; rintro e w3 ⟨rfl, hb⟩; replace hp := Lib.hid (hp.out.below hb hp.out.lt); replace hM := Lib.hid (hM.out.next hb); replace hF := Lib.hid (hF.out.trans (fr_below hb)); have hY := pop_cells hp.out; clear hb; have z1 := hp.out.frozen 1; have z8 := hp.out.frozen 8))
  obtain ⟨l0, l1, l2, l3, l4, l5, l6, l7, l8, l9, l10⟩ := hY
  go_wp2
  go_ret
  exact ⟨rfl, hp.out, hM.out, hF.out⟩
set_option maxHeartbeats 4000000 in
set_option maxRecDepth 100000 in
theorem pop_1 (t0 : 0 ≤ tp) (t1 : tp < 18446744073709551616) (hp : Blk w p 66 (popA c sl em 1 tp nx)) : Calls Try.prog 45 #[.pointer (some ⟨p, 0, none⟩), .pointer (some ⟨m, 0, none⟩)] w fun e w' =>
    e = .returned (.bool false) ∧ Blk w' p 66 (popA c sl em 2 tp ((linkedI c.S (M.ldV (c.link (firstI c.S tp)))))) ∧ MemB w' m b (M.ldS (c.link (firstI c.S tp))) ∧ Fr (three p m b) w w' := by
  obtain ⟨x0, x1⟩ := ldV_bd ok (c.link (firstI c.S tp))
  have hF := Lib.hid (Fr.refl (three p m b) w)
  obtain ⟨k0, k1, k2, k3, k4, k5, k6, k7, k8, k9, k10⟩ := pop_cells hp
  replace hp := Lib.hid hp
  replace hM := Lib.hid hM
  go_enter Try.func45, Try.ntmps45
  go_wp2
  clear k0 k1 k2 k3 k4 k5 k6 k7 k8 k9 k10
  replace hp := Lib.hid hp.out.drew
  replace hM := Lib.hid hM.out.drew
  replace hF := Lib.hid (hF.out.trans (Fr.drew _ w))
  have hX0 := pop_cells hp.out
  have hX : w.drew.cell? ⟨p, 0, none⟩ = some (.int .i64 sl) ∧ w.drew.cell? ⟨p, 1, none⟩ = some (.bool em) ∧ w.drew.cell? ⟨p, 2, none⟩ = some (.int .i64 c.S) ∧ w.drew.cell? ⟨p, 3, none⟩ = some (.int .i64 c.A) ∧ w.drew.cell? ⟨p, 4, none⟩ = some (.int .i64 c.C) ∧ w.drew.cell? ⟨p, 5, none⟩ = some (.int .i64 c.H) ∧ w.drew.cell? ⟨p, 6, none⟩ = some (.int .i64 c.G) ∧ w.drew.cell? ⟨p, 7, none⟩ = some (.int .i64 c.K) ∧ w.drew.cell? ⟨p, 8, none⟩ = some (.int .i64 1) ∧ w.drew.cell? ⟨p, 9, none⟩ = some (.int .u64 tp) := by
    obtain ⟨x0, x1, x2, x3, x4, x5, x6, x7, x8, x9, x10⟩ := hX0
    exact ⟨x0, x1, x2, x3, x4, x5, x6, x7, x8, x9⟩
  clear hX0
  go_region_held3 (fun w' => w'.cell? ⟨p, 0, none⟩ = some (.int .i64 sl) ∧ w'.cell? ⟨p, 1, none⟩ = some (.bool em) ∧ w'.cell? ⟨p, 2, none⟩ = some (.int .i64 c.S) ∧ w'.cell? ⟨p, 3, none⟩ = some (.int .i64 c.A) ∧ w'.cell? ⟨p, 4, none⟩ = some (.int .i64 c.C) ∧ w'.cell? ⟨p, 5, none⟩ = some (.int .i64 c.H) ∧ w'.cell? ⟨p, 6, none⟩ = some (.int .i64 c.G) ∧ w'.cell? ⟨p, 7, none⟩ = some (.int .i64 c.K) ∧ w'.cell? ⟨p, 8, none⟩ = some (.int .i64 1) ∧ w'.cell? ⟨p, 9, none⟩ = some (.int .u64 tp)) (first | assumption | (refine pop_k10 ?_; assumption)) (first
    | (go_at_call 75; refine (firstC c _ tp t0 t1).mono ?_; rintro e w3 ⟨rfl, hb⟩; replace hp := Lib.hid (hp.out.below hb hp.out.lt); replace hM := Lib.hid (hM.out.next hb); replace hF := Lib.hid (hF.out.trans (fr_below hb)); clear hb; have hY_w3 : w3.cell? ⟨p, 0, none⟩ = some (.int .i64 sl) ∧ w3.cell? ⟨p, 1, none⟩ = some (.bool em) ∧ w3.cell? ⟨p, 2, none⟩ = some (.int .i64 c.S) ∧ w3.cell? ⟨p, 3, none⟩ = some (.int .i64 c.A) ∧ w3.cell? ⟨p, 4, none⟩ = some (.int .i64 c.C) ∧ w3.cell? ⟨p, 5, none⟩ = some (.int .i64 c.H) ∧ w3.cell? ⟨p, 6, none⟩ = some (.int .i64 c.G) ∧ w3.cell? ⟨p, 7, none⟩ = some (.int .i64 c.K) ∧ w3.cell? ⟨p, 8, none⟩ = some (.int .i64 1) ∧ w3.cell? ⟨p, 9, none⟩ = some (.int .u64 tp) := (by obtain ⟨y0, y1, y2, y3, y4, y5, y6, y7, y8, y9, y10⟩ := pop_cells hp.out; exact ⟨y0, y1, y2, y3, y4, y5, y6, y7, y8, y9⟩))
    | (go_at_call 69; refine (linkC c _ (firstI c.S tp)).mono ?_; rintro e w4 ⟨rfl, hb⟩; replace hp := Lib.hid (hp.out.below hb hp.out.lt); replace hM := Lib.hid (hM.out.next hb); replace hF := Lib.hid (hF.out.trans (fr_below hb)); clear hb; have hY_w4 : w4.cell? ⟨p, 0, none⟩ = some (.int .i64 sl) ∧ w4.cell? ⟨p, 1, none⟩ = some (.bool em) ∧ w4.cell? ⟨p, 2, none⟩ = some (.int .i64 c.S) ∧ w4.cell? ⟨p, 3, none⟩ = some (.int .i64 c.A) ∧ w4.cell? ⟨p, 4, none⟩ = some (.int .i64 c.C) ∧ w4.cell? ⟨p, 5, none⟩ = some (.int .i64 c.H) ∧ w4.cell? ⟨p, 6, none⟩ = some (.int .i64 c.G) ∧ w4.cell? ⟨p, 7, none⟩ = some (.int .i64 c.K) ∧ w4.cell? ⟨p, 8, none⟩ = some (.int .i64 1) ∧ w4.cell? ⟨p, 9, none⟩ = some (.int .u64 tp) := (by obtain ⟨y0, y1, y2, y3, y4, y5, y6, y7, y8, y9, y10⟩ := pop_cells hp.out; exact ⟨y0, y1, y2, y3, y4, y5, y6, y7, y8, y9⟩))
    | (go_at_call 35; refine (load_c _ m b M (c.link (firstI c.S tp)) hM.out ok).mono ?_; rintro e w5 ⟨rfl, hM', hF'⟩; replace hp := Lib.hid (hp.out.fr hF' np); replace hM := Lib.hid hM'; replace hF := Lib.hid (hF.out.trans (two_three hF')); clear hM' hF'; have hY_w5 : w5.cell? ⟨p, 0, none⟩ = some (.int .i64 sl) ∧ w5.cell? ⟨p, 1, none⟩ = some (.bool em) ∧ w5.cell? ⟨p, 2, none⟩ = some (.int .i64 c.S) ∧ w5.cell? ⟨p, 3, none⟩ = some (.int .i64 c.A) ∧ w5.cell? ⟨p, 4, none⟩ = some (.int .i64 c.C) ∧ w5.cell? ⟨p, 5, none⟩ = some (.int .i64 c.H) ∧ w5.cell? ⟨p, 6, none⟩ = some (.int .i64 c.G) ∧ w5.cell? ⟨p, 7, none⟩ = some (.int .i64 c.K) ∧ w5.cell? ⟨p, 8, none⟩ = some (.int .i64 1) ∧ w5.cell? ⟨p, 9, none⟩ = some (.int .u64 tp) := (by obtain ⟨y0, y1, y2, y3, y4, y5, y6, y7, y8, y9, y10⟩ := pop_cells hp.out; exact ⟨y0, y1, y2, y3, y4, y5, y6, y7, y8, y9⟩))
    | (go_at_call 76; refine (linkedC c _ hc _ x0 x1).mono ?_; rintro e w6 ⟨rfl, hb⟩; replace hp := Lib.hid (hp.out.below hb hp.out.lt); replace hM := Lib.hid (hM.out.next hb); replace hF := Lib.hid (hF.out.trans (fr_below hb)); clear hb; have z8 := hp.out.frozen 8; have z10 := hp.out.frozen 10; have hY_w6 : w6.cell? ⟨p, 0, none⟩ = some (.int .i64 sl) ∧ w6.cell? ⟨p, 1, none⟩ = some (.bool em) ∧ w6.cell? ⟨p, 2, none⟩ = some (.int .i64 c.S) ∧ w6.cell? ⟨p, 3, none⟩ = some (.int .i64 c.A) ∧ w6.cell? ⟨p, 4, none⟩ = some (.int .i64 c.C) ∧ w6.cell? ⟨p, 5, none⟩ = some (.int .i64 c.H) ∧ w6.cell? ⟨p, 6, none⟩ = some (.int .i64 c.G) ∧ w6.cell? ⟨p, 7, none⟩ = some (.int .i64 c.K) ∧ w6.cell? ⟨p, 8, none⟩ = some (.int .i64 1) ∧ w6.cell? ⟨p, 9, none⟩ = some (.int .u64 tp) := (by obtain ⟨y0, y1, y2, y3, y4, y5, y6, y7, y8, y9, y10⟩ := pop_cells hp.out; exact ⟨y0, y1, y2, y3, y4, y5, y6, y7, y8, y9⟩); have l10 := hp.out.cell (i := 10) (v := .int .i64 nx) rfl))
  go_wp2
  go_ret
  exact ⟨rfl, (hp.out.set 10 _).set 8 _, (hM.out.set np 10 _).set np 8 _, (hF.out.trans (fr_p _ 10 _)).trans (fr_p _ 8 _)⟩
set_option maxHeartbeats 4000000 in
set_option maxRecDepth 100000 in
theorem pop_2a (t0 : 0 ≤ tp) (t1 : tp < 18446744073709551616) (hs : M.swV 3 tp = true) (hp : Blk w p 66 (popA c sl em 2 tp nx)) : Calls Try.prog 45 #[.pointer (some ⟨p, 0, none⟩), .pointer (some ⟨m, 0, none⟩)] w fun e w' =>
    e = .returned (.bool true) ∧ Blk w' p 66 (popA c ((firstI c.S tp)) em 3 tp nx) ∧ MemB w' m b (M.swS 3 tp (movedV tp nx)) ∧ Fr (three p m b) w w' := by
  obtain ⟨n0, n1⟩ := movedV_bd tp nx t0
  have z8 := hp.frozen 8
  have hF := Lib.hid (Fr.refl (three p m b) w)
  obtain ⟨k0, k1, k2, k3, k4, k5, k6, k7, k8, k9, k10⟩ := pop_cells hp
  replace hs := Lib.hid hs
  replace hp := Lib.hid hp
  replace hM := Lib.hid hM
  go_enter Try.func45, Try.ntmps45
  go_wp2
  have hp' : Blk (w.setCell ⟨p, 8, none⟩ (.int .i64 0)) p 66 (popA c sl em 0 tp nx) := (hp.out.set 8 _)
  have hM' := (hM.out.set np 8 (.int .i64 0))
  have hF' := (hF.out.trans (fr_p w 8 (.int .i64 0)))
  clear hp hM hF k0 k1 k2 k3 k4 k5 k6 k7 k8 k9 k10 z8
  generalize w.setCell ⟨p, 8, none⟩ (.int .i64 0) = w2 at *
  have hp := Lib.hid hp'
  have hM := Lib.hid hM'
  have hF := Lib.hid hF'
  clear hp' hM' hF'
  replace hp := Lib.hid hp.out.drew
  replace hM := Lib.hid hM.out.drew
  replace hF := Lib.hid (hF.out.trans (Fr.drew _ w2))
  have hX0 := pop_cells hp.out
  have hX : w2.drew.cell? ⟨p, 0, none⟩ = some (.int .i64 sl) ∧ w2.drew.cell? ⟨p, 1, none⟩ = some (.bool em) ∧ w2.drew.cell? ⟨p, 2, none⟩ = some (.int .i64 c.S) ∧ w2.drew.cell? ⟨p, 3, none⟩ = some (.int .i64 c.A) ∧ w2.drew.cell? ⟨p, 4, none⟩ = some (.int .i64 c.C) ∧ w2.drew.cell? ⟨p, 5, none⟩ = some (.int .i64 c.H) ∧ w2.drew.cell? ⟨p, 6, none⟩ = some (.int .i64 c.G) ∧ w2.drew.cell? ⟨p, 7, none⟩ = some (.int .i64 c.K) ∧ w2.drew.cell? ⟨p, 8, none⟩ = some (.int .i64 0) ∧ w2.drew.cell? ⟨p, 9, none⟩ = some (.int .u64 tp) ∧ w2.drew.cell? ⟨p, 10, none⟩ = some (.int .i64 nx) := hX0
  clear hX0
  go_region_held3 (fun w' => w'.cell? ⟨p, 0, none⟩ = some (.int .i64 sl) ∧ w'.cell? ⟨p, 1, none⟩ = some (.bool em) ∧ w'.cell? ⟨p, 2, none⟩ = some (.int .i64 c.S) ∧ w'.cell? ⟨p, 3, none⟩ = some (.int .i64 c.A) ∧ w'.cell? ⟨p, 4, none⟩ = some (.int .i64 c.C) ∧ w'.cell? ⟨p, 5, none⟩ = some (.int .i64 c.H) ∧ w'.cell? ⟨p, 6, none⟩ = some (.int .i64 c.G) ∧ w'.cell? ⟨p, 7, none⟩ = some (.int .i64 c.K) ∧ w'.cell? ⟨p, 8, none⟩ = some (.int .i64 0) ∧ w'.cell? ⟨p, 9, none⟩ = some (.int .u64 tp) ∧ w'.cell? ⟨p, 10, none⟩ = some (.int .i64 nx)) (assumption) (first
    | (go_at_call 83; refine (movedC _ tp nx t0 t1).mono ?_; rintro e w3 ⟨rfl, hb⟩; replace hp := Lib.hid (hp.out.below hb hp.out.lt); replace hM := Lib.hid (hM.out.next hb); replace hF := Lib.hid (hF.out.trans (fr_below hb)); clear hb; have hY_w3 : w3.cell? ⟨p, 0, none⟩ = some (.int .i64 sl) ∧ w3.cell? ⟨p, 1, none⟩ = some (.bool em) ∧ w3.cell? ⟨p, 2, none⟩ = some (.int .i64 c.S) ∧ w3.cell? ⟨p, 3, none⟩ = some (.int .i64 c.A) ∧ w3.cell? ⟨p, 4, none⟩ = some (.int .i64 c.C) ∧ w3.cell? ⟨p, 5, none⟩ = some (.int .i64 c.H) ∧ w3.cell? ⟨p, 6, none⟩ = some (.int .i64 c.G) ∧ w3.cell? ⟨p, 7, none⟩ = some (.int .i64 c.K) ∧ w3.cell? ⟨p, 8, none⟩ = some (.int .i64 0) ∧ w3.cell? ⟨p, 9, none⟩ = some (.int .u64 tp) ∧ w3.cell? ⟨p, 10, none⟩ = some (.int .i64 nx) := (by obtain ⟨y0, y1, y2, y3, y4, y5, y6, y7, y8, y9, y10⟩ := pop_cells hp.out; exact ⟨y0, y1, y2, y3, y4, y5, y6, y7, y8, y9, y10⟩))
    | (go_at_call 82; refine (swap_c _ m b M 3 hM.out ok tp (movedV tp nx)).mono ?_; rintro e w4 ⟨rfl, hM', hF'⟩; rw [hs.out]; replace hp := Lib.hid (hp.out.fr hF' np); replace hM := Lib.hid hM'; replace hF := Lib.hid (hF.out.trans (two_three hF')); clear hM' hF'; have z8 := hp.out.frozen 8; have z0 := hp.out.frozen 0; have hY_w4 : w4.cell? ⟨p, 0, none⟩ = some (.int .i64 sl) ∧ w4.cell? ⟨p, 1, none⟩ = some (.bool em) ∧ w4.cell? ⟨p, 2, none⟩ = some (.int .i64 c.S) ∧ w4.cell? ⟨p, 3, none⟩ = some (.int .i64 c.A) ∧ w4.cell? ⟨p, 4, none⟩ = some (.int .i64 c.C) ∧ w4.cell? ⟨p, 5, none⟩ = some (.int .i64 c.H) ∧ w4.cell? ⟨p, 6, none⟩ = some (.int .i64 c.G) ∧ w4.cell? ⟨p, 7, none⟩ = some (.int .i64 c.K) ∧ w4.cell? ⟨p, 8, none⟩ = some (.int .i64 0) ∧ w4.cell? ⟨p, 9, none⟩ = some (.int .u64 tp) ∧ w4.cell? ⟨p, 10, none⟩ = some (.int .i64 nx) := (by obtain ⟨y0, y1, y2, y3, y4, y5, y6, y7, y8, y9, y10⟩ := pop_cells hp.out; exact ⟨y0, y1, y2, y3, y4, y5, y6, y7, y8, y9, y10⟩)))
  go_wp2
  clear hX hY_w3 hY_w4 z8 z0
  replace hp := Lib.hid hp.out.drew
  replace hM := Lib.hid hM.out.drew
  replace hF := Lib.hid (hF.out.trans (Fr.drew _ w4))
  have hX0 := pop_cells hp.out
  have hX : w4.drew.cell? ⟨p, 1, none⟩ = some (.bool em) ∧ w4.drew.cell? ⟨p, 2, none⟩ = some (.int .i64 c.S) ∧ w4.drew.cell? ⟨p, 3, none⟩ = some (.int .i64 c.A) ∧ w4.drew.cell? ⟨p, 4, none⟩ = some (.int .i64 c.C) ∧ w4.drew.cell? ⟨p, 5, none⟩ = some (.int .i64 c.H) ∧ w4.drew.cell? ⟨p, 6, none⟩ = some (.int .i64 c.G) ∧ w4.drew.cell? ⟨p, 7, none⟩ = some (.int .i64 c.K) ∧ w4.drew.cell? ⟨p, 9, none⟩ = some (.int .u64 tp) ∧ w4.drew.cell? ⟨p, 10, none⟩ = some (.int .i64 nx) := by
    obtain ⟨x0, x1, x2, x3, x4, x5, x6, x7, x8, x9, x10⟩ := hX0
    exact ⟨x1, x2, x3, x4, x5, x6, x7, x9, x10⟩
  clear hX0
  go_region_held3 (fun w' => w'.cell? ⟨p, 1, none⟩ = some (.bool em) ∧ w'.cell? ⟨p, 2, none⟩ = some (.int .i64 c.S) ∧ w'.cell? ⟨p, 3, none⟩ = some (.int .i64 c.A) ∧ w'.cell? ⟨p, 4, none⟩ = some (.int .i64 c.C) ∧ w'.cell? ⟨p, 5, none⟩ = some (.int .i64 c.H) ∧ w'.cell? ⟨p, 6, none⟩ = some (.int .i64 c.G) ∧ w'.cell? ⟨p, 7, none⟩ = some (.int .i64 c.K) ∧ w'.cell? ⟨p, 9, none⟩ = some (.int .u64 tp) ∧ w'.cell? ⟨p, 10, none⟩ = some (.int .i64 nx)) (first | assumption | (refine pop_k0 ?_; assumption) | (refine pop_k8 ?_; assumption)) (first
    | (go_at_call 75; refine (firstC c _ tp t0 t1).mono ?_; rintro e w5 ⟨rfl, hb⟩; replace hp := Lib.hid (hp.out.below hb hp.out.lt); replace hM := Lib.hid (hM.out.next hb); replace hF := Lib.hid (hF.out.trans (fr_below hb)); clear hb; have z0 := hp.out.frozen 0; have z8 := hp.out.frozen 8; have hY_w5 : w5.cell? ⟨p, 1, none⟩ = some (.bool em) ∧ w5.cell? ⟨p, 2, none⟩ = some (.int .i64 c.S) ∧ w5.cell? ⟨p, 3, none⟩ = some (.int .i64 c.A) ∧ w5.cell? ⟨p, 4, none⟩ = some (.int .i64 c.C) ∧ w5.cell? ⟨p, 5, none⟩ = some (.int .i64 c.H) ∧ w5.cell? ⟨p, 6, none⟩ = some (.int .i64 c.G) ∧ w5.cell? ⟨p, 7, none⟩ = some (.int .i64 c.K) ∧ w5.cell? ⟨p, 9, none⟩ = some (.int .u64 tp) ∧ w5.cell? ⟨p, 10, none⟩ = some (.int .i64 nx) := (by obtain ⟨y0, y1, y2, y3, y4, y5, y6, y7, y8, y9, y10⟩ := pop_cells hp.out; exact ⟨y1, y2, y3, y4, y5, y6, y7, y9, y10⟩); have l0 := hp.out.cell (i := 0) (v := .int .i64 sl) rfl; have l8 := hp.out.cell (i := 8) (v := .int .i64 0) rfl))
  all_goals
    go_wp2
    go_ret
    exact ⟨rfl, (hp.out.set 0 _).set 8 _, (hM.out.set np 0 _).set np 8 _, (hF.out.trans (fr_p _ 0 _)).trans (fr_p _ 8 _)⟩
set_option maxHeartbeats 4000000 in
set_option maxRecDepth 100000 in
theorem pop_2b (t0 : 0 ≤ tp) (t1 : tp < 18446744073709551616) (hs : M.swV 3 tp = false) (hp : Blk w p 66 (popA c sl em 2 tp nx)) : Calls Try.prog 45 #[.pointer (some ⟨p, 0, none⟩), .pointer (some ⟨m, 0, none⟩)] w fun e w' =>
    e = .returned (.bool false) ∧ Blk w' p 66 (popA c sl em 0 tp nx) ∧ MemB w' m b (M.swS 3 tp (movedV tp nx)) ∧ Fr (three p m b) w w' := by
  obtain ⟨n0, n1⟩ := movedV_bd tp nx t0
  have z8 := hp.frozen 8
  have hF := Lib.hid (Fr.refl (three p m b) w)
  obtain ⟨k0, k1, k2, k3, k4, k5, k6, k7, k8, k9, k10⟩ := pop_cells hp
  replace hs := Lib.hid hs
  replace hp := Lib.hid hp
  replace hM := Lib.hid hM
  go_enter Try.func45, Try.ntmps45
  go_wp2
  have hp' : Blk (w.setCell ⟨p, 8, none⟩ (.int .i64 0)) p 66 (popA c sl em 0 tp nx) := (hp.out.set 8 _)
  have hM' := (hM.out.set np 8 (.int .i64 0))
  have hF' := (hF.out.trans (fr_p w 8 (.int .i64 0)))
  clear hp hM hF k0 k1 k2 k3 k4 k5 k6 k7 k8 k9 k10 z8
  generalize w.setCell ⟨p, 8, none⟩ (.int .i64 0) = w2 at *
  have hp := Lib.hid hp'
  have hM := Lib.hid hM'
  have hF := Lib.hid hF'
  clear hp' hM' hF'
  replace hp := Lib.hid hp.out.drew
  replace hM := Lib.hid hM.out.drew
  replace hF := Lib.hid (hF.out.trans (Fr.drew _ w2))
  have hX0 := pop_cells hp.out
  have hX : w2.drew.cell? ⟨p, 0, none⟩ = some (.int .i64 sl) ∧ w2.drew.cell? ⟨p, 1, none⟩ = some (.bool em) ∧ w2.drew.cell? ⟨p, 2, none⟩ = some (.int .i64 c.S) ∧ w2.drew.cell? ⟨p, 3, none⟩ = some (.int .i64 c.A) ∧ w2.drew.cell? ⟨p, 4, none⟩ = some (.int .i64 c.C) ∧ w2.drew.cell? ⟨p, 5, none⟩ = some (.int .i64 c.H) ∧ w2.drew.cell? ⟨p, 6, none⟩ = some (.int .i64 c.G) ∧ w2.drew.cell? ⟨p, 7, none⟩ = some (.int .i64 c.K) ∧ w2.drew.cell? ⟨p, 8, none⟩ = some (.int .i64 0) ∧ w2.drew.cell? ⟨p, 9, none⟩ = some (.int .u64 tp) ∧ w2.drew.cell? ⟨p, 10, none⟩ = some (.int .i64 nx) := hX0
  clear hX0
  go_region_held3 (fun w' => w'.cell? ⟨p, 0, none⟩ = some (.int .i64 sl) ∧ w'.cell? ⟨p, 1, none⟩ = some (.bool em) ∧ w'.cell? ⟨p, 2, none⟩ = some (.int .i64 c.S) ∧ w'.cell? ⟨p, 3, none⟩ = some (.int .i64 c.A) ∧ w'.cell? ⟨p, 4, none⟩ = some (.int .i64 c.C) ∧ w'.cell? ⟨p, 5, none⟩ = some (.int .i64 c.H) ∧ w'.cell? ⟨p, 6, none⟩ = some (.int .i64 c.G) ∧ w'.cell? ⟨p, 7, none⟩ = some (.int .i64 c.K) ∧ w'.cell? ⟨p, 8, none⟩ = some (.int .i64 0) ∧ w'.cell? ⟨p, 9, none⟩ = some (.int .u64 tp) ∧ w'.cell? ⟨p, 10, none⟩ = some (.int .i64 nx)) (assumption) (first
    | (go_at_call 83; refine (movedC _ tp nx t0 t1).mono ?_; rintro e w3 ⟨rfl, hb⟩; replace hp := Lib.hid (hp.out.below hb hp.out.lt); replace hM := Lib.hid (hM.out.next hb); replace hF := Lib.hid (hF.out.trans (fr_below hb)); clear hb; have hY_w3 : w3.cell? ⟨p, 0, none⟩ = some (.int .i64 sl) ∧ w3.cell? ⟨p, 1, none⟩ = some (.bool em) ∧ w3.cell? ⟨p, 2, none⟩ = some (.int .i64 c.S) ∧ w3.cell? ⟨p, 3, none⟩ = some (.int .i64 c.A) ∧ w3.cell? ⟨p, 4, none⟩ = some (.int .i64 c.C) ∧ w3.cell? ⟨p, 5, none⟩ = some (.int .i64 c.H) ∧ w3.cell? ⟨p, 6, none⟩ = some (.int .i64 c.G) ∧ w3.cell? ⟨p, 7, none⟩ = some (.int .i64 c.K) ∧ w3.cell? ⟨p, 8, none⟩ = some (.int .i64 0) ∧ w3.cell? ⟨p, 9, none⟩ = some (.int .u64 tp) ∧ w3.cell? ⟨p, 10, none⟩ = some (.int .i64 nx) := (by obtain ⟨y0, y1, y2, y3, y4, y5, y6, y7, y8, y9, y10⟩ := pop_cells hp.out; exact ⟨y0, y1, y2, y3, y4, y5, y6, y7, y8, y9, y10⟩))
    | (go_at_call 82; refine (swap_c _ m b M 3 hM.out ok tp (movedV tp nx)).mono ?_; rintro e w4 ⟨rfl, hM', hF'⟩; rw [hs.out]; replace hp := Lib.hid (hp.out.fr hF' np); replace hM := Lib.hid hM'; replace hF := Lib.hid (hF.out.trans (two_three hF')); clear hM' hF'; have z8 := hp.out.frozen 8; have z0 := hp.out.frozen 0; have hY_w4 : w4.cell? ⟨p, 0, none⟩ = some (.int .i64 sl) ∧ w4.cell? ⟨p, 1, none⟩ = some (.bool em) ∧ w4.cell? ⟨p, 2, none⟩ = some (.int .i64 c.S) ∧ w4.cell? ⟨p, 3, none⟩ = some (.int .i64 c.A) ∧ w4.cell? ⟨p, 4, none⟩ = some (.int .i64 c.C) ∧ w4.cell? ⟨p, 5, none⟩ = some (.int .i64 c.H) ∧ w4.cell? ⟨p, 6, none⟩ = some (.int .i64 c.G) ∧ w4.cell? ⟨p, 7, none⟩ = some (.int .i64 c.K) ∧ w4.cell? ⟨p, 8, none⟩ = some (.int .i64 0) ∧ w4.cell? ⟨p, 9, none⟩ = some (.int .u64 tp) ∧ w4.cell? ⟨p, 10, none⟩ = some (.int .i64 nx) := (by obtain ⟨y0, y1, y2, y3, y4, y5, y6, y7, y8, y9, y10⟩ := pop_cells hp.out; exact ⟨y0, y1, y2, y3, y4, y5, y6, y7, y8, y9, y10⟩)))
  obtain ⟨l0, l1, l2, l3, l4, l5, l6, l7, l8, l9, l10⟩ := hY_w4
  go_wp2
  go_ret
  exact ⟨rfl, hp.out, hM.out, hF.out⟩
set_option maxHeartbeats 4000000 in
set_option maxRecDepth 100000 in
theorem pop_3 (hp : Blk w p 66 (popA c sl em 3 tp nx)) : Calls Try.prog 45 #[.pointer (some ⟨p, 0, none⟩), .pointer (some ⟨m, 0, none⟩)] w fun e w' =>
    e = .returned (.bool true) ∧ Blk w' p 66 (popA c sl em 3 tp nx) ∧ MemB w' m b (M) ∧ Fr (three p m b) w w' := by
  have hF := Lib.hid (Fr.refl (three p m b) w)
  obtain ⟨k0, k1, k2, k3, k4, k5, k6, k7, k8, k9, k10⟩ := pop_cells hp
  replace hp := Lib.hid hp
  replace hM := Lib.hid hM
  go_enter Try.func45, Try.ntmps45
  go_wp2
  go_ret
  exact ⟨rfl, hp.out, hM.out, hF.out⟩
set_option maxHeartbeats 4000000 in
set_option maxRecDepth 100000 in
theorem push_0 (hp : Blk w p 137 (pushA c sl 0 tp)) : Calls Try.prog 47 #[.pointer (some ⟨p, 0, none⟩), .pointer (some ⟨m, 0, none⟩)] w fun e w' =>
    e = .returned (.bool false) ∧ Blk w' p 137 (pushA c sl 1 ((M.ldV 3))) ∧ MemB w' m b (M.ldS 3) ∧ Fr (three p m b) w w' := by
  have hF := Lib.hid (Fr.refl (three p m b) w)
  obtain ⟨k0, k1, k2, k3, k4, k5, k6, k7, k8⟩ := push_cells hp
  obtain ⟨x0, x1⟩ := ldV_bd ok 3
  have hl := load_c w m b M 3 hM ok
  generalize M.ldV 3 = x at *
  replace hp := Lib.hid hp
  replace hM := Lib.hid hM
  go_enter Try.func47, Try.ntmps47
  go_wp2_with (go_at_call 35; refine (hl).mono ?_; rintro e w1 ⟨rfl, hM', hF'⟩; replace hp := Lib.hid (hp.out.fr hF' np); replace hM := Lib.hid hM'; replace hF := Lib.hid (hF.out.trans (two_three hF')); clear hM' hF'; obtain ⟨l0, l1, l2, l3, l4, l5, l6, l7, l8⟩ := push_cells hp.out; have z7 := hp.out.frozen 7; have z8 := hp.out.frozen 8)
  go_ret
  exact ⟨rfl, (hp.out.set 8 _).set 7 _, (hM.out.set np 8 _).set np 7 _, (hF.out.trans (fr_p _ 8 _)).trans (fr_p _ 7 _)⟩
set_option maxHeartbeats 4000000 in
set_option maxRecDepth 100000 in
theorem push_1 (t0 : 0 ≤ tp) (t1 : tp < 18446744073709551616) (hp : Blk w p 137 (pushA c sl 1 tp)) : Calls Try.prog 47 #[.pointer (some ⟨p, 0, none⟩), .pointer (some ⟨m, 0, none⟩)] w fun e w' =>
    e = .returned (.bool false) ∧ Blk w' p 137 (pushA c sl 2 tp) ∧ MemB w' m b (M.stS (c.link sl) (firstI c.S tp + 1)) ∧ Fr (three p m b) w w' := by
  have e0 := firstI_bd c.S tp
  have e3 : firstI c.S tp < 65536 := by unfold firstI; split <;> omega
  have e1 : IntKind.i64.wrap (firstI c.S tp + 1) = firstI c.S tp + 1 := IntWalk.i64_in _ (by omega)
  have e2 : IntKind.u64.wrap (firstI c.S tp + 1) = firstI c.S tp + 1 := wrap_u64_id _ (by omega) (by omega)
  clear e0 e3
  have hF := Lib.hid (Fr.refl (three p m b) w)
  obtain ⟨k0, k1, k2, k3, k4, k5, k6, k7, k8⟩ := push_cells hp
  replace hp := Lib.hid hp
  replace hM := Lib.hid hM
  go_enter Try.func47, Try.ntmps47
  go_wp2
  clear k0 k1 k2 k3 k4 k5 k6 k7 k8
  replace hp := Lib.hid hp.out.drew
  replace hM := Lib.hid hM.out.drew
  replace hF := Lib.hid (hF.out.trans (Fr.drew _ w))
  have hX0 := push_cells hp.out
  have hX : w.drew.cell? ⟨p, 0, none⟩ = some (.int .i64 c.S) ∧ w.drew.cell? ⟨p, 1, none⟩ = some (.int .i64 c.A) ∧ w.drew.cell? ⟨p, 2, none⟩ = some (.int .i64 c.C) ∧ w.drew.cell? ⟨p, 3, none⟩ = some (.int .i64 c.H) ∧ w.drew.cell? ⟨p, 4, none⟩ = some (.int .i64 c.G) ∧ w.drew.cell? ⟨p, 5, none⟩ = some (.int .i64 c.K) ∧ w.drew.cell? ⟨p, 6, none⟩ = some (.int .i64 sl) ∧ w.drew.cell? ⟨p, 7, none⟩ = some (.int .i64 1) ∧ w.drew.cell? ⟨p, 8, none⟩ = some (.int .u64 tp) := hX0
  clear hX0
  go_region_held3 (fun w' => w'.cell? ⟨p, 0, none⟩ = some (.int .i64 c.S) ∧ w'.cell? ⟨p, 1, none⟩ = some (.int .i64 c.A) ∧ w'.cell? ⟨p, 2, none⟩ = some (.int .i64 c.C) ∧ w'.cell? ⟨p, 3, none⟩ = some (.int .i64 c.H) ∧ w'.cell? ⟨p, 4, none⟩ = some (.int .i64 c.G) ∧ w'.cell? ⟨p, 5, none⟩ = some (.int .i64 c.K) ∧ w'.cell? ⟨p, 6, none⟩ = some (.int .i64 sl) ∧ w'.cell? ⟨p, 7, none⟩ = some (.int .i64 1) ∧ w'.cell? ⟨p, 8, none⟩ = some (.int .u64 tp)) (assumption) (first
    | (go_at_call 75; refine (firstC c _ tp t0 t1).mono ?_; rintro e w3 ⟨rfl, hb⟩; replace hp := Lib.hid (hp.out.below hb hp.out.lt); replace hM := Lib.hid (hM.out.next hb); replace hF := Lib.hid (hF.out.trans (fr_below hb)); clear hb; have hY_w3 : w3.cell? ⟨p, 0, none⟩ = some (.int .i64 c.S) ∧ w3.cell? ⟨p, 1, none⟩ = some (.int .i64 c.A) ∧ w3.cell? ⟨p, 2, none⟩ = some (.int .i64 c.C) ∧ w3.cell? ⟨p, 3, none⟩ = some (.int .i64 c.H) ∧ w3.cell? ⟨p, 4, none⟩ = some (.int .i64 c.G) ∧ w3.cell? ⟨p, 5, none⟩ = some (.int .i64 c.K) ∧ w3.cell? ⟨p, 6, none⟩ = some (.int .i64 sl) ∧ w3.cell? ⟨p, 7, none⟩ = some (.int .i64 1) ∧ w3.cell? ⟨p, 8, none⟩ = some (.int .u64 tp) := (by obtain ⟨y0, y1, y2, y3, y4, y5, y6, y7, y8⟩ := push_cells hp.out; exact ⟨y0, y1, y2, y3, y4, y5, y6, y7, y8⟩))
    | (go_at_call 69; refine (linkC c _ sl).mono ?_; rintro e w4 ⟨rfl, hb⟩; replace hp := Lib.hid (hp.out.below hb hp.out.lt); replace hM := Lib.hid (hM.out.next hb); replace hF := Lib.hid (hF.out.trans (fr_below hb)); clear hb; have hY_w4 : w4.cell? ⟨p, 0, none⟩ = some (.int .i64 c.S) ∧ w4.cell? ⟨p, 1, none⟩ = some (.int .i64 c.A) ∧ w4.cell? ⟨p, 2, none⟩ = some (.int .i64 c.C) ∧ w4.cell? ⟨p, 3, none⟩ = some (.int .i64 c.H) ∧ w4.cell? ⟨p, 4, none⟩ = some (.int .i64 c.G) ∧ w4.cell? ⟨p, 5, none⟩ = some (.int .i64 c.K) ∧ w4.cell? ⟨p, 6, none⟩ = some (.int .i64 sl) ∧ w4.cell? ⟨p, 7, none⟩ = some (.int .i64 1) ∧ w4.cell? ⟨p, 8, none⟩ = some (.int .u64 tp) := (by obtain ⟨y0, y1, y2, y3, y4, y5, y6, y7, y8⟩ := push_cells hp.out; exact ⟨y0, y1, y2, y3, y4, y5, y6, y7, y8⟩))
    | (go_at_call 57; refine (store_c _ m b M (c.link sl) hM.out ok (firstI c.S tp + 1)).mono ?_; rintro e w5 ⟨rfl, hM', hF'⟩; replace hp := Lib.hid (hp.out.fr hF' np); replace hM := Lib.hid hM'; replace hF := Lib.hid (hF.out.trans (two_three hF')); clear hM' hF'; have z7 := hp.out.frozen 7; have hY_w5 : w5.cell? ⟨p, 0, none⟩ = some (.int .i64 c.S) ∧ w5.cell? ⟨p, 1, none⟩ = some (.int .i64 c.A) ∧ w5.cell? ⟨p, 2, none⟩ = some (.int .i64 c.C) ∧ w5.cell? ⟨p, 3, none⟩ = some (.int .i64 c.H) ∧ w5.cell? ⟨p, 4, none⟩ = some (.int .i64 c.G) ∧ w5.cell? ⟨p, 5, none⟩ = some (.int .i64 c.K) ∧ w5.cell? ⟨p, 6, none⟩ = some (.int .i64 sl) ∧ w5.cell? ⟨p, 7, none⟩ = some (.int .i64 1) ∧ w5.cell? ⟨p, 8, none⟩ = some (.int .u64 tp) := (by obtain ⟨y0, y1, y2, y3, y4, y5, y6, y7, y8⟩ := push_cells hp.out; exact ⟨y0, y1, y2, y3, y4, y5, y6, y7, y8⟩)))
  all_goals
    obtain ⟨l0, l1, l2, l3, l4, l5, l6, l7, l8⟩ := hY_w5
    go_wp2
    go_ret
    exact ⟨rfl, hp.out.set 7 _, hM.out.set np 7 _, hF.out.trans (fr_p _ 7 _)⟩
set_option maxHeartbeats 4000000 in
set_option maxRecDepth 100000 in
theorem push_2a (t0 : 0 ≤ tp) (t1 : tp < 18446744073709551616) (hs : M.swV 3 tp = true) (hp : Blk w p 137 (pushA c sl 2 tp)) : Calls Try.prog 47 #[.pointer (some ⟨p, 0, none⟩), .pointer (some ⟨m, 0, none⟩)] w fun e w' =>
    e = .returned (.bool true) ∧ Blk w' p 137 (pushA c sl 3 tp) ∧ MemB w' m b (M.swS 3 tp (movedV tp sl)) ∧ Fr (three p m b) w w' := by
  obtain ⟨n0, n1⟩ := movedV_bd tp sl t0
  have z7 := hp.frozen 7
  have hF := Lib.hid (Fr.refl (three p m b) w)
  obtain ⟨k0, k1, k2, k3, k4, k5, k6, k7, k8⟩ := push_cells hp
  replace hs := Lib.hid hs
  replace hp := Lib.hid hp
  replace hM := Lib.hid hM
  go_enter Try.func47, Try.ntmps47
  go_wp2
  have hp' : Blk (w.setCell ⟨p, 7, none⟩ (.int .i64 0)) p 137 (pushA c sl 0 tp) := (hp.out.set 7 _)
  have hM' := (hM.out.set np 7 (.int .i64 0))
  have hF' := (hF.out.trans (fr_p w 7 (.int .i64 0)))
  clear hp hM hF k0 k1 k2 k3 k4 k5 k6 k7 k8 z7
  generalize w.setCell ⟨p, 7, none⟩ (.int .i64 0) = w2 at *
  have hp := Lib.hid hp'
  have hM := Lib.hid hM'
  have hF := Lib.hid hF'
  clear hp' hM' hF'
  replace hp := Lib.hid hp.out.drew
  replace hM := Lib.hid hM.out.drew
  replace hF := Lib.hid (hF.out.trans (Fr.drew _ w2))
  have hX0 := push_cells hp.out
  have hX : w2.drew.cell? ⟨p, 0, none⟩ = some (.int .i64 c.S) ∧ w2.drew.cell? ⟨p, 1, none⟩ = some (.int .i64 c.A) ∧ w2.drew.cell? ⟨p, 2, none⟩ = some (.int .i64 c.C) ∧ w2.drew.cell? ⟨p, 3, none⟩ = some (.int .i64 c.H) ∧ w2.drew.cell? ⟨p, 4, none⟩ = some (.int .i64 c.G) ∧ w2.drew.cell? ⟨p, 5, none⟩ = some (.int .i64 c.K) ∧ w2.drew.cell? ⟨p, 6, none⟩ = some (.int .i64 sl) ∧ w2.drew.cell? ⟨p, 7, none⟩ = some (.int .i64 0) ∧ w2.drew.cell? ⟨p, 8, none⟩ = some (.int .u64 tp) := hX0
  clear hX0
  go_region_held3 (fun w' => w'.cell? ⟨p, 0, none⟩ = some (.int .i64 c.S) ∧ w'.cell? ⟨p, 1, none⟩ = some (.int .i64 c.A) ∧ w'.cell? ⟨p, 2, none⟩ = some (.int .i64 c.C) ∧ w'.cell? ⟨p, 3, none⟩ = some (.int .i64 c.H) ∧ w'.cell? ⟨p, 4, none⟩ = some (.int .i64 c.G) ∧ w'.cell? ⟨p, 5, none⟩ = some (.int .i64 c.K) ∧ w'.cell? ⟨p, 6, none⟩ = some (.int .i64 sl) ∧ w'.cell? ⟨p, 7, none⟩ = some (.int .i64 0) ∧ w'.cell? ⟨p, 8, none⟩ = some (.int .u64 tp)) (assumption) (first
    | (go_at_call 83; refine (movedC _ tp sl t0 t1).mono ?_; rintro e w3 ⟨rfl, hb⟩; replace hp := Lib.hid (hp.out.below hb hp.out.lt); replace hM := Lib.hid (hM.out.next hb); replace hF := Lib.hid (hF.out.trans (fr_below hb)); clear hb; have hY_w3 : w3.cell? ⟨p, 0, none⟩ = some (.int .i64 c.S) ∧ w3.cell? ⟨p, 1, none⟩ = some (.int .i64 c.A) ∧ w3.cell? ⟨p, 2, none⟩ = some (.int .i64 c.C) ∧ w3.cell? ⟨p, 3, none⟩ = some (.int .i64 c.H) ∧ w3.cell? ⟨p, 4, none⟩ = some (.int .i64 c.G) ∧ w3.cell? ⟨p, 5, none⟩ = some (.int .i64 c.K) ∧ w3.cell? ⟨p, 6, none⟩ = some (.int .i64 sl) ∧ w3.cell? ⟨p, 7, none⟩ = some (.int .i64 0) ∧ w3.cell? ⟨p, 8, none⟩ = some (.int .u64 tp) := (by obtain ⟨y0, y1, y2, y3, y4, y5, y6, y7, y8⟩ := push_cells hp.out; exact ⟨y0, y1, y2, y3, y4, y5, y6, y7, y8⟩))
    | (go_at_call 82; refine (swap_c _ m b M 3 hM.out ok tp (movedV tp sl)).mono ?_; rintro e w4 ⟨rfl, hM', hF'⟩; rw [hs.out]; replace hp := Lib.hid (hp.out.fr hF' np); replace hM := Lib.hid hM'; replace hF := Lib.hid (hF.out.trans (two_three hF')); clear hM' hF'; have z7 := hp.out.frozen 7; have hY_w4 : w4.cell? ⟨p, 0, none⟩ = some (.int .i64 c.S) ∧ w4.cell? ⟨p, 1, none⟩ = some (.int .i64 c.A) ∧ w4.cell? ⟨p, 2, none⟩ = some (.int .i64 c.C) ∧ w4.cell? ⟨p, 3, none⟩ = some (.int .i64 c.H) ∧ w4.cell? ⟨p, 4, none⟩ = some (.int .i64 c.G) ∧ w4.cell? ⟨p, 5, none⟩ = some (.int .i64 c.K) ∧ w4.cell? ⟨p, 6, none⟩ = some (.int .i64 sl) ∧ w4.cell? ⟨p, 7, none⟩ = some (.int .i64 0) ∧ w4.cell? ⟨p, 8, none⟩ = some (.int .u64 tp) := (by obtain ⟨y0, y1, y2, y3, y4, y5, y6, y7, y8⟩ := push_cells hp.out; exact ⟨y0, y1, y2, y3, y4, y5, y6, y7, y8⟩)))
  obtain ⟨l0, l1, l2, l3, l4, l5, l6, l7, l8⟩ := hY_w4
  go_wp2
  go_ret
  exact ⟨rfl, hp.out.set 7 _, hM.out.set np 7 _, hF.out.trans (fr_p _ 7 _)⟩
set_option maxHeartbeats 4000000 in
set_option maxRecDepth 100000 in
theorem push_2b (t0 : 0 ≤ tp) (t1 : tp < 18446744073709551616) (hs : M.swV 3 tp = false) (hp : Blk w p 137 (pushA c sl 2 tp)) : Calls Try.prog 47 #[.pointer (some ⟨p, 0, none⟩), .pointer (some ⟨m, 0, none⟩)] w fun e w' =>
    e = .returned (.bool false) ∧ Blk w' p 137 (pushA c sl 0 tp) ∧ MemB w' m b (M.swS 3 tp (movedV tp sl)) ∧ Fr (three p m b) w w' := by
  obtain ⟨n0, n1⟩ := movedV_bd tp sl t0
  have z7 := hp.frozen 7
  have hF := Lib.hid (Fr.refl (three p m b) w)
  obtain ⟨k0, k1, k2, k3, k4, k5, k6, k7, k8⟩ := push_cells hp
  replace hs := Lib.hid hs
  replace hp := Lib.hid hp
  replace hM := Lib.hid hM
  go_enter Try.func47, Try.ntmps47
  go_wp2
  have hp' : Blk (w.setCell ⟨p, 7, none⟩ (.int .i64 0)) p 137 (pushA c sl 0 tp) := (hp.out.set 7 _)
  have hM' := (hM.out.set np 7 (.int .i64 0))
  have hF' := (hF.out.trans (fr_p w 7 (.int .i64 0)))
  clear hp hM hF k0 k1 k2 k3 k4 k5 k6 k7 k8 z7
  generalize w.setCell ⟨p, 7, none⟩ (.int .i64 0) = w2 at *
  have hp := Lib.hid hp'
  have hM := Lib.hid hM'
  have hF := Lib.hid hF'
  clear hp' hM' hF'
  replace hp := Lib.hid hp.out.drew
  replace hM := Lib.hid hM.out.drew
  replace hF := Lib.hid (hF.out.trans (Fr.drew _ w2))
  have hX0 := push_cells hp.out
  have hX : w2.drew.cell? ⟨p, 0, none⟩ = some (.int .i64 c.S) ∧ w2.drew.cell? ⟨p, 1, none⟩ = some (.int .i64 c.A) ∧ w2.drew.cell? ⟨p, 2, none⟩ = some (.int .i64 c.C) ∧ w2.drew.cell? ⟨p, 3, none⟩ = some (.int .i64 c.H) ∧ w2.drew.cell? ⟨p, 4, none⟩ = some (.int .i64 c.G) ∧ w2.drew.cell? ⟨p, 5, none⟩ = some (.int .i64 c.K) ∧ w2.drew.cell? ⟨p, 6, none⟩ = some (.int .i64 sl) ∧ w2.drew.cell? ⟨p, 7, none⟩ = some (.int .i64 0) ∧ w2.drew.cell? ⟨p, 8, none⟩ = some (.int .u64 tp) := hX0
  clear hX0
  go_region_held3 (fun w' => w'.cell? ⟨p, 0, none⟩ = some (.int .i64 c.S) ∧ w'.cell? ⟨p, 1, none⟩ = some (.int .i64 c.A) ∧ w'.cell? ⟨p, 2, none⟩ = some (.int .i64 c.C) ∧ w'.cell? ⟨p, 3, none⟩ = some (.int .i64 c.H) ∧ w'.cell? ⟨p, 4, none⟩ = some (.int .i64 c.G) ∧ w'.cell? ⟨p, 5, none⟩ = some (.int .i64 c.K) ∧ w'.cell? ⟨p, 6, none⟩ = some (.int .i64 sl) ∧ w'.cell? ⟨p, 7, none⟩ = some (.int .i64 0) ∧ w'.cell? ⟨p, 8, none⟩ = some (.int .u64 tp)) (assumption) (first
    | (go_at_call 83; refine (movedC _ tp sl t0 t1).mono ?_; rintro e w3 ⟨rfl, hb⟩; replace hp := Lib.hid (hp.out.below hb hp.out.lt); replace hM := Lib.hid (hM.out.next hb); replace hF := Lib.hid (hF.out.trans (fr_below hb)); clear hb; have hY_w3 : w3.cell? ⟨p, 0, none⟩ = some (.int .i64 c.S) ∧ w3.cell? ⟨p, 1, none⟩ = some (.int .i64 c.A) ∧ w3.cell? ⟨p, 2, none⟩ = some (.int .i64 c.C) ∧ w3.cell? ⟨p, 3, none⟩ = some (.int .i64 c.H) ∧ w3.cell? ⟨p, 4, none⟩ = some (.int .i64 c.G) ∧ w3.cell? ⟨p, 5, none⟩ = some (.int .i64 c.K) ∧ w3.cell? ⟨p, 6, none⟩ = some (.int .i64 sl) ∧ w3.cell? ⟨p, 7, none⟩ = some (.int .i64 0) ∧ w3.cell? ⟨p, 8, none⟩ = some (.int .u64 tp) := (by obtain ⟨y0, y1, y2, y3, y4, y5, y6, y7, y8⟩ := push_cells hp.out; exact ⟨y0, y1, y2, y3, y4, y5, y6, y7, y8⟩))
    | (go_at_call 82; refine (swap_c _ m b M 3 hM.out ok tp (movedV tp sl)).mono ?_; rintro e w4 ⟨rfl, hM', hF'⟩; rw [hs.out]; replace hp := Lib.hid (hp.out.fr hF' np); replace hM := Lib.hid hM'; replace hF := Lib.hid (hF.out.trans (two_three hF')); clear hM' hF'; have z7 := hp.out.frozen 7; have hY_w4 : w4.cell? ⟨p, 0, none⟩ = some (.int .i64 c.S) ∧ w4.cell? ⟨p, 1, none⟩ = some (.int .i64 c.A) ∧ w4.cell? ⟨p, 2, none⟩ = some (.int .i64 c.C) ∧ w4.cell? ⟨p, 3, none⟩ = some (.int .i64 c.H) ∧ w4.cell? ⟨p, 4, none⟩ = some (.int .i64 c.G) ∧ w4.cell? ⟨p, 5, none⟩ = some (.int .i64 c.K) ∧ w4.cell? ⟨p, 6, none⟩ = some (.int .i64 sl) ∧ w4.cell? ⟨p, 7, none⟩ = some (.int .i64 0) ∧ w4.cell? ⟨p, 8, none⟩ = some (.int .u64 tp) := (by obtain ⟨y0, y1, y2, y3, y4, y5, y6, y7, y8⟩ := push_cells hp.out; exact ⟨y0, y1, y2, y3, y4, y5, y6, y7, y8⟩)))
  obtain ⟨l0, l1, l2, l3, l4, l5, l6, l7, l8⟩ := hY_w4
  go_wp2
  go_ret
  exact ⟨rfl, hp.out, hM.out, hF.out⟩
set_option maxHeartbeats 4000000 in
set_option maxRecDepth 100000 in
theorem push_3 (hp : Blk w p 137 (pushA c sl 3 tp)) : Calls Try.prog 47 #[.pointer (some ⟨p, 0, none⟩), .pointer (some ⟨m, 0, none⟩)] w fun e w' =>
    e = .returned (.bool true) ∧ Blk w' p 137 (pushA c sl 3 tp) ∧ MemB w' m b (M) ∧ Fr (three p m b) w w' := by
  have hF := Lib.hid (Fr.refl (three p m b) w)
  obtain ⟨k0, k1, k2, k3, k4, k5, k6, k7, k8⟩ := push_cells hp
  replace hp := Lib.hid hp
  replace hM := Lib.hid hM
  go_enter Try.func47, Try.ntmps47
  go_wp2
  go_ret
  exact ⟨rfl, hp.out, hM.out, hF.out⟩
end
end Go.Proofs.Ytijfkpoofpcacaa.StackC
