/-
  What the law ArenaPlays needs of the seat's texts (StackC, Open, StackL, StackS, StackT, StackF, StackP, StackQ, TakerL, PArenaPlaysx7, PwArenaPlays, HeadP, HeadU, HeadC, ArenaL, HeadD, ArenaR): the words and functions that the kit's print.sh printed, and our own; no condition of its own.
-/
import Derived.Deep.RegionHeld3
import Derived.IntWalk
import Derived.Deep.Slices
import Derived.Deep.Fields
import Derived.ChangeSame
import Derived.ChangeShapes
import Derived.SizedLaws
import Derived.Below
import Derived.RowKit
import Derived.Deep.QuietTactic
import Derived.BigQuiet
import Derived.Deep.DeepCutAuto
import Derived.Deep.CutBlock
import Derived.Deep.CutRange
import Derived.Lib.Hide
import Derived.Outline
import Derived.WalkLawsBesides
import Derived.StillTailTactics
import Derived.Test.YtijfkpoofpcacaaZArenaPlays2
set_option linter.unusedVariables false
set_option linter.unusedSectionVars false
set_option linter.unusedSimpArgs false
section
namespace Go.Proofs.Ytijfkpoofpcacaa.StackC
open Go.RowKit Go.Proofs.YtijfkpoofpcacaaW.PrintWords Go.Proofs.Ytijfkpoofpcacaa.Blk Go.Proofs.Ytijfkpoofpcacaa.Core Go.Proofs.Ytijfkpoofpcacaa.MemC Go.Proofs.Ytijfkpoofpcacaa.MemD Go.Proofs.Ytijfkpoofpcacaa.MemT Go.Proofs.Ytijfkpoofpcacaa.PlanC Go.Proofs.Ytijfkpoofpcacaa.PlanD
def three (p m b : Nat) : Nat → Prop := fun k => k = p ∨ two m b k
theorem two_three {p m b : Nat} {w w' : World} (h : Fr (two m b) w w') : Fr (three p m b) w w' := h.mono (fun _ x => .inr x)
theorem fr_p {p m b : Nat} (w : World) (i : Nat) (v : Value) : Fr (three p m b) w (w.setCell ⟨p, i, none⟩ v) := Fr.set (three p m b) w (p := ⟨p, i, none⟩) (.inl rfl) v
theorem _root_.Go.Proofs.Ytijfkpoofpcacaa.MemC.MemB.set {w : World} {m b : Nat} {M : Ms} (h : MemB w m b M) {p : Nat} (np : ¬ two m b p) (i : Nat) (v : Value) : MemB (w.setCell ⟨p, i, none⟩ v) m b M :=
  h.fr (Fr.set (fun k => k = p) w (p := ⟨p, i, none⟩) rfl v) (fun e => np (.inl e.symm)) (fun e => np (.inr e.symm))
theorem ldV_bd {M : Ms} (ok : Ok M) (a : Int) : 0 ≤ M.ldV a ∧ M.ldV a < 18446744073709551616 := by
  unfold Ms.ldV
  split
  · exact ok.f _
  · exact ⟨Int.le_refl 0, by decide⟩
theorem cell_off {w : World} {p i j : Nat} {v : Value} (h : i ≠ j) : (w.setCell ⟨p, i, none⟩ v).cell? ⟨p, j, none⟩ = w.cell? ⟨p, j, none⟩ := World.cell?_setCell_other _ _ _ _ (fun e => h (congrArg Addr.off e))
def popA (c : Cf) (sl : Int) (em : Bool) (a : Int) (tp : Int) (nx : Int) : Array Value := #[.int .i64 sl, .bool em, .int .i64 c.S, .int .i64 c.A, .int .i64 c.C, .int .i64 c.H, .int .i64 c.G, .int .i64 c.K, .int .i64 a, .int .u64 tp, .int .i64 nx]
theorem pop_cells {w : World} {p t : Nat} {c : Cf} {sl : Int} {em : Bool} {a : Int} {tp : Int} {nx : Int} (h : Blk w p t (popA c sl em a tp nx)) :
    w.cell? ⟨p, 0, none⟩ = some (.int .i64 sl) ∧ w.cell? ⟨p, 1, none⟩ = some (.bool em) ∧ w.cell? ⟨p, 2, none⟩ = some (.int .i64 c.S) ∧ w.cell? ⟨p, 3, none⟩ = some (.int .i64 c.A) ∧ w.cell? ⟨p, 4, none⟩ = some (.int .i64 c.C) ∧ w.cell? ⟨p, 5, none⟩ = some (.int .i64 c.H) ∧ w.cell? ⟨p, 6, none⟩ = some (.int .i64 c.G) ∧ w.cell? ⟨p, 7, none⟩ = some (.int .i64 c.K) ∧ w.cell? ⟨p, 8, none⟩ = some (.int .i64 a) ∧ w.cell? ⟨p, 9, none⟩ = some (.int .u64 tp) ∧ w.cell? ⟨p, 10, none⟩ = some (.int .i64 nx) :=
  ⟨h.cell (i := 0) rfl, h.cell (i := 1) rfl, h.cell (i := 2) rfl, h.cell (i := 3) rfl, h.cell (i := 4) rfl, h.cell (i := 5) rfl, h.cell (i := 6) rfl, h.cell (i := 7) rfl, h.cell (i := 8) rfl, h.cell (i := 9) rfl, h.cell (i := 10) rfl⟩
def pushA (c : Cf) (sl : Int) (a : Int) (tp : Int) : Array Value := #[.int .i64 c.S, .int .i64 c.A, .int .i64 c.C, .int .i64 c.H, .int .i64 c.G, .int .i64 c.K, .int .i64 sl, .int .i64 a, .int .u64 tp]
theorem push_cells {w : World} {p t : Nat} {c : Cf} {sl : Int} {a : Int} {tp : Int} (h : Blk w p t (pushA c sl a tp)) :
    w.cell? ⟨p, 0, none⟩ = some (.int .i64 c.S) ∧ w.cell? ⟨p, 1, none⟩ = some (.int .i64 c.A) ∧ w.cell? ⟨p, 2, none⟩ = some (.int .i64 c.C) ∧ w.cell? ⟨p, 3, none⟩ = some (.int .i64 c.H) ∧ w.cell? ⟨p, 4, none⟩ = some (.int .i64 c.G) ∧ w.cell? ⟨p, 5, none⟩ = some (.int .i64 c.K) ∧ w.cell? ⟨p, 6, none⟩ = some (.int .i64 sl) ∧ w.cell? ⟨p, 7, none⟩ = some (.int .i64 a) ∧ w.cell? ⟨p, 8, none⟩ = some (.int .u64 tp) :=
  ⟨h.cell (i := 0) rfl, h.cell (i := 1) rfl, h.cell (i := 2) rfl, h.cell (i := 3) rfl, h.cell (i := 4) rfl, h.cell (i := 5) rfl, h.cell (i := 6) rfl, h.cell (i := 7) rfl, h.cell (i := 8) rfl⟩
theorem pop_k10 {w : World} {p : Nat} {c : Cf} {sl : Int} {em : Bool} {a : Int} {tp : Int} {v : Value} (h : w.cell? ⟨p, 0, none⟩ = some (.int .i64 sl) ∧ w.cell? ⟨p, 1, none⟩ = some (.bool em) ∧ w.cell? ⟨p, 2, none⟩ = some (.int .i64 c.S) ∧ w.cell? ⟨p, 3, none⟩ = some (.int .i64 c.A) ∧ w.cell? ⟨p, 4, none⟩ = some (.int .i64 c.C) ∧ w.cell? ⟨p, 5, none⟩ = some (.int .i64 c.H) ∧ w.cell? ⟨p, 6, none⟩ = some (.int .i64 c.G) ∧ w.cell? ⟨p, 7, none⟩ = some (.int .i64 c.K) ∧ w.cell? ⟨p, 8, none⟩ = some (.int .i64 a) ∧ w.cell? ⟨p, 9, none⟩ = some (.int .u64 tp)) :
    (w.setCell ⟨p, 10, none⟩ v).cell? ⟨p, 0, none⟩ = some (.int .i64 sl) ∧ (w.setCell ⟨p, 10, none⟩ v).cell? ⟨p, 1, none⟩ = some (.bool em) ∧ (w.setCell ⟨p, 10, none⟩ v).cell? ⟨p, 2, none⟩ = some (.int .i64 c.S) ∧ (w.setCell ⟨p, 10, none⟩ v).cell? ⟨p, 3, none⟩ = some (.int .i64 c.A) ∧ (w.setCell ⟨p, 10, none⟩ v).cell? ⟨p, 4, none⟩ = some (.int .i64 c.C) ∧ (w.setCell ⟨p, 10, none⟩ v).cell? ⟨p, 5, none⟩ = some (.int .i64 c.H) ∧ (w.setCell ⟨p, 10, none⟩ v).cell? ⟨p, 6, none⟩ = some (.int .i64 c.G) ∧ (w.setCell ⟨p, 10, none⟩ v).cell? ⟨p, 7, none⟩ = some (.int .i64 c.K) ∧ (w.setCell ⟨p, 10, none⟩ v).cell? ⟨p, 8, none⟩ = some (.int .i64 a) ∧ (w.setCell ⟨p, 10, none⟩ v).cell? ⟨p, 9, none⟩ = some (.int .u64 tp) := by
  obtain ⟨x0, x1, x2, x3, x4, x5, x6, x7, x8, x9⟩ := h
  exact ⟨(cell_off (by decide)).trans x0, (cell_off (by decide)).trans x1, (cell_off (by decide)).trans x2, (cell_off (by decide)).trans x3, (cell_off (by decide)).trans x4, (cell_off (by decide)).trans x5, (cell_off (by decide)).trans x6, (cell_off (by decide)).trans x7, (cell_off (by decide)).trans x8, (cell_off (by decide)).trans x9⟩
theorem pop_k0 {w : World} {p : Nat} {c : Cf} {em : Bool} {tp : Int} {nx : Int} {v : Value} (h : w.cell? ⟨p, 1, none⟩ = some (.bool em) ∧ w.cell? ⟨p, 2, none⟩ = some (.int .i64 c.S) ∧ w.cell? ⟨p, 3, none⟩ = some (.int .i64 c.A) ∧ w.cell? ⟨p, 4, none⟩ = some (.int .i64 c.C) ∧ w.cell? ⟨p, 5, none⟩ = some (.int .i64 c.H) ∧ w.cell? ⟨p, 6, none⟩ = some (.int .i64 c.G) ∧ w.cell? ⟨p, 7, none⟩ = some (.int .i64 c.K) ∧ w.cell? ⟨p, 9, none⟩ = some (.int .u64 tp) ∧ w.cell? ⟨p, 10, none⟩ = some (.int .i64 nx)) :
    (w.setCell ⟨p, 0, none⟩ v).cell? ⟨p, 1, none⟩ = some (.bool em) ∧ (w.setCell ⟨p, 0, none⟩ v).cell? ⟨p, 2, none⟩ = some (.int .i64 c.S) ∧ (w.setCell ⟨p, 0, none⟩ v).cell? ⟨p, 3, none⟩ = some (.int .i64 c.A) ∧ (w.setCell ⟨p, 0, none⟩ v).cell? ⟨p, 4, none⟩ = some (.int .i64 c.C) ∧ (w.setCell ⟨p, 0, none⟩ v).cell? ⟨p, 5, none⟩ = some (.int .i64 c.H) ∧ (w.setCell ⟨p, 0, none⟩ v).cell? ⟨p, 6, none⟩ = some (.int .i64 c.G) ∧ (w.setCell ⟨p, 0, none⟩ v).cell? ⟨p, 7, none⟩ = some (.int .i64 c.K) ∧ (w.setCell ⟨p, 0, none⟩ v).cell? ⟨p, 9, none⟩ = some (.int .u64 tp) ∧ (w.setCell ⟨p, 0, none⟩ v).cell? ⟨p, 10, none⟩ = some (.int .i64 nx) := by
  obtain ⟨x1, x2, x3, x4, x5, x6, x7, x9, x10⟩ := h
  exact ⟨(cell_off (by decide)).trans x1, (cell_off (by decide)).trans x2, (cell_off (by decide)).trans x3, (cell_off (by decide)).trans x4, (cell_off (by decide)).trans x5, (cell_off (by decide)).trans x6, (cell_off (by decide)).trans x7, (cell_off (by decide)).trans x9, (cell_off (by decide)).trans x10⟩
theorem pop_k8 {w : World} {p : Nat} {c : Cf} {em : Bool} {tp : Int} {nx : Int} {v : Value} (h : w.cell? ⟨p, 1, none⟩ = some (.bool em) ∧ w.cell? ⟨p, 2, none⟩ = some (.int .i64 c.S) ∧ w.cell? ⟨p, 3, none⟩ = some (.int .i64 c.A) ∧ w.cell? ⟨p, 4, none⟩ = some (.int .i64 c.C) ∧ w.cell? ⟨p, 5, none⟩ = some (.int .i64 c.H) ∧ w.cell? ⟨p, 6, none⟩ = some (.int .i64 c.G) ∧ w.cell? ⟨p, 7, none⟩ = some (.int .i64 c.K) ∧ w.cell? ⟨p, 9, none⟩ = some (.int .u64 tp) ∧ w.cell? ⟨p, 10, none⟩ = some (.int .i64 nx)) :
    (w.setCell ⟨p, 8, none⟩ v).cell? ⟨p, 1, none⟩ = some (.bool em) ∧ (w.setCell ⟨p, 8, none⟩ v).cell? ⟨p, 2, none⟩ = some (.int .i64 c.S) ∧ (w.setCell ⟨p, 8, none⟩ v).cell? ⟨p, 3, none⟩ = some (.int .i64 c.A) ∧ (w.setCell ⟨p, 8, none⟩ v).cell? ⟨p, 4, none⟩ = some (.int .i64 c.C) ∧ (w.setCell ⟨p, 8, none⟩ v).cell? ⟨p, 5, none⟩ = some (.int .i64 c.H) ∧ (w.setCell ⟨p, 8, none⟩ v).cell? ⟨p, 6, none⟩ = some (.int .i64 c.G) ∧ (w.setCell ⟨p, 8, none⟩ v).cell? ⟨p, 7, none⟩ = some (.int .i64 c.K) ∧ (w.setCell ⟨p, 8, none⟩ v).cell? ⟨p, 9, none⟩ = some (.int .u64 tp) ∧ (w.setCell ⟨p, 8, none⟩ v).cell? ⟨p, 10, none⟩ = some (.int .i64 nx) := by
  obtain ⟨x1, x2, x3, x4, x5, x6, x7, x9, x10⟩ := h
  exact ⟨(cell_off (by decide)).trans x1, (cell_off (by decide)).trans x2, (cell_off (by decide)).trans x3, (cell_off (by decide)).trans x4, (cell_off (by decide)).trans x5, (cell_off (by decide)).trans x6, (cell_off (by decide)).trans x7, (cell_off (by decide)).trans x9, (cell_off (by decide)).trans x10⟩
section
variable (c : Cf) (w : World) (p m b : Nat) (M : Ms) (hc : c.right = true) (hM : MemB w m b M) (ok : Ok M) (np : ¬ two m b p) (sl : Int) (em : Bool) (tp nx : Int)
include hc hM ok np
set_option maxHeartbeats 4000000 in
set_option maxRecDepth 100000 in
theorem pop_0a (hx : firstI c.S (M.ldV 3) < 0) (hp : Blk w p 66 (popA c sl em 0 tp nx)) : Calls Try.prog 45 #[.pointer (some ⟨p, 0, none⟩), .pointer (some ⟨m, 0, none⟩)] w fun e w' =>
    e = .returned (.bool true) ∧ Blk w' p 66 (popA c sl true 3 ((M.ldV 3)) nx) ∧ MemB w' m b (M.ldS 3) ∧ Fr (three p m b) w w' := by
  have hF := Lib.hid (Fr.refl (three p m b) w)
  obtain ⟨k0, k1, k2, k3, k4, k5, k6, k7, k8, k9, k10⟩ := pop_cells hp
  obtain ⟨x0, x1⟩ := ldV_bd ok 3
  have hl := load_c w m b M 3 hM ok
  generalize M.ldV 3 = x at *
  replace hp := Lib.hid hp
  replace hM := Lib.hid hM
  go_enter Try.func45, Try.ntmps45
  go_wp2_with (go_at_call 35; refine (hl).mono ?_; rintro e w1 ⟨rfl, hM', hF'⟩; replace hp := Lib.hid (hp.out.fr hF' np); replace hM := Lib.hid hM'; replace hF := Lib.hid (hF.out.trans (two_three hF')); clear hM' hF'; obtain ⟨l0, l1, l2, l3, l4, l5, l6, l7, l8, l9, l10⟩ := pop_cells hp.out; have z8 := hp.out.frozen 8; have z9 := hp.out.frozen 9)
  have hp' : Blk ((w1.setCell ⟨p, 9, none⟩ (.int .u64 x)).setCell ⟨p, 8, none⟩ (.int .i64 1)) p 66 (popA c sl em 1 x nx) := ((hp.out.set 9 _).set 8 _)
  have hM' := ((hM.out.set np 9 (.int .u64 x)).set np 8 (.int .i64 1))
  have hF' := ((hF.out.trans (fr_p w1 9 (.int .u64 x))).trans (fr_p (w1.setCell ⟨p, 9, none⟩ (.int .u64 x)) 8 (.int .i64 1)))
  clear hp hM hF k0 k1 k2 k3 k4 k5 k6 k7 k8 k9 k10 l0 l1 l2 l3 l4 l5 l6 l7 l8 l9 l10 z8 z9 hl
  generalize (w1.setCell ⟨p, 9, none⟩ (.int .u64 x)).setCell ⟨p, 8, none⟩ (.int .i64 1) = w2 at *
  have hp := Lib.hid hp'
  have hM := Lib.hid hM'
  have hF := Lib.hid hF'
  clear hp' hM' hF'
  replace hp := Lib.hid hp.out.drew
  replace hM := Lib.hid hM.out.drew
  replace hF := Lib.hid (hF.out.trans (Fr.drew _ w2))
  have hX0 := pop_cells hp.out
  have hX : w2.drew.cell? ⟨p, 0, none⟩ = some (.int .i64 sl) ∧ w2.drew.cell? ⟨p, 1, none⟩ = some (.bool em) ∧ w2.drew.cell? ⟨p, 2, none⟩ = some (.int .i64 c.S) ∧ w2.drew.cell? ⟨p, 3, none⟩ = some (.int .i64 c.A) ∧ w2.drew.cell? ⟨p, 4, none⟩ = some (.int .i64 c.C) ∧ w2.drew.cell? ⟨p, 5, none⟩ = some (.int .i64 c.H) ∧ w2.drew.cell? ⟨p, 6, none⟩ = some (.int .i64 c.G) ∧ w2.drew.cell? ⟨p, 7, none⟩ = some (.int .i64 c.K) ∧ w2.drew.cell? ⟨p, 8, none⟩ = some (.int .i64 1) ∧ w2.drew.cell? ⟨p, 9, none⟩ = some (.int .u64 x) ∧ w2.drew.cell? ⟨p, 10, none⟩ = some (.int .i64 nx) := hX0
  clear hX0
  go_region_held3 (fun w' => w'.cell? ⟨p, 0, none⟩ = some (.int .i64 sl) ∧ w'.cell? ⟨p, 1, none⟩ = some (.bool em) ∧ w'.cell? ⟨p, 2, none⟩ = some (.int .i64 c.S) ∧ w'.cell? ⟨p, 3, none⟩ = some (.int .i64 c.A) ∧ w'.cell? ⟨p, 4, none⟩ = some (.int .i64 c.C) ∧ w'.cell? ⟨p, 5, none⟩ = some (.int .i64 c.H) ∧ w'.cell? ⟨p, 6, none⟩ = some (.int .i64 c.G) ∧ w'.cell? ⟨p, 7, none⟩ = some (.int .i64 c.K) ∧ w'.cell? ⟨p, 8, none⟩ = some (.int .i64 1) ∧ w'.cell? ⟨p, 9, none⟩ = some (.int .u64 x) ∧ w'.cell? ⟨p, 10, none⟩ = some (.int .i64 nx)) (assumption) (first
    | (go_at_call 75; refine (firstC c _ x x0 x1).mono ?_; rintro e w3 ⟨rfl, hb⟩; replace hp := Lib.hid (hp.out.below hb hp.out.lt); replace hM := Lib.hid (hM.out.next hb); replace hF := Lib.hid (hF.out.trans (fr_below hb)); have hY := pop_cells hp.out; clear hb; have z1 := hp.out.frozen 1; have z8 := hp.out.frozen 8))
  obtain ⟨l0, l1, l2, l3, l4, l5, l6, l7, l8, l9, l10⟩ := hY
  go_wp2
  go_ret
  exact ⟨rfl, (hp.out.set 1 _).set 8 _, (hM.out.set np 1 _).set np 8 _, (hF.out.trans (fr_p w3 1 (.bool true))).trans (fr_p _ 8 _)⟩
set_option maxHeartbeats 4000000 in
set_option maxRecDepth 100000 in
theorem pop_0b (hx : 0 ≤ firstI c.S (M.ldV 3)) (hp : Blk w p 66 (popA c sl em 0 tp nx)) : Calls Try.prog 45 #[.pointer (some ⟨p, 0, none⟩), .pointer (some ⟨m, 0, none⟩)] w fun e w' =>
    e = .returned (.bool false) ∧ Blk w' p 66 (popA c sl em 1 ((M.ldV 3)) nx) ∧ MemB w' m b (M.ldS 3) ∧ Fr (three p m b) w w' := by
  have hF := Lib.hid (Fr.refl (three p m b) w)
  obtain ⟨k0, k1, k2, k3, k4, k5, k6, k7, k8, k9, k10⟩ := pop_cells hp
  obtain ⟨x0, x1⟩ := ldV_bd ok 3
  have hl := load_c w m b M 3 hM ok
  generalize M.ldV 3 = x at *
  replace hp := Lib.hid hp
  replace hM := Lib.hid hM
  go_enter Try.func45, Try.ntmps45
  go_wp2_with (go_at_call 35; refine (hl).mono ?_; rintro e w1 ⟨rfl, hM', hF'⟩; replace hp := Lib.hid (hp.out.fr hF' np); replace hM := Lib.hid hM'; replace hF := Lib.hid (hF.out.trans (two_three hF')); clear hM' hF'; obtain ⟨l0, l1, l2, l3, l4, l5, l6, l7, l8, l9, l10⟩ := pop_cells hp.out; have z8 := hp.out.frozen 8; have z9 := hp.out.frozen 9)
  have hp' : Blk ((w1.setCell ⟨p, 9, none⟩ (.int .u64 x)).setCell ⟨p, 8, none⟩ (.int .i64 1)) p 66 (popA c sl em 1 x nx) := ((hp.out.set 9 _).set 8 _)
  have hM' := ((hM.out.set np 9 (.int .u64 x)).set np 8 (.int .i64 1))
  have hF' := ((hF.out.trans (fr_p w1 9 (.int .u64 x))).trans (fr_p (w1.setCell ⟨p, 9, none⟩ (.int .u64 x)) 8 (.int .i64 1)))
  clear hp hM hF k0 k1 k2 k3 k4 k5 k6 k7 k8 k9 k10 l0 l1 l2 l3 l4 l5 l6 l7 l8 l9 l10 z8 z9 hl
  generalize (w1.setCell ⟨p, 9, none⟩ (.int .u64 x)).setCell ⟨p, 8, none⟩ (.int .i64 1) = w2 at *
  have hp := Lib.hid hp'
  have hM := Lib.hid hM'
  have hF := Lib.hid hF'
  clear hp' hM' hF'
  replace hp := Lib.hid hp.out.drew
  replace hM := Lib.hid hM.out.drew
  replace hF := Lib.hid (hF.out.trans (Fr.drew _ w2))
  have hX0 := pop_cells hp.out
  have hX : w2.drew.cell? ⟨p, 0, none⟩ = some (.int .i64 sl) ∧ w2.drew.cell? ⟨p, 1, none⟩ = some (.bool em) ∧ w2.drew.cell? ⟨p, 2, none⟩ = some (.int .i64 c.S) ∧ w2.drew.cell? ⟨p, 3, none⟩ = some (.int .i64 c.A) ∧ w2.drew.cell? ⟨p, 4, none⟩ = some (.int .i64 c.C) ∧ w2.drew.cell? ⟨p, 5, none⟩ = some (.int .i64 c.H) ∧ w2.drew.cell? ⟨p, 6, none⟩ = some (.int .i64 c.G) ∧ w2.drew.cell? ⟨p, 7, none⟩ = some (.int .i64 c.K) ∧ w2.drew.cell? ⟨p, 8, none⟩ = some (.int .i64 1) ∧ w2.drew.cell? ⟨p, 9, none⟩ = some (.int .u64 x) ∧ w2.drew.cell? ⟨p, 10, none⟩ = some (.int .i64 nx) := hX0
  clear hX0
  go_region_held3 (fun w' => w'.cell? ⟨p, 0, none⟩ = some (.int .i64 sl) ∧ w'.cell? ⟨p, 1, none⟩ = some (.bool em) ∧ w'.cell? ⟨p, 2, none⟩ = some (.int .i64 c.S) ∧ w'.cell? ⟨p, 3, none⟩ = some (.int .i64 c.A) ∧ w'.cell? ⟨p, 4, none⟩ = some (.int .i64 c.C) ∧ w'.cell? ⟨p, 5, none⟩ = some (.int .i64 c.H) ∧ w'.cell? ⟨p, 6, none⟩ = some (.int .i64 c.G) ∧ w'.cell? ⟨p, 7, none⟩ = some (.int .i64 c.K) ∧ w'.cell? ⟨p, 8, none⟩ = some (.int .i64 1) ∧ w'.cell? ⟨p, 9, none⟩ = some (.int .u64 x) ∧ w'.cell? ⟨p, 10, none⟩ = some (.int .i64 nx)) (assumption) (first
    | (go_at_call 75; refine (firstC c _ x x0 x1).mono ?_; rintro e w3 ⟨rfl, hb⟩; replace hp := Lib.hid (hp.out.below hb hp.out.lt); replace hM := Lib.hid (hM.out.next hb); replace hF := Lib.hid (hF.out.trans (fr_below hb)); have hY := pop_cells hp.out; clear hb; have z1 := hp.out.frozen 1; have z8 := hp.out.frozen 8))
  obtain ⟨l0, l1, l2, l3, l4, l5, l6, l7, l8, l9, l10⟩ := hY
  go_wp2
  go_ret
  exact ⟨rfl, hp.out, hM.out, hF.out⟩
set_option maxHeartbeats 4000000 in
set_option maxRecDepth 100000 in
theorem pop_1 (t0 : 0 ≤ tp) (t1 : tp < 18446744073709551616) (hp : Blk w p 66 (popA c sl em 1 tp nx)) : Calls Try.prog 45 #[.pointer (some ⟨p, 0, none⟩), .pointer (some ⟨m, 0, none⟩)] w fun e w' =>
    e = .returned (.bool false) ∧ Blk w' p 66 (popA c sl em 2 tp ((linkedI c.S (M.ldV (c.link (firstI c.S tp)))))) ∧ MemB w' m b (M.ldS (c.link (firstI c.S tp))) ∧ Fr (three p m b) w w' := by
  obtain ⟨x0, x1⟩ := ldV_bd ok (c.link (firstI c.S tp))
  have hF := Lib.hid (Fr.refl (three p m b) w)
  obtain ⟨k0, k1, k2, k3, k4, k5, k6, k7, k8, k9, k10⟩ := pop_cells hp
  replace hp := Lib.hid hp
  replace hM := Lib.hid hM
  go_enter Try.func45, Try.ntmps45
  go_wp2
  clear k0 k1 k2 k3 k4 k5 k6 k7 k8 k9 k10
  replace hp := Lib.hid hp.out.drew
  replace hM := Lib.hid hM.out.drew
  replace hF := Lib.hid (hF.out.trans (Fr.drew _ w))
  have hX0 := pop_cells hp.out
  have hX : w.drew.cell? ⟨p, 0, none⟩ = some (.int .i64 sl) ∧ w.drew.cell? ⟨p, 1, none⟩ = some (.bool em) ∧ w.drew.cell? ⟨p, 2, none⟩ = some (.int .i64 c.S) ∧ w.drew.cell? ⟨p, 3, none⟩ = some (.int .i64 c.A) ∧ w.drew.cell? ⟨p, 4, none⟩ = some (.int .i64 c.C) ∧ w.drew.cell? ⟨p, 5, none⟩ = some (.int .i64 c.H) ∧ w.drew.cell? ⟨p, 6, none⟩ = some (.int .i64 c.G) ∧ w.drew.cell? ⟨p, 7, none⟩ = some (.int .i64 c.K) ∧ w.drew.cell? ⟨p, 8, none⟩ = some (.int .i64 1) ∧ w.drew.cell? ⟨p, 9, none⟩ = some (.int .u64 tp) := by
    obtain ⟨x0, x1, x2, x3, x4, x5, x6, x7, x8, x9, x10⟩ := hX0
    exact ⟨x0, x1, x2, x3, x4, x5, x6, x7, x8, x9⟩
  clear hX0
  go_region_held3 (fun w' => w'.cell? ⟨p, 0, none⟩ = some (.int .i64 sl) ∧ w'.cell? ⟨p, 1, none⟩ = some (.bool em) ∧ w'.cell? ⟨p, 2, none⟩ = some (.int .i64 c.S) ∧ w'.cell? ⟨p, 3, none⟩ = some (.int .i64 c.A) ∧ w'.cell? ⟨p, 4, none⟩ = some (.int .i64 c.C) ∧ w'.cell? ⟨p, 5, none⟩ = some (.int .i64 c.H) ∧ w'.cell? ⟨p, 6, none⟩ = some (.int .i64 c.G) ∧ w'.cell? ⟨p, 7, none⟩ = some (.int .i64 c.K) ∧ w'.cell? ⟨p, 8, none⟩ = some (.int .i64 1) ∧ w'.cell? ⟨p, 9, none⟩ = some (.int .u64 tp)) (first | assumption | (refine pop_k10 ?_; assumption)) (first
    | (go_at_call 75; refine (firstC c _ tp t0 t1).mono ?_; rintro e w3 ⟨rfl, hb⟩; replace hp := Lib.hid (hp.out.below hb hp.out.lt); replace hM := Lib.hid (hM.out.next hb); replace hF := Lib.hid (hF.out.trans (fr_below hb)); clear hb; have hY_w3 : w3.cell? ⟨p, 0, none⟩ = some (.int .i64 sl) ∧ w3.cell? ⟨p, 1, none⟩ = some (.bool em) ∧ w3.cell? ⟨p, 2, none⟩ = some (.int .i64 c.S) ∧ w3.cell? ⟨p, 3, none⟩ = some (.int .i64 c.A) ∧ w3.cell? ⟨p, 4, none⟩ = some (.int .i64 c.C) ∧ w3.cell? ⟨p, 5, none⟩ = some (.int .i64 c.H) ∧ w3.cell? ⟨p, 6, none⟩ = some (.int .i64 c.G) ∧ w3.cell? ⟨p, 7, none⟩ = some (.int .i64 c.K) ∧ w3.cell? ⟨p, 8, none⟩ = some (.int .i64 1) ∧ w3.cell? ⟨p, 9, none⟩ = some (.int .u64 tp) := (by obtain ⟨y0, y1, y2, y3, y4, y5, y6, y7, y8, y9, y10⟩ := pop_cells hp.out; exact ⟨y0, y1, y2, y3, y4, y5, y6, y7, y8, y9⟩))
    | (go_at_call 69; refine (linkC c _ (firstI c.S tp)).mono ?_; rintro e w4 ⟨rfl, hb⟩; replace hp := Lib.hid (hp.out.below hb hp.out.lt); replace hM := Lib.hid (hM.out.next hb); replace hF := Lib.hid (hF.out.trans (fr_below hb)); clear hb; have hY_w4 : w4.cell? ⟨p, 0, none⟩ = some (.int .i64 sl) ∧ w4.cell? ⟨p, 1, none⟩ = some (.bool em) ∧ w4.cell? ⟨p, 2, none⟩ = some (.int .i64 c.S) ∧ w4.cell? ⟨p, 3, none⟩ = some (.int .i64 c.A) ∧ w4.cell? ⟨p, 4, none⟩ = some (.int .i64 c.C) ∧ w4.cell? ⟨p, 5, none⟩ = some (.int .i64 c.H) ∧ w4.cell? ⟨p, 6, none⟩ = some (.int .i64 c.G) ∧ w4.cell? ⟨p, 7, none⟩ = some (.int .i64 c.K) ∧ w4.cell? ⟨p, 8, none⟩ = some (.int .i64 1) ∧ w4.cell? ⟨p, 9, none⟩ = some (.int .u64 tp) := (by obtain ⟨y0, y1, y2, y3, y4, y5, y6, y7, y8, y9, y10⟩ := pop_cells hp.out; exact ⟨y0, y1, y2, y3, y4, y5, y6, y7, y8, y9⟩))
    | (go_at_call 35; refine (load_c _ m b M (c.link (firstI c.S tp)) hM.out ok).mono ?_; rintro e w5 ⟨rfl, hM', hF'⟩; replace hp := Lib.hid (hp.out.fr hF' np); replace hM := Lib.hid hM'; replace hF := Lib.hid (hF.out.trans (two_three hF')); clear hM' hF'; have hY_w5 : w5.cell? ⟨p, 0, none⟩ = some (.int .i64 sl) ∧ w5.cell? ⟨p, 1, none⟩ = some (.bool em) ∧ w5.cell? ⟨p, 2, none⟩ = some (.int .i64 c.S) ∧ w5.cell? ⟨p, 3, none⟩ = some (.int .i64 c.A) ∧ w5.cell? ⟨p, 4, none⟩ = some (.int .i64 c.C) ∧ w5.cell? ⟨p, 5, none⟩ = some (.int .i64 c.H) ∧ w5.cell? ⟨p, 6, none⟩ = some (.int .i64 c.G) ∧ w5.cell? ⟨p, 7, none⟩ = some (.int .i64 c.K) ∧ w5.cell? ⟨p, 8, none⟩ = some (.int .i64 1) ∧ w5.cell? ⟨p, 9, none⟩ = some (.int .u64 tp) := (by obtain ⟨y0, y1, y2, y3, y4, y5, y6, y7, y8, y9, y10⟩ := pop_cells hp.out; exact ⟨y0, y1, y2, y3, y4, y5, y6, y7, y8, y9⟩))
    | (go_at_call 76; refine (linkedC c _ hc _ x0 x1).mono ?_; rintro e w6 ⟨rfl, hb⟩; replace hp := Lib.hid (hp.out.below hb hp.out.lt); replace hM := Lib.hid (hM.out.next hb); replace hF := Lib.hid (hF.out.trans (fr_below hb)); clear hb; have z8 := hp.out.frozen 8; have z10 := hp.out.frozen 10; have hY_w6 : w6.cell? ⟨p, 0, none⟩ = some (.int .i64 sl) ∧ w6.cell? ⟨p, 1, none⟩ = some (.bool em) ∧ w6.cell? ⟨p, 2, none⟩ = some (.int .i64 c.S) ∧ w6.cell? ⟨p, 3, none⟩ = some (.int .i64 c.A) ∧ w6.cell? ⟨p, 4, none⟩ = some (.int .i64 c.C) ∧ w6.cell? ⟨p, 5, none⟩ = some (.int .i64 c.H) ∧ w6.cell? ⟨p, 6, none⟩ = some (.int .i64 c.G) ∧ w6.cell? ⟨p, 7, none⟩ = some (.int .i64 c.K) ∧ w6.cell? ⟨p, 8, none⟩ = some (.int .i64 1) ∧ w6.cell? ⟨p, 9, none⟩ = some (.int .u64 tp) := (by obtain ⟨y0, y1, y2, y3, y4, y5, y6, y7, y8, y9, y10⟩ := pop_cells hp.out; exact ⟨y0, y1, y2, y3, y4, y5, y6, y7, y8, y9⟩); have l10 := hp.out.cell (i := 10) (v := .int .i64 nx) rfl))
  go_wp2
  go_ret
  exact ⟨rfl, (hp.out.set 10 _).set 8 _, (hM.out.set np 10 _).set np 8 _, (hF.out.trans (fr_p _ 10 _)).trans (fr_p _ 8 _)⟩
set_option maxHeartbeats 4000000 in
set_option maxRecDepth 100000 in
theorem pop_2a (t0 : 0 ≤ tp) (t1 : tp < 18446744073709551616) (hs : M.swV 3 tp = true) (hp : Blk w p 66 (popA c sl em 2 tp nx)) : Calls Try.prog 45 #[.pointer (some ⟨p, 0, none⟩), .pointer (some ⟨m, 0, none⟩)] w fun e w' =>
    e = .returned (.bool true) ∧ Blk w' p 66 (popA c ((firstI c.S tp)) em 3 tp nx) ∧ MemB w' m b (M.swS 3 tp (movedV tp nx)) ∧ Fr (three p m b) w w' := by
  obtain ⟨n0, n1⟩ := movedV_bd tp nx t0
  have z8 := hp.frozen 8
  have hF := Lib.hid (Fr.refl (three p m b) w)
  obtain ⟨k0, k1, k2, k3, k4, k5, k6, k7, k8, k9, k10⟩ := pop_cells hp
  replace hs := Lib.hid hs
  replace hp := Lib.hid hp
  replace hM := Lib.hid hM
  go_enter Try.func45, Try.ntmps45
  go_wp2
  have hp' : Blk (w.setCell ⟨p, 8, none⟩ (.int .i64 0)) p 66 (popA c sl em 0 tp nx) := (hp.out.set 8 _)
  have hM' := (hM.out.set np 8 (.int .i64 0))
  have hF' := (hF.out.trans (fr_p w 8 (.int .i64 0)))
  clear hp hM hF k0 k1 k2 k3 k4 k5 k6 k7 k8 k9 k10 z8
  generalize w.setCell ⟨p, 8, none⟩ (.int .i64 0) = w2 at *
  have hp := Lib.hid hp'
  have hM := Lib.hid hM'
  have hF := Lib.hid hF'
  clear hp' hM' hF'
  replace hp := Lib.hid hp.out.drew
  replace hM := Lib.hid hM.out.drew
  replace hF := Lib.hid (hF.out.trans (Fr.drew _ w2))
  have hX0 := pop_cells hp.out
  have hX : w2.drew.cell? ⟨p, 0, none⟩ = some (.int .i64 sl) ∧ w2.drew.cell? ⟨p, 1, none⟩ = some (.bool em) ∧ w2.drew.cell? ⟨p, 2, none⟩ = some (.int .i64 c.S) ∧ w2.drew.cell? ⟨p, 3, none⟩ = some (.int .i64 c.A) ∧ w2.drew.cell? ⟨p, 4, none⟩ = some (.int .i64 c.C) ∧ w2.drew.cell? ⟨p, 5, none⟩ = some (.int .i64 c.H) ∧ w2.drew.cell? ⟨p, 6, none⟩ = some (.int .i64 c.G) ∧ w2.drew.cell? ⟨p, 7, none⟩ = some (.int .i64 c.K) ∧ w2.drew.cell? ⟨p, 8, none⟩ = some (.int .i64 0) ∧ w2.drew.cell? ⟨p, 9, none⟩ = some (.int .u64 tp) ∧ w2.drew.cell? ⟨p, 10, none⟩ = some (.int .i64 nx) := hX0
  clear hX0
  go_region_held3 (fun w' => w'.cell? ⟨p, 0, none⟩ = some (.int .i64 sl) ∧ w'.cell? ⟨p, 1, none⟩ = some (.bool em) ∧ w'.cell? ⟨p, 2, none⟩ = some (.int .i64 c.S) ∧ w'.cell? ⟨p, 3, none⟩ = some (.int .i64 c.A) ∧ w'.cell? ⟨p, 4, none⟩ = some (.int .i64 c.C) ∧ w'.cell? ⟨p, 5, none⟩ = some (.int .i64 c.H) ∧ w'.cell? ⟨p, 6, none⟩ = some (.int .i64 c.G) ∧ w'.cell? ⟨p, 7, none⟩ = some (.int .i64 c.K) ∧ w'.cell? ⟨p, 8, none⟩ = some (.int .i64 0) ∧ w'.cell? ⟨p, 9, none⟩ = some (.int .u64 tp) ∧ w'.cell? ⟨p, 10, none⟩ = some (.int .i64 nx)) (assumption) (first
    | (go_at_call 83; refine (movedC _ tp nx t0 t1).mono ?_; rintro e w3 ⟨rfl, hb⟩; replace hp := Lib.hid (hp.out.below hb hp.out.lt); replace hM := Lib.hid (hM.out.next hb); replace hF := Lib.hid (hF.out.trans (fr_below hb)); clear hb; have hY_w3 : w3.cell? ⟨p, 0, none⟩ = some (.int .i64 sl) ∧ w3.cell? ⟨p, 1, none⟩ = some (.bool em) ∧ w3.cell? ⟨p, 2, none⟩ = some (.int .i64 c.S) ∧ w3.cell? ⟨p, 3, none⟩ = some (.int .i64 c.A) ∧ w3.cell? ⟨p, 4, none⟩ = some (.int .i64 c.C) ∧ w3.cell? ⟨p, 5, none⟩ = some (.int .i64 c.H) ∧ w3.cell? ⟨p, 6, none⟩ = some (.int .i64 c.G) ∧ w3.cell? ⟨p, 7, none⟩ = some (.int .i64 c.K) ∧ w3.cell? ⟨p, 8, none⟩ = some (.int .i64 0) ∧ w3.cell? ⟨p, 9, none⟩ = some (.int .u64 tp) ∧ w3.cell? ⟨p, 10, none⟩ = some (.int .i64 nx) := (by obtain ⟨y0, y1, y2, y3, y4, y5, y6, y7, y8, y9, y10⟩ := pop_cells hp.out; exact ⟨y0, y1, y2, y3, y4, y5, y6, y7, y8, y9, y10⟩))
    | (go_at_call 82; refine (swap_c _ m b M 3 hM.out ok tp (movedV tp nx)).mono ?_; rintro e w4 ⟨rfl, hM', hF'⟩; rw [hs.out]; replace hp := Lib.hid (hp.out.fr hF' np); replace hM := Lib.hid hM'; replace hF := Lib.hid (hF.out.trans (two_three hF')); clear hM' hF'; have z8 := hp.out.frozen 8; have z0 := hp.out.frozen 0; have hY_w4 : w4.cell? ⟨p, 0, none⟩ = some (.int .i64 sl) ∧ w4.cell? ⟨p, 1, none⟩ = some (.bool em) ∧ w4.cell? ⟨p, 2, none⟩ = some (.int .i64 c.S) ∧ w4.cell? ⟨p, 3, none⟩ = some (.int .i64 c.A) ∧ w4.cell? ⟨p, 4, none⟩ = some (.int .i64 c.C) ∧ w4.cell? ⟨p, 5, none⟩ = some (.int .i64 c.H) ∧ w4.cell? ⟨p, 6, none⟩ = some (.int .i64 c.G) ∧ w4.cell? ⟨p, 7, none⟩ = some (.int .i64 c.K) ∧ w4.cell? ⟨p, 8, none⟩ = some (.int .i64 0) ∧ w4.cell? ⟨p, 9, none⟩ = some (.int .u64 tp) ∧ w4.cell? ⟨p, 10, none⟩ = some (.int .i64 nx) := (by obtain ⟨y0, y1, y2, y3, y4, y5, y6, y7, y8, y9, y10⟩ := pop_cells hp.out; exact ⟨y0, y1, y2, y3, y4, y5, y6, y7, y8, y9, y10⟩)))
  go_wp2
  clear hX hY_w3 hY_w4 z8 z0
  replace hp := Lib.hid hp.out.drew
  replace hM := Lib.hid hM.out.drew
  replace hF := Lib.hid (hF.out.trans (Fr.drew _ w4))
  have hX0 := pop_cells hp.out
  have hX : w4.drew.cell? ⟨p, 1, none⟩ = some (.bool em) ∧ w4.drew.cell? ⟨p, 2, none⟩ = some (.int .i64 c.S) ∧ w4.drew.cell? ⟨p, 3, none⟩ = some (.int .i64 c.A) ∧ w4.drew.cell? ⟨p, 4, none⟩ = some (.int .i64 c.C) ∧ w4.drew.cell? ⟨p, 5, none⟩ = some (.int .i64 c.H) ∧ w4.drew.cell? ⟨p, 6, none⟩ = some (.int .i64 c.G) ∧ w4.drew.cell? ⟨p, 7, none⟩ = some (.int .i64 c.K) ∧ w4.drew.cell? ⟨p, 9, none⟩ = some (.int .u64 tp) ∧ w4.drew.cell? ⟨p, 10, none⟩ = some (.int .i64 nx) := by
    obtain ⟨x0, x1, x2, x3, x4, x5, x6, x7, x8, x9, x10⟩ := hX0
    exact ⟨x1, x2, x3, x4, x5, x6, x7, x9, x10⟩
  clear hX0
  go_region_held3 (fun w' => w'.cell? ⟨p, 1, none⟩ = some (.bool em) ∧ w'.cell? ⟨p, 2, none⟩ = some (.int .i64 c.S) ∧ w'.cell? ⟨p, 3, none⟩ = some (.int .i64 c.A) ∧ w'.cell? ⟨p, 4, none⟩ = some (.int .i64 c.C) ∧ w'.cell? ⟨p, 5, none⟩ = some (.int .i64 c.H) ∧ w'.cell? ⟨p, 6, none⟩ = some (.int .i64 c.G) ∧ w'.cell? ⟨p, 7, none⟩ = some (.int .i64 c.K) ∧ w'.cell? ⟨p, 9, none⟩ = some (.int .u64 tp) ∧ w'.cell? ⟨p, 10, none⟩ = some (.int .i64 nx)) (first | assumption | (refine pop_k0 ?_; assumption) | (refine pop_k8 ?_; assumption)) (first
    | (go_at_call 75; refine (firstC c _ tp t0 t1).mono ?_; rintro e w5 ⟨rfl, hb⟩; replace hp := Lib.hid (hp.out.below hb hp.out.lt); replace hM := Lib.hid (hM.out.next hb); replace hF := Lib.hid (hF.out.trans (fr_below hb)); clear hb; have z0 := hp.out.frozen 0; have z8 := hp.out.frozen 8; have hY_w5 : w5.cell? ⟨p, 1, none⟩ = some (.bool em) ∧ w5.cell? ⟨p, 2, none⟩ = some (.int .i64 c.S) ∧ w5.cell? ⟨p, 3, none⟩ = some (.int .i64 c.A) ∧ w5.cell? ⟨p, 4, none⟩ = some (.int .i64 c.C) ∧ w5.cell? ⟨p, 5, none⟩ = some (.int .i64 c.H) ∧ w5.cell? ⟨p, 6, none⟩ = some (.int .i64 c.G) ∧ w5.cell? ⟨p, 7, none⟩ = some (.int .i64 c.K) ∧ w5.cell? ⟨p, 9, none⟩ = some (.int .u64 tp) ∧ w5.cell? ⟨p, 10, none⟩ = some (.int .i64 nx) := (by obtain ⟨y0, y1, y2, y3, y4, y5, y6, y7, y8, y9, y10⟩ := pop_cells hp.out; exact ⟨y1, y2, y3, y4, y5, y6, y7, y9, y10⟩); have l0 := hp.out.cell (i := 0) (v := .int .i64 sl) rfl; have l8 := hp.out.cell (i := 8) (v := .int .i64 0) rfl))
  all_goals
    go_wp2
    go_ret
    exact ⟨rfl, (hp.out.set 0 _).set 8 _, (hM.out.set np 0 _).set np 8 _, (hF.out.trans (fr_p _ 0 _)).trans (fr_p _ 8 _)⟩
set_option maxHeartbeats 4000000 in
set_option maxRecDepth 100000 in
theorem pop_2b (t0 : 0 ≤ tp) (t1 : tp < 18446744073709551616) (hs : M.swV 3 tp = false) (hp : Blk w p 66 (popA c sl em 2 tp nx)) : Calls Try.prog 45 #[.pointer (some ⟨p, 0, none⟩), .pointer (some ⟨m, 0, none⟩)] w fun e w' =>
    e = .returned (.bool false) ∧ Blk w' p 66 (popA c sl em 0 tp nx) ∧ MemB w' m b (M.swS 3 tp (movedV tp nx)) ∧ Fr (three p m b) w w' := by
  obtain ⟨n0, n1⟩ := movedV_bd tp nx t0
  have z8 := hp.frozen 8
  have hF := Lib.hid (Fr.refl (three p m b) w)
  obtain ⟨k0, k1, k2, k3, k4, k5, k6, k7, k8, k9, k10⟩ := pop_cells hp
  replace hs := Lib.hid hs
  replace hp := Lib.hid hp
  replace hM := Lib.hid hM
  go_enter Try.func45, Try.ntmps45
  go_wp2
  have hp' : Blk (w.setCell ⟨p, 8, none⟩ (.int .i64 0)) p 66 (popA c sl em 0 tp nx) := (hp.out.set 8 _)
  have hM' := (hM.out.set np 8 (.int .i64 0))
  have hF' := (hF.out.trans (fr_p w 8 (.int .i64 0)))
  clear hp hM hF k0 k1 k2 k3 k4 k5 k6 k7 k8 k9 k10 z8
  generalize w.setCell ⟨p, 8, none⟩ (.int .i64 0) = w2 at *
  have hp := Lib.hid hp'
  have hM := Lib.hid hM'
  have hF := Lib.hid hF'
  clear hp' hM' hF'
  replace hp := Lib.hid hp.out.drew
  replace hM := Lib.hid hM.out.drew
  replace hF := Lib.hid (hF.out.trans (Fr.drew _ w2))
  have hX0 := pop_cells hp.out
  have hX : w2.drew.cell? ⟨p, 0, none⟩ = some (.int .i64 sl) ∧ w2.drew.cell? ⟨p, 1, none⟩ = some (.bool em) ∧ w2.drew.cell? ⟨p, 2, none⟩ = some (.int .i64 c.S) ∧ w2.drew.cell? ⟨p, 3, none⟩ = some (.int .i64 c.A) ∧ w2.drew.cell? ⟨p, 4, none⟩ = some (.int .i64 c.C) ∧ w2.drew.cell? ⟨p, 5, none⟩ = some (.int .i64 c.H) ∧ w2.drew.cell? ⟨p, 6, none⟩ = some (.int .i64 c.G) ∧ w2.drew.cell? ⟨p, 7, none⟩ = some (.int .i64 c.K) ∧ w2.drew.cell? ⟨p, 8, none⟩ = some (.int .i64 0) ∧ w2.drew.cell? ⟨p, 9, none⟩ = some (.int .u64 tp) ∧ w2.drew.cell? ⟨p, 10, none⟩ = some (.int .i64 nx) := hX0
  clear hX0
  go_region_held3 (fun w' => w'.cell? ⟨p, 0, none⟩ = some (.int .i64 sl) ∧ w'.cell? ⟨p, 1, none⟩ = some (.bool em) ∧ w'.cell? ⟨p, 2, none⟩ = some (.int .i64 c.S) ∧ w'.cell? ⟨p, 3, none⟩ = some (.int .i64 c.A) ∧ w'.cell? ⟨p, 4, none⟩ = some (.int .i64 c.C) ∧ w'.cell? ⟨p, 5, none⟩ = some (.int .i64 c.H) ∧ w'.cell? ⟨p, 6, none⟩ = some (.int .i64 c.G) ∧ w'.cell? ⟨p, 7, none⟩ = some (.int .i64 c.K) ∧ w'.cell? ⟨p, 8, none⟩ = some (.int .i64 0) ∧ w'.cell? ⟨p, 9, none⟩ = some (.int .u64 tp) ∧ w'.cell? ⟨p, 10, none⟩ = some (.int .i64 nx)) (assumption) (first
    | (go_at_call 83; refine (movedC _ tp nx t0 t1).mono ?_; rintro e w3 ⟨rfl, hb⟩; replace hp := Lib.hid (hp.out.below hb hp.out.lt); replace hM := Lib.hid (hM.out.next hb); replace hF := Lib.hid (hF.out.trans (fr_below hb)); clear hb; have hY_w3 : w3.cell? ⟨p, 0, none⟩ = some (.int .i64 sl) ∧ w3.cell? ⟨p, 1, none⟩ = some (.bool em) ∧ w3.cell? ⟨p, 2, none⟩ = some (.int .i64 c.S) ∧ w3.cell? ⟨p, 3, none⟩ = some (.int .i64 c.A) ∧ w3.cell? ⟨p, 4, none⟩ = some (.int .i64 c.C) ∧ w3.cell? ⟨p, 5, none⟩ = some (.int .i64 c.H) ∧ w3.cell? ⟨p, 6, none⟩ = some (.int .i64 c.G) ∧ w3.cell? ⟨p, 7, none⟩ = some (.int .i64 c.K) ∧ w3.cell? ⟨p, 8, none⟩ = some (.int .i64 0) ∧ w3.cell? ⟨p, 9, none⟩ = some (.int .u64 tp) ∧ w3.cell? ⟨p, 10, none⟩ = some (.int .i64 nx) := (by obtain ⟨y0, y1, y2, y3, y4, y5, y6, y7, y8, y9, y10⟩ := pop_cells hp.out; exact ⟨y0, y1, y2, y3, y4, y5, y6, y7, y8, y9, y10⟩))
    | (go_at_call 82; refine (swap_c _ m b M 3 hM.out ok tp (movedV tp nx)).mono ?_; rintro e w4 ⟨rfl, hM', hF'⟩; rw [hs.out]; replace hp := Lib.hid (hp.out.fr hF' np); replace hM := Lib.hid hM'; replace hF := Lib.hid (hF.out.trans (two_three hF')); clear hM' hF'; have z8 := hp.out.frozen 8; have z0 := hp.out.frozen 0; have hY_w4 : w4.cell? ⟨p, 0, none⟩ = some (.int .i64 sl) ∧ w4.cell? ⟨p, 1, none⟩ = some (.bool em) ∧ w4.cell? ⟨p, 2, none⟩ = some (.int .i64 c.S) ∧ w4.cell? ⟨p, 3, none⟩ = some (.int .i64 c.A) ∧ w4.cell? ⟨p, 4, none⟩ = some (.int .i64 c.C) ∧ w4.cell? ⟨p, 5, none⟩ = some (.int .i64 c.H) ∧ w4.cell? ⟨p, 6, none⟩ = some (.int .i64 c.G) ∧ w4.cell? ⟨p, 7, none⟩ = some (.int .i64 c.K) ∧ w4.cell? ⟨p, 8, none⟩ = some (.int .i64 0) ∧ w4.cell? ⟨p, 9, none⟩ = some (.int .u64 tp) ∧ w4.cell? ⟨p, 10, none⟩ = some (.int .i64 nx) := (by obtain ⟨y0, y1, y2, y3, y4, y5, y6, y7, y8, y9, y10⟩ := pop_cells hp.out; exact ⟨y0, y1, y2, y3, y4, y5, y6, y7, y8, y9, y10⟩)))
  obtain ⟨l0, l1, l2, l3, l4, l5, l6, l7, l8, l9, l10⟩ := hY_w4
  go_wp2
  go_ret
  exact ⟨rfl, hp.out, hM.out, hF.out⟩
set_option maxHeartbeats 4000000 in
set_option maxRecDepth 100000 in
theorem pop_3 (hp : Blk w p 66 (popA c sl em 3 tp nx)) : Calls Try.prog 45 #[.pointer (some ⟨p, 0, none⟩), .pointer (some ⟨m, 0, none⟩)] w fun e w' =>
    e = .returned (.bool true) ∧ Blk w' p 66 (popA c sl em 3 tp nx) ∧ MemB w' m b (M) ∧ Fr (three p m b) w w' := by
  have hF := Lib.hid (Fr.refl (three p m b) w)
  obtain ⟨k0, k1, k2, k3, k4, k5, k6, k7, k8, k9, k10⟩ := pop_cells hp
  replace hp := Lib.hid hp
  replace hM := Lib.hid hM
  go_enter Try.func45, Try.ntmps45
  go_wp2
  go_ret
  exact ⟨rfl, hp.out, hM.out, hF.out⟩
set_option maxHeartbeats 4000000 in
set_option maxRecDepth 100000 in
theorem push_0 (hp : Blk w p 137 (pushA c sl 0 tp)) : Calls Try.prog 47 #[.pointer (some ⟨p, 0, none⟩), .pointer (some ⟨m, 0, none⟩)] w fun e w' =>
    e = .returned (.bool false) ∧ Blk w' p 137 (pushA c sl 1 ((M.ldV 3))) ∧ MemB w' m b (M.ldS 3) ∧ Fr (three p m b) w w' := by
  have hF := Lib.hid (Fr.refl (three p m b) w)
  obtain ⟨k0, k1, k2, k3, k4, k5, k6, k7, k8⟩ := push_cells hp
  obtain ⟨x0, x1⟩ := ldV_bd ok 3
  have hl := load_c w m b M 3 hM ok
  generalize M.ldV 3 = x at *
  replace hp := Lib.hid hp
  replace hM := Lib.hid hM
  go_enter Try.func47, Try.ntmps47
  go_wp2_with (go_at_call 35; refine (hl).mono ?_; rintro e w1 ⟨rfl, hM', hF'⟩; replace hp := Lib.hid (hp.out.fr hF' np); replace hM := Lib.hid hM'; replace hF := Lib.hid (hF.out.trans (two_three hF')); clear hM' hF'; obtain ⟨l0, l1, l2, l3, l4, l5, l6, l7, l8⟩ := push_cells hp.out; have z7 := hp.out.frozen 7; have z8 := hp.out.frozen 8)
  go_ret
  exact ⟨rfl, (hp.out.set 8 _).set 7 _, (hM.out.set np 8 _).set np 7 _, (hF.out.trans (fr_p _ 8 _)).trans (fr_p _ 7 _)⟩
set_option maxHeartbeats 4000000 in
set_option maxRecDepth 100000 in
theorem push_1 (t0 : 0 ≤ tp) (t1 : tp < 18446744073709551616) (hp : Blk w p 137 (pushA c sl 1 tp)) : Calls Try.prog 47 #[.pointer (some ⟨p, 0, none⟩), .pointer (some ⟨m, 0, none⟩)] w fun e w' =>
    e = .returned (.bool false) ∧ Blk w' p 137 (pushA c sl 2 tp) ∧ MemB w' m b (M.stS (c.link sl) (firstI c.S tp + 1)) ∧ Fr (three p m b) w w' := by
  have e0 := firstI_bd c.S tp
  have e3 : firstI c.S tp < 65536 := by unfold firstI; split <;> omega
  have e1 : IntKind.i64.wrap (firstI c.S tp + 1) = firstI c.S tp + 1 := IntWalk.i64_in _ (by omega)
  have e2 : IntKind.u64.wrap (firstI c.S tp + 1) = firstI c.S tp + 1 := wrap_u64_id _ (by omega) (by omega)
  clear e0 e3
  have hF := Lib.hid (Fr.refl (three p m b) w)
  obtain ⟨k0, k1, k2, k3, k4, k5, k6, k7, k8⟩ := push_cells hp
  replace hp := Lib.hid hp
  replace hM := Lib.hid hM
  go_enter Try.func47, Try.ntmps47
  go_wp2
  clear k0 k1 k2 k3 k4 k5 k6 k7 k8
  replace hp := Lib.hid hp.out.drew
  replace hM := Lib.hid hM.out.drew
  replace hF := Lib.hid (hF.out.trans (Fr.drew _ w))
  have hX0 := push_cells hp.out
  have hX : w.drew.cell? ⟨p, 0, none⟩ = some (.int .i64 c.S) ∧ w.drew.cell? ⟨p, 1, none⟩ = some (.int .i64 c.A) ∧ w.drew.cell? ⟨p, 2, none⟩ = some (.int .i64 c.C) ∧ w.drew.cell? ⟨p, 3, none⟩ = some (.int .i64 c.H) ∧ w.drew.cell? ⟨p, 4, none⟩ = some (.int .i64 c.G) ∧ w.drew.cell? ⟨p, 5, none⟩ = some (.int .i64 c.K) ∧ w.drew.cell? ⟨p, 6, none⟩ = some (.int .i64 sl) ∧ w.drew.cell? ⟨p, 7, none⟩ = some (.int .i64 1) ∧ w.drew.cell? ⟨p, 8, none⟩ = some (.int .u64 tp) := hX0
  clear hX0
  go_region_held3 (fun w' => w'.cell? ⟨p, 0, none⟩ = some (.int .i64 c.S) ∧ w'.cell? ⟨p, 1, none⟩ = some (.int .i64 c.A) ∧ w'.cell? ⟨p, 2, none⟩ = some (.int .i64 c.C) ∧ w'.cell? ⟨p, 3, none⟩ = some (.int .i64 c.H) ∧ w'.cell? ⟨p, 4, none⟩ = some (.int .i64 c.G) ∧ w'.cell? ⟨p, 5, none⟩ = some (.int .i64 c.K) ∧ w'.cell? ⟨p, 6, none⟩ = some (.int .i64 sl) ∧ w'.cell? ⟨p, 7, none⟩ = some (.int .i64 1) ∧ w'.cell? ⟨p, 8, none⟩ = some (.int .u64 tp)) (assumption) (first
    | (go_at_call 75; refine (firstC c _ tp t0 t1).mono ?_; rintro e w3 ⟨rfl, hb⟩; replace hp := Lib.hid (hp.out.below hb hp.out.lt); replace hM := Lib.hid (hM.out.next hb); replace hF := Lib.hid (hF.out.trans (fr_below hb)); clear hb; have hY_w3 : w3.cell? ⟨p, 0, none⟩ = some (.int .i64 c.S) ∧ w3.cell? ⟨p, 1, none⟩ = some (.int .i64 c.A) ∧ w3.cell? ⟨p, 2, none⟩ = some (.int .i64 c.C) ∧ w3.cell? ⟨p, 3, none⟩ = some (.int .i64 c.H) ∧ w3.cell? ⟨p, 4, none⟩ = some (.int .i64 c.G) ∧ w3.cell? ⟨p, 5, none⟩ = some (.int .i64 c.K) ∧ w3.cell? ⟨p, 6, none⟩ = some (.int .i64 sl) ∧ w3.cell? ⟨p, 7, none⟩ = some (.int .i64 1) ∧ w3.cell? ⟨p, 8, none⟩ = some (.int .u64 tp) := (by obtain ⟨y0, y1, y2, y3, y4, y5, y6, y7, y8⟩ := push_cells hp.out; exact ⟨y0, y1, y2, y3, y4, y5, y6, y7, y8⟩))
    | (go_at_call 69; refine (linkC c _ sl).mono ?_; rintro e w4 ⟨rfl, hb⟩; replace hp := Lib.hid (hp.out.below hb hp.out.lt); replace hM := Lib.hid (hM.out.next hb); replace hF := Lib.hid (hF.out.trans (fr_below hb)); clear hb; have hY_w4 : w4.cell? ⟨p, 0, none⟩ = some (.int .i64 c.S) ∧ w4.cell? ⟨p, 1, none⟩ = some (.int .i64 c.A) ∧ w4.cell? ⟨p, 2, none⟩ = some (.int .i64 c.C) ∧ w4.cell? ⟨p, 3, none⟩ = some (.int .i64 c.H) ∧ w4.cell? ⟨p, 4, none⟩ = some (.int .i64 c.G) ∧ w4.cell? ⟨p, 5, none⟩ = some (.int .i64 c.K) ∧ w4.cell? ⟨p, 6, none⟩ = some (.int .i64 sl) ∧ w4.cell? ⟨p, 7, none⟩ = some (.int .i64 1) ∧ w4.cell? ⟨p, 8, none⟩ = some (.int .u64 tp) := (by obtain ⟨y0, y1, y2, y3, y4, y5, y6, y7, y8⟩ := push_cells hp.out; exact ⟨y0, y1, y2, y3, y4, y5, y6, y7, y8⟩))
    | (go_at_call 57; refine (store_c _ m b M (c.link sl) hM.out ok (firstI c.S tp + 1)).mono ?_; rintro e w5 ⟨rfl, hM', hF'⟩; replace hp := Lib.hid (hp.out.fr hF' np); replace hM := Lib.hid hM'; replace hF := Lib.hid (hF.out.trans (two_three hF')); clear hM' hF'; have z7 := hp.out.frozen 7; have hY_w5 : w5.cell? ⟨p, 0, none⟩ = some (.int .i64 c.S) ∧ w5.cell? ⟨p, 1, none⟩ = some (.int .i64 c.A) ∧ w5.cell? ⟨p, 2, none⟩ = some (.int .i64 c.C) ∧ w5.cell? ⟨p, 3, none⟩ = some (.int .i64 c.H) ∧ w5.cell? ⟨p, 4, none⟩ = some (.int .i64 c.G) ∧ w5.cell? ⟨p, 5, none⟩ = some (.int .i64 c.K) ∧ w5.cell? ⟨p, 6, none⟩ = some (.int .i64 sl) ∧ w5.cell? ⟨p, 7, none⟩ = some (.int .i64 1) ∧ w5.cell? ⟨p, 8, none⟩ = some (.int .u64 tp) := (by obtain ⟨y0, y1, y2, y3, y4, y5, y6, y7, y8⟩ := push_cells hp.out; exact ⟨y0, y1, y2, y3, y4, y5, y6, y7, y8⟩)))
  all_goals
    obtain ⟨l0, l1, l2, l3, l4, l5, l6, l7, l8⟩ := hY_w5
    go_wp2
    go_ret
    exact ⟨rfl, hp.out.set 7 _, hM.out.set np 7 _, hF.out.trans (fr_p _ 7 _)⟩
set_option maxHeartbeats 4000000 in
set_option maxRecDepth 100000 in
theorem push_2a (t0 : 0 ≤ tp) (t1 : tp < 18446744073709551616) (hs : M.swV 3 tp = true) (hp : Blk w p 137 (pushA c sl 2 tp)) : Calls Try.prog 47 #[.pointer (some ⟨p, 0, none⟩), .pointer (some ⟨m, 0, none⟩)] w fun e w' =>
    e = .returned (.bool true) ∧ Blk w' p 137 (pushA c sl 3 tp) ∧ MemB w' m b (M.swS 3 tp (movedV tp sl)) ∧ Fr (three p m b) w w' := by
  obtain ⟨n0, n1⟩ := movedV_bd tp sl t0
  have z7 := hp.frozen 7
  have hF := Lib.hid (Fr.refl (three p m b) w)
  obtain ⟨k0, k1, k2, k3, k4, k5, k6, k7, k8⟩ := push_cells hp
  replace hs := Lib.hid hs
  replace hp := Lib.hid hp
  replace hM := Lib.hid hM
  go_enter Try.func47, Try.ntmps47
  go_wp2
  have hp' : Blk (w.setCell ⟨p, 7, none⟩ (.int .i64 0)) p 137 (pushA c sl 0 tp) := (hp.out.set 7 _)
  have hM' := (hM.out.set np 7 (.int .i64 0))
  have hF' := (hF.out.trans (fr_p w 7 (.int .i64 0)))
  clear hp hM hF k0 k1 k2 k3 k4 k5 k6 k7 k8 z7
  generalize w.setCell ⟨p, 7, none⟩ (.int .i64 0) = w2 at *
  have hp := Lib.hid hp'
  have hM := Lib.hid hM'
  have hF := Lib.hid hF'
  clear hp' hM' hF'
  replace hp := Lib.hid hp.out.drew
  replace hM := Lib.hid hM.out.drew
  replace hF := Lib.hid (hF.out.trans (Fr.drew _ w2))
  have hX0 := push_cells hp.out
  have hX : w2.drew.cell? ⟨p, 0, none⟩ = some (.int .i64 c.S) ∧ w2.drew.cell? ⟨p, 1, none⟩ = some (.int .i64 c.A) ∧ w2.drew.cell? ⟨p, 2, none⟩ = some (.int .i64 c.C) ∧ w2.drew.cell? ⟨p, 3, none⟩ = some (.int .i64 c.H) ∧ w2.drew.cell? ⟨p, 4, none⟩ = some (.int .i64 c.G) ∧ w2.drew.cell? ⟨p, 5, none⟩ = some (.int .i64 c.K) ∧ w2.drew.cell? ⟨p, 6, none⟩ = some (.int .i64 sl) ∧ w2.drew.cell? ⟨p, 7, none⟩ = some (.int .i64 0) ∧ w2.drew.cell? ⟨p, 8, none⟩ = some (.int .u64 tp) := hX0
  clear hX0
  go_region_held3 (fun w' => w'.cell? ⟨p, 0, none⟩ = some (.int .i64 c.S) ∧ w'.cell? ⟨p, 1, none⟩ = some (.int .i64 c.A) ∧ w'.cell? ⟨p, 2, none⟩ = some (.int .i64 c.C) ∧ w'.cell? ⟨p, 3, none⟩ = some (.int .i64 c.H) ∧ w'.cell? ⟨p, 4, none⟩ = some (.int .i64 c.G) ∧ w'.cell? ⟨p, 5, none⟩ = some (.int .i64 c.K) ∧ w'.cell? ⟨p, 6, none⟩ = some (.int .i64 sl) ∧ w'.cell? ⟨p, 7, none⟩ = some (.int .i64 0) ∧ w'.cell? ⟨p, 8, none⟩ = some (.int .u64 tp)) (assumption) (first
    | (go_at_call 83; refine (movedC _ tp sl t0 t1).mono ?_; rintro e w3 ⟨rfl, hb⟩; replace hp := Lib.hid (hp.out.below hb hp.out.lt); replace hM := Lib.hid (hM.out.next hb); replace hF := Lib.hid (hF.out.trans (fr_below hb)); clear hb; have hY_w3 : w3.cell? ⟨p, 0, none⟩ = some (.int .i64 c.S) ∧ w3.cell? ⟨p, 1, none⟩ = some (.int .i64 c.A) ∧ w3.cell? ⟨p, 2, none⟩ = some (.int .i64 c.C) ∧ w3.cell? ⟨p, 3, none⟩ = some (.int .i64 c.H) ∧ w3.cell? ⟨p, 4, none⟩ = some (.int .i64 c.G) ∧ w3.cell? ⟨p, 5, none⟩ = some (.int .i64 c.K) ∧ w3.cell? ⟨p, 6, none⟩ = some (.int .i64 sl) ∧ w3.cell? ⟨p, 7, none⟩ = some (.int .i64 0) ∧ w3.cell? ⟨p, 8, none⟩ = some (.int .u64 tp) := (by obtain ⟨y0, y1, y2, y3, y4, y5, y6, y7, y8⟩ := push_cells hp.out; exact ⟨y0, y1, y2, y3, y4, y5, y6, y7, y8⟩))
    | (go_at_call 82; refine (swap_c _ m b M 3 hM.out ok tp (movedV tp sl)).mono ?_; rintro e w4 ⟨rfl, hM', hF'⟩; rw [hs.out]; replace hp := Lib.hid (hp.out.fr hF' np); replace hM := Lib.hid hM'; replace hF := Lib.hid (hF.out.trans (two_three hF')); clear hM' hF'; have z7 := hp.out.frozen 7; have hY_w4 : w4.cell? ⟨p, 0, none⟩ = some (.int .i64 c.S) ∧ w4.cell? ⟨p, 1, none⟩ = some (.int .i64 c.A) ∧ w4.cell? ⟨p, 2, none⟩ = some (.int .i64 c.C) ∧ w4.cell? ⟨p, 3, none⟩ = some (.int .i64 c.H) ∧ w4.cell? ⟨p, 4, none⟩ = some (.int .i64 c.G) ∧ w4.cell? ⟨p, 5, none⟩ = some (.int .i64 c.K) ∧ w4.cell? ⟨p, 6, none⟩ = some (.int .i64 sl) ∧ w4.cell? ⟨p, 7, none⟩ = some (.int .i64 0) ∧ w4.cell? ⟨p, 8, none⟩ = some (.int .u64 tp) := (by obtain ⟨y0, y1, y2, y3, y4, y5, y6, y7, y8⟩ := push_cells hp.out; exact ⟨y0, y1, y2, y3, y4, y5, y6, y7, y8⟩)))
  obtain ⟨l0, l1, l2, l3, l4, l5, l6, l7, l8⟩ := hY_w4
  go_wp2
  go_ret
  exact ⟨rfl, hp.out.set 7 _, hM.out.set np 7 _, hF.out.trans (fr_p _ 7 _)⟩
set_option maxHeartbeats 4000000 in
set_option maxRecDepth 100000 in
theorem push_2b (t0 : 0 ≤ tp) (t1 : tp < 18446744073709551616) (hs : M.swV 3 tp = false) (hp : Blk w p 137 (pushA c sl 2 tp)) : Calls Try.prog 47 #[.pointer (some ⟨p, 0, none⟩), .pointer (some ⟨m, 0, none⟩)] w fun e w' =>
    e = .returned (.bool false) ∧ Blk w' p 137 (pushA c sl 0 tp) ∧ MemB w' m b (M.swS 3 tp (movedV tp sl)) ∧ Fr (three p m b) w w' := by
  obtain ⟨n0, n1⟩ := movedV_bd tp sl t0
  have z7 := hp.frozen 7
  have hF := Lib.hid (Fr.refl (three p m b) w)
  obtain ⟨k0, k1, k2, k3, k4, k5, k6, k7, k8⟩ := push_cells hp
  replace hs := Lib.hid hs
  replace hp := Lib.hid hp
  replace hM := Lib.hid hM
  go_enter Try.func47, Try.ntmps47
  go_wp2
  have hp' : Blk (w.setCell ⟨p, 7, none⟩ (.int .i64 0)) p 137 (pushA c sl 0 tp) := (hp.out.set 7 _)
  have hM' := (hM.out.set np 7 (.int .i64 0))
  have hF' := (hF.out.trans (fr_p w 7 (.int .i64 0)))
  clear hp hM hF k0 k1 k2 k3 k4 k5 k6 k7 k8 z7
  generalize w.setCell ⟨p, 7, none⟩ (.int .i64 0) = w2 at *
  have hp := Lib.hid hp'
  have hM := Lib.hid hM'
  have hF := Lib.hid hF'
  clear hp' hM' hF'
  replace hp := Lib.hid hp.out.drew
  replace hM := Lib.hid hM.out.drew
  replace hF := Lib.hid (hF.out.trans (Fr.drew _ w2))
  have hX0 := push_cells hp.out
  have hX : w2.drew.cell? ⟨p, 0, none⟩ = some (.int .i64 c.S) ∧ w2.drew.cell? ⟨p, 1, none⟩ = some (.int .i64 c.A) ∧ w2.drew.cell? ⟨p, 2, none⟩ = some (.int .i64 c.C) ∧ w2.drew.cell? ⟨p, 3, none⟩ = some (.int .i64 c.H) ∧ w2.drew.cell? ⟨p, 4, none⟩ = some (.int .i64 c.G) ∧ w2.drew.cell? ⟨p, 5, none⟩ = some (.int .i64 c.K) ∧ w2.drew.cell? ⟨p, 6, none⟩ = some (.int .i64 sl) ∧ w2.drew.cell? ⟨p, 7, none⟩ = some (.int .i64 0) ∧ w2.drew.cell? ⟨p, 8, none⟩ = some (.int .u64 tp) := hX0
  clear hX0
  go_region_held3 (fun w' => w'.cell? ⟨p, 0, none⟩ = some (.int .i64 c.S) ∧ w'.cell? ⟨p, 1, none⟩ = some (.int .i64 c.A) ∧ w'.cell? ⟨p, 2, none⟩ = some (.int .i64 c.C) ∧ w'.cell? ⟨p, 3, none⟩ = some (.int .i64 c.H) ∧ w'.cell? ⟨p, 4, none⟩ = some (.int .i64 c.G) ∧ w'.cell? ⟨p, 5, none⟩ = some (.int .i64 c.K) ∧ w'.cell? ⟨p, 6, none⟩ = some (.int .i64 sl) ∧ w'.cell? ⟨p, 7, none⟩ = some (.int .i64 0) ∧ w'.cell? ⟨p, 8, none⟩ = some (.int .u64 tp)) (assumption) (first
    | (go_at_call 83; refine (movedC _ tp sl t0 t1).mono ?_; rintro e w3 ⟨rfl, hb⟩; replace hp := Lib.hid (hp.out.below hb hp.out.lt); replace hM := Lib.hid (hM.out.next hb); replace hF := Lib.hid (hF.out.trans (fr_below hb)); clear hb; have hY_w3 : w3.cell? ⟨p, 0, none⟩ = some (.int .i64 c.S) ∧ w3.cell? ⟨p, 1, none⟩ = some (.int .i64 c.A) ∧ w3.cell? ⟨p, 2, none⟩ = some (.int .i64 c.C) ∧ w3.cell? ⟨p, 3, none⟩ = some (.int .i64 c.H) ∧ w3.cell? ⟨p, 4, none⟩ = some (.int .i64 c.G) ∧ w3.cell? ⟨p, 5, none⟩ = some (.int .i64 c.K) ∧ w3.cell? ⟨p, 6, none⟩ = some (.int .i64 sl) ∧ w3.cell? ⟨p, 7, none⟩ = some (.int .i64 0) ∧ w3.cell? ⟨p, 8, none⟩ = some (.int .u64 tp) := (by obtain ⟨y0, y1, y2, y3, y4, y5, y6, y7, y8⟩ := push_cells hp.out; exact ⟨y0, y1, y2, y3, y4, y5, y6, y7, y8⟩))
    | (go_at_call 82; refine (swap_c _ m b M 3 hM.out ok tp (movedV tp sl)).mono ?_; rintro e w4 ⟨rfl, hM', hF'⟩; rw [hs.out]; replace hp := Lib.hid (hp.out.fr hF' np); replace hM := Lib.hid hM'; replace hF := Lib.hid (hF.out.trans (two_three hF')); clear hM' hF'; have z7 := hp.out.frozen 7; have hY_w4 : w4.cell? ⟨p, 0, none⟩ = some (.int .i64 c.S) ∧ w4.cell? ⟨p, 1, none⟩ = some (.int .i64 c.A) ∧ w4.cell? ⟨p, 2, none⟩ = some (.int .i64 c.C) ∧ w4.cell? ⟨p, 3, none⟩ = some (.int .i64 c.H) ∧ w4.cell? ⟨p, 4, none⟩ = some (.int .i64 c.G) ∧ w4.cell? ⟨p, 5, none⟩ = some (.int .i64 c.K) ∧ w4.cell? ⟨p, 6, none⟩ = some (.int .i64 sl) ∧ w4.cell? ⟨p, 7, none⟩ = some (.int .i64 0) ∧ w4.cell? ⟨p, 8, none⟩ = some (.int .u64 tp) := (by obtain ⟨y0, y1, y2, y3, y4, y5, y6, y7, y8⟩ := push_cells hp.out; exact ⟨y0, y1, y2, y3, y4, y5, y6, y7, y8⟩)))
  obtain ⟨l0, l1, l2, l3, l4, l5, l6, l7, l8⟩ := hY_w4
  go_wp2
  go_ret
  exact ⟨rfl, hp.out, hM.out, hF.out⟩
set_option maxHeartbeats 4000000 in
set_option maxRecDepth 100000 in
theorem push_3 (hp : Blk w p 137 (pushA c sl 3 tp)) : Calls Try.prog 47 #[.pointer (some ⟨p, 0, none⟩), .pointer (some ⟨m, 0, none⟩)] w fun e w' =>
    e = .returned (.bool true) ∧ Blk w' p 137 (pushA c sl 3 tp) ∧ MemB w' m b (M) ∧ Fr (three p m b) w w' := by
  have hF := Lib.hid (Fr.refl (three p m b) w)
  obtain ⟨k0, k1, k2, k3, k4, k5, k6, k7, k8⟩ := push_cells hp
  replace hp := Lib.hid hp
  replace hM := Lib.hid hM
  go_enter Try.func47, Try.ntmps47
  go_wp2
  go_ret
  exact ⟨rfl, hp.out, hM.out, hF.out⟩
end
end Go.Proofs.Ytijfkpoofpcacaa.StackC
end
section
namespace Go.Proofs.Ytijfkpoofpcacaa.Opens
open Go.ChangeShapes Go.WideShapes Go.Deep Go.RowKit
def Sl (w : World) (A : Option Addr) (n m : Nat) (V : Nat → Nat → Value) : Prop := 0 < n → ∃ b off, A = some ⟨b, off, none⟩ ∧ b < w.heap.size ∧ ∀ i, i < n → ∀ j, j < m → w.cell? ⟨b, off + i * m + j, none⟩ = some (V i j)
theorem cell_lt {w : World} {b i : Nat} {v : Value} (h : w.cell? ⟨b, i, none⟩ = some v) : b < w.heap.size := by
  rcases Nat.lt_or_ge b w.heap.size with hl | hl
  · exact hl
  · simp [World.cell?, Array.getElem?_eq_none hl] at h
theorem Sl.below {w w' : World} {A n m V} {N : Nat} (h : Sl w A n m V) (hb : Below N w w') (hN : w.heap.size ≤ N) : Sl w' A n m V := by
  intro hn
  obtain ⟨b, off, e, hl, hc⟩ := h hn
  refine ⟨b, off, e, Nat.lt_of_lt_of_le hl hb.size, fun i hi j hj => ?_⟩
  rw [hb.cell (p := ⟨b, off + i * m + j, none⟩) (Nat.lt_of_lt_of_le hl hN)]
  exact hc i hi j hj
theorem Sl.at_ {w : World} {A n m V} (h : Sl w A n m V) {i : Nat} (hi : i < n) : ∃ b off, A = some ⟨b, off, none⟩ ∧ ∀ j, j < m → w.cell? ⟨b, off + i * m + j, none⟩ = some (V i j) := by
  obtain ⟨b, off, e, _, hc⟩ := h (by omega)
  exact ⟨b, off, e, hc i hi⟩
theorem Sl.num {w : World} {A n} {k : IntKind} {f : Nat → Int} (h : Sl w A n 1 (fun i _ => .int k (f i))) {i : Nat} (hi : i < n) : ∃ b off, A = some ⟨b, off, none⟩ ∧ b < w.heap.size ∧ w.cell? ⟨b, off + i, none⟩ = some (.int k (f i)) := by
  obtain ⟨b, off, e, hl, hc⟩ := h (by omega)
  have := hc i hi 0 (by decide)
  rw [Nat.mul_one] at this
  exact ⟨b, off, e, hl, this⟩
theorem Sl.congr {w : World} {A n m V V'} (h : Sl w A n m V) (he : ∀ i, i < n → ∀ j, j < m → V i j = V' i j) : Sl w A n m V' := by
  intro hn
  obtain ⟨b, off, e, hl, hc⟩ := h hn
  exact ⟨b, off, e, hl, fun i hi j hj => by rw [← he i hi j hj]; exact hc i hi j hj⟩
section
variable {H : Type} {enc : TypeId × Value → H} {P : Program} {W : World} {base : Nat} {spare : Nat → Bool} {held : Bool}
theorem open_nums {t e : TypeId} {k : IntKind} {A : Option Addr} {len cap : Nat} {d : DataW H} {ps : List MemPlace} {ts : List TypeId} {ds : List (DataW H)} {jj : Nat}
    (ht : P.underlying t = some (.slice e)) (hs : P.underlying e = some (.int k)) (hC : P.cellsOf e = 1)
    (hsz : (DataW.weightsEach P ts ds).all (· ≤ reachBytes) = true) (hts : ts[jj]? = some t) (hds : ds[jj]? = some d) (h : DataW.Trod enc P W base spare held t (.slice A len cap) d ps) :
    len ≤ cap ∧ len * P.bytesOf e ≤ reachBytes ∧ ∃ q : Nat → Int, Sl W A len 1 (fun i _ => .int k (q i)) ∧ ∀ i, i < len → (Lit.int k (q i)).wf = true := by
  obtain ⟨fuel, hf⟩ := h
  rcases open_slice1 ht hC hf with ⟨hcs, _⟩ | ⟨x, l, c, m, n, V, D, Pl, hcs, _, hl, hm, hmm, hx, hall⟩
  · simp [Value.cells] at hcs
    obtain ⟨rfl, rfl, rfl⟩ := hcs
    exact ⟨Nat.le_refl _, by simp, fun _ => 0, fun h => absurd h (by decide), fun i hi => absurd hi (by omega)⟩
  · simp [Value.cells] at hcs
    obtain ⟨rfl, rfl, rfl⟩ := hcs
    have hlm : len ≤ m := by rw [hmm]; split <;> omega
    obtain ⟨hd, _⟩ := Prod.mk.inj hx
    subst hd
    have z := sized_slice hsz hts hds ht
    simp only [List.length_map, List.length_range] at z
    refine ⟨hl, Nat.le_trans (Nat.mul_le_mul_right _ (by omega)) z, ?_⟩
    have each : ∀ i, i < m → ∃ q : Int, W.cell? (x.add i) = some (.int k q) ∧ (Lit.int k q).wf = true := by
      intro i hi
      obtain ⟨h1, h2⟩ := hall i hi
      obtain ⟨n1, h3, _, hw⟩ := DataW.trod_int hs h2
      refine ⟨n1, ?_, hw⟩
      rw [h1]
      simpa using h3
    obtain ⟨q, hq⟩ := choose_lt each
    refine ⟨q, fun hn => ?_, fun i hi => (hq i (by omega)).2⟩
    have c0 := (hq 0 (by omega)).1
    obtain ⟨b, o, spot⟩ := x
    have hspot : spot = none := by simpa [Addr.add] using World.cell?_spot c0
    subst hspot
    refine ⟨b, o, rfl, ?_, fun i hi j hj => ?_⟩
    · rw [add_plain] at c0
      exact cell_lt c0
    · have := (hq i (by omega)).1
      rw [add_plain] at this
      obtain rfl : j = 0 := by omega
      rw [Nat.mul_one]
      exact this
end
end Go.Proofs.Ytijfkpoofpcacaa.Opens
end
section
namespace Go.Proofs.Ytijfkpoofpcacaa.StackL
open Go.RowKit Go.Proofs.Ytijfkpoofpcacaa.PArenaPlays Go.Proofs.YtijfkpoofpcacaaW.PrintWords Go.Proofs.Ytijfkpoofpcacaa.Blk Go.Proofs.Ytijfkpoofpcacaa.Core Go.Proofs.Ytijfkpoofpcacaa.PuArenaPlays Go.Proofs.Ytijfkpoofpcacaa.MemC Go.Proofs.Ytijfkpoofpcacaa.MemD Go.Proofs.Ytijfkpoofpcacaa.MemT Go.Proofs.Ytijfkpoofpcacaa.PlanC Go.Proofs.Ytijfkpoofpcacaa.PlanD Go.Proofs.Ytijfkpoofpcacaa.StackC Go.Proofs.Ytijfkpoofpcacaa.Opens
def chain (c : Cf) (f : Nat → Int) : Nat → Int → List Int
  | 0, _ => []
  | n + 1, x => if 1 ≤ x ∧ x ≤ c.S then (x - 1) :: chain c f n (f (c.link (x - 1)).toNat) else []
def listV (c : Cf) (f : Nat → Int) : List Int := chain c f c.S.toNat (f 3 % 65536)
def Li (w : World) (base : Nat) (v : Value) (l : List Int) : Prop :=
  ∃ A cc, v = .slice A l.length cc ∧ l.length ≤ cc ∧ Sl w A l.length 1 (fun i _ => .int .i64 (l.getD i 0)) ∧ (∀ b o, A = some ⟨b, o, none⟩ → 0 < l.length → base ≤ b) ∧ l.length ≤ 100000
theorem Li.below {w w' : World} {B : Nat} {v : Value} {l : List Int} (h : Li w B v l) (hb : Below w.heap.size w w') : Li w' B v l := by
  obtain ⟨A, cc, e, hc, hS, hB, hl⟩ := h
  exact ⟨A, cc, e, hc, hS.below hb (Nat.le_refl _), hB, hl⟩
theorem li_of_C {w : World} {A : Option Addr} {n : Nat} {xs : List Int} (h : Kd.C (Kd.int .i64) w A n xs) : Sl w A n 1 (fun i _ => .int .i64 (xs.getD i 0)) := by
  have key : ∀ i : Nat, i < n → ∃ ad, A = some ad ∧ w.cell? (ad.add i) = some (.int .i64 (xs.getD i 0)) := by
    intro i hi
    obtain ⟨ad, c, e, _, hK, hc⟩ := Kd.C_get h 0 (i : Int) (by omega) (by omega)
    have hK' : c = [Value.int .i64 (xs.getD (i : Int).toNat 0)] := hK
    subst hK'
    have h0 := hc 0 _ rfl
    rw [Int.toNat_natCast] at h0
    refine ⟨ad, e, ?_⟩
    have : i * (Kd.int .i64).sz + 0 = i := by show i * 1 + 0 = i; omega
    rw [this] at h0
    exact h0
  intro hn
  obtain ⟨ad, e, c0⟩ := key 0 hn
  obtain ⟨b, o, spot⟩ := ad
  have hspot : spot = none := by simpa [Addr.add] using World.cell?_spot c0
  subst hspot
  refine ⟨b, o, e, ?_, fun i hi j hj => ?_⟩
  · rw [Go.WideShapes.add_plain] at c0; exact cell_lt c0
  · obtain ⟨ad', e', x0⟩ := key i hi
    rw [e] at e'
    obtain rfl := (Option.some.inj e').symm
    rw [Go.WideShapes.add_plain] at x0
    obtain rfl : j = 0 := by omega
    rw [Nat.mul_one]
    exact x0
structure RdB (w : World) (b off n : Nat) (f : Nat → Int) : Prop where
  lt : b < w.heap.size
  cell : ∀ i, i < n → w.cell? ⟨b, off + i, none⟩ = some (.int .u64 (f i))
theorem rd_of_row {w : World} {A : Option Addr} {c b n : Nat} {f : Nat → Int} (h : RowB w A c b n f) (hn : 0 < n) : A = some ⟨b, 0, none⟩ ∧ n ≤ c ∧ RdB w b 0 n f :=
  ⟨(h.cell hn).1, h.cap, h.lt hn, fun i hi => by rw [Nat.zero_add]; exact (h.cell hi).2.1⟩
theorem C_of_rd {w : World} {b off n : Nat} {f : Nat → Int} (h : RdB w b off n f) (hn : n ≤ 100000) : Kd.C (Kd.int .u64) w (some ⟨b, off, none⟩) ((List.range n).map f).length ((List.range n).map f) := by
  have hlen : ((List.range n).map f).length = n := by simp
  rw [hlen]
  refine Kd.C_of_reads (enc := fun x => Value.int .u64 x) (d := 0) ⟨hlen, by omega, fun h0 => ⟨_, rfl, fun j hj => ?_⟩⟩
  rw [Go.WideShapes.add_plain, h.cell j hj]
  simp [List.getD_eq_getElem?_getD, List.getElem?_map, List.getElem?_range hj]
theorem at_link (k S C H : Nat) (A G K : Int) (s : Int) (hk : 2000 ≤ k) (h : rightB S A C H G K = true) : withyref06_At.f k S A C H G K ⟨#[108, 105, 110, 107]⟩ s 0 = some ((Cf.mk S A C H G K).link s) := by
  have hr := right_iff.1 h
  rw [p_rAt k S C H A G K ⟨#[108, 105, 110, 107]⟩ s 0 hk h (0 ≤ s ∧ s < S) mem_link]
  unfold Cf.link Cf.right
  congr 1
  by_cases d : 0 ≤ s ∧ s < S
  · rw [if_pos d, if_pos ⟨h, d.1, d.2⟩]
    have : (2 : Int) + (roomN A : Nat) = roomV A := by unfold roomN roomV; split <;> omega
    simp [posW, slotsV, this]
  · rw [if_neg d, if_neg (fun x => d x.2)]
theorem rd_row (f : Nat → Int) (n : Nat) (i : Int) (h0 : 0 ≤ i) (h1 : i < n) : rd ((List.range n).map f) i = f i.toNat := by
  unfold rd
  rw [List.getD_eq_getElem?_getD, List.getElem?_map, List.getElem?_range (by omega)]
  rfl
theorem link_lt {c : Cf} (h : c.right = true) {s : Int} (s0 : 0 ≤ s) (s1 : s < c.S) : 4 ≤ c.link s ∧ c.link s < c.size := by
  have hb := size_bd h
  have ha := at_bd h s0 s1 (i := 1) (by decide) (by omega)
  unfold Cf.link
  rw [if_pos ⟨h, s0, s1⟩]
  unfold Cf.size
  omega
theorem ref_l (S C H : Nat) (A G K : Int) (f : Nat → Int) (hf : U f) (n : Nat) (h : rightB S A C H G K = true) (hn : (n : Int) = sizeV S A C H) (d : Nat) : ∀ (k : Nat) (x : Int) (acc : List Int), 2000 + d < k → 0 ≤ x → x < 18446744073709551616 → acc.length + d = S →
    withyref07_List.l0 k ((List.range n).map f) acc x S A C H G K = some (acc ++ chain ⟨S, A, C, H, G, K⟩ f d x) := by
  have hr := right_iff.1 h
  have ew : IntKind.u64.wrap (S : Int) = S := wrap_u64_id _ (by omega) (by omega)
  have hlen : (((List.range n).map f).length : Int) = n := by simp
  induction d with
  | zero =>
    intro k x acc hk x0 x1 ha
    obtain ⟨k, rfl⟩ : ∃ m, k = m + 1 := ⟨k - 1, by omega⟩
    simp only [withyref07_List.l0, chain, List.append_nil]
    rw [ew]
    by_cases h1 : x ≥ 1
    · rw [if_pos h1]
      by_cases h2 : x ≤ S
      · rw [if_pos h2, if_neg (by omega)]
      · rw [if_neg h2]
    · rw [if_neg h1]
  | succ d ih =>
    intro k x acc hk x0 x1 ha
    obtain ⟨k, rfl⟩ : ∃ m, k = m + 1 := ⟨k - 1, by omega⟩
    simp only [withyref07_List.l0, chain]
    rw [ew]
    by_cases h1 : x ≥ 1
    · rw [if_pos h1]
      by_cases h2 : x ≤ S
      · have e1 : wrap64 x = x := wrap64_id _ (by omega) (by omega)
        have e2 : wrap64 (x - 1) = x - 1 := wrap64_id _ (by omega) (by omega)
        have hl := link_lt (c := ⟨S, A, C, H, G, K⟩) h (s := x - 1) (by omega) (by show x - 1 < (S : Int); omega)
        have hl2 : (Cf.mk S A C H G K).link (x - 1) < n := by rw [hn]; exact hl.2
        rw [if_pos h2, if_pos (by omega), if_pos (by omega), e1, e2, at_link k S C H A G K (x - 1) (by omega) h, Option.bind_some, if_pos (by omega), if_pos (by omega), rd_row f n _ (by omega) hl2]
        rw [ih k _ _ (by omega) (hf _).1 (hf _).2 (by rw [List.length_append, List.length_singleton]; omega), if_pos ⟨h1, h2⟩]
        simp
      · rw [if_neg h2, if_neg (fun q => h2 q.2)]; simp
    · rw [if_neg h1, if_neg (fun q => h1 q.1)]; simp
theorem ref_f (S C H : Nat) (A G K : Int) (f : Nat → Int) (hf : U f) (n : Nat) (h : rightB S A C H G K = true) (hn : (n : Int) = sizeV S A C H) : withyref07_List.f 3000 S A C H G K ((List.range n).map f) = some (listV ⟨S, A, C, H, G, K⟩ f) := by
  have hr := right_iff.1 h
  have hb := size_bd h
  unfold withyref07_List.f
  rw [p_rRight, Option.bind_some, if_pos h, p_rWords 3000 S C H A G K (by decide) (by omega) (by omega) (by omega) (by omega), Option.bind_some]
  have hlen : (((List.range n).map f).length : Int) = n := by simp
  have e : ((((List.range n).map f).length : Int) != ((wordsL S C H (roomN A)).length : Int)) = false := by rw [hlen, sizes_eq, hn]; simp
  rw [e]
  simp only [withyref07_List.j0]
  rw [if_neg (by decide), if_pos (by omega), rd_row f n 3 (by decide) (by omega)]
  have h3 := hf 3
  rw [show Int.toNat 3 = 3 from rfl, Int.tmod_eq_emod_of_nonneg h3.1, ref_l S C H A G K f hf n h hn S 2999 _ [] (by omega) (by omega) (by omega) (by simp)]
  rfl
end Go.Proofs.Ytijfkpoofpcacaa.StackL
end
section
namespace Go.Proofs.Ytijfkpoofpcacaa.StackS
open Go.RowKit Go.Proofs.YtijfkpoofpcacaaW.PrintWords Go.Proofs.Ytijfkpoofpcacaa.Blk Go.Proofs.Ytijfkpoofpcacaa.Core Go.Proofs.Ytijfkpoofpcacaa.MemC Go.Proofs.Ytijfkpoofpcacaa.MemD Go.Proofs.Ytijfkpoofpcacaa.MemT Go.Proofs.Ytijfkpoofpcacaa.PlanC Go.Proofs.Ytijfkpoofpcacaa.PlanD Go.Proofs.Ytijfkpoofpcacaa.StackC Go.Proofs.Ytijfkpoofpcacaa.StackL Go.Proofs.Ytijfkpoofpcacaa.Opens
structure Pop where
  sl : Int
  em : Bool
  a : Int
  tp : Int
  nx : Int
structure Push where
  sl : Int
  a : Int
  tp : Int
def PopB (w : World) (p : Nat) (c : Cf) (q : Pop) : Prop := Blk w p 66 (popA c q.sl q.em q.a q.tp q.nx)
def PushB (w : World) (p : Nat) (c : Cf) (q : Push) : Prop := Blk w p 137 (pushA c q.sl q.a q.tp)
structure PopOk (q : Pop) : Prop where
  t0 : 0 ≤ q.tp
  t1 : q.tp < 18446744073709551616
  a : q.a = 0 ∨ q.a = 1 ∨ q.a = 2 ∨ q.a = 3
structure PushOk (q : Push) : Prop where
  t0 : 0 ≤ q.tp
  t1 : q.tp < 18446744073709551616
  a : q.a = 0 ∨ q.a = 1 ∨ q.a = 2 ∨ q.a = 3
def popS (c : Cf) (q : Pop) (M : Ms) : Pop :=
  if q.a = 0 then (if firstI c.S (M.ldV 3) < 0 then ⟨q.sl, true, 3, M.ldV 3, q.nx⟩ else ⟨q.sl, q.em, 1, M.ldV 3, q.nx⟩)
  else if q.a = 1 then ⟨q.sl, q.em, 2, q.tp, linkedI c.S (M.ldV (c.link (firstI c.S q.tp)))⟩
  else if q.a = 2 then (if M.swV 3 q.tp = true then ⟨firstI c.S q.tp, q.em, 3, q.tp, q.nx⟩ else ⟨q.sl, q.em, 0, q.tp, q.nx⟩)
  else q
def popM (c : Cf) (q : Pop) (M : Ms) : Ms :=
  if q.a = 0 then M.ldS 3 else if q.a = 1 then M.ldS (c.link (firstI c.S q.tp)) else if q.a = 2 then M.swS 3 q.tp (movedV q.tp q.nx) else M
def pushS (c : Cf) (q : Push) (M : Ms) : Push :=
  if q.a = 0 then ⟨q.sl, 1, M.ldV 3⟩ else if q.a = 1 then ⟨q.sl, 2, q.tp⟩
  else if q.a = 2 then (if M.swV 3 q.tp = true then ⟨q.sl, 3, q.tp⟩ else ⟨q.sl, 0, q.tp⟩) else q
def pushM (c : Cf) (q : Push) (M : Ms) : Ms :=
  if q.a = 0 then M.ldS 3 else if q.a = 1 then M.stS (c.link q.sl) (firstI c.S q.tp + 1) else if q.a = 2 then M.swS 3 q.tp (movedV q.tp q.sl) else M
def popD (c : Cf) (q : Pop) (M : Ms) : Bool := (popS c q M).a == 3
def pushD (c : Cf) (q : Push) (M : Ms) : Bool := (pushS c q M).a == 3
theorem PopOk.step {c : Cf} {q : Pop} {M : Ms} (h : PopOk q) (ok : Ok M) : PopOk (popS c q M) := by
  obtain ⟨x0, x1⟩ := ldV_bd ok 3
  have t0 := h.t0
  have t1 := h.t1
  unfold popS
  by_cases e0 : q.a = 0
  · rw [if_pos e0]; split
    · exact ⟨x0, x1, by simp⟩
    · exact ⟨x0, x1, by simp⟩
  · rw [if_neg e0]
    by_cases e1 : q.a = 1
    · rw [if_pos e1]; exact ⟨t0, t1, by simp⟩
    · rw [if_neg e1]
      by_cases e2 : q.a = 2
      · rw [if_pos e2]; split
        · exact ⟨t0, t1, by simp⟩
        · exact ⟨t0, t1, by simp⟩
      · rw [if_neg e2]; exact h
theorem PushOk.step {c : Cf} {q : Push} {M : Ms} (h : PushOk q) (ok : Ok M) : PushOk (pushS c q M) := by
  obtain ⟨x0, x1⟩ := ldV_bd ok 3
  have t0 := h.t0
  have t1 := h.t1
  unfold pushS
  by_cases e0 : q.a = 0
  · rw [if_pos e0]; exact ⟨x0, x1, by simp⟩
  · rw [if_neg e0]
    by_cases e1 : q.a = 1
    · rw [if_pos e1]; exact ⟨t0, t1, by simp⟩
    · rw [if_neg e1]
      by_cases e2 : q.a = 2
      · rw [if_pos e2]; split
        · exact ⟨t0, t1, by simp⟩
        · exact ⟨t0, t1, by simp⟩
      · rw [if_neg e2]; exact h
section
variable (c : Cf) (w : World) (p m b : Nat) (M : Ms) (hc : c.right = true) (hM : MemB w m b M) (ok : Ok M) (np : ¬ two m b p)
include hc hM ok np
theorem popC (q : Pop) (hp : PopB w p c q) (hq : PopOk q) : Calls Try.prog 45 #[.pointer (some ⟨p, 0, none⟩), .pointer (some ⟨m, 0, none⟩)] w fun e w' =>
    e = .returned (.bool (popD c q M)) ∧ PopB w' p c (popS c q M) ∧ MemB w' m b (popM c q M) ∧ Fr (three p m b) w w' := by
  obtain ⟨sl, em, a, tp, nx⟩ := q
  have t0 : 0 ≤ tp := hq.t0
  have t1 : tp < 18446744073709551616 := hq.t1
  have ha : a = 0 ∨ a = 1 ∨ a = 2 ∨ a = 3 := hq.a
  have hp' : Blk w p 66 (popA c sl em a tp nx) := hp
  rcases ha with rfl | rfl | rfl | rfl
  · rcases Int.lt_or_le (firstI c.S (M.ldV 3)) 0 with hx | hx
    · have := pop_0a c w p m b M hc hM ok np sl em tp nx hx hp'
      simpa [popD, popS, popM, PopB, hx] using this
    · have := pop_0b c w p m b M hc hM ok np sl em tp nx hx hp'
      have hx' : ¬ firstI c.S (M.ldV 3) < 0 := by omega
      simpa [popD, popS, popM, PopB, hx'] using this
  · have := pop_1 c w p m b M hc hM ok np sl em tp nx t0 t1 hp'
    simpa [popD, popS, popM, PopB] using this
  · cases hs : M.swV 3 tp with
    | true =>
      have := pop_2a c w p m b M hc hM ok np sl em tp nx t0 t1 hs hp'
      simpa [popD, popS, popM, PopB, hs] using this
    | false =>
      have := pop_2b c w p m b M hc hM ok np sl em tp nx t0 t1 hs hp'
      simpa [popD, popS, popM, PopB, hs] using this
  · have := pop_3 c w p m b M hc hM ok np sl em tp nx hp'
    simpa [popD, popS, popM, PopB] using this
theorem pushC (q : Push) (hp : PushB w p c q) (hq : PushOk q) : Calls Try.prog 47 #[.pointer (some ⟨p, 0, none⟩), .pointer (some ⟨m, 0, none⟩)] w fun e w' =>
    e = .returned (.bool (pushD c q M)) ∧ PushB w' p c (pushS c q M) ∧ MemB w' m b (pushM c q M) ∧ Fr (three p m b) w w' := by
  obtain ⟨sl, a, tp⟩ := q
  have t0 : 0 ≤ tp := hq.t0
  have t1 : tp < 18446744073709551616 := hq.t1
  have ha : a = 0 ∨ a = 1 ∨ a = 2 ∨ a = 3 := hq.a
  have hp' : Blk w p 137 (pushA c sl a tp) := hp
  rcases ha with rfl | rfl | rfl | rfl
  · have := push_0 c w p m b M hc hM ok np sl tp hp'
    simpa [pushD, pushS, pushM, PushB] using this
  · have := push_1 c w p m b M hc hM ok np sl tp t0 t1 hp'
    simpa [pushD, pushS, pushM, PushB] using this
  · cases hs : M.swV 3 tp with
    | true =>
      have := push_2a c w p m b M hc hM ok np sl tp t0 t1 hs hp'
      simpa [pushD, pushS, pushM, PushB, hs] using this
    | false =>
      have := push_2b c w p m b M hc hM ok np sl tp t0 t1 hs hp'
      simpa [pushD, pushS, pushM, PushB, hs] using this
  · have := push_3 c w p m b M hc hM ok np sl tp hp'
    simpa [pushD, pushS, pushM, PushB] using this
end
section
variable (c : Cf) (w : World)
theorem newPopC (h : c.right = true) : Calls Try.prog 44 #[.agg #[.int .i64 c.S, .int .i64 c.A, .int .i64 c.C, .int .i64 c.H, .int .i64 c.G, .int .i64 c.K]] w fun e w' =>
    ∃ p, e = .returned (.pointer (some ⟨p, 0, none⟩)) ∧ w.heap.size ≤ p ∧ PopB w' p c ⟨-1, false, 0, 0, 0⟩ ∧ Below w.heap.size w w' := by
  have hf := Lib.hid (Blk.new w 23 #[.int .i64 c.S, .int .i64 c.A, .int .i64 c.C, .int .i64 c.H, .int .i64 c.G, .int .i64 c.K])
  replace h := Lib.hid h
  go_enter Try.func44, Try.ntmps44
  go_wp2_with (go_at_call 66; refine (rightC c _).mono ?_; rintro e w1 ⟨rfl, hb⟩; rw [h.out]; have hf1 := hf.out.below hb hf.out.lt; obtain ⟨k0, k1, k2, k3, k4, k5⟩ := cfgs hf1; replace hb := Lib.hid (below_pre hb); clear hf1)
  go_ret
  have hs := hb.out.size
  exact ⟨w1.heap.size, rfl, hs, Blk.new w1 66 _, hb.out.alloc hs _⟩
theorem newPushC (s : Int) (h : c.right = true) (s0 : 0 ≤ s) (s1 : s < c.S) : Calls Try.prog 46 #[.agg #[.int .i64 c.S, .int .i64 c.A, .int .i64 c.C, .int .i64 c.H, .int .i64 c.G, .int .i64 c.K], .int .i64 s] w fun e w' =>
    ∃ p, e = .returned (.pointer (some ⟨p, 0, none⟩)) ∧ w.heap.size ≤ p ∧ PushB w' p c ⟨s, 0, 0⟩ ∧ Below w.heap.size w w' := by
  have hf := Lib.hid (Blk.new w 23 #[.int .i64 c.S, .int .i64 c.A, .int .i64 c.C, .int .i64 c.H, .int .i64 c.G, .int .i64 c.K])
  replace h := Lib.hid h
  go_enter Try.func46, Try.ntmps46
  go_wp2_with (go_at_call 66; refine (rightC c _).mono ?_; rintro e w1 ⟨rfl, hb⟩; rw [h.out]; have hf1 := hf.out.below hb hf.out.lt; obtain ⟨k0, k1, k2, k3, k4, k5⟩ := cfgs hf1; replace hb := Lib.hid (below_pre hb); clear hf1)
  go_ret
  have hs := hb.out.size
  exact ⟨w1.heap.size, rfl, hs, Blk.new w1 137 _, hb.out.alloc hs _⟩
end
end Go.Proofs.Ytijfkpoofpcacaa.StackS
end
section
namespace Go.Proofs.Ytijfkpoofpcacaa.StackT
open Go.RowKit Go.Proofs.YtijfkpoofpcacaaW.PrintWords Go.Proofs.Ytijfkpoofpcacaa.Blk Go.Proofs.Ytijfkpoofpcacaa.Core Go.Proofs.Ytijfkpoofpcacaa.MemC Go.Proofs.Ytijfkpoofpcacaa.MemD Go.Proofs.Ytijfkpoofpcacaa.MemT Go.Proofs.Ytijfkpoofpcacaa.PlanC Go.Proofs.Ytijfkpoofpcacaa.PlanD Go.Proofs.Ytijfkpoofpcacaa.StackC Go.Proofs.Ytijfkpoofpcacaa.StackL Go.Proofs.Ytijfkpoofpcacaa.StackS Go.Proofs.Ytijfkpoofpcacaa.Opens
theorem Li.cell {w : World} {B : Nat} {v : Value} {l : List Int} (h : Li w B v l) : ∃ A cc, v = .slice A l.length cc ∧ l.length ≤ cc ∧ l.length ≤ 100000 ∧ ∀ i, i < l.length → ∃ b o, A = some ⟨b, o, none⟩ ∧ w.cell? ⟨b, o + i, none⟩ = some (.int .i64 (l.getD i 0)) := by
  obtain ⟨A, cc, e, hc, hS, hB, hl⟩ := h
  refine ⟨A, cc, e, hc, hl, fun i hi => ?_⟩
  obtain ⟨b, o, e', _, hcl⟩ := hS (by omega)
  have := hcl i hi 0 (by decide)
  rw [Nat.mul_one] at this
  exact ⟨b, o, e', this⟩
theorem getD_eq {l : List Int} {i : Nat} (h : i < l.length) : l.getD i 0 = l[i] := by rw [List.getD_eq_getElem?_getD, List.getElem?_eq_getElem h]; rfl
theorem hasC (w : World) (B : Nat) (v : Value) (l : List Int) (x : Int) (hv : Li w B v l) : Calls Try.prog 49 #[v, .int .i64 x] w fun e w' => e = .returned (.bool (decide (x ∈ l))) ∧ w = w' := by
  obtain ⟨A, cc, rfl, hc, hl, h1⟩ := Li.cell hv
  have hd : ∀ i, l.length = i → (∀ j, j < i → l.getD j 0 ≠ x) → decide (x ∈ l) = false := fun i hi h => decide_eq_false (fun hm => by
    obtain ⟨j, hj, e⟩ := List.getElem_of_mem hm
    exact h j (by omega) (by rw [getD_eq hj]; exact e))
  have hy : ∀ i, i < l.length → l.getD i 0 = x → decide (x ∈ l) = true := fun i hi h => decide_eq_true (by rw [← h, getD_eq hi]; exact List.getElem_mem hi)
  clear hv
  obtain ⟨r, hr⟩ : ∃ r, decide (x ∈ l) = r := ⟨_, rfl⟩
  rw [hr] at hd hy ⊢
  replace hd := Lib.hid hd
  replace hy := Lib.hid hy
  replace h1 := Lib.hid h1
  replace hr := Lib.hid hr
  generalize l.length = n at *
  go_enter Try.func49, Try.ntmps49
  go_wp2
  go_loopw [5] (fun z wr => ∃ i : Nat, i ≤ n ∧ z = .int .i64 (i : Int) ∧ w = wr ∧ ∀ j, j < i → l.getD j 0 ≠ x) (fun z _ => n - (intOf z).toNat)
  case atStart => exact ⟨0, Nat.zero_le _, rfl, rfl, fun j hj => absurd hj (by omega)⟩
  case round =>
    obtain ⟨i, hi, rfl, rfl, hj⟩ := hrel
    by_cases hlt : i < n
    · obtain ⟨b1, o1, rfl, x1⟩ := h1.out i hlt
      replace hj := Lib.hid hj
      by_cases he : l.getD i 0 = x
      · have hT := hy.out i hlt he
        rw [he] at x1
        subst hT
        clear he
        go_wp2
        go_ret
        exact ⟨rfl, rfl⟩
      · have he' : (l.getD i 0 == x) = false := beq_eq_false_iff_ne.2 he
        have hE := Lib.hid he
        clear he
        generalize l.getD i 0 = y at x1 he'
        go_wp2
        go_roundw
        case measure => simp [intOf]; omega
        refine ⟨i + 1, by omega, by go_num, trivial, fun j hj' => ?_⟩
        rcases Nat.lt_or_ge j i with q | q
        · exact hj.out j q
        · obtain rfl : j = i := by omega
          exact hE.out
    · have hT := hd.out i (by omega) hj
      subst hT
      replace hj := Lib.hid hj
      go_wp2
      go_ret
      exact ⟨rfl, rfl⟩
theorem infoI : (Try.prog.info? 3).map (fun i => (i.zero, i.size, i.bytes)) = some (some (.int .i64 0), 1, 8) := by kernel_rfl
end Go.Proofs.Ytijfkpoofpcacaa.StackT
end
section
namespace Go.Proofs.Ytijfkpoofpcacaa.StackF
open Go.RowKit Go.Proofs.YtijfkpoofpcacaaW.PrintWords Go.Proofs.Ytijfkpoofpcacaa.Blk Go.Proofs.Ytijfkpoofpcacaa.Core Go.Proofs.Ytijfkpoofpcacaa.MemC Go.Proofs.Ytijfkpoofpcacaa.MemD Go.Proofs.Ytijfkpoofpcacaa.MemT Go.Proofs.Ytijfkpoofpcacaa.Memory Go.Proofs.Ytijfkpoofpcacaa.PlanC Go.Proofs.Ytijfkpoofpcacaa.PlanD Go.Proofs.Ytijfkpoofpcacaa.StackC Go.Proofs.Ytijfkpoofpcacaa.StackL Go.Proofs.Ytijfkpoofpcacaa.StackS Go.Proofs.Ytijfkpoofpcacaa.StackT Go.Proofs.Ytijfkpoofpcacaa.Opens
theorem memF_U (A C H : Int) (j : Nat) (hj : j ≤ 64) : U (memF A C H j) := by
  intro k
  unfold memF
  split
  · decide
  · split
    · decide
    · split
      · rename_i h
        have h5 : 0 < roomV A := by unfold roomV; split <;> omega
        have := Int.ediv_nonneg h.1 (Int.le_of_lt h5)
        omega
      · decide
theorem fine_of {n : Nat} {f : Nat → Int} (h : U f) : Fine (Ms.of n f) n 0 := ⟨h, rfl, Int.le_refl 0, Int.le_refl 0⟩
theorem fine_pop {c : Cf} {q : Pop} {M : Ms} {n t : Nat} (h : Fine M n t) (t0 : 0 ≤ q.tp) : Fine (popM c q M) n (t + 1) := by
  unfold popM
  split
  · exact h.ld _
  · split
    · exact h.ld _
    · split
      · have := movedV_bd q.tp q.nx t0
        exact h.sw _ _ this.1 this.2
      · exact h.mono (Nat.le_succ _)
theorem first_bd (S x : Int) : -1 ≤ firstI S x ∧ firstI S x < 65536 := by unfold firstI; split <;> omega
theorem fine_push {c : Cf} {q : Push} {M : Ms} {n t : Nat} (h : Fine M n t) (t0 : 0 ≤ q.tp) : Fine (pushM c q M) n (t + 1) := by
  unfold pushM
  split
  · exact h.ld _
  · split
    · have := first_bd c.S q.tp
      exact h.st _ (by omega) (by omega)
    · split
      · have := movedV_bd q.tp q.sl t0
        exact h.sw _ _ this.1 this.2
      · exact h.mono (Nat.le_succ _)
theorem memC (c : Cf) (w : World) (h : c.right = true) : Calls Try.prog 20 #[.agg #[.int .i64 c.S, .int .i64 c.A, .int .i64 c.C, .int .i64 c.H, .int .i64 c.G, .int .i64 c.K]] w fun e w' =>
    ∃ m b, e = .returned (.pointer (some ⟨m, 0, none⟩)) ∧ MemB w' m b (Ms.of c.size.toNat (memF c.A c.C c.H (c.S - 1).toNat)) ∧ w.heap.size ≤ m ∧ w.heap.size ≤ b ∧ Below w.heap.size w w' := memory_c _ _ _ _ _ _ w h
def c7 : Cf := ⟨3, 0, 1, 1, 1, 0⟩
end Go.Proofs.Ytijfkpoofpcacaa.StackF
end
section
namespace Go.Proofs.Ytijfkpoofpcacaa.StackP
open Go.RowKit Go.Proofs.Ytijfkpoofpcacaa.Blk Go.Proofs.Ytijfkpoofpcacaa.Core Go.Proofs.Ytijfkpoofpcacaa.MemC Go.Proofs.Ytijfkpoofpcacaa.MemT Go.Proofs.Ytijfkpoofpcacaa.Memory Go.Proofs.Ytijfkpoofpcacaa.PlanC Go.Proofs.Ytijfkpoofpcacaa.PlanD Go.Proofs.Ytijfkpoofpcacaa.StackC Go.Proofs.Ytijfkpoofpcacaa.StackL Go.Proofs.Ytijfkpoofpcacaa.StackS Go.Proofs.Ytijfkpoofpcacaa.StackF
def hd : List Int → Int
  | [] => 0
  | x :: _ => x + 1
def Lk (c : Cf) (f : Nat → Int) : List Int → Prop
  | [] => True
  | x :: r => (0 ≤ x ∧ x < c.S) ∧ f (c.link x).toNat = hd r ∧ Lk c f r
structure Stk (c : Cf) (f : Nat → Int) (t : Int) (L : List Int) : Prop where
  top : f 3 = 65536 * t + hd L
  t0 : 0 ≤ t
  lk : Lk c f L
  nd : L.Nodup
theorem Lk.mem {c : Cf} {f : Nat → Int} : ∀ {L : List Int}, Lk c f L → ∀ x ∈ L, 0 ≤ x ∧ x < c.S := by
  intro L
  induction L with
  | nil => intro _ x hx; cases hx
  | cons y r ih =>
    intro h x hx
    rcases List.mem_cons.1 hx with rfl | hx
    · exact h.1
    · exact ih h.2.2 x hx
theorem hd_bd {c : Cf} {f : Nat → Int} {L : List Int} (h : Lk c f L) : 0 ≤ hd L ∧ (0 ≤ c.S → hd L ≤ c.S) := by
  cases L with
  | nil => exact ⟨Int.le_refl 0, fun h => h⟩
  | cons x r => have := h.1; show 0 ≤ x + 1 ∧ (0 ≤ c.S → x + 1 ≤ c.S); omega
theorem link_inj {c : Cf} (hr : c.right = true) {x y : Int} (hx : 0 ≤ x ∧ x < c.S) (hy : 0 ≤ y ∧ y < c.S) (h : c.link x = c.link y) : x = y := by
  have hb := size_bd hr
  unfold Cf.link at h
  rw [if_pos ⟨hr, hx.1, hx.2⟩, if_pos ⟨hr, hy.1, hy.2⟩] at h
  have h2 : x * roomV c.A = y * roomV c.A := by omega
  exact Int.eq_of_mul_eq_mul_right (by omega) h2
theorem Lk.congr {c : Cf} {f g : Nat → Int} : ∀ {L : List Int}, Lk c f L → (∀ x ∈ L, g (c.link x).toNat = f (c.link x).toNat) → Lk c g L := by
  intro L
  induction L with
  | nil => intro _ _; trivial
  | cons y r ih =>
    intro h hg
    exact ⟨h.1, (hg y List.mem_cons_self).trans h.2.1, ih h.2.2 (fun x hx => hg x (List.mem_cons_of_mem _ hx))⟩
theorem upd_ne {f : Nat → Int} {a i : Nat} {v : Int} (h : i ≠ a) : upd f a v i = f i := if_neg h
theorem upd_eq {f : Nat → Int} {a : Nat} {v : Int} : upd f a v a = v := if_pos rfl
theorem nodup_len : ∀ (n : Nat) (l : List Int), l.Nodup → (∀ x ∈ l, 0 ≤ x ∧ x < (n : Int)) → l.length ≤ n := by
  intro n
  induction n with
  | zero =>
    intro l _ h
    cases l with
    | nil => exact Nat.le_refl _
    | cons a l => have := h a List.mem_cons_self; omega
  | succ n ih =>
    intro l hn h
    by_cases hm : (n : Int) ∈ l
    · have h1 := ih (l.erase (n : Int)) (hn.erase _) (fun x hx => by
        have hx' := (hn.mem_erase_iff).1 hx
        have := h x hx'.2
        have := hx'.1
        omega)
      rw [List.length_erase_of_mem hm] at h1
      omega
    · have h1 := ih l hn (fun x hx => by
        have := h x hx
        have : x ≠ n := fun e => hm (e ▸ hx)
        omega)
      omega
theorem chain_of {c : Cf} {f : Nat → Int} : ∀ {L : List Int} {n : Nat}, Lk c f L → L.length ≤ n → chain c f n (hd L) = L := by
  intro L
  induction L with
  | nil =>
    intro n _ _
    cases n with
    | zero => rfl
    | succ n => simp [chain, hd]
  | cons x r ih =>
    intro n h hl
    cases n with
    | zero => simp at hl
    | succ n =>
      obtain ⟨h1, h2, h3⟩ := h
      unfold chain
      have e : hd (x :: r) - 1 = x := by show x + 1 - 1 = x; omega
      rw [if_pos (by show 1 ≤ x + 1 ∧ x + 1 ≤ c.S; omega), e, h2, ih h3 (by simpa using hl)]
theorem moved_eq {t : Int} (ht : 0 ≤ t) (t1 : t + 1 < 281474976710656) {a s : Int} (ha : 0 ≤ a ∧ a < 65536) (hs : -1 ≤ s ∧ s < 64) : movedV (65536 * t + a) s = 65536 * (t + 1) + (s + 1) := by
  unfold movedV
  rw [if_pos hs]
  have e : (65536 * t + a) / 65536 = t := by omega
  rw [e]
  omega
section
variable {c : Cf} (hr : c.right = true) {f : Nat → Int} {t : Int} {L r : List Int} {x : Int}
include hr
theorem S_bd : 1 ≤ c.S ∧ c.S ≤ 64 := by have := right_iff.1 hr; omega
theorem Stk.len (h : Stk c f t L) : L.length ≤ c.S.toNat := nodup_len _ _ h.nd (fun x hx => by have := h.lk.mem x hx; have := S_bd hr; omega)
theorem Stk.list (h : Stk c f t L) : listV c f = L := by
  have hb := hd_bd h.lk
  have hS := S_bd hr
  unfold listV
  have e : f 3 % 65536 = hd L := by rw [h.top]; omega
  rw [e]
  exact chain_of h.lk (h.len hr)
theorem Stk.first (h : Stk c f t L) : firstI c.S (f 3) = hd L - 1 := by
  have hb := hd_bd h.lk
  have hS := S_bd hr
  have e : f 3 % 65536 = hd L := by rw [h.top]; omega
  unfold firstI
  rw [e]
  split
  · cases L with
    | nil => rfl
    | cons x r => have := h.lk.1; have : hd (x :: r) = x + 1 := rfl; omega
  · rfl
theorem link_ge (hx : 0 ≤ x ∧ x < c.S) : 4 ≤ (c.link x).toNat := by have := link_lt hr hx.1 hx.2; omega
theorem Stk.link_top (h : Stk c f t L) (v : Int) : ∀ y ∈ L, upd f 3 v (c.link y).toNat = f (c.link y).toNat := fun y hy => upd_ne (by have := link_ge hr (h.lk.mem y hy); omega)
theorem Stk.take (h : Stk c f t (x :: r)) (t1 : t + 1 < 281474976710656) : Stk c (upd f 3 (movedV (f 3) (hd r - 1))) (t + 1) r := by
  have hS := S_bd hr
  have hx := h.lk.1
  have hb := hd_bd h.lk.2.2
  have ht := h.t0
  refine ⟨?_, by omega, h.lk.2.2.congr (fun y hy => h.link_top hr _ y (List.mem_cons_of_mem _ hy)), (List.nodup_cons.1 h.nd).2⟩
  rw [upd_eq, h.top, moved_eq ht t1 (by show 0 ≤ x + 1 ∧ x + 1 < 65536; omega) (by omega)]
  omega
theorem Stk.lay (h : Stk c f t L) (t1 : t + 1 < 281474976710656) (hx : 0 ≤ x ∧ x < c.S) (hn : x ∉ L) (hl : f (c.link x).toNat = hd L) : Stk c (upd f 3 (movedV (f 3) x)) (t + 1) (x :: L) := by
  have hS := S_bd hr
  have hb := hd_bd h.lk
  have ht := h.t0
  refine ⟨?_, by omega, ⟨hx, ?_, h.lk.congr (fun y hy => h.link_top hr _ y hy)⟩, List.nodup_cons.2 ⟨hn, h.nd⟩⟩
  · rw [upd_eq, h.top, moved_eq ht t1 (by omega) (by omega)]
    rfl
  · rw [upd_ne (by have := link_ge hr hx; omega)]; exact hl
theorem Stk.store (h : Stk c f t L) (hx : 0 ≤ x ∧ x < c.S) (hn : x ∉ L) (v : Int) : Stk c (upd f (c.link x).toNat v) t L := by
  refine ⟨?_, h.t0, h.lk.congr (fun y hy => upd_ne (fun e => ?_)), h.nd⟩
  · rw [upd_ne (by have := link_ge hr hx; omega)]; exact h.top
  · have h1 := link_lt hr (h.lk.mem y hy).1 (h.lk.mem y hy).2
    have h2 := link_lt hr hx.1 hx.2
    have := link_inj hr (h.lk.mem y hy) hx (by omega)
    exact hn (this ▸ hy)
end
theorem ld_f (M : Ms) (a : Int) : (M.ldS a).f = M.f ∧ (M.ldS a).n = M.n := by
  unfold Ms.ldS
  split
  · refine ⟨?_, rfl⟩
    funext i
    show upd M.f a.toNat (M.f a.toNat) i = M.f i
    unfold upd
    split
    · rename_i e; rw [e]
    · rfl
  · exact ⟨rfl, rfl⟩
theorem ld_v {M : Ms} {a : Int} (h0 : 0 ≤ a) (h1 : a < M.n) : M.ldV a = M.f a.toNat := by unfold Ms.ldV; rw [if_pos (inn_iff.2 ⟨h0, h1⟩)]
theorem sw_yes {M : Ms} {a old now : Int} (h0 : 0 ≤ a) (h1 : a < M.n) (h : M.f a.toNat = old) : M.swV a old = true ∧ (M.swS a old now).f = upd M.f a.toNat now ∧ (M.swS a old now).n = M.n := by
  have hi : M.inn a = true := inn_iff.2 ⟨h0, h1⟩
  refine ⟨by unfold Ms.swV; rw [hi, decide_eq_true h]; rfl, ?_, ?_⟩
  · unfold Ms.swS; rw [if_pos hi, if_pos h]; rfl
  · unfold Ms.swS; rw [if_pos hi]; rfl
theorem sw_no {M : Ms} {a old now : Int} (h : M.f a.toNat ≠ old) : M.swV a old = false ∧ (M.swS a old now).f = M.f ∧ (M.swS a old now).n = M.n := by
  refine ⟨by unfold Ms.swV; rw [decide_eq_false h, Bool.and_false], ?_, ?_⟩
  · unfold Ms.swS
    by_cases hi : M.inn a = true
    · rw [if_pos hi, if_neg h]
      funext i
      show upd M.f a.toNat (M.f a.toNat) i = M.f i
      unfold upd
      split
      · rename_i e; rw [e]
      · rfl
    · rw [if_neg hi]
  · unfold Ms.swS; split <;> rfl
theorem st_f {M : Ms} {a v : Int} (h0 : 0 ≤ a) (h1 : a < M.n) : (M.stS a v).f = upd M.f a.toNat v ∧ (M.stS a v).n = M.n := by
  unfold Ms.stS; rw [if_pos (inn_iff.2 ⟨h0, h1⟩)]; exact ⟨rfl, rfl⟩
def ups (k : Nat) : Nat → List Int
  | 0 => []
  | n + 1 => (k : Int) :: ups (k + 1) n
theorem ups_mem : ∀ {n k : Nat} {x : Int}, x ∈ ups k n → (k : Int) ≤ x ∧ x < (k : Int) + n := by
  intro n
  induction n with
  | zero => intro k x h; cases h
  | succ n ih =>
    intro k x h
    rcases List.mem_cons.1 h with rfl | h
    · omega
    · have := ih h; omega
theorem ups_nodup : ∀ (n k : Nat), (ups k n).Nodup := by
  intro n
  induction n with
  | zero => intro k; exact List.nodup_nil
  | succ n ih => intro k; exact List.nodup_cons.2 ⟨fun h => by have := ups_mem h; omega, ih _⟩
theorem memF_last {A C H : Int} {j : Nat} (h4 : 4 ≤ slotsV C H) (h5 : 5 ≤ roomV A) : memF A C H j (slotsV C H + j * roomV A + 1).toNat = 0 := by
  have hm : 0 ≤ (j : Int) * roomV A := Int.mul_nonneg (by omega) (by omega)
  unfold memF
  have e : (((slotsV C H + j * roomV A + 1).toNat : Nat) : Int) - slotsV C H = 1 + j * roomV A := by omega
  rw [if_neg (by omega), if_neg (by omega), e]
  have e2 : (1 + (j : Int) * roomV A) / roomV A = j := by rw [Int.add_mul_ediv_right _ _ (by omega), Int.ediv_eq_zero_of_lt (by omega) (by omega)]; omega
  rw [e2, if_neg (by omega)]
theorem stk_lk {c : Cf} (hr : c.right = true) : ∀ (n k : Nat), ((k + n : Nat) : Int) = c.S → Lk c (memF c.A c.C c.H (c.S - 1).toNat) (ups k n) := by
  have hb := size_bd hr
  have hS := S_bd hr
  intro n
  induction n with
  | zero => intro k _; trivial
  | succ n ih =>
    intro k hk
    refine ⟨by omega, ?_, ih (k + 1) (by omega)⟩
    unfold Cf.link
    rw [if_pos ⟨hr, by omega, by omega⟩]
    cases n with
    | zero =>
      have : (c.S - 1).toNat = k := by omega
      rw [this]
      exact memF_last (by omega) (by omega)
    | succ n =>
      rw [memF_link (by omega) (by omega) (by omega)]
      show (k : Int) + 2 = ((k + 1 : Nat) : Int) + 1
      omega
theorem stk_start {c : Cf} (hr : c.right = true) : Stk c (memF c.A c.C c.H (c.S - 1).toNat) 0 (ups 0 c.S.toNat) := by
  have hS := S_bd hr
  refine ⟨?_, Int.le_refl 0, stk_lk hr _ 0 (by omega), ups_nodup _ _⟩
  obtain ⟨k, hk⟩ : ∃ k, c.S.toNat = k + 1 := ⟨c.S.toNat - 1, by omega⟩
  rw [hk]
  rfl
end Go.Proofs.Ytijfkpoofpcacaa.StackP
end
namespace Go.Proofs.Ytijfkpoofpcacaa.StackQ
end Go.Proofs.Ytijfkpoofpcacaa.StackQ
section
namespace Go.Proofs.Ytijfkpoofpcacaa.TakerL
open Go.RowKit Go.Proofs.Ytijfkpoofpcacaa.Blk Go.Proofs.Ytijfkpoofpcacaa.Core Go.Proofs.Ytijfkpoofpcacaa.MemC Go.Proofs.Ytijfkpoofpcacaa.MemT Go.Proofs.Ytijfkpoofpcacaa.Memory Go.Proofs.Ytijfkpoofpcacaa.PlanC Go.Proofs.Ytijfkpoofpcacaa.PlanD Go.Proofs.Ytijfkpoofpcacaa.StackC Go.Proofs.Ytijfkpoofpcacaa.StackL Go.Proofs.Ytijfkpoofpcacaa.StackS Go.Proofs.Ytijfkpoofpcacaa.StackF Go.Proofs.Ytijfkpoofpcacaa.StackP Go.Proofs.Ytijfkpoofpcacaa.StackQ
def Tg (f : Nat → Int) (t tp : Int) : Prop := (0 ≤ tp ∧ tp < 18446744073709551616) ∧ tp / 65536 ≤ t ∧ (tp / 65536 = t → tp = f 3)
def PopI (f : Nat → Int) (t : Int) (L : List Int) (q : Pop) : Prop :=
  q.sl = -1 ∧ q.em = false ∧ (0 ≤ q.tp ∧ q.tp < 18446744073709551616) ∧
    (q.a = 0 ∨ (q.a = 1 ∧ Tg f t q.tp ∧ (q.tp = f 3 → L ≠ [])) ∨ (q.a = 2 ∧ Tg f t q.tp ∧ (q.tp = f 3 → L ≠ [] ∧ q.nx = hd L.tail - 1)))
def PushI (c : Cf) (f : Nat → Int) (t : Int) (L : List Int) (q : Push) : Prop :=
  (0 ≤ q.tp ∧ q.tp < 18446744073709551616) ∧ (q.a = 0 ∨ (q.a = 1 ∧ Tg f t q.tp) ∨ (q.a = 2 ∧ Tg f t q.tp ∧ (q.tp = f 3 → f (c.link q.sl).toNat = hd L)))
theorem popI_new (f : Nat → Int) (t : Int) (L : List Int) : PopI f t L ⟨-1, false, 0, 0, 0⟩ := ⟨rfl, rfl, ⟨by decide, by decide⟩, .inl rfl⟩
theorem pushI_new (c : Cf) (f : Nat → Int) (t : Int) (L : List Int) (x : Int) : PushI c f t L ⟨x, 0, 0⟩ := ⟨⟨Int.le_refl 0, by show (0 : Int) < _; decide⟩, .inl rfl⟩
theorem Tg.same {f f' : Nat → Int} {t tp : Int} (h : Tg f t tp) (e : f' 3 = f 3) : Tg f' t tp := ⟨h.1, h.2.1, fun k => by rw [e]; exact h.2.2 k⟩
theorem Tg.next {f f' : Nat → Int} {t tp : Int} (h : Tg f t tp) : Tg f' (t + 1) tp := ⟨h.1, by have := h.2.1; omega, fun k => by have := h.2.1; omega⟩
theorem PopI.same {f f' : Nat → Int} {t : Int} {L : List Int} {q : Pop} (h : PopI f t L q) (e : f' 3 = f 3) : PopI f' t L q := by
  refine ⟨h.1, h.2.1, h.2.2.1, ?_⟩
  rw [e]
  rcases h.2.2.2 with a | ⟨a, b, d⟩ | ⟨a, b, d⟩
  · exact .inl a
  · exact .inr (.inl ⟨a, b.same e, d⟩)
  · exact .inr (.inr ⟨a, b.same e, d⟩)
theorem PushI.same {c : Cf} {f f' : Nat → Int} {t : Int} {L : List Int} {q : Push} (h : PushI c f t L q) (e : f' 3 = f 3) (e2 : f' (c.link q.sl).toNat = f (c.link q.sl).toNat) : PushI c f' t L q := by
  refine ⟨h.1, ?_⟩
  rw [e, e2]
  rcases h.2 with a | ⟨a, b⟩ | ⟨a, b, d⟩
  · exact .inl a
  · exact .inr (.inl ⟨a, b.same e⟩)
  · exact .inr (.inr ⟨a, b.same e, d⟩)
section
variable {c : Cf} (hr : c.right = true) {f f' : Nat → Int} {t : Int} {L L' : List Int}
include hr
theorem top_tag (h : Stk c f t L) : f 3 / 65536 = t ∧ 0 ≤ f 3 := by
  have hS := S_bd hr
  have hb := hd_bd h.lk
  have ht := h.t0
  rw [h.top]; omega
theorem tg_top (h : Stk c f t L) (ht : t < 281474976710656) : Tg f t (f 3) := by
  have hS := S_bd hr
  have hb := hd_bd h.lk
  have h0 := h.t0
  have h1 := top_tag hr h
  have h2 := h.top
  exact ⟨⟨h1.2, by omega⟩, by omega, fun _ => rfl⟩
theorem PopI.next {q : Pop} (h : PopI f t L q) (hs : Stk c f' (t + 1) L') : PopI f' (t + 1) L' q := by
  have h1 := (top_tag hr hs).1
  refine ⟨h.1, h.2.1, h.2.2.1, ?_⟩
  rcases h.2.2.2 with a | ⟨a, b, d⟩ | ⟨a, b, d⟩
  · exact .inl a
  · exact .inr (.inl ⟨a, b.next, fun e => by have := b.2.1; rw [e] at this; omega⟩)
  · exact .inr (.inr ⟨a, b.next, fun e => by have := b.2.1; rw [e] at this; omega⟩)
theorem PushI.next {q : Push} (h : PushI c f t L q) (hs : Stk c f' (t + 1) L') : PushI c f' (t + 1) L' q := by
  have h1 := (top_tag hr hs).1
  refine ⟨h.1, ?_⟩
  rcases h.2 with a | ⟨a, b⟩ | ⟨a, b, d⟩
  · exact .inl a
  · exact .inr (.inl ⟨a, b.next⟩)
  · exact .inr (.inr ⟨a, b.next, fun e => by have := b.2.1; rw [e] at this; omega⟩)
variable {M : Ms} (hn : M.n = c.size) (hu : U M.f)
include hn hu
theorem ld3' : M.ldV 3 = M.f 3 := ld_v (by decide) (by have := size_bd hr; unfold Cf.size at hn; omega)
theorem pop_step (h : Stk c M.f t L) (ht : t + 1 < 281474976710656) {q : Pop} (hq : PopI M.f t L q) :
    (popD c q M = false ∧ PopI (popM c q M).f t L (popS c q M) ∧ (popM c q M).f = M.f) ∨
    (popD c q M = true ∧ L = [] ∧ (popS c q M).em = true ∧ (popS c q M).sl = -1 ∧ (popM c q M).f = M.f) ∨
    (popD c q M = true ∧ ∃ x r, L = x :: r ∧ (popS c q M).em = false ∧ (popS c q M).sl = x ∧ (0 ≤ x ∧ x < c.S) ∧ Stk c (popM c q M).f (t + 1) r) := by
  have hS := S_bd hr
  have hb := hd_bd h.lk
  have e3 := ld3' hr hn hu
  have h1 := h.first hr
  have hsz := size_bd hr
  have hn9 : (9 : Int) ≤ M.n := by unfold Cf.size at hn; omega
  obtain ⟨sl, em, a, tp, nx⟩ := q
  obtain ⟨q1, q2, q3, q4⟩ := hq
  obtain rfl : sl = -1 := q1
  obtain rfl : em = false := q2
  rcases q4 with q4 | ⟨q4, q5, q6⟩ | ⟨q4, q5, q6⟩
  · obtain rfl : a = 0 := q4
    have ef : (popM c ⟨-1, false, 0, tp, nx⟩ M).f = M.f := by simp only [popM, if_pos]; exact (ld_f M 3).1
    cases L with
    | nil =>
      have h2 : firstI c.S (M.f 3) < 0 := by rw [h1]; decide
      exact .inr (.inl ⟨by simp [popD, popS, e3, h2], rfl, by simp [popS, e3, h2], by simp [popS, e3, h2], ef⟩)
    | cons x r =>
      have hx := h.lk.1
      have h2 : ¬ firstI c.S (M.f 3) < 0 := by rw [h1]; show ¬ x + 1 - 1 < 0; omega
      have hS' : popS c ⟨-1, false, 0, tp, nx⟩ M = ⟨-1, false, 1, M.f 3, nx⟩ := by simp [popS, e3, h2]
      refine .inl ⟨by unfold popD; rw [hS']; rfl, ?_, ef⟩
      rw [hS', ef]
      exact ⟨rfl, rfl, ⟨(hu 3).1, (hu 3).2⟩, .inr (.inl ⟨rfl, tg_top hr h (by omega), fun _ h => by cases h⟩)⟩
  · obtain rfl : a = 1 := q4
    have ef : (popM c ⟨-1, false, 1, tp, nx⟩ M).f = M.f := by rw [show popM c ⟨-1, false, 1, tp, nx⟩ M = M.ldS (c.link (firstI c.S tp)) by simp [popM]]; exact (ld_f M _).1
    refine .inl ⟨by simp [popD, popS], ?_, ef⟩
    rw [ef]
    refine ⟨by simp [popS], by simp [popS], by simpa [popS] using q3, .inr (.inr ⟨by simp [popS], by simpa [popS] using q5, ?_⟩)⟩
    intro e
    have e' : tp = M.f 3 := by simpa [popS] using e
    have hne := q6 e'
    refine ⟨hne, ?_⟩
    cases L with
    | nil => exact absurd rfl hne
    | cons x r =>
      have hx := h.lk.1
      have hl := link_lt hr hx.1 hx.2
      have hbr := hd_bd h.lk.2.2
      have e4 : M.ldV (c.link x) = hd r := by rw [ld_v (by omega) (by rw [hn]; exact hl.2)]; exact h.lk.2.1
      have e5 : linkedI c.S (hd r) = hd r - 1 := by unfold linkedI; rw [if_neg (by omega)]
      have e6 : firstI c.S tp = x := by rw [e', h1]; show x + 1 - 1 = x; omega
      show (popS c ⟨-1, false, 1, tp, nx⟩ M).nx = hd r - 1
      simp [popS, e6, e4, e5]
  · obtain rfl : a = 2 := q4
    have q5' : Tg M.f t tp := q5
    by_cases e : M.f 3 = tp
    · obtain ⟨hne, hnx⟩ := q6 e.symm
      cases L with
      | nil => exact absurd rfl hne
      | cons x r =>
        have hx := h.lk.1
        have hnx' : nx = hd r - 1 := hnx
        obtain ⟨s1, s2, s3⟩ := sw_yes (M := M) (a := 3) (old := tp) (now := movedV tp nx) (by decide) (by omega) e
        have e6 : firstI c.S tp = x := by rw [← e, h1]; show x + 1 - 1 = x; omega
        refine .inr (.inr ⟨by simp [popD, popS, s1], x, r, rfl, by simp [popS, s1], by simp [popS, s1, e6], hx, ?_⟩)
        have : (popM c ⟨-1, false, 2, tp, nx⟩ M).f = upd M.f 3 (movedV (M.f 3) (hd r - 1)) := by
          rw [show popM c ⟨-1, false, 2, tp, nx⟩ M = M.swS 3 tp (movedV tp nx) by simp [popM], s2, e, hnx']
          rfl
        rw [this]
        exact h.take hr ht
    · obtain ⟨s1, s2, s3⟩ := sw_no (M := M) (a := 3) (old := tp) (now := movedV tp nx) e
      have ef : (popM c ⟨-1, false, 2, tp, nx⟩ M).f = M.f := by
        rw [show popM c ⟨-1, false, 2, tp, nx⟩ M = M.swS 3 tp (movedV tp nx) by simp [popM], s2]
      refine .inl ⟨by simp [popD, popS, s1], ?_, ef⟩
      rw [ef]
      exact ⟨by simp [popS, s1], by simp [popS, s1], by simpa [popS, s1] using q3, .inl (by simp [popS, s1])⟩
theorem push_step (h : Stk c M.f t L) (ht : t + 1 < 281474976710656) {q : Push} (hq : PushI c M.f t L q) (hx : 0 ≤ q.sl ∧ q.sl < c.S) (hm : q.sl ∉ L) :
    (pushS c q M).sl = q.sl ∧
    ((pushD c q M = false ∧ PushI c (pushM c q M).f t L (pushS c q M) ∧ Stk c (pushM c q M).f t L ∧ (pushM c q M).f 3 = M.f 3 ∧ (∀ y, (0 ≤ y ∧ y < c.S) → y ≠ q.sl → (pushM c q M).f (c.link y).toNat = M.f (c.link y).toNat)) ∨
    (pushD c q M = true ∧ Stk c (pushM c q M).f (t + 1) (q.sl :: L))) := by
  have hS := S_bd hr
  have hb := hd_bd h.lk
  have e3 := ld3' hr hn hu
  have h1 := h.first hr
  have hsz := size_bd hr
  have hn9 : (9 : Int) ≤ M.n := by unfold Cf.size at hn; omega
  obtain ⟨sl, a, tp⟩ := q
  have hx' : 0 ≤ sl ∧ sl < c.S := hx
  have hm' : sl ∉ L := hm
  obtain ⟨q3, q4⟩ := hq
  have hl := link_lt hr hx'.1 hx'.2
  rcases q4 with q4 | ⟨q4, q5⟩ | ⟨q4, q5, q6⟩
  · obtain rfl : a = 0 := q4
    have ef : (pushM c ⟨sl, 0, tp⟩ M).f = M.f := by simp only [pushM, if_pos]; exact (ld_f M 3).1
    refine ⟨by simp [pushS], .inl ⟨by simp [pushD, pushS], ?_, by rw [ef]; exact h, by rw [ef], fun y _ _ => by rw [ef]⟩⟩
    rw [ef]
    refine ⟨by simpa [pushS, e3] using hu 3, .inr (.inl ⟨by simp [pushS], ?_⟩)⟩
    have := tg_top hr h (by omega)
    simpa [pushS, e3] using this
  · obtain rfl : a = 1 := q4
    have q5' : Tg M.f t tp := q5
    obtain ⟨s1, s2⟩ := st_f (M := M) (a := c.link sl) (v := firstI c.S tp + 1) (by omega) (by rw [hn]; exact hl.2)
    have ef : (pushM c ⟨sl, 1, tp⟩ M).f = upd M.f (c.link sl).toNat (firstI c.S tp + 1) := by
      rw [show pushM c ⟨sl, 1, tp⟩ M = M.stS (c.link sl) (firstI c.S tp + 1) by simp [pushM], s1]
    have e33 : (pushM c ⟨sl, 1, tp⟩ M).f 3 = M.f 3 := by rw [ef, upd_ne (by omega)]
    refine ⟨by simp [pushS], .inl ⟨by simp [pushD, pushS], ?_, by rw [ef]; exact h.store hr hx' hm' _, e33, fun y hy hne => ?_⟩⟩
    · refine ⟨by simpa [pushS] using q3, .inr (.inr ⟨by simp [pushS], by simpa [pushS] using q5'.same e33, ?_⟩)⟩
      intro e
      have e' : tp = M.f 3 := by rw [e33] at e; simpa [pushS] using e
      show (pushM c ⟨sl, 1, tp⟩ M).f (c.link (pushS c ⟨sl, 1, tp⟩ M).sl).toNat = hd L
      rw [ef, show (pushS c ⟨sl, 1, tp⟩ M).sl = sl by simp [pushS], upd_eq, e', h1]
      omega
    · rw [ef, upd_ne]
      intro e
      have h2 := link_lt hr hy.1 hy.2
      have h3 : y = sl := link_inj hr hy hx' (by omega)
      exact hne h3
  · obtain rfl : a = 2 := q4
    have q5' : Tg M.f t tp := q5
    by_cases e : M.f 3 = tp
    · have hlk : M.f (c.link sl).toNat = hd L := q6 e.symm
      obtain ⟨s1, s2, s3⟩ := sw_yes (M := M) (a := 3) (old := tp) (now := movedV tp sl) (by decide) (by omega) e
      refine ⟨by simp [pushS, s1], .inr ⟨by simp [pushD, pushS, s1], ?_⟩⟩
      have : (pushM c ⟨sl, 2, tp⟩ M).f = upd M.f 3 (movedV (M.f 3) sl) := by
        rw [show pushM c ⟨sl, 2, tp⟩ M = M.swS 3 tp (movedV tp sl) by simp [pushM], s2, e]
        rfl
      rw [this]
      exact h.lay hr ht hx' hm' hlk
    · obtain ⟨s1, s2, s3⟩ := sw_no (M := M) (a := 3) (old := tp) (now := movedV tp sl) e
      have ef : (pushM c ⟨sl, 2, tp⟩ M).f = M.f := by
        rw [show pushM c ⟨sl, 2, tp⟩ M = M.swS 3 tp (movedV tp sl) by simp [pushM], s2]
      refine ⟨by simp [pushS, s1], .inl ⟨by simp [pushD, pushS, s1], ?_, by rw [ef]; exact h, by rw [ef], fun y _ _ => by rw [ef]⟩⟩
      rw [ef]
      exact ⟨by simpa [pushS, s1] using q3, .inl (by simp [pushS, s1])⟩
end
end Go.Proofs.Ytijfkpoofpcacaa.TakerL
end
section
namespace Go.Proofs.Ytijfkpoofpcacaa.PArenaPlays
open Go.RowKit Go.Proofs.YtijfkpoofpcacaaW.PrintWords Go.Proofs.YtijfkpoofpcacaaW.PrintLast Go.Proofs.YtijfkpoofpcacaaW.PrintMore
attribute [local go_sem] max2_int max_two
def head_bit.f (a0 : Bool) : Option (Int) := if a0 = true then (some 1) else (some 0)
set_option maxHeartbeats 8000000 in
set_option maxRecDepth 100000 in
theorem head_bit.calls (a0 : Bool) (r : Int) (w : World) (h : head_bit.f a0 = some r) :
    Calls Try.prog 106 #[.bool a0] w fun e w' => e = .returned (.int .u64 r) ∧ Drawn0 w w' := by
  have H : (if a0 = true then (some 1) else (some 0)) = some r := h
  clear h
  by_cases c2 : a0 = true
  · subst c2
    have H1 : (some 1) = some r := by rw [if_pos rfl] at H; exact H
    clear H
    have H := H1
    clear H1
    obtain rfl := Option.some.inj H
    go_enter Try.func106, Try.ntmps106
    go_wp2
    go_ret
    exact ⟨by first | rfl | (simp; done) | (simp [*]; done), by repeat (first | exact Drawn0.refl _ | apply Drawn0.step)⟩
  · replace c2 := Bool.eq_false_iff.mpr c2
    subst c2
    have H1 : (some 0) = some r := by rw [if_neg (show ¬ (false = true) by decide)] at H; exact H
    clear H
    have H := H1
    clear H1
    obtain rfl := Option.some.inj H
    go_enter Try.func106, Try.ntmps106
    go_wp2
    go_ret
    exact ⟨by first | rfl | (simp; done) | (simp [*]; done), by repeat (first | exact Drawn0.refl _ | apply Drawn0.step)⟩
def turn_Cycle.f (a0 : Int) : Option (Int) := some (IntKind.u64.wrap (Int.tdiv a0 4))
set_option maxHeartbeats 8000000 in
set_option maxRecDepth 100000 in
theorem turn_Cycle.calls (a0 : Int) (r : Int) (w : World) (h : turn_Cycle.f a0 = some r) :
    Calls Try.prog 112 #[.int .u64 a0] w fun e w' => e = .returned (.int .u64 r) ∧ Drawn0 w w' := by
  have H : (some (IntKind.u64.wrap (Int.tdiv a0 4))) = some r := h
  clear h
  obtain rfl := Option.some.inj H
  go_enter Try.func112, Try.ntmps112
  go_wp2
  go_ret
  exact ⟨by first | rfl | (simp; done) | (simp [*]; done), by repeat (first | exact Drawn0.refl _ | apply Drawn0.step)⟩
def turn_Black.f (a0 : Int) : Option (Int) := (turn_Cycle.f a0).bind fun t240 => (some (wrap64 (Int.tmod (IntKind.u64.wrap (t240 + 1)) 2)))
set_option maxHeartbeats 8000000 in
set_option maxRecDepth 100000 in
theorem turn_Black.calls (a0 : Int) (r : Int) (w : World) (h : turn_Black.f a0 = some r) :
    Calls Try.prog 107 #[.int .u64 a0] w fun e w' => e = .returned (.int .i64 r) ∧ Drawn0 w w' := by
  have H : ((turn_Cycle.f a0).bind fun t240 => (some (wrap64 (Int.tmod (IntKind.u64.wrap (t240 + 1)) 2)))) = some r := h
  clear h
  replace H := Option.bind_eq_some_iff.mp H
  obtain ⟨t240, A20, H⟩ := H
  replace H : (some (wrap64 (Int.tmod (IntKind.u64.wrap (t240 + 1)) 2))) = some r := H
  have A2 := Aside0.mk A20
  clear A20
  obtain rfl := Option.some.inj H
  go_enter Try.func107, Try.ntmps107
  go_wp2_with (first | ((with_reducible refine gate_callee (f := 112) rfl ?_); refine goesL_ (some 4) rfl rfl Try.func112 (by kernel_rfl) rfl #[.int .u64 a0] rfl (by (try simp only [List.map_toArray, List.map_cons, List.map_nil]); first | done | rfl | (simp only [List.length_drop, List.length_take]; rfl)) ?_; (with_reducible refine (turn_Cycle.calls a0 t240 _ A2.out).mono ?_); rintro e w' ⟨rfl, ⟨nd, rfl⟩⟩; refine ⟨_, rfl, ?_⟩))
  go_ret
  exact ⟨by first | rfl | (simp; done) | (simp [*]; done), by repeat (first | exact Drawn0.refl _ | apply Drawn0.step)⟩
def turn_Born.f (a0 : Int) : Option (Int) := if (Int.tmod a0 4) = 0 then ((turn_Black.f a0).bind fun t241 => (some (wrap64 (1 - t241)))) else ((turn_Black.f a0).bind fun t242 => (some t242))
set_option maxHeartbeats 8000000 in
set_option maxRecDepth 100000 in
theorem turn_Born.calls (a0 : Int) (r : Int) (w : World) (h : turn_Born.f a0 = some r) :
    Calls Try.prog 101 #[.int .u64 a0] w fun e w' => e = .returned (.int .i64 r) ∧ Drawn0 w w' := by
  have H : (if (Int.tmod a0 4) = 0 then ((turn_Black.f a0).bind fun t241 => (some (wrap64 (1 - t241)))) else ((turn_Black.f a0).bind fun t242 => (some t242))) = some r := h
  clear h
  by_cases c2 : (Int.tmod a0 4) = 0
  · rw [if_pos c2] at H
    have c2b0 : ((Int.tmod a0 4) == 0) = true := beq_iff_eq.mpr c2
    have c2b1 : ((Int.tmod a0 4) != 0) = false := bne_eq_false_iff_eq.mpr c2
    clear c2
    replace H := Option.bind_eq_some_iff.mp H
    obtain ⟨t241, A30, H⟩ := H
    replace H : (some (wrap64 (1 - t241))) = some r := H
    have A3 := Aside0.mk A30
    clear A30
    obtain rfl := Option.some.inj H
    go_enter Try.func101, Try.ntmps101
    go_wp2_with (first | ((with_reducible refine gate_callee (f := 107) rfl ?_); refine goesL_ (some 7) rfl rfl Try.func107 (by kernel_rfl) rfl #[.int .u64 a0] rfl (by (try simp only [List.map_toArray, List.map_cons, List.map_nil]); first | done | rfl | (simp only [List.length_drop, List.length_take]; rfl)) ?_; (with_reducible refine (turn_Black.calls a0 t241 _ A3.out).mono ?_); rintro e w' ⟨rfl, ⟨nd, rfl⟩⟩; refine ⟨_, rfl, ?_⟩))
    go_ret
    exact ⟨by first | rfl | (simp; done) | (simp [*]; done), by repeat (first | exact Drawn0.refl _ | apply Drawn0.step)⟩
  · rw [if_neg c2] at H
    have c2b0 : ((Int.tmod a0 4) == 0) = false := beq_eq_false_iff_ne.mpr c2
    have c2b1 : ((Int.tmod a0 4) != 0) = true := bne_iff_ne.mpr c2
    replace H := Option.bind_eq_some_iff.mp H
    obtain ⟨t242, A40, H⟩ := H
    replace H : (some t242) = some r := H
    have A4 := Aside0.mk A40
    clear A40
    obtain rfl := Option.some.inj H
    go_enter Try.func101, Try.ntmps101
    go_wp2_with (first | ((with_reducible refine gate_callee (f := 107) rfl ?_); refine goesL_ (some 10) rfl rfl Try.func107 (by kernel_rfl) rfl #[.int .u64 a0] rfl (by (try simp only [List.map_toArray, List.map_cons, List.map_nil]); first | done | rfl | (simp only [List.length_drop, List.length_take]; rfl)) ?_; (with_reducible refine (turn_Black.calls a0 t242 _ A4.out).mono ?_); rintro e w' ⟨rfl, ⟨nd, rfl⟩⟩; refine ⟨_, rfl, ?_⟩))
    go_ret
    exact ⟨by first | rfl | (simp; done) | (simp [*]; done), by repeat (first | exact Drawn0.refl _ | apply Drawn0.step)⟩
def withyref04_Pack.f (a0_0 : Int) (a0_1 : Int) (a0_2 : Bool) (a0_3 : Int) (a0_4 : Int) (a0_5 : Int) : Option (Int) := if a0_2 = true then (some (IntKind.u64.wrap ((IntKind.u64.wrap ((IntKind.u64.wrap ((IntKind.u64.wrap ((IntKind.u64.wrap ((IntKind.u64.wrap (a0_0)) + (IntKind.u64.wrap (8 * (IntKind.u64.wrap (a0_1)))))) + (IntKind.u64.wrap (32 * (IntKind.u64.wrap (a0_3)))))) + (IntKind.u64.wrap (65536 * (IntKind.u64.wrap (a0_4)))))) + (IntKind.u64.wrap (281474976710656 * (IntKind.u64.wrap (a0_5)))))) + 16))) else (some (IntKind.u64.wrap ((IntKind.u64.wrap ((IntKind.u64.wrap ((IntKind.u64.wrap ((IntKind.u64.wrap (a0_0)) + (IntKind.u64.wrap (8 * (IntKind.u64.wrap (a0_1)))))) + (IntKind.u64.wrap (32 * (IntKind.u64.wrap (a0_3)))))) + (IntKind.u64.wrap (65536 * (IntKind.u64.wrap (a0_4)))))) + (IntKind.u64.wrap (281474976710656 * (IntKind.u64.wrap (a0_5)))))))
set_option maxHeartbeats 8000000 in
set_option maxRecDepth 100000 in
theorem withyref04_Pack.calls (a0_0 : Int) (a0_1 : Int) (a0_2 : Bool) (a0_3 : Int) (a0_4 : Int) (a0_5 : Int) (r : Int) (w : World) (h : withyref04_Pack.f a0_0 a0_1 a0_2 a0_3 a0_4 a0_5 = some r) :
    Calls Try.prog 58 #[.agg #[.int .i64 a0_0, .int .i64 a0_1, .bool a0_2, .int .i64 a0_3, .int .i64 a0_4, .int .i64 a0_5]] w fun e w' => e = .returned (.int .u64 r) ∧ Below w.heap.size w w' := by
  have hu85 := Try.underlying85
  have HB := Aside0.mk (Below.refl w.heap.size w)
  have H : (if a0_2 = true then (some (IntKind.u64.wrap ((IntKind.u64.wrap ((IntKind.u64.wrap ((IntKind.u64.wrap ((IntKind.u64.wrap ((IntKind.u64.wrap (a0_0)) + (IntKind.u64.wrap (8 * (IntKind.u64.wrap (a0_1)))))) + (IntKind.u64.wrap (32 * (IntKind.u64.wrap (a0_3)))))) + (IntKind.u64.wrap (65536 * (IntKind.u64.wrap (a0_4)))))) + (IntKind.u64.wrap (281474976710656 * (IntKind.u64.wrap (a0_5)))))) + 16))) else (some (IntKind.u64.wrap ((IntKind.u64.wrap ((IntKind.u64.wrap ((IntKind.u64.wrap ((IntKind.u64.wrap (a0_0)) + (IntKind.u64.wrap (8 * (IntKind.u64.wrap (a0_1)))))) + (IntKind.u64.wrap (32 * (IntKind.u64.wrap (a0_3)))))) + (IntKind.u64.wrap (65536 * (IntKind.u64.wrap (a0_4)))))) + (IntKind.u64.wrap (281474976710656 * (IntKind.u64.wrap (a0_5)))))))) = some r := h
  clear h
  by_cases c2 : a0_2 = true
  · subst c2
    have H1 : (some (IntKind.u64.wrap ((IntKind.u64.wrap ((IntKind.u64.wrap ((IntKind.u64.wrap ((IntKind.u64.wrap ((IntKind.u64.wrap (a0_0)) + (IntKind.u64.wrap (8 * (IntKind.u64.wrap (a0_1)))))) + (IntKind.u64.wrap (32 * (IntKind.u64.wrap (a0_3)))))) + (IntKind.u64.wrap (65536 * (IntKind.u64.wrap (a0_4)))))) + (IntKind.u64.wrap (281474976710656 * (IntKind.u64.wrap (a0_5)))))) + 16))) = some r := by rw [if_pos rfl] at H; exact H
    clear H
    have H := H1
    clear H1
    obtain rfl := Option.some.inj H
    go_enter Try.func58, Try.ntmps58
    go_wp2_with (first | ((with_reducible refine gate_dst (N := 1) rfl ?_); refine box_event ?hg (N := 1) ?hd (cs := #[.int .i64 a0_0, .int .i64 a0_1, .bool true, .int .i64 a0_3, .int .i64 a0_4, .int .i64 a0_5]) (t := 85) ?hr ?_; (case hd => rfl); (case hg => rfl); (case hr => first | (go_simp; done) | (go_simp; rfl)); intro gb244 hg w3 hbox hb; have n0_ := Aside0.mk (below_step (by repeat (first | (with_reducible first | exact HB.out | apply below_alloc | apply pw_below_drewN | apply below_drew1) | exact HB.out)) hb); have n1_ := Aside0.mk (hbox); have n2_ := Aside0.mk ((by rw [hg]; exact (below_size (by repeat (first | (with_reducible first | exact HB.out | apply below_alloc | apply pw_below_drewN | apply below_drew1) | exact HB.out))) : w.heap.size ≤ gb244)); have n3_ := Aside0.mk ((by rw [hg]; exact (below_size (by repeat (first | (with_reducible first | exact HB.out | apply below_alloc | apply pw_below_drewN | apply below_drew1) | exact HB.out))) : w.heap.size ≤ gb244)); clear HB; have HB := n0_; have BK244 := n1_; have GW244 := n2_; have GE244 := n3_; clear n0_ n1_ n2_ n3_; clear hb hbox hg; have hcz4_0 : w3.cell? ⟨gb244, 0, none⟩ = some (.int .i64 a0_0) := (blk_cell BK244.out 0).trans rfl; have hcz4_1 : w3.cell? ⟨gb244, 1, none⟩ = some (.int .i64 a0_1) := (blk_cell BK244.out 1).trans rfl; have hcz4_2 : w3.cell? ⟨gb244, 2, none⟩ = some (.bool true) := (blk_cell BK244.out 2).trans rfl; have hcz4_3 : w3.cell? ⟨gb244, 3, none⟩ = some (.int .i64 a0_3) := (blk_cell BK244.out 3).trans rfl; have hcz4_4 : w3.cell? ⟨gb244, 4, none⟩ = some (.int .i64 a0_4) := (blk_cell BK244.out 4).trans rfl; have hcz4_5 : w3.cell? ⟨gb244, 5, none⟩ = some (.int .i64 a0_5) := (blk_cell BK244.out 5).trans rfl; have hfz4_0 := blk_frozen BK244.out 0; have hfz4_1 := blk_frozen BK244.out 1; have hfz4_2 := blk_frozen BK244.out 2; have hfz4_3 := blk_frozen BK244.out 3; have hfz4_4 := blk_frozen BK244.out 4; have hfz4_5 := blk_frozen BK244.out 5))
    go_ret
    exact ⟨by first | rfl | (simp [errW_none, errW_some] <;> rfl) | (simp [*, errW_none, errW_some] <;> rfl), by repeat (first | (with_reducible first | exact HB.out | apply below_alloc | apply pw_below_drewN | apply below_drew1 | refine below_set ?_ GE244.out) | exact HB.out)⟩
  · replace c2 := Bool.eq_false_iff.mpr c2
    subst c2
    have H1 : (some (IntKind.u64.wrap ((IntKind.u64.wrap ((IntKind.u64.wrap ((IntKind.u64.wrap ((IntKind.u64.wrap (a0_0)) + (IntKind.u64.wrap (8 * (IntKind.u64.wrap (a0_1)))))) + (IntKind.u64.wrap (32 * (IntKind.u64.wrap (a0_3)))))) + (IntKind.u64.wrap (65536 * (IntKind.u64.wrap (a0_4)))))) + (IntKind.u64.wrap (281474976710656 * (IntKind.u64.wrap (a0_5))))))) = some r := by rw [if_neg (show ¬ (false = true) by decide)] at H; exact H
    clear H
    have H := H1
    clear H1
    obtain rfl := Option.some.inj H
    go_enter Try.func58, Try.ntmps58
    go_wp2_with (first | ((with_reducible refine gate_dst (N := 1) rfl ?_); refine box_event ?hg (N := 1) ?hd (cs := #[.int .i64 a0_0, .int .i64 a0_1, .bool false, .int .i64 a0_3, .int .i64 a0_4, .int .i64 a0_5]) (t := 85) ?hr ?_; (case hd => rfl); (case hg => rfl); (case hr => first | (go_simp; done) | (go_simp; rfl)); intro gb244 hg w5 hbox hb; have n0_ := Aside0.mk (below_step (by repeat (first | (with_reducible first | exact HB.out | apply below_alloc | apply pw_below_drewN | apply below_drew1) | exact HB.out)) hb); have n1_ := Aside0.mk (hbox); have n2_ := Aside0.mk ((by rw [hg]; exact (below_size (by repeat (first | (with_reducible first | exact HB.out | apply below_alloc | apply pw_below_drewN | apply below_drew1) | exact HB.out))) : w.heap.size ≤ gb244)); have n3_ := Aside0.mk ((by rw [hg]; exact (below_size (by repeat (first | (with_reducible first | exact HB.out | apply below_alloc | apply pw_below_drewN | apply below_drew1) | exact HB.out))) : w.heap.size ≤ gb244)); clear HB; have HB := n0_; have BK244 := n1_; have GW244 := n2_; have GE244 := n3_; clear n0_ n1_ n2_ n3_; clear hb hbox hg; have hcz6_0 : w5.cell? ⟨gb244, 0, none⟩ = some (.int .i64 a0_0) := (blk_cell BK244.out 0).trans rfl; have hcz6_1 : w5.cell? ⟨gb244, 1, none⟩ = some (.int .i64 a0_1) := (blk_cell BK244.out 1).trans rfl; have hcz6_2 : w5.cell? ⟨gb244, 2, none⟩ = some (.bool false) := (blk_cell BK244.out 2).trans rfl; have hcz6_3 : w5.cell? ⟨gb244, 3, none⟩ = some (.int .i64 a0_3) := (blk_cell BK244.out 3).trans rfl; have hcz6_4 : w5.cell? ⟨gb244, 4, none⟩ = some (.int .i64 a0_4) := (blk_cell BK244.out 4).trans rfl; have hcz6_5 : w5.cell? ⟨gb244, 5, none⟩ = some (.int .i64 a0_5) := (blk_cell BK244.out 5).trans rfl; have hfz6_0 := blk_frozen BK244.out 0; have hfz6_1 := blk_frozen BK244.out 1; have hfz6_2 := blk_frozen BK244.out 2; have hfz6_3 := blk_frozen BK244.out 3; have hfz6_4 := blk_frozen BK244.out 4; have hfz6_5 := blk_frozen BK244.out 5))
    go_ret
    exact ⟨by first | rfl | (simp [errW_none, errW_some] <;> rfl) | (simp [*, errW_none, errW_some] <;> rfl), by repeat (first | (with_reducible first | exact HB.out | apply below_alloc | apply pw_below_drewN | apply below_drew1 | refine below_set ?_ GE244.out) | exact HB.out)⟩
def withyref04_Unpack.f (a0 : Int) : Option (Int × Int × Bool × Int × Int × Int × Bool) := if (wrap64 (Int.tmod a0 8)) > 4 then (some (0, 0, false, 0, 0, 0, false)) else (if (Int.tmod (IntKind.u64.wrap (Int.tdiv a0 512)) 128) = 0 then (some (wrap64 (Int.tmod a0 8), wrap64 (Int.tmod (IntKind.u64.wrap (Int.tdiv a0 8)) 2), ((Int.tmod (IntKind.u64.wrap (Int.tdiv a0 16)) 2) == 1), wrap64 (Int.tmod (IntKind.u64.wrap (Int.tdiv a0 32)) 16), wrap64 (Int.tmod (IntKind.u64.wrap (Int.tdiv a0 65536)) 4294967296), wrap64 (IntKind.u64.wrap (Int.tdiv a0 281474976710656)), true)) else (some (0, 0, false, 0, 0, 0, false)))
set_option maxHeartbeats 8000000 in
set_option maxRecDepth 100000 in
theorem withyref04_Unpack.calls (a0 : Int) (r1 : Int) (r2 : Int) (r3 : Bool) (r4 : Int) (r5 : Int) (r6 : Int) (r7 : Bool) (w : World) (h : withyref04_Unpack.f a0 = some (r1, r2, r3, r4, r5, r6, r7)) :
    Calls Try.prog 62 #[.int .u64 a0] w fun e w' => e = .returned (.tuple #[.agg #[.int .i64 r1, .int .i64 r2, .bool r3, .int .i64 r4, .int .i64 r5, .int .i64 r6], .bool r7]) ∧ Below w.heap.size w w' := by
  have hu85 := Try.underlying85
  have HB := Aside0.mk (Below.refl w.heap.size w)
  have H : (if (wrap64 (Int.tmod a0 8)) > 4 then (some (0, 0, false, 0, 0, 0, false)) else (if (Int.tmod (IntKind.u64.wrap (Int.tdiv a0 512)) 128) = 0 then (some (wrap64 (Int.tmod a0 8), wrap64 (Int.tmod (IntKind.u64.wrap (Int.tdiv a0 8)) 2), ((Int.tmod (IntKind.u64.wrap (Int.tdiv a0 16)) 2) == 1), wrap64 (Int.tmod (IntKind.u64.wrap (Int.tdiv a0 32)) 16), wrap64 (Int.tmod (IntKind.u64.wrap (Int.tdiv a0 65536)) 4294967296), wrap64 (IntKind.u64.wrap (Int.tdiv a0 281474976710656)), true)) else (some (0, 0, false, 0, 0, 0, false)))) = some (r1, r2, r3, r4, r5, r6, r7) := h
  clear h
  by_cases c2 : (wrap64 (Int.tmod a0 8)) > 4
  · rw [if_pos c2] at H
    have c2b0 : decide (4 < (wrap64 (Int.tmod a0 8))) = true := decide_eq_true c2
    clear c2
    simp only [Option.some.injEq, Prod.mk.injEq] at H
    obtain ⟨rfl, rfl, rfl, rfl, rfl, rfl, rfl⟩ := H
    go_enter Try.func62, Try.ntmps62
    go_wp2_with (first | ((with_reducible refine gate_dst (N := 2) rfl ?_); refine box_event ?hg (N := 2) ?hd (cs := #[.int .i64 0, .int .i64 0, .bool false, .int .i64 0, .int .i64 0, .int .i64 0]) (t := 85) ?hr ?_; (case hd => rfl); (case hg => rfl); (case hr => first | (go_simp; done) | (go_simp; rfl)); intro gb256 hg w3 hbox hb; have n0_ := Aside0.mk (below_step (by repeat (first | (with_reducible first | exact HB.out | apply below_alloc | apply pw_below_drewN | apply below_drew1) | exact HB.out)) hb); have n1_ := Aside0.mk (hbox); have n2_ := Aside0.mk ((by rw [hg]; exact (below_size (by repeat (first | (with_reducible first | exact HB.out | apply below_alloc | apply pw_below_drewN | apply below_drew1) | exact HB.out))) : w.heap.size ≤ gb256)); have n3_ := Aside0.mk ((by rw [hg]; exact (below_size (by repeat (first | (with_reducible first | exact HB.out | apply below_alloc | apply pw_below_drewN | apply below_drew1) | exact HB.out))) : w.heap.size ≤ gb256)); clear HB; have HB := n0_; have BK256 := n1_; have GW256 := n2_; have GE256 := n3_; clear n0_ n1_ n2_ n3_; clear hb hbox hg) | ((with_reducible refine gate_dst (N := 4) rfl ?_); refine box_event ?hg (N := 4) ?hd (cs := #[.int .i64 0, .int .i64 0, .bool false, .int .i64 0, .int .i64 0, .int .i64 0]) (t := 85) ?hr ?_; (case hd => rfl); (case hg => rfl); (case hr => first | (go_simp; done) | (go_simp; rfl)); intro gb257 hg w4 hbox hb; have n0_ := Aside0.mk (blk_below (g := gb256) (o := .cells #[.int .i64 0, .int .i64 0, .bool false, .int .i64 0, .int .i64 0, .int .i64 0] 85 (0, 0)) (by (with_reducible repeat (first | refine blk_drewN ?_ _ | refine blk_drew ?_ | refine blk_alloc ?_ _)); exact BK256.out) hb); have n1_ := Aside0.mk (below_step (by repeat (first | (with_reducible first | exact HB.out | apply below_alloc | apply pw_below_drewN | apply below_drew1 | refine below_set ?_ GE256.out) | exact HB.out)) hb); have n2_ := Aside0.mk (hbox); have n3_ := Aside0.mk ((by rw [hg]; exact (below_size (by repeat (first | (with_reducible first | exact HB.out | apply below_alloc | apply pw_below_drewN | apply below_drew1 | refine below_set ?_ GE256.out) | exact HB.out))) : w.heap.size ≤ gb257)); have n4_ := Aside0.mk ((by rw [hg]; exact (below_size (by repeat (first | (with_reducible first | exact HB.out | apply below_alloc | apply pw_below_drewN | apply below_drew1 | refine below_set ?_ GE256.out) | exact HB.out))) : w.heap.size ≤ gb257)); have n5_ := Aside0.mk ((by rw [hg]; exact Nat.ne_of_lt (blk_lt (g := gb256) (o := .cells #[.int .i64 0, .int .i64 0, .bool false, .int .i64 0, .int .i64 0, .int .i64 0] 85 (0, 0)) (by (with_reducible repeat (first | refine blk_drewN ?_ _ | refine blk_drew ?_ | refine blk_alloc ?_ _)); exact BK256.out)) : gb256 ≠ gb257)); have n6_ := Aside0.mk ((by rw [hg]; exact Nat.ne_of_gt (blk_lt (g := gb256) (o := .cells #[.int .i64 0, .int .i64 0, .bool false, .int .i64 0, .int .i64 0, .int .i64 0] 85 (0, 0)) (by (with_reducible repeat (first | refine blk_drewN ?_ _ | refine blk_drew ?_ | refine blk_alloc ?_ _)); exact BK256.out)) : gb257 ≠ gb256)); clear BK256; clear HB; have BK256 := n0_; have HB := n1_; have BK257 := n2_; have GW257 := n3_; have GE257 := n4_; have NB256_257 := n5_; have NB257_256 := n6_; clear n0_ n1_ n2_ n3_ n4_ n5_ n6_; clear hb hbox hg; have hnb5 := NB257_256.out; have hnc5 := NB256_257.out; have hcz6_0 : w4.cell? ⟨gb257, 0, none⟩ = some (.int .i64 0) := (blk_cell BK257.out 0).trans rfl; have hcz6_1 : w4.cell? ⟨gb257, 1, none⟩ = some (.int .i64 0) := (blk_cell BK257.out 1).trans rfl; have hcz6_2 : w4.cell? ⟨gb257, 2, none⟩ = some (.bool false) := (blk_cell BK257.out 2).trans rfl; have hcz6_3 : w4.cell? ⟨gb257, 3, none⟩ = some (.int .i64 0) := (blk_cell BK257.out 3).trans rfl; have hcz6_4 : w4.cell? ⟨gb257, 4, none⟩ = some (.int .i64 0) := (blk_cell BK257.out 4).trans rfl; have hcz6_5 : w4.cell? ⟨gb257, 5, none⟩ = some (.int .i64 0) := (blk_cell BK257.out 5).trans rfl; have hfz6_0 := blk_frozen BK257.out 0; have hfz6_1 := blk_frozen BK257.out 1; have hfz6_2 := blk_frozen BK257.out 2; have hfz6_3 := blk_frozen BK257.out 3; have hfz6_4 := blk_frozen BK257.out 4; have hfz6_5 := blk_frozen BK257.out 5; have hcz7_0 : w4.cell? ⟨gb256, 0, none⟩ = some (.int .i64 0) := (blk_cell BK256.out 0).trans rfl; have hcz7_1 : w4.cell? ⟨gb256, 1, none⟩ = some (.int .i64 0) := (blk_cell BK256.out 1).trans rfl; have hcz7_2 : w4.cell? ⟨gb256, 2, none⟩ = some (.bool false) := (blk_cell BK256.out 2).trans rfl; have hcz7_3 : w4.cell? ⟨gb256, 3, none⟩ = some (.int .i64 0) := (blk_cell BK256.out 3).trans rfl; have hcz7_4 : w4.cell? ⟨gb256, 4, none⟩ = some (.int .i64 0) := (blk_cell BK256.out 4).trans rfl; have hcz7_5 : w4.cell? ⟨gb256, 5, none⟩ = some (.int .i64 0) := (blk_cell BK256.out 5).trans rfl; have hfz7_0 := blk_frozen BK256.out 0; have hfz7_1 := blk_frozen BK256.out 1; have hfz7_2 := blk_frozen BK256.out 2; have hfz7_3 := blk_frozen BK256.out 3; have hfz7_4 := blk_frozen BK256.out 4; have hfz7_5 := blk_frozen BK256.out 5))
    refine bodyPost_ret (results_ct rfl _ _ gb256 85 #[.int .i64 0, .int .i64 0, .bool false, .int .i64 0, .int .i64 0, .int .i64 0] (0, 0) _ rfl (by (with_reducible repeat (first | refine blk_drewN ?_ _ | refine blk_drew ?_ | refine blk_alloc ?_ _)); refine blk_put (cs := #[.int .i64 0, .int .i64 0, .bool false, .int .i64 0, .int .i64 0, .int .i64 0]) ?_ 5 _ rfl; (with_reducible repeat (first | refine blk_drewN ?_ _ | refine blk_drew ?_ | refine blk_alloc ?_ _)); refine blk_put (cs := #[.int .i64 0, .int .i64 0, .bool false, .int .i64 0, .int .i64 0, .int .i64 0]) ?_ 4 _ rfl; (with_reducible repeat (first | refine blk_drewN ?_ _ | refine blk_drew ?_ | refine blk_alloc ?_ _)); refine blk_put (cs := #[.int .i64 0, .int .i64 0, .bool false, .int .i64 0, .int .i64 0, .int .i64 0]) ?_ 3 _ rfl; (with_reducible repeat (first | refine blk_drewN ?_ _ | refine blk_drew ?_ | refine blk_alloc ?_ _)); refine blk_put (cs := #[.int .i64 0, .int .i64 0, .bool false, .int .i64 0, .int .i64 0, .int .i64 0]) ?_ 2 _ rfl; (with_reducible repeat (first | refine blk_drewN ?_ _ | refine blk_drew ?_ | refine blk_alloc ?_ _)); refine blk_put (cs := #[.int .i64 0, .int .i64 0, .bool false, .int .i64 0, .int .i64 0, .int .i64 0]) ?_ 1 _ rfl; (with_reducible repeat (first | refine blk_drewN ?_ _ | refine blk_drew ?_ | refine blk_alloc ?_ _)); refine blk_put (cs := #[.int .i64 0, .int .i64 0, .bool false, .int .i64 0, .int .i64 0, .int .i64 0]) ?_ 0 _ rfl; (with_reducible repeat (first | refine blk_drewN ?_ _ | refine blk_drew ?_ | refine blk_alloc ?_ _)); refine blk_far ?_ NB256_257.out _; (with_reducible repeat (first | refine blk_drewN ?_ _ | refine blk_drew ?_ | refine blk_alloc ?_ _)); refine blk_far ?_ NB256_257.out _; (with_reducible repeat (first | refine blk_drewN ?_ _ | refine blk_drew ?_ | refine blk_alloc ?_ _)); refine blk_far ?_ NB256_257.out _; (with_reducible repeat (first | refine blk_drewN ?_ _ | refine blk_drew ?_ | refine blk_alloc ?_ _)); refine blk_far ?_ NB256_257.out _; (with_reducible repeat (first | refine blk_drewN ?_ _ | refine blk_drew ?_ | refine blk_alloc ?_ _)); refine blk_far ?_ NB256_257.out _; (with_reducible repeat (first | refine blk_drewN ?_ _ | refine blk_drew ?_ | refine blk_alloc ?_ _)); refine blk_far ?_ NB256_257.out _; (with_reducible repeat (first | refine blk_drewN ?_ _ | refine blk_drew ?_ | refine blk_alloc ?_ _)); exact BK256.out) Try.underlying85 rfl (by kernel_rfl)) rfl ?_
    exact ⟨by first | rfl | (simp [errW_none, errW_some] <;> rfl) | (simp [*, errW_none, errW_some] <;> rfl), by repeat (first | (with_reducible first | exact HB.out | apply below_alloc | apply pw_below_drewN | apply below_drew1 | refine below_set ?_ GE256.out | refine below_set ?_ GE257.out) | exact HB.out)⟩
  · rw [if_neg c2] at H
    have c2b0 : decide (4 < (wrap64 (Int.tmod a0 8))) = false := decide_eq_false c2
    clear c2
    by_cases c8 : (Int.tmod (IntKind.u64.wrap (Int.tdiv a0 512)) 128) = 0
    · rw [if_pos c8] at H
      have c8b0 : ((Int.tmod (IntKind.u64.wrap (Int.tdiv a0 512)) 128) == 0) = true := beq_iff_eq.mpr c8
      have c8b1 : ((Int.tmod (IntKind.u64.wrap (Int.tdiv a0 512)) 128) != 0) = false := bne_eq_false_iff_eq.mpr c8
      clear c8
      simp only [Option.some.injEq, Prod.mk.injEq] at H
      obtain ⟨rfl, rfl, rfl, rfl, rfl, rfl, rfl⟩ := H
      go_enter Try.func62, Try.ntmps62
      go_wp2_with (first | ((with_reducible refine gate_dst (N := 2) rfl ?_); refine box_event ?hg (N := 2) ?hd (cs := #[.int .i64 0, .int .i64 0, .bool false, .int .i64 0, .int .i64 0, .int .i64 0]) (t := 85) ?hr ?_; (case hd => rfl); (case hg => rfl); (case hr => first | (go_simp; done) | (go_simp; rfl)); intro gb256 hg w9 hbox hb; have n0_ := Aside0.mk (below_step (by repeat (first | (with_reducible first | exact HB.out | apply below_alloc | apply pw_below_drewN | apply below_drew1) | exact HB.out)) hb); have n1_ := Aside0.mk (hbox); have n2_ := Aside0.mk ((by rw [hg]; exact (below_size (by repeat (first | (with_reducible first | exact HB.out | apply below_alloc | apply pw_below_drewN | apply below_drew1) | exact HB.out))) : w.heap.size ≤ gb256)); have n3_ := Aside0.mk ((by rw [hg]; exact (below_size (by repeat (first | (with_reducible first | exact HB.out | apply below_alloc | apply pw_below_drewN | apply below_drew1) | exact HB.out))) : w.heap.size ≤ gb256)); clear HB; have HB := n0_; have BK256 := n1_; have GW256 := n2_; have GE256 := n3_; clear n0_ n1_ n2_ n3_; clear hb hbox hg) | ((with_reducible refine gate_dst (N := 4) rfl ?_); refine box_event ?hg (N := 4) ?hd (cs := #[.int .i64 0, .int .i64 0, .bool false, .int .i64 0, .int .i64 0, .int .i64 0]) (t := 85) ?hr ?_; (case hd => rfl); (case hg => rfl); (case hr => first | (go_simp; done) | (go_simp; rfl)); intro gb257 hg w10 hbox hb; have n0_ := Aside0.mk (blk_below (g := gb256) (o := .cells #[.int .i64 0, .int .i64 0, .bool false, .int .i64 0, .int .i64 0, .int .i64 0] 85 (0, 0)) (by (with_reducible repeat (first | refine blk_drewN ?_ _ | refine blk_drew ?_ | refine blk_alloc ?_ _)); exact BK256.out) hb); have n1_ := Aside0.mk (below_step (by repeat (first | (with_reducible first | exact HB.out | apply below_alloc | apply pw_below_drewN | apply below_drew1 | refine below_set ?_ GE256.out) | exact HB.out)) hb); have n2_ := Aside0.mk (hbox); have n3_ := Aside0.mk ((by rw [hg]; exact (below_size (by repeat (first | (with_reducible first | exact HB.out | apply below_alloc | apply pw_below_drewN | apply below_drew1 | refine below_set ?_ GE256.out) | exact HB.out))) : w.heap.size ≤ gb257)); have n4_ := Aside0.mk ((by rw [hg]; exact (below_size (by repeat (first | (with_reducible first | exact HB.out | apply below_alloc | apply pw_below_drewN | apply below_drew1 | refine below_set ?_ GE256.out) | exact HB.out))) : w.heap.size ≤ gb257)); have n5_ := Aside0.mk ((by rw [hg]; exact Nat.ne_of_lt (blk_lt (g := gb256) (o := .cells #[.int .i64 0, .int .i64 0, .bool false, .int .i64 0, .int .i64 0, .int .i64 0] 85 (0, 0)) (by (with_reducible repeat (first | refine blk_drewN ?_ _ | refine blk_drew ?_ | refine blk_alloc ?_ _)); exact BK256.out)) : gb256 ≠ gb257)); have n6_ := Aside0.mk ((by rw [hg]; exact Nat.ne_of_gt (blk_lt (g := gb256) (o := .cells #[.int .i64 0, .int .i64 0, .bool false, .int .i64 0, .int .i64 0, .int .i64 0] 85 (0, 0)) (by (with_reducible repeat (first | refine blk_drewN ?_ _ | refine blk_drew ?_ | refine blk_alloc ?_ _)); exact BK256.out)) : gb257 ≠ gb256)); clear BK256; clear HB; have BK256 := n0_; have HB := n1_; have BK257 := n2_; have GW257 := n3_; have GE257 := n4_; have NB256_257 := n5_; have NB257_256 := n6_; clear n0_ n1_ n2_ n3_ n4_ n5_ n6_; clear hb hbox hg; have hnb11 := NB257_256.out; have hnc11 := NB256_257.out; have hcz12_0 : w10.cell? ⟨gb257, 0, none⟩ = some (.int .i64 0) := (blk_cell BK257.out 0).trans rfl; have hcz12_1 : w10.cell? ⟨gb257, 1, none⟩ = some (.int .i64 0) := (blk_cell BK257.out 1).trans rfl; have hcz12_2 : w10.cell? ⟨gb257, 2, none⟩ = some (.bool false) := (blk_cell BK257.out 2).trans rfl; have hcz12_3 : w10.cell? ⟨gb257, 3, none⟩ = some (.int .i64 0) := (blk_cell BK257.out 3).trans rfl; have hcz12_4 : w10.cell? ⟨gb257, 4, none⟩ = some (.int .i64 0) := (blk_cell BK257.out 4).trans rfl; have hcz12_5 : w10.cell? ⟨gb257, 5, none⟩ = some (.int .i64 0) := (blk_cell BK257.out 5).trans rfl; have hfz12_0 := blk_frozen BK257.out 0; have hfz12_1 := blk_frozen BK257.out 1; have hfz12_2 := blk_frozen BK257.out 2; have hfz12_3 := blk_frozen BK257.out 3; have hfz12_4 := blk_frozen BK257.out 4; have hfz12_5 := blk_frozen BK257.out 5; have hcz13_0 : w10.cell? ⟨gb256, 0, none⟩ = some (.int .i64 0) := (blk_cell BK256.out 0).trans rfl; have hcz13_1 : w10.cell? ⟨gb256, 1, none⟩ = some (.int .i64 0) := (blk_cell BK256.out 1).trans rfl; have hcz13_2 : w10.cell? ⟨gb256, 2, none⟩ = some (.bool false) := (blk_cell BK256.out 2).trans rfl; have hcz13_3 : w10.cell? ⟨gb256, 3, none⟩ = some (.int .i64 0) := (blk_cell BK256.out 3).trans rfl; have hcz13_4 : w10.cell? ⟨gb256, 4, none⟩ = some (.int .i64 0) := (blk_cell BK256.out 4).trans rfl; have hcz13_5 : w10.cell? ⟨gb256, 5, none⟩ = some (.int .i64 0) := (blk_cell BK256.out 5).trans rfl; have hfz13_0 := blk_frozen BK256.out 0; have hfz13_1 := blk_frozen BK256.out 1; have hfz13_2 := blk_frozen BK256.out 2; have hfz13_3 := blk_frozen BK256.out 3; have hfz13_4 := blk_frozen BK256.out 4; have hfz13_5 := blk_frozen BK256.out 5))
      refine bodyPost_ret (results_ct rfl _ _ gb256 85 #[.int .i64 (wrap64 (Int.tmod a0 8)), .int .i64 (wrap64 (Int.tmod (IntKind.u64.wrap (Int.tdiv a0 8)) 2)), .bool ((Int.tmod (IntKind.u64.wrap (Int.tdiv a0 16)) 2) == 1), .int .i64 (wrap64 (Int.tmod (IntKind.u64.wrap (Int.tdiv a0 32)) 16)), .int .i64 (wrap64 (Int.tmod (IntKind.u64.wrap (Int.tdiv a0 65536)) 4294967296)), .int .i64 (wrap64 (IntKind.u64.wrap (Int.tdiv a0 281474976710656)))] (0, 0) _ rfl (by (with_reducible repeat (first | refine blk_drewN ?_ _ | refine blk_drew ?_ | refine blk_alloc ?_ _)); refine blk_put (cs := #[.int .i64 (wrap64 (Int.tmod a0 8)), .int .i64 (wrap64 (Int.tmod (IntKind.u64.wrap (Int.tdiv a0 8)) 2)), .bool ((Int.tmod (IntKind.u64.wrap (Int.tdiv a0 16)) 2) == 1), .int .i64 (wrap64 (Int.tmod (IntKind.u64.wrap (Int.tdiv a0 32)) 16)), .int .i64 (wrap64 (Int.tmod (IntKind.u64.wrap (Int.tdiv a0 65536)) 4294967296)), .int .i64 0]) ?_ 5 _ rfl; (with_reducible repeat (first | refine blk_drewN ?_ _ | refine blk_drew ?_ | refine blk_alloc ?_ _)); refine blk_put (cs := #[.int .i64 (wrap64 (Int.tmod a0 8)), .int .i64 (wrap64 (Int.tmod (IntKind.u64.wrap (Int.tdiv a0 8)) 2)), .bool ((Int.tmod (IntKind.u64.wrap (Int.tdiv a0 16)) 2) == 1), .int .i64 (wrap64 (Int.tmod (IntKind.u64.wrap (Int.tdiv a0 32)) 16)), .int .i64 0, .int .i64 0]) ?_ 4 _ rfl; (with_reducible repeat (first | refine blk_drewN ?_ _ | refine blk_drew ?_ | refine blk_alloc ?_ _)); refine blk_put (cs := #[.int .i64 (wrap64 (Int.tmod a0 8)), .int .i64 (wrap64 (Int.tmod (IntKind.u64.wrap (Int.tdiv a0 8)) 2)), .bool ((Int.tmod (IntKind.u64.wrap (Int.tdiv a0 16)) 2) == 1), .int .i64 0, .int .i64 0, .int .i64 0]) ?_ 3 _ rfl; (with_reducible repeat (first | refine blk_drewN ?_ _ | refine blk_drew ?_ | refine blk_alloc ?_ _)); refine blk_put (cs := #[.int .i64 (wrap64 (Int.tmod a0 8)), .int .i64 (wrap64 (Int.tmod (IntKind.u64.wrap (Int.tdiv a0 8)) 2)), .bool false, .int .i64 0, .int .i64 0, .int .i64 0]) ?_ 2 _ rfl; (with_reducible repeat (first | refine blk_drewN ?_ _ | refine blk_drew ?_ | refine blk_alloc ?_ _)); refine blk_put (cs := #[.int .i64 (wrap64 (Int.tmod a0 8)), .int .i64 0, .bool false, .int .i64 0, .int .i64 0, .int .i64 0]) ?_ 1 _ rfl; (with_reducible repeat (first | refine blk_drewN ?_ _ | refine blk_drew ?_ | refine blk_alloc ?_ _)); refine blk_put (cs := #[.int .i64 0, .int .i64 0, .bool false, .int .i64 0, .int .i64 0, .int .i64 0]) ?_ 0 _ rfl; (with_reducible repeat (first | refine blk_drewN ?_ _ | refine blk_drew ?_ | refine blk_alloc ?_ _)); refine blk_far ?_ NB256_257.out _; (with_reducible repeat (first | refine blk_drewN ?_ _ | refine blk_drew ?_ | refine blk_alloc ?_ _)); refine blk_far ?_ NB256_257.out _; (with_reducible repeat (first | refine blk_drewN ?_ _ | refine blk_drew ?_ | refine blk_alloc ?_ _)); refine blk_far ?_ NB256_257.out _; (with_reducible repeat (first | refine blk_drewN ?_ _ | refine blk_drew ?_ | refine blk_alloc ?_ _)); refine blk_far ?_ NB256_257.out _; (with_reducible repeat (first | refine blk_drewN ?_ _ | refine blk_drew ?_ | refine blk_alloc ?_ _)); refine blk_far ?_ NB256_257.out _; (with_reducible repeat (first | refine blk_drewN ?_ _ | refine blk_drew ?_ | refine blk_alloc ?_ _)); refine blk_far ?_ NB256_257.out _; (with_reducible repeat (first | refine blk_drewN ?_ _ | refine blk_drew ?_ | refine blk_alloc ?_ _)); exact BK256.out) Try.underlying85 rfl (by kernel_rfl)) rfl ?_
      exact ⟨by first | rfl | (simp [errW_none, errW_some] <;> rfl) | (simp [*, errW_none, errW_some] <;> rfl), by repeat (first | (with_reducible first | exact HB.out | apply below_alloc | apply pw_below_drewN | apply below_drew1 | refine below_set ?_ GE256.out | refine below_set ?_ GE257.out) | exact HB.out)⟩
    · rw [if_neg c8] at H
      have c8b0 : ((Int.tmod (IntKind.u64.wrap (Int.tdiv a0 512)) 128) == 0) = false := beq_eq_false_iff_ne.mpr c8
      have c8b1 : ((Int.tmod (IntKind.u64.wrap (Int.tdiv a0 512)) 128) != 0) = true := bne_iff_ne.mpr c8
      simp only [Option.some.injEq, Prod.mk.injEq] at H
      obtain ⟨rfl, rfl, rfl, rfl, rfl, rfl, rfl⟩ := H
      go_enter Try.func62, Try.ntmps62
      go_wp2_with (first | ((with_reducible refine gate_dst (N := 2) rfl ?_); refine box_event ?hg (N := 2) ?hd (cs := #[.int .i64 0, .int .i64 0, .bool false, .int .i64 0, .int .i64 0, .int .i64 0]) (t := 85) ?hr ?_; (case hd => rfl); (case hg => rfl); (case hr => first | (go_simp; done) | (go_simp; rfl)); intro gb256 hg w14 hbox hb; have n0_ := Aside0.mk (below_step (by repeat (first | (with_reducible first | exact HB.out | apply below_alloc | apply pw_below_drewN | apply below_drew1) | exact HB.out)) hb); have n1_ := Aside0.mk (hbox); have n2_ := Aside0.mk ((by rw [hg]; exact (below_size (by repeat (first | (with_reducible first | exact HB.out | apply below_alloc | apply pw_below_drewN | apply below_drew1) | exact HB.out))) : w.heap.size ≤ gb256)); have n3_ := Aside0.mk ((by rw [hg]; exact (below_size (by repeat (first | (with_reducible first | exact HB.out | apply below_alloc | apply pw_below_drewN | apply below_drew1) | exact HB.out))) : w.heap.size ≤ gb256)); clear HB; have HB := n0_; have BK256 := n1_; have GW256 := n2_; have GE256 := n3_; clear n0_ n1_ n2_ n3_; clear hb hbox hg) | ((with_reducible refine gate_dst (N := 4) rfl ?_); refine box_event ?hg (N := 4) ?hd (cs := #[.int .i64 0, .int .i64 0, .bool false, .int .i64 0, .int .i64 0, .int .i64 0]) (t := 85) ?hr ?_; (case hd => rfl); (case hg => rfl); (case hr => first | (go_simp; done) | (go_simp; rfl)); intro gb257 hg w15 hbox hb; have n0_ := Aside0.mk (blk_below (g := gb256) (o := .cells #[.int .i64 0, .int .i64 0, .bool false, .int .i64 0, .int .i64 0, .int .i64 0] 85 (0, 0)) (by (with_reducible repeat (first | refine blk_drewN ?_ _ | refine blk_drew ?_ | refine blk_alloc ?_ _)); exact BK256.out) hb); have n1_ := Aside0.mk (below_step (by repeat (first | (with_reducible first | exact HB.out | apply below_alloc | apply pw_below_drewN | apply below_drew1 | refine below_set ?_ GE256.out) | exact HB.out)) hb); have n2_ := Aside0.mk (hbox); have n3_ := Aside0.mk ((by rw [hg]; exact (below_size (by repeat (first | (with_reducible first | exact HB.out | apply below_alloc | apply pw_below_drewN | apply below_drew1 | refine below_set ?_ GE256.out) | exact HB.out))) : w.heap.size ≤ gb257)); have n4_ := Aside0.mk ((by rw [hg]; exact (below_size (by repeat (first | (with_reducible first | exact HB.out | apply below_alloc | apply pw_below_drewN | apply below_drew1 | refine below_set ?_ GE256.out) | exact HB.out))) : w.heap.size ≤ gb257)); have n5_ := Aside0.mk ((by rw [hg]; exact Nat.ne_of_lt (blk_lt (g := gb256) (o := .cells #[.int .i64 0, .int .i64 0, .bool false, .int .i64 0, .int .i64 0, .int .i64 0] 85 (0, 0)) (by (with_reducible repeat (first | refine blk_drewN ?_ _ | refine blk_drew ?_ | refine blk_alloc ?_ _)); exact BK256.out)) : gb256 ≠ gb257)); have n6_ := Aside0.mk ((by rw [hg]; exact Nat.ne_of_gt (blk_lt (g := gb256) (o := .cells #[.int .i64 0, .int .i64 0, .bool false, .int .i64 0, .int .i64 0, .int .i64 0] 85 (0, 0)) (by (with_reducible repeat (first | refine blk_drewN ?_ _ | refine blk_drew ?_ | refine blk_alloc ?_ _)); exact BK256.out)) : gb257 ≠ gb256)); clear BK256; clear HB; have BK256 := n0_; have HB := n1_; have BK257 := n2_; have GW257 := n3_; have GE257 := n4_; have NB256_257 := n5_; have NB257_256 := n6_; clear n0_ n1_ n2_ n3_ n4_ n5_ n6_; clear hb hbox hg; have hnb16 := NB257_256.out; have hnc16 := NB256_257.out; have hcz17_0 : w15.cell? ⟨gb257, 0, none⟩ = some (.int .i64 0) := (blk_cell BK257.out 0).trans rfl; have hcz17_1 : w15.cell? ⟨gb257, 1, none⟩ = some (.int .i64 0) := (blk_cell BK257.out 1).trans rfl; have hcz17_2 : w15.cell? ⟨gb257, 2, none⟩ = some (.bool false) := (blk_cell BK257.out 2).trans rfl; have hcz17_3 : w15.cell? ⟨gb257, 3, none⟩ = some (.int .i64 0) := (blk_cell BK257.out 3).trans rfl; have hcz17_4 : w15.cell? ⟨gb257, 4, none⟩ = some (.int .i64 0) := (blk_cell BK257.out 4).trans rfl; have hcz17_5 : w15.cell? ⟨gb257, 5, none⟩ = some (.int .i64 0) := (blk_cell BK257.out 5).trans rfl; have hfz17_0 := blk_frozen BK257.out 0; have hfz17_1 := blk_frozen BK257.out 1; have hfz17_2 := blk_frozen BK257.out 2; have hfz17_3 := blk_frozen BK257.out 3; have hfz17_4 := blk_frozen BK257.out 4; have hfz17_5 := blk_frozen BK257.out 5; have hcz18_0 : w15.cell? ⟨gb256, 0, none⟩ = some (.int .i64 0) := (blk_cell BK256.out 0).trans rfl; have hcz18_1 : w15.cell? ⟨gb256, 1, none⟩ = some (.int .i64 0) := (blk_cell BK256.out 1).trans rfl; have hcz18_2 : w15.cell? ⟨gb256, 2, none⟩ = some (.bool false) := (blk_cell BK256.out 2).trans rfl; have hcz18_3 : w15.cell? ⟨gb256, 3, none⟩ = some (.int .i64 0) := (blk_cell BK256.out 3).trans rfl; have hcz18_4 : w15.cell? ⟨gb256, 4, none⟩ = some (.int .i64 0) := (blk_cell BK256.out 4).trans rfl; have hcz18_5 : w15.cell? ⟨gb256, 5, none⟩ = some (.int .i64 0) := (blk_cell BK256.out 5).trans rfl; have hfz18_0 := blk_frozen BK256.out 0; have hfz18_1 := blk_frozen BK256.out 1; have hfz18_2 := blk_frozen BK256.out 2; have hfz18_3 := blk_frozen BK256.out 3; have hfz18_4 := blk_frozen BK256.out 4; have hfz18_5 := blk_frozen BK256.out 5))
      refine bodyPost_ret (results_ct rfl _ _ gb256 85 #[.int .i64 0, .int .i64 0, .bool false, .int .i64 0, .int .i64 0, .int .i64 0] (0, 0) _ rfl (by (with_reducible repeat (first | refine blk_drewN ?_ _ | refine blk_drew ?_ | refine blk_alloc ?_ _)); refine blk_put (cs := #[.int .i64 0, .int .i64 0, .bool false, .int .i64 0, .int .i64 0, .int .i64 0]) ?_ 5 _ rfl; (with_reducible repeat (first | refine blk_drewN ?_ _ | refine blk_drew ?_ | refine blk_alloc ?_ _)); refine blk_put (cs := #[.int .i64 0, .int .i64 0, .bool false, .int .i64 0, .int .i64 0, .int .i64 0]) ?_ 4 _ rfl; (with_reducible repeat (first | refine blk_drewN ?_ _ | refine blk_drew ?_ | refine blk_alloc ?_ _)); refine blk_put (cs := #[.int .i64 0, .int .i64 0, .bool false, .int .i64 0, .int .i64 0, .int .i64 0]) ?_ 3 _ rfl; (with_reducible repeat (first | refine blk_drewN ?_ _ | refine blk_drew ?_ | refine blk_alloc ?_ _)); refine blk_put (cs := #[.int .i64 0, .int .i64 0, .bool false, .int .i64 0, .int .i64 0, .int .i64 0]) ?_ 2 _ rfl; (with_reducible repeat (first | refine blk_drewN ?_ _ | refine blk_drew ?_ | refine blk_alloc ?_ _)); refine blk_put (cs := #[.int .i64 0, .int .i64 0, .bool false, .int .i64 0, .int .i64 0, .int .i64 0]) ?_ 1 _ rfl; (with_reducible repeat (first | refine blk_drewN ?_ _ | refine blk_drew ?_ | refine blk_alloc ?_ _)); refine blk_put (cs := #[.int .i64 0, .int .i64 0, .bool false, .int .i64 0, .int .i64 0, .int .i64 0]) ?_ 0 _ rfl; (with_reducible repeat (first | refine blk_drewN ?_ _ | refine blk_drew ?_ | refine blk_alloc ?_ _)); refine blk_far ?_ NB256_257.out _; (with_reducible repeat (first | refine blk_drewN ?_ _ | refine blk_drew ?_ | refine blk_alloc ?_ _)); refine blk_far ?_ NB256_257.out _; (with_reducible repeat (first | refine blk_drewN ?_ _ | refine blk_drew ?_ | refine blk_alloc ?_ _)); refine blk_far ?_ NB256_257.out _; (with_reducible repeat (first | refine blk_drewN ?_ _ | refine blk_drew ?_ | refine blk_alloc ?_ _)); refine blk_far ?_ NB256_257.out _; (with_reducible repeat (first | refine blk_drewN ?_ _ | refine blk_drew ?_ | refine blk_alloc ?_ _)); refine blk_far ?_ NB256_257.out _; (with_reducible repeat (first | refine blk_drewN ?_ _ | refine blk_drew ?_ | refine blk_alloc ?_ _)); refine blk_far ?_ NB256_257.out _; (with_reducible repeat (first | refine blk_drewN ?_ _ | refine blk_drew ?_ | refine blk_alloc ?_ _)); exact BK256.out) Try.underlying85 rfl (by kernel_rfl)) rfl ?_
      exact ⟨by first | rfl | (simp [errW_none, errW_some] <;> rfl) | (simp [*, errW_none, errW_some] <;> rfl), by repeat (first | (with_reducible first | exact HB.out | apply below_alloc | apply pw_below_drewN | apply below_drew1 | refine below_set ?_ GE256.out | refine below_set ?_ GE257.out) | exact HB.out)⟩
def withyref03_Phase.f (a0 : Int) : Option (Int) := some (wrap64 (Int.tmod a0 4))
set_option maxHeartbeats 8000000 in
set_option maxRecDepth 100000 in
theorem withyref03_Phase.calls (a0 : Int) (r : Int) (w : World) (h : withyref03_Phase.f a0 = some r) :
    Calls Try.prog 108 #[.int .u64 a0] w fun e w' => e = .returned (.int .i64 r) ∧ Drawn0 w w' := by
  have H : (some (wrap64 (Int.tmod a0 4))) = some r := h
  clear h
  obtain rfl := Option.some.inj H
  go_enter Try.func108, Try.ntmps108
  go_wp2
  go_ret
  exact ⟨by first | rfl | (simp; done) | (simp [*]; done), by repeat (first | exact Drawn0.refl _ | apply Drawn0.step)⟩
def withyref03_Black.f (a0 : Int) : Option (Int) := if (Int.tmod (IntKind.u64.wrap (Int.tdiv a0 4)) 2) = 0 then (some 1) else (some 0)
set_option maxHeartbeats 8000000 in
set_option maxRecDepth 100000 in
theorem withyref03_Black.calls (a0 : Int) (r : Int) (w : World) (h : withyref03_Black.f a0 = some r) :
    Calls Try.prog 109 #[.int .u64 a0] w fun e w' => e = .returned (.int .i64 r) ∧ Drawn0 w w' := by
  have H : (if (Int.tmod (IntKind.u64.wrap (Int.tdiv a0 4)) 2) = 0 then (some 1) else (some 0)) = some r := h
  clear h
  by_cases c2 : (Int.tmod (IntKind.u64.wrap (Int.tdiv a0 4)) 2) = 0
  · rw [if_pos c2] at H
    have c2b0 : ((Int.tmod (IntKind.u64.wrap (Int.tdiv a0 4)) 2) == 0) = true := beq_iff_eq.mpr c2
    have c2b1 : ((Int.tmod (IntKind.u64.wrap (Int.tdiv a0 4)) 2) != 0) = false := bne_eq_false_iff_eq.mpr c2
    clear c2
    obtain rfl := Option.some.inj H
    go_enter Try.func109, Try.ntmps109
    go_wp2
    go_ret
    exact ⟨by first | rfl | (simp; done) | (simp [*]; done), by repeat (first | exact Drawn0.refl _ | apply Drawn0.step)⟩
  · rw [if_neg c2] at H
    have c2b0 : ((Int.tmod (IntKind.u64.wrap (Int.tdiv a0 4)) 2) == 0) = false := beq_eq_false_iff_ne.mpr c2
    have c2b1 : ((Int.tmod (IntKind.u64.wrap (Int.tdiv a0 4)) 2) != 0) = true := bne_iff_ne.mpr c2
    obtain rfl := Option.some.inj H
    go_enter Try.func109, Try.ntmps109
    go_wp2
    go_ret
    exact ⟨by first | rfl | (simp; done) | (simp [*]; done), by repeat (first | exact Drawn0.refl _ | apply Drawn0.step)⟩
def withyref03_Born.f (a0 : Int) : Option (Int) := (withyref03_Phase.f a0).bind fun t258 => (if t258 = 0 then ((withyref03_Black.f a0).bind fun t259 => (some (wrap64 (1 - t259)))) else ((withyref03_Black.f a0).bind fun t260 => (some t260)))
set_option maxHeartbeats 8000000 in
set_option maxRecDepth 100000 in
theorem withyref03_Born.calls (a0 : Int) (r : Int) (w : World) (h : withyref03_Born.f a0 = some r) :
    Calls Try.prog 102 #[.int .u64 a0] w fun e w' => e = .returned (.int .i64 r) ∧ Drawn0 w w' := by
  have H : ((withyref03_Phase.f a0).bind fun t258 => (if t258 = 0 then ((withyref03_Black.f a0).bind fun t259 => (some (wrap64 (1 - t259)))) else ((withyref03_Black.f a0).bind fun t260 => (some t260)))) = some r := h
  clear h
  replace H := Option.bind_eq_some_iff.mp H
  obtain ⟨t258, A20, H⟩ := H
  replace H : (if t258 = 0 then ((withyref03_Black.f a0).bind fun t259 => (some (wrap64 (1 - t259)))) else ((withyref03_Black.f a0).bind fun t260 => (some t260))) = some r := H
  have A2 := Aside0.mk A20
  clear A20
  by_cases c3 : t258 = 0
  · rw [if_pos c3] at H
    have c3b0 : (t258 == 0) = true := beq_iff_eq.mpr c3
    have c3b1 : (t258 != 0) = false := bne_eq_false_iff_eq.mpr c3
    clear c3
    replace H := Option.bind_eq_some_iff.mp H
    obtain ⟨t259, A40, H⟩ := H
    replace H : (some (wrap64 (1 - t259))) = some r := H
    have A4 := Aside0.mk A40
    clear A40
    obtain rfl := Option.some.inj H
    go_enter Try.func102, Try.ntmps102
    go_wp2_with (first | ((with_reducible refine gate_callee (f := 108) rfl ?_); refine goesL_ (some 4) rfl rfl Try.func108 (by kernel_rfl) rfl #[.int .u64 a0] rfl (by (try simp only [List.map_toArray, List.map_cons, List.map_nil]); first | done | rfl | (simp only [List.length_drop, List.length_take]; rfl)) ?_; (with_reducible refine (withyref03_Phase.calls a0 t258 _ A2.out).mono ?_); rintro e w' ⟨rfl, ⟨nd, rfl⟩⟩; refine ⟨_, rfl, ?_⟩) | ((with_reducible refine gate_callee (f := 109) rfl ?_); refine goesL_ (some 7) rfl rfl Try.func109 (by kernel_rfl) rfl #[.int .u64 a0] rfl (by (try simp only [List.map_toArray, List.map_cons, List.map_nil]); first | done | rfl | (simp only [List.length_drop, List.length_take]; rfl)) ?_; (with_reducible refine (withyref03_Black.calls a0 t259 _ A4.out).mono ?_); rintro e w' ⟨rfl, ⟨nd, rfl⟩⟩; refine ⟨_, rfl, ?_⟩))
    go_ret
    exact ⟨by first | rfl | (simp; done) | (simp [*]; done), by repeat (first | exact Drawn0.refl _ | apply Drawn0.step)⟩
  · rw [if_neg c3] at H
    have c3b0 : (t258 == 0) = false := beq_eq_false_iff_ne.mpr c3
    have c3b1 : (t258 != 0) = true := bne_iff_ne.mpr c3
    replace H := Option.bind_eq_some_iff.mp H
    obtain ⟨t260, A50, H⟩ := H
    replace H : (some t260) = some r := H
    have A5 := Aside0.mk A50
    clear A50
    obtain rfl := Option.some.inj H
    go_enter Try.func102, Try.ntmps102
    go_wp2_with (first | ((with_reducible refine gate_callee (f := 108) rfl ?_); refine goesL_ (some 4) rfl rfl Try.func108 (by kernel_rfl) rfl #[.int .u64 a0] rfl (by (try simp only [List.map_toArray, List.map_cons, List.map_nil]); first | done | rfl | (simp only [List.length_drop, List.length_take]; rfl)) ?_; (with_reducible refine (withyref03_Phase.calls a0 t258 _ A2.out).mono ?_); rintro e w' ⟨rfl, ⟨nd, rfl⟩⟩; refine ⟨_, rfl, ?_⟩) | ((with_reducible refine gate_callee (f := 109) rfl ?_); refine goesL_ (some 10) rfl rfl Try.func109 (by kernel_rfl) rfl #[.int .u64 a0] rfl (by (try simp only [List.map_toArray, List.map_cons, List.map_nil]); first | done | rfl | (simp only [List.length_drop, List.length_take]; rfl)) ?_; (with_reducible refine (withyref03_Black.calls a0 t260 _ A5.out).mono ?_); rintro e w' ⟨rfl, ⟨nd, rfl⟩⟩; refine ⟨_, rfl, ?_⟩))
    go_ret
    exact ⟨by first | rfl | (simp; done) | (simp [*]; done), by repeat (first | exact Drawn0.refl _ | apply Drawn0.step)⟩
end Go.Proofs.Ytijfkpoofpcacaa.PArenaPlays
end
namespace Go.Proofs.Ytijfkpoofpcacaa.PwArenaPlays
end Go.Proofs.Ytijfkpoofpcacaa.PwArenaPlays
section
namespace Go.Proofs.Ytijfkpoofpcacaa.HeadC
open Go.RowKit Go.Proofs.Ytijfkpoofpcacaa.PArenaPlays Go.Proofs.YtijfkpoofpcacaaW.PrintWords Go.Proofs.YtijfkpoofpcacaaW.PrintLast Go.Proofs.Ytijfkpoofpcacaa.Core Go.Proofs.Ytijfkpoofpcacaa.PuArenaPlays Go.Proofs.Ytijfkpoofpcacaa.PvArenaPlays
def headB (k m a n s : Int) : Bool := decide (0 ≤ k ∧ k ≤ 4 ∧ 0 ≤ m ∧ m ≤ 1 ∧ 0 ≤ a ∧ a ≤ 15 ∧ 0 ≤ n ∧ n ≤ 4294967295 ∧ 0 ≤ s ∧ s ≤ 65535)
def headN (k m : Int) (g : Bool) (a n s : Int) : Int := k + 8 * m + (if g = true then 16 else 0) + 32 * a + 65536 * n + 281474976710656 * s
def packV (k m : Int) (g : Bool) (a n s : Int) : Int × Bool := if headB k m a n s = true then (headN k m g a n s, true) else (0, false)
def bitI (g : Bool) : Int := if g = true then 1 else 0
def rowV (k m : Int) (g : Bool) (a n s : Int) : List S153 := [⟨3, IntKind.u64.wrap k⟩, ⟨1, IntKind.u64.wrap m⟩, ⟨1, bitI g⟩, ⟨4, IntKind.u64.wrap a⟩, ⟨7, 0⟩, ⟨32, IntKind.u64.wrap n⟩, ⟨16, IntKind.u64.wrap s⟩]
theorem bit_c (g : Bool) (w : World) : Calls Try.prog 106 #[.bool g] w fun e w' => e = .returned (.int .u64 (bitI g)) ∧ Drawn0 w w' :=
  head_bit.calls g _ w (by unfold head_bit.f bitI; split <;> rfl)
theorem flat2 {α : Type} (f : α → List Value) (h2 : ∀ x, (f x).length = 2) (l : List α) : ∀ (j i : Nat) (p : α), l[j]? = some p → i < 2 → (l.flatMap f)[j * 2 + i]? = (f p)[i]? := by
  induction l with
  | nil => intro j i p h; simp at h
  | cons a l ih =>
    intro j i p h hi
    rw [List.flatMap_cons]
    match j, h with
    | 0, h =>
      simp at h; subst h
      rw [List.getElem?_append_left (by rw [h2]; omega)]
      simp
    | j + 1, h =>
      rw [List.getElem?_cons_succ] at h
      rw [List.getElem?_append_right (by rw [h2]; omega), h2, show (j + 1) * 2 + i - 2 = j * 2 + i from by omega]
      exact ih j i p h hi
theorem bits_row (W : World) (b : Nat) (l : List S153) (cs : Array Value) (t : TypeId) (hh : W.heap[b]? = some (.cells cs t (0, 0))) (hc : cs.toList = l.flatMap fun x => [.int .i64 x.f0, .int .u64 x.f1]) (hl : l.length ≤ 9223372036854775807) : Kd.C k153 W (some ⟨b, 0, none⟩) l.length l := by
  refine ⟨rfl, hl, fun _ => ⟨_, rfl, fun j p hj => ⟨[.int .i64 p.f0, .int .u64 p.f1], rfl, ⟨[.int .i64 p.f0], [.int .u64 p.f1], rfl, rfl, rfl⟩, fun i u hi => ?_⟩⟩⟩
  have hi2 : i < 2 := by
    have := (List.getElem?_eq_some_iff.1 hi).1
    simpa using this
  have h1 := flat2 (fun x : S153 => [Value.int .i64 x.f0, Value.int .u64 x.f1]) (fun _ => rfl) l j i p hj hi2
  rw [← hc, Array.getElem?_toList] at h1
  have e : (⟨b, 0, none⟩ : Addr).add (j * 2 + i) = ⟨b, j * 2 + i, none⟩ := by unfold Addr.add; split <;> simp_all
  show W.cell? ((⟨b, 0, none⟩ : Addr).add (j * 2 + i)) = some u
  rw [e]
  simp only [World.cell?, hh]
  rw [h1]
  simpa using hi
theorem heap_at (W : World) (o : Obj) (b : Nat) (h : W.heap.size = b) : (W.alloc o).heap[b]? = some o := by subst h; exact heap_alloc_new W o
theorem pack_eq (k m : Int) (g : Bool) (a n s : Int) (h1 : 0 ≤ k ∧ k < 9223372036854775808) (h2 : 0 ≤ m ∧ m < 9223372036854775808) (h3 : 0 ≤ a ∧ a < 9223372036854775808) (h4 : 0 ≤ n ∧ n < 9223372036854775808) (h5 : 0 ≤ s ∧ s < 9223372036854775808) :
    word_Pack.f 8 (rowV k m g a n s) = some (packF (rowV k m g a n s) 0 0) ∧ packV k m g a n s = if (packF (rowV k m g a n s) 0 0).2 = true ∧ k ≤ 4 then ((packF (rowV k m g a n s) 0 0).1, true) else (0, false) := by
  have hg : 0 ≤ bitI g ∧ bitI g < 2 := by unfold bitI; split <;> decide
  have e1 := wrap_u64_id k (by omega) (by omega)
  have e2 := wrap_u64_id m (by omega) (by omega)
  have e3 := wrap_u64_id a (by omega) (by omega)
  have e4 := wrap_u64_id n (by omega) (by omega)
  have e5 := wrap_u64_id s (by omega) (by omega)
  constructor
  · refine p_Pack 8 _ (by simp [rowV]) (by simp [rowV]) ?_
    intro b hb
    simp only [rowV, List.mem_cons, List.not_mem_nil, or_false] at hb
    rcases hb with rfl | rfl | rfl | rfl | rfl | rfl | rfl <;> simp only [e1, e2, e3, e4, e5] <;> omega
  · unfold rowV
    rw [e1, e2, e3, e4, e5]
    have no : ¬ (0 ≤ k ∧ k ≤ 4 ∧ 0 ≤ m ∧ m ≤ 1 ∧ 0 ≤ a ∧ a ≤ 15 ∧ 0 ≤ n ∧ n ≤ 4294967295 ∧ 0 ≤ s ∧ s ≤ 65535) → packV k m g a n s = (0, false) := by
      intro h; unfold packV headB; rw [if_neg (by simpa using h)]
    by_cases c1 : k < 8
    · rw [packF_yes (by decide) (by simp [fitsB]; omega)]
      by_cases c2 : m < 2
      · rw [packF_yes (by decide) (by simp [fitsB]; omega), packF_yes (by decide) (by simp [fitsB]; omega)]
        by_cases c3 : a < 16
        · rw [packF_yes (by decide) (by simp [fitsB]; omega), packF_yes (by decide) (by decide)]
          by_cases c4 : n < 4294967296
          · rw [packF_yes (by decide) (by simp [fitsB]; omega)]
            by_cases c5 : s < 65536
            · rw [packF_yes (by decide) (by simp [fitsB]; omega)]
              by_cases c6 : k ≤ 4
              · rw [if_pos ⟨rfl, c6⟩]
                unfold packV headB
                rw [if_pos (by simp; omega)]
                simp only [packF, headN, bitI]
                simp
                split <;> omega
              · rw [if_neg (fun h => c6 h.2), no (by omega)]
            · rw [packF_no (by simp [fitsB]; omega), if_neg (by simp), no (by omega)]
          · rw [packF_no (by simp [fitsB]; omega), if_neg (by simp), no (by omega)]
        · rw [packF_no (by simp [fitsB]; omega), if_neg (by simp), no (by omega)]
      · rw [packF_no (by simp [fitsB]; omega), if_neg (by simp), no (by omega)]
    · rw [packF_no (by simp [fitsB]; omega), if_neg (by simp), no (by omega)]
set_option maxHeartbeats 2000000 in
theorem pack_pos (k m : Int) (g : Bool) (a n s : Int) (h1 : 0 ≤ k ∧ k < 9223372036854775808) (h2 : 0 ≤ m ∧ m < 9223372036854775808) (h3 : 0 ≤ a ∧ a < 9223372036854775808) (h4 : 0 ≤ n ∧ n < 9223372036854775808) (h5 : 0 ≤ s ∧ s < 9223372036854775808) (w : World) :
    Calls Try.prog 100 #[.agg #[.int .i64 k, .int .i64 m, .bool g, .int .i64 a, .int .i64 n, .int .i64 s]] w fun e w' => e = .returned (.tuple #[.int .u64 (packV k m g a n s).1, .bool (packV k m g a n s).2]) ∧ Below w.heap.size w w' := by
  obtain ⟨hp, hv⟩ := pack_eq k m g a n s h1 h2 h3 h4 h5
  generalize packF (rowV k m g a n s) 0 0 = r at hp hv
  obtain ⟨r1, r2⟩ := r
  have HP := Lib.hid hp
  have HV := Lib.hid hv
  clear hp hv
  obtain ⟨h1, h1'⟩ := h1
  obtain ⟨h2, h2'⟩ := h2
  obtain ⟨h3, h3'⟩ := h3
  obtain ⟨h4, h4'⟩ := h4
  obtain ⟨h5, h5'⟩ := h5
  have i0 : ∀ w, (Instr.index 157 (.agg #[.int .i64 k, .int .i64 m, .int .i64 a, .int .i64 n, .int .i64 s]) (.int .i64 0)).run Try.prog w = .ok (.int .i64 k) w := fun _ => by kernel_rfl
  have i1 : ∀ w, (Instr.index 157 (.agg #[.int .i64 k, .int .i64 m, .int .i64 a, .int .i64 n, .int .i64 s]) (.int .i64 1)).run Try.prog w = .ok (.int .i64 m) w := fun _ => by kernel_rfl
  have i2 : ∀ w, (Instr.index 157 (.agg #[.int .i64 k, .int .i64 m, .int .i64 a, .int .i64 n, .int .i64 s]) (.int .i64 2)).run Try.prog w = .ok (.int .i64 a) w := fun _ => by kernel_rfl
  have i3 : ∀ w, (Instr.index 157 (.agg #[.int .i64 k, .int .i64 m, .int .i64 a, .int .i64 n, .int .i64 s]) (.int .i64 3)).run Try.prog w = .ok (.int .i64 n) w := fun _ => by kernel_rfl
  have i4 : ∀ w, (Instr.index 157 (.agg #[.int .i64 k, .int .i64 m, .int .i64 a, .int .i64 n, .int .i64 s]) (.int .i64 4)).run Try.prog w = .ok (.int .i64 s) w := fun _ => by kernel_rfl
  go_enter Try.func100, Try.ntmps100
  go_wp2
  go_loop [19] (fun u => ∃ j : Nat, j ≤ 5 ∧ u = .int .i64 (j : Int)) (fun u => 5 - (intOf u).toNat)
  case atStart => exact ⟨0, by omega, rfl⟩
  case round =>
    obtain ⟨j, hj, rfl⟩ := hrel
    match j, hj with
    | 0, _ =>
      clear i1 i2 i3 i4
      go_wp2
      go_round
      case rel => exact ⟨1, by omega, rfl⟩
      case measure => simp [intOf]
    | 1, _ =>
      clear i0 i2 i3 i4
      go_wp2
      go_round
      case rel => exact ⟨2, by omega, rfl⟩
      case measure => simp [intOf]
    | 2, _ =>
      clear i0 i1 i3 i4
      go_wp2
      go_round
      case rel => exact ⟨3, by omega, rfl⟩
      case measure => simp [intOf]
    | 3, _ =>
      clear i0 i1 i2 i4
      go_wp2
      go_round
      case rel => exact ⟨4, by omega, rfl⟩
      case measure => simp [intOf]
    | 4, _ =>
      clear i0 i1 i2 i3
      go_wp2
      go_round
      case rel => exact ⟨5, by omega, rfl⟩
      case measure => simp [intOf]
    | 5, _ =>
      clear i0 i1 i2 i3 i4
      go_wp2
      go_region_held3 (fun w' => w'.cell? ⟨w.heap.size, 0, none⟩ = some (.int .i64 k) ∧ w'.cell? ⟨w.heap.size, 1, none⟩ = some (.int .i64 m) ∧ w'.cell? ⟨w.heap.size, 2, none⟩ = some (.bool g) ∧ w'.cell? ⟨w.heap.size, 3, none⟩ = some (.int .i64 a) ∧ w'.cell? ⟨w.heap.size, 4, none⟩ = some (.int .i64 n) ∧ w'.cell? ⟨w.heap.size, 5, none⟩ = some (.int .i64 s)) (first | assumption | (simp [go_sem, World.cell?_alloc_past]; done))
        (first
          | (go_at_call 106; refine (bit_c g _).mono ?_; rintro e w' ⟨rfl, ⟨nd, rfl⟩⟩)
          | (go_at_call 103; refine (word_Pack.calls 8 _ 7 (rowV k m g a n s) r1 r2 _ (bits_row _ _ (rowV k m g a n s) _ 153 (heap_at _ _ _ (by simp)) rfl (by simp [rowV])) (by simp [rowV]) HP.out).mono ?_; rintro e w1 ⟨rfl, hb⟩; have hS : w1.cell? ⟨w.heap.size, 0, none⟩ = some (.int .i64 k) ∧ w1.cell? ⟨w.heap.size, 1, none⟩ = some (.int .i64 m) ∧ w1.cell? ⟨w.heap.size, 2, none⟩ = some (.bool g) ∧ w1.cell? ⟨w.heap.size, 3, none⟩ = some (.int .i64 a) ∧ w1.cell? ⟨w.heap.size, 4, none⟩ = some (.int .i64 n) ∧ w1.cell? ⟨w.heap.size, 5, none⟩ = some (.int .i64 s) := (by refine ⟨?_, ?_, ?_, ?_, ?_, ?_⟩ <;> (refine (hb.cell ?_).trans ?_ <;> simp [go_sem, World.cell?_alloc_past] <;> omega)); replace hb := Lib.hid hb))
      obtain ⟨q0, q1, q2, q3, q4, q5⟩ := hS
      have hB : Hid (Below w.heap.size w w1) := Lib.hid (((pw_below_drewN ((Below.refl _ _).alloc (Nat.le_refl _) _) _).alloc (by simp) _).trans (hb.out.mono (by simp <;> omega)))
      clear hb q1 q2 q3 q4 q5
      cases r2 with
      | false =>
        go_wp2
        go_ret2
        exact ⟨by rw [HV.out]; rfl, hB.out⟩
      | true =>
        by_cases hk : k ≤ 4
        · go_wp2
          go_ret2
          exact ⟨by rw [HV.out, if_pos ⟨trivial, hk⟩]; rfl, hB.out⟩
        · go_wp2
          go_ret2
          exact ⟨by rw [HV.out, if_neg (fun h => absurd h.2 (by omega))]; rfl, hB.out⟩
theorem packV_neg (k m : Int) (g : Bool) (a n s : Int) (h : ¬ (0 ≤ k ∧ 0 ≤ m ∧ 0 ≤ a ∧ 0 ≤ n ∧ 0 ≤ s)) : packV k m g a n s = (0, false) := by
  unfold packV headB; rw [if_neg (by simp; omega)]
set_option maxHeartbeats 2000000 in
theorem pack_neg0 (k m : Int) (g : Bool) (a n s : Int)  (h : k < 0) (w : World) :
    Calls Try.prog 100 #[.agg #[.int .i64 k, .int .i64 m, .bool g, .int .i64 a, .int .i64 n, .int .i64 s]] w fun e w' => e = .returned (.tuple #[.int .u64 0, .bool false]) ∧ Below w.heap.size w w' := by
  have i0 : ∀ w, (Instr.index 157 (.agg #[.int .i64 k, .int .i64 m, .int .i64 a, .int .i64 n, .int .i64 s]) (.int .i64 0)).run Try.prog w = .ok (.int .i64 k) w := fun _ => by kernel_rfl
  go_enter Try.func100, Try.ntmps100
  go_wp2
  go_loop [19] (fun u => ∃ j : Nat, j ≤ 0 ∧ u = .int .i64 (j : Int)) (fun u => 0 - (intOf u).toNat)
  case atStart => exact ⟨0, by omega, rfl⟩
  case round =>
    obtain ⟨j, hj, rfl⟩ := hrel
    match j, hj with
    | 0, _ =>
      skip
      go_wp2
      go_ret2
      exact ⟨rfl, (Below.refl _ _).alloc (Nat.le_refl _) _⟩
set_option maxHeartbeats 2000000 in
theorem pack_neg1 (k m : Int) (g : Bool) (a n s : Int) (h1 : 0 ≤ k) (h : m < 0) (w : World) :
    Calls Try.prog 100 #[.agg #[.int .i64 k, .int .i64 m, .bool g, .int .i64 a, .int .i64 n, .int .i64 s]] w fun e w' => e = .returned (.tuple #[.int .u64 0, .bool false]) ∧ Below w.heap.size w w' := by
  have i0 : ∀ w, (Instr.index 157 (.agg #[.int .i64 k, .int .i64 m, .int .i64 a, .int .i64 n, .int .i64 s]) (.int .i64 0)).run Try.prog w = .ok (.int .i64 k) w := fun _ => by kernel_rfl
  have i1 : ∀ w, (Instr.index 157 (.agg #[.int .i64 k, .int .i64 m, .int .i64 a, .int .i64 n, .int .i64 s]) (.int .i64 1)).run Try.prog w = .ok (.int .i64 m) w := fun _ => by kernel_rfl
  go_enter Try.func100, Try.ntmps100
  go_wp2
  go_loop [19] (fun u => ∃ j : Nat, j ≤ 1 ∧ u = .int .i64 (j : Int)) (fun u => 1 - (intOf u).toNat)
  case atStart => exact ⟨0, by omega, rfl⟩
  case round =>
    obtain ⟨j, hj, rfl⟩ := hrel
    match j, hj with
    | 0, _ =>
      clear i1
      go_wp2
      go_round
      case rel => exact ⟨1, by omega, rfl⟩
      case measure => simp [intOf]
    | 1, _ =>
      clear i0
      go_wp2
      go_ret2
      exact ⟨rfl, (Below.refl _ _).alloc (Nat.le_refl _) _⟩
set_option maxHeartbeats 2000000 in
theorem pack_neg2 (k m : Int) (g : Bool) (a n s : Int) (h1 : 0 ≤ k) (h2 : 0 ≤ m) (h : a < 0) (w : World) :
    Calls Try.prog 100 #[.agg #[.int .i64 k, .int .i64 m, .bool g, .int .i64 a, .int .i64 n, .int .i64 s]] w fun e w' => e = .returned (.tuple #[.int .u64 0, .bool false]) ∧ Below w.heap.size w w' := by
  have i0 : ∀ w, (Instr.index 157 (.agg #[.int .i64 k, .int .i64 m, .int .i64 a, .int .i64 n, .int .i64 s]) (.int .i64 0)).run Try.prog w = .ok (.int .i64 k) w := fun _ => by kernel_rfl
  have i1 : ∀ w, (Instr.index 157 (.agg #[.int .i64 k, .int .i64 m, .int .i64 a, .int .i64 n, .int .i64 s]) (.int .i64 1)).run Try.prog w = .ok (.int .i64 m) w := fun _ => by kernel_rfl
  have i2 : ∀ w, (Instr.index 157 (.agg #[.int .i64 k, .int .i64 m, .int .i64 a, .int .i64 n, .int .i64 s]) (.int .i64 2)).run Try.prog w = .ok (.int .i64 a) w := fun _ => by kernel_rfl
  go_enter Try.func100, Try.ntmps100
  go_wp2
  go_loop [19] (fun u => ∃ j : Nat, j ≤ 2 ∧ u = .int .i64 (j : Int)) (fun u => 2 - (intOf u).toNat)
  case atStart => exact ⟨0, by omega, rfl⟩
  case round =>
    obtain ⟨j, hj, rfl⟩ := hrel
    match j, hj with
    | 0, _ =>
      clear i1 i2
      go_wp2
      go_round
      case rel => exact ⟨1, by omega, rfl⟩
      case measure => simp [intOf]
    | 1, _ =>
      clear i0 i2
      go_wp2
      go_round
      case rel => exact ⟨2, by omega, rfl⟩
      case measure => simp [intOf]
    | 2, _ =>
      clear i0 i1
      go_wp2
      go_ret2
      exact ⟨rfl, (Below.refl _ _).alloc (Nat.le_refl _) _⟩
set_option maxHeartbeats 2000000 in
theorem pack_neg3 (k m : Int) (g : Bool) (a n s : Int) (h1 : 0 ≤ k) (h2 : 0 ≤ m) (h3 : 0 ≤ a) (h : n < 0) (w : World) :
    Calls Try.prog 100 #[.agg #[.int .i64 k, .int .i64 m, .bool g, .int .i64 a, .int .i64 n, .int .i64 s]] w fun e w' => e = .returned (.tuple #[.int .u64 0, .bool false]) ∧ Below w.heap.size w w' := by
  have i0 : ∀ w, (Instr.index 157 (.agg #[.int .i64 k, .int .i64 m, .int .i64 a, .int .i64 n, .int .i64 s]) (.int .i64 0)).run Try.prog w = .ok (.int .i64 k) w := fun _ => by kernel_rfl
  have i1 : ∀ w, (Instr.index 157 (.agg #[.int .i64 k, .int .i64 m, .int .i64 a, .int .i64 n, .int .i64 s]) (.int .i64 1)).run Try.prog w = .ok (.int .i64 m) w := fun _ => by kernel_rfl
  have i2 : ∀ w, (Instr.index 157 (.agg #[.int .i64 k, .int .i64 m, .int .i64 a, .int .i64 n, .int .i64 s]) (.int .i64 2)).run Try.prog w = .ok (.int .i64 a) w := fun _ => by kernel_rfl
  have i3 : ∀ w, (Instr.index 157 (.agg #[.int .i64 k, .int .i64 m, .int .i64 a, .int .i64 n, .int .i64 s]) (.int .i64 3)).run Try.prog w = .ok (.int .i64 n) w := fun _ => by kernel_rfl
  go_enter Try.func100, Try.ntmps100
  go_wp2
  go_loop [19] (fun u => ∃ j : Nat, j ≤ 3 ∧ u = .int .i64 (j : Int)) (fun u => 3 - (intOf u).toNat)
  case atStart => exact ⟨0, by omega, rfl⟩
  case round =>
    obtain ⟨j, hj, rfl⟩ := hrel
    match j, hj with
    | 0, _ =>
      clear i1 i2 i3
      go_wp2
      go_round
      case rel => exact ⟨1, by omega, rfl⟩
      case measure => simp [intOf]
    | 1, _ =>
      clear i0 i2 i3
      go_wp2
      go_round
      case rel => exact ⟨2, by omega, rfl⟩
      case measure => simp [intOf]
    | 2, _ =>
      clear i0 i1 i3
      go_wp2
      go_round
      case rel => exact ⟨3, by omega, rfl⟩
      case measure => simp [intOf]
    | 3, _ =>
      clear i0 i1 i2
      go_wp2
      go_ret2
      exact ⟨rfl, (Below.refl _ _).alloc (Nat.le_refl _) _⟩
set_option maxHeartbeats 2000000 in
theorem pack_neg4 (k m : Int) (g : Bool) (a n s : Int) (h1 : 0 ≤ k) (h2 : 0 ≤ m) (h3 : 0 ≤ a) (h4 : 0 ≤ n) (h : s < 0) (w : World) :
    Calls Try.prog 100 #[.agg #[.int .i64 k, .int .i64 m, .bool g, .int .i64 a, .int .i64 n, .int .i64 s]] w fun e w' => e = .returned (.tuple #[.int .u64 0, .bool false]) ∧ Below w.heap.size w w' := by
  have i0 : ∀ w, (Instr.index 157 (.agg #[.int .i64 k, .int .i64 m, .int .i64 a, .int .i64 n, .int .i64 s]) (.int .i64 0)).run Try.prog w = .ok (.int .i64 k) w := fun _ => by kernel_rfl
  have i1 : ∀ w, (Instr.index 157 (.agg #[.int .i64 k, .int .i64 m, .int .i64 a, .int .i64 n, .int .i64 s]) (.int .i64 1)).run Try.prog w = .ok (.int .i64 m) w := fun _ => by kernel_rfl
  have i2 : ∀ w, (Instr.index 157 (.agg #[.int .i64 k, .int .i64 m, .int .i64 a, .int .i64 n, .int .i64 s]) (.int .i64 2)).run Try.prog w = .ok (.int .i64 a) w := fun _ => by kernel_rfl
  have i3 : ∀ w, (Instr.index 157 (.agg #[.int .i64 k, .int .i64 m, .int .i64 a, .int .i64 n, .int .i64 s]) (.int .i64 3)).run Try.prog w = .ok (.int .i64 n) w := fun _ => by kernel_rfl
  have i4 : ∀ w, (Instr.index 157 (.agg #[.int .i64 k, .int .i64 m, .int .i64 a, .int .i64 n, .int .i64 s]) (.int .i64 4)).run Try.prog w = .ok (.int .i64 s) w := fun _ => by kernel_rfl
  go_enter Try.func100, Try.ntmps100
  go_wp2
  go_loop [19] (fun u => ∃ j : Nat, j ≤ 4 ∧ u = .int .i64 (j : Int)) (fun u => 4 - (intOf u).toNat)
  case atStart => exact ⟨0, by omega, rfl⟩
  case round =>
    obtain ⟨j, hj, rfl⟩ := hrel
    match j, hj with
    | 0, _ =>
      clear i1 i2 i3 i4
      go_wp2
      go_round
      case rel => exact ⟨1, by omega, rfl⟩
      case measure => simp [intOf]
    | 1, _ =>
      clear i0 i2 i3 i4
      go_wp2
      go_round
      case rel => exact ⟨2, by omega, rfl⟩
      case measure => simp [intOf]
    | 2, _ =>
      clear i0 i1 i3 i4
      go_wp2
      go_round
      case rel => exact ⟨3, by omega, rfl⟩
      case measure => simp [intOf]
    | 3, _ =>
      clear i0 i1 i2 i4
      go_wp2
      go_round
      case rel => exact ⟨4, by omega, rfl⟩
      case measure => simp [intOf]
    | 4, _ =>
      clear i0 i1 i2 i3
      go_wp2
      go_ret2
      exact ⟨rfl, (Below.refl _ _).alloc (Nat.le_refl _) _⟩
theorem pack_c (k m : Int) (g : Bool) (a n s : Int) (h1 : k < 9223372036854775808) (h2 : m < 9223372036854775808) (h3 : a < 9223372036854775808) (h4 : n < 9223372036854775808) (h5 : s < 9223372036854775808) (w : World) :
    Calls Try.prog 100 #[.agg #[.int .i64 k, .int .i64 m, .bool g, .int .i64 a, .int .i64 n, .int .i64 s]] w fun e w' => e = .returned (.tuple #[.int .u64 (packV k m g a n s).1, .bool (packV k m g a n s).2]) ∧ Below w.heap.size w w' := by
  by_cases c1 : 0 ≤ k
  · by_cases c2 : 0 ≤ m
    · by_cases c3 : 0 ≤ a
      · by_cases c4 : 0 ≤ n
        · by_cases c5 : 0 ≤ s
          · exact pack_pos k m g a n s ⟨c1, h1⟩ ⟨c2, h2⟩ ⟨c3, h3⟩ ⟨c4, h4⟩ ⟨c5, h5⟩ w
          · rw [packV_neg _ _ _ _ _ _ (by omega)]; exact pack_neg4 k m g a n s c1 c2 c3 c4 (by omega) w
        · rw [packV_neg _ _ _ _ _ _ (by omega)]; exact pack_neg3 k m g a n s c1 c2 c3 (by omega) w
      · rw [packV_neg _ _ _ _ _ _ (by omega)]; exact pack_neg2 k m g a n s c1 c2 (by omega) w
    · rw [packV_neg _ _ _ _ _ _ (by omega)]; exact pack_neg1 k m g a n s c1 (by omega) w
  · rw [packV_neg _ _ _ _ _ _ (by omega)]; exact pack_neg0 k m g a n s (by omega) w
end Go.Proofs.Ytijfkpoofpcacaa.HeadC
end
section
namespace Go.Proofs.Ytijfkpoofpcacaa.HeadU
open Go.RowKit Go.Proofs.Ytijfkpoofpcacaa.PArenaPlays Go.Proofs.YtijfkpoofpcacaaW.PrintWords Go.Proofs.YtijfkpoofpcacaaW.PrintLast Go.Proofs.Ytijfkpoofpcacaa.Blk Go.Proofs.Ytijfkpoofpcacaa.Core Go.Proofs.Ytijfkpoofpcacaa.PuArenaPlays Go.Proofs.Ytijfkpoofpcacaa.PvArenaPlays
theorem lit_C (W : World) : Kd.C (Kd.int .i64) (W.alloc (.cells #[.int .i64 3, .int .i64 1, .int .i64 1, .int .i64 4, .int .i64 7, .int .i64 32, .int .i64 16] 3)) (some ⟨W.heap.size, 0, none⟩) ([3, 1, 1, 4, 7, 32, 16] : List Int).length [3, 1, 1, 4, 7, 32, 16] := by
  refine Kd.C_of_reads (enc := fun x => Value.int .i64 x) (d := 0) ⟨rfl, by decide, fun h0 => ⟨_, rfl, fun j hj => ?_⟩⟩
  rw [Go.WideShapes.add_plain]
  have hj' : j < 7 := hj
  match j, hj' with
  | 0, _ => exact (Blk.new W 3 _).cell rfl
  | 1, _ => exact (Blk.new W 3 _).cell rfl
  | 2, _ => exact (Blk.new W 3 _).cell rfl
  | 3, _ => exact (Blk.new W 3 _).cell rfl
  | 4, _ => exact (Blk.new W 3 _).cell rfl
  | 5, _ => exact (Blk.new W 3 _).cell rfl
  | 6, _ => exact (Blk.new W 3 _).cell rfl
theorem rd_C {w : World} {A : Option Addr} {xs : List Int} (h : Kd.C (Kd.int .u64) w A 7 xs) : ∃ b o, A = some ⟨b, o, none⟩ ∧ b < w.heap.size ∧ ∀ i, i < 7 → w.cell? ⟨b, o + i, none⟩ = some (.int .u64 (xs.getD i 0)) := by
  have key : ∀ i : Nat, i < 7 → ∃ ad, A = some ad ∧ w.cell? (ad.add i) = some (.int .u64 (xs.getD i 0)) := by
    intro i hi
    obtain ⟨ad, c, e, _, hK, hc⟩ := Kd.C_get h 0 (i : Int) (by omega) (by omega)
    have hK' : c = [Value.int .u64 (xs.getD (i : Int).toNat 0)] := hK
    subst hK'
    have h0 := hc 0 _ rfl
    rw [Int.toNat_natCast] at h0
    refine ⟨ad, e, ?_⟩
    have : i * (Kd.int .u64).sz + 0 = i := by show i * 1 + 0 = i; omega
    rw [this] at h0
    exact h0
  obtain ⟨⟨b, o, spot⟩, e, c0⟩ := key 0 (by decide)
  have hspot : spot = none := by simpa [Addr.add] using World.cell?_spot c0
  subst hspot
  refine ⟨b, o, e, ?_, fun i hi => ?_⟩
  · rw [Go.WideShapes.add_plain] at c0
    rcases Nat.lt_or_ge b w.heap.size with hl | hl
    · exact hl
    · simp [World.cell?, Array.getElem?_eq_none hl] at c0
  · obtain ⟨ad, e2, ci⟩ := key i hi
    rw [e] at e2
    injection e2 with e2
    subst e2
    rwa [Go.WideShapes.add_plain] at ci
theorem unp_eq (x : Int) (h0 : 0 ≤ x) (h1 : x < 18446744073709551616) : word_Unpack.f 10 x [3, 1, 1, 4, 7, 32, 16] = some ([x % 8, x / 8 % 2, x / 16 % 2, x / 32 % 16, x / 512 % 128, x / 65536 % 4294967296, x / 281474976710656 % 65536], true) := by
  rw [p_Unpack 10 x _ (by simp) (by simp) h0 h1]
  simp [unpF, okB, getV]
theorem six_in {w w1 : World} {n t : Nat} {a0 a1 a2 a3 a4 a5 : Value} (hN : Blk w1 n t #[a0, a1, a2, a3, a4, a5]) (hT : Below n w w1) (b0 b1 b2 b3 b4 b5 : Value) : ∃ w2, (((((w1.setCell ⟨n, 0, none⟩ b0).setCell ⟨n, 1, none⟩ b1).setCell ⟨n, 2, none⟩ b2).setCell ⟨n, 3, none⟩ b3).setCell ⟨n, 4, none⟩ b4).setCell ⟨n, 5, none⟩ b5 = w2 ∧ (w2.cell? ⟨n, 0, none⟩ = some b0 ∧ w2.cell? ⟨n, 1, none⟩ = some b1 ∧ w2.cell? ⟨n, 2, none⟩ = some b2 ∧ w2.cell? ⟨n, 3, none⟩ = some b3 ∧ w2.cell? ⟨n, 4, none⟩ = some b4 ∧ w2.cell? ⟨n, 5, none⟩ = some b5) ∧ Below n w w2 := by
  have h := ((((((hN.set 0 b0).set 1 b1).set 2 b2).set 3 b3).set 4 b4).set 5 b5)
  simp at h
  exact ⟨_, rfl, ⟨h.cell rfl, h.cell rfl, h.cell rfl, h.cell rfl, h.cell rfl, h.cell rfl⟩, (((((hT.setCell (p := ⟨n, 0, none⟩) (Nat.le_refl n) _).setCell (p := ⟨n, 1, none⟩) (Nat.le_refl n) _).setCell (p := ⟨n, 2, none⟩) (Nat.le_refl n) _).setCell (p := ⟨n, 3, none⟩) (Nat.le_refl n) _).setCell (p := ⟨n, 4, none⟩) (Nat.le_refl n) _).setCell (p := ⟨n, 5, none⟩) (Nat.le_refl n) _⟩
section
variable (x : Int) (h0 : 0 ≤ x) (h1 : x < 18446744073709551616) (w : World)
include h0 h1
set_option maxHeartbeats 4000000 in
set_option maxRecDepth 100000 in
theorem unpack_no (h : 4 < x % 8 ∨ x / 512 % 128 ≠ 0) : Calls Try.prog 86 #[.int .u64 x] w fun e w' => e = .returned (.tuple #[.agg #[.int .i64 0, .int .i64 0, .bool false, .int .i64 0, .int .i64 0, .int .i64 0], .bool false]) ∧ Below w.heap.size w w' := by
  have e0 := unp_eq x h0 h1
  have b0 : 0 ≤ x % 8 ∧ x % 8 ≤ 7 := by omega
  have hN0 := (Blk.new w 85 #[.int .i64 0, .int .i64 0, .bool false, .int .i64 0, .int .i64 0, .int .i64 0]).alloc (.cells #[.int .i64 3, .int .i64 1, .int .i64 1, .int .i64 4, .int .i64 7, .int .i64 32, .int .i64 16] 3)
  have hT0 := ((Below.refl w.heap.size w).alloc (Nat.le_refl _) (.cells #[.int .i64 0, .int .i64 0, .bool false, .int .i64 0, .int .i64 0, .int .i64 0] 85)).alloc (by simp) (.cells #[.int .i64 3, .int .i64 1, .int .i64 1, .int .i64 4, .int .i64 7, .int .i64 32, .int .i64 16] 3)
  have hC0 := lit_C (w.alloc (.cells #[.int .i64 0, .int .i64 0, .bool false, .int .i64 0, .int .i64 0, .int .i64 0] 85))
  rw [show (w.alloc (.cells #[.int .i64 0, .int .i64 0, .bool false, .int .i64 0, .int .i64 0, .int .i64 0] 85)).heap.size = w.heap.size + 1 by simp] at hC0
  obtain ⟨y0, hy0⟩ : ∃ y, x % 8 = y := ⟨_, rfl⟩
  obtain ⟨y1, hy1⟩ : ∃ y, x / 8 % 2 = y := ⟨_, rfl⟩
  obtain ⟨y2, hy2⟩ : ∃ y, x / 16 % 2 = y := ⟨_, rfl⟩
  obtain ⟨y3, hy3⟩ : ∃ y, x / 32 % 16 = y := ⟨_, rfl⟩
  obtain ⟨y4, hy4⟩ : ∃ y, x / 512 % 128 = y := ⟨_, rfl⟩
  obtain ⟨y5, hy5⟩ : ∃ y, x / 65536 % 4294967296 = y := ⟨_, rfl⟩
  obtain ⟨y6, hy6⟩ : ∃ y, x / 281474976710656 % 65536 = y := ⟨_, rfl⟩
  rw [hy0, hy1, hy2, hy3, hy4, hy5, hy6] at e0
  rw [hy0, hy4] at h
  rw [hy0] at b0
  obtain ⟨l, hl⟩ : ∃ l, [y0, y1, y2, y3, y4, y5, y6] = l := ⟨_, rfl⟩
  have hl7 := Lib.hid (show l.length = 7 by rw [← hl]; rfl)
  have hg0 := Lib.hid (show l.getD 0 0 = y0 by rw [← hl]; rfl)
  have hg1 := Lib.hid (show l.getD 1 0 = y1 by rw [← hl]; rfl)
  have hg2 := Lib.hid (show l.getD 2 0 = y2 by rw [← hl]; rfl)
  have hg3 := Lib.hid (show l.getD 3 0 = y3 by rw [← hl]; rfl)
  have hg4 := Lib.hid (show l.getD 4 0 = y4 by rw [← hl]; rfl)
  have hg5 := Lib.hid (show l.getD 5 0 = y5 by rw [← hl]; rfl)
  have hg6 := Lib.hid (show l.getD 6 0 = y6 by rw [← hl]; rfl)
  rw [hl] at e0
  clear hl hy0 hy1 hy2 hy3 hy4 hy5 hy6
  replace e0 := Lib.hid e0
  replace hN0 := Lib.hid hN0
  replace hT0 := Lib.hid hT0
  replace hC0 := Lib.hid hC0
  have hu85 := Try.underlying85
  go_enter Try.func86, Try.ntmps86
  rcases h with h | h
  · have q0 : (4 : Int) < y0 := h
    clear h
    go_wp2_with (go_at_call 99; refine (word_Unpack.calls 10 x (some ⟨w.heap.size + 1, 0, none⟩) 7 [3, 1, 1, 4, 7, 32, 16] l true _ hC0.out (Nat.le_refl 7) e0.out).mono ?_; rintro e w1 ⟨v, rfl, hR, hb⟩; obtain ⟨A, cc, rfl, hcc, hCC⟩ := Kd.R_reads hR; rw [hl7.out] at hcc hCC ⊢; obtain ⟨b, o, rfl, hbl, hcell⟩ := rd_C hCC; have z0 := hcell 0 (by decide); have z1 := hcell 1 (by decide); have z2 := hcell 2 (by decide); have z3 := hcell 3 (by decide); have z4 := hcell 4 (by decide); have z5 := hcell 5 (by decide); have z6 := hcell 6 (by decide); rw [hg0.out, Nat.add_zero] at z0; rw [hg1.out] at z1; rw [hg2.out] at z2; rw [hg3.out] at z3; rw [hg4.out] at z4; rw [hg5.out] at z5; rw [hg6.out] at z6; have hN := hN0.out.below hb hN0.out.lt; have hT := Lib.hid (hT0.out.trans (hb.mono hT0.out.size)); have n0 := hN.cell (i := 0) rfl; have n1 := hN.cell (i := 1) rfl; have n2 := hN.cell (i := 2) rfl; have n3 := hN.cell (i := 3) rfl; have n4 := hN.cell (i := 4) rfl; have n5 := hN.cell (i := 5) rfl; have f0 := hN.frozen 0; have f1 := hN.frozen 1; have f2 := hN.frozen 2; have f3 := hN.frozen 3; have f4 := hN.frozen 4; have f5 := hN.frozen 5; have hNb := Lib.hid hN; clear hR hb hCC hcell hbl hN)
    obtain ⟨w2, e2, ⟨c0, c1, c2, c3, c4, c5⟩, hT2⟩ := six_in hNb.out hT.out (.int .i64 0) (.int .i64 0) (.bool false) (.int .i64 0) (.int .i64 0) (.int .i64 0)
    rw [e2]
    exact bodyPost_ret (v := .tuple #[.agg #[.int .i64 0, .int .i64 0, .bool false, .int .i64 0, .int .i64 0, .int .i64 0], .bool false]) (by simp [results, Try.results86, go_sem, c0, c1, c2, c3, c4, c5]) rfl ⟨rfl, hT2⟩
  · by_cases q : (4 : Int) < y0
    · go_wp2_with (go_at_call 99; refine (word_Unpack.calls 10 x (some ⟨w.heap.size + 1, 0, none⟩) 7 [3, 1, 1, 4, 7, 32, 16] l true _ hC0.out (Nat.le_refl 7) e0.out).mono ?_; rintro e w1 ⟨v, rfl, hR, hb⟩; obtain ⟨A, cc, rfl, hcc, hCC⟩ := Kd.R_reads hR; rw [hl7.out] at hcc hCC ⊢; obtain ⟨b, o, rfl, hbl, hcell⟩ := rd_C hCC; have z0 := hcell 0 (by decide); have z1 := hcell 1 (by decide); have z2 := hcell 2 (by decide); have z3 := hcell 3 (by decide); have z4 := hcell 4 (by decide); have z5 := hcell 5 (by decide); have z6 := hcell 6 (by decide); rw [hg0.out, Nat.add_zero] at z0; rw [hg1.out] at z1; rw [hg2.out] at z2; rw [hg3.out] at z3; rw [hg4.out] at z4; rw [hg5.out] at z5; rw [hg6.out] at z6; have hN := hN0.out.below hb hN0.out.lt; have hT := Lib.hid (hT0.out.trans (hb.mono hT0.out.size)); have n0 := hN.cell (i := 0) rfl; have n1 := hN.cell (i := 1) rfl; have n2 := hN.cell (i := 2) rfl; have n3 := hN.cell (i := 3) rfl; have n4 := hN.cell (i := 4) rfl; have n5 := hN.cell (i := 5) rfl; have f0 := hN.frozen 0; have f1 := hN.frozen 1; have f2 := hN.frozen 2; have f3 := hN.frozen 3; have f4 := hN.frozen 4; have f5 := hN.frozen 5; have hNb := Lib.hid hN; clear hR hb hCC hcell hbl hN)
      obtain ⟨w2, e2, ⟨c0, c1, c2, c3, c4, c5⟩, hT2⟩ := six_in hNb.out hT.out (.int .i64 0) (.int .i64 0) (.bool false) (.int .i64 0) (.int .i64 0) (.int .i64 0)
      rw [e2]
      exact bodyPost_ret (v := .tuple #[.agg #[.int .i64 0, .int .i64 0, .bool false, .int .i64 0, .int .i64 0, .int .i64 0], .bool false]) (by simp [results, Try.results86, go_sem, c0, c1, c2, c3, c4, c5]) rfl ⟨rfl, hT2⟩
    · have q4 : (y4 != 0) = true := by rw [bne_iff_ne]; exact h
      clear h
      go_wp2_with (go_at_call 99; refine (word_Unpack.calls 10 x (some ⟨w.heap.size + 1, 0, none⟩) 7 [3, 1, 1, 4, 7, 32, 16] l true _ hC0.out (Nat.le_refl 7) e0.out).mono ?_; rintro e w1 ⟨v, rfl, hR, hb⟩; obtain ⟨A, cc, rfl, hcc, hCC⟩ := Kd.R_reads hR; rw [hl7.out] at hcc hCC ⊢; obtain ⟨b, o, rfl, hbl, hcell⟩ := rd_C hCC; have z0 := hcell 0 (by decide); have z1 := hcell 1 (by decide); have z2 := hcell 2 (by decide); have z3 := hcell 3 (by decide); have z4 := hcell 4 (by decide); have z5 := hcell 5 (by decide); have z6 := hcell 6 (by decide); rw [hg0.out, Nat.add_zero] at z0; rw [hg1.out] at z1; rw [hg2.out] at z2; rw [hg3.out] at z3; rw [hg4.out] at z4; rw [hg5.out] at z5; rw [hg6.out] at z6; have hN := hN0.out.below hb hN0.out.lt; have hT := Lib.hid (hT0.out.trans (hb.mono hT0.out.size)); have n0 := hN.cell (i := 0) rfl; have n1 := hN.cell (i := 1) rfl; have n2 := hN.cell (i := 2) rfl; have n3 := hN.cell (i := 3) rfl; have n4 := hN.cell (i := 4) rfl; have n5 := hN.cell (i := 5) rfl; have f0 := hN.frozen 0; have f1 := hN.frozen 1; have f2 := hN.frozen 2; have f3 := hN.frozen 3; have f4 := hN.frozen 4; have f5 := hN.frozen 5; have hNb := Lib.hid hN; clear hR hb hCC hcell hbl hN)
      obtain ⟨w2, e2, ⟨c0, c1, c2, c3, c4, c5⟩, hT2⟩ := six_in hNb.out hT.out (.int .i64 0) (.int .i64 0) (.bool false) (.int .i64 0) (.int .i64 0) (.int .i64 0)
      rw [e2]
      exact bodyPost_ret (v := .tuple #[.agg #[.int .i64 0, .int .i64 0, .bool false, .int .i64 0, .int .i64 0, .int .i64 0], .bool false]) (by simp [results, Try.results86, go_sem, c0, c1, c2, c3, c4, c5]) rfl ⟨rfl, hT2⟩
set_option maxHeartbeats 4000000 in
set_option maxRecDepth 100000 in
theorem unpack_yes (h : x % 8 ≤ 4 ∧ x / 512 % 128 = 0) : Calls Try.prog 86 #[.int .u64 x] w fun e w' => e = .returned (.tuple #[.agg #[.int .i64 (x % 8), .int .i64 (x / 8 % 2), .bool (x / 16 % 2 == 1), .int .i64 (x / 32 % 16), .int .i64 (x / 65536 % 4294967296), .int .i64 (x / 281474976710656 % 65536)], .bool true]) ∧ Below w.heap.size w w' := by
  have e0 := unp_eq x h0 h1
  have b0 : 0 ≤ x % 8 ∧ x % 8 ≤ 7 := by omega
  have hN0 := (Blk.new w 85 #[.int .i64 0, .int .i64 0, .bool false, .int .i64 0, .int .i64 0, .int .i64 0]).alloc (.cells #[.int .i64 3, .int .i64 1, .int .i64 1, .int .i64 4, .int .i64 7, .int .i64 32, .int .i64 16] 3)
  have hT0 := ((Below.refl w.heap.size w).alloc (Nat.le_refl _) (.cells #[.int .i64 0, .int .i64 0, .bool false, .int .i64 0, .int .i64 0, .int .i64 0] 85)).alloc (by simp) (.cells #[.int .i64 3, .int .i64 1, .int .i64 1, .int .i64 4, .int .i64 7, .int .i64 32, .int .i64 16] 3)
  have hC0 := lit_C (w.alloc (.cells #[.int .i64 0, .int .i64 0, .bool false, .int .i64 0, .int .i64 0, .int .i64 0] 85))
  rw [show (w.alloc (.cells #[.int .i64 0, .int .i64 0, .bool false, .int .i64 0, .int .i64 0, .int .i64 0] 85)).heap.size = w.heap.size + 1 by simp] at hC0
  obtain ⟨y0, hy0⟩ : ∃ y, x % 8 = y := ⟨_, rfl⟩
  obtain ⟨y1, hy1⟩ : ∃ y, x / 8 % 2 = y := ⟨_, rfl⟩
  obtain ⟨y2, hy2⟩ : ∃ y, x / 16 % 2 = y := ⟨_, rfl⟩
  obtain ⟨y3, hy3⟩ : ∃ y, x / 32 % 16 = y := ⟨_, rfl⟩
  obtain ⟨y4, hy4⟩ : ∃ y, x / 512 % 128 = y := ⟨_, rfl⟩
  obtain ⟨y5, hy5⟩ : ∃ y, x / 65536 % 4294967296 = y := ⟨_, rfl⟩
  obtain ⟨y6, hy6⟩ : ∃ y, x / 281474976710656 % 65536 = y := ⟨_, rfl⟩
  rw [hy0, hy1, hy2, hy3, hy4, hy5, hy6] at e0
  have b1 : 0 ≤ x / 8 % 2 ∧ x / 8 % 2 ≤ 1 := by omega
  have b3 : 0 ≤ x / 32 % 16 ∧ x / 32 % 16 ≤ 15 := by omega
  have b5 : 0 ≤ x / 65536 % 4294967296 ∧ x / 65536 % 4294967296 ≤ 4294967295 := by omega
  have b6 : 0 ≤ x / 281474976710656 % 65536 ∧ x / 281474976710656 % 65536 ≤ 65535 := by omega
  rw [hy0, hy1, hy2, hy3, hy5, hy6]
  rw [hy0, hy4] at h
  rw [hy0] at b0
  rw [hy1] at b1
  rw [hy3] at b3
  rw [hy5] at b5
  rw [hy6] at b6
  have w0 : IntKind.i64.wrap y0 = y0 := IntWalk.i64_in _ (by omega)
  have w1 : IntKind.i64.wrap y1 = y1 := IntWalk.i64_in _ (by omega)
  have w3 : IntKind.i64.wrap y3 = y3 := IntWalk.i64_in _ (by omega)
  have w5 : IntKind.i64.wrap y5 = y5 := IntWalk.i64_in _ (by omega)
  have w6 : IntKind.i64.wrap y6 = y6 := IntWalk.i64_in _ (by omega)
  obtain ⟨l, hl⟩ : ∃ l, [y0, y1, y2, y3, y4, y5, y6] = l := ⟨_, rfl⟩
  have hl7 := Lib.hid (show l.length = 7 by rw [← hl]; rfl)
  have hg0 := Lib.hid (show l.getD 0 0 = y0 by rw [← hl]; rfl)
  have hg1 := Lib.hid (show l.getD 1 0 = y1 by rw [← hl]; rfl)
  have hg2 := Lib.hid (show l.getD 2 0 = y2 by rw [← hl]; rfl)
  have hg3 := Lib.hid (show l.getD 3 0 = y3 by rw [← hl]; rfl)
  have hg4 := Lib.hid (show l.getD 4 0 = y4 by rw [← hl]; rfl)
  have hg5 := Lib.hid (show l.getD 5 0 = y5 by rw [← hl]; rfl)
  have hg6 := Lib.hid (show l.getD 6 0 = y6 by rw [← hl]; rfl)
  rw [hl] at e0
  clear hl hy0 hy1 hy2 hy3 hy4 hy5 hy6
  replace e0 := Lib.hid e0
  replace hN0 := Lib.hid hN0
  replace hT0 := Lib.hid hT0
  replace hC0 := Lib.hid hC0
  have hu85 := Try.underlying85
  go_enter Try.func86, Try.ntmps86
  obtain ⟨q0, q4⟩ := h
  have q0' : ¬ (4 : Int) < y0 := by omega
  have q4' : (y4 != 0) = false := by rw [q4]; rfl
  clear q0 q4
  go_upto_region 4 with (go_at_call 99; refine (word_Unpack.calls 10 x (some ⟨w.heap.size + 1, 0, none⟩) 7 [3, 1, 1, 4, 7, 32, 16] l true _ hC0.out (Nat.le_refl 7) e0.out).mono ?_; rintro e wq ⟨v, rfl, hR, hb⟩; obtain ⟨A, cc, rfl, hcc, hCC⟩ := Kd.R_reads hR; rw [hl7.out] at hcc hCC ⊢; obtain ⟨b, o, rfl, hbl, hcell⟩ := rd_C hCC; have z0 := hcell 0 (by decide); have z1 := hcell 1 (by decide); have z2 := hcell 2 (by decide); have z3 := hcell 3 (by decide); have z4 := hcell 4 (by decide); have z5 := hcell 5 (by decide); have z6 := hcell 6 (by decide); rw [hg0.out, Nat.add_zero] at z0; rw [hg1.out] at z1; rw [hg2.out] at z2; rw [hg3.out] at z3; rw [hg4.out] at z4; rw [hg5.out] at z5; rw [hg6.out] at z6; have hN := hN0.out.below hb hN0.out.lt; have hT := Lib.hid (hT0.out.trans (hb.mono hT0.out.size)); have n0 := hN.cell (i := 0) rfl; have n1 := hN.cell (i := 1) rfl; have n2 := hN.cell (i := 2) rfl; have n3 := hN.cell (i := 3) rfl; have n4 := hN.cell (i := 4) rfl; have n5 := hN.cell (i := 5) rfl; have f0 := hN.frozen 0; have f1 := hN.frozen 1; have f2 := hN.frozen 2; have f3 := hN.frozen 3; have f4 := hN.frozen 4; have f5 := hN.frozen 5; have hNb := Lib.hid hN; clear hR hb hCC hcell hbl hN)
  go_still_tail 25, (by kernel_rfl)
  change wpList _ _ _ _ _ wq.drew
  have hNd := hNb.out.drew
  have hTd := hT.out.drew
  clear n0 n1 n2 n3 n4 n5 f0 f1 f2 f3 f4 f5 z0 z1 z2 z3 z4 z5 z6 hNb hT
  generalize wq.drew = wd at *
  have n0 := hNd.cell (i := 0) rfl
  have n1 := hNd.cell (i := 1) rfl
  have n2 := hNd.cell (i := 2) rfl
  have n3 := hNd.cell (i := 3) rfl
  have n4 := hNd.cell (i := 4) rfl
  have n5 := hNd.cell (i := 5) rfl
  have f0 := hNd.frozen 0
  have f1 := hNd.frozen 1
  have f2 := hNd.frozen 2
  have f3 := hNd.frozen 3
  have f4 := hNd.frozen 4
  have f5 := hNd.frozen 5
  replace hNd := Lib.hid hNd
  replace hTd := Lib.hid hTd
  go_wp2
  obtain ⟨w9, e9, ⟨c0, c1, c2, c3, c4, c5⟩, hT9⟩ := six_in hNd.out hTd.out (.int .i64 y0) (.int .i64 y1) (.bool (y2 == 1)) (.int .i64 y3) (.int .i64 y5) (.int .i64 y6)
  rw [e9]
  exact bodyPost_ret (v := .tuple #[.agg #[.int .i64 y0, .int .i64 y1, .bool (y2 == 1), .int .i64 y3, .int .i64 y5, .int .i64 y6], .bool true]) (by simp [results, Try.results86, go_sem, c0, c1, c2, c3, c4, c5]) rfl ⟨rfl, hT9⟩
end
end Go.Proofs.Ytijfkpoofpcacaa.HeadU
end
section
namespace Go.Proofs.Ytijfkpoofpcacaa.HeadC
open Go.RowKit Go.Proofs.Ytijfkpoofpcacaa.PArenaPlays Go.Proofs.YtijfkpoofpcacaaW.PrintWords Go.Proofs.YtijfkpoofpcacaaW.PrintLast Go.Proofs.Ytijfkpoofpcacaa.Core Go.Proofs.Ytijfkpoofpcacaa.PuArenaPlays Go.Proofs.Ytijfkpoofpcacaa.PvArenaPlays
def okW (x : Int) : Bool := decide (x % 8 ≤ 4 ∧ x / 512 % 128 = 0)
def uK (x : Int) : Int := if okW x = true then x % 8 else 0
def uM (x : Int) : Int := if okW x = true then x / 8 % 2 else 0
def uG (x : Int) : Bool := okW x && (x / 16 % 2 == 1)
def uA (x : Int) : Int := if okW x = true then x / 32 % 16 else 0
def uN (x : Int) : Int := if okW x = true then x / 65536 % 4294967296 else 0
def uS (x : Int) : Int := if okW x = true then x / 281474976710656 else 0
def blackI (e : Int) : Int := if e / 4 % 2 = 0 then 1 else 0
def bornI (e : Int) : Int := if e % 4 = 0 then 1 - blackI e else blackI e
theorem u_yes {x : Int} (h : okW x = true) : uK x = x % 8 ∧ uM x = x / 8 % 2 ∧ uG x = (x / 16 % 2 == 1) ∧ uA x = x / 32 % 16 ∧ uN x = x / 65536 % 4294967296 ∧ uS x = x / 281474976710656 := by
  unfold uK uM uG uA uN uS; simp [h]
theorem u_no {x : Int} (h : okW x = false) : uK x = 0 ∧ uM x = 0 ∧ uG x = false ∧ uA x = 0 ∧ uN x = 0 ∧ uS x = 0 := by
  unfold uK uM uG uA uN uS; simp [h]
theorem u_bd (x : Int) (h0 : 0 ≤ x) (h1 : x < 18446744073709551616) : 0 ≤ uK x ∧ uK x ≤ 4 ∧ 0 ≤ uM x ∧ uM x ≤ 1 ∧ 0 ≤ uA x ∧ uA x ≤ 15 ∧ 0 ≤ uN x ∧ uN x ≤ 4294967295 ∧ 0 ≤ uS x ∧ uS x ≤ 65535 := by
  cases h : okW x with
  | true =>
    obtain ⟨e1, e2, e3, e4, e5, e6⟩ := u_yes h
    rw [e1, e2, e4, e5, e6]
    simp only [okW, decide_eq_true_eq] at h
    omega
  | false =>
    obtain ⟨e1, e2, e3, e4, e5, e6⟩ := u_no h
    rw [e1, e2, e4, e5, e6]
    decide
theorem black_bd (e : Int) : 0 ≤ blackI e ∧ blackI e ≤ 1 := by unfold blackI; split <;> decide
theorem black_eq (e : Int) (h0 : 0 ≤ e) (h1 : e < 18446744073709551616) : turn_Black.f e = some (blackI e) := by
  unfold turn_Black.f turn_Cycle.f blackI
  have t : Int.tdiv e 4 = e / 4 := Int.tdiv_eq_ediv_of_nonneg h0
  rw [Option.bind_some, t, wrap_u64_id (e / 4) (by omega) (by omega), wrap_u64_id _ (by omega) (by omega)]
  have t2 : Int.tmod (e / 4 + 1) 2 = (e / 4 + 1) % 2 := Int.tmod_eq_emod_of_nonneg (by omega)
  rw [t2, wrap64_id _ (by omega) (by omega)]
  congr 1
  split <;> omega
theorem born_c (e : Int) (h0 : 0 ≤ e) (h1 : e < 18446744073709551616) (w : World) : Calls Try.prog 101 #[.int .u64 e] w fun r w' => r = .returned (.int .i64 (bornI e)) ∧ Drawn0 w w' := by
  refine turn_Born.calls e _ w ?_
  unfold turn_Born.f bornI
  have b : turn_Black.f e = some (blackI e) := black_eq e h0 h1
  have bb := black_bd e
  rw [b, Option.bind_some, Option.bind_some, wrap64_id _ (by omega) (by omega), show Int.tmod e 4 = e % 4 from Int.tmod_eq_emod_of_nonneg h0]
  split <;> rfl
theorem rBlack_eq (e : Int) (h0 : 0 ≤ e) (h1 : e < 18446744073709551616) : withyref03_Black.f e = some (blackI e) := by
  unfold withyref03_Black.f blackI
  have t : Int.tdiv e 4 = e / 4 := Int.tdiv_eq_ediv_of_nonneg h0
  rw [t, wrap_u64_id (e / 4) (by omega) (by omega), show Int.tmod (e / 4) 2 = e / 4 % 2 from Int.tmod_eq_emod_of_nonneg (by omega)]
  split <;> rfl
theorem rBorn_c (e : Int) (h0 : 0 ≤ e) (h1 : e < 18446744073709551616) (w : World) : Calls Try.prog 102 #[.int .u64 e] w fun r w' => r = .returned (.int .i64 (bornI e)) ∧ Drawn0 w w' := by
  refine withyref03_Born.calls e _ w ?_
  unfold withyref03_Born.f withyref03_Phase.f bornI
  have b : withyref03_Black.f e = some (blackI e) := rBlack_eq e h0 h1
  have bb := black_bd e
  rw [b, Option.bind_some, Option.bind_some, Option.bind_some, wrap64_id (1 - blackI e) (by omega) (by omega), show Int.tmod e 4 = e % 4 from Int.tmod_eq_emod_of_nonneg h0, wrap64_id _ (by omega) (by omega)]
  split <;> rfl
theorem unpack_c (x : Int) (h0 : 0 ≤ x) (h1 : x < 18446744073709551616) (w : World) :
    Calls Try.prog 86 #[.int .u64 x] w fun e w' => e = .returned (.tuple #[.agg #[.int .i64 (uK x), .int .i64 (uM x), .bool (uG x), .int .i64 (uA x), .int .i64 (uN x), .int .i64 (uS x)], .bool (okW x)]) ∧ Below w.heap.size w w' := by
  by_cases c : x % 8 ≤ 4 ∧ x / 512 % 128 = 0
  · have h : okW x = true := decide_eq_true c
    obtain ⟨e1, e2, e3, e4, e5, e6⟩ := u_yes h
    have := HeadU.unpack_yes x h0 h1 w c
    rw [show x / 281474976710656 % 65536 = x / 281474976710656 by omega] at this
    rw [e1, e2, e3, e4, e5, e6, h]
    exact this
  · have h : okW x = false := decide_eq_false c
    obtain ⟨e1, e2, e3, e4, e5, e6⟩ := u_no h
    rw [e1, e2, e3, e4, e5, e6, h]
    exact HeadU.unpack_no x h0 h1 w (by omega)
theorem rUnpack_eq (x : Int) (h0 : 0 ≤ x) (h1 : x < 18446744073709551616) : withyref04_Unpack.f x = some (uK x, uM x, uG x, uA x, uN x, uS x, okW x) := by
  unfold withyref04_Unpack.f
  have t1 : Int.tmod x 8 = x % 8 := Int.tmod_eq_emod_of_nonneg h0
  have t2 : Int.tdiv x 512 = x / 512 := Int.tdiv_eq_ediv_of_nonneg h0
  have t3 : Int.tdiv x 8 = x / 8 := Int.tdiv_eq_ediv_of_nonneg h0
  have t4 : Int.tdiv x 16 = x / 16 := Int.tdiv_eq_ediv_of_nonneg h0
  have t5 : Int.tdiv x 32 = x / 32 := Int.tdiv_eq_ediv_of_nonneg h0
  have t6 : Int.tdiv x 65536 = x / 65536 := Int.tdiv_eq_ediv_of_nonneg h0
  have t7 : Int.tdiv x 281474976710656 = x / 281474976710656 := Int.tdiv_eq_ediv_of_nonneg h0
  have s2 : Int.tmod (x / 512) 128 = x / 512 % 128 := Int.tmod_eq_emod_of_nonneg (by omega)
  have s3 : Int.tmod (x / 8) 2 = x / 8 % 2 := Int.tmod_eq_emod_of_nonneg (by omega)
  have s4 : Int.tmod (x / 16) 2 = x / 16 % 2 := Int.tmod_eq_emod_of_nonneg (by omega)
  have s5 : Int.tmod (x / 32) 16 = x / 32 % 16 := Int.tmod_eq_emod_of_nonneg (by omega)
  have s6 : Int.tmod (x / 65536) 4294967296 = x / 65536 % 4294967296 := Int.tmod_eq_emod_of_nonneg (by omega)
  rw [t1, t2, t3, t4, t5, t6, t7, wrap_u64_id (x / 512) (by omega) (by omega), wrap_u64_id (x / 8) (by omega) (by omega), wrap_u64_id (x / 16) (by omega) (by omega), wrap_u64_id (x / 32) (by omega) (by omega), wrap_u64_id (x / 65536) (by omega) (by omega), wrap_u64_id (x / 281474976710656) (by omega) (by omega), s2, s3, s4, s5, s6,
    wrap64_id (x % 8) (by omega) (by omega), wrap64_id (x / 8 % 2) (by omega) (by omega), wrap64_id (x / 32 % 16) (by omega) (by omega), wrap64_id (x / 65536 % 4294967296) (by omega) (by omega), wrap64_id (x / 281474976710656) (by omega) (by omega)]
  by_cases c : x % 8 > 4
  · have h : okW x = false := by simp [okW]; omega
    obtain ⟨e1, e2, e3, e4, e5, e6⟩ := u_no h
    rw [if_pos c, e1, e2, e3, e4, e5, e6, h]
  · rw [if_neg c]
    by_cases d : x / 512 % 128 = 0
    · have h : okW x = true := by simp [okW]; omega
      obtain ⟨e1, e2, e3, e4, e5, e6⟩ := u_yes h
      rw [if_pos d, e1, e2, e3, e4, e5, e6, h]
    · have h : okW x = false := by simp [okW]; omega
      obtain ⟨e1, e2, e3, e4, e5, e6⟩ := u_no h
      rw [if_neg d, e1, e2, e3, e4, e5, e6, h]
theorem rUnpack_c (x : Int) (h0 : 0 ≤ x) (h1 : x < 18446744073709551616) (w : World) :
    Calls Try.prog 62 #[.int .u64 x] w fun e w' => e = .returned (.tuple #[.agg #[.int .i64 (uK x), .int .i64 (uM x), .bool (uG x), .int .i64 (uA x), .int .i64 (uN x), .int .i64 (uS x)], .bool (okW x)]) ∧ Below w.heap.size w w' :=
  withyref04_Unpack.calls x _ _ _ _ _ _ _ w (rUnpack_eq x h0 h1)
theorem packV_yes (k m : Int) (g : Bool) (a n s : Int) (h : 0 ≤ k ∧ k ≤ 4 ∧ 0 ≤ m ∧ m ≤ 1 ∧ 0 ≤ a ∧ a ≤ 15 ∧ 0 ≤ n ∧ n ≤ 4294967295 ∧ 0 ≤ s ∧ s ≤ 65535) : packV k m g a n s = (headN k m g a n s, true) := by
  unfold packV headB; rw [if_pos (by simpa using h)]
theorem rPack_c (k m : Int) (g : Bool) (a n s : Int) (h : 0 ≤ k ∧ k ≤ 4 ∧ 0 ≤ m ∧ m ≤ 1 ∧ 0 ≤ a ∧ a ≤ 15 ∧ 0 ≤ n ∧ n ≤ 4294967295 ∧ 0 ≤ s ∧ s ≤ 65535) (w : World) :
    Calls Try.prog 58 #[.agg #[.int .i64 k, .int .i64 m, .bool g, .int .i64 a, .int .i64 n, .int .i64 s]] w fun e w' => e = .returned (.int .u64 (headN k m g a n s)) ∧ Below w.heap.size w w' := by
  refine withyref04_Pack.calls k m g a n s _ w ?_
  unfold withyref04_Pack.f headN
  rw [wrap_u64_id k (by omega) (by omega), wrap_u64_id m (by omega) (by omega), wrap_u64_id a (by omega) (by omega), wrap_u64_id n (by omega) (by omega), wrap_u64_id s (by omega) (by omega), wrap_u64_id (8 * m) (by omega) (by omega), wrap_u64_id (32 * a) (by omega) (by omega), wrap_u64_id (65536 * n) (by omega) (by omega), wrap_u64_id (281474976710656 * s) (by omega) (by omega),
    wrap_u64_id (k + 8 * m) (by omega) (by omega), wrap_u64_id (k + 8 * m + 32 * a) (by omega) (by omega), wrap_u64_id (k + 8 * m + 32 * a + 65536 * n) (by omega) (by omega), wrap_u64_id (k + 8 * m + 32 * a + 65536 * n + 281474976710656 * s) (by omega) (by omega)]
  split
  · rw [wrap_u64_id _ (by omega) (by omega)]; congr 1; omega
  · congr 1; omega
theorem pack_ok (k m : Int) (g : Bool) (a n s : Int) (h : 0 ≤ k ∧ k ≤ 4 ∧ 0 ≤ m ∧ m ≤ 1 ∧ 0 ≤ a ∧ a ≤ 15 ∧ 0 ≤ n ∧ n ≤ 4294967295 ∧ 0 ≤ s ∧ s ≤ 65535) (w : World) :
    Calls Try.prog 100 #[.agg #[.int .i64 k, .int .i64 m, .bool g, .int .i64 a, .int .i64 n, .int .i64 s]] w fun e w' => e = .returned (.tuple #[.int .u64 (headN k m g a n s), .bool true]) ∧ Below w.heap.size w w' := by
  have := pack_c k m g a n s (by omega) (by omega) (by omega) (by omega) (by omega) w
  rw [packV_yes k m g a n s h] at this
  exact this
theorem bT {w w1 w2 : World} (h : Below w.heap.size w w1) (k : Below w1.heap.size w1 w2) : Below w.heap.size w w2 := below_then h h.size k
def freedV (x g : Int) : Int × Bool := if okW x = true ∧ uK x = 3 then ((if g ≤ uN x + 1 ∨ uN x = 4294967295 then headN 4 (uM x) (uG x) (uA x) (uN x) (uS x) else headN 0 0 false 0 (uN x + 1) 0), true) else (x, false)
def madeV (k a n e : Int) : Int × Bool := if k = 1 ∨ k = 2 then packV k (bornI e) false a n 0 else (0, false)
end Go.Proofs.Ytijfkpoofpcacaa.HeadC
end
section
namespace Go.Proofs.Ytijfkpoofpcacaa.ArenaL
open Go.RowKit Go.Proofs.Ytijfkpoofpcacaa.Blk Go.Proofs.Ytijfkpoofpcacaa.Core Go.Proofs.Ytijfkpoofpcacaa.MemC Go.Proofs.Ytijfkpoofpcacaa.MemT Go.Proofs.Ytijfkpoofpcacaa.Memory Go.Proofs.Ytijfkpoofpcacaa.PlanC Go.Proofs.Ytijfkpoofpcacaa.PlanD Go.Proofs.Ytijfkpoofpcacaa.StackC Go.Proofs.Ytijfkpoofpcacaa.StackL Go.Proofs.Ytijfkpoofpcacaa.StackS Go.Proofs.Ytijfkpoofpcacaa.StackF Go.Proofs.Ytijfkpoofpcacaa.StackP Go.Proofs.Ytijfkpoofpcacaa.StackQ Go.Proofs.Ytijfkpoofpcacaa.TakerL Go.Proofs.Ytijfkpoofpcacaa.HeadC
structure Mk where
  sl : Int
  fu : Bool
  kd : Int
  ar : Int
  ep : Int
  gn : Int
  ix : Int
  nx : Int
  pop : Pop
def mkS (c : Cf) (n : Nat) (a : Mk) (M : Ms) : Mk :=
  if a.nx = 0 then
    (if popD c a.pop M = true then
      (if (popS c a.pop M).em = true then ⟨a.sl, true, a.kd, a.ar, a.ep, a.gn, a.ix, 5, popS c a.pop M⟩ else ⟨a.sl, a.fu, a.kd, a.ar, a.ep, a.gn, a.ix, 1, popS c a.pop M⟩)
    else ⟨a.sl, a.fu, a.kd, a.ar, a.ep, a.gn, a.ix, 0, popS c a.pop M⟩)
  else if a.nx = 1 then ⟨a.sl, a.fu, a.kd, a.ar, a.ep, uN (M.ldV (c.header a.pop.sl)), a.ix, 2, a.pop⟩
  else if a.nx = 2 then ⟨a.sl, a.fu, a.kd, a.ar, a.ep, a.gn, a.ix + 1, (if a.ix + 1 = (n : Int) then 3 else 2), a.pop⟩
  else if a.nx = 3 then ⟨a.pop.sl, a.fu, a.kd, a.ar, a.ep, a.gn, a.ix, 5, a.pop⟩
  else a
def mkM (c : Cf) (g : Nat → Int) (a : Mk) (M : Ms) : Ms :=
  if a.nx = 0 then popM c a.pop M else if a.nx = 1 then M.ldS (c.header a.pop.sl)
  else if a.nx = 2 then M.stS (c.body a.pop.sl a.ix) (g a.ix.toNat) else if a.nx = 3 then M.stS (c.header a.pop.sl) (madeV a.kd a.ar a.gn a.ep).1 else M
def mkD (c : Cf) (n : Nat) (a : Mk) (M : Ms) : Bool := (mkS c n a M).nx == 5
structure MkOk (n : Nat) (a : Mk) : Prop where
  pop : a.nx = 0 → PopOk a.pop
  nx : ((a.nx = 0 ∨ a.nx = 1 ∨ a.nx = 2) ∧ 0 ≤ a.ix ∧ a.ix < n) ∨ a.nx = 3 ∨ a.nx = 5
  ep : 0 ≤ a.ep ∧ a.ep < 18446744073709551616
  ar : a.ar < 9223372036854775808
  gn : a.gn < 9223372036854775808
structure Fre where
  bk : Bool
  gn : Bool
  sl : Int
  nw : Int
  nx : Int
  pu : Option Push
def frS (c : Cf) (a : Fre) (M : Ms) : Fre :=
  if a.nx = 1 then ⟨a.bk, a.gn, a.sl, (freedV (M.ldV (c.header a.sl)) c.G).1, (if (freedV (M.ldV (c.header a.sl)) c.G).2 = true then 3 else 5), a.pu⟩
  else if a.nx = 3 then (if uK a.nw = 4 then ⟨a.bk, true, a.sl, a.nw, 5, some ⟨a.sl, 0, 0⟩⟩ else ⟨a.bk, a.gn, a.sl, a.nw, 4, some ⟨a.sl, 0, 0⟩⟩)
  else if a.nx = 4 then (match a.pu with
    | some Q => if pushD c Q M = true then ⟨true, a.gn, a.sl, a.nw, 5, some (pushS c Q M)⟩ else ⟨a.bk, a.gn, a.sl, a.nw, 4, some (pushS c Q M)⟩
    | none => a)
  else a
def frM (c : Cf) (a : Fre) (M : Ms) : Ms :=
  if a.nx = 1 then M.ldS (c.header a.sl) else if a.nx = 3 then M.stS (c.header a.sl) a.nw
  else if a.nx = 4 then (match a.pu with | some Q => pushM c Q M | none => M) else M
def frD (c : Cf) (a : Fre) (M : Ms) : Bool := (frS c a M).nx == 5
structure FreOk (c : Cf) (a : Fre) : Prop where
  sl : 0 ≤ a.sl ∧ a.sl < c.S
  nw : 0 ≤ a.nw ∧ a.nw < 18446744073709551616
  nx : a.nx = 1 ∨ a.nx = 3 ∨ (a.nx = 4 ∧ ∃ Q, a.pu = some Q ∧ PushOk Q) ∨ a.nx = 5
def _root_.Go.Proofs.Ytijfkpoofpcacaa.PlanD.Cf.pl (c : Cf) (s o : Int) : Int := slotsV c.C c.H + s * roomV c.A + o
theorem place_inj {R s y i j : Int} (hi : 0 ≤ i ∧ i < R) (hj : 0 ≤ j ∧ j < R) (h : s * R + i = y * R + j) : s = y ∧ i = j := by
  have e : ∀ a b : Int, 0 ≤ b ∧ b < R → (a * R + b) / R = a := fun a b hb => by
    rw [Int.add_comm, Int.add_mul_ediv_right _ _ (by omega), Int.ediv_eq_zero_of_lt hb.1 hb.2, Int.zero_add]
  have e1 := e s i hi
  have e2 := e y j hj
  rw [h, e2] at e1
  subst e1
  exact ⟨rfl, by omega⟩
section
variable {c : Cf} (hr : c.right = true)
include hr
theorem room_bd : 5 ≤ roomV c.A ∧ roomV c.A ≤ 10 := by have := size_bd hr; omega
theorem link_pl {s : Int} (h : 0 ≤ s ∧ s < c.S) : c.link s = c.pl s 1 := by unfold Cf.link Cf.pl; rw [if_pos ⟨hr, h.1, h.2⟩]
theorem header_pl {s : Int} (h : 0 ≤ s ∧ s < c.S) : c.header s = c.pl s 0 := by unfold Cf.header Cf.pl; rw [if_pos ⟨hr, h.1, h.2⟩]; omega
theorem body_pl {s i : Int} (h : 0 ≤ s ∧ s < c.S) (hi : 0 ≤ i ∧ 2 + i < roomV c.A) : c.body s i = c.pl s (2 + i) := by unfold Cf.body Cf.pl; rw [if_pos ⟨hr, h.1, h.2, hi.1, hi.2⟩]
theorem pl_bd {s o : Int} (h : 0 ≤ s ∧ s < c.S) (ho : 0 ≤ o ∧ o < roomV c.A) : 4 ≤ c.pl s o ∧ c.pl s o < c.size := by
  have h1 := at_bd (S := c.S) (A := c.A) (C := c.C) (H := c.H) (G := c.G) (K := c.K) hr h.1 h.2 ho.1 ho.2
  have h2 := size_bd hr
  unfold Cf.pl Cf.size; omega
theorem pl_ne {s y i j : Int} (hs : 0 ≤ s ∧ s < c.S) (hy : 0 ≤ y ∧ y < c.S) (hi : 0 ≤ i ∧ i < roomV c.A) (hj : 0 ≤ j ∧ j < roomV c.A) (h : s ≠ y ∨ i ≠ j) : (c.pl s i).toNat ≠ (c.pl y j).toNat := by
  intro e
  have h1 := pl_bd hr hs hi
  have h2 := pl_bd hr hy hj
  have e2 : c.pl s i = c.pl y j := by omega
  unfold Cf.pl at e2
  obtain ⟨a, b⟩ := place_inj (R := roomV c.A) (s := s) (y := y) hi hj (by omega)
  exact h.elim (fun k => k a) (fun k => k b)
theorem Stk.off {f : Nat → Int} {t v : Int} {L : List Int} (h : Stk c f t L) {s o : Int} (hs : 0 ≤ s ∧ s < c.S) (ho : 0 ≤ o ∧ o < roomV c.A) (h1 : o ≠ 1) : Stk c (upd f (c.pl s o).toNat v) t L := by
  have hb := room_bd hr
  have hp := pl_bd hr hs ho
  refine ⟨?_, h.t0, h.lk.congr (fun y hy => ?_), h.nd⟩
  · rw [upd_ne (by omega)]; exact h.top
  · have hy' := h.lk.mem y hy
    rw [link_pl hr hy', upd_ne (pl_ne hr hy' hs ⟨by decide, by omega⟩ ho (.inr (fun e => h1 e.symm)))]
variable {M : Ms} (hn : M.n = c.size)
include hn
theorem ld_pl {s o : Int} (hs : 0 ≤ s ∧ s < c.S) (ho : 0 ≤ o ∧ o < roomV c.A) : M.ldV (c.pl s o) = M.f (c.pl s o).toNat := by
  have hp := pl_bd hr hs ho
  exact ld_v (by omega) (by omega)
theorem st_pl {s o v : Int} (hs : 0 ≤ s ∧ s < c.S) (ho : 0 ≤ o ∧ o < roomV c.A) : (M.stS (c.pl s o) v).f = upd M.f (c.pl s o).toNat v ∧ (M.stS (c.pl s o) v).n = M.n := by
  have hp := pl_bd hr hs ho
  exact st_f (by omega) (by omega)
end
section
variable {c : Cf} (hr : c.right = true) {M : Ms} {t : Int} {r : List Int} {x sl tp nx : Int} {em : Bool} (hn : M.n = c.size) (h : Stk c M.f t (x :: r))
include hr hn h
theorem pa0 : popS c ⟨sl, em, 0, tp, nx⟩ M = ⟨sl, em, 1, M.f 3, nx⟩ ∧ popM c ⟨sl, em, 0, tp, nx⟩ M = M.ldS 3 ∧ popD c ⟨sl, em, 0, tp, nx⟩ M = false := by
  have hx := h.lk.1
  have h1 := h.first hr
  have e3 : M.ldV 3 = M.f 3 := ld_v (by decide) (by have := size_bd hr; unfold Cf.size at hn; omega)
  have h2 : ¬ firstI c.S (M.f 3) < 0 := by rw [h1]; show ¬ x + 1 - 1 < 0; omega
  have hS : popS c ⟨sl, em, 0, tp, nx⟩ M = ⟨sl, em, 1, M.f 3, nx⟩ := by simp [popS, e3, h2]
  exact ⟨hS, by simp [popM], by unfold popD; rw [hS]; rfl⟩
theorem pa1 : popS c ⟨sl, em, 1, M.f 3, nx⟩ M = ⟨sl, em, 2, M.f 3, hd r - 1⟩ ∧ popM c ⟨sl, em, 1, M.f 3, nx⟩ M = M.ldS (c.link x) ∧ popD c ⟨sl, em, 1, M.f 3, nx⟩ M = false := by
  have hx := h.lk.1
  have h1 : firstI c.S (M.f 3) = x := by rw [h.first hr]; show x + 1 - 1 = x; omega
  have hl := link_lt hr hx.1 hx.2
  have e4 : M.ldV (c.link x) = hd r := by rw [ld_v (by omega) (by rw [hn]; exact hl.2)]; exact h.lk.2.1
  have hb := hd_bd h.lk.2.2
  have hSb := S_bd hr
  have e5 : linkedI c.S (hd r) = hd r - 1 := by unfold linkedI; rw [if_neg (by omega)]
  have hS : popS c ⟨sl, em, 1, M.f 3, nx⟩ M = ⟨sl, em, 2, M.f 3, hd r - 1⟩ := by simp [popS, h1, e4, e5]
  exact ⟨hS, by simp [popM, h1], by unfold popD; rw [hS]; rfl⟩
theorem pa2 (ht : t + 1 < 281474976710656) : popS c ⟨sl, em, 2, M.f 3, hd r - 1⟩ M = ⟨x, em, 3, M.f 3, hd r - 1⟩ ∧ Stk c (popM c ⟨sl, em, 2, M.f 3, hd r - 1⟩ M).f (t + 1) r ∧ (∀ j, j ≠ 3 → (popM c ⟨sl, em, 2, M.f 3, hd r - 1⟩ M).f j = M.f j) ∧ popD c ⟨sl, em, 2, M.f 3, hd r - 1⟩ M = true := by
  have hx := h.lk.1
  have hsz := size_bd hr
  have hn9 : (9 : Int) ≤ M.n := by unfold Cf.size at hn; omega
  have h1 : firstI c.S (M.f 3) = x := by rw [h.first hr]; show x + 1 - 1 = x; omega
  obtain ⟨s1, s2, s3⟩ := sw_yes (M := M) (a := 3) (old := M.f 3) (now := movedV (M.f 3) (hd r - 1)) (by decide) (by omega) rfl
  have hS : popS c ⟨sl, em, 2, M.f 3, hd r - 1⟩ M = ⟨x, em, 3, M.f 3, hd r - 1⟩ := by simp [popS, h1, s1]
  have hM : (popM c ⟨sl, em, 2, M.f 3, hd r - 1⟩ M).f = upd M.f 3 (movedV (M.f 3) (hd r - 1)) := by rw [show popM c ⟨sl, em, 2, M.f 3, hd r - 1⟩ M = M.swS 3 (M.f 3) (movedV (M.f 3) (hd r - 1)) by simp [popM]]; exact s2
  refine ⟨hS, ?_, fun j hj => ?_, by unfold popD; rw [hS]; rfl⟩
  · rw [hM]; exact h.take hr ht
  · rw [hM]; exact upd_ne hj
end
def Stg (c : Cf) (n : Nat) (f : Nat → Int) (t x : Int) (r : List Int) (i : Nat) (a : Mk) : Prop :=
  a.fu = false ∧ (
    (i = 0 ∧ a.nx = 0 ∧ a.ix = 0 ∧ a.pop = ⟨-1, false, 0, 0, 0⟩ ∧ Stk c f t (x :: r)) ∨
    (i = 1 ∧ a.nx = 0 ∧ a.ix = 0 ∧ a.pop = ⟨-1, false, 1, f 3, 0⟩ ∧ Stk c f t (x :: r)) ∨
    (i = 2 ∧ a.nx = 0 ∧ a.ix = 0 ∧ a.pop = ⟨-1, false, 2, f 3, hd r - 1⟩ ∧ Stk c f t (x :: r)) ∨
    (i = 3 ∧ a.nx = 1 ∧ a.ix = 0 ∧ a.pop.sl = x ∧ Stk c f (t + 1) r) ∨
    (∃ j : Nat, i = 4 + j ∧ j < n ∧ a.nx = 2 ∧ a.ix = j ∧ a.pop.sl = x ∧ Stk c f (t + 1) r) ∨
    (i = 4 + n ∧ a.nx = 3 ∧ a.pop.sl = x ∧ Stk c f (t + 1) r) ∨
    (i = 5 + n ∧ a.nx = 5 ∧ a.sl = x ∧ Stk c f (t + 1) r))
theorem mkStep {c : Cf} (hr : c.right = true) {n : Nat} (hnr : (n : Int) = roomV c.A - 2) {g : Nat → Int} {M : Ms} (hn : M.n = c.size) {t x : Int} {r : List Int} (hx : 0 ≤ x ∧ x < c.S) (ht : t + 1 < 281474976710656) {i : Nat} (hi : i < 5 + n) {a : Mk} (h : Stg c n M.f t x r i a) :
    Stg c n (mkM c g a M).f t x r (i + 1) (mkS c n a M) ∧ mkD c n a M = (i + 1 == 5 + n) := by
  have hb := room_bd hr
  obtain ⟨sl, fu, kd, ar, ep, gn, ix, nx, pop⟩ := a
  obtain ⟨h0, h⟩ := h
  obtain rfl : fu = false := h0
  rcases h with ⟨rfl, h1, h2, h3, h4⟩ | ⟨rfl, h1, h2, h3, h4⟩ | ⟨rfl, h1, h2, h3, h4⟩ | ⟨rfl, h1, h2, h3, h4⟩ | ⟨j, rfl, hj, h1, h2, h3, h4⟩ | ⟨rfl, h1, h3, h4⟩ | ⟨rfl, h1, h3, h4⟩
  · obtain rfl : nx = 0 := h1
    obtain rfl : pop = ⟨-1, false, 0, 0, 0⟩ := h3
    obtain ⟨p1, p2, p3⟩ := pa0 (sl := -1) (em := false) (tp := 0) (nx := 0) hr hn h4
    have ef : (M.ldS 3).f = M.f := (ld_f M 3).1
    have hS : mkS c n ⟨sl, false, kd, ar, ep, gn, ix, 0, ⟨-1, false, 0, 0, 0⟩⟩ M = ⟨sl, false, kd, ar, ep, gn, ix, 0, ⟨-1, false, 1, M.f 3, 0⟩⟩ := by simp [mkS, p1, p3]
    have hM : mkM c g ⟨sl, false, kd, ar, ep, gn, ix, 0, ⟨-1, false, 0, 0, 0⟩⟩ M = M.ldS 3 := by simp [mkM, p2]
    refine ⟨?_, ?_⟩
    · rw [hS, hM, ef]; exact ⟨rfl, .inr (.inl ⟨rfl, rfl, h2, rfl, h4⟩)⟩
    · unfold mkD; rw [hS]; show ((0 : Int) == 5) = _; rw [beq_eq_false_iff_ne.2 (show 0 + 1 ≠ 5 + n by omega)]; rfl
  · obtain rfl : nx = 0 := h1
    obtain rfl : pop = ⟨-1, false, 1, M.f 3, 0⟩ := h3
    obtain ⟨p1, p2, p3⟩ := pa1 (sl := -1) (em := false) (nx := 0) hr hn h4
    have ef : (M.ldS (c.link x)).f = M.f := (ld_f M _).1
    have hS : mkS c n ⟨sl, false, kd, ar, ep, gn, ix, 0, ⟨-1, false, 1, M.f 3, 0⟩⟩ M = ⟨sl, false, kd, ar, ep, gn, ix, 0, ⟨-1, false, 2, M.f 3, hd r - 1⟩⟩ := by simp [mkS, p1, p3]
    have hM : mkM c g ⟨sl, false, kd, ar, ep, gn, ix, 0, ⟨-1, false, 1, M.f 3, 0⟩⟩ M = M.ldS (c.link x) := by simp [mkM, p2]
    refine ⟨?_, ?_⟩
    · rw [hS, hM, ef]; exact ⟨rfl, .inr (.inr (.inl ⟨rfl, rfl, h2, rfl, h4⟩))⟩
    · unfold mkD; rw [hS]; show ((0 : Int) == 5) = _; rw [beq_eq_false_iff_ne.2 (show 1 + 1 ≠ 5 + n by omega)]; rfl
  · obtain rfl : nx = 0 := h1
    obtain rfl : pop = ⟨-1, false, 2, M.f 3, hd r - 1⟩ := h3
    obtain ⟨p1, p2, _, p3⟩ := pa2 (sl := -1) (em := false) hr hn h4 ht
    have hS : mkS c n ⟨sl, false, kd, ar, ep, gn, ix, 0, ⟨-1, false, 2, M.f 3, hd r - 1⟩⟩ M = ⟨sl, false, kd, ar, ep, gn, ix, 1, ⟨x, false, 3, M.f 3, hd r - 1⟩⟩ := by simp [mkS, p1, p3]
    have hM : mkM c g ⟨sl, false, kd, ar, ep, gn, ix, 0, ⟨-1, false, 2, M.f 3, hd r - 1⟩⟩ M = popM c ⟨-1, false, 2, M.f 3, hd r - 1⟩ M := by simp [mkM]
    refine ⟨?_, ?_⟩
    · rw [hS, hM]; exact ⟨rfl, .inr (.inr (.inr (.inl ⟨rfl, rfl, h2, rfl, p2⟩)))⟩
    · unfold mkD; rw [hS]; show ((1 : Int) == 5) = _; rw [beq_eq_false_iff_ne.2 (show 2 + 1 ≠ 5 + n by omega)]; rfl
  · obtain rfl : nx = 1 := h1
    have ef : (M.ldS (c.header pop.sl)).f = M.f := (ld_f M _).1
    have hM : mkM c g ⟨sl, false, kd, ar, ep, gn, ix, 1, pop⟩ M = M.ldS (c.header pop.sl) := by simp [mkM]
    refine ⟨?_, ?_⟩
    · rw [hM, ef]; exact ⟨by simp [mkS], .inr (.inr (.inr (.inr (.inl ⟨0, rfl, by omega, by simp [mkS], by simpa [mkS] using h2, by simpa [mkS] using h3, h4⟩))))⟩
    · have : mkD c n ⟨sl, false, kd, ar, ep, gn, ix, 1, pop⟩ M = false := by simp [mkD, mkS]
      rw [this, beq_eq_false_iff_ne.2 (show 3 + 1 ≠ 5 + n by omega)]
  · obtain rfl : nx = 2 := h1
    obtain rfl : ix = (j : Int) := h2
    obtain rfl : pop.sl = x := h3
    have hM : mkM c g ⟨sl, false, kd, ar, ep, gn, j, 2, pop⟩ M = M.stS (c.pl pop.sl (2 + j)) (g j) := by simp [mkM, body_pl hr hx (i := (j : Int)) ⟨by omega, by omega⟩]
    have hs := (st_pl hr hn hx (o := 2 + (j : Int)) (v := g j) ⟨by omega, by omega⟩).1
    have hk := Stk.off hr h4 (v := g j) hx (o := 2 + (j : Int)) ⟨by omega, by omega⟩ (by omega)
    rw [← hs, ← hM] at hk
    by_cases e : j + 1 = n
    · have hS : mkS c n ⟨sl, false, kd, ar, ep, gn, j, 2, pop⟩ M = ⟨sl, false, kd, ar, ep, gn, (j : Int) + 1, 3, pop⟩ := by simp [mkS, show (j : Int) + 1 = (n : Int) by omega]
      refine ⟨?_, ?_⟩
      · rw [hS]; exact ⟨rfl, .inr (.inr (.inr (.inr (.inr (.inl ⟨by omega, rfl, rfl, hk⟩)))))⟩
      · unfold mkD; rw [hS]; show ((3 : Int) == 5) = _; rw [beq_eq_false_iff_ne.2 (show 4 + j + 1 ≠ 5 + n by omega)]; rfl
    · have hS : mkS c n ⟨sl, false, kd, ar, ep, gn, j, 2, pop⟩ M = ⟨sl, false, kd, ar, ep, gn, (j : Int) + 1, 2, pop⟩ := by simp [mkS, show ¬ (j : Int) + 1 = (n : Int) by omega]
      refine ⟨?_, ?_⟩
      · rw [hS]; exact ⟨rfl, .inr (.inr (.inr (.inr (.inl ⟨j + 1, by omega, by omega, rfl, by show (j : Int) + 1 = ((j + 1 : Nat) : Int); omega, rfl, hk⟩))))⟩
      · unfold mkD; rw [hS]; show ((2 : Int) == 5) = _; rw [beq_eq_false_iff_ne.2 (show 4 + j + 1 ≠ 5 + n by omega)]; rfl
  · obtain rfl : nx = 3 := h1
    obtain rfl : pop.sl = x := h3
    have hM : mkM c g ⟨sl, false, kd, ar, ep, gn, ix, 3, pop⟩ M = M.stS (c.pl pop.sl 0) (madeV kd ar gn ep).1 := by simp [mkM, header_pl hr hx]
    have hs := (st_pl hr hn hx (o := 0) (v := (madeV kd ar gn ep).1) ⟨by omega, by omega⟩).1
    have hk := Stk.off hr h4 (v := (madeV kd ar gn ep).1) hx (o := 0) ⟨by omega, by omega⟩ (by omega)
    rw [← hs, ← hM] at hk
    have hS : mkS c n ⟨sl, false, kd, ar, ep, gn, ix, 3, pop⟩ M = ⟨pop.sl, false, kd, ar, ep, gn, ix, 5, pop⟩ := by simp [mkS]
    refine ⟨?_, ?_⟩
    · rw [hS]; exact ⟨rfl, .inr (.inr (.inr (.inr (.inr (.inr ⟨by omega, rfl, rfl, hk⟩)))))⟩
    · unfold mkD; rw [hS]; show ((5 : Int) == 5) = _; rw [show (4 + n + 1 == 5 + n) = true from by simp; omega]; rfl
  · omega
end Go.Proofs.Ytijfkpoofpcacaa.ArenaL
end
section
namespace Go.Proofs.Ytijfkpoofpcacaa.HeadC
open Go.RowKit Go.Proofs.Ytijfkpoofpcacaa.PArenaPlays Go.Proofs.YtijfkpoofpcacaaW.PrintWords Go.Proofs.YtijfkpoofpcacaaW.PrintLast Go.Proofs.Ytijfkpoofpcacaa.Core Go.Proofs.Ytijfkpoofpcacaa.PuArenaPlays Go.Proofs.Ytijfkpoofpcacaa.PvArenaPlays
set_option maxHeartbeats 1000000 in
theorem freed_no1 (x g : Int) (h0 : 0 ≤ x) (h1 : x < 18446744073709551616) (hk : okW x = false) (w : World) :
    Calls Try.prog 88 #[.int .u64 x, .int .i64 g] w fun r w' => r = .returned (.tuple #[.int .u64 x, .bool false]) ∧ Below w.heap.size w w' := by
  go_enter Try.func88, Try.ntmps88
  go_wp2_with (go_at_call 86; refine (unpack_c x h0 h1 _).mono ?_; rintro r w1 ⟨rfl, hb⟩; replace hb := Lib.hid hb)
  go_ret2
  exact ⟨rfl, below_alloc hb.out _⟩
set_option maxHeartbeats 1000000 in
theorem freed_no2 (x g : Int) (h0 : 0 ≤ x) (h1 : x < 18446744073709551616) (hk : okW x = true) (h3 : (uK x == 3) = false) (w : World) :
    Calls Try.prog 88 #[.int .u64 x, .int .i64 g] w fun r w' => r = .returned (.tuple #[.int .u64 x, .bool false]) ∧ Below w.heap.size w w' := by
  have h3' : (uK x != 3) = true := by simp at h3; simpa using h3
  go_enter Try.func88, Try.ntmps88
  go_wp2_with (go_at_call 86; refine (unpack_c x h0 h1 _).mono ?_; rintro r w1 ⟨rfl, hb⟩; replace hb := Lib.hid hb)
  go_ret2
  exact ⟨rfl, below_alloc hb.out _⟩
set_option maxHeartbeats 1000000 in
theorem freed_dead1 (x g : Int) (h0 : 0 ≤ x) (h1 : x < 18446744073709551616) (hk : okW x = true) (h3 : uK x = 3) (hg : g ≤ uN x + 1) (w : World) :
    Calls Try.prog 88 #[.int .u64 x, .int .i64 g] w fun r w' => r = .returned (.tuple #[.int .u64 (headN 4 (uM x) (uG x) (uA x) (uN x) (uS x)), .bool true]) ∧ Below w.heap.size w w' := by
  obtain ⟨b1, b2, b3, b4, b5, b6, b7, b8, b9, b10⟩ := u_bd x h0 h1
  have h3' : (uK x != 3) = false := by simp [h3]
  clear h3
  go_enter Try.func88, Try.ntmps88
  go_wp2_with (first | (go_at_call 86; refine (unpack_c x h0 h1 _).mono ?_; rintro r w1 ⟨rfl, hb⟩; replace hb := Lib.hid hb) | (go_at_call 100; refine (pack_ok _ _ _ _ _ _ (by omega) _).mono ?_; rintro r w2 ⟨rfl, hb2⟩; replace hb2 := Lib.hid hb2))
  go_ret2
  exact ⟨rfl, bT (below_alloc hb.out _) hb2.out⟩
set_option maxHeartbeats 1000000 in
theorem freed_dead2 (x g : Int) (h0 : 0 ≤ x) (h1 : x < 18446744073709551616) (hk : okW x = true) (h3 : uK x = 3) (hg : ¬ g ≤ uN x + 1) (hn : uN x = 4294967295) (w : World) :
    Calls Try.prog 88 #[.int .u64 x, .int .i64 g] w fun r w' => r = .returned (.tuple #[.int .u64 (headN 4 (uM x) (uG x) (uA x) (uN x) (uS x)), .bool true]) ∧ Below w.heap.size w w' := by
  obtain ⟨b1, b2, b3, b4, b5, b6, b7, b8, b9, b10⟩ := u_bd x h0 h1
  have h3' : (uK x != 3) = false := by simp [h3]
  clear h3
  have hn' : (4294967296 : Int) ≤ uN x + 1 := by omega
  clear hn
  have hg' : uN x + 1 < g := by omega
  clear hg
  go_enter Try.func88, Try.ntmps88
  go_wp2_with (first | (go_at_call 86; refine (unpack_c x h0 h1 _).mono ?_; rintro r w1 ⟨rfl, hb⟩; replace hb := Lib.hid hb) | (go_at_call 100; refine (pack_ok _ _ _ _ _ _ (by omega) _).mono ?_; rintro r w2 ⟨rfl, hb2⟩; replace hb2 := Lib.hid hb2))
  go_ret2
  exact ⟨rfl, bT (below_alloc hb.out _) hb2.out⟩
set_option maxHeartbeats 1000000 in
theorem freed_back (x g : Int) (h0 : 0 ≤ x) (h1 : x < 18446744073709551616) (hk : okW x = true) (h3 : uK x = 3) (hg : ¬ g ≤ uN x + 1) (hn : ¬ uN x = 4294967295) (w : World) :
    Calls Try.prog 88 #[.int .u64 x, .int .i64 g] w fun r w' => r = .returned (.tuple #[.int .u64 (headN 0 0 false 0 (uN x + 1) 0), .bool true]) ∧ Below w.heap.size w w' := by
  obtain ⟨b1, b2, b3, b4, b5, b6, b7, b8, b9, b10⟩ := u_bd x h0 h1
  have h3' : (uK x != 3) = false := by simp [h3]
  clear h3
  have hn' : uN x + 1 < 4294967296 := by omega
  clear hn
  have hg' : uN x + 1 < g := by omega
  clear hg
  go_enter Try.func88, Try.ntmps88
  go_wp2_with (first | (go_at_call 86; refine (unpack_c x h0 h1 _).mono ?_; rintro r w1 ⟨rfl, hb⟩; replace hb := Lib.hid hb) | (go_at_call 100; refine (pack_ok _ _ _ _ _ _ (by omega) _).mono ?_; rintro r w2 ⟨rfl, hb2⟩; replace hb2 := Lib.hid hb2))
  go_ret2
  exact ⟨rfl, bT (below_alloc hb.out _) hb2.out⟩
theorem freed_c (x g : Int) (h0 : 0 ≤ x) (h1 : x < 18446744073709551616) (w : World) :
    Calls Try.prog 88 #[.int .u64 x, .int .i64 g] w fun r w' => r = .returned (.tuple #[.int .u64 (freedV x g).1, .bool (freedV x g).2]) ∧ Below w.heap.size w w' := by
  cases hk : okW x with
  | false =>
    rw [show freedV x g = (x, false) from by unfold freedV; rw [if_neg (by rw [hk]; simp)]]
    exact freed_no1 x g h0 h1 hk w
  | true =>
    by_cases h3 : uK x = 3
    · by_cases hg : g ≤ uN x + 1
      · rw [show freedV x g = (headN 4 (uM x) (uG x) (uA x) (uN x) (uS x), true) from by unfold freedV; rw [if_pos ⟨hk, h3⟩, if_pos (.inl hg)]]
        exact freed_dead1 x g h0 h1 hk h3 hg w
      · by_cases hn : uN x = 4294967295
        · rw [show freedV x g = (headN 4 (uM x) (uG x) (uA x) (uN x) (uS x), true) from by unfold freedV; rw [if_pos ⟨hk, h3⟩, if_pos (.inr hn)]]
          exact freed_dead2 x g h0 h1 hk h3 hg hn w
        · rw [show freedV x g = (headN 0 0 false 0 (uN x + 1) 0, true) from by unfold freedV; rw [if_pos ⟨hk, h3⟩, if_neg (by rintro (h | h) <;> contradiction)]]
          exact freed_back x g h0 h1 hk h3 hg hn w
    · rw [show freedV x g = (x, false) from by unfold freedV; rw [if_neg (fun h => h3 h.2)]]
      exact freed_no2 x g h0 h1 hk (by simpa using h3) w
theorem born_bd (e : Int) : 0 ≤ bornI e ∧ bornI e ≤ 1 := by have := black_bd e; unfold bornI; split <;> omega
set_option maxHeartbeats 1000000 in
theorem made_no (k a n e : Int) (h2 : 0 ≤ e) (h3 : e < 18446744073709551616) (ha : a < 9223372036854775808) (hn : n < 9223372036854775808) (h1 : k ≠ 1) (h2' : k ≠ 2) (w : World) :
    Calls Try.prog 87 #[.int .i64 k, .int .i64 a, .int .i64 n, .int .u64 e] w fun r w' => r = .returned (.tuple #[.int .u64 0, .bool false]) ∧ Below w.heap.size w w' := by
  have e1 : (k != 1) = true := by simpa using h1
  have e2 : (k != 2) = true := by simpa using h2'
  clear h1 h2'
  go_enter Try.func87, Try.ntmps87
  go_wp2
  go_ret2
  exact ⟨rfl, Below.refl _ _⟩
set_option maxHeartbeats 1000000 in
theorem made_yes (k a n e : Int) (h2 : 0 ≤ e) (h3 : e < 18446744073709551616) (ha : a < 9223372036854775808) (hn : n < 9223372036854775808) (hk : k = 1 ∨ k = 2) (w : World) :
    Calls Try.prog 87 #[.int .i64 k, .int .i64 a, .int .i64 n, .int .u64 e] w fun r w' => r = .returned (.tuple #[.int .u64 (packV k (bornI e) false a n 0).1, .bool (packV k (bornI e) false a n 0).2]) ∧ Below w.heap.size w w' := by
  obtain ⟨c1, c2⟩ := born_bd e
  rcases hk with rfl | rfl
  all_goals
    go_enter Try.func87, Try.ntmps87
    go_wp2_with (first | (go_at_call 101; refine (born_c e h2 h3 _).mono ?_; rintro r w' ⟨rfl, ⟨nd, rfl⟩⟩) | (go_at_call 100; refine (pack_c _ _ _ _ _ _ (by omega) (by omega) ha hn (by omega) _).mono ?_; rintro r w2 ⟨rfl, hb2⟩; replace hb2 := Lib.hid hb2))
    go_ret2
    exact ⟨rfl, bT (pw_below_drewN (Below.refl _ _) _) hb2.out⟩
theorem made_c (k a n e : Int) (h2 : 0 ≤ e) (h3 : e < 18446744073709551616) (ha : a < 9223372036854775808) (hn : n < 9223372036854775808) (w : World) :
    Calls Try.prog 87 #[.int .i64 k, .int .i64 a, .int .i64 n, .int .u64 e] w fun r w' => r = .returned (.tuple #[.int .u64 (madeV k a n e).1, .bool (madeV k a n e).2]) ∧ Below w.heap.size w w' := by
  unfold madeV
  by_cases hk : k = 1 ∨ k = 2
  · rw [if_pos hk]; exact made_yes k a n e h2 h3 ha hn hk w
  · rw [if_neg hk]; exact made_no k a n e h2 h3 ha hn (fun h => hk (.inl h)) (fun h => hk (.inr h)) w
end Go.Proofs.Ytijfkpoofpcacaa.HeadC
end
section
namespace Go.Proofs.Ytijfkpoofpcacaa.ArenaR
open Go.RowKit Go.Proofs.Ytijfkpoofpcacaa.Blk Go.Proofs.Ytijfkpoofpcacaa.Core Go.Proofs.Ytijfkpoofpcacaa.MemC Go.Proofs.Ytijfkpoofpcacaa.MemT Go.Proofs.Ytijfkpoofpcacaa.Memory Go.Proofs.Ytijfkpoofpcacaa.PlanC Go.Proofs.Ytijfkpoofpcacaa.PlanD Go.Proofs.Ytijfkpoofpcacaa.StackC Go.Proofs.Ytijfkpoofpcacaa.StackL Go.Proofs.Ytijfkpoofpcacaa.StackS Go.Proofs.Ytijfkpoofpcacaa.StackF Go.Proofs.Ytijfkpoofpcacaa.StackP Go.Proofs.Ytijfkpoofpcacaa.StackQ Go.Proofs.Ytijfkpoofpcacaa.TakerL Go.Proofs.Ytijfkpoofpcacaa.HeadC Go.Proofs.Ytijfkpoofpcacaa.ArenaL
theorem headN_bd {k m : Int} {g : Bool} {a n s : Int} (h : 0 ≤ k ∧ k ≤ 4 ∧ 0 ≤ m ∧ m ≤ 1 ∧ 0 ≤ a ∧ a ≤ 15 ∧ 0 ≤ n ∧ n ≤ 4294967295 ∧ 0 ≤ s ∧ s ≤ 65535) : 0 ≤ headN k m g a n s ∧ headN k m g a n s < 18446744073709551616 := by
  unfold headN
  split <;> omega
theorem made_bd (k a n e : Int) : 0 ≤ (madeV k a n e).1 ∧ (madeV k a n e).1 < 18446744073709551616 := by
  unfold madeV
  split
  · unfold packV
    split
    · rename_i h
      unfold headB at h
      exact headN_bd (of_decide_eq_true h)
    · exact ⟨Int.le_refl 0, by show (0 : Int) < _; decide⟩
  · exact ⟨Int.le_refl 0, by show (0 : Int) < _; decide⟩
theorem freed_bd (x g : Int) (h0 : 0 ≤ x) (h1 : x < 18446744073709551616) : 0 ≤ (freedV x g).1 ∧ (freedV x g).1 < 18446744073709551616 := by
  have hu := u_bd x h0 h1
  unfold freedV
  split
  · show 0 ≤ (if g ≤ uN x + 1 ∨ uN x = 4294967295 then headN 4 (uM x) (uG x) (uA x) (uN x) (uS x) else headN 0 0 false 0 (uN x + 1) 0) ∧ (if g ≤ uN x + 1 ∨ uN x = 4294967295 then headN 4 (uM x) (uG x) (uA x) (uN x) (uS x) else headN 0 0 false 0 (uN x + 1) 0) < _
    split
    · exact headN_bd (by omega)
    · exact headN_bd (by omega)
  · exact ⟨h0, h1⟩
theorem _root_.Go.Proofs.Ytijfkpoofpcacaa.ArenaL.MkOk.step {c : Cf} {n : Nat} {a : Mk} {M : Ms} (h : MkOk n a) (ok : Ok M) (hn : (n : Int) < 9223372036854775808) : MkOk n (mkS c n a M) := by
  obtain ⟨sl, fu, kd, ar, ep, gn, ix, nx, pop⟩ := a
  have hp : nx = 0 → PopOk pop := h.pop
  have hx : ((nx = 0 ∨ nx = 1 ∨ nx = 2) ∧ 0 ≤ ix ∧ ix < n) ∨ nx = 3 ∨ nx = 5 := h.nx
  have he : 0 ≤ ep ∧ ep < 18446744073709551616 := h.ep
  have ha : ar < 9223372036854775808 := h.ar
  have hg : gn < 9223372036854775808 := h.gn
  rcases hx with ⟨rfl | rfl | rfl, i0, i1⟩ | rfl | rfl
  · have hps := (hp rfl).step (c := c) ok
    cases hd : popD c pop M with
    | false =>
      have hS : mkS c n ⟨sl, fu, kd, ar, ep, gn, ix, 0, pop⟩ M = ⟨sl, fu, kd, ar, ep, gn, ix, 0, popS c pop M⟩ := by simp [mkS, hd]
      rw [hS]; exact ⟨fun _ => hps, .inl ⟨.inl rfl, i0, i1⟩, he, ha, hg⟩
    | true =>
      cases hm : (popS c pop M).em with
      | false =>
        have hS : mkS c n ⟨sl, fu, kd, ar, ep, gn, ix, 0, pop⟩ M = ⟨sl, fu, kd, ar, ep, gn, ix, 1, popS c pop M⟩ := by simp [mkS, hd, hm]
        rw [hS]; exact ⟨fun _ => hps, .inl ⟨.inr (.inl rfl), i0, i1⟩, he, ha, hg⟩
      | true =>
        have hS : mkS c n ⟨sl, fu, kd, ar, ep, gn, ix, 0, pop⟩ M = ⟨sl, true, kd, ar, ep, gn, ix, 5, popS c pop M⟩ := by simp [mkS, hd, hm]
        rw [hS]; exact ⟨fun _ => hps, .inr (.inr rfl), he, ha, hg⟩
  · have hS : mkS c n ⟨sl, fu, kd, ar, ep, gn, ix, 1, pop⟩ M = ⟨sl, fu, kd, ar, ep, uN (M.ldV (c.header pop.sl)), ix, 2, pop⟩ := by simp [mkS]
    obtain ⟨x0, x1⟩ := ldV_bd ok (c.header pop.sl)
    have hu := u_bd _ x0 x1
    rw [hS]; exact ⟨fun k => absurd (show (2 : Int) = 0 from k) (by decide), .inl ⟨.inr (.inr rfl), i0, i1⟩, he, ha, by show uN _ < _; omega⟩
  · by_cases e : ix + 1 = (n : Int)
    · have hS : mkS c n ⟨sl, fu, kd, ar, ep, gn, ix, 2, pop⟩ M = ⟨sl, fu, kd, ar, ep, gn, ix + 1, 3, pop⟩ := by simp [mkS, e]
      rw [hS]; exact ⟨fun k => absurd (show (3 : Int) = 0 from k) (by decide), .inr (.inl rfl), he, ha, hg⟩
    · have hS : mkS c n ⟨sl, fu, kd, ar, ep, gn, ix, 2, pop⟩ M = ⟨sl, fu, kd, ar, ep, gn, ix + 1, 2, pop⟩ := by simp [mkS, e]
      rw [hS]; exact ⟨fun k => absurd (show (2 : Int) = 0 from k) (by decide), .inl ⟨.inr (.inr rfl), by show 0 ≤ ix + 1; omega, by show ix + 1 < n; omega⟩, he, ha, hg⟩
  · have hS : mkS c n ⟨sl, fu, kd, ar, ep, gn, ix, 3, pop⟩ M = ⟨pop.sl, fu, kd, ar, ep, gn, ix, 5, pop⟩ := by simp [mkS]
    rw [hS]; exact ⟨fun k => absurd (show (5 : Int) = 0 from k) (by decide), .inr (.inr rfl), he, ha, hg⟩
  · have hS : mkS c n ⟨sl, fu, kd, ar, ep, gn, ix, 5, pop⟩ M = ⟨sl, fu, kd, ar, ep, gn, ix, 5, pop⟩ := by simp [mkS]
    rw [hS]; exact h
theorem fine_mk {c : Cf} {n N T : Nat} {g : Nat → Int} {a : Mk} {M : Ms} (h : Fine M N T) (ho : MkOk n a) (hg : U g) : Fine (mkM c g a M) N (T + 1) := by
  unfold mkM
  split
  · exact fine_pop h (ho.pop ‹_›).t0
  · split
    · exact h.ld _
    · split
      · exact h.st _ (hg _).1 (hg _).2
      · split
        · have := made_bd a.kd a.ar a.gn a.ep
          exact h.st _ this.1 this.2
        · exact h.mono (Nat.le_succ _)
theorem _root_.Go.Proofs.Ytijfkpoofpcacaa.ArenaL.FreOk.step {c : Cf} {a : Fre} {M : Ms} (h : FreOk c a) (ok : Ok M) : FreOk c (frS c a M) := by
  obtain ⟨bk, gn, sl, nw, nx, pu⟩ := a
  have hs : 0 ≤ sl ∧ sl < c.S := h.sl
  have hw : 0 ≤ nw ∧ nw < 18446744073709551616 := h.nw
  have hx : nx = 1 ∨ nx = 3 ∨ (nx = 4 ∧ ∃ Q, pu = some Q ∧ PushOk Q) ∨ nx = 5 := h.nx
  have p0 : PushOk ⟨sl, 0, 0⟩ := ⟨Int.le_refl 0, by show (0 : Int) < _; decide, .inl rfl⟩
  rcases hx with rfl | rfl | ⟨rfl, Q, rfl, oQ⟩ | rfl
  · obtain ⟨x0, x1⟩ := ldV_bd ok (c.header sl)
    have hf := freed_bd _ c.G x0 x1
    cases hv : (freedV (M.ldV (c.header sl)) c.G).2 with
    | true =>
      have hS : frS c ⟨bk, gn, sl, nw, 1, pu⟩ M = ⟨bk, gn, sl, (freedV (M.ldV (c.header sl)) c.G).1, 3, pu⟩ := by simp [frS, hv]
      rw [hS]; exact ⟨hs, hf, .inr (.inl rfl)⟩
    | false =>
      have hS : frS c ⟨bk, gn, sl, nw, 1, pu⟩ M = ⟨bk, gn, sl, (freedV (M.ldV (c.header sl)) c.G).1, 5, pu⟩ := by simp [frS, hv]
      rw [hS]; exact ⟨hs, hf, .inr (.inr (.inr rfl))⟩
  · by_cases hk : uK nw = 4
    · have hS : frS c ⟨bk, gn, sl, nw, 3, pu⟩ M = ⟨bk, true, sl, nw, 5, some ⟨sl, 0, 0⟩⟩ := by simp [frS, hk]
      rw [hS]; exact ⟨hs, hw, .inr (.inr (.inr rfl))⟩
    · have hS : frS c ⟨bk, gn, sl, nw, 3, pu⟩ M = ⟨bk, gn, sl, nw, 4, some ⟨sl, 0, 0⟩⟩ := by simp [frS, hk]
      rw [hS]; exact ⟨hs, hw, .inr (.inr (.inl ⟨rfl, _, rfl, p0⟩))⟩
  · cases hd : pushD c Q M with
    | true =>
      have hS : frS c ⟨bk, gn, sl, nw, 4, some Q⟩ M = ⟨true, gn, sl, nw, 5, some (pushS c Q M)⟩ := by simp [frS, hd]
      rw [hS]; exact ⟨hs, hw, .inr (.inr (.inr rfl))⟩
    | false =>
      have hS : frS c ⟨bk, gn, sl, nw, 4, some Q⟩ M = ⟨bk, gn, sl, nw, 4, some (pushS c Q M)⟩ := by simp [frS, hd]
      rw [hS]; exact ⟨hs, hw, .inr (.inr (.inl ⟨rfl, _, rfl, oQ.step ok⟩))⟩
  · have hS : frS c ⟨bk, gn, sl, nw, 5, pu⟩ M = ⟨bk, gn, sl, nw, 5, pu⟩ := by simp [frS]
    rw [hS]; exact h
theorem fine_fr {c : Cf} {N T : Nat} {a : Fre} {M : Ms} (h : Fine M N T) (ho : FreOk c a) : Fine (frM c a M) N (T + 1) := by
  obtain ⟨bk, gn, sl, nw, nx, pu⟩ := a
  have hw : 0 ≤ nw ∧ nw < 18446744073709551616 := ho.nw
  have hx : nx = 1 ∨ nx = 3 ∨ (nx = 4 ∧ ∃ Q, pu = some Q ∧ PushOk Q) ∨ nx = 5 := ho.nx
  rcases hx with rfl | rfl | ⟨rfl, Q, rfl, oQ⟩ | rfl
  · rw [show frM c ⟨bk, gn, sl, nw, 1, pu⟩ M = M.ldS (c.header sl) by simp [frM]]; exact h.ld _
  · rw [show frM c ⟨bk, gn, sl, nw, 3, pu⟩ M = M.stS (c.header sl) nw by simp [frM]]; exact h.st _ hw.1 hw.2
  · rw [show frM c ⟨bk, gn, sl, nw, 4, some Q⟩ M = pushM c Q M by simp [frM]]; exact fine_push h oQ.t0
  · rw [show frM c ⟨bk, gn, sl, nw, 5, pu⟩ M = M by simp [frM]]; exact h.mono (Nat.le_succ _)
section
variable {c : Cf} (hr : c.right = true) {M : Ms} {t : Int} {L : List Int} {x tp : Int} (hn : M.n = c.size) (h : Stk c M.f t L)
include hr hn h
theorem pb0 : pushS c ⟨x, 0, tp⟩ M = ⟨x, 1, M.f 3⟩ ∧ pushM c ⟨x, 0, tp⟩ M = M.ldS 3 ∧ pushD c ⟨x, 0, tp⟩ M = false := by
  have e3 : M.ldV 3 = M.f 3 := ld_v (by decide) (by have := size_bd hr; unfold Cf.size at hn; omega)
  have hS : pushS c ⟨x, 0, tp⟩ M = ⟨x, 1, M.f 3⟩ := by simp [pushS, e3]
  exact ⟨hS, by simp [pushM], by unfold pushD; rw [hS]; rfl⟩
theorem pb1 (hx : 0 ≤ x ∧ x < c.S) (hnm : x ∉ L) : pushS c ⟨x, 1, M.f 3⟩ M = ⟨x, 2, M.f 3⟩ ∧ pushD c ⟨x, 1, M.f 3⟩ M = false ∧ (pushM c ⟨x, 1, M.f 3⟩ M).f = upd M.f (c.pl x 1).toNat (hd L) ∧ Stk c (pushM c ⟨x, 1, M.f 3⟩ M).f t L ∧ (pushM c ⟨x, 1, M.f 3⟩ M).f 3 = M.f 3 := by
  have hb := room_bd hr
  have hl := pl_bd hr hx (o := 1) ⟨by decide, by omega⟩
  have h1 := h.first hr
  have hS : pushS c ⟨x, 1, M.f 3⟩ M = ⟨x, 2, M.f 3⟩ := by simp [pushS]
  have e1 : firstI c.S (M.f 3) + 1 = hd L := by rw [h1]; omega
  have hM : (pushM c ⟨x, 1, M.f 3⟩ M).f = upd M.f (c.pl x 1).toNat (hd L) := by
    rw [show pushM c ⟨x, 1, M.f 3⟩ M = M.stS (c.pl x 1) (hd L) by simp [pushM, link_pl hr hx, e1]]
    exact (st_pl hr hn hx ⟨by decide, by omega⟩).1
  refine ⟨hS, by unfold pushD; rw [hS]; rfl, hM, ?_, ?_⟩
  · rw [hM, ← link_pl hr hx]; exact h.store hr hx hnm _
  · rw [hM, upd_ne (by omega)]
theorem pb2 (ht : t + 1 < 281474976710656) (hx : 0 ≤ x ∧ x < c.S) (hnm : x ∉ L) (hl : M.f (c.link x).toNat = hd L) : pushS c ⟨x, 2, M.f 3⟩ M = ⟨x, 3, M.f 3⟩ ∧ pushD c ⟨x, 2, M.f 3⟩ M = true ∧ Stk c (pushM c ⟨x, 2, M.f 3⟩ M).f (t + 1) (x :: L) ∧ (∀ j, j ≠ 3 → (pushM c ⟨x, 2, M.f 3⟩ M).f j = M.f j) := by
  have hsz := size_bd hr
  have hn9 : (9 : Int) ≤ M.n := by unfold Cf.size at hn; omega
  obtain ⟨s1, s2, s3⟩ := sw_yes (M := M) (a := 3) (old := M.f 3) (now := movedV (M.f 3) x) (by decide) (by omega) rfl
  have hS : pushS c ⟨x, 2, M.f 3⟩ M = ⟨x, 3, M.f 3⟩ := by simp [pushS, s1]
  have hM : (pushM c ⟨x, 2, M.f 3⟩ M).f = upd M.f 3 (movedV (M.f 3) x) := by rw [show pushM c ⟨x, 2, M.f 3⟩ M = M.swS 3 (M.f 3) (movedV (M.f 3) x) by simp [pushM]]; exact s2
  refine ⟨hS, by unfold pushD; rw [hS]; rfl, ?_, fun j hj => ?_⟩
  · rw [hM]; exact h.lay hr ht hx hnm hl
  · rw [hM]; exact upd_ne hj
end
def FrI (c : Cf) (f : Nat → Int) (t : Int) (L : List Int) (s x : Int) (i : Nat) (a : Fre) : Prop :=
  a.sl = s ∧ a.bk = false ∧ a.gn = false ∧ Stk c f t L ∧ (
    (i = 0 ∧ a.nx = 1 ∧ f (c.pl s 0).toNat = x) ∨
    ((freedV x c.G).2 = true ∧ a.nw = (freedV x c.G).1 ∧ (
      (i = 1 ∧ a.nx = 3 ∧ f (c.pl s 0).toNat = x) ∨
      (uK (freedV x c.G).1 ≠ 4 ∧ a.nx = 4 ∧ f (c.pl s 0).toNat = (freedV x c.G).1 ∧ (
        (i = 2 ∧ a.pu = some ⟨s, 0, 0⟩) ∨ (i = 3 ∧ a.pu = some ⟨s, 1, f 3⟩) ∨ (i = 4 ∧ a.pu = some ⟨s, 2, f 3⟩ ∧ f (c.link s).toNat = hd L))))))
def FrE (c : Cf) (f : Nat → Int) (t : Int) (L : List Int) (s x : Int) (a : Fre) : Prop :=
  a.nx = 5 ∧ a.sl = s ∧ (
    ((freedV x c.G).2 = false ∧ a.bk = false ∧ a.gn = false ∧ f (c.pl s 0).toNat = x ∧ Stk c f t L) ∨
    ((freedV x c.G).2 = true ∧ f (c.pl s 0).toNat = (freedV x c.G).1 ∧ (
      (uK (freedV x c.G).1 = 4 ∧ a.bk = false ∧ a.gn = true ∧ Stk c f t L) ∨
      (uK (freedV x c.G).1 ≠ 4 ∧ a.bk = true ∧ a.gn = false ∧ Stk c f (t + 1) (s :: L)))))
theorem frStep {c : Cf} (hr : c.right = true) {M : Ms} (hn : M.n = c.size) {t s x : Int} {L : List Int} (hs : 0 ≤ s ∧ s < c.S) (hnm : s ∉ L) (ht : t + 1 < 281474976710656) {i : Nat} {a : Fre} (h : FrI c M.f t L s x i a) :
    (frD c a M = false ∧ FrI c (frM c a M).f t L s x (i + 1) (frS c a M) ∧ i < 4) ∨ (frD c a M = true ∧ FrE c (frM c a M).f t L s x (frS c a M)) := by
  have hb := room_bd hr
  have h00 : (0 : Int) ≤ 0 ∧ (0 : Int) < roomV c.A := ⟨by decide, by omega⟩
  have hp0 := pl_bd hr hs h00
  obtain ⟨bk, gn, sl, nw, nx, pu⟩ := a
  obtain ⟨h1, h2, h3, h4, h5⟩ := h
  obtain rfl : sl = s := h1
  obtain rfl : bk = false := h2
  obtain rfl : gn = false := h3
  have e0 : c.header sl = c.pl sl 0 := header_pl hr hs
  rcases h5 with ⟨rfl, h5, h6⟩ | ⟨hv, h5, ⟨rfl, h6, h7⟩ | ⟨hk, h6, h7, h8⟩⟩
  · obtain rfl : nx = 1 := h5
    have el : M.ldV (c.header sl) = x := by rw [e0, ld_pl hr hn hs h00]; exact h6
    have hM : (frM c ⟨false, false, sl, nw, 1, pu⟩ M).f = M.f := by rw [show frM c ⟨false, false, sl, nw, 1, pu⟩ M = M.ldS (c.header sl) by simp [frM]]; exact (ld_f M _).1
    cases hv : (freedV x c.G).2 with
    | true =>
      have hS : frS c ⟨false, false, sl, nw, 1, pu⟩ M = ⟨false, false, sl, (freedV x c.G).1, 3, pu⟩ := by simp [frS, el, hv]
      refine .inl ⟨by unfold frD; rw [hS]; rfl, ?_, by decide⟩
      rw [hS, hM]; exact ⟨rfl, rfl, rfl, h4, .inr ⟨hv, rfl, .inl ⟨rfl, rfl, h6⟩⟩⟩
    | false =>
      have hS : frS c ⟨false, false, sl, nw, 1, pu⟩ M = ⟨false, false, sl, (freedV x c.G).1, 5, pu⟩ := by simp [frS, el, hv]
      refine .inr ⟨by unfold frD; rw [hS]; rfl, ?_⟩
      rw [hS, hM]; exact ⟨rfl, rfl, .inl ⟨hv, rfl, rfl, h6, h4⟩⟩
  · obtain rfl : nx = 3 := h6
    obtain rfl : nw = (freedV x c.G).1 := h5
    have hM : (frM c ⟨false, false, sl, (freedV x c.G).1, 3, pu⟩ M).f = upd M.f (c.pl sl 0).toNat (freedV x c.G).1 := by
      rw [show frM c ⟨false, false, sl, (freedV x c.G).1, 3, pu⟩ M = M.stS (c.pl sl 0) (freedV x c.G).1 by simp [frM, e0]]
      exact (st_pl hr hn hs h00).1
    have hk4 := Stk.off hr h4 (v := (freedV x c.G).1) hs h00 (by decide)
    by_cases hk : uK (freedV x c.G).1 = 4
    · have hS : frS c ⟨false, false, sl, (freedV x c.G).1, 3, pu⟩ M = ⟨false, true, sl, (freedV x c.G).1, 5, some ⟨sl, 0, 0⟩⟩ := by simp [frS, hk]
      refine .inr ⟨by unfold frD; rw [hS]; rfl, ?_⟩
      rw [hS, hM]; exact ⟨rfl, rfl, .inr ⟨hv, upd_eq, .inl ⟨hk, rfl, rfl, hk4⟩⟩⟩
    · have hS : frS c ⟨false, false, sl, (freedV x c.G).1, 3, pu⟩ M = ⟨false, false, sl, (freedV x c.G).1, 4, some ⟨sl, 0, 0⟩⟩ := by simp [frS, hk]
      refine .inl ⟨by unfold frD; rw [hS]; rfl, ?_, by decide⟩
      rw [hS, hM]; exact ⟨rfl, rfl, rfl, hk4, .inr ⟨hv, rfl, .inr ⟨hk, rfl, upd_eq, .inl ⟨rfl, rfl⟩⟩⟩⟩
  · obtain rfl : nx = 4 := h6
    obtain rfl : nw = (freedV x c.G).1 := h5
    rcases h8 with ⟨rfl, h8⟩ | ⟨rfl, h8⟩ | ⟨rfl, h8, h9⟩
    · obtain rfl : pu = some ⟨sl, 0, 0⟩ := h8
      obtain ⟨p1, p2, p3⟩ := pb0 (x := sl) (tp := 0) hr hn h4
      have hS : frS c ⟨false, false, sl, (freedV x c.G).1, 4, some ⟨sl, 0, 0⟩⟩ M = ⟨false, false, sl, (freedV x c.G).1, 4, some ⟨sl, 1, M.f 3⟩⟩ := by simp [frS, p1, p3]
      have hM : (frM c ⟨false, false, sl, (freedV x c.G).1, 4, some ⟨sl, 0, 0⟩⟩ M).f = M.f := by rw [show frM c ⟨false, false, sl, (freedV x c.G).1, 4, some ⟨sl, 0, 0⟩⟩ M = M.ldS 3 by simp [frM, p2]]; exact (ld_f M _).1
      refine .inl ⟨by unfold frD; rw [hS]; rfl, ?_, by decide⟩
      rw [hS, hM]; exact ⟨rfl, rfl, rfl, h4, .inr ⟨hv, rfl, .inr ⟨hk, rfl, h7, .inr (.inl ⟨rfl, rfl⟩)⟩⟩⟩
    · obtain rfl : pu = some ⟨sl, 1, M.f 3⟩ := h8
      obtain ⟨p1, p3, p2, p4, p5⟩ := pb1 hr hn h4 hs hnm
      have hS : frS c ⟨false, false, sl, (freedV x c.G).1, 4, some ⟨sl, 1, M.f 3⟩⟩ M = ⟨false, false, sl, (freedV x c.G).1, 4, some ⟨sl, 2, M.f 3⟩⟩ := by simp [frS, p1, p3]
      have hM : frM c ⟨false, false, sl, (freedV x c.G).1, 4, some ⟨sl, 1, M.f 3⟩⟩ M = pushM c ⟨sl, 1, M.f 3⟩ M := by simp [frM]
      have hne := pl_ne hr hs hs h00 (j := 1) ⟨by decide, by omega⟩ (.inr (by decide))
      refine .inl ⟨by unfold frD; rw [hS]; rfl, ?_, by decide⟩
      rw [hS, hM]
      refine ⟨rfl, rfl, rfl, p4, .inr ⟨hv, rfl, .inr ⟨hk, rfl, ?_, .inr (.inr ⟨rfl, by rw [p5], ?_⟩)⟩⟩⟩
      · rw [p2, upd_ne hne]; exact h7
      · rw [link_pl hr hs, p2, upd_eq]
    · obtain rfl : pu = some ⟨sl, 2, M.f 3⟩ := h8
      obtain ⟨p1, p3, p4, p5⟩ := pb2 hr hn h4 ht hs hnm h9
      have hS : frS c ⟨false, false, sl, (freedV x c.G).1, 4, some ⟨sl, 2, M.f 3⟩⟩ M = ⟨true, false, sl, (freedV x c.G).1, 5, some ⟨sl, 3, M.f 3⟩⟩ := by simp [frS, p1, p3]
      have hM : frM c ⟨false, false, sl, (freedV x c.G).1, 4, some ⟨sl, 2, M.f 3⟩⟩ M = pushM c ⟨sl, 2, M.f 3⟩ M := by simp [frM]
      refine .inr ⟨by unfold frD; rw [hS]; rfl, ?_⟩
      rw [hS, hM]
      exact ⟨rfl, rfl, .inr ⟨hv, by rw [p5 _ (by omega)]; exact h7, .inr ⟨hk, rfl, rfl, p4⟩⟩⟩
end Go.Proofs.Ytijfkpoofpcacaa.ArenaR
end
