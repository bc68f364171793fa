/-
  What the law ArenaFrees needs of the seat's texts (StackC, Open, StackL, StackS, PArenaPlaysx7, PwArenaPlays, HeadP, HeadC, HeadD, ArenaC, ArenaM): the words and functions that the kit's print.sh printed, and our own; no condition of its own.
-/
import Derived.Deep.RegionHeld3
import Derived.IntWalk
import Derived.Deep.Slices
import Derived.Deep.Fields
import Derived.ChangeSame
import Derived.ChangeShapes
import Derived.SizedLaws
import Derived.Below
import Derived.RowKit
import Derived.Deep.QuietTactic
import Derived.BigQuiet
import Derived.Lib.Hide
import Derived.Outline
import Derived.WalkLawsBesides
import Derived.StillTailTactics
import Derived.Test.YtijfkpoofpcacaaZArenaFrees2
set_option linter.unusedVariables false
set_option linter.unusedSectionVars false
set_option linter.unusedSimpArgs false
section
set_option linter.unusedVariables false
set_option linter.unusedSectionVars false
namespace Go.Proofs.Ytijfkpoofpcacaa.StackC
open Go.RowKit Go.Proofs.YtijfkpoofpcacaaW.PrintWords Go.Proofs.Ytijfkpoofpcacaa.Blk Go.Proofs.Ytijfkpoofpcacaa.Core Go.Proofs.Ytijfkpoofpcacaa.MemC Go.Proofs.Ytijfkpoofpcacaa.MemD Go.Proofs.Ytijfkpoofpcacaa.MemT Go.Proofs.Ytijfkpoofpcacaa.PlanC Go.Proofs.Ytijfkpoofpcacaa.PlanD
def three (p m b : Nat) : Nat → Prop := fun k => k = p ∨ two m b k
theorem two_three {p m b : Nat} {w w' : World} (h : Fr (two m b) w w') : Fr (three p m b) w w' := h.mono (fun _ x => .inr x)
theorem fr_p {p m b : Nat} (w : World) (i : Nat) (v : Value) : Fr (three p m b) w (w.setCell ⟨p, i, none⟩ v) := Fr.set (three p m b) w (p := ⟨p, i, none⟩) (.inl rfl) v
theorem _root_.Go.Proofs.Ytijfkpoofpcacaa.MemC.MemB.set {w : World} {m b : Nat} {M : Ms} (h : MemB w m b M) {p : Nat} (np : ¬ two m b p) (i : Nat) (v : Value) : MemB (w.setCell ⟨p, i, none⟩ v) m b M :=
  h.fr (Fr.set (fun k => k = p) w (p := ⟨p, i, none⟩) rfl v) (fun e => np (.inl e.symm)) (fun e => np (.inr e.symm))
theorem ldV_bd {M : Ms} (ok : Ok M) (a : Int) : 0 ≤ M.ldV a ∧ M.ldV a < 18446744073709551616 := by
  unfold Ms.ldV
  split
  · exact ok.f _
  · exact ⟨Int.le_refl 0, by decide⟩
theorem cell_off {w : World} {p i j : Nat} {v : Value} (h : i ≠ j) : (w.setCell ⟨p, i, none⟩ v).cell? ⟨p, j, none⟩ = w.cell? ⟨p, j, none⟩ := World.cell?_setCell_other _ _ _ _ (fun e => h (congrArg Addr.off e))
def popA (c : Cf) (sl : Int) (em : Bool) (a : Int) (tp : Int) (nx : Int) : Array Value := #[.int .i64 sl, .bool em, .int .i64 c.S, .int .i64 c.A, .int .i64 c.C, .int .i64 c.H, .int .i64 c.G, .int .i64 c.K, .int .i64 a, .int .u64 tp, .int .i64 nx]
theorem pop_cells {w : World} {p t : Nat} {c : Cf} {sl : Int} {em : Bool} {a : Int} {tp : Int} {nx : Int} (h : Blk w p t (popA c sl em a tp nx)) :
    w.cell? ⟨p, 0, none⟩ = some (.int .i64 sl) ∧ w.cell? ⟨p, 1, none⟩ = some (.bool em) ∧ w.cell? ⟨p, 2, none⟩ = some (.int .i64 c.S) ∧ w.cell? ⟨p, 3, none⟩ = some (.int .i64 c.A) ∧ w.cell? ⟨p, 4, none⟩ = some (.int .i64 c.C) ∧ w.cell? ⟨p, 5, none⟩ = some (.int .i64 c.H) ∧ w.cell? ⟨p, 6, none⟩ = some (.int .i64 c.G) ∧ w.cell? ⟨p, 7, none⟩ = some (.int .i64 c.K) ∧ w.cell? ⟨p, 8, none⟩ = some (.int .i64 a) ∧ w.cell? ⟨p, 9, none⟩ = some (.int .u64 tp) ∧ w.cell? ⟨p, 10, none⟩ = some (.int .i64 nx) :=
  ⟨h.cell (i := 0) rfl, h.cell (i := 1) rfl, h.cell (i := 2) rfl, h.cell (i := 3) rfl, h.cell (i := 4) rfl, h.cell (i := 5) rfl, h.cell (i := 6) rfl, h.cell (i := 7) rfl, h.cell (i := 8) rfl, h.cell (i := 9) rfl, h.cell (i := 10) rfl⟩
def pushA (c : Cf) (sl : Int) (a : Int) (tp : Int) : Array Value := #[.int .i64 c.S, .int .i64 c.A, .int .i64 c.C, .int .i64 c.H, .int .i64 c.G, .int .i64 c.K, .int .i64 sl, .int .i64 a, .int .u64 tp]
theorem push_cells {w : World} {p t : Nat} {c : Cf} {sl : Int} {a : Int} {tp : Int} (h : Blk w p t (pushA c sl a tp)) :
    w.cell? ⟨p, 0, none⟩ = some (.int .i64 c.S) ∧ w.cell? ⟨p, 1, none⟩ = some (.int .i64 c.A) ∧ w.cell? ⟨p, 2, none⟩ = some (.int .i64 c.C) ∧ w.cell? ⟨p, 3, none⟩ = some (.int .i64 c.H) ∧ w.cell? ⟨p, 4, none⟩ = some (.int .i64 c.G) ∧ w.cell? ⟨p, 5, none⟩ = some (.int .i64 c.K) ∧ w.cell? ⟨p, 6, none⟩ = some (.int .i64 sl) ∧ w.cell? ⟨p, 7, none⟩ = some (.int .i64 a) ∧ w.cell? ⟨p, 8, none⟩ = some (.int .u64 tp) :=
  ⟨h.cell (i := 0) rfl, h.cell (i := 1) rfl, h.cell (i := 2) rfl, h.cell (i := 3) rfl, h.cell (i := 4) rfl, h.cell (i := 5) rfl, h.cell (i := 6) rfl, h.cell (i := 7) rfl, h.cell (i := 8) rfl⟩
theorem pop_k10 {w : World} {p : Nat} {c : Cf} {sl : Int} {em : Bool} {a : Int} {tp : Int} {v : Value} (h : w.cell? ⟨p, 0, none⟩ = some (.int .i64 sl) ∧ w.cell? ⟨p, 1, none⟩ = some (.bool em) ∧ w.cell? ⟨p, 2, none⟩ = some (.int .i64 c.S) ∧ w.cell? ⟨p, 3, none⟩ = some (.int .i64 c.A) ∧ w.cell? ⟨p, 4, none⟩ = some (.int .i64 c.C) ∧ w.cell? ⟨p, 5, none⟩ = some (.int .i64 c.H) ∧ w.cell? ⟨p, 6, none⟩ = some (.int .i64 c.G) ∧ w.cell? ⟨p, 7, none⟩ = some (.int .i64 c.K) ∧ w.cell? ⟨p, 8, none⟩ = some (.int .i64 a) ∧ w.cell? ⟨p, 9, none⟩ = some (.int .u64 tp)) :
    (w.setCell ⟨p, 10, none⟩ v).cell? ⟨p, 0, none⟩ = some (.int .i64 sl) ∧ (w.setCell ⟨p, 10, none⟩ v).cell? ⟨p, 1, none⟩ = some (.bool em) ∧ (w.setCell ⟨p, 10, none⟩ v).cell? ⟨p, 2, none⟩ = some (.int .i64 c.S) ∧ (w.setCell ⟨p, 10, none⟩ v).cell? ⟨p, 3, none⟩ = some (.int .i64 c.A) ∧ (w.setCell ⟨p, 10, none⟩ v).cell? ⟨p, 4, none⟩ = some (.int .i64 c.C) ∧ (w.setCell ⟨p, 10, none⟩ v).cell? ⟨p, 5, none⟩ = some (.int .i64 c.H) ∧ (w.setCell ⟨p, 10, none⟩ v).cell? ⟨p, 6, none⟩ = some (.int .i64 c.G) ∧ (w.setCell ⟨p, 10, none⟩ v).cell? ⟨p, 7, none⟩ = some (.int .i64 c.K) ∧ (w.setCell ⟨p, 10, none⟩ v).cell? ⟨p, 8, none⟩ = some (.int .i64 a) ∧ (w.setCell ⟨p, 10, none⟩ v).cell? ⟨p, 9, none⟩ = some (.int .u64 tp) := by
  obtain ⟨x0, x1, x2, x3, x4, x5, x6, x7, x8, x9⟩ := h
  exact ⟨(cell_off (by decide)).trans x0, (cell_off (by decide)).trans x1, (cell_off (by decide)).trans x2, (cell_off (by decide)).trans x3, (cell_off (by decide)).trans x4, (cell_off (by decide)).trans x5, (cell_off (by decide)).trans x6, (cell_off (by decide)).trans x7, (cell_off (by decide)).trans x8, (cell_off (by decide)).trans x9⟩
theorem pop_k0 {w : World} {p : Nat} {c : Cf} {em : Bool} {tp : Int} {nx : Int} {v : Value} (h : w.cell? ⟨p, 1, none⟩ = some (.bool em) ∧ w.cell? ⟨p, 2, none⟩ = some (.int .i64 c.S) ∧ w.cell? ⟨p, 3, none⟩ = some (.int .i64 c.A) ∧ w.cell? ⟨p, 4, none⟩ = some (.int .i64 c.C) ∧ w.cell? ⟨p, 5, none⟩ = some (.int .i64 c.H) ∧ w.cell? ⟨p, 6, none⟩ = some (.int .i64 c.G) ∧ w.cell? ⟨p, 7, none⟩ = some (.int .i64 c.K) ∧ w.cell? ⟨p, 9, none⟩ = some (.int .u64 tp) ∧ w.cell? ⟨p, 10, none⟩ = some (.int .i64 nx)) :
    (w.setCell ⟨p, 0, none⟩ v).cell? ⟨p, 1, none⟩ = some (.bool em) ∧ (w.setCell ⟨p, 0, none⟩ v).cell? ⟨p, 2, none⟩ = some (.int .i64 c.S) ∧ (w.setCell ⟨p, 0, none⟩ v).cell? ⟨p, 3, none⟩ = some (.int .i64 c.A) ∧ (w.setCell ⟨p, 0, none⟩ v).cell? ⟨p, 4, none⟩ = some (.int .i64 c.C) ∧ (w.setCell ⟨p, 0, none⟩ v).cell? ⟨p, 5, none⟩ = some (.int .i64 c.H) ∧ (w.setCell ⟨p, 0, none⟩ v).cell? ⟨p, 6, none⟩ = some (.int .i64 c.G) ∧ (w.setCell ⟨p, 0, none⟩ v).cell? ⟨p, 7, none⟩ = some (.int .i64 c.K) ∧ (w.setCell ⟨p, 0, none⟩ v).cell? ⟨p, 9, none⟩ = some (.int .u64 tp) ∧ (w.setCell ⟨p, 0, none⟩ v).cell? ⟨p, 10, none⟩ = some (.int .i64 nx) := by
  obtain ⟨x1, x2, x3, x4, x5, x6, x7, x9, x10⟩ := h
  exact ⟨(cell_off (by decide)).trans x1, (cell_off (by decide)).trans x2, (cell_off (by decide)).trans x3, (cell_off (by decide)).trans x4, (cell_off (by decide)).trans x5, (cell_off (by decide)).trans x6, (cell_off (by decide)).trans x7, (cell_off (by decide)).trans x9, (cell_off (by decide)).trans x10⟩
theorem pop_k8 {w : World} {p : Nat} {c : Cf} {em : Bool} {tp : Int} {nx : Int} {v : Value} (h : w.cell? ⟨p, 1, none⟩ = some (.bool em) ∧ w.cell? ⟨p, 2, none⟩ = some (.int .i64 c.S) ∧ w.cell? ⟨p, 3, none⟩ = some (.int .i64 c.A) ∧ w.cell? ⟨p, 4, none⟩ = some (.int .i64 c.C) ∧ w.cell? ⟨p, 5, none⟩ = some (.int .i64 c.H) ∧ w.cell? ⟨p, 6, none⟩ = some (.int .i64 c.G) ∧ w.cell? ⟨p, 7, none⟩ = some (.int .i64 c.K) ∧ w.cell? ⟨p, 9, none⟩ = some (.int .u64 tp) ∧ w.cell? ⟨p, 10, none⟩ = some (.int .i64 nx)) :
    (w.setCell ⟨p, 8, none⟩ v).cell? ⟨p, 1, none⟩ = some (.bool em) ∧ (w.setCell ⟨p, 8, none⟩ v).cell? ⟨p, 2, none⟩ = some (.int .i64 c.S) ∧ (w.setCell ⟨p, 8, none⟩ v).cell? ⟨p, 3, none⟩ = some (.int .i64 c.A) ∧ (w.setCell ⟨p, 8, none⟩ v).cell? ⟨p, 4, none⟩ = some (.int .i64 c.C) ∧ (w.setCell ⟨p, 8, none⟩ v).cell? ⟨p, 5, none⟩ = some (.int .i64 c.H) ∧ (w.setCell ⟨p, 8, none⟩ v).cell? ⟨p, 6, none⟩ = some (.int .i64 c.G) ∧ (w.setCell ⟨p, 8, none⟩ v).cell? ⟨p, 7, none⟩ = some (.int .i64 c.K) ∧ (w.setCell ⟨p, 8, none⟩ v).cell? ⟨p, 9, none⟩ = some (.int .u64 tp) ∧ (w.setCell ⟨p, 8, none⟩ v).cell? ⟨p, 10, none⟩ = some (.int .i64 nx) := by
  obtain ⟨x1, x2, x3, x4, x5, x6, x7, x9, x10⟩ := h
  exact ⟨(cell_off (by decide)).trans x1, (cell_off (by decide)).trans x2, (cell_off (by decide)).trans x3, (cell_off (by decide)).trans x4, (cell_off (by decide)).trans x5, (cell_off (by decide)).trans x6, (cell_off (by decide)).trans x7, (cell_off (by decide)).trans x9, (cell_off (by decide)).trans x10⟩
section
variable (c : Cf) (w : World) (p m b : Nat) (M : Ms) (hc : c.right = true) (hM : MemB w m b M) (ok : Ok M) (np : ¬ two m b p) (sl : Int) (em : Bool) (tp nx : Int)
include hc hM ok np
set_option maxHeartbeats 4000000 in
set_option maxRecDepth 100000 in
theorem pop_0a (hx : firstI c.S (M.ldV 3) < 0) (hp : Blk w p 66 (popA c sl em 0 tp nx)) : Calls Try.prog 45 #[.pointer (some ⟨p, 0, none⟩), .pointer (some ⟨m, 0, none⟩)] w fun e w' =>
    e = .returned (.bool true) ∧ Blk w' p 66 (popA c sl true 3 ((M.ldV 3)) nx) ∧ MemB w' m b (M.ldS 3) ∧ Fr (three p m b) w w' := by
  have hF := Lib.hid (Fr.refl (three p m b) w)
  obtain ⟨k0, k1, k2, k3, k4, k5, k6, k7, k8, k9, k10⟩ := pop_cells hp
  obtain ⟨x0, x1⟩ := ldV_bd ok 3
  have hl := load_c w m b M 3 hM ok
  generalize M.ldV 3 = x at *
  replace hp := Lib.hid hp
  replace hM := Lib.hid hM
  go_enter Try.func45, Try.ntmps45
  go_wp2_with (go_at_call 35; refine (hl).mono ?_; rintro e w1 ⟨rfl, hM', hF'⟩; replace hp := Lib.hid (hp.out.fr hF' np); replace hM := Lib.hid hM'; replace hF := Lib.hid (hF.out.trans (two_three hF')); clear hM' hF'; obtain ⟨l0, l1, l2, l3, l4, l5, l6, l7, l8, l9, l10⟩ := pop_cells hp.out; have z8 := hp.out.frozen 8; have z9 := hp.out.frozen 9)
  have hp' : Blk ((w1.setCell ⟨p, 9, none⟩ (.int .u64 x)).setCell ⟨p, 8, none⟩ (.int .i64 1)) p 66 (popA c sl em 1 x nx) := ((hp.out.set 9 _).set 8 _)
  have hM' := ((hM.out.set np 9 (.int .u64 x)).set np 8 (.int .i64 1))
  have hF' := ((hF.out.trans (fr_p w1 9 (.int .u64 x))).trans (fr_p (w1.setCell ⟨p, 9, none⟩ (.int .u64 x)) 8 (.int .i64 1)))
  clear hp hM hF k0 k1 k2 k3 k4 k5 k6 k7 k8 k9 k10 l0 l1 l2 l3 l4 l5 l6 l7 l8 l9 l10 z8 z9 hl
  generalize (w1.setCell ⟨p, 9, none⟩ (.int .u64 x)).setCell ⟨p, 8, none⟩ (.int .i64 1) = w2 at *
  have hp := Lib.hid hp'
  have hM := Lib.hid hM'
  have hF := Lib.hid hF'
  clear hp' hM' hF'
  replace hp := Lib.hid hp.out.drew
  replace hM := Lib.hid hM.out.drew
  replace hF := Lib.hid (hF.out.trans (Fr.drew _ w2))
  have hX0 := pop_cells hp.out
  have hX : w2.drew.cell? ⟨p, 0, none⟩ = some (.int .i64 sl) ∧ w2.drew.cell? ⟨p, 1, none⟩ = some (.bool em) ∧ w2.drew.cell? ⟨p, 2, none⟩ = some (.int .i64 c.S) ∧ w2.drew.cell? ⟨p, 3, none⟩ = some (.int .i64 c.A) ∧ w2.drew.cell? ⟨p, 4, none⟩ = some (.int .i64 c.C) ∧ w2.drew.cell? ⟨p, 5, none⟩ = some (.int .i64 c.H) ∧ w2.drew.cell? ⟨p, 6, none⟩ = some (.int .i64 c.G) ∧ w2.drew.cell? ⟨p, 7, none⟩ = some (.int .i64 c.K) ∧ w2.drew.cell? ⟨p, 8, none⟩ = some (.int .i64 1) ∧ w2.drew.cell? ⟨p, 9, none⟩ = some (.int .u64 x) ∧ w2.drew.cell? ⟨p, 10, none⟩ = some (.int .i64 nx) := hX0
  clear hX0
  go_region_held3 (fun w' => w'.cell? ⟨p, 0, none⟩ = some (.int .i64 sl) ∧ w'.cell? ⟨p, 1, none⟩ = some (.bool em) ∧ w'.cell? ⟨p, 2, none⟩ = some (.int .i64 c.S) ∧ w'.cell? ⟨p, 3, none⟩ = some (.int .i64 c.A) ∧ w'.cell? ⟨p, 4, none⟩ = some (.int .i64 c.C) ∧ w'.cell? ⟨p, 5, none⟩ = some (.int .i64 c.H) ∧ w'.cell? ⟨p, 6, none⟩ = some (.int .i64 c.G) ∧ w'.cell? ⟨p, 7, none⟩ = some (.int .i64 c.K) ∧ w'.cell? ⟨p, 8, none⟩ = some (.int .i64 1) ∧ w'.cell? ⟨p, 9, none⟩ = some (.int .u64 x) ∧ w'.cell? ⟨p, 10, none⟩ = some (.int .i64 nx)) (assumption) (first
    | (go_at_call 75; refine (firstC c _ x x0 x1).mono ?_; rintro e w3 ⟨rfl, hb⟩; replace hp := Lib.hid (hp.out.below hb hp.out.lt); replace hM := Lib.hid (hM.out.next hb); replace hF := Lib.hid (hF.out.trans (fr_below hb)); have hY := pop_cells hp.out; clear hb; have z1 := hp.out.frozen 1; have z8 := hp.out.frozen 8))
  obtain ⟨l0, l1, l2, l3, l4, l5, l6, l7, l8, l9, l10⟩ := hY
  go_wp2
  go_ret
  exact ⟨rfl, (hp.out.set 1 _).set 8 _, (hM.out.set np 1 _).set np 8 _, (hF.out.trans (fr_p w3 1 (.bool true))).trans (fr_p _ 8 _)⟩
set_option maxHeartbeats 4000000 in
set_option maxRecDepth 100000 in
theorem pop_0b (hx : 0 ≤ firstI c.S (M.ldV 3)) (hp : Blk w p 66 (popA c sl em 0 tp nx)) : Calls Try.prog 45 #[.pointer (some ⟨p, 0, none⟩), .pointer (some ⟨m, 0, none⟩)] w fun e w' =>
    e = .returned (.bool false) ∧ Blk w' p 66 (popA c sl em 1 ((M.ldV 3)) nx) ∧ MemB w' m b (M.ldS 3) ∧ Fr (three p m b) w w' := by
  have hF := Lib.hid (Fr.refl (three p m b) w)
  obtain ⟨k0, k1, k2, k3, k4, k5, k6, k7, k8, k9, k10⟩ := pop_cells hp
  obtain ⟨x0, x1⟩ := ldV_bd ok 3
  have hl := load_c w m b M 3 hM ok
  generalize M.ldV 3 = x at *
  replace hp := Lib.hid hp
  replace hM := Lib.hid hM
  go_enter Try.func45, Try.ntmps45
  go_wp2_with (go_at_call 35; refine (hl).mono ?_; rintro e w1 ⟨rfl, hM', hF'⟩; replace hp := Lib.hid (hp.out.fr hF' np); replace hM := Lib.hid hM'; replace hF := Lib.hid (hF.out.trans (two_three hF')); clear hM' hF'; obtain ⟨l0, l1, l2, l3, l4, l5, l6, l7, l8, l9, l10⟩ := pop_cells hp.out; have z8 := hp.out.frozen 8; have z9 := hp.out.frozen 9)
  have hp' : Blk ((w1.setCell ⟨p, 9, none⟩ (.int .u64 x)).setCell ⟨p, 8, none⟩ (.int .i64 1)) p 66 (popA c sl em 1 x nx) := ((hp.out.set 9 _).set 8 _)
  have hM' := ((hM.out.set np 9 (.int .u64 x)).set np 8 (.int .i64 1))
  have hF' := ((hF.out.trans (fr_p w1 9 (.int .u64 x))).trans (fr_p (w1.setCell ⟨p, 9, none⟩ (.int .u64 x)) 8 (.int .i64 1)))
  clear hp hM hF k0 k1 k2 k3 k4 k5 k6 k7 k8 k9 k10 l0 l1 l2 l3 l4 l5 l6 l7 l8 l9 l10 z8 z9 hl
  generalize (w1.setCell ⟨p, 9, none⟩ (.int .u64 x)).setCell ⟨p, 8, none⟩ (.int .i64 1) = w2 at *
  have hp := Lib.hid hp'
  have hM := Lib.hid hM'
  have hF := Lib.hid hF'
  clear hp' hM' hF'
  replace hp := Lib.hid hp.out.drew
  replace hM := Lib.hid hM.out.drew
  replace hF := Lib.hid (hF.out.trans (Fr.drew _ w2))
  have hX0 := pop_cells hp.out
  have hX : w2.drew.cell? ⟨p, 0, none⟩ = some (.int .i64 sl) ∧ w2.drew.cell? ⟨p, 1, none⟩ = some (.bool em) ∧ w2.drew.cell? ⟨p, 2, none⟩ = some (.int .i64 c.S) ∧ w2.drew.cell? ⟨p, 3, none⟩ = some (.int .i64 c.A) ∧ w2.drew.cell? ⟨p, 4, none⟩ = some (.int .i64 c.C) ∧ w2.drew.cell? ⟨p, 5, none⟩ = some (.int .i64 c.H) ∧ w2.drew.cell? ⟨p, 6, none⟩ = some (.int .i64 c.G) ∧ w2.drew.cell? ⟨p, 7, none⟩ = some (.int .i64 c.K) ∧ w2.drew.cell? ⟨p, 8, none⟩ = some (.int .i64 1) ∧ w2.drew.cell? ⟨p, 9, none⟩ = some (.int .u64 x) ∧ w2.drew.cell? ⟨p, 10, none⟩ = some (.int .i64 nx) := hX0
  clear hX0
  go_region_held3 (fun w' => w'.cell? ⟨p, 0, none⟩ = some (.int .i64 sl) ∧ w'.cell? ⟨p, 1, none⟩ = some (.bool em) ∧ w'.cell? ⟨p, 2, none⟩ = some (.int .i64 c.S) ∧ w'.cell? ⟨p, 3, none⟩ = some (.int .i64 c.A) ∧ w'.cell? ⟨p, 4, none⟩ = some (.int .i64 c.C) ∧ w'.cell? ⟨p, 5, none⟩ = some (.int .i64 c.H) ∧ w'.cell? ⟨p, 6, none⟩ = some (.int .i64 c.G) ∧ w'.cell? ⟨p, 7, none⟩ = some (.int .i64 c.K) ∧ w'.cell? ⟨p, 8, none⟩ = some (.int .i64 1) ∧ w'.cell? ⟨p, 9, none⟩ = some (.int .u64 x) ∧ w'.cell? ⟨p, 10, none⟩ = some (.int .i64 nx)) (assumption) (first
    | (go_at_call 75; refine (firstC c _ x x0 x1).mono ?_; rintro e w3 ⟨rfl, hb⟩; replace hp := Lib.hid (hp.out.below hb hp.out.lt); replace hM := Lib.hid (hM.out.next hb); replace hF := Lib.hid (hF.out.trans (fr_below hb)); have hY := pop_cells hp.out; clear hb; have z1 := hp.out.frozen 1; have z8 := hp.out.frozen 8))
  obtain ⟨l0, l1, l2, l3, l4, l5, l6, l7, l8, l9, l10⟩ := hY
  go_wp2
  go_ret
  exact ⟨rfl, hp.out, hM.out, hF.out⟩
set_option maxHeartbeats 4000000 in
set_option maxRecDepth 100000 in
theorem pop_1 (t0 : 0 ≤ tp) (t1 : tp < 18446744073709551616) (hp : Blk w p 66 (popA c sl em 1 tp nx)) : Calls Try.prog 45 #[.pointer (some ⟨p, 0, none⟩), .pointer (some ⟨m, 0, none⟩)] w fun e w' =>
    e = .returned (.bool false) ∧ Blk w' p 66 (popA c sl em 2 tp ((linkedI c.S (M.ldV (c.link (firstI c.S tp)))))) ∧ MemB w' m b (M.ldS (c.link (firstI c.S tp))) ∧ Fr (three p m b) w w' := by
  obtain ⟨x0, x1⟩ := ldV_bd ok (c.link (firstI c.S tp))
  have hF := Lib.hid (Fr.refl (three p m b) w)
  obtain ⟨k0, k1, k2, k3, k4, k5, k6, k7, k8, k9, k10⟩ := pop_cells hp
  replace hp := Lib.hid hp
  replace hM := Lib.hid hM
  go_enter Try.func45, Try.ntmps45
  go_wp2
  clear k0 k1 k2 k3 k4 k5 k6 k7 k8 k9 k10
  replace hp := Lib.hid hp.out.drew
  replace hM := Lib.hid hM.out.drew
  replace hF := Lib.hid (hF.out.trans (Fr.drew _ w))
  have hX0 := pop_cells hp.out
  have hX : w.drew.cell? ⟨p, 0, none⟩ = some (.int .i64 sl) ∧ w.drew.cell? ⟨p, 1, none⟩ = some (.bool em) ∧ w.drew.cell? ⟨p, 2, none⟩ = some (.int .i64 c.S) ∧ w.drew.cell? ⟨p, 3, none⟩ = some (.int .i64 c.A) ∧ w.drew.cell? ⟨p, 4, none⟩ = some (.int .i64 c.C) ∧ w.drew.cell? ⟨p, 5, none⟩ = some (.int .i64 c.H) ∧ w.drew.cell? ⟨p, 6, none⟩ = some (.int .i64 c.G) ∧ w.drew.cell? ⟨p, 7, none⟩ = some (.int .i64 c.K) ∧ w.drew.cell? ⟨p, 8, none⟩ = some (.int .i64 1) ∧ w.drew.cell? ⟨p, 9, none⟩ = some (.int .u64 tp) := by
    obtain ⟨x0, x1, x2, x3, x4, x5, x6, x7, x8, x9, x10⟩ := hX0
    exact ⟨x0, x1, x2, x3, x4, x5, x6, x7, x8, x9⟩
  clear hX0
  go_region_held3 (fun w' => w'.cell? ⟨p, 0, none⟩ = some (.int .i64 sl) ∧ w'.cell? ⟨p, 1, none⟩ = some (.bool em) ∧ w'.cell? ⟨p, 2, none⟩ = some (.int .i64 c.S) ∧ w'.cell? ⟨p, 3, none⟩ = some (.int .i64 c.A) ∧ w'.cell? ⟨p, 4, none⟩ = some (.int .i64 c.C) ∧ w'.cell? ⟨p, 5, none⟩ = some (.int .i64 c.H) ∧ w'.cell? ⟨p, 6, none⟩ = some (.int .i64 c.G) ∧ w'.cell? ⟨p, 7, none⟩ = some (.int .i64 c.K) ∧ w'.cell? ⟨p, 8, none⟩ = some (.int .i64 1) ∧ w'.cell? ⟨p, 9, none⟩ = some (.int .u64 tp)) (first | assumption | (refine pop_k10 ?_; assumption)) (first
    | (go_at_call 75; refine (firstC c _ tp t0 t1).mono ?_; rintro e w3 ⟨rfl, hb⟩; replace hp := Lib.hid (hp.out.below hb hp.out.lt); replace hM := Lib.hid (hM.out.next hb); replace hF := Lib.hid (hF.out.trans (fr_below hb)); clear hb; have hY_w3 : w3.cell? ⟨p, 0, none⟩ = some (.int .i64 sl) ∧ w3.cell? ⟨p, 1, none⟩ = some (.bool em) ∧ w3.cell? ⟨p, 2, none⟩ = some (.int .i64 c.S) ∧ w3.cell? ⟨p, 3, none⟩ = some (.int .i64 c.A) ∧ w3.cell? ⟨p, 4, none⟩ = some (.int .i64 c.C) ∧ w3.cell? ⟨p, 5, none⟩ = some (.int .i64 c.H) ∧ w3.cell? ⟨p, 6, none⟩ = some (.int .i64 c.G) ∧ w3.cell? ⟨p, 7, none⟩ = some (.int .i64 c.K) ∧ w3.cell? ⟨p, 8, none⟩ = some (.int .i64 1) ∧ w3.cell? ⟨p, 9, none⟩ = some (.int .u64 tp) := (by obtain ⟨y0, y1, y2, y3, y4, y5, y6, y7, y8, y9, y10⟩ := pop_cells hp.out; exact ⟨y0, y1, y2, y3, y4, y5, y6, y7, y8, y9⟩))
    | (go_at_call 69; refine (linkC c _ (firstI c.S tp)).mono ?_; rintro e w4 ⟨rfl, hb⟩; replace hp := Lib.hid (hp.out.below hb hp.out.lt); replace hM := Lib.hid (hM.out.next hb); replace hF := Lib.hid (hF.out.trans (fr_below hb)); clear hb; have hY_w4 : w4.cell? ⟨p, 0, none⟩ = some (.int .i64 sl) ∧ w4.cell? ⟨p, 1, none⟩ = some (.bool em) ∧ w4.cell? ⟨p, 2, none⟩ = some (.int .i64 c.S) ∧ w4.cell? ⟨p, 3, none⟩ = some (.int .i64 c.A) ∧ w4.cell? ⟨p, 4, none⟩ = some (.int .i64 c.C) ∧ w4.cell? ⟨p, 5, none⟩ = some (.int .i64 c.H) ∧ w4.cell? ⟨p, 6, none⟩ = some (.int .i64 c.G) ∧ w4.cell? ⟨p, 7, none⟩ = some (.int .i64 c.K) ∧ w4.cell? ⟨p, 8, none⟩ = some (.int .i64 1) ∧ w4.cell? ⟨p, 9, none⟩ = some (.int .u64 tp) := (by obtain ⟨y0, y1, y2, y3, y4, y5, y6, y7, y8, y9, y10⟩ := pop_cells hp.out; exact ⟨y0, y1, y2, y3, y4, y5, y6, y7, y8, y9⟩))
    | (go_at_call 35; refine (load_c _ m b M (c.link (firstI c.S tp)) hM.out ok).mono ?_; rintro e w5 ⟨rfl, hM', hF'⟩; replace hp := Lib.hid (hp.out.fr hF' np); replace hM := Lib.hid hM'; replace hF := Lib.hid (hF.out.trans (two_three hF')); clear hM' hF'; have hY_w5 : w5.cell? ⟨p, 0, none⟩ = some (.int .i64 sl) ∧ w5.cell? ⟨p, 1, none⟩ = some (.bool em) ∧ w5.cell? ⟨p, 2, none⟩ = some (.int .i64 c.S) ∧ w5.cell? ⟨p, 3, none⟩ = some (.int .i64 c.A) ∧ w5.cell? ⟨p, 4, none⟩ = some (.int .i64 c.C) ∧ w5.cell? ⟨p, 5, none⟩ = some (.int .i64 c.H) ∧ w5.cell? ⟨p, 6, none⟩ = some (.int .i64 c.G) ∧ w5.cell? ⟨p, 7, none⟩ = some (.int .i64 c.K) ∧ w5.cell? ⟨p, 8, none⟩ = some (.int .i64 1) ∧ w5.cell? ⟨p, 9, none⟩ = some (.int .u64 tp) := (by obtain ⟨y0, y1, y2, y3, y4, y5, y6, y7, y8, y9, y10⟩ := pop_cells hp.out; exact ⟨y0, y1, y2, y3, y4, y5, y6, y7, y8, y9⟩))
    | (go_at_call 76; refine (linkedC c _ hc _ x0 x1).mono ?_; rintro e w6 ⟨rfl, hb⟩; replace hp := Lib.hid (hp.out.below hb hp.out.lt); replace hM := Lib.hid (hM.out.next hb); replace hF := Lib.hid (hF.out.trans (fr_below hb)); clear hb; have z8 := hp.out.frozen 8; have z10 := hp.out.frozen 10; have hY_w6 : w6.cell? ⟨p, 0, none⟩ = some (.int .i64 sl) ∧ w6.cell? ⟨p, 1, none⟩ = some (.bool em) ∧ w6.cell? ⟨p, 2, none⟩ = some (.int .i64 c.S) ∧ w6.cell? ⟨p, 3, none⟩ = some (.int .i64 c.A) ∧ w6.cell? ⟨p, 4, none⟩ = some (.int .i64 c.C) ∧ w6.cell? ⟨p, 5, none⟩ = some (.int .i64 c.H) ∧ w6.cell? ⟨p, 6, none⟩ = some (.int .i64 c.G) ∧ w6.cell? ⟨p, 7, none⟩ = some (.int .i64 c.K) ∧ w6.cell? ⟨p, 8, none⟩ = some (.int .i64 1) ∧ w6.cell? ⟨p, 9, none⟩ = some (.int .u64 tp) := (by obtain ⟨y0, y1, y2, y3, y4, y5, y6, y7, y8, y9, y10⟩ := pop_cells hp.out; exact ⟨y0, y1, y2, y3, y4, y5, y6, y7, y8, y9⟩); have l10 := hp.out.cell (i := 10) (v := .int .i64 nx) rfl))
  go_wp2
  go_ret
  exact ⟨rfl, (hp.out.set 10 _).set 8 _, (hM.out.set np 10 _).set np 8 _, (hF.out.trans (fr_p _ 10 _)).trans (fr_p _ 8 _)⟩
set_option maxHeartbeats 4000000 in
set_option maxRecDepth 100000 in
theorem pop_2a (t0 : 0 ≤ tp) (t1 : tp < 18446744073709551616) (hs : M.swV 3 tp = true) (hp : Blk w p 66 (popA c sl em 2 tp nx)) : Calls Try.prog 45 #[.pointer (some ⟨p, 0, none⟩), .pointer (some ⟨m, 0, none⟩)] w fun e w' =>
    e = .returned (.bool true) ∧ Blk w' p 66 (popA c ((firstI c.S tp)) em 3 tp nx) ∧ MemB w' m b (M.swS 3 tp (movedV tp nx)) ∧ Fr (three p m b) w w' := by
  obtain ⟨n0, n1⟩ := movedV_bd tp nx t0
  have z8 := hp.frozen 8
  have hF := Lib.hid (Fr.refl (three p m b) w)
  obtain ⟨k0, k1, k2, k3, k4, k5, k6, k7, k8, k9, k10⟩ := pop_cells hp
  replace hs := Lib.hid hs
  replace hp := Lib.hid hp
  replace hM := Lib.hid hM
  go_enter Try.func45, Try.ntmps45
  go_wp2
  have hp' : Blk (w.setCell ⟨p, 8, none⟩ (.int .i64 0)) p 66 (popA c sl em 0 tp nx) := (hp.out.set 8 _)
  have hM' := (hM.out.set np 8 (.int .i64 0))
  have hF' := (hF.out.trans (fr_p w 8 (.int .i64 0)))
  clear hp hM hF k0 k1 k2 k3 k4 k5 k6 k7 k8 k9 k10 z8
  generalize w.setCell ⟨p, 8, none⟩ (.int .i64 0) = w2 at *
  have hp := Lib.hid hp'
  have hM := Lib.hid hM'
  have hF := Lib.hid hF'
  clear hp' hM' hF'
  replace hp := Lib.hid hp.out.drew
  replace hM := Lib.hid hM.out.drew
  replace hF := Lib.hid (hF.out.trans (Fr.drew _ w2))
  have hX0 := pop_cells hp.out
  have hX : w2.drew.cell? ⟨p, 0, none⟩ = some (.int .i64 sl) ∧ w2.drew.cell? ⟨p, 1, none⟩ = some (.bool em) ∧ w2.drew.cell? ⟨p, 2, none⟩ = some (.int .i64 c.S) ∧ w2.drew.cell? ⟨p, 3, none⟩ = some (.int .i64 c.A) ∧ w2.drew.cell? ⟨p, 4, none⟩ = some (.int .i64 c.C) ∧ w2.drew.cell? ⟨p, 5, none⟩ = some (.int .i64 c.H) ∧ w2.drew.cell? ⟨p, 6, none⟩ = some (.int .i64 c.G) ∧ w2.drew.cell? ⟨p, 7, none⟩ = some (.int .i64 c.K) ∧ w2.drew.cell? ⟨p, 8, none⟩ = some (.int .i64 0) ∧ w2.drew.cell? ⟨p, 9, none⟩ = some (.int .u64 tp) ∧ w2.drew.cell? ⟨p, 10, none⟩ = some (.int .i64 nx) := hX0
  clear hX0
  go_region_held3 (fun w' => w'.cell? ⟨p, 0, none⟩ = some (.int .i64 sl) ∧ w'.cell? ⟨p, 1, none⟩ = some (.bool em) ∧ w'.cell? ⟨p, 2, none⟩ = some (.int .i64 c.S) ∧ w'.cell? ⟨p, 3, none⟩ = some (.int .i64 c.A) ∧ w'.cell? ⟨p, 4, none⟩ = some (.int .i64 c.C) ∧ w'.cell? ⟨p, 5, none⟩ = some (.int .i64 c.H) ∧ w'.cell? ⟨p, 6, none⟩ = some (.int .i64 c.G) ∧ w'.cell? ⟨p, 7, none⟩ = some (.int .i64 c.K) ∧ w'.cell? ⟨p, 8, none⟩ = some (.int .i64 0) ∧ w'.cell? ⟨p, 9, none⟩ = some (.int .u64 tp) ∧ w'.cell? ⟨p, 10, none⟩ = some (.int .i64 nx)) (assumption) (first
    | (go_at_call 83; refine (movedC _ tp nx t0 t1).mono ?_; rintro e w3 ⟨rfl, hb⟩; replace hp := Lib.hid (hp.out.below hb hp.out.lt); replace hM := Lib.hid (hM.out.next hb); replace hF := Lib.hid (hF.out.trans (fr_below hb)); clear hb; have hY_w3 : w3.cell? ⟨p, 0, none⟩ = some (.int .i64 sl) ∧ w3.cell? ⟨p, 1, none⟩ = some (.bool em) ∧ w3.cell? ⟨p, 2, none⟩ = some (.int .i64 c.S) ∧ w3.cell? ⟨p, 3, none⟩ = some (.int .i64 c.A) ∧ w3.cell? ⟨p, 4, none⟩ = some (.int .i64 c.C) ∧ w3.cell? ⟨p, 5, none⟩ = some (.int .i64 c.H) ∧ w3.cell? ⟨p, 6, none⟩ = some (.int .i64 c.G) ∧ w3.cell? ⟨p, 7, none⟩ = some (.int .i64 c.K) ∧ w3.cell? ⟨p, 8, none⟩ = some (.int .i64 0) ∧ w3.cell? ⟨p, 9, none⟩ = some (.int .u64 tp) ∧ w3.cell? ⟨p, 10, none⟩ = some (.int .i64 nx) := (by obtain ⟨y0, y1, y2, y3, y4, y5, y6, y7, y8, y9, y10⟩ := pop_cells hp.out; exact ⟨y0, y1, y2, y3, y4, y5, y6, y7, y8, y9, y10⟩))
    | (go_at_call 82; refine (swap_c _ m b M 3 hM.out ok tp (movedV tp nx)).mono ?_; rintro e w4 ⟨rfl, hM', hF'⟩; rw [hs.out]; replace hp := Lib.hid (hp.out.fr hF' np); replace hM := Lib.hid hM'; replace hF := Lib.hid (hF.out.trans (two_three hF')); clear hM' hF'; have z8 := hp.out.frozen 8; have z0 := hp.out.frozen 0; have hY_w4 : w4.cell? ⟨p, 0, none⟩ = some (.int .i64 sl) ∧ w4.cell? ⟨p, 1, none⟩ = some (.bool em) ∧ w4.cell? ⟨p, 2, none⟩ = some (.int .i64 c.S) ∧ w4.cell? ⟨p, 3, none⟩ = some (.int .i64 c.A) ∧ w4.cell? ⟨p, 4, none⟩ = some (.int .i64 c.C) ∧ w4.cell? ⟨p, 5, none⟩ = some (.int .i64 c.H) ∧ w4.cell? ⟨p, 6, none⟩ = some (.int .i64 c.G) ∧ w4.cell? ⟨p, 7, none⟩ = some (.int .i64 c.K) ∧ w4.cell? ⟨p, 8, none⟩ = some (.int .i64 0) ∧ w4.cell? ⟨p, 9, none⟩ = some (.int .u64 tp) ∧ w4.cell? ⟨p, 10, none⟩ = some (.int .i64 nx) := (by obtain ⟨y0, y1, y2, y3, y4, y5, y6, y7, y8, y9, y10⟩ := pop_cells hp.out; exact ⟨y0, y1, y2, y3, y4, y5, y6, y7, y8, y9, y10⟩)))
  go_wp2
  clear hX hY_w3 hY_w4 z8 z0
  replace hp := Lib.hid hp.out.drew
  replace hM := Lib.hid hM.out.drew
  replace hF := Lib.hid (hF.out.trans (Fr.drew _ w4))
  have hX0 := pop_cells hp.out
  have hX : w4.drew.cell? ⟨p, 1, none⟩ = some (.bool em) ∧ w4.drew.cell? ⟨p, 2, none⟩ = some (.int .i64 c.S) ∧ w4.drew.cell? ⟨p, 3, none⟩ = some (.int .i64 c.A) ∧ w4.drew.cell? ⟨p, 4, none⟩ = some (.int .i64 c.C) ∧ w4.drew.cell? ⟨p, 5, none⟩ = some (.int .i64 c.H) ∧ w4.drew.cell? ⟨p, 6, none⟩ = some (.int .i64 c.G) ∧ w4.drew.cell? ⟨p, 7, none⟩ = some (.int .i64 c.K) ∧ w4.drew.cell? ⟨p, 9, none⟩ = some (.int .u64 tp) ∧ w4.drew.cell? ⟨p, 10, none⟩ = some (.int .i64 nx) := by
    obtain ⟨x0, x1, x2, x3, x4, x5, x6, x7, x8, x9, x10⟩ := hX0
    exact ⟨x1, x2, x3, x4, x5, x6, x7, x9, x10⟩
  clear hX0
  go_region_held3 (fun w' => w'.cell? ⟨p, 1, none⟩ = some (.bool em) ∧ w'.cell? ⟨p, 2, none⟩ = some (.int .i64 c.S) ∧ w'.cell? ⟨p, 3, none⟩ = some (.int .i64 c.A) ∧ w'.cell? ⟨p, 4, none⟩ = some (.int .i64 c.C) ∧ w'.cell? ⟨p, 5, none⟩ = some (.int .i64 c.H) ∧ w'.cell? ⟨p, 6, none⟩ = some (.int .i64 c.G) ∧ w'.cell? ⟨p, 7, none⟩ = some (.int .i64 c.K) ∧ w'.cell? ⟨p, 9, none⟩ = some (.int .u64 tp) ∧ w'.cell? ⟨p, 10, none⟩ = some (.int .i64 nx)) (first | assumption | (refine pop_k0 ?_; assumption) | (refine pop_k8 ?_; assumption)) (first
    | (go_at_call 75; refine (firstC c _ tp t0 t1).mono ?_; rintro e w5 ⟨rfl, hb⟩; replace hp := Lib.hid (hp.out.below hb hp.out.lt); replace hM := Lib.hid (hM.out.next hb); replace hF := Lib.hid (hF.out.trans (fr_below hb)); clear hb; have z0 := hp.out.frozen 0; have z8 := hp.out.frozen 8; have hY_w5 : w5.cell? ⟨p, 1, none⟩ = some (.bool em) ∧ w5.cell? ⟨p, 2, none⟩ = some (.int .i64 c.S) ∧ w5.cell? ⟨p, 3, none⟩ = some (.int .i64 c.A) ∧ w5.cell? ⟨p, 4, none⟩ = some (.int .i64 c.C) ∧ w5.cell? ⟨p, 5, none⟩ = some (.int .i64 c.H) ∧ w5.cell? ⟨p, 6, none⟩ = some (.int .i64 c.G) ∧ w5.cell? ⟨p, 7, none⟩ = some (.int .i64 c.K) ∧ w5.cell? ⟨p, 9, none⟩ = some (.int .u64 tp) ∧ w5.cell? ⟨p, 10, none⟩ = some (.int .i64 nx) := (by obtain ⟨y0, y1, y2, y3, y4, y5, y6, y7, y8, y9, y10⟩ := pop_cells hp.out; exact ⟨y1, y2, y3, y4, y5, y6, y7, y9, y10⟩); have l0 := hp.out.cell (i := 0) (v := .int .i64 sl) rfl; have l8 := hp.out.cell (i := 8) (v := .int .i64 0) rfl))
  all_goals
    go_wp2
    go_ret
    exact ⟨rfl, (hp.out.set 0 _).set 8 _, (hM.out.set np 0 _).set np 8 _, (hF.out.trans (fr_p _ 0 _)).trans (fr_p _ 8 _)⟩
set_option maxHeartbeats 4000000 in
set_option maxRecDepth 100000 in
theorem pop_2b (t0 : 0 ≤ tp) (t1 : tp < 18446744073709551616) (hs : M.swV 3 tp = false) (hp : Blk w p 66 (popA c sl em 2 tp nx)) : Calls Try.prog 45 #[.pointer (some ⟨p, 0, none⟩), .pointer (some ⟨m, 0, none⟩)] w fun e w' =>
    e = .returned (.bool false) ∧ Blk w' p 66 (popA c sl em 0 tp nx) ∧ MemB w' m b (M.swS 3 tp (movedV tp nx)) ∧ Fr (three p m b) w w' := by
  obtain ⟨n0, n1⟩ := movedV_bd tp nx t0
  have z8 := hp.frozen 8
  have hF := Lib.hid (Fr.refl (three p m b) w)
  obtain ⟨k0, k1, k2, k3, k4, k5, k6, k7, k8, k9, k10⟩ := pop_cells hp
  replace hs := Lib.hid hs
  replace hp := Lib.hid hp
  replace hM := Lib.hid hM
  go_enter Try.func45, Try.ntmps45
  go_wp2
  have hp' : Blk (w.setCell ⟨p, 8, none⟩ (.int .i64 0)) p 66 (popA c sl em 0 tp nx) := (hp.out.set 8 _)
  have hM' := (hM.out.set np 8 (.int .i64 0))
  have hF' := (hF.out.trans (fr_p w 8 (.int .i64 0)))
  clear hp hM hF k0 k1 k2 k3 k4 k5 k6 k7 k8 k9 k10 z8
  generalize w.setCell ⟨p, 8, none⟩ (.int .i64 0) = w2 at *
  have hp := Lib.hid hp'
  have hM := Lib.hid hM'
  have hF := Lib.hid hF'
  clear hp' hM' hF'
  replace hp := Lib.hid hp.out.drew
  replace hM := Lib.hid hM.out.drew
  replace hF := Lib.hid (hF.out.trans (Fr.drew _ w2))
  have hX0 := pop_cells hp.out
  have hX : w2.drew.cell? ⟨p, 0, none⟩ = some (.int .i64 sl) ∧ w2.drew.cell? ⟨p, 1, none⟩ = some (.bool em) ∧ w2.drew.cell? ⟨p, 2, none⟩ = some (.int .i64 c.S) ∧ w2.drew.cell? ⟨p, 3, none⟩ = some (.int .i64 c.A) ∧ w2.drew.cell? ⟨p, 4, none⟩ = some (.int .i64 c.C) ∧ w2.drew.cell? ⟨p, 5, none⟩ = some (.int .i64 c.H) ∧ w2.drew.cell? ⟨p, 6, none⟩ = some (.int .i64 c.G) ∧ w2.drew.cell? ⟨p, 7, none⟩ = some (.int .i64 c.K) ∧ w2.drew.cell? ⟨p, 8, none⟩ = some (.int .i64 0) ∧ w2.drew.cell? ⟨p, 9, none⟩ = some (.int .u64 tp) ∧ w2.drew.cell? ⟨p, 10, none⟩ = some (.int .i64 nx) := hX0
  clear hX0
  go_region_held3 (fun w' => w'.cell? ⟨p, 0, none⟩ = some (.int .i64 sl) ∧ w'.cell? ⟨p, 1, none⟩ = some (.bool em) ∧ w'.cell? ⟨p, 2, none⟩ = some (.int .i64 c.S) ∧ w'.cell? ⟨p, 3, none⟩ = some (.int .i64 c.A) ∧ w'.cell? ⟨p, 4, none⟩ = some (.int .i64 c.C) ∧ w'.cell? ⟨p, 5, none⟩ = some (.int .i64 c.H) ∧ w'.cell? ⟨p, 6, none⟩ = some (.int .i64 c.G) ∧ w'.cell? ⟨p, 7, none⟩ = some (.int .i64 c.K) ∧ w'.cell? ⟨p, 8, none⟩ = some (.int .i64 0) ∧ w'.cell? ⟨p, 9, none⟩ = some (.int .u64 tp) ∧ w'.cell? ⟨p, 10, none⟩ = some (.int .i64 nx)) (assumption) (first
    | (go_at_call 83; refine (movedC _ tp nx t0 t1).mono ?_; rintro e w3 ⟨rfl, hb⟩; replace hp := Lib.hid (hp.out.below hb hp.out.lt); replace hM := Lib.hid (hM.out.next hb); replace hF := Lib.hid (hF.out.trans (fr_below hb)); clear hb; have hY_w3 : w3.cell? ⟨p, 0, none⟩ = some (.int .i64 sl) ∧ w3.cell? ⟨p, 1, none⟩ = some (.bool em) ∧ w3.cell? ⟨p, 2, none⟩ = some (.int .i64 c.S) ∧ w3.cell? ⟨p, 3, none⟩ = some (.int .i64 c.A) ∧ w3.cell? ⟨p, 4, none⟩ = some (.int .i64 c.C) ∧ w3.cell? ⟨p, 5, none⟩ = some (.int .i64 c.H) ∧ w3.cell? ⟨p, 6, none⟩ = some (.int .i64 c.G) ∧ w3.cell? ⟨p, 7, none⟩ = some (.int .i64 c.K) ∧ w3.cell? ⟨p, 8, none⟩ = some (.int .i64 0) ∧ w3.cell? ⟨p, 9, none⟩ = some (.int .u64 tp) ∧ w3.cell? ⟨p, 10, none⟩ = some (.int .i64 nx) := (by obtain ⟨y0, y1, y2, y3, y4, y5, y6, y7, y8, y9, y10⟩ := pop_cells hp.out; exact ⟨y0, y1, y2, y3, y4, y5, y6, y7, y8, y9, y10⟩))
    | (go_at_call 82; refine (swap_c _ m b M 3 hM.out ok tp (movedV tp nx)).mono ?_; rintro e w4 ⟨rfl, hM', hF'⟩; rw [hs.out]; replace hp := Lib.hid (hp.out.fr hF' np); replace hM := Lib.hid hM'; replace hF := Lib.hid (hF.out.trans (two_three hF')); clear hM' hF'; have z8 := hp.out.frozen 8; have z0 := hp.out.frozen 0; have hY_w4 : w4.cell? ⟨p, 0, none⟩ = some (.int .i64 sl) ∧ w4.cell? ⟨p, 1, none⟩ = some (.bool em) ∧ w4.cell? ⟨p, 2, none⟩ = some (.int .i64 c.S) ∧ w4.cell? ⟨p, 3, none⟩ = some (.int .i64 c.A) ∧ w4.cell? ⟨p, 4, none⟩ = some (.int .i64 c.C) ∧ w4.cell? ⟨p, 5, none⟩ = some (.int .i64 c.H) ∧ w4.cell? ⟨p, 6, none⟩ = some (.int .i64 c.G) ∧ w4.cell? ⟨p, 7, none⟩ = some (.int .i64 c.K) ∧ w4.cell? ⟨p, 8, none⟩ = some (.int .i64 0) ∧ w4.cell? ⟨p, 9, none⟩ = some (.int .u64 tp) ∧ w4.cell? ⟨p, 10, none⟩ = some (.int .i64 nx) := (by obtain ⟨y0, y1, y2, y3, y4, y5, y6, y7, y8, y9, y10⟩ := pop_cells hp.out; exact ⟨y0, y1, y2, y3, y4, y5, y6, y7, y8, y9, y10⟩)))
  obtain ⟨l0, l1, l2, l3, l4, l5, l6, l7, l8, l9, l10⟩ := hY_w4
  go_wp2
  go_ret
  exact ⟨rfl, hp.out, hM.out, hF.out⟩
set_option maxHeartbeats 4000000 in
set_option maxRecDepth 100000 in
theorem pop_3 (hp : Blk w p 66 (popA c sl em 3 tp nx)) : Calls Try.prog 45 #[.pointer (some ⟨p, 0, none⟩), .pointer (some ⟨m, 0, none⟩)] w fun e w' =>
    e = .returned (.bool true) ∧ Blk w' p 66 (popA c sl em 3 tp nx) ∧ MemB w' m b (M) ∧ Fr (three p m b) w w' := by
  have hF := Lib.hid (Fr.refl (three p m b) w)
  obtain ⟨k0, k1, k2, k3, k4, k5, k6, k7, k8, k9, k10⟩ := pop_cells hp
  replace hp := Lib.hid hp
  replace hM := Lib.hid hM
  go_enter Try.func45, Try.ntmps45
  go_wp2
  go_ret
  exact ⟨rfl, hp.out, hM.out, hF.out⟩
set_option maxHeartbeats 4000000 in
set_option maxRecDepth 100000 in
theorem push_0 (hp : Blk w p 137 (pushA c sl 0 tp)) : Calls Try.prog 47 #[.pointer (some ⟨p, 0, none⟩), .pointer (some ⟨m, 0, none⟩)] w fun e w' =>
    e = .returned (.bool false) ∧ Blk w' p 137 (pushA c sl 1 ((M.ldV 3))) ∧ MemB w' m b (M.ldS 3) ∧ Fr (three p m b) w w' := by
  have hF := Lib.hid (Fr.refl (three p m b) w)
  obtain ⟨k0, k1, k2, k3, k4, k5, k6, k7, k8⟩ := push_cells hp
  obtain ⟨x0, x1⟩ := ldV_bd ok 3
  have hl := load_c w m b M 3 hM ok
  generalize M.ldV 3 = x at *
  replace hp := Lib.hid hp
  replace hM := Lib.hid hM
  go_enter Try.func47, Try.ntmps47
  go_wp2_with (go_at_call 35; refine (hl).mono ?_; rintro e w1 ⟨rfl, hM', hF'⟩; replace hp := Lib.hid (hp.out.fr hF' np); replace hM := Lib.hid hM'; replace hF := Lib.hid (hF.out.trans (two_three hF')); clear hM' hF'; obtain ⟨l0, l1, l2, l3, l4, l5, l6, l7, l8⟩ := push_cells hp.out; have z7 := hp.out.frozen 7; have z8 := hp.out.frozen 8)
  go_ret
  exact ⟨rfl, (hp.out.set 8 _).set 7 _, (hM.out.set np 8 _).set np 7 _, (hF.out.trans (fr_p _ 8 _)).trans (fr_p _ 7 _)⟩
set_option maxHeartbeats 4000000 in
set_option maxRecDepth 100000 in
theorem push_1 (t0 : 0 ≤ tp) (t1 : tp < 18446744073709551616) (hp : Blk w p 137 (pushA c sl 1 tp)) : Calls Try.prog 47 #[.pointer (some ⟨p, 0, none⟩), .pointer (some ⟨m, 0, none⟩)] w fun e w' =>
    e = .returned (.bool false) ∧ Blk w' p 137 (pushA c sl 2 tp) ∧ MemB w' m b (M.stS (c.link sl) (firstI c.S tp + 1)) ∧ Fr (three p m b) w w' := by
  have e0 := firstI_bd c.S tp
  have e3 : firstI c.S tp < 65536 := by unfold firstI; split <;> omega
  have e1 : IntKind.i64.wrap (firstI c.S tp + 1) = firstI c.S tp + 1 := IntWalk.i64_in _ (by omega)
  have e2 : IntKind.u64.wrap (firstI c.S tp + 1) = firstI c.S tp + 1 := wrap_u64_id _ (by omega) (by omega)
  clear e0 e3
  have hF := Lib.hid (Fr.refl (three p m b) w)
  obtain ⟨k0, k1, k2, k3, k4, k5, k6, k7, k8⟩ := push_cells hp
  replace hp := Lib.hid hp
  replace hM := Lib.hid hM
  go_enter Try.func47, Try.ntmps47
  go_wp2
  clear k0 k1 k2 k3 k4 k5 k6 k7 k8
  replace hp := Lib.hid hp.out.drew
  replace hM := Lib.hid hM.out.drew
  replace hF := Lib.hid (hF.out.trans (Fr.drew _ w))
  have hX0 := push_cells hp.out
  have hX : w.drew.cell? ⟨p, 0, none⟩ = some (.int .i64 c.S) ∧ w.drew.cell? ⟨p, 1, none⟩ = some (.int .i64 c.A) ∧ w.drew.cell? ⟨p, 2, none⟩ = some (.int .i64 c.C) ∧ w.drew.cell? ⟨p, 3, none⟩ = some (.int .i64 c.H) ∧ w.drew.cell? ⟨p, 4, none⟩ = some (.int .i64 c.G) ∧ w.drew.cell? ⟨p, 5, none⟩ = some (.int .i64 c.K) ∧ w.drew.cell? ⟨p, 6, none⟩ = some (.int .i64 sl) ∧ w.drew.cell? ⟨p, 7, none⟩ = some (.int .i64 1) ∧ w.drew.cell? ⟨p, 8, none⟩ = some (.int .u64 tp) := hX0
  clear hX0
  go_region_held3 (fun w' => w'.cell? ⟨p, 0, none⟩ = some (.int .i64 c.S) ∧ w'.cell? ⟨p, 1, none⟩ = some (.int .i64 c.A) ∧ w'.cell? ⟨p, 2, none⟩ = some (.int .i64 c.C) ∧ w'.cell? ⟨p, 3, none⟩ = some (.int .i64 c.H) ∧ w'.cell? ⟨p, 4, none⟩ = some (.int .i64 c.G) ∧ w'.cell? ⟨p, 5, none⟩ = some (.int .i64 c.K) ∧ w'.cell? ⟨p, 6, none⟩ = some (.int .i64 sl) ∧ w'.cell? ⟨p, 7, none⟩ = some (.int .i64 1) ∧ w'.cell? ⟨p, 8, none⟩ = some (.int .u64 tp)) (assumption) (first
    | (go_at_call 75; refine (firstC c _ tp t0 t1).mono ?_; rintro e w3 ⟨rfl, hb⟩; replace hp := Lib.hid (hp.out.below hb hp.out.lt); replace hM := Lib.hid (hM.out.next hb); replace hF := Lib.hid (hF.out.trans (fr_below hb)); clear hb; have hY_w3 : w3.cell? ⟨p, 0, none⟩ = some (.int .i64 c.S) ∧ w3.cell? ⟨p, 1, none⟩ = some (.int .i64 c.A) ∧ w3.cell? ⟨p, 2, none⟩ = some (.int .i64 c.C) ∧ w3.cell? ⟨p, 3, none⟩ = some (.int .i64 c.H) ∧ w3.cell? ⟨p, 4, none⟩ = some (.int .i64 c.G) ∧ w3.cell? ⟨p, 5, none⟩ = some (.int .i64 c.K) ∧ w3.cell? ⟨p, 6, none⟩ = some (.int .i64 sl) ∧ w3.cell? ⟨p, 7, none⟩ = some (.int .i64 1) ∧ w3.cell? ⟨p, 8, none⟩ = some (.int .u64 tp) := (by obtain ⟨y0, y1, y2, y3, y4, y5, y6, y7, y8⟩ := push_cells hp.out; exact ⟨y0, y1, y2, y3, y4, y5, y6, y7, y8⟩))
    | (go_at_call 69; refine (linkC c _ sl).mono ?_; rintro e w4 ⟨rfl, hb⟩; replace hp := Lib.hid (hp.out.below hb hp.out.lt); replace hM := Lib.hid (hM.out.next hb); replace hF := Lib.hid (hF.out.trans (fr_below hb)); clear hb; have hY_w4 : w4.cell? ⟨p, 0, none⟩ = some (.int .i64 c.S) ∧ w4.cell? ⟨p, 1, none⟩ = some (.int .i64 c.A) ∧ w4.cell? ⟨p, 2, none⟩ = some (.int .i64 c.C) ∧ w4.cell? ⟨p, 3, none⟩ = some (.int .i64 c.H) ∧ w4.cell? ⟨p, 4, none⟩ = some (.int .i64 c.G) ∧ w4.cell? ⟨p, 5, none⟩ = some (.int .i64 c.K) ∧ w4.cell? ⟨p, 6, none⟩ = some (.int .i64 sl) ∧ w4.cell? ⟨p, 7, none⟩ = some (.int .i64 1) ∧ w4.cell? ⟨p, 8, none⟩ = some (.int .u64 tp) := (by obtain ⟨y0, y1, y2, y3, y4, y5, y6, y7, y8⟩ := push_cells hp.out; exact ⟨y0, y1, y2, y3, y4, y5, y6, y7, y8⟩))
    | (go_at_call 57; refine (store_c _ m b M (c.link sl) hM.out ok (firstI c.S tp + 1)).mono ?_; rintro e w5 ⟨rfl, hM', hF'⟩; replace hp := Lib.hid (hp.out.fr hF' np); replace hM := Lib.hid hM'; replace hF := Lib.hid (hF.out.trans (two_three hF')); clear hM' hF'; have z7 := hp.out.frozen 7; have hY_w5 : w5.cell? ⟨p, 0, none⟩ = some (.int .i64 c.S) ∧ w5.cell? ⟨p, 1, none⟩ = some (.int .i64 c.A) ∧ w5.cell? ⟨p, 2, none⟩ = some (.int .i64 c.C) ∧ w5.cell? ⟨p, 3, none⟩ = some (.int .i64 c.H) ∧ w5.cell? ⟨p, 4, none⟩ = some (.int .i64 c.G) ∧ w5.cell? ⟨p, 5, none⟩ = some (.int .i64 c.K) ∧ w5.cell? ⟨p, 6, none⟩ = some (.int .i64 sl) ∧ w5.cell? ⟨p, 7, none⟩ = some (.int .i64 1) ∧ w5.cell? ⟨p, 8, none⟩ = some (.int .u64 tp) := (by obtain ⟨y0, y1, y2, y3, y4, y5, y6, y7, y8⟩ := push_cells hp.out; exact ⟨y0, y1, y2, y3, y4, y5, y6, y7, y8⟩)))
  all_goals
    obtain ⟨l0, l1, l2, l3, l4, l5, l6, l7, l8⟩ := hY_w5
    go_wp2
    go_ret
    exact ⟨rfl, hp.out.set 7 _, hM.out.set np 7 _, hF.out.trans (fr_p _ 7 _)⟩
set_option maxHeartbeats 4000000 in
set_option maxRecDepth 100000 in
theorem push_2a (t0 : 0 ≤ tp) (t1 : tp < 18446744073709551616) (hs : M.swV 3 tp = true) (hp : Blk w p 137 (pushA c sl 2 tp)) : Calls Try.prog 47 #[.pointer (some ⟨p, 0, none⟩), .pointer (some ⟨m, 0, none⟩)] w fun e w' =>
    e = .returned (.bool true) ∧ Blk w' p 137 (pushA c sl 3 tp) ∧ MemB w' m b (M.swS 3 tp (movedV tp sl)) ∧ Fr (three p m b) w w' := by
  obtain ⟨n0, n1⟩ := movedV_bd tp sl t0
  have z7 := hp.frozen 7
  have hF := Lib.hid (Fr.refl (three p m b) w)
  obtain ⟨k0, k1, k2, k3, k4, k5, k6, k7, k8⟩ := push_cells hp
  replace hs := Lib.hid hs
  replace hp := Lib.hid hp
  replace hM := Lib.hid hM
  go_enter Try.func47, Try.ntmps47
  go_wp2
  have hp' : Blk (w.setCell ⟨p, 7, none⟩ (.int .i64 0)) p 137 (pushA c sl 0 tp) := (hp.out.set 7 _)
  have hM' := (hM.out.set np 7 (.int .i64 0))
  have hF' := (hF.out.trans (fr_p w 7 (.int .i64 0)))
  clear hp hM hF k0 k1 k2 k3 k4 k5 k6 k7 k8 z7
  generalize w.setCell ⟨p, 7, none⟩ (.int .i64 0) = w2 at *
  have hp := Lib.hid hp'
  have hM := Lib.hid hM'
  have hF := Lib.hid hF'
  clear hp' hM' hF'
  replace hp := Lib.hid hp.out.drew
  replace hM := Lib.hid hM.out.drew
  replace hF := Lib.hid (hF.out.trans (Fr.drew _ w2))
  have hX0 := push_cells hp.out
  have hX : w2.drew.cell? ⟨p, 0, none⟩ = some (.int .i64 c.S) ∧ w2.drew.cell? ⟨p, 1, none⟩ = some (.int .i64 c.A) ∧ w2.drew.cell? ⟨p, 2, none⟩ = some (.int .i64 c.C) ∧ w2.drew.cell? ⟨p, 3, none⟩ = some (.int .i64 c.H) ∧ w2.drew.cell? ⟨p, 4, none⟩ = some (.int .i64 c.G) ∧ w2.drew.cell? ⟨p, 5, none⟩ = some (.int .i64 c.K) ∧ w2.drew.cell? ⟨p, 6, none⟩ = some (.int .i64 sl) ∧ w2.drew.cell? ⟨p, 7, none⟩ = some (.int .i64 0) ∧ w2.drew.cell? ⟨p, 8, none⟩ = some (.int .u64 tp) := hX0
  clear hX0
  go_region_held3 (fun w' => w'.cell? ⟨p, 0, none⟩ = some (.int .i64 c.S) ∧ w'.cell? ⟨p, 1, none⟩ = some (.int .i64 c.A) ∧ w'.cell? ⟨p, 2, none⟩ = some (.int .i64 c.C) ∧ w'.cell? ⟨p, 3, none⟩ = some (.int .i64 c.H) ∧ w'.cell? ⟨p, 4, none⟩ = some (.int .i64 c.G) ∧ w'.cell? ⟨p, 5, none⟩ = some (.int .i64 c.K) ∧ w'.cell? ⟨p, 6, none⟩ = some (.int .i64 sl) ∧ w'.cell? ⟨p, 7, none⟩ = some (.int .i64 0) ∧ w'.cell? ⟨p, 8, none⟩ = some (.int .u64 tp)) (assumption) (first
    | (go_at_call 83; refine (movedC _ tp sl t0 t1).mono ?_; rintro e w3 ⟨rfl, hb⟩; replace hp := Lib.hid (hp.out.below hb hp.out.lt); replace hM := Lib.hid (hM.out.next hb); replace hF := Lib.hid (hF.out.trans (fr_below hb)); clear hb; have hY_w3 : w3.cell? ⟨p, 0, none⟩ = some (.int .i64 c.S) ∧ w3.cell? ⟨p, 1, none⟩ = some (.int .i64 c.A) ∧ w3.cell? ⟨p, 2, none⟩ = some (.int .i64 c.C) ∧ w3.cell? ⟨p, 3, none⟩ = some (.int .i64 c.H) ∧ w3.cell? ⟨p, 4, none⟩ = some (.int .i64 c.G) ∧ w3.cell? ⟨p, 5, none⟩ = some (.int .i64 c.K) ∧ w3.cell? ⟨p, 6, none⟩ = some (.int .i64 sl) ∧ w3.cell? ⟨p, 7, none⟩ = some (.int .i64 0) ∧ w3.cell? ⟨p, 8, none⟩ = some (.int .u64 tp) := (by obtain ⟨y0, y1, y2, y3, y4, y5, y6, y7, y8⟩ := push_cells hp.out; exact ⟨y0, y1, y2, y3, y4, y5, y6, y7, y8⟩))
    | (go_at_call 82; refine (swap_c _ m b M 3 hM.out ok tp (movedV tp sl)).mono ?_; rintro e w4 ⟨rfl, hM', hF'⟩; rw [hs.out]; replace hp := Lib.hid (hp.out.fr hF' np); replace hM := Lib.hid hM'; replace hF := Lib.hid (hF.out.trans (two_three hF')); clear hM' hF'; have z7 := hp.out.frozen 7; have hY_w4 : w4.cell? ⟨p, 0, none⟩ = some (.int .i64 c.S) ∧ w4.cell? ⟨p, 1, none⟩ = some (.int .i64 c.A) ∧ w4.cell? ⟨p, 2, none⟩ = some (.int .i64 c.C) ∧ w4.cell? ⟨p, 3, none⟩ = some (.int .i64 c.H) ∧ w4.cell? ⟨p, 4, none⟩ = some (.int .i64 c.G) ∧ w4.cell? ⟨p, 5, none⟩ = some (.int .i64 c.K) ∧ w4.cell? ⟨p, 6, none⟩ = some (.int .i64 sl) ∧ w4.cell? ⟨p, 7, none⟩ = some (.int .i64 0) ∧ w4.cell? ⟨p, 8, none⟩ = some (.int .u64 tp) := (by obtain ⟨y0, y1, y2, y3, y4, y5, y6, y7, y8⟩ := push_cells hp.out; exact ⟨y0, y1, y2, y3, y4, y5, y6, y7, y8⟩)))
  obtain ⟨l0, l1, l2, l3, l4, l5, l6, l7, l8⟩ := hY_w4
  go_wp2
  go_ret
  exact ⟨rfl, hp.out.set 7 _, hM.out.set np 7 _, hF.out.trans (fr_p _ 7 _)⟩
set_option maxHeartbeats 4000000 in
set_option maxRecDepth 100000 in
theorem push_2b (t0 : 0 ≤ tp) (t1 : tp < 18446744073709551616) (hs : M.swV 3 tp = false) (hp : Blk w p 137 (pushA c sl 2 tp)) : Calls Try.prog 47 #[.pointer (some ⟨p, 0, none⟩), .pointer (some ⟨m, 0, none⟩)] w fun e w' =>
    e = .returned (.bool false) ∧ Blk w' p 137 (pushA c sl 0 tp) ∧ MemB w' m b (M.swS 3 tp (movedV tp sl)) ∧ Fr (three p m b) w w' := by
  obtain ⟨n0, n1⟩ := movedV_bd tp sl t0
  have z7 := hp.frozen 7
  have hF := Lib.hid (Fr.refl (three p m b) w)
  obtain ⟨k0, k1, k2, k3, k4, k5, k6, k7, k8⟩ := push_cells hp
  replace hs := Lib.hid hs
  replace hp := Lib.hid hp
  replace hM := Lib.hid hM
  go_enter Try.func47, Try.ntmps47
  go_wp2
  have hp' : Blk (w.setCell ⟨p, 7, none⟩ (.int .i64 0)) p 137 (pushA c sl 0 tp) := (hp.out.set 7 _)
  have hM' := (hM.out.set np 7 (.int .i64 0))
  have hF' := (hF.out.trans (fr_p w 7 (.int .i64 0)))
  clear hp hM hF k0 k1 k2 k3 k4 k5 k6 k7 k8 z7
  generalize w.setCell ⟨p, 7, none⟩ (.int .i64 0) = w2 at *
  have hp := Lib.hid hp'
  have hM := Lib.hid hM'
  have hF := Lib.hid hF'
  clear hp' hM' hF'
  replace hp := Lib.hid hp.out.drew
  replace hM := Lib.hid hM.out.drew
  replace hF := Lib.hid (hF.out.trans (Fr.drew _ w2))
  have hX0 := push_cells hp.out
  have hX : w2.drew.cell? ⟨p, 0, none⟩ = some (.int .i64 c.S) ∧ w2.drew.cell? ⟨p, 1, none⟩ = some (.int .i64 c.A) ∧ w2.drew.cell? ⟨p, 2, none⟩ = some (.int .i64 c.C) ∧ w2.drew.cell? ⟨p, 3, none⟩ = some (.int .i64 c.H) ∧ w2.drew.cell? ⟨p, 4, none⟩ = some (.int .i64 c.G) ∧ w2.drew.cell? ⟨p, 5, none⟩ = some (.int .i64 c.K) ∧ w2.drew.cell? ⟨p, 6, none⟩ = some (.int .i64 sl) ∧ w2.drew.cell? ⟨p, 7, none⟩ = some (.int .i64 0) ∧ w2.drew.cell? ⟨p, 8, none⟩ = some (.int .u64 tp) := hX0
  clear hX0
  go_region_held3 (fun w' => w'.cell? ⟨p, 0, none⟩ = some (.int .i64 c.S) ∧ w'.cell? ⟨p, 1, none⟩ = some (.int .i64 c.A) ∧ w'.cell? ⟨p, 2, none⟩ = some (.int .i64 c.C) ∧ w'.cell? ⟨p, 3, none⟩ = some (.int .i64 c.H) ∧ w'.cell? ⟨p, 4, none⟩ = some (.int .i64 c.G) ∧ w'.cell? ⟨p, 5, none⟩ = some (.int .i64 c.K) ∧ w'.cell? ⟨p, 6, none⟩ = some (.int .i64 sl) ∧ w'.cell? ⟨p, 7, none⟩ = some (.int .i64 0) ∧ w'.cell? ⟨p, 8, none⟩ = some (.int .u64 tp)) (assumption) (first
    | (go_at_call 83; refine (movedC _ tp sl t0 t1).mono ?_; rintro e w3 ⟨rfl, hb⟩; replace hp := Lib.hid (hp.out.below hb hp.out.lt); replace hM := Lib.hid (hM.out.next hb); replace hF := Lib.hid (hF.out.trans (fr_below hb)); clear hb; have hY_w3 : w3.cell? ⟨p, 0, none⟩ = some (.int .i64 c.S) ∧ w3.cell? ⟨p, 1, none⟩ = some (.int .i64 c.A) ∧ w3.cell? ⟨p, 2, none⟩ = some (.int .i64 c.C) ∧ w3.cell? ⟨p, 3, none⟩ = some (.int .i64 c.H) ∧ w3.cell? ⟨p, 4, none⟩ = some (.int .i64 c.G) ∧ w3.cell? ⟨p, 5, none⟩ = some (.int .i64 c.K) ∧ w3.cell? ⟨p, 6, none⟩ = some (.int .i64 sl) ∧ w3.cell? ⟨p, 7, none⟩ = some (.int .i64 0) ∧ w3.cell? ⟨p, 8, none⟩ = some (.int .u64 tp) := (by obtain ⟨y0, y1, y2, y3, y4, y5, y6, y7, y8⟩ := push_cells hp.out; exact ⟨y0, y1, y2, y3, y4, y5, y6, y7, y8⟩))
    | (go_at_call 82; refine (swap_c _ m b M 3 hM.out ok tp (movedV tp sl)).mono ?_; rintro e w4 ⟨rfl, hM', hF'⟩; rw [hs.out]; replace hp := Lib.hid (hp.out.fr hF' np); replace hM := Lib.hid hM'; replace hF := Lib.hid (hF.out.trans (two_three hF')); clear hM' hF'; have z7 := hp.out.frozen 7; have hY_w4 : w4.cell? ⟨p, 0, none⟩ = some (.int .i64 c.S) ∧ w4.cell? ⟨p, 1, none⟩ = some (.int .i64 c.A) ∧ w4.cell? ⟨p, 2, none⟩ = some (.int .i64 c.C) ∧ w4.cell? ⟨p, 3, none⟩ = some (.int .i64 c.H) ∧ w4.cell? ⟨p, 4, none⟩ = some (.int .i64 c.G) ∧ w4.cell? ⟨p, 5, none⟩ = some (.int .i64 c.K) ∧ w4.cell? ⟨p, 6, none⟩ = some (.int .i64 sl) ∧ w4.cell? ⟨p, 7, none⟩ = some (.int .i64 0) ∧ w4.cell? ⟨p, 8, none⟩ = some (.int .u64 tp) := (by obtain ⟨y0, y1, y2, y3, y4, y5, y6, y7, y8⟩ := push_cells hp.out; exact ⟨y0, y1, y2, y3, y4, y5, y6, y7, y8⟩)))
  obtain ⟨l0, l1, l2, l3, l4, l5, l6, l7, l8⟩ := hY_w4
  go_wp2
  go_ret
  exact ⟨rfl, hp.out, hM.out, hF.out⟩
set_option maxHeartbeats 4000000 in
set_option maxRecDepth 100000 in
theorem push_3 (hp : Blk w p 137 (pushA c sl 3 tp)) : Calls Try.prog 47 #[.pointer (some ⟨p, 0, none⟩), .pointer (some ⟨m, 0, none⟩)] w fun e w' =>
    e = .returned (.bool true) ∧ Blk w' p 137 (pushA c sl 3 tp) ∧ MemB w' m b (M) ∧ Fr (three p m b) w w' := by
  have hF := Lib.hid (Fr.refl (three p m b) w)
  obtain ⟨k0, k1, k2, k3, k4, k5, k6, k7, k8⟩ := push_cells hp
  replace hp := Lib.hid hp
  replace hM := Lib.hid hM
  go_enter Try.func47, Try.ntmps47
  go_wp2
  go_ret
  exact ⟨rfl, hp.out, hM.out, hF.out⟩
end
end Go.Proofs.Ytijfkpoofpcacaa.StackC
end
section
namespace Go.Proofs.Ytijfkpoofpcacaa.Opens
open Go.ChangeShapes Go.WideShapes Go.Deep Go.RowKit
def Sl (w : World) (A : Option Addr) (n m : Nat) (V : Nat → Nat → Value) : Prop := 0 < n → ∃ b off, A = some ⟨b, off, none⟩ ∧ b < w.heap.size ∧ ∀ i, i < n → ∀ j, j < m → w.cell? ⟨b, off + i * m + j, none⟩ = some (V i j)
theorem cell_lt {w : World} {b i : Nat} {v : Value} (h : w.cell? ⟨b, i, none⟩ = some v) : b < w.heap.size := by
  rcases Nat.lt_or_ge b w.heap.size with hl | hl
  · exact hl
  · simp [World.cell?, Array.getElem?_eq_none hl] at h
theorem Sl.below {w w' : World} {A n m V} {N : Nat} (h : Sl w A n m V) (hb : Below N w w') (hN : w.heap.size ≤ N) : Sl w' A n m V := by
  intro hn
  obtain ⟨b, off, e, hl, hc⟩ := h hn
  refine ⟨b, off, e, Nat.lt_of_lt_of_le hl hb.size, fun i hi j hj => ?_⟩
  rw [hb.cell (p := ⟨b, off + i * m + j, none⟩) (Nat.lt_of_lt_of_le hl hN)]
  exact hc i hi j hj
theorem Sl.at_ {w : World} {A n m V} (h : Sl w A n m V) {i : Nat} (hi : i < n) : ∃ b off, A = some ⟨b, off, none⟩ ∧ ∀ j, j < m → w.cell? ⟨b, off + i * m + j, none⟩ = some (V i j) := by
  obtain ⟨b, off, e, _, hc⟩ := h (by omega)
  exact ⟨b, off, e, hc i hi⟩
theorem Sl.congr {w : World} {A n m V V'} (h : Sl w A n m V) (he : ∀ i, i < n → ∀ j, j < m → V i j = V' i j) : Sl w A n m V' := by
  intro hn
  obtain ⟨b, off, e, hl, hc⟩ := h hn
  exact ⟨b, off, e, hl, fun i hi j hj => by rw [← he i hi j hj]; exact hc i hi j hj⟩
section
variable {H : Type} {enc : TypeId × Value → H} {P : Program} {W : World} {base : Nat} {spare : Nat → Bool} {held : Bool}
end
end Go.Proofs.Ytijfkpoofpcacaa.Opens
end
section
set_option linter.unusedVariables false
namespace Go.Proofs.Ytijfkpoofpcacaa.StackL
open Go.RowKit Go.Proofs.Ytijfkpoofpcacaa.PArenaPlays Go.Proofs.YtijfkpoofpcacaaW.PrintWords Go.Proofs.Ytijfkpoofpcacaa.Blk Go.Proofs.Ytijfkpoofpcacaa.Core Go.Proofs.Ytijfkpoofpcacaa.PuArenaPlays Go.Proofs.Ytijfkpoofpcacaa.MemC Go.Proofs.Ytijfkpoofpcacaa.MemD Go.Proofs.Ytijfkpoofpcacaa.MemT Go.Proofs.Ytijfkpoofpcacaa.PlanC Go.Proofs.Ytijfkpoofpcacaa.PlanD Go.Proofs.Ytijfkpoofpcacaa.StackC Go.Proofs.Ytijfkpoofpcacaa.Opens
def chain (c : Cf) (f : Nat → Int) : Nat → Int → List Int
  | 0, _ => []
  | n + 1, x => if 1 ≤ x ∧ x ≤ c.S then (x - 1) :: chain c f n (f (c.link (x - 1)).toNat) else []
def listV (c : Cf) (f : Nat → Int) : List Int := chain c f c.S.toNat (f 3 % 65536)
theorem chain_len (c : Cf) (f : Nat → Int) : ∀ n x, (chain c f n x).length ≤ n := by
  intro n
  induction n with
  | zero => intro x; exact Nat.le_refl _
  | succ n ih => intro x; unfold chain; split
                 · exact Nat.succ_le_succ (ih _)
                 · exact Nat.zero_le _
def Li (w : World) (base : Nat) (v : Value) (l : List Int) : Prop :=
  ∃ A cc, v = .slice A l.length cc ∧ l.length ≤ cc ∧ Sl w A l.length 1 (fun i _ => .int .i64 (l.getD i 0)) ∧ (∀ b o, A = some ⟨b, o, none⟩ → 0 < l.length → base ≤ b) ∧ l.length ≤ 100000
theorem Li.below {w w' : World} {B : Nat} {v : Value} {l : List Int} (h : Li w B v l) (hb : Below w.heap.size w w') : Li w' B v l := by
  obtain ⟨A, cc, e, hc, hS, hB, hl⟩ := h
  exact ⟨A, cc, e, hc, hS.below hb (Nat.le_refl _), hB, hl⟩
theorem Li.fr {P : Nat → Prop} {w w' : World} {B : Nat} {v : Value} {l : List Int} (h : Li w B v l) (hf : Fr P w w') (hP : ∀ k, P k → k < B) : Li w' B v l := by
  obtain ⟨A, cc, e, hc, hS, hB, hl⟩ := h
  refine ⟨A, cc, e, hc, fun hn => ?_, hB, hl⟩
  obtain ⟨b, off, e', hlt, hcl⟩ := hS hn
  refine ⟨b, off, e', Nat.lt_of_lt_of_le hlt hf.size, fun i hi j hj => ?_⟩
  have := hf.keep b hlt (fun q => by have := hP b q; have := hB b off e' hn; omega)
  have h2 := hcl i hi j hj
  simp only [World.cell?] at h2 ⊢
  rw [this]; exact h2
theorem li_of_C {w : World} {A : Option Addr} {n : Nat} {xs : List Int} (h : Kd.C (Kd.int .i64) w A n xs) : Sl w A n 1 (fun i _ => .int .i64 (xs.getD i 0)) := by
  have key : ∀ i : Nat, i < n → ∃ ad, A = some ad ∧ w.cell? (ad.add i) = some (.int .i64 (xs.getD i 0)) := by
    intro i hi
    obtain ⟨ad, c, e, _, hK, hc⟩ := Kd.C_get h 0 (i : Int) (by omega) (by omega)
    have hK' : c = [Value.int .i64 (xs.getD (i : Int).toNat 0)] := hK
    subst hK'
    have h0 := hc 0 _ rfl
    rw [Int.toNat_natCast] at h0
    refine ⟨ad, e, ?_⟩
    have : i * (Kd.int .i64).sz + 0 = i := by show i * 1 + 0 = i; omega
    rw [this] at h0
    exact h0
  intro hn
  obtain ⟨ad, e, c0⟩ := key 0 hn
  obtain ⟨b, o, spot⟩ := ad
  have hspot : spot = none := by simpa [Addr.add] using World.cell?_spot c0
  subst hspot
  refine ⟨b, o, e, ?_, fun i hi j hj => ?_⟩
  · rw [Go.WideShapes.add_plain] at c0; exact cell_lt c0
  · obtain ⟨ad', e', x0⟩ := key i hi
    rw [e] at e'
    obtain rfl := (Option.some.inj e').symm
    rw [Go.WideShapes.add_plain] at x0
    obtain rfl : j = 0 := by omega
    rw [Nat.mul_one]
    exact x0
theorem li_of_R {w : World} {B : Nat} {ok : Nat → Prop} {v : Value} {xs : List Int} (h : Kd.R (Kd.int .i64) 3 w B ok v xs) (hl : xs.length ≤ 100000) : Li w B v xs := by
  obtain ⟨A, cc, rfl, hc, hC⟩ := Kd.R_reads h
  refine ⟨A, cc, rfl, hc, li_of_C hC, fun b o e hn => ?_, hl⟩
  obtain ⟨h0, inner, ho, hr⟩ := h
  exact own_base ho b (by subst e; rfl)
structure RdB (w : World) (b off n : Nat) (f : Nat → Int) : Prop where
  lt : b < w.heap.size
  cell : ∀ i, i < n → w.cell? ⟨b, off + i, none⟩ = some (.int .u64 (f i))
theorem RdB.below {w w' : World} {b off n : Nat} {f : Nat → Int} (h : RdB w b off n f) (hb : Below w.heap.size w w') : RdB w' b off n f :=
  ⟨Nat.lt_of_lt_of_le h.lt hb.size, fun i hi => (hb.cell (p := ⟨b, off + i, none⟩) h.lt).trans (h.cell i hi)⟩
theorem RdB.fr {P : Nat → Prop} {w w' : World} {b off n : Nat} {f : Nat → Int} (h : RdB w b off n f) (hf : Fr P w w') (hb : ¬ P b) : RdB w' b off n f := by
  refine ⟨Nat.lt_of_lt_of_le h.lt hf.size, fun i hi => ?_⟩
  have h2 := h.cell i hi
  simp only [World.cell?] at h2 ⊢
  rw [hf.keep b h.lt hb]; exact h2
theorem RdB.alloc {w : World} {b off n : Nat} {f : Nat → Int} (h : RdB w b off n f) (o : Obj) : RdB (w.alloc o) b off n f := h.fr (P := fun _ => False) (Fr.alloc _ w o) id
theorem RdB.drew {w : World} {b off n : Nat} {f : Nat → Int} (h : RdB w b off n f) : RdB w.drew b off n f := ⟨h.lt, h.cell⟩
theorem rd_of_row {w : World} {A : Option Addr} {c b n : Nat} {f : Nat → Int} (h : RowB w A c b n f) (hn : 0 < n) : A = some ⟨b, 0, none⟩ ∧ n ≤ c ∧ RdB w b 0 n f :=
  ⟨(h.cell hn).1, h.cap, h.lt hn, fun i hi => by rw [Nat.zero_add]; exact (h.cell hi).2.1⟩
theorem C_of_rd {w : World} {b off n : Nat} {f : Nat → Int} (h : RdB w b off n f) (hn : n ≤ 100000) : Kd.C (Kd.int .u64) w (some ⟨b, off, none⟩) ((List.range n).map f).length ((List.range n).map f) := by
  have hlen : ((List.range n).map f).length = n := by simp
  rw [hlen]
  refine Kd.C_of_reads (enc := fun x => Value.int .u64 x) (d := 0) ⟨hlen, by omega, fun h0 => ⟨_, rfl, fun j hj => ?_⟩⟩
  rw [Go.WideShapes.add_plain, h.cell j hj]
  simp [List.getD_eq_getElem?_getD, List.getElem?_map, List.getElem?_range hj]
theorem at_link (k S C H : Nat) (A G K : Int) (s : Int) (hk : 2000 ≤ k) (h : rightB S A C H G K = true) : withyref06_At.f k S A C H G K ⟨#[108, 105, 110, 107]⟩ s 0 = some ((Cf.mk S A C H G K).link s) := by
  have hr := right_iff.1 h
  rw [p_rAt k S C H A G K ⟨#[108, 105, 110, 107]⟩ s 0 hk h (0 ≤ s ∧ s < S) mem_link]
  unfold Cf.link Cf.right
  congr 1
  by_cases d : 0 ≤ s ∧ s < S
  · rw [if_pos d, if_pos ⟨h, d.1, d.2⟩]
    have : (2 : Int) + (roomN A : Nat) = roomV A := by unfold roomN roomV; split <;> omega
    simp [posW, slotsV, this]
  · rw [if_neg d, if_neg (fun x => d x.2)]
theorem rd_row (f : Nat → Int) (n : Nat) (i : Int) (h0 : 0 ≤ i) (h1 : i < n) : rd ((List.range n).map f) i = f i.toNat := by
  unfold rd
  rw [List.getD_eq_getElem?_getD, List.getElem?_map, List.getElem?_range (by omega)]
  rfl
theorem link_lt {c : Cf} (h : c.right = true) {s : Int} (s0 : 0 ≤ s) (s1 : s < c.S) : 4 ≤ c.link s ∧ c.link s < c.size := by
  have hb := size_bd h
  have ha := at_bd h s0 s1 (i := 1) (by decide) (by omega)
  unfold Cf.link
  rw [if_pos ⟨h, s0, s1⟩]
  unfold Cf.size
  omega
theorem ref_l (S C H : Nat) (A G K : Int) (f : Nat → Int) (hf : U f) (n : Nat) (h : rightB S A C H G K = true) (hn : (n : Int) = sizeV S A C H) (d : Nat) : ∀ (k : Nat) (x : Int) (acc : List Int), 2000 + d < k → 0 ≤ x → x < 18446744073709551616 → acc.length + d = S →
    withyref07_List.l0 k ((List.range n).map f) acc x S A C H G K = some (acc ++ chain ⟨S, A, C, H, G, K⟩ f d x) := by
  have hr := right_iff.1 h
  have ew : IntKind.u64.wrap (S : Int) = S := wrap_u64_id _ (by omega) (by omega)
  have hlen : (((List.range n).map f).length : Int) = n := by simp
  induction d with
  | zero =>
    intro k x acc hk x0 x1 ha
    obtain ⟨k, rfl⟩ : ∃ m, k = m + 1 := ⟨k - 1, by omega⟩
    simp only [withyref07_List.l0, chain, List.append_nil]
    rw [ew]
    by_cases h1 : x ≥ 1
    · rw [if_pos h1]
      by_cases h2 : x ≤ S
      · rw [if_pos h2, if_neg (by omega)]
      · rw [if_neg h2]
    · rw [if_neg h1]
  | succ d ih =>
    intro k x acc hk x0 x1 ha
    obtain ⟨k, rfl⟩ : ∃ m, k = m + 1 := ⟨k - 1, by omega⟩
    simp only [withyref07_List.l0, chain]
    rw [ew]
    by_cases h1 : x ≥ 1
    · rw [if_pos h1]
      by_cases h2 : x ≤ S
      · have e1 : wrap64 x = x := wrap64_id _ (by omega) (by omega)
        have e2 : wrap64 (x - 1) = x - 1 := wrap64_id _ (by omega) (by omega)
        have hl := link_lt (c := ⟨S, A, C, H, G, K⟩) h (s := x - 1) (by omega) (by show x - 1 < (S : Int); omega)
        have hl2 : (Cf.mk S A C H G K).link (x - 1) < n := by rw [hn]; exact hl.2
        rw [if_pos h2, if_pos (by omega), if_pos (by omega), e1, e2, at_link k S C H A G K (x - 1) (by omega) h, Option.bind_some, if_pos (by omega), if_pos (by omega), rd_row f n _ (by omega) hl2]
        rw [ih k _ _ (by omega) (hf _).1 (hf _).2 (by rw [List.length_append, List.length_singleton]; omega), if_pos ⟨h1, h2⟩]
        simp
      · rw [if_neg h2, if_neg (fun q => h2 q.2)]; simp
    · rw [if_neg h1, if_neg (fun q => h1 q.1)]; simp
theorem ref_f (S C H : Nat) (A G K : Int) (f : Nat → Int) (hf : U f) (n : Nat) (h : rightB S A C H G K = true) (hn : (n : Int) = sizeV S A C H) : withyref07_List.f 3000 S A C H G K ((List.range n).map f) = some (listV ⟨S, A, C, H, G, K⟩ f) := by
  have hr := right_iff.1 h
  have hb := size_bd h
  unfold withyref07_List.f
  rw [p_rRight, Option.bind_some, if_pos h, p_rWords 3000 S C H A G K (by decide) (by omega) (by omega) (by omega) (by omega), Option.bind_some]
  have hlen : (((List.range n).map f).length : Int) = n := by simp
  have e : ((((List.range n).map f).length : Int) != ((wordsL S C H (roomN A)).length : Int)) = false := by rw [hlen, sizes_eq, hn]; simp
  rw [e]
  simp only [withyref07_List.j0]
  rw [if_neg (by decide), if_pos (by omega), rd_row f n 3 (by decide) (by omega)]
  have h3 := hf 3
  rw [show Int.toNat 3 = 3 from rfl, Int.tmod_eq_emod_of_nonneg h3.1, ref_l S C H A G K f hf n h hn S 2999 _ [] (by omega) (by omega) (by omega) (by simp)]
  rfl
theorem refListR (c : Cf) (w : World) (cc b off n : Nat) (f : Nat → Int) (hf : U f) (h : c.right = true) (hn : (n : Int) = c.size) (hc : n ≤ cc) (hR : RdB w b off n f) : Calls Try.prog 30 #[.agg #[.int .i64 c.S, .int .i64 c.A, .int .i64 c.C, .int .i64 c.H, .int .i64 c.G, .int .i64 c.K], .slice (some ⟨b, off, none⟩) n cc] w fun e w' =>
    ∃ v, e = .returned v ∧ Li w' w.heap.size v (listV c f) ∧ Below w.heap.size w w' := by
  obtain ⟨S, X, C, H, G, K⟩ := c
  have h' : rightB S X C H G K = true := h
  have hr := right_iff.1 h'
  have hb := size_bd h'
  obtain ⟨s, rfl⟩ := Int.eq_ofNat_of_zero_le (show 0 ≤ S by omega)
  obtain ⟨c, rfl⟩ := Int.eq_ofNat_of_zero_le (show 0 ≤ C by omega)
  obtain ⟨hh, rfl⟩ := Int.eq_ofNat_of_zero_le (show 0 ≤ H by omega)
  have hn' : (n : Int) = sizeV s X c hh := hn
  have hC := C_of_rd hR (by omega)
  have hlen : ((List.range n).map f).length = n := by simp
  have hcl := withyref07_List.calls 3000 s X c hh G K (some ⟨b, off, none⟩) cc ((List.range n).map f) _ w hC (by rw [hlen]; exact hc) (ref_f s c hh X G K f hf n h hn')
  rw [hlen] at hcl
  refine hcl.mono ?_
  rintro e w' ⟨v, rfl, hv, hbl⟩
  have hle := chain_len ⟨s, X, c, hh, G, K⟩ f s (f 3 % 65536)
  exact ⟨v, rfl, li_of_R hv (by show (chain _ f (Int.toNat (s : Int)) _).length ≤ _; rw [Int.toNat_natCast]; omega), hbl⟩
theorem refListC (c : Cf) (w : World) (A : Option Addr) (cc b n : Nat) (f : Nat → Int) (hf : U f) (h : c.right = true) (hn : (n : Int) = c.size) (hR : RowB w A cc b n f) : Calls Try.prog 30 #[.agg #[.int .i64 c.S, .int .i64 c.A, .int .i64 c.C, .int .i64 c.H, .int .i64 c.G, .int .i64 c.K], .slice A n cc] w fun e w' =>
    ∃ v, e = .returned v ∧ Li w' w.heap.size v (listV c f) ∧ Below w.heap.size w w' := by
  have hb := size_bd h
  obtain ⟨rfl, hc, hR'⟩ := rd_of_row hR (by unfold Cf.size at hn; omega)
  exact refListR c w cc b 0 n f hf h hn hc hR'
end Go.Proofs.Ytijfkpoofpcacaa.StackL
end
section
set_option linter.unusedVariables false
set_option linter.unusedSectionVars false
namespace Go.Proofs.Ytijfkpoofpcacaa.StackS
open Go.RowKit Go.Proofs.YtijfkpoofpcacaaW.PrintWords Go.Proofs.Ytijfkpoofpcacaa.Blk Go.Proofs.Ytijfkpoofpcacaa.Core Go.Proofs.Ytijfkpoofpcacaa.MemC Go.Proofs.Ytijfkpoofpcacaa.MemD Go.Proofs.Ytijfkpoofpcacaa.MemT Go.Proofs.Ytijfkpoofpcacaa.PlanC Go.Proofs.Ytijfkpoofpcacaa.PlanD Go.Proofs.Ytijfkpoofpcacaa.StackC Go.Proofs.Ytijfkpoofpcacaa.StackL Go.Proofs.Ytijfkpoofpcacaa.Opens
structure Pop where
  sl : Int
  em : Bool
  a : Int
  tp : Int
  nx : Int
structure Push where
  sl : Int
  a : Int
  tp : Int
def PopB (w : World) (p : Nat) (c : Cf) (q : Pop) : Prop := Blk w p 66 (popA c q.sl q.em q.a q.tp q.nx)
def PushB (w : World) (p : Nat) (c : Cf) (q : Push) : Prop := Blk w p 137 (pushA c q.sl q.a q.tp)
structure PopOk (q : Pop) : Prop where
  t0 : 0 ≤ q.tp
  t1 : q.tp < 18446744073709551616
  a : q.a = 0 ∨ q.a = 1 ∨ q.a = 2 ∨ q.a = 3
structure PushOk (q : Push) : Prop where
  t0 : 0 ≤ q.tp
  t1 : q.tp < 18446744073709551616
  a : q.a = 0 ∨ q.a = 1 ∨ q.a = 2 ∨ q.a = 3
def popS (c : Cf) (q : Pop) (M : Ms) : Pop :=
  if q.a = 0 then (if firstI c.S (M.ldV 3) < 0 then ⟨q.sl, true, 3, M.ldV 3, q.nx⟩ else ⟨q.sl, q.em, 1, M.ldV 3, q.nx⟩)
  else if q.a = 1 then ⟨q.sl, q.em, 2, q.tp, linkedI c.S (M.ldV (c.link (firstI c.S q.tp)))⟩
  else if q.a = 2 then (if M.swV 3 q.tp = true then ⟨firstI c.S q.tp, q.em, 3, q.tp, q.nx⟩ else ⟨q.sl, q.em, 0, q.tp, q.nx⟩)
  else q
def popM (c : Cf) (q : Pop) (M : Ms) : Ms :=
  if q.a = 0 then M.ldS 3 else if q.a = 1 then M.ldS (c.link (firstI c.S q.tp)) else if q.a = 2 then M.swS 3 q.tp (movedV q.tp q.nx) else M
def pushS (c : Cf) (q : Push) (M : Ms) : Push :=
  if q.a = 0 then ⟨q.sl, 1, M.ldV 3⟩ else if q.a = 1 then ⟨q.sl, 2, q.tp⟩
  else if q.a = 2 then (if M.swV 3 q.tp = true then ⟨q.sl, 3, q.tp⟩ else ⟨q.sl, 0, q.tp⟩) else q
def pushM (c : Cf) (q : Push) (M : Ms) : Ms :=
  if q.a = 0 then M.ldS 3 else if q.a = 1 then M.stS (c.link q.sl) (firstI c.S q.tp + 1) else if q.a = 2 then M.swS 3 q.tp (movedV q.tp q.sl) else M
def popD (c : Cf) (q : Pop) (M : Ms) : Bool := (popS c q M).a == 3
def pushD (c : Cf) (q : Push) (M : Ms) : Bool := (pushS c q M).a == 3
theorem PopOk.step {c : Cf} {q : Pop} {M : Ms} (h : PopOk q) (ok : Ok M) : PopOk (popS c q M) := by
  obtain ⟨x0, x1⟩ := ldV_bd ok 3
  have t0 := h.t0
  have t1 := h.t1
  unfold popS
  by_cases e0 : q.a = 0
  · rw [if_pos e0]; split
    · exact ⟨x0, x1, by simp⟩
    · exact ⟨x0, x1, by simp⟩
  · rw [if_neg e0]
    by_cases e1 : q.a = 1
    · rw [if_pos e1]; exact ⟨t0, t1, by simp⟩
    · rw [if_neg e1]
      by_cases e2 : q.a = 2
      · rw [if_pos e2]; split
        · exact ⟨t0, t1, by simp⟩
        · exact ⟨t0, t1, by simp⟩
      · rw [if_neg e2]; exact h
theorem PushOk.step {c : Cf} {q : Push} {M : Ms} (h : PushOk q) (ok : Ok M) : PushOk (pushS c q M) := by
  obtain ⟨x0, x1⟩ := ldV_bd ok 3
  have t0 := h.t0
  have t1 := h.t1
  unfold pushS
  by_cases e0 : q.a = 0
  · rw [if_pos e0]; exact ⟨x0, x1, by simp⟩
  · rw [if_neg e0]
    by_cases e1 : q.a = 1
    · rw [if_pos e1]; exact ⟨t0, t1, by simp⟩
    · rw [if_neg e1]
      by_cases e2 : q.a = 2
      · rw [if_pos e2]; split
        · exact ⟨t0, t1, by simp⟩
        · exact ⟨t0, t1, by simp⟩
      · rw [if_neg e2]; exact h
section
variable (c : Cf) (w : World) (p m b : Nat) (M : Ms) (hc : c.right = true) (hM : MemB w m b M) (ok : Ok M) (np : ¬ two m b p)
include hc hM ok np
theorem popC (q : Pop) (hp : PopB w p c q) (hq : PopOk q) : Calls Try.prog 45 #[.pointer (some ⟨p, 0, none⟩), .pointer (some ⟨m, 0, none⟩)] w fun e w' =>
    e = .returned (.bool (popD c q M)) ∧ PopB w' p c (popS c q M) ∧ MemB w' m b (popM c q M) ∧ Fr (three p m b) w w' := by
  obtain ⟨sl, em, a, tp, nx⟩ := q
  have t0 : 0 ≤ tp := hq.t0
  have t1 : tp < 18446744073709551616 := hq.t1
  have ha : a = 0 ∨ a = 1 ∨ a = 2 ∨ a = 3 := hq.a
  have hp' : Blk w p 66 (popA c sl em a tp nx) := hp
  rcases ha with rfl | rfl | rfl | rfl
  · rcases Int.lt_or_le (firstI c.S (M.ldV 3)) 0 with hx | hx
    · have := pop_0a c w p m b M hc hM ok np sl em tp nx hx hp'
      simpa [popD, popS, popM, PopB, hx] using this
    · have := pop_0b c w p m b M hc hM ok np sl em tp nx hx hp'
      have hx' : ¬ firstI c.S (M.ldV 3) < 0 := by omega
      simpa [popD, popS, popM, PopB, hx'] using this
  · have := pop_1 c w p m b M hc hM ok np sl em tp nx t0 t1 hp'
    simpa [popD, popS, popM, PopB] using this
  · cases hs : M.swV 3 tp with
    | true =>
      have := pop_2a c w p m b M hc hM ok np sl em tp nx t0 t1 hs hp'
      simpa [popD, popS, popM, PopB, hs] using this
    | false =>
      have := pop_2b c w p m b M hc hM ok np sl em tp nx t0 t1 hs hp'
      simpa [popD, popS, popM, PopB, hs] using this
  · have := pop_3 c w p m b M hc hM ok np sl em tp nx hp'
    simpa [popD, popS, popM, PopB] using this
theorem pushC (q : Push) (hp : PushB w p c q) (hq : PushOk q) : Calls Try.prog 47 #[.pointer (some ⟨p, 0, none⟩), .pointer (some ⟨m, 0, none⟩)] w fun e w' =>
    e = .returned (.bool (pushD c q M)) ∧ PushB w' p c (pushS c q M) ∧ MemB w' m b (pushM c q M) ∧ Fr (three p m b) w w' := by
  obtain ⟨sl, a, tp⟩ := q
  have t0 : 0 ≤ tp := hq.t0
  have t1 : tp < 18446744073709551616 := hq.t1
  have ha : a = 0 ∨ a = 1 ∨ a = 2 ∨ a = 3 := hq.a
  have hp' : Blk w p 137 (pushA c sl a tp) := hp
  rcases ha with rfl | rfl | rfl | rfl
  · have := push_0 c w p m b M hc hM ok np sl tp hp'
    simpa [pushD, pushS, pushM, PushB] using this
  · have := push_1 c w p m b M hc hM ok np sl tp t0 t1 hp'
    simpa [pushD, pushS, pushM, PushB] using this
  · cases hs : M.swV 3 tp with
    | true =>
      have := push_2a c w p m b M hc hM ok np sl tp t0 t1 hs hp'
      simpa [pushD, pushS, pushM, PushB, hs] using this
    | false =>
      have := push_2b c w p m b M hc hM ok np sl tp t0 t1 hs hp'
      simpa [pushD, pushS, pushM, PushB, hs] using this
  · have := push_3 c w p m b M hc hM ok np sl tp hp'
    simpa [pushD, pushS, pushM, PushB] using this
end
section
variable (c : Cf) (w : World)
theorem newPopC (h : c.right = true) : Calls Try.prog 44 #[.agg #[.int .i64 c.S, .int .i64 c.A, .int .i64 c.C, .int .i64 c.H, .int .i64 c.G, .int .i64 c.K]] w fun e w' =>
    ∃ p, e = .returned (.pointer (some ⟨p, 0, none⟩)) ∧ w.heap.size ≤ p ∧ PopB w' p c ⟨-1, false, 0, 0, 0⟩ ∧ Below w.heap.size w w' := by
  have hf := Lib.hid (Blk.new w 23 #[.int .i64 c.S, .int .i64 c.A, .int .i64 c.C, .int .i64 c.H, .int .i64 c.G, .int .i64 c.K])
  replace h := Lib.hid h
  go_enter Try.func44, Try.ntmps44
  go_wp2_with (go_at_call 66; refine (rightC c _).mono ?_; rintro e w1 ⟨rfl, hb⟩; rw [h.out]; have hf1 := hf.out.below hb hf.out.lt; obtain ⟨k0, k1, k2, k3, k4, k5⟩ := cfgs hf1; replace hb := Lib.hid (below_pre hb); clear hf1)
  go_ret
  have hs := hb.out.size
  exact ⟨w1.heap.size, rfl, hs, Blk.new w1 66 _, hb.out.alloc hs _⟩
theorem newPushC (s : Int) (h : c.right = true) (s0 : 0 ≤ s) (s1 : s < c.S) : Calls Try.prog 46 #[.agg #[.int .i64 c.S, .int .i64 c.A, .int .i64 c.C, .int .i64 c.H, .int .i64 c.G, .int .i64 c.K], .int .i64 s] w fun e w' =>
    ∃ p, e = .returned (.pointer (some ⟨p, 0, none⟩)) ∧ w.heap.size ≤ p ∧ PushB w' p c ⟨s, 0, 0⟩ ∧ Below w.heap.size w w' := by
  have hf := Lib.hid (Blk.new w 23 #[.int .i64 c.S, .int .i64 c.A, .int .i64 c.C, .int .i64 c.H, .int .i64 c.G, .int .i64 c.K])
  replace h := Lib.hid h
  go_enter Try.func46, Try.ntmps46
  go_wp2_with (go_at_call 66; refine (rightC c _).mono ?_; rintro e w1 ⟨rfl, hb⟩; rw [h.out]; have hf1 := hf.out.below hb hf.out.lt; obtain ⟨k0, k1, k2, k3, k4, k5⟩ := cfgs hf1; replace hb := Lib.hid (below_pre hb); clear hf1)
  go_ret
  have hs := hb.out.size
  exact ⟨w1.heap.size, rfl, hs, Blk.new w1 137 _, hb.out.alloc hs _⟩
end
end Go.Proofs.Ytijfkpoofpcacaa.StackS
end
section
namespace Go.Proofs.Ytijfkpoofpcacaa.PArenaPlays
open Go.RowKit Go.Proofs.YtijfkpoofpcacaaW.PrintWords Go.Proofs.YtijfkpoofpcacaaW.PrintLast Go.Proofs.YtijfkpoofpcacaaW.PrintMore
attribute [local go_sem] max2_int min2_int max_two min_two max_three min_three max_four min_four
set_option linter.unusedVariables false
set_option linter.unusedSimpArgs false
def head_Unpack.f (k : Nat) (a0 : Int) : Option (Int × Int × Bool × Int × Int × Int × Bool) := (word_Unpack.f k a0 (([3, 1, 1, 4, 7, 32, 16] : List Int))).bind fun bt227 => (if (bt227.1.length : Int) < 7 then (some (0, 0, false, 0, 0, 0, false)) else (if 0 < (bt227.1.length : Int) then (if (rd bt227.1 0) > 4 then (some (0, 0, false, 0, 0, 0, false)) else (if 4 < (bt227.1.length : Int) then (if (rd bt227.1 4) = 0 then (if 1 < (bt227.1.length : Int) then (if 2 < (bt227.1.length : Int) then (if 3 < (bt227.1.length : Int) then (if 5 < (bt227.1.length : Int) then (if 6 < (bt227.1.length : Int) then (some (wrap64 (rd bt227.1 0), wrap64 (rd bt227.1 1), ((rd bt227.1 2) == 1), wrap64 (rd bt227.1 3), wrap64 (rd bt227.1 5), wrap64 (rd bt227.1 6), true)) else (none)) else (none)) else (none)) else (none)) else (none)) else (some (0, 0, false, 0, 0, 0, false))) else (none))) else (none)))
def head_Unpack.T4 : Bool × List (List Nat × List Nat) := (true, [([], []), ([0], [0]), ([1], [1]), ([2], [2]), ([], []), ([4], [4]), ([5], [5]), ([6], [6]), ([], []), ([8], [8]), ([9], [9]), ([10], [10]), ([], []), ([12], [12]), ([13], [13]), ([14], [14]), ([], []), ([16], [16]), ([17], [17]), ([18], [18]), ([], []), ([20], [20]), ([21], [21]), ([22], [22]), ([3, 7, 11, 15, 19, 23], [3, 7, 11, 15, 19, 23]), ([24, 0, 1, 2, 3, 4, 5, 6, 7, 8, 9, 10, 11, 12, 13, 14, 15, 16, 17, 18, 19, 20, 21, 22, 23, 24], [24]), ([25, 0, 1, 2, 3, 4, 5, 6, 7, 8, 9, 10, 11, 12, 13, 14, 15, 16, 17, 18, 19, 20, 21, 22, 23, 24, 25], [])])
def head_Unpack.B4 : List Nat := [0, 1, 3, 7, 0, 16, 48, 112, 0, 256, 768, 1792, 0, 4096, 12288, 28672, 0, 65536, 196608, 458752, 0, 1048576, 3145728, 7340032, 16777215, 33554431, 67108863]
theorem head_Unpack.tab4 : rtab .any (opsOf Try.f86 4) = head_Unpack.T4 := by kernel_rfl
theorem head_Unpack.bits4 : waitsOk head_Unpack.T4.2 head_Unpack.B4 = true := by kernel_rfl
set_option maxHeartbeats 8000000 in
set_option maxRecDepth 100000 in
theorem head_Unpack.calls (k : Nat) (a0 : Int) (r1 : Int) (r2 : Int) (r3 : Bool) (r4 : Int) (r5 : Int) (r6 : Int) (r7 : Bool) (w : World) (h : head_Unpack.f k a0 = some (r1, r2, r3, r4, r5, r6, r7)) :
    Calls Try.prog 86 #[.int .u64 a0] w fun e w' => e = .returned (.tuple #[.agg #[.int .i64 r1, .int .i64 r2, .bool r3, .int .i64 r4, .int .i64 r5, .int .i64 r6], .bool r7]) ∧ Below w.heap.size w w' := by
  have hu85 := Try.underlying85
  have HB := Aside0.mk (Below.refl w.heap.size w)
  have H : ((word_Unpack.f k a0 (([3, 1, 1, 4, 7, 32, 16] : List Int))).bind fun bt227 => (if (bt227.1.length : Int) < 7 then (some (0, 0, false, 0, 0, 0, false)) else (if 0 < (bt227.1.length : Int) then (if (rd bt227.1 0) > 4 then (some (0, 0, false, 0, 0, 0, false)) else (if 4 < (bt227.1.length : Int) then (if (rd bt227.1 4) = 0 then (if 1 < (bt227.1.length : Int) then (if 2 < (bt227.1.length : Int) then (if 3 < (bt227.1.length : Int) then (if 5 < (bt227.1.length : Int) then (if 6 < (bt227.1.length : Int) then (some (wrap64 (rd bt227.1 0), wrap64 (rd bt227.1 1), ((rd bt227.1 2) == 1), wrap64 (rd bt227.1 3), wrap64 (rd bt227.1 5), wrap64 (rd bt227.1 6), true)) else (none)) else (none)) else (none)) else (none)) else (none)) else (some (0, 0, false, 0, 0, 0, false))) else (none))) else (none)))) = some (r1, r2, r3, r4, r5, r6, r7) := h
  clear h
  obtain ⟨y224, hy224⟩ : ∃ y_ : List Int, y_ = (([3, 1, 1, 4, 7, 32, 16] : List Int)) := ⟨_, rfl⟩
  replace H : ((word_Unpack.f k a0 y224).bind fun bt227 => (if (bt227.1.length : Int) < 7 then (some (0, 0, false, 0, 0, 0, false)) else (if 0 < (bt227.1.length : Int) then (if (rd bt227.1 0) > 4 then (some (0, 0, false, 0, 0, 0, false)) else (if 4 < (bt227.1.length : Int) then (if (rd bt227.1 4) = 0 then (if 1 < (bt227.1.length : Int) then (if 2 < (bt227.1.length : Int) then (if 3 < (bt227.1.length : Int) then (if 5 < (bt227.1.length : Int) then (if 6 < (bt227.1.length : Int) then (some (wrap64 (rd bt227.1 0), wrap64 (rd bt227.1 1), ((rd bt227.1 2) == 1), wrap64 (rd bt227.1 3), wrap64 (rd bt227.1 5), wrap64 (rd bt227.1 6), true)) else (none)) else (none)) else (none)) else (none)) else (none)) else (some (0, 0, false, 0, 0, 0, false))) else (none))) else (none)))) = some (r1, r2, r3, r4, r5, r6, r7) := by first | (rw [hy224]; with_reducible exact H) | (have H2_ := (Option.bind_some _ _).symm.trans H; rw [hy224]; with_reducible exact H2_) | (have H2_ := (Option.bind_some _ _).symm.trans H; with_reducible exact H2_) | with_reducible exact H | (rw [hy224]; exact H) | exact H
  have Ny224 := Aside0.mk hy224
  clear hy224
  replace H := Option.bind_eq_some_iff.mp H
  obtain ⟨⟨t227, t228⟩, A20, H⟩ := H
  replace H : (if (t227.length : Int) < 7 then (some (0, 0, false, 0, 0, 0, false)) else (if 0 < (t227.length : Int) then (if (rd t227 0) > 4 then (some (0, 0, false, 0, 0, 0, false)) else (if 4 < (t227.length : Int) then (if (rd t227 4) = 0 then (if 1 < (t227.length : Int) then (if 2 < (t227.length : Int) then (if 3 < (t227.length : Int) then (if 5 < (t227.length : Int) then (if 6 < (t227.length : Int) then (some (wrap64 (rd t227 0), wrap64 (rd t227 1), ((rd t227 2) == 1), wrap64 (rd t227 3), wrap64 (rd t227 5), wrap64 (rd t227 6), true)) else (none)) else (none)) else (none)) else (none)) else (none)) else (some (0, 0, false, 0, 0, 0, false))) else (none))) else (none))) = some (r1, r2, r3, r4, r5, r6, r7) := H
  have A2 := Aside0.mk A20
  clear A20
  by_cases c3 : (t227.length : Int) < 7
  · rw [if_pos c3] at H
    have c3b0 : decide ((t227.length : Int) < 7) = true := decide_eq_true c3
    have c3b1 : decide (t227.length < 7) = true := decide_eq_true (by omega)
    clear c3
    simp only [Option.some.injEq, Prod.mk.injEq] at H
    obtain ⟨rfl, rfl, rfl, rfl, rfl, rfl, rfl⟩ := H
    go_enter Try.func86, Try.ntmps86
    go_wp2_with (first | ((with_reducible refine gate_dst (N := 2) rfl ?_); refine box_event ?hg (N := 2) ?hd (cs := #[.int .i64 0, .int .i64 0, .bool false, .int .i64 0, .int .i64 0, .int .i64 0]) (t := 85) ?hr ?_; (case hd => rfl); (case hg => rfl); (case hr => first | (go_simp; done) | (go_simp; rfl)); intro gb223 hg w4 hbox hb; have n0_ := Aside0.mk (below_step (by repeat (first | (with_reducible first | exact HB.out | apply below_alloc | apply pw_below_drewN | apply below_drew1) | exact HB.out)) hb); have n1_ := Aside0.mk (hbox); have n2_ := Aside0.mk ((by rw [hg]; exact (below_size (by repeat (first | (with_reducible first | exact HB.out | apply below_alloc | apply pw_below_drewN | apply below_drew1) | exact HB.out))) : w.heap.size ≤ gb223)); have n3_ := Aside0.mk ((by rw [hg]; exact (below_size (by repeat (first | (with_reducible first | exact HB.out | apply below_alloc | apply pw_below_drewN | apply below_drew1) | exact HB.out))) : w.heap.size ≤ gb223)); clear HB; have HB := n0_; have BK223 := n1_; have GW223 := n2_; have GE223 := n3_; clear n0_ n1_ n2_ n3_; clear hb hbox hg) | ((with_reducible refine gate_dst (N := 8) rfl ?_); refine Kd.R_lit (Kd.int .i64) _ 3 ?hg (N := 8) ?hd (xs := ([3, 1, 1, 4, 7, 32, 16] : List Int)) (inner := [.int .i64 3, .int .i64 1, .int .i64 1, .int .i64 4, .int .i64 7, .int .i64 32, .int .i64 16]) (ok := fun _ => True) (okp := fun _ => True) ?hr ?hp (fun _ hk => hk) trivial (Below.refl _ _) (Nat.le_refl _) (by simp) ?_; (case hd => rfl); (case hg => rfl); (case hr => first | (go_simp; done) | (go_simp; rfl)); (case hp => exact (Reps.one (show Kd.M (Kd.int .i64) _ _ _ 3 [.int .i64 3] from rfl) (Reps.one (show Kd.M (Kd.int .i64) _ _ _ 1 [.int .i64 1] from rfl) (Reps.one (show Kd.M (Kd.int .i64) _ _ _ 1 [.int .i64 1] from rfl) (Reps.one (show Kd.M (Kd.int .i64) _ _ _ 4 [.int .i64 4] from rfl) (Reps.one (show Kd.M (Kd.int .i64) _ _ _ 7 [.int .i64 7] from rfl) (Reps.one (show Kd.M (Kd.int .i64) _ _ _ 32 [.int .i64 32] from rfl) (Reps.one (show Kd.M (Kd.int .i64) _ _ _ 16 [.int .i64 16] from rfl) (Reps.none _ _))))))))); intro v225 w5 ho6 hb hg_ hnew_; clear hg_ hnew_; (first | rw [← Ny224.out] at ho6 | (simp only [Int.reduceToNat] at ho6; rw [← Ny224.out] at ho6)); have n0_ := Aside0.mk (Kd.R_lower ho6 (below_size (by repeat (first | (with_reducible first | exact HB.out | apply below_alloc | apply pw_below_drewN | apply below_drew1 | refine below_set ?_ GE223.out) | exact HB.out)))); have n1_ := Aside0.mk (blk_below (g := gb223) (o := .cells #[.int .i64 0, .int .i64 0, .bool false, .int .i64 0, .int .i64 0, .int .i64 0] 85 (0, 0)) (by (with_reducible repeat (first | refine blk_drewN ?_ _ | refine blk_drew ?_ | refine blk_alloc ?_ _)); exact BK223.out) hb); have n2_ := Aside0.mk (below_step (by repeat (first | (with_reducible first | exact HB.out | apply below_alloc | apply pw_below_drewN | apply below_drew1 | refine below_set ?_ GE223.out) | exact HB.out)) hb); clear BK223; clear HB; have HO226 := n0_; have BK223 := n1_; have HB := n2_; clear n0_ n1_ n2_; clear hb ho6; obtain ⟨Ao7, co7, eo7⟩ := Kd.R_slice HO226.out; subst eo7) | ((with_reducible refine gate_callee (f := 99) rfl ?_); refine goesL_ (some 9) rfl rfl Try.func99 (by kernel_rfl) rfl #[.int .u64 a0, .slice Ao7 y224.length co7] rfl (by (try simp only [List.map_toArray, List.map_cons, List.map_nil]); first | done | rfl | (simp only [List.length_drop, List.length_take]; rfl)) ?_; (with_reducible refine (word_Unpack.calls k a0 _ _ y224 t227 t228 _ ?side1 ?side2 A2.out).mono ?_); (case side1 => repeat (first | exact (Kd.R_reads' HO226.out).2.2 | (with_reducible refine Kd.C_alloc ?_ _) | (with_reducible refine Kd.C_drewN ?_ _) | (with_reducible refine Kd.C_drew ?_))); (case side2 => exact (Kd.R_reads' HO226.out).2.1); rintro e w8 ⟨v229, rfl, ho0, hb⟩; refine ⟨_, rfl, ?_⟩; have n0_ := Aside0.mk (Kd.R_below (by (with_reducible repeat (first | apply Kd.R_alloc | apply Kd.R_drewN | apply Kd.R_drew)); exact HO226.out) hb); have n1_ := Aside0.mk (Kd.R_lower ho0 (below_size (by repeat (first | (with_reducible first | exact HB.out | apply below_alloc | apply pw_below_drewN | apply below_drew1 | refine below_set ?_ GE223.out) | exact HB.out)))); have n2_ := Aside0.mk (blk_below (g := gb223) (o := .cells #[.int .i64 0, .int .i64 0, .bool false, .int .i64 0, .int .i64 0, .int .i64 0] 85 (0, 0)) (by (with_reducible repeat (first | refine blk_drewN ?_ _ | refine blk_drew ?_ | refine blk_alloc ?_ _)); exact BK223.out) hb); have n3_ := Aside0.mk (below_step (by repeat (first | (with_reducible first | exact HB.out | apply below_alloc | apply pw_below_drewN | apply below_drew1 | refine below_set ?_ GE223.out) | exact HB.out)) hb); clear HO226; clear BK223; clear HB; have HO226 := n0_; have HO230 := n1_; have BK223 := n2_; have HB := n3_; clear n0_ n1_ n2_ n3_; (try clear hb); (try clear hb2); (try clear hk); (try clear hi); (try clear ho0); obtain ⟨Ao9, co9, eo9⟩ := Kd.R_slice HO230.out; subst eo9; have hcz10_0 : w8.cell? ⟨gb223, 0, none⟩ = some (.int .i64 0) := (blk_cell BK223.out 0).trans rfl; have hcz10_1 : w8.cell? ⟨gb223, 1, none⟩ = some (.int .i64 0) := (blk_cell BK223.out 1).trans rfl; have hcz10_2 : w8.cell? ⟨gb223, 2, none⟩ = some (.bool false) := (blk_cell BK223.out 2).trans rfl; have hcz10_3 : w8.cell? ⟨gb223, 3, none⟩ = some (.int .i64 0) := (blk_cell BK223.out 3).trans rfl; have hcz10_4 : w8.cell? ⟨gb223, 4, none⟩ = some (.int .i64 0) := (blk_cell BK223.out 4).trans rfl; have hcz10_5 : w8.cell? ⟨gb223, 5, none⟩ = some (.int .i64 0) := (blk_cell BK223.out 5).trans rfl; have hfz10_0 := blk_frozen BK223.out 0; have hfz10_1 := blk_frozen BK223.out 1; have hfz10_2 := blk_frozen BK223.out 2; have hfz10_3 := blk_frozen BK223.out 3; have hfz10_4 := blk_frozen BK223.out 4; have hfz10_5 := blk_frozen BK223.out 5))
    refine bodyPost_ret (results_ct rfl _ _ gb223 85 #[.int .i64 0, .int .i64 0, .bool false, .int .i64 0, .int .i64 0, .int .i64 0] (0, 0) _ rfl (by (with_reducible repeat (first | refine blk_drewN ?_ _ | refine blk_drew ?_ | refine blk_alloc ?_ _)); refine blk_put (cs := #[.int .i64 0, .int .i64 0, .bool false, .int .i64 0, .int .i64 0, .int .i64 0]) ?_ 5 _ rfl; (with_reducible repeat (first | refine blk_drewN ?_ _ | refine blk_drew ?_ | refine blk_alloc ?_ _)); refine blk_put (cs := #[.int .i64 0, .int .i64 0, .bool false, .int .i64 0, .int .i64 0, .int .i64 0]) ?_ 4 _ rfl; (with_reducible repeat (first | refine blk_drewN ?_ _ | refine blk_drew ?_ | refine blk_alloc ?_ _)); refine blk_put (cs := #[.int .i64 0, .int .i64 0, .bool false, .int .i64 0, .int .i64 0, .int .i64 0]) ?_ 3 _ rfl; (with_reducible repeat (first | refine blk_drewN ?_ _ | refine blk_drew ?_ | refine blk_alloc ?_ _)); refine blk_put (cs := #[.int .i64 0, .int .i64 0, .bool false, .int .i64 0, .int .i64 0, .int .i64 0]) ?_ 2 _ rfl; (with_reducible repeat (first | refine blk_drewN ?_ _ | refine blk_drew ?_ | refine blk_alloc ?_ _)); refine blk_put (cs := #[.int .i64 0, .int .i64 0, .bool false, .int .i64 0, .int .i64 0, .int .i64 0]) ?_ 1 _ rfl; (with_reducible repeat (first | refine blk_drewN ?_ _ | refine blk_drew ?_ | refine blk_alloc ?_ _)); refine blk_put (cs := #[.int .i64 0, .int .i64 0, .bool false, .int .i64 0, .int .i64 0, .int .i64 0]) ?_ 0 _ rfl; (with_reducible repeat (first | refine blk_drewN ?_ _ | refine blk_drew ?_ | refine blk_alloc ?_ _)); exact BK223.out) Try.underlying85 rfl (by kernel_rfl)) rfl ?_
    exact ⟨by first | rfl | (simp [errW_none, errW_some] <;> rfl) | (simp [*, errW_none, errW_some] <;> rfl), by repeat (first | (with_reducible first | exact HB.out | apply below_alloc | apply pw_below_drewN | apply below_drew1 | refine below_set ?_ GE223.out) | exact HB.out)⟩
  · rw [if_neg c3] at H
    have c3b0 : decide ((t227.length : Int) < 7) = false := decide_eq_false c3
    have c3b1 : decide (t227.length < 7) = false := decide_eq_false (by omega)
    clear c3
    by_cases c11 : 0 < (t227.length : Int)
    · rw [if_pos c11] at H
      have c11b0 : decide (0 < (t227.length : Int)) = true := decide_eq_true c11
      have c11b1 : decide (0 < t227.length) = true := decide_eq_true (by omega)
      clear c11
      by_cases c12 : (rd t227 0) > 4
      · rw [if_pos c12] at H
        have c12b0 : decide (4 < (rd t227 0)) = true := decide_eq_true c12
        clear c12
        simp only [Option.some.injEq, Prod.mk.injEq] at H
        obtain ⟨rfl, rfl, rfl, rfl, rfl, rfl, rfl⟩ := H
        go_enter Try.func86, Try.ntmps86
        go_wp2_with (first | ((with_reducible refine gate_dst (N := 2) rfl ?_); refine box_event ?hg (N := 2) ?hd (cs := #[.int .i64 0, .int .i64 0, .bool false, .int .i64 0, .int .i64 0, .int .i64 0]) (t := 85) ?hr ?_; (case hd => rfl); (case hg => rfl); (case hr => first | (go_simp; done) | (go_simp; rfl)); intro gb223 hg w13 hbox hb; have n0_ := Aside0.mk (below_step (by repeat (first | (with_reducible first | exact HB.out | apply below_alloc | apply pw_below_drewN | apply below_drew1) | exact HB.out)) hb); have n1_ := Aside0.mk (hbox); have n2_ := Aside0.mk ((by rw [hg]; exact (below_size (by repeat (first | (with_reducible first | exact HB.out | apply below_alloc | apply pw_below_drewN | apply below_drew1) | exact HB.out))) : w.heap.size ≤ gb223)); have n3_ := Aside0.mk ((by rw [hg]; exact (below_size (by repeat (first | (with_reducible first | exact HB.out | apply below_alloc | apply pw_below_drewN | apply below_drew1) | exact HB.out))) : w.heap.size ≤ gb223)); clear HB; have HB := n0_; have BK223 := n1_; have GW223 := n2_; have GE223 := n3_; clear n0_ n1_ n2_ n3_; clear hb hbox hg) | ((with_reducible refine gate_dst (N := 8) rfl ?_); refine Kd.R_lit (Kd.int .i64) _ 3 ?hg (N := 8) ?hd (xs := ([3, 1, 1, 4, 7, 32, 16] : List Int)) (inner := [.int .i64 3, .int .i64 1, .int .i64 1, .int .i64 4, .int .i64 7, .int .i64 32, .int .i64 16]) (ok := fun _ => True) (okp := fun _ => True) ?hr ?hp (fun _ hk => hk) trivial (Below.refl _ _) (Nat.le_refl _) (by simp) ?_; (case hd => rfl); (case hg => rfl); (case hr => first | (go_simp; done) | (go_simp; rfl)); (case hp => exact (Reps.one (show Kd.M (Kd.int .i64) _ _ _ 3 [.int .i64 3] from rfl) (Reps.one (show Kd.M (Kd.int .i64) _ _ _ 1 [.int .i64 1] from rfl) (Reps.one (show Kd.M (Kd.int .i64) _ _ _ 1 [.int .i64 1] from rfl) (Reps.one (show Kd.M (Kd.int .i64) _ _ _ 4 [.int .i64 4] from rfl) (Reps.one (show Kd.M (Kd.int .i64) _ _ _ 7 [.int .i64 7] from rfl) (Reps.one (show Kd.M (Kd.int .i64) _ _ _ 32 [.int .i64 32] from rfl) (Reps.one (show Kd.M (Kd.int .i64) _ _ _ 16 [.int .i64 16] from rfl) (Reps.none _ _))))))))); intro v225 w14 ho15 hb hg_ hnew_; clear hg_ hnew_; (first | rw [← Ny224.out] at ho15 | (simp only [Int.reduceToNat] at ho15; rw [← Ny224.out] at ho15)); have n0_ := Aside0.mk (Kd.R_lower ho15 (below_size (by repeat (first | (with_reducible first | exact HB.out | apply below_alloc | apply pw_below_drewN | apply below_drew1 | refine below_set ?_ GE223.out) | exact HB.out)))); have n1_ := Aside0.mk (blk_below (g := gb223) (o := .cells #[.int .i64 0, .int .i64 0, .bool false, .int .i64 0, .int .i64 0, .int .i64 0] 85 (0, 0)) (by (with_reducible repeat (first | refine blk_drewN ?_ _ | refine blk_drew ?_ | refine blk_alloc ?_ _)); exact BK223.out) hb); have n2_ := Aside0.mk (below_step (by repeat (first | (with_reducible first | exact HB.out | apply below_alloc | apply pw_below_drewN | apply below_drew1 | refine below_set ?_ GE223.out) | exact HB.out)) hb); clear BK223; clear HB; have HO226 := n0_; have BK223 := n1_; have HB := n2_; clear n0_ n1_ n2_; clear hb ho15; obtain ⟨Ao16, co16, eo16⟩ := Kd.R_slice HO226.out; subst eo16) | ((with_reducible refine gate_callee (f := 99) rfl ?_); refine goesL_ (some 9) rfl rfl Try.func99 (by kernel_rfl) rfl #[.int .u64 a0, .slice Ao16 y224.length co16] rfl (by (try simp only [List.map_toArray, List.map_cons, List.map_nil]); first | done | rfl | (simp only [List.length_drop, List.length_take]; rfl)) ?_; (with_reducible refine (word_Unpack.calls k a0 _ _ y224 t227 t228 _ ?side1 ?side2 A2.out).mono ?_); (case side1 => repeat (first | exact (Kd.R_reads' HO226.out).2.2 | (with_reducible refine Kd.C_alloc ?_ _) | (with_reducible refine Kd.C_drewN ?_ _) | (with_reducible refine Kd.C_drew ?_))); (case side2 => exact (Kd.R_reads' HO226.out).2.1); rintro e w17 ⟨v229, rfl, ho0, hb⟩; refine ⟨_, rfl, ?_⟩; have n0_ := Aside0.mk (Kd.R_below (by (with_reducible repeat (first | apply Kd.R_alloc | apply Kd.R_drewN | apply Kd.R_drew)); exact HO226.out) hb); have n1_ := Aside0.mk (Kd.R_lower ho0 (below_size (by repeat (first | (with_reducible first | exact HB.out | apply below_alloc | apply pw_below_drewN | apply below_drew1 | refine below_set ?_ GE223.out) | exact HB.out)))); have n2_ := Aside0.mk (blk_below (g := gb223) (o := .cells #[.int .i64 0, .int .i64 0, .bool false, .int .i64 0, .int .i64 0, .int .i64 0] 85 (0, 0)) (by (with_reducible repeat (first | refine blk_drewN ?_ _ | refine blk_drew ?_ | refine blk_alloc ?_ _)); exact BK223.out) hb); have n3_ := Aside0.mk (below_step (by repeat (first | (with_reducible first | exact HB.out | apply below_alloc | apply pw_below_drewN | apply below_drew1 | refine below_set ?_ GE223.out) | exact HB.out)) hb); clear HO226; clear BK223; clear HB; have HO226 := n0_; have HO230 := n1_; have BK223 := n2_; have HB := n3_; clear n0_ n1_ n2_ n3_; (try clear hb); (try clear hb2); (try clear hk); (try clear hi); (try clear ho0); obtain ⟨Ao18, co18, eo18⟩ := Kd.R_slice HO230.out; subst eo18; have p231 : 0 ≤ (0 : Int) := (by omega); have q231 : 0 < (t227.length : Int) := of_decide_eq_true (by first | (with_reducible assumption) | assumption); obtain ⟨ad231, e231, hx231_0⟩ := Kd.at_int (Kd.R_reads' HO230.out).2.2 0 p231 q231; cases e231; have qi231 : (0 < t227.length) = True := eq_true (by omega); (try rw [show ((0 : Int)).toNat = 0 from rfl] at hx231_0); (try rw [Addr.add_zero'] at hx231_0); replace p231 := eq_true p231; replace q231 := eq_true q231; have hcz19_0 : w17.cell? ⟨gb223, 0, none⟩ = some (.int .i64 0) := (blk_cell BK223.out 0).trans rfl; have hcz19_1 : w17.cell? ⟨gb223, 1, none⟩ = some (.int .i64 0) := (blk_cell BK223.out 1).trans rfl; have hcz19_2 : w17.cell? ⟨gb223, 2, none⟩ = some (.bool false) := (blk_cell BK223.out 2).trans rfl; have hcz19_3 : w17.cell? ⟨gb223, 3, none⟩ = some (.int .i64 0) := (blk_cell BK223.out 3).trans rfl; have hcz19_4 : w17.cell? ⟨gb223, 4, none⟩ = some (.int .i64 0) := (blk_cell BK223.out 4).trans rfl; have hcz19_5 : w17.cell? ⟨gb223, 5, none⟩ = some (.int .i64 0) := (blk_cell BK223.out 5).trans rfl; have hfz19_0 := blk_frozen BK223.out 0; have hfz19_1 := blk_frozen BK223.out 1; have hfz19_2 := blk_frozen BK223.out 2; have hfz19_3 := blk_frozen BK223.out 3; have hfz19_4 := blk_frozen BK223.out 4; have hfz19_5 := blk_frozen BK223.out 5))
        refine bodyPost_ret (results_ct rfl _ _ gb223 85 #[.int .i64 0, .int .i64 0, .bool false, .int .i64 0, .int .i64 0, .int .i64 0] (0, 0) _ rfl (by (with_reducible repeat (first | refine blk_drewN ?_ _ | refine blk_drew ?_ | refine blk_alloc ?_ _)); refine blk_put (cs := #[.int .i64 0, .int .i64 0, .bool false, .int .i64 0, .int .i64 0, .int .i64 0]) ?_ 5 _ rfl; (with_reducible repeat (first | refine blk_drewN ?_ _ | refine blk_drew ?_ | refine blk_alloc ?_ _)); refine blk_put (cs := #[.int .i64 0, .int .i64 0, .bool false, .int .i64 0, .int .i64 0, .int .i64 0]) ?_ 4 _ rfl; (with_reducible repeat (first | refine blk_drewN ?_ _ | refine blk_drew ?_ | refine blk_alloc ?_ _)); refine blk_put (cs := #[.int .i64 0, .int .i64 0, .bool false, .int .i64 0, .int .i64 0, .int .i64 0]) ?_ 3 _ rfl; (with_reducible repeat (first | refine blk_drewN ?_ _ | refine blk_drew ?_ | refine blk_alloc ?_ _)); refine blk_put (cs := #[.int .i64 0, .int .i64 0, .bool false, .int .i64 0, .int .i64 0, .int .i64 0]) ?_ 2 _ rfl; (with_reducible repeat (first | refine blk_drewN ?_ _ | refine blk_drew ?_ | refine blk_alloc ?_ _)); refine blk_put (cs := #[.int .i64 0, .int .i64 0, .bool false, .int .i64 0, .int .i64 0, .int .i64 0]) ?_ 1 _ rfl; (with_reducible repeat (first | refine blk_drewN ?_ _ | refine blk_drew ?_ | refine blk_alloc ?_ _)); refine blk_put (cs := #[.int .i64 0, .int .i64 0, .bool false, .int .i64 0, .int .i64 0, .int .i64 0]) ?_ 0 _ rfl; (with_reducible repeat (first | refine blk_drewN ?_ _ | refine blk_drew ?_ | refine blk_alloc ?_ _)); exact BK223.out) Try.underlying85 rfl (by kernel_rfl)) rfl ?_
        exact ⟨by first | rfl | (simp [errW_none, errW_some] <;> rfl) | (simp [*, errW_none, errW_some] <;> rfl), by repeat (first | (with_reducible first | exact HB.out | apply below_alloc | apply pw_below_drewN | apply below_drew1 | refine below_set ?_ GE223.out) | exact HB.out)⟩
      · rw [if_neg c12] at H
        have c12b0 : decide (4 < (rd t227 0)) = false := decide_eq_false c12
        clear c12
        by_cases c20 : 4 < (t227.length : Int)
        · rw [if_pos c20] at H
          have c20b0 : decide (4 < (t227.length : Int)) = true := decide_eq_true c20
          have c20b1 : decide (4 < t227.length) = true := decide_eq_true (by omega)
          clear c20
          by_cases c21 : (rd t227 4) = 0
          · rw [if_pos c21] at H
            have c21b0 : ((rd t227 4) == 0) = true := beq_iff_eq.mpr c21
            have c21b1 : ((rd t227 4) != 0) = false := bne_eq_false_iff_eq.mpr c21
            clear c21
            by_cases c22 : 1 < (t227.length : Int)
            · rw [if_pos c22] at H
              have c22b0 : decide (1 < (t227.length : Int)) = true := decide_eq_true c22
              have c22b1 : decide (1 < t227.length) = true := decide_eq_true (by omega)
              clear c22
              by_cases c23 : 2 < (t227.length : Int)
              · rw [if_pos c23] at H
                have c23b0 : decide (2 < (t227.length : Int)) = true := decide_eq_true c23
                have c23b1 : decide (2 < t227.length) = true := decide_eq_true (by omega)
                clear c23
                by_cases c24 : 3 < (t227.length : Int)
                · rw [if_pos c24] at H
                  have c24b0 : decide (3 < (t227.length : Int)) = true := decide_eq_true c24
                  have c24b1 : decide (3 < t227.length) = true := decide_eq_true (by omega)
                  clear c24
                  by_cases c25 : 5 < (t227.length : Int)
                  · rw [if_pos c25] at H
                    have c25b0 : decide (5 < (t227.length : Int)) = true := decide_eq_true c25
                    have c25b1 : decide (5 < t227.length) = true := decide_eq_true (by omega)
                    clear c25
                    by_cases c26 : 6 < (t227.length : Int)
                    · rw [if_pos c26] at H
                      have c26b0 : decide (6 < (t227.length : Int)) = true := decide_eq_true c26
                      have c26b1 : decide (6 < t227.length) = true := decide_eq_true (by omega)
                      clear c26
                      simp only [Option.some.injEq, Prod.mk.injEq] at H
                      obtain ⟨rfl, rfl, rfl, rfl, rfl, rfl, rfl⟩ := H
                      go_enter Try.func86, Try.ntmps86
                      try go_wp2_with (first | ((with_reducible refine gate_dst (N := 2) rfl ?_); refine box_event ?hg (N := 2) ?hd (cs := #[.int .i64 0, .int .i64 0, .bool false, .int .i64 0, .int .i64 0, .int .i64 0]) (t := 85) ?hr ?_; (case hd => rfl); (case hg => rfl); (case hr => first | (go_simp; done) | (go_simp; rfl)); intro gb223 hg w27 hbox hb; have n0_ := Aside0.mk (below_step (by repeat (first | (with_reducible first | exact HB.out | apply below_alloc | apply pw_below_drewN | apply below_drew1) | exact HB.out)) hb); have n1_ := Aside0.mk (hbox); have n2_ := Aside0.mk ((by rw [hg]; exact (below_size (by repeat (first | (with_reducible first | exact HB.out | apply below_alloc | apply pw_below_drewN | apply below_drew1) | exact HB.out))) : w.heap.size ≤ gb223)); have n3_ := Aside0.mk ((by rw [hg]; exact (below_size (by repeat (first | (with_reducible first | exact HB.out | apply below_alloc | apply pw_below_drewN | apply below_drew1) | exact HB.out))) : w.heap.size ≤ gb223)); clear HB; have HB := n0_; have BK223 := n1_; have GW223 := n2_; have GE223 := n3_; clear n0_ n1_ n2_ n3_; clear hb hbox hg) | ((with_reducible refine gate_dst (N := 8) rfl ?_); refine Kd.R_lit (Kd.int .i64) _ 3 ?hg (N := 8) ?hd (xs := ([3, 1, 1, 4, 7, 32, 16] : List Int)) (inner := [.int .i64 3, .int .i64 1, .int .i64 1, .int .i64 4, .int .i64 7, .int .i64 32, .int .i64 16]) (ok := fun _ => True) (okp := fun _ => True) ?hr ?hp (fun _ hk => hk) trivial (Below.refl _ _) (Nat.le_refl _) (by simp) ?_; (case hd => rfl); (case hg => rfl); (case hr => first | (go_simp; done) | (go_simp; rfl)); (case hp => exact (Reps.one (show Kd.M (Kd.int .i64) _ _ _ 3 [.int .i64 3] from rfl) (Reps.one (show Kd.M (Kd.int .i64) _ _ _ 1 [.int .i64 1] from rfl) (Reps.one (show Kd.M (Kd.int .i64) _ _ _ 1 [.int .i64 1] from rfl) (Reps.one (show Kd.M (Kd.int .i64) _ _ _ 4 [.int .i64 4] from rfl) (Reps.one (show Kd.M (Kd.int .i64) _ _ _ 7 [.int .i64 7] from rfl) (Reps.one (show Kd.M (Kd.int .i64) _ _ _ 32 [.int .i64 32] from rfl) (Reps.one (show Kd.M (Kd.int .i64) _ _ _ 16 [.int .i64 16] from rfl) (Reps.none _ _))))))))); intro v225 w28 ho29 hb hg_ hnew_; clear hg_ hnew_; (first | rw [← Ny224.out] at ho29 | (simp only [Int.reduceToNat] at ho29; rw [← Ny224.out] at ho29)); have n0_ := Aside0.mk (Kd.R_lower ho29 (below_size (by repeat (first | (with_reducible first | exact HB.out | apply below_alloc | apply pw_below_drewN | apply below_drew1 | refine below_set ?_ GE223.out) | exact HB.out)))); have n1_ := Aside0.mk (blk_below (g := gb223) (o := .cells #[.int .i64 0, .int .i64 0, .bool false, .int .i64 0, .int .i64 0, .int .i64 0] 85 (0, 0)) (by (with_reducible repeat (first | refine blk_drewN ?_ _ | refine blk_drew ?_ | refine blk_alloc ?_ _)); exact BK223.out) hb); have n2_ := Aside0.mk (below_step (by repeat (first | (with_reducible first | exact HB.out | apply below_alloc | apply pw_below_drewN | apply below_drew1 | refine below_set ?_ GE223.out) | exact HB.out)) hb); clear BK223; clear HB; have HO226 := n0_; have BK223 := n1_; have HB := n2_; clear n0_ n1_ n2_; clear hb ho29; obtain ⟨Ao30, co30, eo30⟩ := Kd.R_slice HO226.out; subst eo30) | ((with_reducible refine gate_callee (f := 99) rfl ?_); refine goesL_ (some 9) rfl rfl Try.func99 (by kernel_rfl) rfl #[.int .u64 a0, .slice Ao30 y224.length co30] rfl (by (try simp only [List.map_toArray, List.map_cons, List.map_nil]); first | done | rfl | (simp only [List.length_drop, List.length_take]; rfl)) ?_; (with_reducible refine (word_Unpack.calls k a0 _ _ y224 t227 t228 _ ?side1 ?side2 A2.out).mono ?_); (case side1 => repeat (first | exact (Kd.R_reads' HO226.out).2.2 | (with_reducible refine Kd.C_alloc ?_ _) | (with_reducible refine Kd.C_drewN ?_ _) | (with_reducible refine Kd.C_drew ?_))); (case side2 => exact (Kd.R_reads' HO226.out).2.1); rintro e w31 ⟨v229, rfl, ho0, hb⟩; refine ⟨_, rfl, ?_⟩; have n0_ := Aside0.mk (Kd.R_below (by (with_reducible repeat (first | apply Kd.R_alloc | apply Kd.R_drewN | apply Kd.R_drew)); exact HO226.out) hb); have n1_ := Aside0.mk (Kd.R_lower ho0 (below_size (by repeat (first | (with_reducible first | exact HB.out | apply below_alloc | apply pw_below_drewN | apply below_drew1 | refine below_set ?_ GE223.out) | exact HB.out)))); have n2_ := Aside0.mk (blk_below (g := gb223) (o := .cells #[.int .i64 0, .int .i64 0, .bool false, .int .i64 0, .int .i64 0, .int .i64 0] 85 (0, 0)) (by (with_reducible repeat (first | refine blk_drewN ?_ _ | refine blk_drew ?_ | refine blk_alloc ?_ _)); exact BK223.out) hb); have n3_ := Aside0.mk (below_step (by repeat (first | (with_reducible first | exact HB.out | apply below_alloc | apply pw_below_drewN | apply below_drew1 | refine below_set ?_ GE223.out) | exact HB.out)) hb); clear HO226; clear BK223; clear HB; have HO226 := n0_; have HO230 := n1_; have BK223 := n2_; have HB := n3_; clear n0_ n1_ n2_ n3_; (try clear hb); (try clear hb2); (try clear hk); (try clear hi); (try clear ho0); obtain ⟨Ao32, co32, eo32⟩ := Kd.R_slice HO230.out; subst eo32; have p231 : 0 ≤ (0 : Int) := (by omega); have q231 : 0 < (t227.length : Int) := of_decide_eq_true (by first | (with_reducible assumption) | assumption); obtain ⟨ad231, e231, hx231_0⟩ := Kd.at_int (Kd.R_reads' HO230.out).2.2 0 p231 q231; cases e231; have qi231 : (0 < t227.length) = True := eq_true (by omega); (try rw [show ((0 : Int)).toNat = 0 from rfl] at hx231_0); (try rw [Addr.add_zero'] at hx231_0); replace p231 := eq_true p231; replace q231 := eq_true q231; have p232 : 0 ≤ (4 : Int) := (by omega); have q232 : 4 < (t227.length : Int) := of_decide_eq_true (by first | (with_reducible assumption) | assumption); obtain ⟨ad232, e232, hx232_0⟩ := Kd.at_int (Kd.R_reads' HO230.out).2.2 4 p232 q232; obtain rfl : ad231 = ad232 := (by injection e232); (try simp only [show (4 : Int).toNat = 4 from rfl, Nat.reduceMul, Nat.reduceEqDiff, Go.Addr.add, ↓reduceIte] at hx232_0); have qi232 : (4 < t227.length) = True := eq_true (by omega); (try rw [show ((4 : Int)).toNat = 4 from rfl] at hx232_0); replace p232 := eq_true p232; replace q232 := eq_true q232))
                      have n0_ := Aside0.mk (Kd.R_drew HO226.out)
                      have n1_ := Aside0.mk (Kd.R_drew HO230.out)
                      have n2_ := Aside0.mk (blk_drew BK223.out)
                      have n3_ := Aside0.mk (below_drew1 HB.out)
                      clear HO226
                      clear HO230
                      clear BK223
                      clear HB
                      have HO226 := n0_
                      have HO230 := n1_
                      have BK223 := n2_
                      have HB := n3_
                      clear n0_ n1_ n2_ n3_
                      have p233 : 0 ≤ (0 : Int) := (by omega)
                      have q233 : 0 < (t227.length : Int) := of_decide_eq_true (by first | (with_reducible assumption) | assumption)
                      obtain ⟨ad233, e233, hx233_0⟩ := Kd.at_int (Kd.R_reads' HO230.out).2.2 0 p233 q233
                      obtain rfl : ad231 = ad233 := (by injection e233)
                      have qi233 : (0 < t227.length) = True := eq_true (by omega)
                      (try rw [show ((0 : Int)).toNat = 0 from rfl] at hx233_0)
                      (try rw [Addr.add_zero'] at hx233_0)
                      replace p233 := eq_true p233
                      replace q233 := eq_true q233
                      have p234 : 0 ≤ (1 : Int) := (by omega)
                      have q234 : 1 < (t227.length : Int) := of_decide_eq_true (by first | (with_reducible assumption) | assumption)
                      obtain ⟨ad234, e234, hx234_0⟩ := Kd.at_int (Kd.R_reads' HO230.out).2.2 1 p234 q234
                      obtain rfl : ad231 = ad234 := (by injection e234)
                      (try simp only [show (1 : Int).toNat = 1 from rfl, Nat.reduceMul, Nat.reduceEqDiff, Go.Addr.add, ↓reduceIte] at hx234_0)
                      have qi234 : (1 < t227.length) = True := eq_true (by omega)
                      (try rw [show ((1 : Int)).toNat = 1 from rfl] at hx234_0)
                      replace p234 := eq_true p234
                      replace q234 := eq_true q234
                      have p235 : 0 ≤ (2 : Int) := (by omega)
                      have q235 : 2 < (t227.length : Int) := of_decide_eq_true (by first | (with_reducible assumption) | assumption)
                      obtain ⟨ad235, e235, hx235_0⟩ := Kd.at_int (Kd.R_reads' HO230.out).2.2 2 p235 q235
                      obtain rfl : ad231 = ad235 := (by injection e235)
                      (try simp only [show (2 : Int).toNat = 2 from rfl, Nat.reduceMul, Nat.reduceEqDiff, Go.Addr.add, ↓reduceIte] at hx235_0)
                      have qi235 : (2 < t227.length) = True := eq_true (by omega)
                      (try rw [show ((2 : Int)).toNat = 2 from rfl] at hx235_0)
                      replace p235 := eq_true p235
                      replace q235 := eq_true q235
                      have p236 : 0 ≤ (3 : Int) := (by omega)
                      have q236 : 3 < (t227.length : Int) := of_decide_eq_true (by first | (with_reducible assumption) | assumption)
                      obtain ⟨ad236, e236, hx236_0⟩ := Kd.at_int (Kd.R_reads' HO230.out).2.2 3 p236 q236
                      obtain rfl : ad231 = ad236 := (by injection e236)
                      (try simp only [show (3 : Int).toNat = 3 from rfl, Nat.reduceMul, Nat.reduceEqDiff, Go.Addr.add, ↓reduceIte] at hx236_0)
                      have qi236 : (3 < t227.length) = True := eq_true (by omega)
                      (try rw [show ((3 : Int)).toNat = 3 from rfl] at hx236_0)
                      replace p236 := eq_true p236
                      replace q236 := eq_true q236
                      have p237 : 0 ≤ (5 : Int) := (by omega)
                      have q237 : 5 < (t227.length : Int) := of_decide_eq_true (by first | (with_reducible assumption) | assumption)
                      obtain ⟨ad237, e237, hx237_0⟩ := Kd.at_int (Kd.R_reads' HO230.out).2.2 5 p237 q237
                      obtain rfl : ad231 = ad237 := (by injection e237)
                      (try simp only [show (5 : Int).toNat = 5 from rfl, Nat.reduceMul, Nat.reduceEqDiff, Go.Addr.add, ↓reduceIte] at hx237_0)
                      have qi237 : (5 < t227.length) = True := eq_true (by omega)
                      (try rw [show ((5 : Int)).toNat = 5 from rfl] at hx237_0)
                      replace p237 := eq_true p237
                      replace q237 := eq_true q237
                      have p238 : 0 ≤ (6 : Int) := (by omega)
                      have q238 : 6 < (t227.length : Int) := of_decide_eq_true (by first | (with_reducible assumption) | assumption)
                      obtain ⟨ad238, e238, hx238_0⟩ := Kd.at_int (Kd.R_reads' HO230.out).2.2 6 p238 q238
                      obtain rfl : ad231 = ad238 := (by injection e238)
                      (try simp only [show (6 : Int).toNat = 6 from rfl, Nat.reduceMul, Nat.reduceEqDiff, Go.Addr.add, ↓reduceIte] at hx238_0)
                      have qi238 : (6 < t227.length) = True := eq_true (by omega)
                      (try rw [show ((6 : Int)).toNat = 6 from rfl] at hx238_0)
                      replace p238 := eq_true p238
                      replace q238 := eq_true q238
                      refine start_ (n := 27) (S := fun w' => w'.cell? ad231 = some (.int .u64 (rd t227 0)) ∧ w'.cell? ⟨ad231.block, ad231.off + 1, none⟩ = some (.int .u64 (rd t227 1)) ∧ w'.cell? ⟨ad231.block, ad231.off + 2, none⟩ = some (.int .u64 (rd t227 2)) ∧ w'.cell? ⟨ad231.block, ad231.off + 3, none⟩ = some (.int .u64 (rd t227 3)) ∧ w'.cell? ⟨ad231.block, ad231.off + 5, none⟩ = some (.int .u64 (rd t227 5)) ∧ w'.cell? ⟨ad231.block, ad231.off + 6, none⟩ = some (.int .u64 (rd t227 6))) (ds := []) #[false, false, false, false, false, false, false, false, false, false, false, false, false, false, false, false, false, false, false, false, false, false, false, false, false, false, false] (by kernel_rfl) rfl rfl ⟨hx233_0, hx234_0, hx235_0, hx236_0, hx237_0, hx238_0⟩ (fun hHeld => ?_); refine with_tabW head_Unpack.tab4 head_Unpack.bits4 (fun HT_ HW_ => ?_)
                      generalize w31.drew = w33 at HO226 HO230 BK223 HB hx233_0 hx234_0 hx235_0 hx236_0 hx237_0 hx238_0 hHeld ⊢
                      refine pure_ (i := 0) (N := some 28) (v := ?_) (a' := ?_) #[true, false, false, false, false, false, false, false, false, false, false, false, false, false, false, false, false, false, false, false, false, false, false, false, false, false, false] rfl rfl (any_of HT_.out (by kernel_rfl)) (fun _ _ _ h => h) (Or.inl ⟨by rfl, ?_⟩) ?_ ?_
                      rotate_left
                      · intro w'
                        go_simp
                        with_reducible rfl
                      rotate_left
                      · simp only [Act.put, List.setIfInBounds_toArray, List.set_cons_zero, List.set_cons_succ, i64_w, i32_w]
                        rfl
                      refine pure_ (i := 1) (N := some 29) (v := ?_) (a' := ?_) #[true, true, false, false, false, false, false, false, false, false, false, false, false, false, false, false, false, false, false, false, false, false, false, false, false, false, false] rfl rfl (any_of HT_.out (by kernel_rfl)) (fun _ _ _ h => h) (Or.inl ⟨by rfl, ?_⟩) ?_ ?_
                      rotate_left
                      · intro w'
                        go_simp
                        with_reducible rfl
                      rotate_left
                      · simp only [Act.put, List.setIfInBounds_toArray, List.set_cons_zero, List.set_cons_succ, i64_w, i32_w]
                        rfl
                      refine pure_ (i := 4) (N := some 32) (v := ?_) (a' := ?_) #[true, true, false, false, true, false, false, false, false, false, false, false, false, false, false, false, false, false, false, false, false, false, false, false, false, false, false] rfl rfl (any_of HT_.out (by kernel_rfl)) (fun _ _ _ h => h) (Or.inl ⟨by rfl, ?_⟩) ?_ ?_
                      rotate_left
                      · intro w'
                        go_simp
                        with_reducible rfl
                      rotate_left
                      · simp only [Act.put, List.setIfInBounds_toArray, List.set_cons_zero, List.set_cons_succ, i64_w, i32_w]
                        rfl
                      refine pure_ (i := 5) (N := some 33) (v := ?_) (a' := ?_) #[true, true, false, false, true, true, false, false, false, false, false, false, false, false, false, false, false, false, false, false, false, false, false, false, false, false, false] rfl rfl (any_of HT_.out (by kernel_rfl)) (fun _ _ _ h => h) (Or.inl ⟨by rfl, ?_⟩) ?_ ?_
                      rotate_left
                      · intro w'
                        go_simp
                        with_reducible rfl
                      rotate_left
                      · simp only [Act.put, List.setIfInBounds_toArray, List.set_cons_zero, List.set_cons_succ, i64_w, i32_w]
                        rfl
                      refine pure_ (i := 8) (N := some 36) (v := ?_) (a' := ?_) #[true, true, false, false, true, true, false, false, true, false, false, false, false, false, false, false, false, false, false, false, false, false, false, false, false, false, false] rfl rfl (any_of HT_.out (by kernel_rfl)) (fun _ _ _ h => h) (Or.inl ⟨by rfl, ?_⟩) ?_ ?_
                      rotate_left
                      · intro w'
                        go_simp
                        with_reducible rfl
                      rotate_left
                      · simp only [Act.put, List.setIfInBounds_toArray, List.set_cons_zero, List.set_cons_succ, i64_w, i32_w]
                        rfl
                      refine pure_ (i := 9) (N := some 37) (v := ?_) (a' := ?_) #[true, true, false, false, true, true, false, false, true, true, false, false, false, false, false, false, false, false, false, false, false, false, false, false, false, false, false] rfl rfl (any_of HT_.out (by kernel_rfl)) (fun _ _ _ h => h) (Or.inl ⟨by rfl, ?_⟩) ?_ ?_
                      rotate_left
                      · intro w'
                        go_simp
                        with_reducible rfl
                      rotate_left
                      · simp only [Act.put, List.setIfInBounds_toArray, List.set_cons_zero, List.set_cons_succ, i64_w, i32_w]
                        rfl
                      refine pure_ (i := 12) (N := some 40) (v := ?_) (a' := ?_) #[true, true, false, false, true, true, false, false, true, true, false, false, true, false, false, false, false, false, false, false, false, false, false, false, false, false, false] rfl rfl (any_of HT_.out (by kernel_rfl)) (fun _ _ _ h => h) (Or.inl ⟨by rfl, ?_⟩) ?_ ?_
                      rotate_left
                      · intro w'
                        go_simp
                        with_reducible rfl
                      rotate_left
                      · simp only [Act.put, List.setIfInBounds_toArray, List.set_cons_zero, List.set_cons_succ, i64_w, i32_w]
                        rfl
                      refine pure_ (i := 13) (N := some 41) (v := ?_) (a' := ?_) #[true, true, false, false, true, true, false, false, true, true, false, false, true, true, false, false, false, false, false, false, false, false, false, false, false, false, false] rfl rfl (any_of HT_.out (by kernel_rfl)) (fun _ _ _ h => h) (Or.inl ⟨by rfl, ?_⟩) ?_ ?_
                      rotate_left
                      · intro w'
                        go_simp
                        with_reducible rfl
                      rotate_left
                      · simp only [Act.put, List.setIfInBounds_toArray, List.set_cons_zero, List.set_cons_succ, i64_w, i32_w]
                        rfl
                      refine pure_ (i := 16) (N := some 44) (v := ?_) (a' := ?_) #[true, true, false, false, true, true, false, false, true, true, false, false, true, true, false, false, true, false, false, false, false, false, false, false, false, false, false] rfl rfl (any_of HT_.out (by kernel_rfl)) (fun _ _ _ h => h) (Or.inl ⟨by rfl, ?_⟩) ?_ ?_
                      rotate_left
                      · intro w'
                        go_simp
                        with_reducible rfl
                      rotate_left
                      · simp only [Act.put, List.setIfInBounds_toArray, List.set_cons_zero, List.set_cons_succ, i64_w, i32_w]
                        rfl
                      refine pure_ (i := 17) (N := some 45) (v := ?_) (a' := ?_) #[true, true, false, false, true, true, false, false, true, true, false, false, true, true, false, false, true, true, false, false, false, false, false, false, false, false, false] rfl rfl (any_of HT_.out (by kernel_rfl)) (fun _ _ _ h => h) (Or.inl ⟨by rfl, ?_⟩) ?_ ?_
                      rotate_left
                      · intro w'
                        go_simp
                        with_reducible rfl
                      rotate_left
                      · simp only [Act.put, List.setIfInBounds_toArray, List.set_cons_zero, List.set_cons_succ, i64_w, i32_w]
                        rfl
                      refine pure_ (i := 20) (N := some 48) (v := ?_) (a' := ?_) #[true, true, false, false, true, true, false, false, true, true, false, false, true, true, false, false, true, true, false, false, true, false, false, false, false, false, false] rfl rfl (any_of HT_.out (by kernel_rfl)) (fun _ _ _ h => h) (Or.inl ⟨by rfl, ?_⟩) ?_ ?_
                      rotate_left
                      · intro w'
                        go_simp
                        with_reducible rfl
                      rotate_left
                      · simp only [Act.put, List.setIfInBounds_toArray, List.set_cons_zero, List.set_cons_succ, i64_w, i32_w]
                        rfl
                      refine pure_ (i := 21) (N := some 49) (v := ?_) (a' := ?_) #[true, true, false, false, true, true, false, false, true, true, false, false, true, true, false, false, true, true, false, false, true, true, false, false, false, false, false] rfl rfl (any_of HT_.out (by kernel_rfl)) (fun _ _ _ h => h) (Or.inl ⟨by rfl, ?_⟩) ?_ ?_
                      rotate_left
                      · intro w'
                        go_simp
                        with_reducible rfl
                      rotate_left
                      · simp only [Act.put, List.setIfInBounds_toArray, List.set_cons_zero, List.set_cons_succ, i64_w, i32_w]
                        rfl
                      refine take_ (i := 2) (N := some 30) (v := ?_) (a' := ?_) #[true, true, true, false, true, true, false, false, true, true, false, false, true, true, false, false, true, true, false, false, true, true, false, false, false, false, false] rfl rfl (take_ofW HT_.out HW_.out (by kernel_rfl)) (fun _ _ _ h => h) (Or.inl ⟨by rfl, ?_⟩) hHeld ?_ ?_
                      rotate_left
                      · rintro w' ⟨s0, s1, s2, s3, s4, s5⟩
                        go_simp
                        with_reducible rfl
                      rotate_left
                      · simp only [Act.put, List.setIfInBounds_toArray, List.set_cons_zero, List.set_cons_succ, i64_w, i32_w]
                        rfl
                      refine pure_ (i := 3) (N := some 31) (v := ?_) (a' := ?_) #[true, true, true, true, true, true, false, false, true, true, false, false, true, true, false, false, true, true, false, false, true, true, false, false, false, false, false] rfl rfl (any_of HT_.out (by kernel_rfl)) (fun _ _ _ h => h) (Or.inl ⟨by rfl, ?_⟩) ?_ ?_
                      rotate_left
                      · intro w'
                        go_simp
                        with_reducible rfl
                      rotate_left
                      · simp only [Act.put, List.setIfInBounds_toArray, List.set_cons_zero, List.set_cons_succ, i64_w, i32_w]
                        rfl
                      refine take_ (i := 6) (N := some 34) (v := ?_) (a' := ?_) #[true, true, true, true, true, true, true, false, true, true, false, false, true, true, false, false, true, true, false, false, true, true, false, false, false, false, false] rfl rfl (take_ofW HT_.out HW_.out (by kernel_rfl)) (fun _ _ _ h => h) (Or.inl ⟨by rfl, ?_⟩) hHeld ?_ ?_
                      rotate_left
                      · rintro w' ⟨s0, s1, s2, s3, s4, s5⟩
                        go_simp
                        with_reducible rfl
                      rotate_left
                      · simp only [Act.put, List.setIfInBounds_toArray, List.set_cons_zero, List.set_cons_succ, i64_w, i32_w]
                        rfl
                      refine pure_ (i := 7) (N := some 35) (v := ?_) (a' := ?_) #[true, true, true, true, true, true, true, true, true, true, false, false, true, true, false, false, true, true, false, false, true, true, false, false, false, false, false] rfl rfl (any_of HT_.out (by kernel_rfl)) (fun _ _ _ h => h) (Or.inl ⟨by rfl, ?_⟩) ?_ ?_
                      rotate_left
                      · intro w'
                        go_simp
                        with_reducible rfl
                      rotate_left
                      · simp only [Act.put, List.setIfInBounds_toArray, List.set_cons_zero, List.set_cons_succ, i64_w, i32_w]
                        rfl
                      refine take_ (i := 10) (N := some 38) (v := ?_) (a' := ?_) #[true, true, true, true, true, true, true, true, true, true, true, false, true, true, false, false, true, true, false, false, true, true, false, false, false, false, false] rfl rfl (take_ofW HT_.out HW_.out (by kernel_rfl)) (fun _ _ _ h => h) (Or.inl ⟨by rfl, ?_⟩) hHeld ?_ ?_
                      rotate_left
                      · rintro w' ⟨s0, s1, s2, s3, s4, s5⟩
                        go_simp
                        with_reducible rfl
                      rotate_left
                      · simp only [Act.put, List.setIfInBounds_toArray, List.set_cons_zero, List.set_cons_succ, i64_w, i32_w]
                        rfl
                      refine pure_ (i := 11) (N := some 39) (v := ?_) (a' := ?_) #[true, true, true, true, true, true, true, true, true, true, true, true, true, true, false, false, true, true, false, false, true, true, false, false, false, false, false] rfl rfl (any_of HT_.out (by kernel_rfl)) (fun _ _ _ h => h) (Or.inl ⟨by rfl, ?_⟩) ?_ ?_
                      rotate_left
                      · intro w'
                        go_simp
                        with_reducible rfl
                      rotate_left
                      · simp only [Act.put, List.setIfInBounds_toArray, List.set_cons_zero, List.set_cons_succ, i64_w, i32_w]
                        rfl
                      refine take_ (i := 14) (N := some 42) (v := ?_) (a' := ?_) #[true, true, true, true, true, true, true, true, true, true, true, true, true, true, true, false, true, true, false, false, true, true, false, false, false, false, false] rfl rfl (take_ofW HT_.out HW_.out (by kernel_rfl)) (fun _ _ _ h => h) (Or.inl ⟨by rfl, ?_⟩) hHeld ?_ ?_
                      rotate_left
                      · rintro w' ⟨s0, s1, s2, s3, s4, s5⟩
                        go_simp
                        with_reducible rfl
                      rotate_left
                      · simp only [Act.put, List.setIfInBounds_toArray, List.set_cons_zero, List.set_cons_succ, i64_w, i32_w]
                        rfl
                      refine pure_ (i := 15) (N := some 43) (v := ?_) (a' := ?_) #[true, true, true, true, true, true, true, true, true, true, true, true, true, true, true, true, true, true, false, false, true, true, false, false, false, false, false] rfl rfl (any_of HT_.out (by kernel_rfl)) (fun _ _ _ h => h) (Or.inl ⟨by rfl, ?_⟩) ?_ ?_
                      rotate_left
                      · intro w'
                        go_simp
                        with_reducible rfl
                      rotate_left
                      · simp only [Act.put, List.setIfInBounds_toArray, List.set_cons_zero, List.set_cons_succ, i64_w, i32_w]
                        rfl
                      refine take_ (i := 18) (N := some 46) (v := ?_) (a' := ?_) #[true, true, true, true, true, true, true, true, true, true, true, true, true, true, true, true, true, true, true, false, true, true, false, false, false, false, false] rfl rfl (take_ofW HT_.out HW_.out (by kernel_rfl)) (fun _ _ _ h => h) (Or.inl ⟨by rfl, ?_⟩) hHeld ?_ ?_
                      rotate_left
                      · rintro w' ⟨s0, s1, s2, s3, s4, s5⟩
                        go_simp
                        with_reducible rfl
                      rotate_left
                      · simp only [Act.put, List.setIfInBounds_toArray, List.set_cons_zero, List.set_cons_succ, i64_w, i32_w]
                        rfl
                      refine pure_ (i := 19) (N := some 47) (v := ?_) (a' := ?_) #[true, true, true, true, true, true, true, true, true, true, true, true, true, true, true, true, true, true, true, true, true, true, false, false, false, false, false] rfl rfl (any_of HT_.out (by kernel_rfl)) (fun _ _ _ h => h) (Or.inl ⟨by rfl, ?_⟩) ?_ ?_
                      rotate_left
                      · intro w'
                        go_simp
                        with_reducible rfl
                      rotate_left
                      · simp only [Act.put, List.setIfInBounds_toArray, List.set_cons_zero, List.set_cons_succ, i64_w, i32_w]
                        rfl
                      refine take_ (i := 22) (N := some 50) (v := ?_) (a' := ?_) #[true, true, true, true, true, true, true, true, true, true, true, true, true, true, true, true, true, true, true, true, true, true, true, false, false, false, false] rfl rfl (take_ofW HT_.out HW_.out (by kernel_rfl)) (fun _ _ _ h => h) (Or.inl ⟨by rfl, ?_⟩) hHeld ?_ ?_
                      rotate_left
                      · rintro w' ⟨s0, s1, s2, s3, s4, s5⟩
                        go_simp
                        with_reducible rfl
                      rotate_left
                      · simp only [Act.put, List.setIfInBounds_toArray, List.set_cons_zero, List.set_cons_succ, i64_w, i32_w]
                        rfl
                      refine pure_ (i := 23) (N := some 51) (v := ?_) (a' := ?_) #[true, true, true, true, true, true, true, true, true, true, true, true, true, true, true, true, true, true, true, true, true, true, true, true, false, false, false] rfl rfl (any_of HT_.out (by kernel_rfl)) (fun _ _ _ h => h) (Or.inl ⟨by rfl, ?_⟩) ?_ ?_
                      rotate_left
                      · intro w'
                        go_simp
                        with_reducible rfl
                      rotate_left
                      · simp only [Act.put, List.setIfInBounds_toArray, List.set_cons_zero, List.set_cons_succ, i64_w, i32_w]
                        rfl
                      refine pure_ (i := 24) (N := some 52) (v := ?_) (a' := ?_) #[true, true, true, true, true, true, true, true, true, true, true, true, true, true, true, true, true, true, true, true, true, true, true, true, true, false, false] rfl rfl (any_of HT_.out (by kernel_rfl)) (fun _ _ _ h => h) (Or.inl ⟨by rfl, ?_⟩) ?_ ?_
                      rotate_left
                      · intro w'
                        go_simp
                        with_reducible rfl
                      rotate_left
                      · simp only [Act.put, List.setIfInBounds_toArray, List.set_cons_zero, List.set_cons_succ, i64_w, i32_w]
                        rfl
                      refine one_ (i := 25) (N := none) #[true, true, true, true, true, true, true, true, true, true, true, true, true, true, true, true, true, true, true, true, true, true, true, true, true, true, false] rfl rfl (one_of HT_.out (by kernel_rfl)) (by decide) (fun K hK => ?_)
                      have hs34 : w33.cell? ⟨gb223, 0, none⟩ = some (.int .i64 0) := (blk_cell BK223.out 0).trans rfl
                      have hfs34 := blk_frozen BK223.out 0
                      have hs35 : w33.cell? ⟨gb223, 1, none⟩ = some (.int .i64 0) := (blk_cell BK223.out 1).trans rfl
                      have hfs35 := blk_frozen BK223.out 1
                      have hs36 : w33.cell? ⟨gb223, 2, none⟩ = some (.bool false) := (blk_cell BK223.out 2).trans rfl
                      have hfs36 := blk_frozen BK223.out 2
                      have hs37 : w33.cell? ⟨gb223, 3, none⟩ = some (.int .i64 0) := (blk_cell BK223.out 3).trans rfl
                      have hfs37 := blk_frozen BK223.out 3
                      have hs38 : w33.cell? ⟨gb223, 4, none⟩ = some (.int .i64 0) := (blk_cell BK223.out 4).trans rfl
                      have hfs38 := blk_frozen BK223.out 4
                      have hs39 : w33.cell? ⟨gb223, 5, none⟩ = some (.int .i64 0) := (blk_cell BK223.out 5).trans rfl
                      have hfs39 := blk_frozen BK223.out 5
                      refine skip_ (w1 := ?_) (by rfl) rfl ?_ ?_
                      rotate_left
                      · go_simp
                        rfl
                      refine hK.out _ _ ⟨((cell_far (p := ⟨gb223, _, none⟩) (by first | exact Kd.own_blk (Kd.R_ne HO230.out BK223.out (by decide)) | (rw [add_block]; exact Kd.own_blk (Kd.R_ne HO230.out BK223.out (by decide))) | (show (Addr.add _ _).block ≠ _; rw [add_block]; exact Kd.own_blk (Kd.R_ne HO230.out BK223.out (by decide))) | (dsimp only; exact Kd.own_blk (Kd.R_ne HO230.out BK223.out (by decide)))) _).trans (((cell_far (p := ⟨gb223, _, none⟩) (by first | exact Kd.own_blk (Kd.R_ne HO230.out BK223.out (by decide)) | (rw [add_block]; exact Kd.own_blk (Kd.R_ne HO230.out BK223.out (by decide))) | (show (Addr.add _ _).block ≠ _; rw [add_block]; exact Kd.own_blk (Kd.R_ne HO230.out BK223.out (by decide))) | (dsimp only; exact Kd.own_blk (Kd.R_ne HO230.out BK223.out (by decide)))) _).trans (((cell_far (p := ⟨gb223, _, none⟩) (by first | exact Kd.own_blk (Kd.R_ne HO230.out BK223.out (by decide)) | (rw [add_block]; exact Kd.own_blk (Kd.R_ne HO230.out BK223.out (by decide))) | (show (Addr.add _ _).block ≠ _; rw [add_block]; exact Kd.own_blk (Kd.R_ne HO230.out BK223.out (by decide))) | (dsimp only; exact Kd.own_blk (Kd.R_ne HO230.out BK223.out (by decide)))) _).trans (((cell_far (p := ⟨gb223, _, none⟩) (by first | exact Kd.own_blk (Kd.R_ne HO230.out BK223.out (by decide)) | (rw [add_block]; exact Kd.own_blk (Kd.R_ne HO230.out BK223.out (by decide))) | (show (Addr.add _ _).block ≠ _; rw [add_block]; exact Kd.own_blk (Kd.R_ne HO230.out BK223.out (by decide))) | (dsimp only; exact Kd.own_blk (Kd.R_ne HO230.out BK223.out (by decide)))) _).trans (((cell_far (p := ⟨gb223, _, none⟩) (by first | exact Kd.own_blk (Kd.R_ne HO230.out BK223.out (by decide)) | (rw [add_block]; exact Kd.own_blk (Kd.R_ne HO230.out BK223.out (by decide))) | (show (Addr.add _ _).block ≠ _; rw [add_block]; exact Kd.own_blk (Kd.R_ne HO230.out BK223.out (by decide))) | (dsimp only; exact Kd.own_blk (Kd.R_ne HO230.out BK223.out (by decide)))) _).trans (((cell_far (p := ⟨gb223, _, none⟩) (by first | exact Kd.own_blk (Kd.R_ne HO230.out BK223.out (by decide)) | (rw [add_block]; exact Kd.own_blk (Kd.R_ne HO230.out BK223.out (by decide))) | (show (Addr.add _ _).block ≠ _; rw [add_block]; exact Kd.own_blk (Kd.R_ne HO230.out BK223.out (by decide))) | (dsimp only; exact Kd.own_blk (Kd.R_ne HO230.out BK223.out (by decide)))) _).trans (hHeld.1)))))))))))), ((cell_far (p := ⟨gb223, _, none⟩) (by first | exact Kd.own_blk (Kd.R_ne HO230.out BK223.out (by decide)) | (rw [add_block]; exact Kd.own_blk (Kd.R_ne HO230.out BK223.out (by decide))) | (show (Addr.add _ _).block ≠ _; rw [add_block]; exact Kd.own_blk (Kd.R_ne HO230.out BK223.out (by decide))) | (dsimp only; exact Kd.own_blk (Kd.R_ne HO230.out BK223.out (by decide)))) _).trans (((cell_far (p := ⟨gb223, _, none⟩) (by first | exact Kd.own_blk (Kd.R_ne HO230.out BK223.out (by decide)) | (rw [add_block]; exact Kd.own_blk (Kd.R_ne HO230.out BK223.out (by decide))) | (show (Addr.add _ _).block ≠ _; rw [add_block]; exact Kd.own_blk (Kd.R_ne HO230.out BK223.out (by decide))) | (dsimp only; exact Kd.own_blk (Kd.R_ne HO230.out BK223.out (by decide)))) _).trans (((cell_far (p := ⟨gb223, _, none⟩) (by first | exact Kd.own_blk (Kd.R_ne HO230.out BK223.out (by decide)) | (rw [add_block]; exact Kd.own_blk (Kd.R_ne HO230.out BK223.out (by decide))) | (show (Addr.add _ _).block ≠ _; rw [add_block]; exact Kd.own_blk (Kd.R_ne HO230.out BK223.out (by decide))) | (dsimp only; exact Kd.own_blk (Kd.R_ne HO230.out BK223.out (by decide)))) _).trans (((cell_far (p := ⟨gb223, _, none⟩) (by first | exact Kd.own_blk (Kd.R_ne HO230.out BK223.out (by decide)) | (rw [add_block]; exact Kd.own_blk (Kd.R_ne HO230.out BK223.out (by decide))) | (show (Addr.add _ _).block ≠ _; rw [add_block]; exact Kd.own_blk (Kd.R_ne HO230.out BK223.out (by decide))) | (dsimp only; exact Kd.own_blk (Kd.R_ne HO230.out BK223.out (by decide)))) _).trans (((cell_far (p := ⟨gb223, _, none⟩) (by first | exact Kd.own_blk (Kd.R_ne HO230.out BK223.out (by decide)) | (rw [add_block]; exact Kd.own_blk (Kd.R_ne HO230.out BK223.out (by decide))) | (show (Addr.add _ _).block ≠ _; rw [add_block]; exact Kd.own_blk (Kd.R_ne HO230.out BK223.out (by decide))) | (dsimp only; exact Kd.own_blk (Kd.R_ne HO230.out BK223.out (by decide)))) _).trans (((cell_far (p := ⟨gb223, _, none⟩) (by first | exact Kd.own_blk (Kd.R_ne HO230.out BK223.out (by decide)) | (rw [add_block]; exact Kd.own_blk (Kd.R_ne HO230.out BK223.out (by decide))) | (show (Addr.add _ _).block ≠ _; rw [add_block]; exact Kd.own_blk (Kd.R_ne HO230.out BK223.out (by decide))) | (dsimp only; exact Kd.own_blk (Kd.R_ne HO230.out BK223.out (by decide)))) _).trans (hHeld.2.1)))))))))))), ((cell_far (p := ⟨gb223, _, none⟩) (by first | exact Kd.own_blk (Kd.R_ne HO230.out BK223.out (by decide)) | (rw [add_block]; exact Kd.own_blk (Kd.R_ne HO230.out BK223.out (by decide))) | (show (Addr.add _ _).block ≠ _; rw [add_block]; exact Kd.own_blk (Kd.R_ne HO230.out BK223.out (by decide))) | (dsimp only; exact Kd.own_blk (Kd.R_ne HO230.out BK223.out (by decide)))) _).trans (((cell_far (p := ⟨gb223, _, none⟩) (by first | exact Kd.own_blk (Kd.R_ne HO230.out BK223.out (by decide)) | (rw [add_block]; exact Kd.own_blk (Kd.R_ne HO230.out BK223.out (by decide))) | (show (Addr.add _ _).block ≠ _; rw [add_block]; exact Kd.own_blk (Kd.R_ne HO230.out BK223.out (by decide))) | (dsimp only; exact Kd.own_blk (Kd.R_ne HO230.out BK223.out (by decide)))) _).trans (((cell_far (p := ⟨gb223, _, none⟩) (by first | exact Kd.own_blk (Kd.R_ne HO230.out BK223.out (by decide)) | (rw [add_block]; exact Kd.own_blk (Kd.R_ne HO230.out BK223.out (by decide))) | (show (Addr.add _ _).block ≠ _; rw [add_block]; exact Kd.own_blk (Kd.R_ne HO230.out BK223.out (by decide))) | (dsimp only; exact Kd.own_blk (Kd.R_ne HO230.out BK223.out (by decide)))) _).trans (((cell_far (p := ⟨gb223, _, none⟩) (by first | exact Kd.own_blk (Kd.R_ne HO230.out BK223.out (by decide)) | (rw [add_block]; exact Kd.own_blk (Kd.R_ne HO230.out BK223.out (by decide))) | (show (Addr.add _ _).block ≠ _; rw [add_block]; exact Kd.own_blk (Kd.R_ne HO230.out BK223.out (by decide))) | (dsimp only; exact Kd.own_blk (Kd.R_ne HO230.out BK223.out (by decide)))) _).trans (((cell_far (p := ⟨gb223, _, none⟩) (by first | exact Kd.own_blk (Kd.R_ne HO230.out BK223.out (by decide)) | (rw [add_block]; exact Kd.own_blk (Kd.R_ne HO230.out BK223.out (by decide))) | (show (Addr.add _ _).block ≠ _; rw [add_block]; exact Kd.own_blk (Kd.R_ne HO230.out BK223.out (by decide))) | (dsimp only; exact Kd.own_blk (Kd.R_ne HO230.out BK223.out (by decide)))) _).trans (((cell_far (p := ⟨gb223, _, none⟩) (by first | exact Kd.own_blk (Kd.R_ne HO230.out BK223.out (by decide)) | (rw [add_block]; exact Kd.own_blk (Kd.R_ne HO230.out BK223.out (by decide))) | (show (Addr.add _ _).block ≠ _; rw [add_block]; exact Kd.own_blk (Kd.R_ne HO230.out BK223.out (by decide))) | (dsimp only; exact Kd.own_blk (Kd.R_ne HO230.out BK223.out (by decide)))) _).trans (hHeld.2.2.1)))))))))))), ((cell_far (p := ⟨gb223, _, none⟩) (by first | exact Kd.own_blk (Kd.R_ne HO230.out BK223.out (by decide)) | (rw [add_block]; exact Kd.own_blk (Kd.R_ne HO230.out BK223.out (by decide))) | (show (Addr.add _ _).block ≠ _; rw [add_block]; exact Kd.own_blk (Kd.R_ne HO230.out BK223.out (by decide))) | (dsimp only; exact Kd.own_blk (Kd.R_ne HO230.out BK223.out (by decide)))) _).trans (((cell_far (p := ⟨gb223, _, none⟩) (by first | exact Kd.own_blk (Kd.R_ne HO230.out BK223.out (by decide)) | (rw [add_block]; exact Kd.own_blk (Kd.R_ne HO230.out BK223.out (by decide))) | (show (Addr.add _ _).block ≠ _; rw [add_block]; exact Kd.own_blk (Kd.R_ne HO230.out BK223.out (by decide))) | (dsimp only; exact Kd.own_blk (Kd.R_ne HO230.out BK223.out (by decide)))) _).trans (((cell_far (p := ⟨gb223, _, none⟩) (by first | exact Kd.own_blk (Kd.R_ne HO230.out BK223.out (by decide)) | (rw [add_block]; exact Kd.own_blk (Kd.R_ne HO230.out BK223.out (by decide))) | (show (Addr.add _ _).block ≠ _; rw [add_block]; exact Kd.own_blk (Kd.R_ne HO230.out BK223.out (by decide))) | (dsimp only; exact Kd.own_blk (Kd.R_ne HO230.out BK223.out (by decide)))) _).trans (((cell_far (p := ⟨gb223, _, none⟩) (by first | exact Kd.own_blk (Kd.R_ne HO230.out BK223.out (by decide)) | (rw [add_block]; exact Kd.own_blk (Kd.R_ne HO230.out BK223.out (by decide))) | (show (Addr.add _ _).block ≠ _; rw [add_block]; exact Kd.own_blk (Kd.R_ne HO230.out BK223.out (by decide))) | (dsimp only; exact Kd.own_blk (Kd.R_ne HO230.out BK223.out (by decide)))) _).trans (((cell_far (p := ⟨gb223, _, none⟩) (by first | exact Kd.own_blk (Kd.R_ne HO230.out BK223.out (by decide)) | (rw [add_block]; exact Kd.own_blk (Kd.R_ne HO230.out BK223.out (by decide))) | (show (Addr.add _ _).block ≠ _; rw [add_block]; exact Kd.own_blk (Kd.R_ne HO230.out BK223.out (by decide))) | (dsimp only; exact Kd.own_blk (Kd.R_ne HO230.out BK223.out (by decide)))) _).trans (((cell_far (p := ⟨gb223, _, none⟩) (by first | exact Kd.own_blk (Kd.R_ne HO230.out BK223.out (by decide)) | (rw [add_block]; exact Kd.own_blk (Kd.R_ne HO230.out BK223.out (by decide))) | (show (Addr.add _ _).block ≠ _; rw [add_block]; exact Kd.own_blk (Kd.R_ne HO230.out BK223.out (by decide))) | (dsimp only; exact Kd.own_blk (Kd.R_ne HO230.out BK223.out (by decide)))) _).trans (hHeld.2.2.2.1)))))))))))), ((cell_far (p := ⟨gb223, _, none⟩) (by first | exact Kd.own_blk (Kd.R_ne HO230.out BK223.out (by decide)) | (rw [add_block]; exact Kd.own_blk (Kd.R_ne HO230.out BK223.out (by decide))) | (show (Addr.add _ _).block ≠ _; rw [add_block]; exact Kd.own_blk (Kd.R_ne HO230.out BK223.out (by decide))) | (dsimp only; exact Kd.own_blk (Kd.R_ne HO230.out BK223.out (by decide)))) _).trans (((cell_far (p := ⟨gb223, _, none⟩) (by first | exact Kd.own_blk (Kd.R_ne HO230.out BK223.out (by decide)) | (rw [add_block]; exact Kd.own_blk (Kd.R_ne HO230.out BK223.out (by decide))) | (show (Addr.add _ _).block ≠ _; rw [add_block]; exact Kd.own_blk (Kd.R_ne HO230.out BK223.out (by decide))) | (dsimp only; exact Kd.own_blk (Kd.R_ne HO230.out BK223.out (by decide)))) _).trans (((cell_far (p := ⟨gb223, _, none⟩) (by first | exact Kd.own_blk (Kd.R_ne HO230.out BK223.out (by decide)) | (rw [add_block]; exact Kd.own_blk (Kd.R_ne HO230.out BK223.out (by decide))) | (show (Addr.add _ _).block ≠ _; rw [add_block]; exact Kd.own_blk (Kd.R_ne HO230.out BK223.out (by decide))) | (dsimp only; exact Kd.own_blk (Kd.R_ne HO230.out BK223.out (by decide)))) _).trans (((cell_far (p := ⟨gb223, _, none⟩) (by first | exact Kd.own_blk (Kd.R_ne HO230.out BK223.out (by decide)) | (rw [add_block]; exact Kd.own_blk (Kd.R_ne HO230.out BK223.out (by decide))) | (show (Addr.add _ _).block ≠ _; rw [add_block]; exact Kd.own_blk (Kd.R_ne HO230.out BK223.out (by decide))) | (dsimp only; exact Kd.own_blk (Kd.R_ne HO230.out BK223.out (by decide)))) _).trans (((cell_far (p := ⟨gb223, _, none⟩) (by first | exact Kd.own_blk (Kd.R_ne HO230.out BK223.out (by decide)) | (rw [add_block]; exact Kd.own_blk (Kd.R_ne HO230.out BK223.out (by decide))) | (show (Addr.add _ _).block ≠ _; rw [add_block]; exact Kd.own_blk (Kd.R_ne HO230.out BK223.out (by decide))) | (dsimp only; exact Kd.own_blk (Kd.R_ne HO230.out BK223.out (by decide)))) _).trans (((cell_far (p := ⟨gb223, _, none⟩) (by first | exact Kd.own_blk (Kd.R_ne HO230.out BK223.out (by decide)) | (rw [add_block]; exact Kd.own_blk (Kd.R_ne HO230.out BK223.out (by decide))) | (show (Addr.add _ _).block ≠ _; rw [add_block]; exact Kd.own_blk (Kd.R_ne HO230.out BK223.out (by decide))) | (dsimp only; exact Kd.own_blk (Kd.R_ne HO230.out BK223.out (by decide)))) _).trans (hHeld.2.2.2.2.1)))))))))))), ((cell_far (p := ⟨gb223, _, none⟩) (by first | exact Kd.own_blk (Kd.R_ne HO230.out BK223.out (by decide)) | (rw [add_block]; exact Kd.own_blk (Kd.R_ne HO230.out BK223.out (by decide))) | (show (Addr.add _ _).block ≠ _; rw [add_block]; exact Kd.own_blk (Kd.R_ne HO230.out BK223.out (by decide))) | (dsimp only; exact Kd.own_blk (Kd.R_ne HO230.out BK223.out (by decide)))) _).trans (((cell_far (p := ⟨gb223, _, none⟩) (by first | exact Kd.own_blk (Kd.R_ne HO230.out BK223.out (by decide)) | (rw [add_block]; exact Kd.own_blk (Kd.R_ne HO230.out BK223.out (by decide))) | (show (Addr.add _ _).block ≠ _; rw [add_block]; exact Kd.own_blk (Kd.R_ne HO230.out BK223.out (by decide))) | (dsimp only; exact Kd.own_blk (Kd.R_ne HO230.out BK223.out (by decide)))) _).trans (((cell_far (p := ⟨gb223, _, none⟩) (by first | exact Kd.own_blk (Kd.R_ne HO230.out BK223.out (by decide)) | (rw [add_block]; exact Kd.own_blk (Kd.R_ne HO230.out BK223.out (by decide))) | (show (Addr.add _ _).block ≠ _; rw [add_block]; exact Kd.own_blk (Kd.R_ne HO230.out BK223.out (by decide))) | (dsimp only; exact Kd.own_blk (Kd.R_ne HO230.out BK223.out (by decide)))) _).trans (((cell_far (p := ⟨gb223, _, none⟩) (by first | exact Kd.own_blk (Kd.R_ne HO230.out BK223.out (by decide)) | (rw [add_block]; exact Kd.own_blk (Kd.R_ne HO230.out BK223.out (by decide))) | (show (Addr.add _ _).block ≠ _; rw [add_block]; exact Kd.own_blk (Kd.R_ne HO230.out BK223.out (by decide))) | (dsimp only; exact Kd.own_blk (Kd.R_ne HO230.out BK223.out (by decide)))) _).trans (((cell_far (p := ⟨gb223, _, none⟩) (by first | exact Kd.own_blk (Kd.R_ne HO230.out BK223.out (by decide)) | (rw [add_block]; exact Kd.own_blk (Kd.R_ne HO230.out BK223.out (by decide))) | (show (Addr.add _ _).block ≠ _; rw [add_block]; exact Kd.own_blk (Kd.R_ne HO230.out BK223.out (by decide))) | (dsimp only; exact Kd.own_blk (Kd.R_ne HO230.out BK223.out (by decide)))) _).trans (((cell_far (p := ⟨gb223, _, none⟩) (by first | exact Kd.own_blk (Kd.R_ne HO230.out BK223.out (by decide)) | (rw [add_block]; exact Kd.own_blk (Kd.R_ne HO230.out BK223.out (by decide))) | (show (Addr.add _ _).block ≠ _; rw [add_block]; exact Kd.own_blk (Kd.R_ne HO230.out BK223.out (by decide))) | (dsimp only; exact Kd.own_blk (Kd.R_ne HO230.out BK223.out (by decide)))) _).trans (hHeld.2.2.2.2.2))))))))))))⟩ (fun hHeld => ?_)
                      clear hK K
                      refine pure_ (i := 26) (N := some 3) (v := ?_) (a' := ?_) #[true, true, true, true, true, true, true, true, true, true, true, true, true, true, true, true, true, true, true, true, true, true, true, true, true, true, true] rfl rfl (any_of HT_.out (by kernel_rfl)) (fun _ _ _ h => h) (Or.inl ⟨by rfl, ?_⟩) ?_ ?_
                      rotate_left
                      · intro w'
                        go_simp
                        with_reducible rfl
                      rotate_left
                      · simp only [Act.put, List.setIfInBounds_toArray, List.set_cons_zero, List.set_cons_succ, i64_w, i32_w]
                        rfl
                      refine done_ (done_of HT_.out (by kernel_rfl)) ?_
                      try go_wp2
                      refine bodyPost_ret (results_ct rfl _ _ gb223 85 #[.int .i64 (wrap64 (rd t227 0)), .int .i64 (wrap64 (rd t227 1)), .bool ((rd t227 2) == 1), .int .i64 (wrap64 (rd t227 3)), .int .i64 (wrap64 (rd t227 5)), .int .i64 (wrap64 (rd t227 6))] (0, 0) _ rfl (by (with_reducible repeat (first | refine blk_drewN ?_ _ | refine blk_drew ?_ | refine blk_alloc ?_ _)); refine blk_put (cs := #[.int .i64 (wrap64 (rd t227 0)), .int .i64 (wrap64 (rd t227 1)), .bool ((rd t227 2) == 1), .int .i64 (wrap64 (rd t227 3)), .int .i64 (wrap64 (rd t227 5)), .int .i64 0]) ?_ 5 _ rfl; (with_reducible repeat (first | refine blk_drewN ?_ _ | refine blk_drew ?_ | refine blk_alloc ?_ _)); refine blk_put (cs := #[.int .i64 (wrap64 (rd t227 0)), .int .i64 (wrap64 (rd t227 1)), .bool ((rd t227 2) == 1), .int .i64 (wrap64 (rd t227 3)), .int .i64 0, .int .i64 0]) ?_ 4 _ rfl; (with_reducible repeat (first | refine blk_drewN ?_ _ | refine blk_drew ?_ | refine blk_alloc ?_ _)); refine blk_put (cs := #[.int .i64 (wrap64 (rd t227 0)), .int .i64 (wrap64 (rd t227 1)), .bool ((rd t227 2) == 1), .int .i64 0, .int .i64 0, .int .i64 0]) ?_ 3 _ rfl; (with_reducible repeat (first | refine blk_drewN ?_ _ | refine blk_drew ?_ | refine blk_alloc ?_ _)); refine blk_put (cs := #[.int .i64 (wrap64 (rd t227 0)), .int .i64 (wrap64 (rd t227 1)), .bool false, .int .i64 0, .int .i64 0, .int .i64 0]) ?_ 2 _ rfl; (with_reducible repeat (first | refine blk_drewN ?_ _ | refine blk_drew ?_ | refine blk_alloc ?_ _)); refine blk_put (cs := #[.int .i64 (wrap64 (rd t227 0)), .int .i64 0, .bool false, .int .i64 0, .int .i64 0, .int .i64 0]) ?_ 1 _ rfl; (with_reducible repeat (first | refine blk_drewN ?_ _ | refine blk_drew ?_ | refine blk_alloc ?_ _)); refine blk_put (cs := #[.int .i64 0, .int .i64 0, .bool false, .int .i64 0, .int .i64 0, .int .i64 0]) ?_ 0 _ rfl; (with_reducible repeat (first | refine blk_drewN ?_ _ | refine blk_drew ?_ | refine blk_alloc ?_ _)); exact BK223.out) Try.underlying85 rfl (by kernel_rfl)) rfl ?_
                      exact ⟨by first | rfl | (simp [errW_none, errW_some] <;> rfl) | (simp [*, errW_none, errW_some] <;> rfl), by repeat (first | (with_reducible first | exact HB.out | apply below_alloc | apply pw_below_drewN | apply below_drew1 | refine below_set ?_ GE223.out) | exact HB.out)⟩
                    · rw [if_neg c26] at H
                      exact absurd H (by simp)
                  · rw [if_neg c25] at H
                    exact absurd H (by simp)
                · rw [if_neg c24] at H
                  exact absurd H (by simp)
              · rw [if_neg c23] at H
                exact absurd H (by simp)
            · rw [if_neg c22] at H
              exact absurd H (by simp)
          · rw [if_neg c21] at H
            have c21b0 : ((rd t227 4) == 0) = false := beq_eq_false_iff_ne.mpr c21
            have c21b1 : ((rd t227 4) != 0) = true := bne_iff_ne.mpr c21
            simp only [Option.some.injEq, Prod.mk.injEq] at H
            obtain ⟨rfl, rfl, rfl, rfl, rfl, rfl, rfl⟩ := H
            go_enter Try.func86, Try.ntmps86
            go_wp2_with (first | ((with_reducible refine gate_dst (N := 2) rfl ?_); refine box_event ?hg (N := 2) ?hd (cs := #[.int .i64 0, .int .i64 0, .bool false, .int .i64 0, .int .i64 0, .int .i64 0]) (t := 85) ?hr ?_; (case hd => rfl); (case hg => rfl); (case hr => first | (go_simp; done) | (go_simp; rfl)); intro gb223 hg w40 hbox hb; have n0_ := Aside0.mk (below_step (by repeat (first | (with_reducible first | exact HB.out | apply below_alloc | apply pw_below_drewN | apply below_drew1) | exact HB.out)) hb); have n1_ := Aside0.mk (hbox); have n2_ := Aside0.mk ((by rw [hg]; exact (below_size (by repeat (first | (with_reducible first | exact HB.out | apply below_alloc | apply pw_below_drewN | apply below_drew1) | exact HB.out))) : w.heap.size ≤ gb223)); have n3_ := Aside0.mk ((by rw [hg]; exact (below_size (by repeat (first | (with_reducible first | exact HB.out | apply below_alloc | apply pw_below_drewN | apply below_drew1) | exact HB.out))) : w.heap.size ≤ gb223)); clear HB; have HB := n0_; have BK223 := n1_; have GW223 := n2_; have GE223 := n3_; clear n0_ n1_ n2_ n3_; clear hb hbox hg) | ((with_reducible refine gate_dst (N := 8) rfl ?_); refine Kd.R_lit (Kd.int .i64) _ 3 ?hg (N := 8) ?hd (xs := ([3, 1, 1, 4, 7, 32, 16] : List Int)) (inner := [.int .i64 3, .int .i64 1, .int .i64 1, .int .i64 4, .int .i64 7, .int .i64 32, .int .i64 16]) (ok := fun _ => True) (okp := fun _ => True) ?hr ?hp (fun _ hk => hk) trivial (Below.refl _ _) (Nat.le_refl _) (by simp) ?_; (case hd => rfl); (case hg => rfl); (case hr => first | (go_simp; done) | (go_simp; rfl)); (case hp => exact (Reps.one (show Kd.M (Kd.int .i64) _ _ _ 3 [.int .i64 3] from rfl) (Reps.one (show Kd.M (Kd.int .i64) _ _ _ 1 [.int .i64 1] from rfl) (Reps.one (show Kd.M (Kd.int .i64) _ _ _ 1 [.int .i64 1] from rfl) (Reps.one (show Kd.M (Kd.int .i64) _ _ _ 4 [.int .i64 4] from rfl) (Reps.one (show Kd.M (Kd.int .i64) _ _ _ 7 [.int .i64 7] from rfl) (Reps.one (show Kd.M (Kd.int .i64) _ _ _ 32 [.int .i64 32] from rfl) (Reps.one (show Kd.M (Kd.int .i64) _ _ _ 16 [.int .i64 16] from rfl) (Reps.none _ _))))))))); intro v225 w41 ho42 hb hg_ hnew_; clear hg_ hnew_; (first | rw [← Ny224.out] at ho42 | (simp only [Int.reduceToNat] at ho42; rw [← Ny224.out] at ho42)); have n0_ := Aside0.mk (Kd.R_lower ho42 (below_size (by repeat (first | (with_reducible first | exact HB.out | apply below_alloc | apply pw_below_drewN | apply below_drew1 | refine below_set ?_ GE223.out) | exact HB.out)))); have n1_ := Aside0.mk (blk_below (g := gb223) (o := .cells #[.int .i64 0, .int .i64 0, .bool false, .int .i64 0, .int .i64 0, .int .i64 0] 85 (0, 0)) (by (with_reducible repeat (first | refine blk_drewN ?_ _ | refine blk_drew ?_ | refine blk_alloc ?_ _)); exact BK223.out) hb); have n2_ := Aside0.mk (below_step (by repeat (first | (with_reducible first | exact HB.out | apply below_alloc | apply pw_below_drewN | apply below_drew1 | refine below_set ?_ GE223.out) | exact HB.out)) hb); clear BK223; clear HB; have HO226 := n0_; have BK223 := n1_; have HB := n2_; clear n0_ n1_ n2_; clear hb ho42; obtain ⟨Ao43, co43, eo43⟩ := Kd.R_slice HO226.out; subst eo43) | ((with_reducible refine gate_callee (f := 99) rfl ?_); refine goesL_ (some 9) rfl rfl Try.func99 (by kernel_rfl) rfl #[.int .u64 a0, .slice Ao43 y224.length co43] rfl (by (try simp only [List.map_toArray, List.map_cons, List.map_nil]); first | done | rfl | (simp only [List.length_drop, List.length_take]; rfl)) ?_; (with_reducible refine (word_Unpack.calls k a0 _ _ y224 t227 t228 _ ?side1 ?side2 A2.out).mono ?_); (case side1 => repeat (first | exact (Kd.R_reads' HO226.out).2.2 | (with_reducible refine Kd.C_alloc ?_ _) | (with_reducible refine Kd.C_drewN ?_ _) | (with_reducible refine Kd.C_drew ?_))); (case side2 => exact (Kd.R_reads' HO226.out).2.1); rintro e w44 ⟨v229, rfl, ho0, hb⟩; refine ⟨_, rfl, ?_⟩; have n0_ := Aside0.mk (Kd.R_below (by (with_reducible repeat (first | apply Kd.R_alloc | apply Kd.R_drewN | apply Kd.R_drew)); exact HO226.out) hb); have n1_ := Aside0.mk (Kd.R_lower ho0 (below_size (by repeat (first | (with_reducible first | exact HB.out | apply below_alloc | apply pw_below_drewN | apply below_drew1 | refine below_set ?_ GE223.out) | exact HB.out)))); have n2_ := Aside0.mk (blk_below (g := gb223) (o := .cells #[.int .i64 0, .int .i64 0, .bool false, .int .i64 0, .int .i64 0, .int .i64 0] 85 (0, 0)) (by (with_reducible repeat (first | refine blk_drewN ?_ _ | refine blk_drew ?_ | refine blk_alloc ?_ _)); exact BK223.out) hb); have n3_ := Aside0.mk (below_step (by repeat (first | (with_reducible first | exact HB.out | apply below_alloc | apply pw_below_drewN | apply below_drew1 | refine below_set ?_ GE223.out) | exact HB.out)) hb); clear HO226; clear BK223; clear HB; have HO226 := n0_; have HO230 := n1_; have BK223 := n2_; have HB := n3_; clear n0_ n1_ n2_ n3_; (try clear hb); (try clear hb2); (try clear hk); (try clear hi); (try clear ho0); obtain ⟨Ao45, co45, eo45⟩ := Kd.R_slice HO230.out; subst eo45; have p231 : 0 ≤ (0 : Int) := (by omega); have q231 : 0 < (t227.length : Int) := of_decide_eq_true (by first | (with_reducible assumption) | assumption); obtain ⟨ad231, e231, hx231_0⟩ := Kd.at_int (Kd.R_reads' HO230.out).2.2 0 p231 q231; cases e231; have qi231 : (0 < t227.length) = True := eq_true (by omega); (try rw [show ((0 : Int)).toNat = 0 from rfl] at hx231_0); (try rw [Addr.add_zero'] at hx231_0); replace p231 := eq_true p231; replace q231 := eq_true q231; have p232 : 0 ≤ (4 : Int) := (by omega); have q232 : 4 < (t227.length : Int) := of_decide_eq_true (by first | (with_reducible assumption) | assumption); obtain ⟨ad232, e232, hx232_0⟩ := Kd.at_int (Kd.R_reads' HO230.out).2.2 4 p232 q232; obtain rfl : ad231 = ad232 := (by injection e232); (try simp only [show (4 : Int).toNat = 4 from rfl, Nat.reduceMul, Nat.reduceEqDiff, Go.Addr.add, ↓reduceIte] at hx232_0); have qi232 : (4 < t227.length) = True := eq_true (by omega); (try rw [show ((4 : Int)).toNat = 4 from rfl] at hx232_0); replace p232 := eq_true p232; replace q232 := eq_true q232; have hcz46_0 : w44.cell? ⟨gb223, 0, none⟩ = some (.int .i64 0) := (blk_cell BK223.out 0).trans rfl; have hcz46_1 : w44.cell? ⟨gb223, 1, none⟩ = some (.int .i64 0) := (blk_cell BK223.out 1).trans rfl; have hcz46_2 : w44.cell? ⟨gb223, 2, none⟩ = some (.bool false) := (blk_cell BK223.out 2).trans rfl; have hcz46_3 : w44.cell? ⟨gb223, 3, none⟩ = some (.int .i64 0) := (blk_cell BK223.out 3).trans rfl; have hcz46_4 : w44.cell? ⟨gb223, 4, none⟩ = some (.int .i64 0) := (blk_cell BK223.out 4).trans rfl; have hcz46_5 : w44.cell? ⟨gb223, 5, none⟩ = some (.int .i64 0) := (blk_cell BK223.out 5).trans rfl; have hfz46_0 := blk_frozen BK223.out 0; have hfz46_1 := blk_frozen BK223.out 1; have hfz46_2 := blk_frozen BK223.out 2; have hfz46_3 := blk_frozen BK223.out 3; have hfz46_4 := blk_frozen BK223.out 4; have hfz46_5 := blk_frozen BK223.out 5))
            refine bodyPost_ret (results_ct rfl _ _ gb223 85 #[.int .i64 0, .int .i64 0, .bool false, .int .i64 0, .int .i64 0, .int .i64 0] (0, 0) _ rfl (by (with_reducible repeat (first | refine blk_drewN ?_ _ | refine blk_drew ?_ | refine blk_alloc ?_ _)); refine blk_put (cs := #[.int .i64 0, .int .i64 0, .bool false, .int .i64 0, .int .i64 0, .int .i64 0]) ?_ 5 _ rfl; (with_reducible repeat (first | refine blk_drewN ?_ _ | refine blk_drew ?_ | refine blk_alloc ?_ _)); refine blk_put (cs := #[.int .i64 0, .int .i64 0, .bool false, .int .i64 0, .int .i64 0, .int .i64 0]) ?_ 4 _ rfl; (with_reducible repeat (first | refine blk_drewN ?_ _ | refine blk_drew ?_ | refine blk_alloc ?_ _)); refine blk_put (cs := #[.int .i64 0, .int .i64 0, .bool false, .int .i64 0, .int .i64 0, .int .i64 0]) ?_ 3 _ rfl; (with_reducible repeat (first | refine blk_drewN ?_ _ | refine blk_drew ?_ | refine blk_alloc ?_ _)); refine blk_put (cs := #[.int .i64 0, .int .i64 0, .bool false, .int .i64 0, .int .i64 0, .int .i64 0]) ?_ 2 _ rfl; (with_reducible repeat (first | refine blk_drewN ?_ _ | refine blk_drew ?_ | refine blk_alloc ?_ _)); refine blk_put (cs := #[.int .i64 0, .int .i64 0, .bool false, .int .i64 0, .int .i64 0, .int .i64 0]) ?_ 1 _ rfl; (with_reducible repeat (first | refine blk_drewN ?_ _ | refine blk_drew ?_ | refine blk_alloc ?_ _)); refine blk_put (cs := #[.int .i64 0, .int .i64 0, .bool false, .int .i64 0, .int .i64 0, .int .i64 0]) ?_ 0 _ rfl; (with_reducible repeat (first | refine blk_drewN ?_ _ | refine blk_drew ?_ | refine blk_alloc ?_ _)); exact BK223.out) Try.underlying85 rfl (by kernel_rfl)) rfl ?_
            exact ⟨by first | rfl | (simp [errW_none, errW_some] <;> rfl) | (simp [*, errW_none, errW_some] <;> rfl), by repeat (first | (with_reducible first | exact HB.out | apply below_alloc | apply pw_below_drewN | apply below_drew1 | refine below_set ?_ GE223.out) | exact HB.out)⟩
        · rw [if_neg c20] at H
          exact absurd H (by simp)
    · rw [if_neg c11] at H
      exact absurd H (by simp)
def head_bit.f (a0 : Bool) : Option (Int) := if a0 = true then (some 1) else (some 0)
set_option maxHeartbeats 8000000 in
set_option maxRecDepth 100000 in
theorem head_bit.calls (a0 : Bool) (r : Int) (w : World) (h : head_bit.f a0 = some r) :
    Calls Try.prog 106 #[.bool a0] w fun e w' => e = .returned (.int .u64 r) ∧ Drawn0 w w' := by
  have H : (if a0 = true then (some 1) else (some 0)) = some r := h
  clear h
  by_cases c2 : a0 = true
  · subst c2
    have H1 : (some 1) = some r := by rw [if_pos rfl] at H; exact H
    clear H
    have H := H1
    clear H1
    obtain rfl := Option.some.inj H
    go_enter Try.func106, Try.ntmps106
    go_wp2
    go_ret
    exact ⟨by first | rfl | (simp; done) | (simp [*]; done), by repeat (first | exact Drawn0.refl _ | apply Drawn0.step)⟩
  · replace c2 := Bool.eq_false_iff.mpr c2
    subst c2
    have H1 : (some 0) = some r := by rw [if_neg (show ¬ (false = true) by decide)] at H; exact H
    clear H
    have H := H1
    clear H1
    obtain rfl := Option.some.inj H
    go_enter Try.func106, Try.ntmps106
    go_wp2
    go_ret
    exact ⟨by first | rfl | (simp; done) | (simp [*]; done), by repeat (first | exact Drawn0.refl _ | apply Drawn0.step)⟩
def turn_Cycle.f (a0 : Int) : Option (Int) := some (IntKind.u64.wrap (Int.tdiv a0 4))
set_option maxHeartbeats 8000000 in
set_option maxRecDepth 100000 in
theorem turn_Cycle.calls (a0 : Int) (r : Int) (w : World) (h : turn_Cycle.f a0 = some r) :
    Calls Try.prog 112 #[.int .u64 a0] w fun e w' => e = .returned (.int .u64 r) ∧ Drawn0 w w' := by
  have H : (some (IntKind.u64.wrap (Int.tdiv a0 4))) = some r := h
  clear h
  obtain rfl := Option.some.inj H
  go_enter Try.func112, Try.ntmps112
  go_wp2
  go_ret
  exact ⟨by first | rfl | (simp; done) | (simp [*]; done), by repeat (first | exact Drawn0.refl _ | apply Drawn0.step)⟩
def turn_Black.f (a0 : Int) : Option (Int) := (turn_Cycle.f a0).bind fun t240 => (some (wrap64 (Int.tmod (IntKind.u64.wrap (t240 + 1)) 2)))
set_option maxHeartbeats 8000000 in
set_option maxRecDepth 100000 in
theorem turn_Black.calls (a0 : Int) (r : Int) (w : World) (h : turn_Black.f a0 = some r) :
    Calls Try.prog 107 #[.int .u64 a0] w fun e w' => e = .returned (.int .i64 r) ∧ Drawn0 w w' := by
  have H : ((turn_Cycle.f a0).bind fun t240 => (some (wrap64 (Int.tmod (IntKind.u64.wrap (t240 + 1)) 2)))) = some r := h
  clear h
  replace H := Option.bind_eq_some_iff.mp H
  obtain ⟨t240, A20, H⟩ := H
  replace H : (some (wrap64 (Int.tmod (IntKind.u64.wrap (t240 + 1)) 2))) = some r := H
  have A2 := Aside0.mk A20
  clear A20
  obtain rfl := Option.some.inj H
  go_enter Try.func107, Try.ntmps107
  go_wp2_with (first | ((with_reducible refine gate_callee (f := 112) rfl ?_); refine goesL_ (some 4) rfl rfl Try.func112 (by kernel_rfl) rfl #[.int .u64 a0] rfl (by (try simp only [List.map_toArray, List.map_cons, List.map_nil]); first | done | rfl | (simp only [List.length_drop, List.length_take]; rfl)) ?_; (with_reducible refine (turn_Cycle.calls a0 t240 _ A2.out).mono ?_); rintro e w' ⟨rfl, ⟨nd, rfl⟩⟩; refine ⟨_, rfl, ?_⟩))
  go_ret
  exact ⟨by first | rfl | (simp; done) | (simp [*]; done), by repeat (first | exact Drawn0.refl _ | apply Drawn0.step)⟩
def turn_Born.f (a0 : Int) : Option (Int) := if (Int.tmod a0 4) = 0 then ((turn_Black.f a0).bind fun t241 => (some (wrap64 (1 - t241)))) else ((turn_Black.f a0).bind fun t242 => (some t242))
set_option maxHeartbeats 8000000 in
set_option maxRecDepth 100000 in
theorem turn_Born.calls (a0 : Int) (r : Int) (w : World) (h : turn_Born.f a0 = some r) :
    Calls Try.prog 101 #[.int .u64 a0] w fun e w' => e = .returned (.int .i64 r) ∧ Drawn0 w w' := by
  have H : (if (Int.tmod a0 4) = 0 then ((turn_Black.f a0).bind fun t241 => (some (wrap64 (1 - t241)))) else ((turn_Black.f a0).bind fun t242 => (some t242))) = some r := h
  clear h
  by_cases c2 : (Int.tmod a0 4) = 0
  · rw [if_pos c2] at H
    have c2b0 : ((Int.tmod a0 4) == 0) = true := beq_iff_eq.mpr c2
    have c2b1 : ((Int.tmod a0 4) != 0) = false := bne_eq_false_iff_eq.mpr c2
    clear c2
    replace H := Option.bind_eq_some_iff.mp H
    obtain ⟨t241, A30, H⟩ := H
    replace H : (some (wrap64 (1 - t241))) = some r := H
    have A3 := Aside0.mk A30
    clear A30
    obtain rfl := Option.some.inj H
    go_enter Try.func101, Try.ntmps101
    go_wp2_with (first | ((with_reducible refine gate_callee (f := 107) rfl ?_); refine goesL_ (some 7) rfl rfl Try.func107 (by kernel_rfl) rfl #[.int .u64 a0] rfl (by (try simp only [List.map_toArray, List.map_cons, List.map_nil]); first | done | rfl | (simp only [List.length_drop, List.length_take]; rfl)) ?_; (with_reducible refine (turn_Black.calls a0 t241 _ A3.out).mono ?_); rintro e w' ⟨rfl, ⟨nd, rfl⟩⟩; refine ⟨_, rfl, ?_⟩))
    go_ret
    exact ⟨by first | rfl | (simp; done) | (simp [*]; done), by repeat (first | exact Drawn0.refl _ | apply Drawn0.step)⟩
  · rw [if_neg c2] at H
    have c2b0 : ((Int.tmod a0 4) == 0) = false := beq_eq_false_iff_ne.mpr c2
    have c2b1 : ((Int.tmod a0 4) != 0) = true := bne_iff_ne.mpr c2
    replace H := Option.bind_eq_some_iff.mp H
    obtain ⟨t242, A40, H⟩ := H
    replace H : (some t242) = some r := H
    have A4 := Aside0.mk A40
    clear A40
    obtain rfl := Option.some.inj H
    go_enter Try.func101, Try.ntmps101
    go_wp2_with (first | ((with_reducible refine gate_callee (f := 107) rfl ?_); refine goesL_ (some 10) rfl rfl Try.func107 (by kernel_rfl) rfl #[.int .u64 a0] rfl (by (try simp only [List.map_toArray, List.map_cons, List.map_nil]); first | done | rfl | (simp only [List.length_drop, List.length_take]; rfl)) ?_; (with_reducible refine (turn_Black.calls a0 t242 _ A4.out).mono ?_); rintro e w' ⟨rfl, ⟨nd, rfl⟩⟩; refine ⟨_, rfl, ?_⟩))
    go_ret
    exact ⟨by first | rfl | (simp; done) | (simp [*]; done), by repeat (first | exact Drawn0.refl _ | apply Drawn0.step)⟩
def withyref04_Pack.f (a0_0 : Int) (a0_1 : Int) (a0_2 : Bool) (a0_3 : Int) (a0_4 : Int) (a0_5 : Int) : Option (Int) := if a0_2 = true then (some (IntKind.u64.wrap ((IntKind.u64.wrap ((IntKind.u64.wrap ((IntKind.u64.wrap ((IntKind.u64.wrap ((IntKind.u64.wrap (a0_0)) + (IntKind.u64.wrap (8 * (IntKind.u64.wrap (a0_1)))))) + (IntKind.u64.wrap (32 * (IntKind.u64.wrap (a0_3)))))) + (IntKind.u64.wrap (65536 * (IntKind.u64.wrap (a0_4)))))) + (IntKind.u64.wrap (281474976710656 * (IntKind.u64.wrap (a0_5)))))) + 16))) else (some (IntKind.u64.wrap ((IntKind.u64.wrap ((IntKind.u64.wrap ((IntKind.u64.wrap ((IntKind.u64.wrap (a0_0)) + (IntKind.u64.wrap (8 * (IntKind.u64.wrap (a0_1)))))) + (IntKind.u64.wrap (32 * (IntKind.u64.wrap (a0_3)))))) + (IntKind.u64.wrap (65536 * (IntKind.u64.wrap (a0_4)))))) + (IntKind.u64.wrap (281474976710656 * (IntKind.u64.wrap (a0_5)))))))
set_option maxHeartbeats 8000000 in
set_option maxRecDepth 100000 in
theorem withyref04_Pack.calls (a0_0 : Int) (a0_1 : Int) (a0_2 : Bool) (a0_3 : Int) (a0_4 : Int) (a0_5 : Int) (r : Int) (w : World) (h : withyref04_Pack.f a0_0 a0_1 a0_2 a0_3 a0_4 a0_5 = some r) :
    Calls Try.prog 58 #[.agg #[.int .i64 a0_0, .int .i64 a0_1, .bool a0_2, .int .i64 a0_3, .int .i64 a0_4, .int .i64 a0_5]] w fun e w' => e = .returned (.int .u64 r) ∧ Below w.heap.size w w' := by
  have hu85 := Try.underlying85
  have HB := Aside0.mk (Below.refl w.heap.size w)
  have H : (if a0_2 = true then (some (IntKind.u64.wrap ((IntKind.u64.wrap ((IntKind.u64.wrap ((IntKind.u64.wrap ((IntKind.u64.wrap ((IntKind.u64.wrap (a0_0)) + (IntKind.u64.wrap (8 * (IntKind.u64.wrap (a0_1)))))) + (IntKind.u64.wrap (32 * (IntKind.u64.wrap (a0_3)))))) + (IntKind.u64.wrap (65536 * (IntKind.u64.wrap (a0_4)))))) + (IntKind.u64.wrap (281474976710656 * (IntKind.u64.wrap (a0_5)))))) + 16))) else (some (IntKind.u64.wrap ((IntKind.u64.wrap ((IntKind.u64.wrap ((IntKind.u64.wrap ((IntKind.u64.wrap (a0_0)) + (IntKind.u64.wrap (8 * (IntKind.u64.wrap (a0_1)))))) + (IntKind.u64.wrap (32 * (IntKind.u64.wrap (a0_3)))))) + (IntKind.u64.wrap (65536 * (IntKind.u64.wrap (a0_4)))))) + (IntKind.u64.wrap (281474976710656 * (IntKind.u64.wrap (a0_5)))))))) = some r := h
  clear h
  by_cases c2 : a0_2 = true
  · subst c2
    have H1 : (some (IntKind.u64.wrap ((IntKind.u64.wrap ((IntKind.u64.wrap ((IntKind.u64.wrap ((IntKind.u64.wrap ((IntKind.u64.wrap (a0_0)) + (IntKind.u64.wrap (8 * (IntKind.u64.wrap (a0_1)))))) + (IntKind.u64.wrap (32 * (IntKind.u64.wrap (a0_3)))))) + (IntKind.u64.wrap (65536 * (IntKind.u64.wrap (a0_4)))))) + (IntKind.u64.wrap (281474976710656 * (IntKind.u64.wrap (a0_5)))))) + 16))) = some r := by rw [if_pos rfl] at H; exact H
    clear H
    have H := H1
    clear H1
    obtain rfl := Option.some.inj H
    go_enter Try.func58, Try.ntmps58
    go_wp2_with (first | ((with_reducible refine gate_dst (N := 1) rfl ?_); refine box_event ?hg (N := 1) ?hd (cs := #[.int .i64 a0_0, .int .i64 a0_1, .bool true, .int .i64 a0_3, .int .i64 a0_4, .int .i64 a0_5]) (t := 85) ?hr ?_; (case hd => rfl); (case hg => rfl); (case hr => first | (go_simp; done) | (go_simp; rfl)); intro gb244 hg w3 hbox hb; have n0_ := Aside0.mk (below_step (by repeat (first | (with_reducible first | exact HB.out | apply below_alloc | apply pw_below_drewN | apply below_drew1) | exact HB.out)) hb); have n1_ := Aside0.mk (hbox); have n2_ := Aside0.mk ((by rw [hg]; exact (below_size (by repeat (first | (with_reducible first | exact HB.out | apply below_alloc | apply pw_below_drewN | apply below_drew1) | exact HB.out))) : w.heap.size ≤ gb244)); have n3_ := Aside0.mk ((by rw [hg]; exact (below_size (by repeat (first | (with_reducible first | exact HB.out | apply below_alloc | apply pw_below_drewN | apply below_drew1) | exact HB.out))) : w.heap.size ≤ gb244)); clear HB; have HB := n0_; have BK244 := n1_; have GW244 := n2_; have GE244 := n3_; clear n0_ n1_ n2_ n3_; clear hb hbox hg; have hcz4_0 : w3.cell? ⟨gb244, 0, none⟩ = some (.int .i64 a0_0) := (blk_cell BK244.out 0).trans rfl; have hcz4_1 : w3.cell? ⟨gb244, 1, none⟩ = some (.int .i64 a0_1) := (blk_cell BK244.out 1).trans rfl; have hcz4_2 : w3.cell? ⟨gb244, 2, none⟩ = some (.bool true) := (blk_cell BK244.out 2).trans rfl; have hcz4_3 : w3.cell? ⟨gb244, 3, none⟩ = some (.int .i64 a0_3) := (blk_cell BK244.out 3).trans rfl; have hcz4_4 : w3.cell? ⟨gb244, 4, none⟩ = some (.int .i64 a0_4) := (blk_cell BK244.out 4).trans rfl; have hcz4_5 : w3.cell? ⟨gb244, 5, none⟩ = some (.int .i64 a0_5) := (blk_cell BK244.out 5).trans rfl; have hfz4_0 := blk_frozen BK244.out 0; have hfz4_1 := blk_frozen BK244.out 1; have hfz4_2 := blk_frozen BK244.out 2; have hfz4_3 := blk_frozen BK244.out 3; have hfz4_4 := blk_frozen BK244.out 4; have hfz4_5 := blk_frozen BK244.out 5))
    go_ret
    exact ⟨by first | rfl | (simp [errW_none, errW_some] <;> rfl) | (simp [*, errW_none, errW_some] <;> rfl), by repeat (first | (with_reducible first | exact HB.out | apply below_alloc | apply pw_below_drewN | apply below_drew1 | refine below_set ?_ GE244.out) | exact HB.out)⟩
  · replace c2 := Bool.eq_false_iff.mpr c2
    subst c2
    have H1 : (some (IntKind.u64.wrap ((IntKind.u64.wrap ((IntKind.u64.wrap ((IntKind.u64.wrap ((IntKind.u64.wrap (a0_0)) + (IntKind.u64.wrap (8 * (IntKind.u64.wrap (a0_1)))))) + (IntKind.u64.wrap (32 * (IntKind.u64.wrap (a0_3)))))) + (IntKind.u64.wrap (65536 * (IntKind.u64.wrap (a0_4)))))) + (IntKind.u64.wrap (281474976710656 * (IntKind.u64.wrap (a0_5))))))) = some r := by rw [if_neg (show ¬ (false = true) by decide)] at H; exact H
    clear H
    have H := H1
    clear H1
    obtain rfl := Option.some.inj H
    go_enter Try.func58, Try.ntmps58
    go_wp2_with (first | ((with_reducible refine gate_dst (N := 1) rfl ?_); refine box_event ?hg (N := 1) ?hd (cs := #[.int .i64 a0_0, .int .i64 a0_1, .bool false, .int .i64 a0_3, .int .i64 a0_4, .int .i64 a0_5]) (t := 85) ?hr ?_; (case hd => rfl); (case hg => rfl); (case hr => first | (go_simp; done) | (go_simp; rfl)); intro gb244 hg w5 hbox hb; have n0_ := Aside0.mk (below_step (by repeat (first | (with_reducible first | exact HB.out | apply below_alloc | apply pw_below_drewN | apply below_drew1) | exact HB.out)) hb); have n1_ := Aside0.mk (hbox); have n2_ := Aside0.mk ((by rw [hg]; exact (below_size (by repeat (first | (with_reducible first | exact HB.out | apply below_alloc | apply pw_below_drewN | apply below_drew1) | exact HB.out))) : w.heap.size ≤ gb244)); have n3_ := Aside0.mk ((by rw [hg]; exact (below_size (by repeat (first | (with_reducible first | exact HB.out | apply below_alloc | apply pw_below_drewN | apply below_drew1) | exact HB.out))) : w.heap.size ≤ gb244)); clear HB; have HB := n0_; have BK244 := n1_; have GW244 := n2_; have GE244 := n3_; clear n0_ n1_ n2_ n3_; clear hb hbox hg; have hcz6_0 : w5.cell? ⟨gb244, 0, none⟩ = some (.int .i64 a0_0) := (blk_cell BK244.out 0).trans rfl; have hcz6_1 : w5.cell? ⟨gb244, 1, none⟩ = some (.int .i64 a0_1) := (blk_cell BK244.out 1).trans rfl; have hcz6_2 : w5.cell? ⟨gb244, 2, none⟩ = some (.bool false) := (blk_cell BK244.out 2).trans rfl; have hcz6_3 : w5.cell? ⟨gb244, 3, none⟩ = some (.int .i64 a0_3) := (blk_cell BK244.out 3).trans rfl; have hcz6_4 : w5.cell? ⟨gb244, 4, none⟩ = some (.int .i64 a0_4) := (blk_cell BK244.out 4).trans rfl; have hcz6_5 : w5.cell? ⟨gb244, 5, none⟩ = some (.int .i64 a0_5) := (blk_cell BK244.out 5).trans rfl; have hfz6_0 := blk_frozen BK244.out 0; have hfz6_1 := blk_frozen BK244.out 1; have hfz6_2 := blk_frozen BK244.out 2; have hfz6_3 := blk_frozen BK244.out 3; have hfz6_4 := blk_frozen BK244.out 4; have hfz6_5 := blk_frozen BK244.out 5))
    go_ret
    exact ⟨by first | rfl | (simp [errW_none, errW_some] <;> rfl) | (simp [*, errW_none, errW_some] <;> rfl), by repeat (first | (with_reducible first | exact HB.out | apply below_alloc | apply pw_below_drewN | apply below_drew1 | refine below_set ?_ GE244.out) | exact HB.out)⟩
end Go.Proofs.Ytijfkpoofpcacaa.PArenaPlays
end
namespace Go.Proofs.Ytijfkpoofpcacaa.PwArenaPlays
end Go.Proofs.Ytijfkpoofpcacaa.PwArenaPlays
section
namespace Go.Proofs.Ytijfkpoofpcacaa.HeadC
open Go.RowKit Go.Proofs.Ytijfkpoofpcacaa.PArenaPlays Go.Proofs.YtijfkpoofpcacaaW.PrintWords Go.Proofs.YtijfkpoofpcacaaW.PrintLast Go.Proofs.Ytijfkpoofpcacaa.Core Go.Proofs.Ytijfkpoofpcacaa.PuArenaPlays Go.Proofs.Ytijfkpoofpcacaa.PvArenaPlays
def headB (k m a n s : Int) : Bool := decide (0 ≤ k ∧ k ≤ 4 ∧ 0 ≤ m ∧ m ≤ 1 ∧ 0 ≤ a ∧ a ≤ 15 ∧ 0 ≤ n ∧ n ≤ 4294967295 ∧ 0 ≤ s ∧ s ≤ 65535)
def headN (k m : Int) (g : Bool) (a n s : Int) : Int := k + 8 * m + (if g = true then 16 else 0) + 32 * a + 65536 * n + 281474976710656 * s
def packV (k m : Int) (g : Bool) (a n s : Int) : Int × Bool := if headB k m a n s = true then (headN k m g a n s, true) else (0, false)
def bitI (g : Bool) : Int := if g = true then 1 else 0
def rowV (k m : Int) (g : Bool) (a n s : Int) : List S153 := [⟨3, IntKind.u64.wrap k⟩, ⟨1, IntKind.u64.wrap m⟩, ⟨1, bitI g⟩, ⟨4, IntKind.u64.wrap a⟩, ⟨7, 0⟩, ⟨32, IntKind.u64.wrap n⟩, ⟨16, IntKind.u64.wrap s⟩]
theorem bit_c (g : Bool) (w : World) : Calls Try.prog 106 #[.bool g] w fun e w' => e = .returned (.int .u64 (bitI g)) ∧ Drawn0 w w' :=
  head_bit.calls g _ w (by unfold head_bit.f bitI; split <;> rfl)
theorem flat2 {α : Type} (f : α → List Value) (h2 : ∀ x, (f x).length = 2) (l : List α) : ∀ (j i : Nat) (p : α), l[j]? = some p → i < 2 → (l.flatMap f)[j * 2 + i]? = (f p)[i]? := by
  induction l with
  | nil => intro j i p h; simp at h
  | cons a l ih =>
    intro j i p h hi
    rw [List.flatMap_cons]
    match j, h with
    | 0, h =>
      simp at h; subst h
      rw [List.getElem?_append_left (by rw [h2]; omega)]
      simp
    | j + 1, h =>
      rw [List.getElem?_cons_succ] at h
      rw [List.getElem?_append_right (by rw [h2]; omega), h2, show (j + 1) * 2 + i - 2 = j * 2 + i from by omega]
      exact ih j i p h hi
theorem bits_row (W : World) (b : Nat) (l : List S153) (cs : Array Value) (t : TypeId) (hh : W.heap[b]? = some (.cells cs t (0, 0))) (hc : cs.toList = l.flatMap fun x => [.int .i64 x.f0, .int .u64 x.f1]) (hl : l.length ≤ 9223372036854775807) : Kd.C k153 W (some ⟨b, 0, none⟩) l.length l := by
  refine ⟨rfl, hl, fun _ => ⟨_, rfl, fun j p hj => ⟨[.int .i64 p.f0, .int .u64 p.f1], rfl, ⟨[.int .i64 p.f0], [.int .u64 p.f1], rfl, rfl, rfl⟩, fun i u hi => ?_⟩⟩⟩
  have hi2 : i < 2 := by
    have := (List.getElem?_eq_some_iff.1 hi).1
    simpa using this
  have h1 := flat2 (fun x : S153 => [Value.int .i64 x.f0, Value.int .u64 x.f1]) (fun _ => rfl) l j i p hj hi2
  rw [← hc, Array.getElem?_toList] at h1
  have e : (⟨b, 0, none⟩ : Addr).add (j * 2 + i) = ⟨b, j * 2 + i, none⟩ := by unfold Addr.add; split <;> simp_all
  show W.cell? ((⟨b, 0, none⟩ : Addr).add (j * 2 + i)) = some u
  rw [e]
  simp only [World.cell?, hh]
  rw [h1]
  simpa using hi
theorem heap_at (W : World) (o : Obj) (b : Nat) (h : W.heap.size = b) : (W.alloc o).heap[b]? = some o := by subst h; exact heap_alloc_new W o
theorem pack_eq (k m : Int) (g : Bool) (a n s : Int) (h1 : 0 ≤ k ∧ k < 9223372036854775808) (h2 : 0 ≤ m ∧ m < 9223372036854775808) (h3 : 0 ≤ a ∧ a < 9223372036854775808) (h4 : 0 ≤ n ∧ n < 9223372036854775808) (h5 : 0 ≤ s ∧ s < 9223372036854775808) :
    word_Pack.f 8 (rowV k m g a n s) = some (packF (rowV k m g a n s) 0 0) ∧ packV k m g a n s = if (packF (rowV k m g a n s) 0 0).2 = true ∧ k ≤ 4 then ((packF (rowV k m g a n s) 0 0).1, true) else (0, false) := by
  have hg : 0 ≤ bitI g ∧ bitI g < 2 := by unfold bitI; split <;> decide
  have e1 := wrap_u64_id k (by omega) (by omega)
  have e2 := wrap_u64_id m (by omega) (by omega)
  have e3 := wrap_u64_id a (by omega) (by omega)
  have e4 := wrap_u64_id n (by omega) (by omega)
  have e5 := wrap_u64_id s (by omega) (by omega)
  constructor
  · refine p_Pack 8 _ (by simp [rowV]) (by simp [rowV]) ?_
    intro b hb
    simp only [rowV, List.mem_cons, List.not_mem_nil, or_false] at hb
    rcases hb with rfl | rfl | rfl | rfl | rfl | rfl | rfl <;> simp only [e1, e2, e3, e4, e5] <;> omega
  · unfold rowV
    rw [e1, e2, e3, e4, e5]
    have no : ¬ (0 ≤ k ∧ k ≤ 4 ∧ 0 ≤ m ∧ m ≤ 1 ∧ 0 ≤ a ∧ a ≤ 15 ∧ 0 ≤ n ∧ n ≤ 4294967295 ∧ 0 ≤ s ∧ s ≤ 65535) → packV k m g a n s = (0, false) := by
      intro h; unfold packV headB; rw [if_neg (by simpa using h)]
    by_cases c1 : k < 8
    · rw [packF_yes (by decide) (by simp [fitsB]; omega)]
      by_cases c2 : m < 2
      · rw [packF_yes (by decide) (by simp [fitsB]; omega), packF_yes (by decide) (by simp [fitsB]; omega)]
        by_cases c3 : a < 16
        · rw [packF_yes (by decide) (by simp [fitsB]; omega), packF_yes (by decide) (by decide)]
          by_cases c4 : n < 4294967296
          · rw [packF_yes (by decide) (by simp [fitsB]; omega)]
            by_cases c5 : s < 65536
            · rw [packF_yes (by decide) (by simp [fitsB]; omega)]
              by_cases c6 : k ≤ 4
              · rw [if_pos ⟨rfl, c6⟩]
                unfold packV headB
                rw [if_pos (by simp; omega)]
                simp only [packF, headN, bitI]
                simp
                split <;> omega
              · rw [if_neg (fun h => c6 h.2), no (by omega)]
            · rw [packF_no (by simp [fitsB]; omega), if_neg (by simp), no (by omega)]
          · rw [packF_no (by simp [fitsB]; omega), if_neg (by simp), no (by omega)]
        · rw [packF_no (by simp [fitsB]; omega), if_neg (by simp), no (by omega)]
      · rw [packF_no (by simp [fitsB]; omega), if_neg (by simp), no (by omega)]
    · rw [packF_no (by simp [fitsB]; omega), if_neg (by simp), no (by omega)]
set_option maxHeartbeats 2000000 in
theorem pack_pos (k m : Int) (g : Bool) (a n s : Int) (h1 : 0 ≤ k ∧ k < 9223372036854775808) (h2 : 0 ≤ m ∧ m < 9223372036854775808) (h3 : 0 ≤ a ∧ a < 9223372036854775808) (h4 : 0 ≤ n ∧ n < 9223372036854775808) (h5 : 0 ≤ s ∧ s < 9223372036854775808) (w : World) :
    Calls Try.prog 100 #[.agg #[.int .i64 k, .int .i64 m, .bool g, .int .i64 a, .int .i64 n, .int .i64 s]] w fun e w' => e = .returned (.tuple #[.int .u64 (packV k m g a n s).1, .bool (packV k m g a n s).2]) ∧ Below w.heap.size w w' := by
  obtain ⟨hp, hv⟩ := pack_eq k m g a n s h1 h2 h3 h4 h5
  generalize packF (rowV k m g a n s) 0 0 = r at hp hv
  obtain ⟨r1, r2⟩ := r
  have HP := Lib.hid hp
  have HV := Lib.hid hv
  clear hp hv
  obtain ⟨h1, h1'⟩ := h1
  obtain ⟨h2, h2'⟩ := h2
  obtain ⟨h3, h3'⟩ := h3
  obtain ⟨h4, h4'⟩ := h4
  obtain ⟨h5, h5'⟩ := h5
  have i0 : ∀ w, (Instr.index 157 (.agg #[.int .i64 k, .int .i64 m, .int .i64 a, .int .i64 n, .int .i64 s]) (.int .i64 0)).run Try.prog w = .ok (.int .i64 k) w := fun _ => by kernel_rfl
  have i1 : ∀ w, (Instr.index 157 (.agg #[.int .i64 k, .int .i64 m, .int .i64 a, .int .i64 n, .int .i64 s]) (.int .i64 1)).run Try.prog w = .ok (.int .i64 m) w := fun _ => by kernel_rfl
  have i2 : ∀ w, (Instr.index 157 (.agg #[.int .i64 k, .int .i64 m, .int .i64 a, .int .i64 n, .int .i64 s]) (.int .i64 2)).run Try.prog w = .ok (.int .i64 a) w := fun _ => by kernel_rfl
  have i3 : ∀ w, (Instr.index 157 (.agg #[.int .i64 k, .int .i64 m, .int .i64 a, .int .i64 n, .int .i64 s]) (.int .i64 3)).run Try.prog w = .ok (.int .i64 n) w := fun _ => by kernel_rfl
  have i4 : ∀ w, (Instr.index 157 (.agg #[.int .i64 k, .int .i64 m, .int .i64 a, .int .i64 n, .int .i64 s]) (.int .i64 4)).run Try.prog w = .ok (.int .i64 s) w := fun _ => by kernel_rfl
  go_enter Try.func100, Try.ntmps100
  go_wp2
  go_loop [19] (fun u => ∃ j : Nat, j ≤ 5 ∧ u = .int .i64 (j : Int)) (fun u => 5 - (intOf u).toNat)
  case atStart => exact ⟨0, by omega, rfl⟩
  case round =>
    obtain ⟨j, hj, rfl⟩ := hrel
    match j, hj with
    | 0, _ =>
      clear i1 i2 i3 i4
      go_wp2
      go_round
      case rel => exact ⟨1, by omega, rfl⟩
      case measure => simp [intOf]
    | 1, _ =>
      clear i0 i2 i3 i4
      go_wp2
      go_round
      case rel => exact ⟨2, by omega, rfl⟩
      case measure => simp [intOf]
    | 2, _ =>
      clear i0 i1 i3 i4
      go_wp2
      go_round
      case rel => exact ⟨3, by omega, rfl⟩
      case measure => simp [intOf]
    | 3, _ =>
      clear i0 i1 i2 i4
      go_wp2
      go_round
      case rel => exact ⟨4, by omega, rfl⟩
      case measure => simp [intOf]
    | 4, _ =>
      clear i0 i1 i2 i3
      go_wp2
      go_round
      case rel => exact ⟨5, by omega, rfl⟩
      case measure => simp [intOf]
    | 5, _ =>
      clear i0 i1 i2 i3 i4
      go_wp2
      go_region_held3 (fun w' => w'.cell? ⟨w.heap.size, 0, none⟩ = some (.int .i64 k) ∧ w'.cell? ⟨w.heap.size, 1, none⟩ = some (.int .i64 m) ∧ w'.cell? ⟨w.heap.size, 2, none⟩ = some (.bool g) ∧ w'.cell? ⟨w.heap.size, 3, none⟩ = some (.int .i64 a) ∧ w'.cell? ⟨w.heap.size, 4, none⟩ = some (.int .i64 n) ∧ w'.cell? ⟨w.heap.size, 5, none⟩ = some (.int .i64 s)) (first | assumption | (simp [go_sem, World.cell?_alloc_past]; done))
        (first
          | (go_at_call 106; refine (bit_c g _).mono ?_; rintro e w' ⟨rfl, ⟨nd, rfl⟩⟩)
          | (go_at_call 103; refine (word_Pack.calls 8 _ 7 (rowV k m g a n s) r1 r2 _ (bits_row _ _ (rowV k m g a n s) _ 153 (heap_at _ _ _ (by simp)) rfl (by simp [rowV])) (by simp [rowV]) HP.out).mono ?_; rintro e w1 ⟨rfl, hb⟩; have hS : w1.cell? ⟨w.heap.size, 0, none⟩ = some (.int .i64 k) ∧ w1.cell? ⟨w.heap.size, 1, none⟩ = some (.int .i64 m) ∧ w1.cell? ⟨w.heap.size, 2, none⟩ = some (.bool g) ∧ w1.cell? ⟨w.heap.size, 3, none⟩ = some (.int .i64 a) ∧ w1.cell? ⟨w.heap.size, 4, none⟩ = some (.int .i64 n) ∧ w1.cell? ⟨w.heap.size, 5, none⟩ = some (.int .i64 s) := (by refine ⟨?_, ?_, ?_, ?_, ?_, ?_⟩ <;> (refine (hb.cell ?_).trans ?_ <;> simp [go_sem, World.cell?_alloc_past] <;> omega)); replace hb := Lib.hid hb))
      obtain ⟨q0, q1, q2, q3, q4, q5⟩ := hS
      have hB : Hid (Below w.heap.size w w1) := Lib.hid (((pw_below_drewN ((Below.refl _ _).alloc (Nat.le_refl _) _) _).alloc (by simp) _).trans (hb.out.mono (by simp <;> omega)))
      clear hb q1 q2 q3 q4 q5
      cases r2 with
      | false =>
        go_wp2
        go_ret2
        exact ⟨by rw [HV.out]; rfl, hB.out⟩
      | true =>
        by_cases hk : k ≤ 4
        · go_wp2
          go_ret2
          exact ⟨by rw [HV.out, if_pos ⟨trivial, hk⟩]; rfl, hB.out⟩
        · go_wp2
          go_ret2
          exact ⟨by rw [HV.out, if_neg (fun h => absurd h.2 (by omega))]; rfl, hB.out⟩
theorem packV_neg (k m : Int) (g : Bool) (a n s : Int) (h : ¬ (0 ≤ k ∧ 0 ≤ m ∧ 0 ≤ a ∧ 0 ≤ n ∧ 0 ≤ s)) : packV k m g a n s = (0, false) := by
  unfold packV headB; rw [if_neg (by simp; omega)]
set_option maxHeartbeats 2000000 in
theorem pack_neg0 (k m : Int) (g : Bool) (a n s : Int)  (h : k < 0) (w : World) :
    Calls Try.prog 100 #[.agg #[.int .i64 k, .int .i64 m, .bool g, .int .i64 a, .int .i64 n, .int .i64 s]] w fun e w' => e = .returned (.tuple #[.int .u64 0, .bool false]) ∧ Below w.heap.size w w' := by
  have i0 : ∀ w, (Instr.index 157 (.agg #[.int .i64 k, .int .i64 m, .int .i64 a, .int .i64 n, .int .i64 s]) (.int .i64 0)).run Try.prog w = .ok (.int .i64 k) w := fun _ => by kernel_rfl
  go_enter Try.func100, Try.ntmps100
  go_wp2
  go_loop [19] (fun u => ∃ j : Nat, j ≤ 0 ∧ u = .int .i64 (j : Int)) (fun u => 0 - (intOf u).toNat)
  case atStart => exact ⟨0, by omega, rfl⟩
  case round =>
    obtain ⟨j, hj, rfl⟩ := hrel
    match j, hj with
    | 0, _ =>
      skip
      go_wp2
      go_ret2
      exact ⟨rfl, (Below.refl _ _).alloc (Nat.le_refl _) _⟩
set_option maxHeartbeats 2000000 in
theorem pack_neg1 (k m : Int) (g : Bool) (a n s : Int) (h1 : 0 ≤ k) (h : m < 0) (w : World) :
    Calls Try.prog 100 #[.agg #[.int .i64 k, .int .i64 m, .bool g, .int .i64 a, .int .i64 n, .int .i64 s]] w fun e w' => e = .returned (.tuple #[.int .u64 0, .bool false]) ∧ Below w.heap.size w w' := by
  have i0 : ∀ w, (Instr.index 157 (.agg #[.int .i64 k, .int .i64 m, .int .i64 a, .int .i64 n, .int .i64 s]) (.int .i64 0)).run Try.prog w = .ok (.int .i64 k) w := fun _ => by kernel_rfl
  have i1 : ∀ w, (Instr.index 157 (.agg #[.int .i64 k, .int .i64 m, .int .i64 a, .int .i64 n, .int .i64 s]) (.int .i64 1)).run Try.prog w = .ok (.int .i64 m) w := fun _ => by kernel_rfl
  go_enter Try.func100, Try.ntmps100
  go_wp2
  go_loop [19] (fun u => ∃ j : Nat, j ≤ 1 ∧ u = .int .i64 (j : Int)) (fun u => 1 - (intOf u).toNat)
  case atStart => exact ⟨0, by omega, rfl⟩
  case round =>
    obtain ⟨j, hj, rfl⟩ := hrel
    match j, hj with
    | 0, _ =>
      clear i1
      go_wp2
      go_round
      case rel => exact ⟨1, by omega, rfl⟩
      case measure => simp [intOf]
    | 1, _ =>
      clear i0
      go_wp2
      go_ret2
      exact ⟨rfl, (Below.refl _ _).alloc (Nat.le_refl _) _⟩
set_option maxHeartbeats 2000000 in
theorem pack_neg2 (k m : Int) (g : Bool) (a n s : Int) (h1 : 0 ≤ k) (h2 : 0 ≤ m) (h : a < 0) (w : World) :
    Calls Try.prog 100 #[.agg #[.int .i64 k, .int .i64 m, .bool g, .int .i64 a, .int .i64 n, .int .i64 s]] w fun e w' => e = .returned (.tuple #[.int .u64 0, .bool false]) ∧ Below w.heap.size w w' := by
  have i0 : ∀ w, (Instr.index 157 (.agg #[.int .i64 k, .int .i64 m, .int .i64 a, .int .i64 n, .int .i64 s]) (.int .i64 0)).run Try.prog w = .ok (.int .i64 k) w := fun _ => by kernel_rfl
  have i1 : ∀ w, (Instr.index 157 (.agg #[.int .i64 k, .int .i64 m, .int .i64 a, .int .i64 n, .int .i64 s]) (.int .i64 1)).run Try.prog w = .ok (.int .i64 m) w := fun _ => by kernel_rfl
  have i2 : ∀ w, (Instr.index 157 (.agg #[.int .i64 k, .int .i64 m, .int .i64 a, .int .i64 n, .int .i64 s]) (.int .i64 2)).run Try.prog w = .ok (.int .i64 a) w := fun _ => by kernel_rfl
  go_enter Try.func100, Try.ntmps100
  go_wp2
  go_loop [19] (fun u => ∃ j : Nat, j ≤ 2 ∧ u = .int .i64 (j : Int)) (fun u => 2 - (intOf u).toNat)
  case atStart => exact ⟨0, by omega, rfl⟩
  case round =>
    obtain ⟨j, hj, rfl⟩ := hrel
    match j, hj with
    | 0, _ =>
      clear i1 i2
      go_wp2
      go_round
      case rel => exact ⟨1, by omega, rfl⟩
      case measure => simp [intOf]
    | 1, _ =>
      clear i0 i2
      go_wp2
      go_round
      case rel => exact ⟨2, by omega, rfl⟩
      case measure => simp [intOf]
    | 2, _ =>
      clear i0 i1
      go_wp2
      go_ret2
      exact ⟨rfl, (Below.refl _ _).alloc (Nat.le_refl _) _⟩
set_option maxHeartbeats 2000000 in
theorem pack_neg3 (k m : Int) (g : Bool) (a n s : Int) (h1 : 0 ≤ k) (h2 : 0 ≤ m) (h3 : 0 ≤ a) (h : n < 0) (w : World) :
    Calls Try.prog 100 #[.agg #[.int .i64 k, .int .i64 m, .bool g, .int .i64 a, .int .i64 n, .int .i64 s]] w fun e w' => e = .returned (.tuple #[.int .u64 0, .bool false]) ∧ Below w.heap.size w w' := by
  have i0 : ∀ w, (Instr.index 157 (.agg #[.int .i64 k, .int .i64 m, .int .i64 a, .int .i64 n, .int .i64 s]) (.int .i64 0)).run Try.prog w = .ok (.int .i64 k) w := fun _ => by kernel_rfl
  have i1 : ∀ w, (Instr.index 157 (.agg #[.int .i64 k, .int .i64 m, .int .i64 a, .int .i64 n, .int .i64 s]) (.int .i64 1)).run Try.prog w = .ok (.int .i64 m) w := fun _ => by kernel_rfl
  have i2 : ∀ w, (Instr.index 157 (.agg #[.int .i64 k, .int .i64 m, .int .i64 a, .int .i64 n, .int .i64 s]) (.int .i64 2)).run Try.prog w = .ok (.int .i64 a) w := fun _ => by kernel_rfl
  have i3 : ∀ w, (Instr.index 157 (.agg #[.int .i64 k, .int .i64 m, .int .i64 a, .int .i64 n, .int .i64 s]) (.int .i64 3)).run Try.prog w = .ok (.int .i64 n) w := fun _ => by kernel_rfl
  go_enter Try.func100, Try.ntmps100
  go_wp2
  go_loop [19] (fun u => ∃ j : Nat, j ≤ 3 ∧ u = .int .i64 (j : Int)) (fun u => 3 - (intOf u).toNat)
  case atStart => exact ⟨0, by omega, rfl⟩
  case round =>
    obtain ⟨j, hj, rfl⟩ := hrel
    match j, hj with
    | 0, _ =>
      clear i1 i2 i3
      go_wp2
      go_round
      case rel => exact ⟨1, by omega, rfl⟩
      case measure => simp [intOf]
    | 1, _ =>
      clear i0 i2 i3
      go_wp2
      go_round
      case rel => exact ⟨2, by omega, rfl⟩
      case measure => simp [intOf]
    | 2, _ =>
      clear i0 i1 i3
      go_wp2
      go_round
      case rel => exact ⟨3, by omega, rfl⟩
      case measure => simp [intOf]
    | 3, _ =>
      clear i0 i1 i2
      go_wp2
      go_ret2
      exact ⟨rfl, (Below.refl _ _).alloc (Nat.le_refl _) _⟩
set_option maxHeartbeats 2000000 in
theorem pack_neg4 (k m : Int) (g : Bool) (a n s : Int) (h1 : 0 ≤ k) (h2 : 0 ≤ m) (h3 : 0 ≤ a) (h4 : 0 ≤ n) (h : s < 0) (w : World) :
    Calls Try.prog 100 #[.agg #[.int .i64 k, .int .i64 m, .bool g, .int .i64 a, .int .i64 n, .int .i64 s]] w fun e w' => e = .returned (.tuple #[.int .u64 0, .bool false]) ∧ Below w.heap.size w w' := by
  have i0 : ∀ w, (Instr.index 157 (.agg #[.int .i64 k, .int .i64 m, .int .i64 a, .int .i64 n, .int .i64 s]) (.int .i64 0)).run Try.prog w = .ok (.int .i64 k) w := fun _ => by kernel_rfl
  have i1 : ∀ w, (Instr.index 157 (.agg #[.int .i64 k, .int .i64 m, .int .i64 a, .int .i64 n, .int .i64 s]) (.int .i64 1)).run Try.prog w = .ok (.int .i64 m) w := fun _ => by kernel_rfl
  have i2 : ∀ w, (Instr.index 157 (.agg #[.int .i64 k, .int .i64 m, .int .i64 a, .int .i64 n, .int .i64 s]) (.int .i64 2)).run Try.prog w = .ok (.int .i64 a) w := fun _ => by kernel_rfl
  have i3 : ∀ w, (Instr.index 157 (.agg #[.int .i64 k, .int .i64 m, .int .i64 a, .int .i64 n, .int .i64 s]) (.int .i64 3)).run Try.prog w = .ok (.int .i64 n) w := fun _ => by kernel_rfl
  have i4 : ∀ w, (Instr.index 157 (.agg #[.int .i64 k, .int .i64 m, .int .i64 a, .int .i64 n, .int .i64 s]) (.int .i64 4)).run Try.prog w = .ok (.int .i64 s) w := fun _ => by kernel_rfl
  go_enter Try.func100, Try.ntmps100
  go_wp2
  go_loop [19] (fun u => ∃ j : Nat, j ≤ 4 ∧ u = .int .i64 (j : Int)) (fun u => 4 - (intOf u).toNat)
  case atStart => exact ⟨0, by omega, rfl⟩
  case round =>
    obtain ⟨j, hj, rfl⟩ := hrel
    match j, hj with
    | 0, _ =>
      clear i1 i2 i3 i4
      go_wp2
      go_round
      case rel => exact ⟨1, by omega, rfl⟩
      case measure => simp [intOf]
    | 1, _ =>
      clear i0 i2 i3 i4
      go_wp2
      go_round
      case rel => exact ⟨2, by omega, rfl⟩
      case measure => simp [intOf]
    | 2, _ =>
      clear i0 i1 i3 i4
      go_wp2
      go_round
      case rel => exact ⟨3, by omega, rfl⟩
      case measure => simp [intOf]
    | 3, _ =>
      clear i0 i1 i2 i4
      go_wp2
      go_round
      case rel => exact ⟨4, by omega, rfl⟩
      case measure => simp [intOf]
    | 4, _ =>
      clear i0 i1 i2 i3
      go_wp2
      go_ret2
      exact ⟨rfl, (Below.refl _ _).alloc (Nat.le_refl _) _⟩
theorem pack_c (k m : Int) (g : Bool) (a n s : Int) (h1 : k < 9223372036854775808) (h2 : m < 9223372036854775808) (h3 : a < 9223372036854775808) (h4 : n < 9223372036854775808) (h5 : s < 9223372036854775808) (w : World) :
    Calls Try.prog 100 #[.agg #[.int .i64 k, .int .i64 m, .bool g, .int .i64 a, .int .i64 n, .int .i64 s]] w fun e w' => e = .returned (.tuple #[.int .u64 (packV k m g a n s).1, .bool (packV k m g a n s).2]) ∧ Below w.heap.size w w' := by
  by_cases c1 : 0 ≤ k
  · by_cases c2 : 0 ≤ m
    · by_cases c3 : 0 ≤ a
      · by_cases c4 : 0 ≤ n
        · by_cases c5 : 0 ≤ s
          · exact pack_pos k m g a n s ⟨c1, h1⟩ ⟨c2, h2⟩ ⟨c3, h3⟩ ⟨c4, h4⟩ ⟨c5, h5⟩ w
          · rw [packV_neg _ _ _ _ _ _ (by omega)]; exact pack_neg4 k m g a n s c1 c2 c3 c4 (by omega) w
        · rw [packV_neg _ _ _ _ _ _ (by omega)]; exact pack_neg3 k m g a n s c1 c2 c3 (by omega) w
      · rw [packV_neg _ _ _ _ _ _ (by omega)]; exact pack_neg2 k m g a n s c1 c2 (by omega) w
    · rw [packV_neg _ _ _ _ _ _ (by omega)]; exact pack_neg1 k m g a n s c1 (by omega) w
  · rw [packV_neg _ _ _ _ _ _ (by omega)]; exact pack_neg0 k m g a n s (by omega) w
end Go.Proofs.Ytijfkpoofpcacaa.HeadC
end
section
namespace Go.Proofs.Ytijfkpoofpcacaa.HeadC
open Go.RowKit Go.Proofs.Ytijfkpoofpcacaa.PArenaPlays Go.Proofs.YtijfkpoofpcacaaW.PrintWords Go.Proofs.YtijfkpoofpcacaaW.PrintLast Go.Proofs.Ytijfkpoofpcacaa.Core Go.Proofs.Ytijfkpoofpcacaa.PuArenaPlays Go.Proofs.Ytijfkpoofpcacaa.PvArenaPlays
def okW (x : Int) : Bool := decide (x % 8 ≤ 4 ∧ x / 512 % 128 = 0)
def uK (x : Int) : Int := if okW x = true then x % 8 else 0
def uM (x : Int) : Int := if okW x = true then x / 8 % 2 else 0
def uG (x : Int) : Bool := okW x && (x / 16 % 2 == 1)
def uA (x : Int) : Int := if okW x = true then x / 32 % 16 else 0
def uN (x : Int) : Int := if okW x = true then x / 65536 % 4294967296 else 0
def uS (x : Int) : Int := if okW x = true then x / 281474976710656 else 0
def blackI (e : Int) : Int := if e / 4 % 2 = 0 then 1 else 0
def bornI (e : Int) : Int := if e % 4 = 0 then 1 - blackI e else blackI e
theorem u_yes {x : Int} (h : okW x = true) : uK x = x % 8 ∧ uM x = x / 8 % 2 ∧ uG x = (x / 16 % 2 == 1) ∧ uA x = x / 32 % 16 ∧ uN x = x / 65536 % 4294967296 ∧ uS x = x / 281474976710656 := by
  unfold uK uM uG uA uN uS; simp [h]
theorem u_no {x : Int} (h : okW x = false) : uK x = 0 ∧ uM x = 0 ∧ uG x = false ∧ uA x = 0 ∧ uN x = 0 ∧ uS x = 0 := by
  unfold uK uM uG uA uN uS; simp [h]
theorem u_bd (x : Int) (h0 : 0 ≤ x) (h1 : x < 18446744073709551616) : 0 ≤ uK x ∧ uK x ≤ 4 ∧ 0 ≤ uM x ∧ uM x ≤ 1 ∧ 0 ≤ uA x ∧ uA x ≤ 15 ∧ 0 ≤ uN x ∧ uN x ≤ 4294967295 ∧ 0 ≤ uS x ∧ uS x ≤ 65535 := by
  cases h : okW x with
  | true =>
    obtain ⟨e1, e2, e3, e4, e5, e6⟩ := u_yes h
    rw [e1, e2, e4, e5, e6]
    simp only [okW, decide_eq_true_eq] at h
    omega
  | false =>
    obtain ⟨e1, e2, e3, e4, e5, e6⟩ := u_no h
    rw [e1, e2, e4, e5, e6]
    decide
theorem black_bd (e : Int) : 0 ≤ blackI e ∧ blackI e ≤ 1 := by unfold blackI; split <;> decide
theorem black_eq (e : Int) (h0 : 0 ≤ e) (h1 : e < 18446744073709551616) : turn_Black.f e = some (blackI e) := by
  unfold turn_Black.f turn_Cycle.f blackI
  have t : Int.tdiv e 4 = e / 4 := Int.tdiv_eq_ediv_of_nonneg h0
  rw [Option.bind_some, t, wrap_u64_id (e / 4) (by omega) (by omega), wrap_u64_id _ (by omega) (by omega)]
  have t2 : Int.tmod (e / 4 + 1) 2 = (e / 4 + 1) % 2 := Int.tmod_eq_emod_of_nonneg (by omega)
  rw [t2, wrap64_id _ (by omega) (by omega)]
  congr 1
  split <;> omega
theorem born_c (e : Int) (h0 : 0 ≤ e) (h1 : e < 18446744073709551616) (w : World) : Calls Try.prog 101 #[.int .u64 e] w fun r w' => r = .returned (.int .i64 (bornI e)) ∧ Drawn0 w w' := by
  refine turn_Born.calls e _ w ?_
  unfold turn_Born.f bornI
  have b : turn_Black.f e = some (blackI e) := black_eq e h0 h1
  have bb := black_bd e
  rw [b, Option.bind_some, Option.bind_some, wrap64_id _ (by omega) (by omega), show Int.tmod e 4 = e % 4 from Int.tmod_eq_emod_of_nonneg h0]
  split <;> rfl
theorem unpack_eq (x : Int) (h0 : 0 ≤ x) (h1 : x < 18446744073709551616) : head_Unpack.f 10 x = some (uK x, uM x, uG x, uA x, uN x, uS x, okW x) := by
  unfold head_Unpack.f
  rw [p_Unpack 10 x _ (by simp) (by simp) h0 h1, Option.bind_some]
  have e : unpF x [3, 1, 1, 4, 7, 32, 16] 0 [] = ([x % 8, x / 8 % 2, x / 16 % 2, x / 32 % 16, x / 512 % 128, x / 65536 % 4294967296, x / 281474976710656 % 65536], true) := by simp [unpF, okB, getV]
  rw [e]
  generalize hl : [x % 8, x / 8 % 2, x / 16 % 2, x / 32 % 16, x / 512 % 128, x / 65536 % 4294967296, x / 281474976710656 % 65536] = l
  have l7 : l.length = 7 := by rw [← hl]; rfl
  have r0 : rd l 0 = x % 8 := by rw [← hl]; rfl
  have r1 : rd l 1 = x / 8 % 2 := by rw [← hl]; rfl
  have r2 : rd l 2 = x / 16 % 2 := by rw [← hl]; rfl
  have r3 : rd l 3 = x / 32 % 16 := by rw [← hl]; rfl
  have r4 : rd l 4 = x / 512 % 128 := by rw [← hl]; rfl
  have r5 : rd l 5 = x / 65536 % 4294967296 := by rw [← hl]; rfl
  have r6 : rd l 6 = x / 281474976710656 % 65536 := by rw [← hl]; rfl
  simp only [l7, r0, r1, r2, r3, r4, r5, r6]
  rw [if_neg (by decide), if_pos (by decide)]
  by_cases c : x % 8 > 4
  · have h : okW x = false := by simp [okW]; omega
    obtain ⟨e1, e2, e3, e4, e5, e6⟩ := u_no h
    rw [if_pos c, e1, e2, e3, e4, e5, e6, h]
  · rw [if_neg c, if_pos (by decide)]
    by_cases d : x / 512 % 128 = 0
    · have h : okW x = true := by simp [okW]; omega
      obtain ⟨e1, e2, e3, e4, e5, e6⟩ := u_yes h
      rw [if_pos d, if_pos (by decide), if_pos (by decide), if_pos (by decide), if_pos (by decide), if_pos (by decide), e1, e2, e3, e4, e5, e6, h, wrap64_id (x % 8) (by omega) (by omega), wrap64_id (x / 8 % 2) (by omega) (by omega), wrap64_id (x / 32 % 16) (by omega) (by omega), wrap64_id (x / 65536 % 4294967296) (by omega) (by omega), wrap64_id (x / 281474976710656 % 65536) (by omega) (by omega), show x / 281474976710656 % 65536 = x / 281474976710656 from by omega]
    · have h : okW x = false := by simp [okW]; omega
      obtain ⟨e1, e2, e3, e4, e5, e6⟩ := u_no h
      rw [if_neg d, e1, e2, e3, e4, e5, e6, h]
theorem unpack_c (x : Int) (h0 : 0 ≤ x) (h1 : x < 18446744073709551616) (w : World) :
    Calls Try.prog 86 #[.int .u64 x] w fun e w' => e = .returned (.tuple #[.agg #[.int .i64 (uK x), .int .i64 (uM x), .bool (uG x), .int .i64 (uA x), .int .i64 (uN x), .int .i64 (uS x)], .bool (okW x)]) ∧ Below w.heap.size w w' :=
  head_Unpack.calls 10 x _ _ _ _ _ _ _ w (unpack_eq x h0 h1)
theorem packV_yes (k m : Int) (g : Bool) (a n s : Int) (h : 0 ≤ k ∧ k ≤ 4 ∧ 0 ≤ m ∧ m ≤ 1 ∧ 0 ≤ a ∧ a ≤ 15 ∧ 0 ≤ n ∧ n ≤ 4294967295 ∧ 0 ≤ s ∧ s ≤ 65535) : packV k m g a n s = (headN k m g a n s, true) := by
  unfold packV headB; rw [if_pos (by simpa using h)]
theorem rPack_c (k m : Int) (g : Bool) (a n s : Int) (h : 0 ≤ k ∧ k ≤ 4 ∧ 0 ≤ m ∧ m ≤ 1 ∧ 0 ≤ a ∧ a ≤ 15 ∧ 0 ≤ n ∧ n ≤ 4294967295 ∧ 0 ≤ s ∧ s ≤ 65535) (w : World) :
    Calls Try.prog 58 #[.agg #[.int .i64 k, .int .i64 m, .bool g, .int .i64 a, .int .i64 n, .int .i64 s]] w fun e w' => e = .returned (.int .u64 (headN k m g a n s)) ∧ Below w.heap.size w w' := by
  refine withyref04_Pack.calls k m g a n s _ w ?_
  unfold withyref04_Pack.f headN
  rw [wrap_u64_id k (by omega) (by omega), wrap_u64_id m (by omega) (by omega), wrap_u64_id a (by omega) (by omega), wrap_u64_id n (by omega) (by omega), wrap_u64_id s (by omega) (by omega), wrap_u64_id (8 * m) (by omega) (by omega), wrap_u64_id (32 * a) (by omega) (by omega), wrap_u64_id (65536 * n) (by omega) (by omega), wrap_u64_id (281474976710656 * s) (by omega) (by omega),
    wrap_u64_id (k + 8 * m) (by omega) (by omega), wrap_u64_id (k + 8 * m + 32 * a) (by omega) (by omega), wrap_u64_id (k + 8 * m + 32 * a + 65536 * n) (by omega) (by omega), wrap_u64_id (k + 8 * m + 32 * a + 65536 * n + 281474976710656 * s) (by omega) (by omega)]
  split
  · rw [wrap_u64_id _ (by omega) (by omega)]; congr 1; omega
  · congr 1; omega
theorem pack_ok (k m : Int) (g : Bool) (a n s : Int) (h : 0 ≤ k ∧ k ≤ 4 ∧ 0 ≤ m ∧ m ≤ 1 ∧ 0 ≤ a ∧ a ≤ 15 ∧ 0 ≤ n ∧ n ≤ 4294967295 ∧ 0 ≤ s ∧ s ≤ 65535) (w : World) :
    Calls Try.prog 100 #[.agg #[.int .i64 k, .int .i64 m, .bool g, .int .i64 a, .int .i64 n, .int .i64 s]] w fun e w' => e = .returned (.tuple #[.int .u64 (headN k m g a n s), .bool true]) ∧ Below w.heap.size w w' := by
  have := pack_c k m g a n s (by omega) (by omega) (by omega) (by omega) (by omega) w
  rw [packV_yes k m g a n s h] at this
  exact this
theorem bT {w w1 w2 : World} (h : Below w.heap.size w w1) (k : Below w1.heap.size w1 w2) : Below w.heap.size w w2 := below_then h h.size k
def freedV (x g : Int) : Int × Bool := if okW x = true ∧ uK x = 3 then ((if g ≤ uN x + 1 ∨ uN x = 4294967295 then headN 4 (uM x) (uG x) (uA x) (uN x) (uS x) else headN 0 0 false 0 (uN x + 1) 0), true) else (x, false)
def madeV (k a n e : Int) : Int × Bool := if k = 1 ∨ k = 2 then packV k (bornI e) false a n 0 else (0, false)
end Go.Proofs.Ytijfkpoofpcacaa.HeadC
end
section
set_option linter.unusedVariables false
namespace Go.Proofs.Ytijfkpoofpcacaa.HeadC
open Go.RowKit Go.Proofs.Ytijfkpoofpcacaa.PArenaPlays Go.Proofs.YtijfkpoofpcacaaW.PrintWords Go.Proofs.YtijfkpoofpcacaaW.PrintLast Go.Proofs.Ytijfkpoofpcacaa.Core Go.Proofs.Ytijfkpoofpcacaa.PuArenaPlays Go.Proofs.Ytijfkpoofpcacaa.PvArenaPlays
set_option maxHeartbeats 1000000 in
theorem freed_no1 (x g : Int) (h0 : 0 ≤ x) (h1 : x < 18446744073709551616) (hk : okW x = false) (w : World) :
    Calls Try.prog 88 #[.int .u64 x, .int .i64 g] w fun r w' => r = .returned (.tuple #[.int .u64 x, .bool false]) ∧ Below w.heap.size w w' := by
  go_enter Try.func88, Try.ntmps88
  go_wp2_with (go_at_call 86; refine (unpack_c x h0 h1 _).mono ?_; rintro r w1 ⟨rfl, hb⟩; replace hb := Lib.hid hb)
  go_ret2
  exact ⟨rfl, below_alloc hb.out _⟩
set_option maxHeartbeats 1000000 in
theorem freed_no2 (x g : Int) (h0 : 0 ≤ x) (h1 : x < 18446744073709551616) (hk : okW x = true) (h3 : (uK x == 3) = false) (w : World) :
    Calls Try.prog 88 #[.int .u64 x, .int .i64 g] w fun r w' => r = .returned (.tuple #[.int .u64 x, .bool false]) ∧ Below w.heap.size w w' := by
  have h3' : (uK x != 3) = true := by simp at h3; simpa using h3
  go_enter Try.func88, Try.ntmps88
  go_wp2_with (go_at_call 86; refine (unpack_c x h0 h1 _).mono ?_; rintro r w1 ⟨rfl, hb⟩; replace hb := Lib.hid hb)
  go_ret2
  exact ⟨rfl, below_alloc hb.out _⟩
set_option maxHeartbeats 1000000 in
theorem freed_dead1 (x g : Int) (h0 : 0 ≤ x) (h1 : x < 18446744073709551616) (hk : okW x = true) (h3 : uK x = 3) (hg : g ≤ uN x + 1) (w : World) :
    Calls Try.prog 88 #[.int .u64 x, .int .i64 g] w fun r w' => r = .returned (.tuple #[.int .u64 (headN 4 (uM x) (uG x) (uA x) (uN x) (uS x)), .bool true]) ∧ Below w.heap.size w w' := by
  obtain ⟨b1, b2, b3, b4, b5, b6, b7, b8, b9, b10⟩ := u_bd x h0 h1
  have h3' : (uK x != 3) = false := by simp [h3]
  clear h3
  go_enter Try.func88, Try.ntmps88
  go_wp2_with (first | (go_at_call 86; refine (unpack_c x h0 h1 _).mono ?_; rintro r w1 ⟨rfl, hb⟩; replace hb := Lib.hid hb) | (go_at_call 100; refine (pack_ok _ _ _ _ _ _ (by omega) _).mono ?_; rintro r w2 ⟨rfl, hb2⟩; replace hb2 := Lib.hid hb2))
  go_ret2
  exact ⟨rfl, bT (below_alloc hb.out _) hb2.out⟩
set_option maxHeartbeats 1000000 in
theorem freed_dead2 (x g : Int) (h0 : 0 ≤ x) (h1 : x < 18446744073709551616) (hk : okW x = true) (h3 : uK x = 3) (hg : ¬ g ≤ uN x + 1) (hn : uN x = 4294967295) (w : World) :
    Calls Try.prog 88 #[.int .u64 x, .int .i64 g] w fun r w' => r = .returned (.tuple #[.int .u64 (headN 4 (uM x) (uG x) (uA x) (uN x) (uS x)), .bool true]) ∧ Below w.heap.size w w' := by
  obtain ⟨b1, b2, b3, b4, b5, b6, b7, b8, b9, b10⟩ := u_bd x h0 h1
  have h3' : (uK x != 3) = false := by simp [h3]
  clear h3
  have hn' : (4294967296 : Int) ≤ uN x + 1 := by omega
  clear hn
  have hg' : uN x + 1 < g := by omega
  clear hg
  go_enter Try.func88, Try.ntmps88
  go_wp2_with (first | (go_at_call 86; refine (unpack_c x h0 h1 _).mono ?_; rintro r w1 ⟨rfl, hb⟩; replace hb := Lib.hid hb) | (go_at_call 100; refine (pack_ok _ _ _ _ _ _ (by omega) _).mono ?_; rintro r w2 ⟨rfl, hb2⟩; replace hb2 := Lib.hid hb2))
  go_ret2
  exact ⟨rfl, bT (below_alloc hb.out _) hb2.out⟩
set_option maxHeartbeats 1000000 in
theorem freed_back (x g : Int) (h0 : 0 ≤ x) (h1 : x < 18446744073709551616) (hk : okW x = true) (h3 : uK x = 3) (hg : ¬ g ≤ uN x + 1) (hn : ¬ uN x = 4294967295) (w : World) :
    Calls Try.prog 88 #[.int .u64 x, .int .i64 g] w fun r w' => r = .returned (.tuple #[.int .u64 (headN 0 0 false 0 (uN x + 1) 0), .bool true]) ∧ Below w.heap.size w w' := by
  obtain ⟨b1, b2, b3, b4, b5, b6, b7, b8, b9, b10⟩ := u_bd x h0 h1
  have h3' : (uK x != 3) = false := by simp [h3]
  clear h3
  have hn' : uN x + 1 < 4294967296 := by omega
  clear hn
  have hg' : uN x + 1 < g := by omega
  clear hg
  go_enter Try.func88, Try.ntmps88
  go_wp2_with (first | (go_at_call 86; refine (unpack_c x h0 h1 _).mono ?_; rintro r w1 ⟨rfl, hb⟩; replace hb := Lib.hid hb) | (go_at_call 100; refine (pack_ok _ _ _ _ _ _ (by omega) _).mono ?_; rintro r w2 ⟨rfl, hb2⟩; replace hb2 := Lib.hid hb2))
  go_ret2
  exact ⟨rfl, bT (below_alloc hb.out _) hb2.out⟩
theorem freed_c (x g : Int) (h0 : 0 ≤ x) (h1 : x < 18446744073709551616) (w : World) :
    Calls Try.prog 88 #[.int .u64 x, .int .i64 g] w fun r w' => r = .returned (.tuple #[.int .u64 (freedV x g).1, .bool (freedV x g).2]) ∧ Below w.heap.size w w' := by
  cases hk : okW x with
  | false =>
    rw [show freedV x g = (x, false) from by unfold freedV; rw [if_neg (by rw [hk]; simp)]]
    exact freed_no1 x g h0 h1 hk w
  | true =>
    by_cases h3 : uK x = 3
    · by_cases hg : g ≤ uN x + 1
      · rw [show freedV x g = (headN 4 (uM x) (uG x) (uA x) (uN x) (uS x), true) from by unfold freedV; rw [if_pos ⟨hk, h3⟩, if_pos (.inl hg)]]
        exact freed_dead1 x g h0 h1 hk h3 hg w
      · by_cases hn : uN x = 4294967295
        · rw [show freedV x g = (headN 4 (uM x) (uG x) (uA x) (uN x) (uS x), true) from by unfold freedV; rw [if_pos ⟨hk, h3⟩, if_pos (.inr hn)]]
          exact freed_dead2 x g h0 h1 hk h3 hg hn w
        · rw [show freedV x g = (headN 0 0 false 0 (uN x + 1) 0, true) from by unfold freedV; rw [if_pos ⟨hk, h3⟩, if_neg (by rintro (h | h) <;> contradiction)]]
          exact freed_back x g h0 h1 hk h3 hg hn w
    · rw [show freedV x g = (x, false) from by unfold freedV; rw [if_neg (fun h => h3 h.2)]]
      exact freed_no2 x g h0 h1 hk (by simpa using h3) w
theorem born_bd (e : Int) : 0 ≤ bornI e ∧ bornI e ≤ 1 := by have := black_bd e; unfold bornI; split <;> omega
set_option maxHeartbeats 1000000 in
theorem made_no (k a n e : Int) (h2 : 0 ≤ e) (h3 : e < 18446744073709551616) (ha : a < 9223372036854775808) (hn : n < 9223372036854775808) (h1 : k ≠ 1) (h2' : k ≠ 2) (w : World) :
    Calls Try.prog 87 #[.int .i64 k, .int .i64 a, .int .i64 n, .int .u64 e] w fun r w' => r = .returned (.tuple #[.int .u64 0, .bool false]) ∧ Below w.heap.size w w' := by
  have e1 : (k != 1) = true := by simpa using h1
  have e2 : (k != 2) = true := by simpa using h2'
  clear h1 h2'
  go_enter Try.func87, Try.ntmps87
  go_wp2
  go_ret2
  exact ⟨rfl, Below.refl _ _⟩
set_option maxHeartbeats 1000000 in
theorem made_yes (k a n e : Int) (h2 : 0 ≤ e) (h3 : e < 18446744073709551616) (ha : a < 9223372036854775808) (hn : n < 9223372036854775808) (hk : k = 1 ∨ k = 2) (w : World) :
    Calls Try.prog 87 #[.int .i64 k, .int .i64 a, .int .i64 n, .int .u64 e] w fun r w' => r = .returned (.tuple #[.int .u64 (packV k (bornI e) false a n 0).1, .bool (packV k (bornI e) false a n 0).2]) ∧ Below w.heap.size w w' := by
  obtain ⟨c1, c2⟩ := born_bd e
  rcases hk with rfl | rfl
  all_goals
    go_enter Try.func87, Try.ntmps87
    go_wp2_with (first | (go_at_call 101; refine (born_c e h2 h3 _).mono ?_; rintro r w' ⟨rfl, ⟨nd, rfl⟩⟩) | (go_at_call 100; refine (pack_c _ _ _ _ _ _ (by omega) (by omega) ha hn (by omega) _).mono ?_; rintro r w2 ⟨rfl, hb2⟩; replace hb2 := Lib.hid hb2))
    go_ret2
    exact ⟨rfl, bT (pw_below_drewN (Below.refl _ _) _) hb2.out⟩
theorem made_c (k a n e : Int) (h2 : 0 ≤ e) (h3 : e < 18446744073709551616) (ha : a < 9223372036854775808) (hn : n < 9223372036854775808) (w : World) :
    Calls Try.prog 87 #[.int .i64 k, .int .i64 a, .int .i64 n, .int .u64 e] w fun r w' => r = .returned (.tuple #[.int .u64 (madeV k a n e).1, .bool (madeV k a n e).2]) ∧ Below w.heap.size w w' := by
  unfold madeV
  by_cases hk : k = 1 ∨ k = 2
  · rw [if_pos hk]; exact made_yes k a n e h2 h3 ha hn hk w
  · rw [if_neg hk]; exact made_no k a n e h2 h3 ha hn (fun h => hk (.inl h)) (fun h => hk (.inr h)) w
end Go.Proofs.Ytijfkpoofpcacaa.HeadC
end
section
set_option linter.unusedVariables false
set_option linter.unusedSectionVars false
set_option linter.unusedSimpArgs false
namespace Go.Proofs.Ytijfkpoofpcacaa.ArenaC
open Go.RowKit Go.Proofs.YtijfkpoofpcacaaW.PrintWords Go.Proofs.Ytijfkpoofpcacaa.Blk Go.Proofs.Ytijfkpoofpcacaa.Core Go.Proofs.Ytijfkpoofpcacaa.MemC Go.Proofs.Ytijfkpoofpcacaa.MemD Go.Proofs.Ytijfkpoofpcacaa.MemT Go.Proofs.Ytijfkpoofpcacaa.PlanC Go.Proofs.Ytijfkpoofpcacaa.PlanD Go.Proofs.Ytijfkpoofpcacaa.StackC Go.Proofs.Ytijfkpoofpcacaa.StackS Go.Proofs.Ytijfkpoofpcacaa.HeadC
def freeA (c : Cf) (bk : Bool) (gn : Bool) (sl : Int) (nw : Int) (pu : Option Addr) (nx : Int) : Array Value := #[.bool bk, .bool gn, .int .i64 c.S, .int .i64 c.A, .int .i64 c.C, .int .i64 c.H, .int .i64 c.G, .int .i64 c.K, .int .i64 sl, .int .u64 nw, .pointer pu, .int .i64 nx]
theorem free_cells {w : World} {p t : Nat} {c : Cf} {bk : Bool} {gn : Bool} {sl : Int} {nw : Int} {pu : Option Addr} {nx : Int} (h : Blk w p t (freeA c bk gn sl nw pu nx)) :
    w.cell? ⟨p, 0, none⟩ = some (.bool bk) ∧ w.cell? ⟨p, 1, none⟩ = some (.bool gn) ∧ w.cell? ⟨p, 2, none⟩ = some (.int .i64 c.S) ∧ w.cell? ⟨p, 3, none⟩ = some (.int .i64 c.A) ∧ w.cell? ⟨p, 4, none⟩ = some (.int .i64 c.C) ∧ w.cell? ⟨p, 5, none⟩ = some (.int .i64 c.H) ∧ w.cell? ⟨p, 6, none⟩ = some (.int .i64 c.G) ∧ w.cell? ⟨p, 7, none⟩ = some (.int .i64 c.K) ∧ w.cell? ⟨p, 8, none⟩ = some (.int .i64 sl) ∧ w.cell? ⟨p, 9, none⟩ = some (.int .u64 nw) ∧ w.cell? ⟨p, 10, none⟩ = some (.pointer pu) ∧ w.cell? ⟨p, 11, none⟩ = some (.int .i64 nx) :=
  ⟨h.cell (i := 0) rfl, h.cell (i := 1) rfl, h.cell (i := 2) rfl, h.cell (i := 3) rfl, h.cell (i := 4) rfl, h.cell (i := 5) rfl, h.cell (i := 6) rfl, h.cell (i := 7) rfl, h.cell (i := 8) rfl, h.cell (i := 9) rfl, h.cell (i := 10) rfl, h.cell (i := 11) rfl⟩
theorem free_k10 {w : World} {p : Nat} {c : Cf} {bk : Bool} {gn : Bool} {sl : Int} {nw : Int} {v : Value} (h : w.cell? ⟨p, 0, none⟩ = some (.bool bk) ∧ w.cell? ⟨p, 1, none⟩ = some (.bool gn) ∧ w.cell? ⟨p, 2, none⟩ = some (.int .i64 c.S) ∧ w.cell? ⟨p, 3, none⟩ = some (.int .i64 c.A) ∧ w.cell? ⟨p, 4, none⟩ = some (.int .i64 c.C) ∧ w.cell? ⟨p, 5, none⟩ = some (.int .i64 c.H) ∧ w.cell? ⟨p, 6, none⟩ = some (.int .i64 c.G) ∧ w.cell? ⟨p, 7, none⟩ = some (.int .i64 c.K) ∧ w.cell? ⟨p, 8, none⟩ = some (.int .i64 sl) ∧ w.cell? ⟨p, 9, none⟩ = some (.int .u64 nw)) :
    (w.setCell ⟨p, 10, none⟩ v).cell? ⟨p, 0, none⟩ = some (.bool bk) ∧ (w.setCell ⟨p, 10, none⟩ v).cell? ⟨p, 1, none⟩ = some (.bool gn) ∧ (w.setCell ⟨p, 10, none⟩ v).cell? ⟨p, 2, none⟩ = some (.int .i64 c.S) ∧ (w.setCell ⟨p, 10, none⟩ v).cell? ⟨p, 3, none⟩ = some (.int .i64 c.A) ∧ (w.setCell ⟨p, 10, none⟩ v).cell? ⟨p, 4, none⟩ = some (.int .i64 c.C) ∧ (w.setCell ⟨p, 10, none⟩ v).cell? ⟨p, 5, none⟩ = some (.int .i64 c.H) ∧ (w.setCell ⟨p, 10, none⟩ v).cell? ⟨p, 6, none⟩ = some (.int .i64 c.G) ∧ (w.setCell ⟨p, 10, none⟩ v).cell? ⟨p, 7, none⟩ = some (.int .i64 c.K) ∧ (w.setCell ⟨p, 10, none⟩ v).cell? ⟨p, 8, none⟩ = some (.int .i64 sl) ∧ (w.setCell ⟨p, 10, none⟩ v).cell? ⟨p, 9, none⟩ = some (.int .u64 nw) := by
  obtain ⟨x0, x1, x2, x3, x4, x5, x6, x7, x8, x9⟩ := h
  exact ⟨(cell_off (by decide)).trans x0, (cell_off (by decide)).trans x1, (cell_off (by decide)).trans x2, (cell_off (by decide)).trans x3, (cell_off (by decide)).trans x4, (cell_off (by decide)).trans x5, (cell_off (by decide)).trans x6, (cell_off (by decide)).trans x7, (cell_off (by decide)).trans x8, (cell_off (by decide)).trans x9⟩
theorem free_k11 {w : World} {p : Nat} {c : Cf} {bk : Bool} {gn : Bool} {sl : Int} {nw : Int} {v : Value} (h : w.cell? ⟨p, 0, none⟩ = some (.bool bk) ∧ w.cell? ⟨p, 1, none⟩ = some (.bool gn) ∧ w.cell? ⟨p, 2, none⟩ = some (.int .i64 c.S) ∧ w.cell? ⟨p, 3, none⟩ = some (.int .i64 c.A) ∧ w.cell? ⟨p, 4, none⟩ = some (.int .i64 c.C) ∧ w.cell? ⟨p, 5, none⟩ = some (.int .i64 c.H) ∧ w.cell? ⟨p, 6, none⟩ = some (.int .i64 c.G) ∧ w.cell? ⟨p, 7, none⟩ = some (.int .i64 c.K) ∧ w.cell? ⟨p, 8, none⟩ = some (.int .i64 sl) ∧ w.cell? ⟨p, 9, none⟩ = some (.int .u64 nw)) :
    (w.setCell ⟨p, 11, none⟩ v).cell? ⟨p, 0, none⟩ = some (.bool bk) ∧ (w.setCell ⟨p, 11, none⟩ v).cell? ⟨p, 1, none⟩ = some (.bool gn) ∧ (w.setCell ⟨p, 11, none⟩ v).cell? ⟨p, 2, none⟩ = some (.int .i64 c.S) ∧ (w.setCell ⟨p, 11, none⟩ v).cell? ⟨p, 3, none⟩ = some (.int .i64 c.A) ∧ (w.setCell ⟨p, 11, none⟩ v).cell? ⟨p, 4, none⟩ = some (.int .i64 c.C) ∧ (w.setCell ⟨p, 11, none⟩ v).cell? ⟨p, 5, none⟩ = some (.int .i64 c.H) ∧ (w.setCell ⟨p, 11, none⟩ v).cell? ⟨p, 6, none⟩ = some (.int .i64 c.G) ∧ (w.setCell ⟨p, 11, none⟩ v).cell? ⟨p, 7, none⟩ = some (.int .i64 c.K) ∧ (w.setCell ⟨p, 11, none⟩ v).cell? ⟨p, 8, none⟩ = some (.int .i64 sl) ∧ (w.setCell ⟨p, 11, none⟩ v).cell? ⟨p, 9, none⟩ = some (.int .u64 nw) := by
  obtain ⟨x0, x1, x2, x3, x4, x5, x6, x7, x8, x9⟩ := h
  exact ⟨(cell_off (by decide)).trans x0, (cell_off (by decide)).trans x1, (cell_off (by decide)).trans x2, (cell_off (by decide)).trans x3, (cell_off (by decide)).trans x4, (cell_off (by decide)).trans x5, (cell_off (by decide)).trans x6, (cell_off (by decide)).trans x7, (cell_off (by decide)).trans x8, (cell_off (by decide)).trans x9⟩
def four (p q m b : Nat) : Nat → Prop := fun k => k = p ∨ three q m b k
theorem fr_f {p q m b : Nat} (w : World) (i : Nat) (v : Value) : Fr (four p q m b) w (w.setCell ⟨p, i, none⟩ v) := Fr.set (four p q m b) w (p := ⟨p, i, none⟩) (.inl rfl) v
section
variable (c : Cf) (w : World) (p m b : Nat) (M : Ms) (hc : c.right = true) (hM : MemB w m b M) (ok : Ok M) (np : ¬ two m b p) (bk gn : Bool) (sl nw : Int) (pu : Option Addr)
include hc hM ok np
set_option maxHeartbeats 4000000 in
set_option maxRecDepth 100000 in
theorem free_1y (hv : (freedV (M.ldV (c.header sl)) c.G).2 = true) (hp : Blk w p 95 (freeA c bk gn sl nw pu 1)) : Calls Try.prog 59 #[.pointer (some ⟨p, 0, none⟩), .pointer (some ⟨m, 0, none⟩)] w fun e w' =>
    e = .returned (.bool false) ∧ Blk w' p 95 (freeA c bk gn sl (((freedV (M.ldV (c.header sl)) c.G).1)) pu 3) ∧ MemB w' m b (M.ldS (c.header sl)) ∧ Fr (three p m b) w w' := by
  obtain ⟨x0, x1⟩ := ldV_bd ok (c.header sl)
  have hfr := fun w => freed_c (M.ldV (c.header sl)) c.G x0 x1 w
  rw [hv] at hfr
  generalize hvx : freedV (M.ldV (c.header sl)) c.G = fv at *
  obtain ⟨f1, f2⟩ := fv
  replace hvx := Lib.hid hvx
  replace hv := Lib.hid hv
  have hl := fun w hM => load_c w m b M (c.header sl) hM ok
  generalize (M.ldV (c.header sl)) = x at *
  have hF := Lib.hid (Fr.refl (three p m b) w)
  obtain ⟨k0, k1, k2, k3, k4, k5, k6, k7, k8, k9, k10, k11⟩ := free_cells hp
  replace hp := Lib.hid hp
  replace hM := Lib.hid hM
  go_enter Try.func59, Try.ntmps59
  go_wp2
  clear k0 k1 k2 k3 k4 k5 k6 k7 k8 k9 k10 k11
  replace hp := Lib.hid hp.out.drew
  replace hM := Lib.hid hM.out.drew
  replace hF := Lib.hid (hF.out.trans (Fr.drew _ w))
  have hX0 := free_cells hp.out
  have hX : w.drew.cell? ⟨p, 0, none⟩ = some (.bool bk) ∧ w.drew.cell? ⟨p, 1, none⟩ = some (.bool gn) ∧ w.drew.cell? ⟨p, 2, none⟩ = some (.int .i64 c.S) ∧ w.drew.cell? ⟨p, 3, none⟩ = some (.int .i64 c.A) ∧ w.drew.cell? ⟨p, 4, none⟩ = some (.int .i64 c.C) ∧ w.drew.cell? ⟨p, 5, none⟩ = some (.int .i64 c.H) ∧ w.drew.cell? ⟨p, 6, none⟩ = some (.int .i64 c.G) ∧ w.drew.cell? ⟨p, 7, none⟩ = some (.int .i64 c.K) ∧ w.drew.cell? ⟨p, 8, none⟩ = some (.int .i64 sl) ∧ w.drew.cell? ⟨p, 9, none⟩ = some (.int .u64 nw) ∧ w.drew.cell? ⟨p, 10, none⟩ = some (.pointer pu) ∧ w.drew.cell? ⟨p, 11, none⟩ = some (.int .i64 1) := hX0
  clear hX0
  go_region_held3 (fun w' => w'.cell? ⟨p, 0, none⟩ = some (.bool bk) ∧ w'.cell? ⟨p, 1, none⟩ = some (.bool gn) ∧ w'.cell? ⟨p, 2, none⟩ = some (.int .i64 c.S) ∧ w'.cell? ⟨p, 3, none⟩ = some (.int .i64 c.A) ∧ w'.cell? ⟨p, 4, none⟩ = some (.int .i64 c.C) ∧ w'.cell? ⟨p, 5, none⟩ = some (.int .i64 c.H) ∧ w'.cell? ⟨p, 6, none⟩ = some (.int .i64 c.G) ∧ w'.cell? ⟨p, 7, none⟩ = some (.int .i64 c.K) ∧ w'.cell? ⟨p, 8, none⟩ = some (.int .i64 sl) ∧ w'.cell? ⟨p, 9, none⟩ = some (.int .u64 nw) ∧ w'.cell? ⟨p, 10, none⟩ = some (.pointer pu) ∧ w'.cell? ⟨p, 11, none⟩ = some (.int .i64 1)) (assumption) (first
    | (go_at_call 72; refine (headerC c _ sl).mono ?_; rintro e w3 ⟨rfl, hb⟩; replace hp := Lib.hid (hp.out.below hb hp.out.lt); replace hM := Lib.hid (hM.out.next hb); replace hF := Lib.hid (hF.out.trans (fr_below hb)); clear hb; have hY_w3 : w3.cell? ⟨p, 0, none⟩ = some (.bool bk) ∧ w3.cell? ⟨p, 1, none⟩ = some (.bool gn) ∧ w3.cell? ⟨p, 2, none⟩ = some (.int .i64 c.S) ∧ w3.cell? ⟨p, 3, none⟩ = some (.int .i64 c.A) ∧ w3.cell? ⟨p, 4, none⟩ = some (.int .i64 c.C) ∧ w3.cell? ⟨p, 5, none⟩ = some (.int .i64 c.H) ∧ w3.cell? ⟨p, 6, none⟩ = some (.int .i64 c.G) ∧ w3.cell? ⟨p, 7, none⟩ = some (.int .i64 c.K) ∧ w3.cell? ⟨p, 8, none⟩ = some (.int .i64 sl) ∧ w3.cell? ⟨p, 9, none⟩ = some (.int .u64 nw) ∧ w3.cell? ⟨p, 10, none⟩ = some (.pointer pu) ∧ w3.cell? ⟨p, 11, none⟩ = some (.int .i64 1) := (by obtain ⟨y0, y1, y2, y3, y4, y5, y6, y7, y8, y9, y10, y11⟩ := free_cells hp.out; exact ⟨y0, y1, y2, y3, y4, y5, y6, y7, y8, y9, y10, y11⟩))
    | (go_at_call 35; refine (hl _ hM.out).mono ?_; rintro e w4 ⟨rfl, hM', hF'⟩; replace hp := Lib.hid (hp.out.fr hF' np); replace hM := Lib.hid hM'; replace hF := Lib.hid (hF.out.trans (two_three hF')); clear hM' hF'; have hY_w4 : w4.cell? ⟨p, 0, none⟩ = some (.bool bk) ∧ w4.cell? ⟨p, 1, none⟩ = some (.bool gn) ∧ w4.cell? ⟨p, 2, none⟩ = some (.int .i64 c.S) ∧ w4.cell? ⟨p, 3, none⟩ = some (.int .i64 c.A) ∧ w4.cell? ⟨p, 4, none⟩ = some (.int .i64 c.C) ∧ w4.cell? ⟨p, 5, none⟩ = some (.int .i64 c.H) ∧ w4.cell? ⟨p, 6, none⟩ = some (.int .i64 c.G) ∧ w4.cell? ⟨p, 7, none⟩ = some (.int .i64 c.K) ∧ w4.cell? ⟨p, 8, none⟩ = some (.int .i64 sl) ∧ w4.cell? ⟨p, 9, none⟩ = some (.int .u64 nw) ∧ w4.cell? ⟨p, 10, none⟩ = some (.pointer pu) ∧ w4.cell? ⟨p, 11, none⟩ = some (.int .i64 1) := (by obtain ⟨y0, y1, y2, y3, y4, y5, y6, y7, y8, y9, y10, y11⟩ := free_cells hp.out; exact ⟨y0, y1, y2, y3, y4, y5, y6, y7, y8, y9, y10, y11⟩))
    | (go_at_call 88; refine (hfr _).mono ?_; rintro e w5 ⟨rfl, hb⟩; replace hp := Lib.hid (hp.out.below hb hp.out.lt); replace hM := Lib.hid (hM.out.next hb); replace hF := Lib.hid (hF.out.trans (fr_below hb)); clear hb; have z9 := hp.out.frozen 9; have z11 := hp.out.frozen 11; have hY_w5 : w5.cell? ⟨p, 0, none⟩ = some (.bool bk) ∧ w5.cell? ⟨p, 1, none⟩ = some (.bool gn) ∧ w5.cell? ⟨p, 2, none⟩ = some (.int .i64 c.S) ∧ w5.cell? ⟨p, 3, none⟩ = some (.int .i64 c.A) ∧ w5.cell? ⟨p, 4, none⟩ = some (.int .i64 c.C) ∧ w5.cell? ⟨p, 5, none⟩ = some (.int .i64 c.H) ∧ w5.cell? ⟨p, 6, none⟩ = some (.int .i64 c.G) ∧ w5.cell? ⟨p, 7, none⟩ = some (.int .i64 c.K) ∧ w5.cell? ⟨p, 8, none⟩ = some (.int .i64 sl) ∧ w5.cell? ⟨p, 9, none⟩ = some (.int .u64 nw) ∧ w5.cell? ⟨p, 10, none⟩ = some (.pointer pu) ∧ w5.cell? ⟨p, 11, none⟩ = some (.int .i64 1) := (by obtain ⟨y0, y1, y2, y3, y4, y5, y6, y7, y8, y9, y10, y11⟩ := free_cells hp.out; exact ⟨y0, y1, y2, y3, y4, y5, y6, y7, y8, y9, y10, y11⟩)))
  all_goals
    obtain ⟨l0, l1, l2, l3, l4, l5, l6, l7, l8, l9, l10, l11⟩ := hY_w5
    go_upto_region 7 with (fail)
    have hp' : Blk ((w5.setCell ⟨p, 9, none⟩ (.int .u64 f1)).setCell ⟨p, 11, none⟩ (.int .i64 3)) p 95 (freeA c bk gn sl f1 pu 3) := ((hp.out.set 9 _).set 11 _)
    have hM' := ((hM.out.set np 9 (.int .u64 f1)).set np 11 (.int .i64 3))
    have hF' := ((hF.out.trans (fr_p w5 9 (.int .u64 f1))).trans (fr_p (w5.setCell ⟨p, 9, none⟩ (.int .u64 f1)) 11 (.int .i64 3)))
    clear hp hM hF hX hY_w3 hY_w4 hfr hl z9 z11 l0 l1 l2 l3 l4 l5 l6 l7 l8 l9 l10 l11
    generalize (w5.setCell ⟨p, 9, none⟩ (.int .u64 f1)).setCell ⟨p, 11, none⟩ (.int .i64 3) = w6 at *
    have hp := Lib.hid hp'
    have hM := Lib.hid hM'
    have hF := Lib.hid hF'
    clear hp' hM' hF'
    obtain ⟨l0, l1, l2, l3, l4, l5, l6, l7, l8, l9, l10, l11⟩ := free_cells hp.out
    have z11 := hp.out.frozen 11
    go_wp2
    go_ret
    exact ⟨rfl, hp.out, hM.out, hF.out⟩
set_option maxHeartbeats 4000000 in
set_option maxRecDepth 100000 in
theorem free_1n (hv : (freedV (M.ldV (c.header sl)) c.G).2 = false) (hp : Blk w p 95 (freeA c bk gn sl nw pu 1)) : Calls Try.prog 59 #[.pointer (some ⟨p, 0, none⟩), .pointer (some ⟨m, 0, none⟩)] w fun e w' =>
    e = .returned (.bool true) ∧ Blk w' p 95 (freeA c bk gn sl (((freedV (M.ldV (c.header sl)) c.G).1)) pu 5) ∧ MemB w' m b (M.ldS (c.header sl)) ∧ Fr (three p m b) w w' := by
  obtain ⟨x0, x1⟩ := ldV_bd ok (c.header sl)
  have hfr := fun w => freed_c (M.ldV (c.header sl)) c.G x0 x1 w
  rw [hv] at hfr
  generalize hvx : freedV (M.ldV (c.header sl)) c.G = fv at *
  obtain ⟨f1, f2⟩ := fv
  replace hvx := Lib.hid hvx
  replace hv := Lib.hid hv
  have hl := fun w hM => load_c w m b M (c.header sl) hM ok
  generalize (M.ldV (c.header sl)) = x at *
  have hF := Lib.hid (Fr.refl (three p m b) w)
  obtain ⟨k0, k1, k2, k3, k4, k5, k6, k7, k8, k9, k10, k11⟩ := free_cells hp
  replace hp := Lib.hid hp
  replace hM := Lib.hid hM
  go_enter Try.func59, Try.ntmps59
  go_wp2
  clear k0 k1 k2 k3 k4 k5 k6 k7 k8 k9 k10 k11
  replace hp := Lib.hid hp.out.drew
  replace hM := Lib.hid hM.out.drew
  replace hF := Lib.hid (hF.out.trans (Fr.drew _ w))
  have hX0 := free_cells hp.out
  have hX : w.drew.cell? ⟨p, 0, none⟩ = some (.bool bk) ∧ w.drew.cell? ⟨p, 1, none⟩ = some (.bool gn) ∧ w.drew.cell? ⟨p, 2, none⟩ = some (.int .i64 c.S) ∧ w.drew.cell? ⟨p, 3, none⟩ = some (.int .i64 c.A) ∧ w.drew.cell? ⟨p, 4, none⟩ = some (.int .i64 c.C) ∧ w.drew.cell? ⟨p, 5, none⟩ = some (.int .i64 c.H) ∧ w.drew.cell? ⟨p, 6, none⟩ = some (.int .i64 c.G) ∧ w.drew.cell? ⟨p, 7, none⟩ = some (.int .i64 c.K) ∧ w.drew.cell? ⟨p, 8, none⟩ = some (.int .i64 sl) ∧ w.drew.cell? ⟨p, 9, none⟩ = some (.int .u64 nw) ∧ w.drew.cell? ⟨p, 10, none⟩ = some (.pointer pu) ∧ w.drew.cell? ⟨p, 11, none⟩ = some (.int .i64 1) := hX0
  clear hX0
  go_region_held3 (fun w' => w'.cell? ⟨p, 0, none⟩ = some (.bool bk) ∧ w'.cell? ⟨p, 1, none⟩ = some (.bool gn) ∧ w'.cell? ⟨p, 2, none⟩ = some (.int .i64 c.S) ∧ w'.cell? ⟨p, 3, none⟩ = some (.int .i64 c.A) ∧ w'.cell? ⟨p, 4, none⟩ = some (.int .i64 c.C) ∧ w'.cell? ⟨p, 5, none⟩ = some (.int .i64 c.H) ∧ w'.cell? ⟨p, 6, none⟩ = some (.int .i64 c.G) ∧ w'.cell? ⟨p, 7, none⟩ = some (.int .i64 c.K) ∧ w'.cell? ⟨p, 8, none⟩ = some (.int .i64 sl) ∧ w'.cell? ⟨p, 9, none⟩ = some (.int .u64 nw) ∧ w'.cell? ⟨p, 10, none⟩ = some (.pointer pu) ∧ w'.cell? ⟨p, 11, none⟩ = some (.int .i64 1)) (assumption) (first
    | (go_at_call 72; refine (headerC c _ sl).mono ?_; rintro e w3 ⟨rfl, hb⟩; replace hp := Lib.hid (hp.out.below hb hp.out.lt); replace hM := Lib.hid (hM.out.next hb); replace hF := Lib.hid (hF.out.trans (fr_below hb)); clear hb; have hY_w3 : w3.cell? ⟨p, 0, none⟩ = some (.bool bk) ∧ w3.cell? ⟨p, 1, none⟩ = some (.bool gn) ∧ w3.cell? ⟨p, 2, none⟩ = some (.int .i64 c.S) ∧ w3.cell? ⟨p, 3, none⟩ = some (.int .i64 c.A) ∧ w3.cell? ⟨p, 4, none⟩ = some (.int .i64 c.C) ∧ w3.cell? ⟨p, 5, none⟩ = some (.int .i64 c.H) ∧ w3.cell? ⟨p, 6, none⟩ = some (.int .i64 c.G) ∧ w3.cell? ⟨p, 7, none⟩ = some (.int .i64 c.K) ∧ w3.cell? ⟨p, 8, none⟩ = some (.int .i64 sl) ∧ w3.cell? ⟨p, 9, none⟩ = some (.int .u64 nw) ∧ w3.cell? ⟨p, 10, none⟩ = some (.pointer pu) ∧ w3.cell? ⟨p, 11, none⟩ = some (.int .i64 1) := (by obtain ⟨y0, y1, y2, y3, y4, y5, y6, y7, y8, y9, y10, y11⟩ := free_cells hp.out; exact ⟨y0, y1, y2, y3, y4, y5, y6, y7, y8, y9, y10, y11⟩))
    | (go_at_call 35; refine (hl _ hM.out).mono ?_; rintro e w4 ⟨rfl, hM', hF'⟩; replace hp := Lib.hid (hp.out.fr hF' np); replace hM := Lib.hid hM'; replace hF := Lib.hid (hF.out.trans (two_three hF')); clear hM' hF'; have hY_w4 : w4.cell? ⟨p, 0, none⟩ = some (.bool bk) ∧ w4.cell? ⟨p, 1, none⟩ = some (.bool gn) ∧ w4.cell? ⟨p, 2, none⟩ = some (.int .i64 c.S) ∧ w4.cell? ⟨p, 3, none⟩ = some (.int .i64 c.A) ∧ w4.cell? ⟨p, 4, none⟩ = some (.int .i64 c.C) ∧ w4.cell? ⟨p, 5, none⟩ = some (.int .i64 c.H) ∧ w4.cell? ⟨p, 6, none⟩ = some (.int .i64 c.G) ∧ w4.cell? ⟨p, 7, none⟩ = some (.int .i64 c.K) ∧ w4.cell? ⟨p, 8, none⟩ = some (.int .i64 sl) ∧ w4.cell? ⟨p, 9, none⟩ = some (.int .u64 nw) ∧ w4.cell? ⟨p, 10, none⟩ = some (.pointer pu) ∧ w4.cell? ⟨p, 11, none⟩ = some (.int .i64 1) := (by obtain ⟨y0, y1, y2, y3, y4, y5, y6, y7, y8, y9, y10, y11⟩ := free_cells hp.out; exact ⟨y0, y1, y2, y3, y4, y5, y6, y7, y8, y9, y10, y11⟩))
    | (go_at_call 88; refine (hfr _).mono ?_; rintro e w5 ⟨rfl, hb⟩; replace hp := Lib.hid (hp.out.below hb hp.out.lt); replace hM := Lib.hid (hM.out.next hb); replace hF := Lib.hid (hF.out.trans (fr_below hb)); clear hb; have z9 := hp.out.frozen 9; have z11 := hp.out.frozen 11; have hY_w5 : w5.cell? ⟨p, 0, none⟩ = some (.bool bk) ∧ w5.cell? ⟨p, 1, none⟩ = some (.bool gn) ∧ w5.cell? ⟨p, 2, none⟩ = some (.int .i64 c.S) ∧ w5.cell? ⟨p, 3, none⟩ = some (.int .i64 c.A) ∧ w5.cell? ⟨p, 4, none⟩ = some (.int .i64 c.C) ∧ w5.cell? ⟨p, 5, none⟩ = some (.int .i64 c.H) ∧ w5.cell? ⟨p, 6, none⟩ = some (.int .i64 c.G) ∧ w5.cell? ⟨p, 7, none⟩ = some (.int .i64 c.K) ∧ w5.cell? ⟨p, 8, none⟩ = some (.int .i64 sl) ∧ w5.cell? ⟨p, 9, none⟩ = some (.int .u64 nw) ∧ w5.cell? ⟨p, 10, none⟩ = some (.pointer pu) ∧ w5.cell? ⟨p, 11, none⟩ = some (.int .i64 1) := (by obtain ⟨y0, y1, y2, y3, y4, y5, y6, y7, y8, y9, y10, y11⟩ := free_cells hp.out; exact ⟨y0, y1, y2, y3, y4, y5, y6, y7, y8, y9, y10, y11⟩)))
  all_goals
    obtain ⟨l0, l1, l2, l3, l4, l5, l6, l7, l8, l9, l10, l11⟩ := hY_w5
    go_upto_region 7 with (fail)
    have hp' : Blk ((w5.setCell ⟨p, 9, none⟩ (.int .u64 f1)).setCell ⟨p, 11, none⟩ (.int .i64 3)) p 95 (freeA c bk gn sl f1 pu 3) := ((hp.out.set 9 _).set 11 _)
    have hM' := ((hM.out.set np 9 (.int .u64 f1)).set np 11 (.int .i64 3))
    have hF' := ((hF.out.trans (fr_p w5 9 (.int .u64 f1))).trans (fr_p (w5.setCell ⟨p, 9, none⟩ (.int .u64 f1)) 11 (.int .i64 3)))
    clear hp hM hF hX hY_w3 hY_w4 hfr hl z9 z11 l0 l1 l2 l3 l4 l5 l6 l7 l8 l9 l10 l11
    generalize (w5.setCell ⟨p, 9, none⟩ (.int .u64 f1)).setCell ⟨p, 11, none⟩ (.int .i64 3) = w6 at *
    have hp := Lib.hid hp'
    have hM := Lib.hid hM'
    have hF := Lib.hid hF'
    clear hp' hM' hF'
    obtain ⟨l0, l1, l2, l3, l4, l5, l6, l7, l8, l9, l10, l11⟩ := free_cells hp.out
    have z11 := hp.out.frozen 11
    go_wp2
    go_ret
    exact ⟨rfl, hp.out.set 11 _, hM.out.set np 11 _, hF.out.trans (fr_p _ 11 _)⟩
set_option maxHeartbeats 4000000 in
set_option maxRecDepth 100000 in
theorem free_3d (s0 : 0 ≤ sl) (s1 : sl < c.S) (n0 : 0 ≤ nw) (n1 : nw < 18446744073709551616) (hk : (uK nw == 4) = true) (hp : Blk w p 95 (freeA c bk gn sl nw pu 3)) : Calls Try.prog 59 #[.pointer (some ⟨p, 0, none⟩), .pointer (some ⟨m, 0, none⟩)] w fun e w' =>
    e = .returned (.bool true) ∧ ∃ q, w.heap.size ≤ q ∧ PushB w' q c ⟨sl, 0, 0⟩ ∧ Blk w' p 95 (freeA c bk true sl nw ((some ⟨q, 0, none⟩)) 5) ∧ MemB w' m b (M.stS (c.header sl) nw) ∧ Fr (three p m b) w w' := by
  have hu := fun w => unpack_c nw n0 n1 w
  have ltp := Blk.lt hp
  have hF := Lib.hid (Fr.refl (three p m b) w)
  obtain ⟨k0, k1, k2, k3, k4, k5, k6, k7, k8, k9, k10, k11⟩ := free_cells hp
  replace hp := Lib.hid hp
  replace hM := Lib.hid hM
  go_enter Try.func59, Try.ntmps59
  go_wp2
  clear k0 k1 k2 k3 k4 k5 k6 k7 k8 k9 k10 k11
  replace hp := Lib.hid hp.out.drew
  replace hM := Lib.hid hM.out.drew
  replace hF := Lib.hid (hF.out.trans (Fr.drew _ w))
  have hX0 := free_cells hp.out
  have hX : w.drew.cell? ⟨p, 0, none⟩ = some (.bool bk) ∧ w.drew.cell? ⟨p, 1, none⟩ = some (.bool gn) ∧ w.drew.cell? ⟨p, 2, none⟩ = some (.int .i64 c.S) ∧ w.drew.cell? ⟨p, 3, none⟩ = some (.int .i64 c.A) ∧ w.drew.cell? ⟨p, 4, none⟩ = some (.int .i64 c.C) ∧ w.drew.cell? ⟨p, 5, none⟩ = some (.int .i64 c.H) ∧ w.drew.cell? ⟨p, 6, none⟩ = some (.int .i64 c.G) ∧ w.drew.cell? ⟨p, 7, none⟩ = some (.int .i64 c.K) ∧ w.drew.cell? ⟨p, 8, none⟩ = some (.int .i64 sl) ∧ w.drew.cell? ⟨p, 9, none⟩ = some (.int .u64 nw) ∧ w.drew.cell? ⟨p, 10, none⟩ = some (.pointer pu) ∧ w.drew.cell? ⟨p, 11, none⟩ = some (.int .i64 3) := hX0
  clear hX0
  go_region_held3 (fun w' => w'.cell? ⟨p, 0, none⟩ = some (.bool bk) ∧ w'.cell? ⟨p, 1, none⟩ = some (.bool gn) ∧ w'.cell? ⟨p, 2, none⟩ = some (.int .i64 c.S) ∧ w'.cell? ⟨p, 3, none⟩ = some (.int .i64 c.A) ∧ w'.cell? ⟨p, 4, none⟩ = some (.int .i64 c.C) ∧ w'.cell? ⟨p, 5, none⟩ = some (.int .i64 c.H) ∧ w'.cell? ⟨p, 6, none⟩ = some (.int .i64 c.G) ∧ w'.cell? ⟨p, 7, none⟩ = some (.int .i64 c.K) ∧ w'.cell? ⟨p, 8, none⟩ = some (.int .i64 sl) ∧ w'.cell? ⟨p, 9, none⟩ = some (.int .u64 nw) ∧ w'.cell? ⟨p, 10, none⟩ = some (.pointer pu) ∧ w'.cell? ⟨p, 11, none⟩ = some (.int .i64 3)) (assumption) (first
    | (go_at_call 72; refine (headerC c _ sl).mono ?_; rintro e w3 ⟨rfl, hb⟩; replace hp := Lib.hid (hp.out.below hb hp.out.lt); replace hM := Lib.hid (hM.out.next hb); replace hF := Lib.hid (hF.out.trans (fr_below hb)); clear hb; have hY_w3 : w3.cell? ⟨p, 0, none⟩ = some (.bool bk) ∧ w3.cell? ⟨p, 1, none⟩ = some (.bool gn) ∧ w3.cell? ⟨p, 2, none⟩ = some (.int .i64 c.S) ∧ w3.cell? ⟨p, 3, none⟩ = some (.int .i64 c.A) ∧ w3.cell? ⟨p, 4, none⟩ = some (.int .i64 c.C) ∧ w3.cell? ⟨p, 5, none⟩ = some (.int .i64 c.H) ∧ w3.cell? ⟨p, 6, none⟩ = some (.int .i64 c.G) ∧ w3.cell? ⟨p, 7, none⟩ = some (.int .i64 c.K) ∧ w3.cell? ⟨p, 8, none⟩ = some (.int .i64 sl) ∧ w3.cell? ⟨p, 9, none⟩ = some (.int .u64 nw) ∧ w3.cell? ⟨p, 10, none⟩ = some (.pointer pu) ∧ w3.cell? ⟨p, 11, none⟩ = some (.int .i64 3) := (by obtain ⟨y0, y1, y2, y3, y4, y5, y6, y7, y8, y9, y10, y11⟩ := free_cells hp.out; exact ⟨y0, y1, y2, y3, y4, y5, y6, y7, y8, y9, y10, y11⟩))
    | (go_at_call 57; refine (store_c _ m b M (c.header sl) hM.out ok nw).mono ?_; rintro e w4 ⟨rfl, hM', hF'⟩; replace hp := Lib.hid (hp.out.fr hF' np); replace hM := Lib.hid hM'; replace hF := Lib.hid (hF.out.trans (two_three hF')); clear hM' hF'; have hY_w4 : w4.cell? ⟨p, 0, none⟩ = some (.bool bk) ∧ w4.cell? ⟨p, 1, none⟩ = some (.bool gn) ∧ w4.cell? ⟨p, 2, none⟩ = some (.int .i64 c.S) ∧ w4.cell? ⟨p, 3, none⟩ = some (.int .i64 c.A) ∧ w4.cell? ⟨p, 4, none⟩ = some (.int .i64 c.C) ∧ w4.cell? ⟨p, 5, none⟩ = some (.int .i64 c.H) ∧ w4.cell? ⟨p, 6, none⟩ = some (.int .i64 c.G) ∧ w4.cell? ⟨p, 7, none⟩ = some (.int .i64 c.K) ∧ w4.cell? ⟨p, 8, none⟩ = some (.int .i64 sl) ∧ w4.cell? ⟨p, 9, none⟩ = some (.int .u64 nw) ∧ w4.cell? ⟨p, 10, none⟩ = some (.pointer pu) ∧ w4.cell? ⟨p, 11, none⟩ = some (.int .i64 3) := (by obtain ⟨y0, y1, y2, y3, y4, y5, y6, y7, y8, y9, y10, y11⟩ := free_cells hp.out; exact ⟨y0, y1, y2, y3, y4, y5, y6, y7, y8, y9, y10, y11⟩)))
  all_goals
    clear hX hY_w3 hY_w4
    go_wp2
    replace hp := Lib.hid hp.out.drew
    replace hM := Lib.hid hM.out.drew
    replace hF := Lib.hid (hF.out.trans (Fr.drew _ w4))
    have hX0 := free_cells hp.out
    have hX : w4.drew.cell? ⟨p, 0, none⟩ = some (.bool bk) ∧ w4.drew.cell? ⟨p, 1, none⟩ = some (.bool gn) ∧ w4.drew.cell? ⟨p, 2, none⟩ = some (.int .i64 c.S) ∧ w4.drew.cell? ⟨p, 3, none⟩ = some (.int .i64 c.A) ∧ w4.drew.cell? ⟨p, 4, none⟩ = some (.int .i64 c.C) ∧ w4.drew.cell? ⟨p, 5, none⟩ = some (.int .i64 c.H) ∧ w4.drew.cell? ⟨p, 6, none⟩ = some (.int .i64 c.G) ∧ w4.drew.cell? ⟨p, 7, none⟩ = some (.int .i64 c.K) ∧ w4.drew.cell? ⟨p, 8, none⟩ = some (.int .i64 sl) ∧ w4.drew.cell? ⟨p, 9, none⟩ = some (.int .u64 nw) := by
      obtain ⟨x0, x1, x2, x3, x4, x5, x6, x7, x8, x9, x10, x11⟩ := hX0
      exact ⟨x0, x1, x2, x3, x4, x5, x6, x7, x8, x9⟩
    clear hX0
    go_region_held3 (fun w' => w'.cell? ⟨p, 0, none⟩ = some (.bool bk) ∧ w'.cell? ⟨p, 1, none⟩ = some (.bool gn) ∧ w'.cell? ⟨p, 2, none⟩ = some (.int .i64 c.S) ∧ w'.cell? ⟨p, 3, none⟩ = some (.int .i64 c.A) ∧ w'.cell? ⟨p, 4, none⟩ = some (.int .i64 c.C) ∧ w'.cell? ⟨p, 5, none⟩ = some (.int .i64 c.H) ∧ w'.cell? ⟨p, 6, none⟩ = some (.int .i64 c.G) ∧ w'.cell? ⟨p, 7, none⟩ = some (.int .i64 c.K) ∧ w'.cell? ⟨p, 8, none⟩ = some (.int .i64 sl) ∧ w'.cell? ⟨p, 9, none⟩ = some (.int .u64 nw)) (first | assumption | (refine free_k10 ?_; assumption) | (refine free_k11 ?_; assumption)) (first
      | (go_at_call 46; refine (newPushC c _ sl hc s0 s1).mono ?_; rintro e w5 ⟨q, rfl, gq, hq, hb⟩; have zq := hF.out.size; have ltq := Blk.lt hq; replace hq := Lib.hid hq; have ltw := hp.out.lt; replace hp := Lib.hid (hp.out.below hb hp.out.lt); replace hM := Lib.hid (hM.out.next hb); replace hF := Lib.hid (hF.out.trans (fr_below hb)); clear hb; have z10 := hp.out.frozen 10; have z11 := hp.out.frozen 11; have hY_w5 : w5.cell? ⟨p, 0, none⟩ = some (.bool bk) ∧ w5.cell? ⟨p, 1, none⟩ = some (.bool gn) ∧ w5.cell? ⟨p, 2, none⟩ = some (.int .i64 c.S) ∧ w5.cell? ⟨p, 3, none⟩ = some (.int .i64 c.A) ∧ w5.cell? ⟨p, 4, none⟩ = some (.int .i64 c.C) ∧ w5.cell? ⟨p, 5, none⟩ = some (.int .i64 c.H) ∧ w5.cell? ⟨p, 6, none⟩ = some (.int .i64 c.G) ∧ w5.cell? ⟨p, 7, none⟩ = some (.int .i64 c.K) ∧ w5.cell? ⟨p, 8, none⟩ = some (.int .i64 sl) ∧ w5.cell? ⟨p, 9, none⟩ = some (.int .u64 nw) := (by obtain ⟨y0, y1, y2, y3, y4, y5, y6, y7, y8, y9, y10, y11⟩ := free_cells hp.out; exact ⟨y0, y1, y2, y3, y4, y5, y6, y7, y8, y9⟩); have l10 := hp.out.cell (i := 10) (v := .pointer pu) rfl; have l11 := hp.out.cell (i := 11) (v := .int .i64 3) rfl))
    all_goals
      go_upto_region 12 with (fail)
      have nqp : q ≠ p := (by intro e; subst e; exact absurd ltw (by omega))
      have zq' : w.heap.size ≤ q := Nat.le_trans zq gq
      have hq' : PushB ((w5.setCell ⟨p, 10, none⟩ (.pointer (some ⟨q, 0, none⟩))).setCell ⟨p, 11, none⟩ (.int .i64 4)) q c ⟨sl, 0, 0⟩ := Blk.other (Blk.other hq.out ⟨p, 10, none⟩ nqp _) ⟨p, 11, none⟩ nqp _
      have hp' : Blk ((w5.setCell ⟨p, 10, none⟩ (.pointer (some ⟨q, 0, none⟩))).setCell ⟨p, 11, none⟩ (.int .i64 4)) p 95 (freeA c bk gn sl nw ((some ⟨q, 0, none⟩)) 4) := ((hp.out.set 10 _).set 11 _)
      have hM' := ((hM.out.set np 10 (.pointer (some ⟨q, 0, none⟩))).set np 11 (.int .i64 4))
      have hF' := ((hF.out.trans (fr_p w5 10 (.pointer (some ⟨q, 0, none⟩)))).trans (fr_p (w5.setCell ⟨p, 10, none⟩ (.pointer (some ⟨q, 0, none⟩))) 11 (.int .i64 4)))
      clear hp hM hF hX hY_w5 z10 z11 l10 l11 hq
      generalize (w5.setCell ⟨p, 10, none⟩ (.pointer (some ⟨q, 0, none⟩))).setCell ⟨p, 11, none⟩ (.int .i64 4) = w6 at *
      have hp := Lib.hid hp'
      have hM := Lib.hid hM'
      have hF := Lib.hid hF'
      clear hp' hM' hF'
      have hq := Lib.hid hq'
      clear hq'
      have ltq' := Blk.lt hq.out
      have l9 := hp.out.cell (i := 9) (v := .int .u64 nw) rfl
      have hk4 : uK nw = 4 := by simpa using hk
      go_wp2_with (go_at_call 86; refine (hu _).mono ?_; rintro e w7 ⟨rfl, hb⟩; rw [hk4]; replace hq := Lib.hid (Blk.below hq.out hb ltq'); replace hp := Lib.hid (hp.out.below hb hp.out.lt); replace hM := Lib.hid (hM.out.next hb); replace hF := Lib.hid (hF.out.trans (fr_below hb)); clear hb; have hN := Blk.new w7 85 (#[.int .i64 4, .int .i64 (uM nw), .bool (uG nw), .int .i64 (uA nw), .int .i64 (uN nw), .int .i64 (uS nw)] : Array Value); have n0' := hN.cell (i := 0) (v := .int .i64 4) rfl; have hpa := hp.out.alloc (.cells (#[.int .i64 4, .int .i64 (uM nw), .bool (uG nw), .int .i64 (uA nw), .int .i64 (uN nw), .int .i64 (uS nw)] : Array Value) 85); have z1 := hpa.frozen 1; have z11 := hpa.frozen 11; have a1 := hpa.cell (i := 1) (v := .bool gn) rfl; have a11 := hpa.cell (i := 11) (v := .int .i64 4) rfl)
      go_ret
      exact ⟨rfl, q, zq', Blk.other (Blk.other (Blk.alloc hq.out _) ⟨p, 1, none⟩ nqp _) ⟨p, 11, none⟩ nqp _, ((hp.out.alloc _).set 1 _).set 11 _, ((hM.out.alloc _).set np 1 _).set np 11 _, ((hF.out.trans (Fr.alloc _ w7 _)).trans (fr_p _ 1 _)).trans (fr_p _ 11 _)⟩
set_option maxHeartbeats 4000000 in
set_option maxRecDepth 100000 in
theorem free_3b (s0 : 0 ≤ sl) (s1 : sl < c.S) (n0 : 0 ≤ nw) (n1 : nw < 18446744073709551616) (hk : (uK nw == 4) = false) (hp : Blk w p 95 (freeA c bk gn sl nw pu 3)) : Calls Try.prog 59 #[.pointer (some ⟨p, 0, none⟩), .pointer (some ⟨m, 0, none⟩)] w fun e w' =>
    e = .returned (.bool false) ∧ ∃ q, w.heap.size ≤ q ∧ PushB w' q c ⟨sl, 0, 0⟩ ∧ Blk w' p 95 (freeA c bk gn sl nw ((some ⟨q, 0, none⟩)) 4) ∧ MemB w' m b (M.stS (c.header sl) nw) ∧ Fr (three p m b) w w' := by
  have hu := fun w => unpack_c nw n0 n1 w
  have ltp := Blk.lt hp
  have hF := Lib.hid (Fr.refl (three p m b) w)
  obtain ⟨k0, k1, k2, k3, k4, k5, k6, k7, k8, k9, k10, k11⟩ := free_cells hp
  replace hp := Lib.hid hp
  replace hM := Lib.hid hM
  go_enter Try.func59, Try.ntmps59
  go_wp2
  clear k0 k1 k2 k3 k4 k5 k6 k7 k8 k9 k10 k11
  replace hp := Lib.hid hp.out.drew
  replace hM := Lib.hid hM.out.drew
  replace hF := Lib.hid (hF.out.trans (Fr.drew _ w))
  have hX0 := free_cells hp.out
  have hX : w.drew.cell? ⟨p, 0, none⟩ = some (.bool bk) ∧ w.drew.cell? ⟨p, 1, none⟩ = some (.bool gn) ∧ w.drew.cell? ⟨p, 2, none⟩ = some (.int .i64 c.S) ∧ w.drew.cell? ⟨p, 3, none⟩ = some (.int .i64 c.A) ∧ w.drew.cell? ⟨p, 4, none⟩ = some (.int .i64 c.C) ∧ w.drew.cell? ⟨p, 5, none⟩ = some (.int .i64 c.H) ∧ w.drew.cell? ⟨p, 6, none⟩ = some (.int .i64 c.G) ∧ w.drew.cell? ⟨p, 7, none⟩ = some (.int .i64 c.K) ∧ w.drew.cell? ⟨p, 8, none⟩ = some (.int .i64 sl) ∧ w.drew.cell? ⟨p, 9, none⟩ = some (.int .u64 nw) ∧ w.drew.cell? ⟨p, 10, none⟩ = some (.pointer pu) ∧ w.drew.cell? ⟨p, 11, none⟩ = some (.int .i64 3) := hX0
  clear hX0
  go_region_held3 (fun w' => w'.cell? ⟨p, 0, none⟩ = some (.bool bk) ∧ w'.cell? ⟨p, 1, none⟩ = some (.bool gn) ∧ w'.cell? ⟨p, 2, none⟩ = some (.int .i64 c.S) ∧ w'.cell? ⟨p, 3, none⟩ = some (.int .i64 c.A) ∧ w'.cell? ⟨p, 4, none⟩ = some (.int .i64 c.C) ∧ w'.cell? ⟨p, 5, none⟩ = some (.int .i64 c.H) ∧ w'.cell? ⟨p, 6, none⟩ = some (.int .i64 c.G) ∧ w'.cell? ⟨p, 7, none⟩ = some (.int .i64 c.K) ∧ w'.cell? ⟨p, 8, none⟩ = some (.int .i64 sl) ∧ w'.cell? ⟨p, 9, none⟩ = some (.int .u64 nw) ∧ w'.cell? ⟨p, 10, none⟩ = some (.pointer pu) ∧ w'.cell? ⟨p, 11, none⟩ = some (.int .i64 3)) (assumption) (first
    | (go_at_call 72; refine (headerC c _ sl).mono ?_; rintro e w3 ⟨rfl, hb⟩; replace hp := Lib.hid (hp.out.below hb hp.out.lt); replace hM := Lib.hid (hM.out.next hb); replace hF := Lib.hid (hF.out.trans (fr_below hb)); clear hb; have hY_w3 : w3.cell? ⟨p, 0, none⟩ = some (.bool bk) ∧ w3.cell? ⟨p, 1, none⟩ = some (.bool gn) ∧ w3.cell? ⟨p, 2, none⟩ = some (.int .i64 c.S) ∧ w3.cell? ⟨p, 3, none⟩ = some (.int .i64 c.A) ∧ w3.cell? ⟨p, 4, none⟩ = some (.int .i64 c.C) ∧ w3.cell? ⟨p, 5, none⟩ = some (.int .i64 c.H) ∧ w3.cell? ⟨p, 6, none⟩ = some (.int .i64 c.G) ∧ w3.cell? ⟨p, 7, none⟩ = some (.int .i64 c.K) ∧ w3.cell? ⟨p, 8, none⟩ = some (.int .i64 sl) ∧ w3.cell? ⟨p, 9, none⟩ = some (.int .u64 nw) ∧ w3.cell? ⟨p, 10, none⟩ = some (.pointer pu) ∧ w3.cell? ⟨p, 11, none⟩ = some (.int .i64 3) := (by obtain ⟨y0, y1, y2, y3, y4, y5, y6, y7, y8, y9, y10, y11⟩ := free_cells hp.out; exact ⟨y0, y1, y2, y3, y4, y5, y6, y7, y8, y9, y10, y11⟩))
    | (go_at_call 57; refine (store_c _ m b M (c.header sl) hM.out ok nw).mono ?_; rintro e w4 ⟨rfl, hM', hF'⟩; replace hp := Lib.hid (hp.out.fr hF' np); replace hM := Lib.hid hM'; replace hF := Lib.hid (hF.out.trans (two_three hF')); clear hM' hF'; have hY_w4 : w4.cell? ⟨p, 0, none⟩ = some (.bool bk) ∧ w4.cell? ⟨p, 1, none⟩ = some (.bool gn) ∧ w4.cell? ⟨p, 2, none⟩ = some (.int .i64 c.S) ∧ w4.cell? ⟨p, 3, none⟩ = some (.int .i64 c.A) ∧ w4.cell? ⟨p, 4, none⟩ = some (.int .i64 c.C) ∧ w4.cell? ⟨p, 5, none⟩ = some (.int .i64 c.H) ∧ w4.cell? ⟨p, 6, none⟩ = some (.int .i64 c.G) ∧ w4.cell? ⟨p, 7, none⟩ = some (.int .i64 c.K) ∧ w4.cell? ⟨p, 8, none⟩ = some (.int .i64 sl) ∧ w4.cell? ⟨p, 9, none⟩ = some (.int .u64 nw) ∧ w4.cell? ⟨p, 10, none⟩ = some (.pointer pu) ∧ w4.cell? ⟨p, 11, none⟩ = some (.int .i64 3) := (by obtain ⟨y0, y1, y2, y3, y4, y5, y6, y7, y8, y9, y10, y11⟩ := free_cells hp.out; exact ⟨y0, y1, y2, y3, y4, y5, y6, y7, y8, y9, y10, y11⟩)))
  all_goals
    clear hX hY_w3 hY_w4
    go_wp2
    replace hp := Lib.hid hp.out.drew
    replace hM := Lib.hid hM.out.drew
    replace hF := Lib.hid (hF.out.trans (Fr.drew _ w4))
    have hX0 := free_cells hp.out
    have hX : w4.drew.cell? ⟨p, 0, none⟩ = some (.bool bk) ∧ w4.drew.cell? ⟨p, 1, none⟩ = some (.bool gn) ∧ w4.drew.cell? ⟨p, 2, none⟩ = some (.int .i64 c.S) ∧ w4.drew.cell? ⟨p, 3, none⟩ = some (.int .i64 c.A) ∧ w4.drew.cell? ⟨p, 4, none⟩ = some (.int .i64 c.C) ∧ w4.drew.cell? ⟨p, 5, none⟩ = some (.int .i64 c.H) ∧ w4.drew.cell? ⟨p, 6, none⟩ = some (.int .i64 c.G) ∧ w4.drew.cell? ⟨p, 7, none⟩ = some (.int .i64 c.K) ∧ w4.drew.cell? ⟨p, 8, none⟩ = some (.int .i64 sl) ∧ w4.drew.cell? ⟨p, 9, none⟩ = some (.int .u64 nw) := by
      obtain ⟨x0, x1, x2, x3, x4, x5, x6, x7, x8, x9, x10, x11⟩ := hX0
      exact ⟨x0, x1, x2, x3, x4, x5, x6, x7, x8, x9⟩
    clear hX0
    go_region_held3 (fun w' => w'.cell? ⟨p, 0, none⟩ = some (.bool bk) ∧ w'.cell? ⟨p, 1, none⟩ = some (.bool gn) ∧ w'.cell? ⟨p, 2, none⟩ = some (.int .i64 c.S) ∧ w'.cell? ⟨p, 3, none⟩ = some (.int .i64 c.A) ∧ w'.cell? ⟨p, 4, none⟩ = some (.int .i64 c.C) ∧ w'.cell? ⟨p, 5, none⟩ = some (.int .i64 c.H) ∧ w'.cell? ⟨p, 6, none⟩ = some (.int .i64 c.G) ∧ w'.cell? ⟨p, 7, none⟩ = some (.int .i64 c.K) ∧ w'.cell? ⟨p, 8, none⟩ = some (.int .i64 sl) ∧ w'.cell? ⟨p, 9, none⟩ = some (.int .u64 nw)) (first | assumption | (refine free_k10 ?_; assumption) | (refine free_k11 ?_; assumption)) (first
      | (go_at_call 46; refine (newPushC c _ sl hc s0 s1).mono ?_; rintro e w5 ⟨q, rfl, gq, hq, hb⟩; have zq := hF.out.size; have ltq := Blk.lt hq; replace hq := Lib.hid hq; have ltw := hp.out.lt; replace hp := Lib.hid (hp.out.below hb hp.out.lt); replace hM := Lib.hid (hM.out.next hb); replace hF := Lib.hid (hF.out.trans (fr_below hb)); clear hb; have z10 := hp.out.frozen 10; have z11 := hp.out.frozen 11; have hY_w5 : w5.cell? ⟨p, 0, none⟩ = some (.bool bk) ∧ w5.cell? ⟨p, 1, none⟩ = some (.bool gn) ∧ w5.cell? ⟨p, 2, none⟩ = some (.int .i64 c.S) ∧ w5.cell? ⟨p, 3, none⟩ = some (.int .i64 c.A) ∧ w5.cell? ⟨p, 4, none⟩ = some (.int .i64 c.C) ∧ w5.cell? ⟨p, 5, none⟩ = some (.int .i64 c.H) ∧ w5.cell? ⟨p, 6, none⟩ = some (.int .i64 c.G) ∧ w5.cell? ⟨p, 7, none⟩ = some (.int .i64 c.K) ∧ w5.cell? ⟨p, 8, none⟩ = some (.int .i64 sl) ∧ w5.cell? ⟨p, 9, none⟩ = some (.int .u64 nw) := (by obtain ⟨y0, y1, y2, y3, y4, y5, y6, y7, y8, y9, y10, y11⟩ := free_cells hp.out; exact ⟨y0, y1, y2, y3, y4, y5, y6, y7, y8, y9⟩); have l10 := hp.out.cell (i := 10) (v := .pointer pu) rfl; have l11 := hp.out.cell (i := 11) (v := .int .i64 3) rfl))
    all_goals
      go_upto_region 12 with (fail)
      have nqp : q ≠ p := (by intro e; subst e; exact absurd ltw (by omega))
      have zq' : w.heap.size ≤ q := Nat.le_trans zq gq
      have hq' : PushB ((w5.setCell ⟨p, 10, none⟩ (.pointer (some ⟨q, 0, none⟩))).setCell ⟨p, 11, none⟩ (.int .i64 4)) q c ⟨sl, 0, 0⟩ := Blk.other (Blk.other hq.out ⟨p, 10, none⟩ nqp _) ⟨p, 11, none⟩ nqp _
      have hp' : Blk ((w5.setCell ⟨p, 10, none⟩ (.pointer (some ⟨q, 0, none⟩))).setCell ⟨p, 11, none⟩ (.int .i64 4)) p 95 (freeA c bk gn sl nw ((some ⟨q, 0, none⟩)) 4) := ((hp.out.set 10 _).set 11 _)
      have hM' := ((hM.out.set np 10 (.pointer (some ⟨q, 0, none⟩))).set np 11 (.int .i64 4))
      have hF' := ((hF.out.trans (fr_p w5 10 (.pointer (some ⟨q, 0, none⟩)))).trans (fr_p (w5.setCell ⟨p, 10, none⟩ (.pointer (some ⟨q, 0, none⟩))) 11 (.int .i64 4)))
      clear hp hM hF hX hY_w5 z10 z11 l10 l11 hq
      generalize (w5.setCell ⟨p, 10, none⟩ (.pointer (some ⟨q, 0, none⟩))).setCell ⟨p, 11, none⟩ (.int .i64 4) = w6 at *
      have hp := Lib.hid hp'
      have hM := Lib.hid hM'
      have hF := Lib.hid hF'
      clear hp' hM' hF'
      have hq := Lib.hid hq'
      clear hq'
      have ltq' := Blk.lt hq.out
      have l9 := hp.out.cell (i := 9) (v := .int .u64 nw) rfl
      go_wp2_with (go_at_call 86; refine (hu _).mono ?_; rintro e w7 ⟨rfl, hb⟩; replace hq := Lib.hid (Blk.below hq.out hb ltq'); replace hp := Lib.hid (hp.out.below hb hp.out.lt); replace hM := Lib.hid (hM.out.next hb); replace hF := Lib.hid (hF.out.trans (fr_below hb)); clear hb; have hN := Blk.new w7 85 (#[.int .i64 (uK nw), .int .i64 (uM nw), .bool (uG nw), .int .i64 (uA nw), .int .i64 (uN nw), .int .i64 (uS nw)] : Array Value); have n0' := hN.cell (i := 0) (v := .int .i64 (uK nw)) rfl; have hpa := hp.out.alloc (.cells (#[.int .i64 (uK nw), .int .i64 (uM nw), .bool (uG nw), .int .i64 (uA nw), .int .i64 (uN nw), .int .i64 (uS nw)] : Array Value) 85); have z1 := hpa.frozen 1; have z11 := hpa.frozen 11; have a1 := hpa.cell (i := 1) (v := .bool gn) rfl; have a11 := hpa.cell (i := 11) (v := .int .i64 4) rfl)
      go_ret
      exact ⟨rfl, q, zq', Blk.alloc hq.out _, hp.out.alloc _, hM.out.alloc _, hF.out.trans (Fr.alloc _ w7 _)⟩
set_option maxHeartbeats 4000000 in
set_option maxRecDepth 100000 in
theorem free_4a (q : Nat) (Q : Push) (nqm : ¬ two m b q) (nqp : q ≠ p) (hQ : PushB w q c Q) (oQ : PushOk Q) (hd : pushD c Q M = true) (hp : Blk w p 95 (freeA c bk gn sl nw ((some ⟨q, 0, none⟩)) 4)) : Calls Try.prog 59 #[.pointer (some ⟨p, 0, none⟩), .pointer (some ⟨m, 0, none⟩)] w fun e w' =>
    e = .returned (.bool true) ∧ PushB w' q c (pushS c Q M) ∧ Blk w' p 95 (freeA c true gn sl nw ((some ⟨q, 0, none⟩)) 5) ∧ MemB w' m b (pushM c Q M) ∧ Fr (four p q m b) w w' := by
  have n3 : ¬ three q m b p := fun h => h.elim (fun e => nqp e.symm) np
  have hS := fun w hM hQ => pushC c w q m b M hc hM ok nqm Q hQ oQ
  rw [hd] at hS
  have hF := Lib.hid (Fr.refl (four p q m b) w)
  obtain ⟨k0, k1, k2, k3, k4, k5, k6, k7, k8, k9, k10, k11⟩ := free_cells hp
  replace hp := Lib.hid hp
  replace hM := Lib.hid hM
  replace hQ := Lib.hid hQ
  go_enter Try.func59, Try.ntmps59
  go_wp2_with (go_at_call 47; refine (hS _ hM.out hQ.out).mono ?_; rintro e w7 ⟨rfl, hQ', hM', hF'⟩; replace hp := Lib.hid (hp.out.fr hF' n3); replace hF := Lib.hid (hF.out.trans (hF'.mono (fun _ x => .inr x))); have z0 := hp.out.frozen 0; have z6 := hp.out.frozen 11; have a0 := hp.out.cell (i := 0) (v := .bool bk) rfl; have a11 := hp.out.cell (i := 11) (v := .int .i64 4) rfl)
  go_ret
  exact ⟨rfl, Blk.other (Blk.other hQ' ⟨p, 0, none⟩ nqp _) ⟨p, 11, none⟩ nqp _, (hp.out.set 0 _).set 11 _, (hM'.set np 0 _).set np 11 _, (hF.out.trans (fr_f _ 0 _)).trans (fr_f _ 11 _)⟩
set_option maxHeartbeats 4000000 in
set_option maxRecDepth 100000 in
theorem free_4b (q : Nat) (Q : Push) (nqm : ¬ two m b q) (nqp : q ≠ p) (hQ : PushB w q c Q) (oQ : PushOk Q) (hd : pushD c Q M = false) (hp : Blk w p 95 (freeA c bk gn sl nw ((some ⟨q, 0, none⟩)) 4)) : Calls Try.prog 59 #[.pointer (some ⟨p, 0, none⟩), .pointer (some ⟨m, 0, none⟩)] w fun e w' =>
    e = .returned (.bool false) ∧ PushB w' q c (pushS c Q M) ∧ Blk w' p 95 (freeA c bk gn sl nw ((some ⟨q, 0, none⟩)) 4) ∧ MemB w' m b (pushM c Q M) ∧ Fr (four p q m b) w w' := by
  have n3 : ¬ three q m b p := fun h => h.elim (fun e => nqp e.symm) np
  have hS := fun w hM hQ => pushC c w q m b M hc hM ok nqm Q hQ oQ
  rw [hd] at hS
  have hF := Lib.hid (Fr.refl (four p q m b) w)
  obtain ⟨k0, k1, k2, k3, k4, k5, k6, k7, k8, k9, k10, k11⟩ := free_cells hp
  replace hp := Lib.hid hp
  replace hM := Lib.hid hM
  replace hQ := Lib.hid hQ
  go_enter Try.func59, Try.ntmps59
  go_wp2_with (go_at_call 47; refine (hS _ hM.out hQ.out).mono ?_; rintro e w7 ⟨rfl, hQ', hM', hF'⟩; replace hp := Lib.hid (hp.out.fr hF' n3); replace hF := Lib.hid (hF.out.trans (hF'.mono (fun _ x => .inr x))); have z0 := hp.out.frozen 0; have z6 := hp.out.frozen 11; have a0 := hp.out.cell (i := 0) (v := .bool bk) rfl; have a11 := hp.out.cell (i := 11) (v := .int .i64 4) rfl)
  go_ret
  exact ⟨rfl, hQ', hp.out, hM', hF.out⟩
set_option maxHeartbeats 4000000 in
set_option maxRecDepth 100000 in
theorem free_5 (hp : Blk w p 95 (freeA c bk gn sl nw pu 5)) : Calls Try.prog 59 #[.pointer (some ⟨p, 0, none⟩), .pointer (some ⟨m, 0, none⟩)] w fun e w' => e = .returned (.bool true) ∧ w' = w := by
  obtain ⟨k0, k1, k2, k3, k4, k5, k6, k7, k8, k9, k10, k11⟩ := free_cells hp
  replace hp := Lib.hid hp
  replace hM := Lib.hid hM
  go_enter Try.func59, Try.ntmps59
  go_wp2
  go_ret
  exact ⟨rfl, rfl⟩
end
theorem newFreeC (c : Cf) (w : World) (s : Int) (h : ¬ c.header s < 0) : Calls Try.prog 54 #[.agg #[.int .i64 c.S, .int .i64 c.A, .int .i64 c.C, .int .i64 c.H, .int .i64 c.G, .int .i64 c.K], .int .i64 s] w fun e w' =>
    ∃ p, e = .returned (.pointer (some ⟨p, 0, none⟩)) ∧ w.heap.size ≤ p ∧ Blk w' p 95 (freeA c false false s 0 none 1) ∧ Below w.heap.size w w' := by
  have hf := Lib.hid (Blk.new w 23 #[.int .i64 c.S, .int .i64 c.A, .int .i64 c.C, .int .i64 c.H, .int .i64 c.G, .int .i64 c.K])
  have hb0 : decide (c.header s < 0) = false := by simpa using h
  replace hb0 := Lib.hid hb0
  clear h
  go_enter Try.func54, Try.ntmps54
  go_wp2_with (go_at_call 72; refine (headerC c _ s).mono ?_; rintro e w1 ⟨rfl, hb⟩; have hf1 := hf.out.below hb hf.out.lt; obtain ⟨k0, k1, k2, k3, k4, k5⟩ := cfgs hf1; replace hb := Lib.hid (below_pre hb); clear hf1; have hx := hb0.out; generalize c.header s = x at *)
  go_ret
  have hs := hb.out.size
  exact ⟨w1.heap.size, rfl, hs, Blk.new w1 95 _, hb.out.alloc hs _⟩
end Go.Proofs.Ytijfkpoofpcacaa.ArenaC
end
section
set_option linter.unusedVariables false
set_option linter.unusedSectionVars false
set_option linter.unusedSimpArgs false
namespace Go.Proofs.Ytijfkpoofpcacaa.ArenaM
open Go.RowKit Go.Proofs.YtijfkpoofpcacaaW.PrintWords Go.Proofs.Ytijfkpoofpcacaa.Blk Go.Proofs.Ytijfkpoofpcacaa.Core Go.Proofs.Ytijfkpoofpcacaa.MemC Go.Proofs.Ytijfkpoofpcacaa.MemD Go.Proofs.Ytijfkpoofpcacaa.MemT Go.Proofs.Ytijfkpoofpcacaa.PlanC Go.Proofs.Ytijfkpoofpcacaa.PlanD Go.Proofs.Ytijfkpoofpcacaa.StackC Go.Proofs.Ytijfkpoofpcacaa.StackS Go.Proofs.Ytijfkpoofpcacaa.HeadC Go.Proofs.Ytijfkpoofpcacaa.ArenaC
def makeA (c : Cf) (sl : Int) (fu : Bool) (kd : Int) (ar : Int) (ep : Int) (bd : Value) (po : Option Addr) (gn : Int) (ix : Int) (nx : Int) : Array Value := #[.int .i64 sl, .bool fu, .int .i64 c.S, .int .i64 c.A, .int .i64 c.C, .int .i64 c.H, .int .i64 c.G, .int .i64 c.K, .int .i64 kd, .int .i64 ar, .int .u64 ep, bd, .pointer po, .int .i64 gn, .int .i64 ix, .int .i64 nx]
theorem make_cells {w : World} {p t : Nat} {c : Cf} {sl : Int} {fu : Bool} {kd : Int} {ar : Int} {ep : Int} {bd : Value} {po : Option Addr} {gn : Int} {ix : Int} {nx : Int} (h : Blk w p t (makeA c sl fu kd ar ep bd po gn ix nx)) :
    w.cell? ⟨p, 0, none⟩ = some (.int .i64 sl) ∧ w.cell? ⟨p, 1, none⟩ = some (.bool fu) ∧ w.cell? ⟨p, 2, none⟩ = some (.int .i64 c.S) ∧ w.cell? ⟨p, 3, none⟩ = some (.int .i64 c.A) ∧ w.cell? ⟨p, 4, none⟩ = some (.int .i64 c.C) ∧ w.cell? ⟨p, 5, none⟩ = some (.int .i64 c.H) ∧ w.cell? ⟨p, 6, none⟩ = some (.int .i64 c.G) ∧ w.cell? ⟨p, 7, none⟩ = some (.int .i64 c.K) ∧ w.cell? ⟨p, 8, none⟩ = some (.int .i64 kd) ∧ w.cell? ⟨p, 9, none⟩ = some (.int .i64 ar) ∧ w.cell? ⟨p, 10, none⟩ = some (.int .u64 ep) ∧ w.cell? ⟨p, 11, none⟩ = some (bd) ∧ w.cell? ⟨p, 12, none⟩ = some (.pointer po) ∧ w.cell? ⟨p, 13, none⟩ = some (.int .i64 gn) ∧ w.cell? ⟨p, 14, none⟩ = some (.int .i64 ix) ∧ w.cell? ⟨p, 15, none⟩ = some (.int .i64 nx) :=
  ⟨h.cell (i := 0) rfl, h.cell (i := 1) rfl, h.cell (i := 2) rfl, h.cell (i := 3) rfl, h.cell (i := 4) rfl, h.cell (i := 5) rfl, h.cell (i := 6) rfl, h.cell (i := 7) rfl, h.cell (i := 8) rfl, h.cell (i := 9) rfl, h.cell (i := 10) rfl, h.cell (i := 11) rfl, h.cell (i := 12) rfl, h.cell (i := 13) rfl, h.cell (i := 14) rfl, h.cell (i := 15) rfl⟩
set_option maxHeartbeats 4000000 in
set_option maxRecDepth 100000 in
theorem make_5 (c : Cf) (w : World) (p m : Nat) (sl : Int) (fu : Bool) (kd ar ep : Int) (bd : Value) (q : Nat) (Q : Pop) (hQ : PopB w q c Q) (gn ix : Int) (hp : Blk w p 82 (makeA c sl fu kd ar ep bd ((some ⟨q, 0, none⟩)) gn ix 5)) : Calls Try.prog 52 #[.pointer (some ⟨p, 0, none⟩), .pointer (some ⟨m, 0, none⟩)] w fun e w' => e = .returned (.bool true) ∧ w = w' := by
  obtain ⟨k0, k1, k2, k3, k4, k5, k6, k7, k8, k9, k10, k11, k12, k13, k14, k15⟩ := make_cells hp
  have q0 : w.cell? ⟨q, 0, none⟩ = some (.int .i64 Q.sl) := Blk.cell hQ (i := 0) rfl
  replace hQ := Lib.hid hQ
  replace hp := Lib.hid hp
  go_enter Try.func52, Try.ntmps52
  go_wp2
  go_ret
  exact ⟨rfl, rfl⟩
set_option maxHeartbeats 4000000 in
set_option maxRecDepth 100000 in
theorem make_0b (c : Cf) (w : World) (p m b : Nat) (M : Ms) (hc : c.right = true) (hM : MemB w m b M) (ok : Ok M) (np : ¬ two m b p) (sl : Int) (fu : Bool) (kd ar ep : Int) (bd : Value) (q : Nat) (Q : Pop) (nqm : ¬ two m b q) (nqp : q ≠ p) (hQ : PopB w q c Q) (oQ : PopOk Q) (hd : popD c Q M = false) (gn ix : Int) (hp : Blk w p 82 (makeA c sl fu kd ar ep bd ((some ⟨q, 0, none⟩)) gn ix 0)) : Calls Try.prog 52 #[.pointer (some ⟨p, 0, none⟩), .pointer (some ⟨m, 0, none⟩)] w fun e w' =>
    e = .returned (.bool false) ∧ PopB w' q c (popS c Q M) ∧ Blk w' p 82 (makeA c sl fu kd ar ep bd ((some ⟨q, 0, none⟩)) gn ix 0) ∧ MemB w' m b (popM c Q M) ∧ Fr (four p q m b) w w' := by
  have n3 : ¬ three q m b p := fun h => h.elim (fun e => nqp e.symm) np
  have hS := fun w hM hQ => popC c w q m b M hc hM ok nqm Q hQ oQ
  rw [hd] at hS
  have hF := Lib.hid (Fr.refl (four p q m b) w)
  obtain ⟨k0, k1, k2, k3, k4, k5, k6, k7, k8, k9, k10, k11, k12, k13, k14, k15⟩ := make_cells hp
  have q0 : w.cell? ⟨q, 0, none⟩ = some (.int .i64 Q.sl) := Blk.cell hQ (i := 0) rfl
  replace hQ := Lib.hid hQ
  replace hp := Lib.hid hp
  replace hM := Lib.hid hM
  go_enter Try.func52, Try.ntmps52
  go_wp2_with (go_at_call 45; refine (hS _ hM.out hQ.out).mono ?_; rintro e w7 ⟨rfl, hQ', hM', hF'⟩; replace hp := Lib.hid (hp.out.fr hF' n3); replace hF := Lib.hid (hF.out.trans (hF'.mono (fun _ x => .inr x))); have z1 := hp.out.frozen 1; have z15 := hp.out.frozen 15; obtain ⟨l0, l1, l2, l3, l4, l5, l6, l7, l8, l9, l10, l11, l12, l13, l14, l15⟩ := make_cells hp.out)
  go_ret
  exact ⟨rfl, hQ', hp.out, hM', hF.out⟩
set_option maxHeartbeats 4000000 in
set_option maxRecDepth 100000 in
theorem make_0n (c : Cf) (w : World) (p m b : Nat) (M : Ms) (hc : c.right = true) (hM : MemB w m b M) (ok : Ok M) (np : ¬ two m b p) (sl : Int) (fu : Bool) (kd ar ep : Int) (bd : Value) (q : Nat) (Q : Pop) (nqm : ¬ two m b q) (nqp : q ≠ p) (hQ : PopB w q c Q) (oQ : PopOk Q) (hd : popD c Q M = true) (he : (popS c Q M).em = false) (gn ix : Int) (hp : Blk w p 82 (makeA c sl fu kd ar ep bd ((some ⟨q, 0, none⟩)) gn ix 0)) : Calls Try.prog 52 #[.pointer (some ⟨p, 0, none⟩), .pointer (some ⟨m, 0, none⟩)] w fun e w' =>
    e = .returned (.bool false) ∧ PopB w' q c (popS c Q M) ∧ Blk w' p 82 (makeA c sl fu kd ar ep bd ((some ⟨q, 0, none⟩)) gn ix 1) ∧ MemB w' m b (popM c Q M) ∧ Fr (four p q m b) w w' := by
  have n3 : ¬ three q m b p := fun h => h.elim (fun e => nqp e.symm) np
  have hS := fun w hM hQ => popC c w q m b M hc hM ok nqm Q hQ oQ
  rw [hd] at hS
  have hF := Lib.hid (Fr.refl (four p q m b) w)
  obtain ⟨k0, k1, k2, k3, k4, k5, k6, k7, k8, k9, k10, k11, k12, k13, k14, k15⟩ := make_cells hp
  have q0 : w.cell? ⟨q, 0, none⟩ = some (.int .i64 Q.sl) := Blk.cell hQ (i := 0) rfl
  replace hQ := Lib.hid hQ
  replace hp := Lib.hid hp
  replace hM := Lib.hid hM
  go_enter Try.func52, Try.ntmps52
  go_wp2_with (go_at_call 45; refine (hS _ hM.out hQ.out).mono ?_; rintro e w7 ⟨rfl, hQ', hM', hF'⟩; replace hp := Lib.hid (hp.out.fr hF' n3); replace hF := Lib.hid (hF.out.trans (hF'.mono (fun _ x => .inr x))); have b1 : w7.cell? ⟨q, 1, none⟩ = some (.bool false) := (by rw [← he]; exact Blk.cell hQ' (i := 1) rfl); have z1 := hp.out.frozen 1; have z15 := hp.out.frozen 15; obtain ⟨l0, l1, l2, l3, l4, l5, l6, l7, l8, l9, l10, l11, l12, l13, l14, l15⟩ := make_cells hp.out)
  go_ret
  exact ⟨rfl, Blk.other hQ' ⟨p, 15, none⟩ nqp _, hp.out.set 15 _, hM'.set np 15 _, hF.out.trans (fr_f _ 15 _)⟩
set_option maxHeartbeats 4000000 in
set_option maxRecDepth 100000 in
theorem make_0e (c : Cf) (w : World) (p m b : Nat) (M : Ms) (hc : c.right = true) (hM : MemB w m b M) (ok : Ok M) (np : ¬ two m b p) (sl : Int) (fu : Bool) (kd ar ep : Int) (bd : Value) (q : Nat) (Q : Pop) (nqm : ¬ two m b q) (nqp : q ≠ p) (hQ : PopB w q c Q) (oQ : PopOk Q) (hd : popD c Q M = true) (he : (popS c Q M).em = true) (gn ix : Int) (hp : Blk w p 82 (makeA c sl fu kd ar ep bd ((some ⟨q, 0, none⟩)) gn ix 0)) : Calls Try.prog 52 #[.pointer (some ⟨p, 0, none⟩), .pointer (some ⟨m, 0, none⟩)] w fun e w' =>
    e = .returned (.bool true) ∧ PopB w' q c (popS c Q M) ∧ Blk w' p 82 (makeA c sl true kd ar ep bd ((some ⟨q, 0, none⟩)) gn ix 5) ∧ MemB w' m b (popM c Q M) ∧ Fr (four p q m b) w w' := by
  have n3 : ¬ three q m b p := fun h => h.elim (fun e => nqp e.symm) np
  have hS := fun w hM hQ => popC c w q m b M hc hM ok nqm Q hQ oQ
  rw [hd] at hS
  have hF := Lib.hid (Fr.refl (four p q m b) w)
  obtain ⟨k0, k1, k2, k3, k4, k5, k6, k7, k8, k9, k10, k11, k12, k13, k14, k15⟩ := make_cells hp
  have q0 : w.cell? ⟨q, 0, none⟩ = some (.int .i64 Q.sl) := Blk.cell hQ (i := 0) rfl
  replace hQ := Lib.hid hQ
  replace hp := Lib.hid hp
  replace hM := Lib.hid hM
  go_enter Try.func52, Try.ntmps52
  go_wp2_with (go_at_call 45; refine (hS _ hM.out hQ.out).mono ?_; rintro e w7 ⟨rfl, hQ', hM', hF'⟩; replace hp := Lib.hid (hp.out.fr hF' n3); replace hF := Lib.hid (hF.out.trans (hF'.mono (fun _ x => .inr x))); have b1 : w7.cell? ⟨q, 1, none⟩ = some (.bool true) := (by rw [← he]; exact Blk.cell hQ' (i := 1) rfl); have z1 := hp.out.frozen 1; have z15 := hp.out.frozen 15; obtain ⟨l0, l1, l2, l3, l4, l5, l6, l7, l8, l9, l10, l11, l12, l13, l14, l15⟩ := make_cells hp.out)
  go_ret
  exact ⟨rfl, Blk.other (Blk.other (Blk.other hQ' ⟨p, 15, none⟩ nqp _) ⟨p, 1, none⟩ nqp _) ⟨p, 15, none⟩ nqp _, ((hp.out.set 15 _).set 1 _).set 15 _, ((hM'.set np 15 _).set np 1 _).set np 15 _, ((hF.out.trans (fr_f _ 15 _)).trans (fr_f _ 1 _)).trans (fr_f _ 15 _)⟩
set_option maxHeartbeats 4000000 in
set_option maxRecDepth 100000 in
theorem make_1 (c : Cf) (w : World) (p m b : Nat) (M : Ms) (hM : MemB w m b M) (ok : Ok M) (np : ¬ two m b p) (sl : Int) (fu : Bool) (kd ar ep : Int) (bd : Value) (q : Nat) (Q : Pop) (nqm : ¬ two m b q) (nqp : q ≠ p) (hQ : PopB w q c Q) (gn ix : Int) (hp : Blk w p 82 (makeA c sl fu kd ar ep bd ((some ⟨q, 0, none⟩)) gn ix 1)) : Calls Try.prog 52 #[.pointer (some ⟨p, 0, none⟩), .pointer (some ⟨m, 0, none⟩)] w fun e w' =>
    e = .returned (.bool false) ∧ PopB w' q c Q ∧ Blk w' p 82 (makeA c sl fu kd ar ep bd ((some ⟨q, 0, none⟩)) ((uN (M.ldV (c.header Q.sl)))) ix 2) ∧ MemB w' m b (M.ldS (c.header Q.sl)) ∧ Fr (four p q m b) w w' := by
  obtain ⟨x0, x1⟩ := ldV_bd ok (c.header Q.sl)
  have hu := fun w => unpack_c (M.ldV (c.header Q.sl)) x0 x1 w
  have hl := fun w hM => load_c w m b M (c.header Q.sl) hM ok
  generalize (M.ldV (c.header Q.sl)) = x at *
  have hF := Lib.hid (Fr.refl (four p q m b) w)
  obtain ⟨k0, k1, k2, k3, k4, k5, k6, k7, k8, k9, k10, k11, k12, k13, k14, k15⟩ := make_cells hp
  have q0 : w.cell? ⟨q, 0, none⟩ = some (.int .i64 Q.sl) := Blk.cell hQ (i := 0) rfl
  replace hQ := Lib.hid hQ
  replace hp := Lib.hid hp
  replace hM := Lib.hid hM
  go_enter Try.func52, Try.ntmps52
  go_wp2_with (first
    | (go_at_call 72; refine (headerC c _ Q.sl).mono ?_; rintro e w3 ⟨rfl, hb⟩; replace hQ := Lib.hid (Blk.below hQ.out hb (Blk.lt hQ.out)); replace hp := Lib.hid (hp.out.below hb hp.out.lt); replace hM := Lib.hid (hM.out.next hb); replace hF := Lib.hid (hF.out.trans (Fr.of_below hb (fun _ x _ => x))); clear hb)
    | (go_at_call 35; refine (hl _ hM.out).mono ?_; rintro e w4 ⟨rfl, hM', hF'⟩; replace hQ := Lib.hid (Blk.fr hQ.out hF' nqm); replace hp := Lib.hid (hp.out.fr hF' np); replace hM := Lib.hid hM'; replace hF := Lib.hid (hF.out.trans (hF'.mono (fun _ x => .inr (.inr x)))); clear hM' hF')
    | (go_at_call 86; refine (hu _).mono ?_; rintro e w7 ⟨rfl, hb⟩; replace hQ := Lib.hid (Blk.below hQ.out hb (Blk.lt hQ.out)); replace hp := Lib.hid (hp.out.below hb hp.out.lt); replace hM := Lib.hid (hM.out.next hb); replace hF := Lib.hid (hF.out.trans (Fr.of_below hb (fun _ x _ => x))); clear hb; have hN := Blk.new w7 85 (#[.int .i64 (uK x), .int .i64 (uM x), .bool (uG x), .int .i64 (uA x), .int .i64 (uN x), .int .i64 (uS x)] : Array Value); have n4 := hN.cell (i := 4) (v := .int .i64 (uN x)) rfl; have hpa := hp.out.alloc (.cells (#[.int .i64 (uK x), .int .i64 (uM x), .bool (uG x), .int .i64 (uA x), .int .i64 (uN x), .int .i64 (uS x)] : Array Value) 85); have z13 := hpa.frozen 13; have z15 := hpa.frozen 15; obtain ⟨l0, l1, l2, l3, l4, l5, l6, l7, l8, l9, l10, l11, l12, l13, l14, l15⟩ := make_cells hpa))
  go_ret
  exact ⟨rfl, Blk.other (Blk.other (Blk.alloc hQ.out _) ⟨p, 13, none⟩ nqp _) ⟨p, 15, none⟩ nqp _, ((hp.out.alloc _).set 13 _).set 15 _, ((hM.out.alloc _).set np 13 _).set np 15 _, ((hF.out.trans (Fr.alloc _ w7 _)).trans (fr_f _ 13 _)).trans (fr_f _ 15 _)⟩
end Go.Proofs.Ytijfkpoofpcacaa.ArenaM
end
