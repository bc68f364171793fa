/-
  What the law ArenaPlays needs of the seat's texts (ArenaC, ArenaM, ArenaN, ArenaP, MakerL, ArenaQ, ArenaS, StackG, ArenaT, ArenaU, RefM, ArenaW, ArenaY, MakerM, MakerF, TakerM, StackI, QueueI, TakerS, TakerT, MakerT, MakerU, MakerV): the words and functions that the kit's print.sh printed, and our own; no condition of its own.
-/
import Derived.Laws.CopyRow
import Derived.Laws.IdiomCopy
import Derived.Lib.SlBuf
import Derived.Deep.QuietTactic
import Derived.BigQuiet
import Derived.Lib.SliceRun
import Derived.Deep.DeepCutAuto
import Derived.Deep.DrawnRows
import Derived.Deep.RegionLaw
import Derived.Test.YtijfkpoofpcacaaZArenaPlays3
set_option linter.unusedVariables false
set_option linter.unusedSectionVars false
set_option linter.unusedSimpArgs false
section
namespace Go.Proofs.Ytijfkpoofpcacaa.ArenaC
open Go.RowKit Go.Proofs.YtijfkpoofpcacaaW.PrintWords Go.Proofs.Ytijfkpoofpcacaa.Blk Go.Proofs.Ytijfkpoofpcacaa.Core Go.Proofs.Ytijfkpoofpcacaa.MemC Go.Proofs.Ytijfkpoofpcacaa.MemD Go.Proofs.Ytijfkpoofpcacaa.MemT Go.Proofs.Ytijfkpoofpcacaa.PlanC Go.Proofs.Ytijfkpoofpcacaa.PlanD Go.Proofs.Ytijfkpoofpcacaa.StackC Go.Proofs.Ytijfkpoofpcacaa.StackS Go.Proofs.Ytijfkpoofpcacaa.HeadC
def freeA (c : Cf) (bk : Bool) (gn : Bool) (sl : Int) (nw : Int) (pu : Option Addr) (nx : Int) : Array Value := #[.bool bk, .bool gn, .int .i64 c.S, .int .i64 c.A, .int .i64 c.C, .int .i64 c.H, .int .i64 c.G, .int .i64 c.K, .int .i64 sl, .int .u64 nw, .pointer pu, .int .i64 nx]
theorem free_cells {w : World} {p t : Nat} {c : Cf} {bk : Bool} {gn : Bool} {sl : Int} {nw : Int} {pu : Option Addr} {nx : Int} (h : Blk w p t (freeA c bk gn sl nw pu nx)) :
    w.cell? ⟨p, 0, none⟩ = some (.bool bk) ∧ w.cell? ⟨p, 1, none⟩ = some (.bool gn) ∧ w.cell? ⟨p, 2, none⟩ = some (.int .i64 c.S) ∧ w.cell? ⟨p, 3, none⟩ = some (.int .i64 c.A) ∧ w.cell? ⟨p, 4, none⟩ = some (.int .i64 c.C) ∧ w.cell? ⟨p, 5, none⟩ = some (.int .i64 c.H) ∧ w.cell? ⟨p, 6, none⟩ = some (.int .i64 c.G) ∧ w.cell? ⟨p, 7, none⟩ = some (.int .i64 c.K) ∧ w.cell? ⟨p, 8, none⟩ = some (.int .i64 sl) ∧ w.cell? ⟨p, 9, none⟩ = some (.int .u64 nw) ∧ w.cell? ⟨p, 10, none⟩ = some (.pointer pu) ∧ w.cell? ⟨p, 11, none⟩ = some (.int .i64 nx) :=
  ⟨h.cell (i := 0) rfl, h.cell (i := 1) rfl, h.cell (i := 2) rfl, h.cell (i := 3) rfl, h.cell (i := 4) rfl, h.cell (i := 5) rfl, h.cell (i := 6) rfl, h.cell (i := 7) rfl, h.cell (i := 8) rfl, h.cell (i := 9) rfl, h.cell (i := 10) rfl, h.cell (i := 11) rfl⟩
theorem free_k10 {w : World} {p : Nat} {c : Cf} {bk : Bool} {gn : Bool} {sl : Int} {nw : Int} {v : Value} (h : w.cell? ⟨p, 0, none⟩ = some (.bool bk) ∧ w.cell? ⟨p, 1, none⟩ = some (.bool gn) ∧ w.cell? ⟨p, 2, none⟩ = some (.int .i64 c.S) ∧ w.cell? ⟨p, 3, none⟩ = some (.int .i64 c.A) ∧ w.cell? ⟨p, 4, none⟩ = some (.int .i64 c.C) ∧ w.cell? ⟨p, 5, none⟩ = some (.int .i64 c.H) ∧ w.cell? ⟨p, 6, none⟩ = some (.int .i64 c.G) ∧ w.cell? ⟨p, 7, none⟩ = some (.int .i64 c.K) ∧ w.cell? ⟨p, 8, none⟩ = some (.int .i64 sl) ∧ w.cell? ⟨p, 9, none⟩ = some (.int .u64 nw)) :
    (w.setCell ⟨p, 10, none⟩ v).cell? ⟨p, 0, none⟩ = some (.bool bk) ∧ (w.setCell ⟨p, 10, none⟩ v).cell? ⟨p, 1, none⟩ = some (.bool gn) ∧ (w.setCell ⟨p, 10, none⟩ v).cell? ⟨p, 2, none⟩ = some (.int .i64 c.S) ∧ (w.setCell ⟨p, 10, none⟩ v).cell? ⟨p, 3, none⟩ = some (.int .i64 c.A) ∧ (w.setCell ⟨p, 10, none⟩ v).cell? ⟨p, 4, none⟩ = some (.int .i64 c.C) ∧ (w.setCell ⟨p, 10, none⟩ v).cell? ⟨p, 5, none⟩ = some (.int .i64 c.H) ∧ (w.setCell ⟨p, 10, none⟩ v).cell? ⟨p, 6, none⟩ = some (.int .i64 c.G) ∧ (w.setCell ⟨p, 10, none⟩ v).cell? ⟨p, 7, none⟩ = some (.int .i64 c.K) ∧ (w.setCell ⟨p, 10, none⟩ v).cell? ⟨p, 8, none⟩ = some (.int .i64 sl) ∧ (w.setCell ⟨p, 10, none⟩ v).cell? ⟨p, 9, none⟩ = some (.int .u64 nw) := by
  obtain ⟨x0, x1, x2, x3, x4, x5, x6, x7, x8, x9⟩ := h
  exact ⟨(cell_off (by decide)).trans x0, (cell_off (by decide)).trans x1, (cell_off (by decide)).trans x2, (cell_off (by decide)).trans x3, (cell_off (by decide)).trans x4, (cell_off (by decide)).trans x5, (cell_off (by decide)).trans x6, (cell_off (by decide)).trans x7, (cell_off (by decide)).trans x8, (cell_off (by decide)).trans x9⟩
theorem free_k11 {w : World} {p : Nat} {c : Cf} {bk : Bool} {gn : Bool} {sl : Int} {nw : Int} {v : Value} (h : w.cell? ⟨p, 0, none⟩ = some (.bool bk) ∧ w.cell? ⟨p, 1, none⟩ = some (.bool gn) ∧ w.cell? ⟨p, 2, none⟩ = some (.int .i64 c.S) ∧ w.cell? ⟨p, 3, none⟩ = some (.int .i64 c.A) ∧ w.cell? ⟨p, 4, none⟩ = some (.int .i64 c.C) ∧ w.cell? ⟨p, 5, none⟩ = some (.int .i64 c.H) ∧ w.cell? ⟨p, 6, none⟩ = some (.int .i64 c.G) ∧ w.cell? ⟨p, 7, none⟩ = some (.int .i64 c.K) ∧ w.cell? ⟨p, 8, none⟩ = some (.int .i64 sl) ∧ w.cell? ⟨p, 9, none⟩ = some (.int .u64 nw)) :
    (w.setCell ⟨p, 11, none⟩ v).cell? ⟨p, 0, none⟩ = some (.bool bk) ∧ (w.setCell ⟨p, 11, none⟩ v).cell? ⟨p, 1, none⟩ = some (.bool gn) ∧ (w.setCell ⟨p, 11, none⟩ v).cell? ⟨p, 2, none⟩ = some (.int .i64 c.S) ∧ (w.setCell ⟨p, 11, none⟩ v).cell? ⟨p, 3, none⟩ = some (.int .i64 c.A) ∧ (w.setCell ⟨p, 11, none⟩ v).cell? ⟨p, 4, none⟩ = some (.int .i64 c.C) ∧ (w.setCell ⟨p, 11, none⟩ v).cell? ⟨p, 5, none⟩ = some (.int .i64 c.H) ∧ (w.setCell ⟨p, 11, none⟩ v).cell? ⟨p, 6, none⟩ = some (.int .i64 c.G) ∧ (w.setCell ⟨p, 11, none⟩ v).cell? ⟨p, 7, none⟩ = some (.int .i64 c.K) ∧ (w.setCell ⟨p, 11, none⟩ v).cell? ⟨p, 8, none⟩ = some (.int .i64 sl) ∧ (w.setCell ⟨p, 11, none⟩ v).cell? ⟨p, 9, none⟩ = some (.int .u64 nw) := by
  obtain ⟨x0, x1, x2, x3, x4, x5, x6, x7, x8, x9⟩ := h
  exact ⟨(cell_off (by decide)).trans x0, (cell_off (by decide)).trans x1, (cell_off (by decide)).trans x2, (cell_off (by decide)).trans x3, (cell_off (by decide)).trans x4, (cell_off (by decide)).trans x5, (cell_off (by decide)).trans x6, (cell_off (by decide)).trans x7, (cell_off (by decide)).trans x8, (cell_off (by decide)).trans x9⟩
def four (p q m b : Nat) : Nat → Prop := fun k => k = p ∨ three q m b k
theorem fr_f {p q m b : Nat} (w : World) (i : Nat) (v : Value) : Fr (four p q m b) w (w.setCell ⟨p, i, none⟩ v) := Fr.set (four p q m b) w (p := ⟨p, i, none⟩) (.inl rfl) v
section
variable (c : Cf) (w : World) (p m b : Nat) (M : Ms) (hc : c.right = true) (hM : MemB w m b M) (ok : Ok M) (np : ¬ two m b p) (bk gn : Bool) (sl nw : Int) (pu : Option Addr)
include hc hM ok np
set_option maxHeartbeats 4000000 in
set_option maxRecDepth 100000 in
theorem free_1y (hv : (freedV (M.ldV (c.header sl)) c.G).2 = true) (hp : Blk w p 95 (freeA c bk gn sl nw pu 1)) : Calls Try.prog 59 #[.pointer (some ⟨p, 0, none⟩), .pointer (some ⟨m, 0, none⟩)] w fun e w' =>
    e = .returned (.bool false) ∧ Blk w' p 95 (freeA c bk gn sl (((freedV (M.ldV (c.header sl)) c.G).1)) pu 3) ∧ MemB w' m b (M.ldS (c.header sl)) ∧ Fr (three p m b) w w' := by
  obtain ⟨x0, x1⟩ := ldV_bd ok (c.header sl)
  have hfr := fun w => freed_c (M.ldV (c.header sl)) c.G x0 x1 w
  rw [hv] at hfr
  generalize hvx : freedV (M.ldV (c.header sl)) c.G = fv at *
  obtain ⟨f1, f2⟩ := fv
  replace hvx := Lib.hid hvx
  replace hv := Lib.hid hv
  have hl := fun w hM => load_c w m b M (c.header sl) hM ok
  generalize (M.ldV (c.header sl)) = x at *
  have hF := Lib.hid (Fr.refl (three p m b) w)
  obtain ⟨k0, k1, k2, k3, k4, k5, k6, k7, k8, k9, k10, k11⟩ := free_cells hp
  replace hp := Lib.hid hp
  replace hM := Lib.hid hM
  go_enter Try.func59, Try.ntmps59
  go_wp2
  clear k0 k1 k2 k3 k4 k5 k6 k7 k8 k9 k10 k11
  replace hp := Lib.hid hp.out.drew
  replace hM := Lib.hid hM.out.drew
  replace hF := Lib.hid (hF.out.trans (Fr.drew _ w))
  have hX0 := free_cells hp.out
  have hX : w.drew.cell? ⟨p, 0, none⟩ = some (.bool bk) ∧ w.drew.cell? ⟨p, 1, none⟩ = some (.bool gn) ∧ w.drew.cell? ⟨p, 2, none⟩ = some (.int .i64 c.S) ∧ w.drew.cell? ⟨p, 3, none⟩ = some (.int .i64 c.A) ∧ w.drew.cell? ⟨p, 4, none⟩ = some (.int .i64 c.C) ∧ w.drew.cell? ⟨p, 5, none⟩ = some (.int .i64 c.H) ∧ w.drew.cell? ⟨p, 6, none⟩ = some (.int .i64 c.G) ∧ w.drew.cell? ⟨p, 7, none⟩ = some (.int .i64 c.K) ∧ w.drew.cell? ⟨p, 8, none⟩ = some (.int .i64 sl) ∧ w.drew.cell? ⟨p, 9, none⟩ = some (.int .u64 nw) ∧ w.drew.cell? ⟨p, 10, none⟩ = some (.pointer pu) ∧ w.drew.cell? ⟨p, 11, none⟩ = some (.int .i64 1) := hX0
  clear hX0
  go_region_held3 (fun w' => w'.cell? ⟨p, 0, none⟩ = some (.bool bk) ∧ w'.cell? ⟨p, 1, none⟩ = some (.bool gn) ∧ w'.cell? ⟨p, 2, none⟩ = some (.int .i64 c.S) ∧ w'.cell? ⟨p, 3, none⟩ = some (.int .i64 c.A) ∧ w'.cell? ⟨p, 4, none⟩ = some (.int .i64 c.C) ∧ w'.cell? ⟨p, 5, none⟩ = some (.int .i64 c.H) ∧ w'.cell? ⟨p, 6, none⟩ = some (.int .i64 c.G) ∧ w'.cell? ⟨p, 7, none⟩ = some (.int .i64 c.K) ∧ w'.cell? ⟨p, 8, none⟩ = some (.int .i64 sl) ∧ w'.cell? ⟨p, 9, none⟩ = some (.int .u64 nw) ∧ w'.cell? ⟨p, 10, none⟩ = some (.pointer pu) ∧ w'.cell? ⟨p, 11, none⟩ = some (.int .i64 1)) (assumption) (first
    | (go_at_call 72; refine (headerC c _ sl).mono ?_; rintro e w3 ⟨rfl, hb⟩; replace hp := Lib.hid (hp.out.below hb hp.out.lt); replace hM := Lib.hid (hM.out.next hb); replace hF := Lib.hid (hF.out.trans (fr_below hb)); clear hb; have hY_w3 : w3.cell? ⟨p, 0, none⟩ = some (.bool bk) ∧ w3.cell? ⟨p, 1, none⟩ = some (.bool gn) ∧ w3.cell? ⟨p, 2, none⟩ = some (.int .i64 c.S) ∧ w3.cell? ⟨p, 3, none⟩ = some (.int .i64 c.A) ∧ w3.cell? ⟨p, 4, none⟩ = some (.int .i64 c.C) ∧ w3.cell? ⟨p, 5, none⟩ = some (.int .i64 c.H) ∧ w3.cell? ⟨p, 6, none⟩ = some (.int .i64 c.G) ∧ w3.cell? ⟨p, 7, none⟩ = some (.int .i64 c.K) ∧ w3.cell? ⟨p, 8, none⟩ = some (.int .i64 sl) ∧ w3.cell? ⟨p, 9, none⟩ = some (.int .u64 nw) ∧ w3.cell? ⟨p, 10, none⟩ = some (.pointer pu) ∧ w3.cell? ⟨p, 11, none⟩ = some (.int .i64 1) := (by obtain ⟨y0, y1, y2, y3, y4, y5, y6, y7, y8, y9, y10, y11⟩ := free_cells hp.out; exact ⟨y0, y1, y2, y3, y4, y5, y6, y7, y8, y9, y10, y11⟩))
    | (go_at_call 35; refine (hl _ hM.out).mono ?_; rintro e w4 ⟨rfl, hM', hF'⟩; replace hp := Lib.hid (hp.out.fr hF' np); replace hM := Lib.hid hM'; replace hF := Lib.hid (hF.out.trans (two_three hF')); clear hM' hF'; have hY_w4 : w4.cell? ⟨p, 0, none⟩ = some (.bool bk) ∧ w4.cell? ⟨p, 1, none⟩ = some (.bool gn) ∧ w4.cell? ⟨p, 2, none⟩ = some (.int .i64 c.S) ∧ w4.cell? ⟨p, 3, none⟩ = some (.int .i64 c.A) ∧ w4.cell? ⟨p, 4, none⟩ = some (.int .i64 c.C) ∧ w4.cell? ⟨p, 5, none⟩ = some (.int .i64 c.H) ∧ w4.cell? ⟨p, 6, none⟩ = some (.int .i64 c.G) ∧ w4.cell? ⟨p, 7, none⟩ = some (.int .i64 c.K) ∧ w4.cell? ⟨p, 8, none⟩ = some (.int .i64 sl) ∧ w4.cell? ⟨p, 9, none⟩ = some (.int .u64 nw) ∧ w4.cell? ⟨p, 10, none⟩ = some (.pointer pu) ∧ w4.cell? ⟨p, 11, none⟩ = some (.int .i64 1) := (by obtain ⟨y0, y1, y2, y3, y4, y5, y6, y7, y8, y9, y10, y11⟩ := free_cells hp.out; exact ⟨y0, y1, y2, y3, y4, y5, y6, y7, y8, y9, y10, y11⟩))
    | (go_at_call 88; refine (hfr _).mono ?_; rintro e w5 ⟨rfl, hb⟩; replace hp := Lib.hid (hp.out.below hb hp.out.lt); replace hM := Lib.hid (hM.out.next hb); replace hF := Lib.hid (hF.out.trans (fr_below hb)); clear hb; have z9 := hp.out.frozen 9; have z11 := hp.out.frozen 11; have hY_w5 : w5.cell? ⟨p, 0, none⟩ = some (.bool bk) ∧ w5.cell? ⟨p, 1, none⟩ = some (.bool gn) ∧ w5.cell? ⟨p, 2, none⟩ = some (.int .i64 c.S) ∧ w5.cell? ⟨p, 3, none⟩ = some (.int .i64 c.A) ∧ w5.cell? ⟨p, 4, none⟩ = some (.int .i64 c.C) ∧ w5.cell? ⟨p, 5, none⟩ = some (.int .i64 c.H) ∧ w5.cell? ⟨p, 6, none⟩ = some (.int .i64 c.G) ∧ w5.cell? ⟨p, 7, none⟩ = some (.int .i64 c.K) ∧ w5.cell? ⟨p, 8, none⟩ = some (.int .i64 sl) ∧ w5.cell? ⟨p, 9, none⟩ = some (.int .u64 nw) ∧ w5.cell? ⟨p, 10, none⟩ = some (.pointer pu) ∧ w5.cell? ⟨p, 11, none⟩ = some (.int .i64 1) := (by obtain ⟨y0, y1, y2, y3, y4, y5, y6, y7, y8, y9, y10, y11⟩ := free_cells hp.out; exact ⟨y0, y1, y2, y3, y4, y5, y6, y7, y8, y9, y10, y11⟩)))
  all_goals
    obtain ⟨l0, l1, l2, l3, l4, l5, l6, l7, l8, l9, l10, l11⟩ := hY_w5
    go_upto_region 7 with (fail)
    have hp' : Blk ((w5.setCell ⟨p, 9, none⟩ (.int .u64 f1)).setCell ⟨p, 11, none⟩ (.int .i64 3)) p 95 (freeA c bk gn sl f1 pu 3) := ((hp.out.set 9 _).set 11 _)
    have hM' := ((hM.out.set np 9 (.int .u64 f1)).set np 11 (.int .i64 3))
    have hF' := ((hF.out.trans (fr_p w5 9 (.int .u64 f1))).trans (fr_p (w5.setCell ⟨p, 9, none⟩ (.int .u64 f1)) 11 (.int .i64 3)))
    clear hp hM hF hX hY_w3 hY_w4 hfr hl z9 z11 l0 l1 l2 l3 l4 l5 l6 l7 l8 l9 l10 l11
    generalize (w5.setCell ⟨p, 9, none⟩ (.int .u64 f1)).setCell ⟨p, 11, none⟩ (.int .i64 3) = w6 at *
    have hp := Lib.hid hp'
    have hM := Lib.hid hM'
    have hF := Lib.hid hF'
    clear hp' hM' hF'
    obtain ⟨l0, l1, l2, l3, l4, l5, l6, l7, l8, l9, l10, l11⟩ := free_cells hp.out
    have z11 := hp.out.frozen 11
    go_wp2
    go_ret
    exact ⟨rfl, hp.out, hM.out, hF.out⟩
set_option maxHeartbeats 4000000 in
set_option maxRecDepth 100000 in
theorem free_1n (hv : (freedV (M.ldV (c.header sl)) c.G).2 = false) (hp : Blk w p 95 (freeA c bk gn sl nw pu 1)) : Calls Try.prog 59 #[.pointer (some ⟨p, 0, none⟩), .pointer (some ⟨m, 0, none⟩)] w fun e w' =>
    e = .returned (.bool true) ∧ Blk w' p 95 (freeA c bk gn sl (((freedV (M.ldV (c.header sl)) c.G).1)) pu 5) ∧ MemB w' m b (M.ldS (c.header sl)) ∧ Fr (three p m b) w w' := by
  obtain ⟨x0, x1⟩ := ldV_bd ok (c.header sl)
  have hfr := fun w => freed_c (M.ldV (c.header sl)) c.G x0 x1 w
  rw [hv] at hfr
  generalize hvx : freedV (M.ldV (c.header sl)) c.G = fv at *
  obtain ⟨f1, f2⟩ := fv
  replace hvx := Lib.hid hvx
  replace hv := Lib.hid hv
  have hl := fun w hM => load_c w m b M (c.header sl) hM ok
  generalize (M.ldV (c.header sl)) = x at *
  have hF := Lib.hid (Fr.refl (three p m b) w)
  obtain ⟨k0, k1, k2, k3, k4, k5, k6, k7, k8, k9, k10, k11⟩ := free_cells hp
  replace hp := Lib.hid hp
  replace hM := Lib.hid hM
  go_enter Try.func59, Try.ntmps59
  go_wp2
  clear k0 k1 k2 k3 k4 k5 k6 k7 k8 k9 k10 k11
  replace hp := Lib.hid hp.out.drew
  replace hM := Lib.hid hM.out.drew
  replace hF := Lib.hid (hF.out.trans (Fr.drew _ w))
  have hX0 := free_cells hp.out
  have hX : w.drew.cell? ⟨p, 0, none⟩ = some (.bool bk) ∧ w.drew.cell? ⟨p, 1, none⟩ = some (.bool gn) ∧ w.drew.cell? ⟨p, 2, none⟩ = some (.int .i64 c.S) ∧ w.drew.cell? ⟨p, 3, none⟩ = some (.int .i64 c.A) ∧ w.drew.cell? ⟨p, 4, none⟩ = some (.int .i64 c.C) ∧ w.drew.cell? ⟨p, 5, none⟩ = some (.int .i64 c.H) ∧ w.drew.cell? ⟨p, 6, none⟩ = some (.int .i64 c.G) ∧ w.drew.cell? ⟨p, 7, none⟩ = some (.int .i64 c.K) ∧ w.drew.cell? ⟨p, 8, none⟩ = some (.int .i64 sl) ∧ w.drew.cell? ⟨p, 9, none⟩ = some (.int .u64 nw) ∧ w.drew.cell? ⟨p, 10, none⟩ = some (.pointer pu) ∧ w.drew.cell? ⟨p, 11, none⟩ = some (.int .i64 1) := hX0
  clear hX0
  go_region_held3 (fun w' => w'.cell? ⟨p, 0, none⟩ = some (.bool bk) ∧ w'.cell? ⟨p, 1, none⟩ = some (.bool gn) ∧ w'.cell? ⟨p, 2, none⟩ = some (.int .i64 c.S) ∧ w'.cell? ⟨p, 3, none⟩ = some (.int .i64 c.A) ∧ w'.cell? ⟨p, 4, none⟩ = some (.int .i64 c.C) ∧ w'.cell? ⟨p, 5, none⟩ = some (.int .i64 c.H) ∧ w'.cell? ⟨p, 6, none⟩ = some (.int .i64 c.G) ∧ w'.cell? ⟨p, 7, none⟩ = some (.int .i64 c.K) ∧ w'.cell? ⟨p, 8, none⟩ = some (.int .i64 sl) ∧ w'.cell? ⟨p, 9, none⟩ = some (.int .u64 nw) ∧ w'.cell? ⟨p, 10, none⟩ = some (.pointer pu) ∧ w'.cell? ⟨p, 11, none⟩ = some (.int .i64 1)) (assumption) (first
    | (go_at_call 72; refine (headerC c _ sl).mono ?_; rintro e w3 ⟨rfl, hb⟩; replace hp := Lib.hid (hp.out.below hb hp.out.lt); replace hM := Lib.hid (hM.out.next hb); replace hF := Lib.hid (hF.out.trans (fr_below hb)); clear hb; have hY_w3 : w3.cell? ⟨p, 0, none⟩ = some (.bool bk) ∧ w3.cell? ⟨p, 1, none⟩ = some (.bool gn) ∧ w3.cell? ⟨p, 2, none⟩ = some (.int .i64 c.S) ∧ w3.cell? ⟨p, 3, none⟩ = some (.int .i64 c.A) ∧ w3.cell? ⟨p, 4, none⟩ = some (.int .i64 c.C) ∧ w3.cell? ⟨p, 5, none⟩ = some (.int .i64 c.H) ∧ w3.cell? ⟨p, 6, none⟩ = some (.int .i64 c.G) ∧ w3.cell? ⟨p, 7, none⟩ = some (.int .i64 c.K) ∧ w3.cell? ⟨p, 8, none⟩ = some (.int .i64 sl) ∧ w3.cell? ⟨p, 9, none⟩ = some (.int .u64 nw) ∧ w3.cell? ⟨p, 10, none⟩ = some (.pointer pu) ∧ w3.cell? ⟨p, 11, none⟩ = some (.int .i64 1) := (by obtain ⟨y0, y1, y2, y3, y4, y5, y6, y7, y8, y9, y10, y11⟩ := free_cells hp.out; exact ⟨y0, y1, y2, y3, y4, y5, y6, y7, y8, y9, y10, y11⟩))
    | (go_at_call 35; refine (hl _ hM.out).mono ?_; rintro e w4 ⟨rfl, hM', hF'⟩; replace hp := Lib.hid (hp.out.fr hF' np); replace hM := Lib.hid hM'; replace hF := Lib.hid (hF.out.trans (two_three hF')); clear hM' hF'; have hY_w4 : w4.cell? ⟨p, 0, none⟩ = some (.bool bk) ∧ w4.cell? ⟨p, 1, none⟩ = some (.bool gn) ∧ w4.cell? ⟨p, 2, none⟩ = some (.int .i64 c.S) ∧ w4.cell? ⟨p, 3, none⟩ = some (.int .i64 c.A) ∧ w4.cell? ⟨p, 4, none⟩ = some (.int .i64 c.C) ∧ w4.cell? ⟨p, 5, none⟩ = some (.int .i64 c.H) ∧ w4.cell? ⟨p, 6, none⟩ = some (.int .i64 c.G) ∧ w4.cell? ⟨p, 7, none⟩ = some (.int .i64 c.K) ∧ w4.cell? ⟨p, 8, none⟩ = some (.int .i64 sl) ∧ w4.cell? ⟨p, 9, none⟩ = some (.int .u64 nw) ∧ w4.cell? ⟨p, 10, none⟩ = some (.pointer pu) ∧ w4.cell? ⟨p, 11, none⟩ = some (.int .i64 1) := (by obtain ⟨y0, y1, y2, y3, y4, y5, y6, y7, y8, y9, y10, y11⟩ := free_cells hp.out; exact ⟨y0, y1, y2, y3, y4, y5, y6, y7, y8, y9, y10, y11⟩))
    | (go_at_call 88; refine (hfr _).mono ?_; rintro e w5 ⟨rfl, hb⟩; replace hp := Lib.hid (hp.out.below hb hp.out.lt); replace hM := Lib.hid (hM.out.next hb); replace hF := Lib.hid (hF.out.trans (fr_below hb)); clear hb; have z9 := hp.out.frozen 9; have z11 := hp.out.frozen 11; have hY_w5 : w5.cell? ⟨p, 0, none⟩ = some (.bool bk) ∧ w5.cell? ⟨p, 1, none⟩ = some (.bool gn) ∧ w5.cell? ⟨p, 2, none⟩ = some (.int .i64 c.S) ∧ w5.cell? ⟨p, 3, none⟩ = some (.int .i64 c.A) ∧ w5.cell? ⟨p, 4, none⟩ = some (.int .i64 c.C) ∧ w5.cell? ⟨p, 5, none⟩ = some (.int .i64 c.H) ∧ w5.cell? ⟨p, 6, none⟩ = some (.int .i64 c.G) ∧ w5.cell? ⟨p, 7, none⟩ = some (.int .i64 c.K) ∧ w5.cell? ⟨p, 8, none⟩ = some (.int .i64 sl) ∧ w5.cell? ⟨p, 9, none⟩ = some (.int .u64 nw) ∧ w5.cell? ⟨p, 10, none⟩ = some (.pointer pu) ∧ w5.cell? ⟨p, 11, none⟩ = some (.int .i64 1) := (by obtain ⟨y0, y1, y2, y3, y4, y5, y6, y7, y8, y9, y10, y11⟩ := free_cells hp.out; exact ⟨y0, y1, y2, y3, y4, y5, y6, y7, y8, y9, y10, y11⟩)))
  all_goals
    obtain ⟨l0, l1, l2, l3, l4, l5, l6, l7, l8, l9, l10, l11⟩ := hY_w5
    go_upto_region 7 with (fail)
    have hp' : Blk ((w5.setCell ⟨p, 9, none⟩ (.int .u64 f1)).setCell ⟨p, 11, none⟩ (.int .i64 3)) p 95 (freeA c bk gn sl f1 pu 3) := ((hp.out.set 9 _).set 11 _)
    have hM' := ((hM.out.set np 9 (.int .u64 f1)).set np 11 (.int .i64 3))
    have hF' := ((hF.out.trans (fr_p w5 9 (.int .u64 f1))).trans (fr_p (w5.setCell ⟨p, 9, none⟩ (.int .u64 f1)) 11 (.int .i64 3)))
    clear hp hM hF hX hY_w3 hY_w4 hfr hl z9 z11 l0 l1 l2 l3 l4 l5 l6 l7 l8 l9 l10 l11
    generalize (w5.setCell ⟨p, 9, none⟩ (.int .u64 f1)).setCell ⟨p, 11, none⟩ (.int .i64 3) = w6 at *
    have hp := Lib.hid hp'
    have hM := Lib.hid hM'
    have hF := Lib.hid hF'
    clear hp' hM' hF'
    obtain ⟨l0, l1, l2, l3, l4, l5, l6, l7, l8, l9, l10, l11⟩ := free_cells hp.out
    have z11 := hp.out.frozen 11
    go_wp2
    go_ret
    exact ⟨rfl, hp.out.set 11 _, hM.out.set np 11 _, hF.out.trans (fr_p _ 11 _)⟩
set_option maxHeartbeats 4000000 in
set_option maxRecDepth 100000 in
theorem free_3d (s0 : 0 ≤ sl) (s1 : sl < c.S) (n0 : 0 ≤ nw) (n1 : nw < 18446744073709551616) (hk : (uK nw == 4) = true) (hp : Blk w p 95 (freeA c bk gn sl nw pu 3)) : Calls Try.prog 59 #[.pointer (some ⟨p, 0, none⟩), .pointer (some ⟨m, 0, none⟩)] w fun e w' =>
    e = .returned (.bool true) ∧ ∃ q, w.heap.size ≤ q ∧ PushB w' q c ⟨sl, 0, 0⟩ ∧ Blk w' p 95 (freeA c bk true sl nw ((some ⟨q, 0, none⟩)) 5) ∧ MemB w' m b (M.stS (c.header sl) nw) ∧ Fr (three p m b) w w' := by
  have hu := fun w => unpack_c nw n0 n1 w
  have ltp := Blk.lt hp
  have hF := Lib.hid (Fr.refl (three p m b) w)
  obtain ⟨k0, k1, k2, k3, k4, k5, k6, k7, k8, k9, k10, k11⟩ := free_cells hp
  replace hp := Lib.hid hp
  replace hM := Lib.hid hM
  go_enter Try.func59, Try.ntmps59
  go_wp2
  clear k0 k1 k2 k3 k4 k5 k6 k7 k8 k9 k10 k11
  replace hp := Lib.hid hp.out.drew
  replace hM := Lib.hid hM.out.drew
  replace hF := Lib.hid (hF.out.trans (Fr.drew _ w))
  have hX0 := free_cells hp.out
  have hX : w.drew.cell? ⟨p, 0, none⟩ = some (.bool bk) ∧ w.drew.cell? ⟨p, 1, none⟩ = some (.bool gn) ∧ w.drew.cell? ⟨p, 2, none⟩ = some (.int .i64 c.S) ∧ w.drew.cell? ⟨p, 3, none⟩ = some (.int .i64 c.A) ∧ w.drew.cell? ⟨p, 4, none⟩ = some (.int .i64 c.C) ∧ w.drew.cell? ⟨p, 5, none⟩ = some (.int .i64 c.H) ∧ w.drew.cell? ⟨p, 6, none⟩ = some (.int .i64 c.G) ∧ w.drew.cell? ⟨p, 7, none⟩ = some (.int .i64 c.K) ∧ w.drew.cell? ⟨p, 8, none⟩ = some (.int .i64 sl) ∧ w.drew.cell? ⟨p, 9, none⟩ = some (.int .u64 nw) ∧ w.drew.cell? ⟨p, 10, none⟩ = some (.pointer pu) ∧ w.drew.cell? ⟨p, 11, none⟩ = some (.int .i64 3) := hX0
  clear hX0
  go_region_held3 (fun w' => w'.cell? ⟨p, 0, none⟩ = some (.bool bk) ∧ w'.cell? ⟨p, 1, none⟩ = some (.bool gn) ∧ w'.cell? ⟨p, 2, none⟩ = some (.int .i64 c.S) ∧ w'.cell? ⟨p, 3, none⟩ = some (.int .i64 c.A) ∧ w'.cell? ⟨p, 4, none⟩ = some (.int .i64 c.C) ∧ w'.cell? ⟨p, 5, none⟩ = some (.int .i64 c.H) ∧ w'.cell? ⟨p, 6, none⟩ = some (.int .i64 c.G) ∧ w'.cell? ⟨p, 7, none⟩ = some (.int .i64 c.K) ∧ w'.cell? ⟨p, 8, none⟩ = some (.int .i64 sl) ∧ w'.cell? ⟨p, 9, none⟩ = some (.int .u64 nw) ∧ w'.cell? ⟨p, 10, none⟩ = some (.pointer pu) ∧ w'.cell? ⟨p, 11, none⟩ = some (.int .i64 3)) (assumption) (first
    | (go_at_call 72; refine (headerC c _ sl).mono ?_; rintro e w3 ⟨rfl, hb⟩; replace hp := Lib.hid (hp.out.below hb hp.out.lt); replace hM := Lib.hid (hM.out.next hb); replace hF := Lib.hid (hF.out.trans (fr_below hb)); clear hb; have hY_w3 : w3.cell? ⟨p, 0, none⟩ = some (.bool bk) ∧ w3.cell? ⟨p, 1, none⟩ = some (.bool gn) ∧ w3.cell? ⟨p, 2, none⟩ = some (.int .i64 c.S) ∧ w3.cell? ⟨p, 3, none⟩ = some (.int .i64 c.A) ∧ w3.cell? ⟨p, 4, none⟩ = some (.int .i64 c.C) ∧ w3.cell? ⟨p, 5, none⟩ = some (.int .i64 c.H) ∧ w3.cell? ⟨p, 6, none⟩ = some (.int .i64 c.G) ∧ w3.cell? ⟨p, 7, none⟩ = some (.int .i64 c.K) ∧ w3.cell? ⟨p, 8, none⟩ = some (.int .i64 sl) ∧ w3.cell? ⟨p, 9, none⟩ = some (.int .u64 nw) ∧ w3.cell? ⟨p, 10, none⟩ = some (.pointer pu) ∧ w3.cell? ⟨p, 11, none⟩ = some (.int .i64 3) := (by obtain ⟨y0, y1, y2, y3, y4, y5, y6, y7, y8, y9, y10, y11⟩ := free_cells hp.out; exact ⟨y0, y1, y2, y3, y4, y5, y6, y7, y8, y9, y10, y11⟩))
    | (go_at_call 57; refine (store_c _ m b M (c.header sl) hM.out ok nw).mono ?_; rintro e w4 ⟨rfl, hM', hF'⟩; replace hp := Lib.hid (hp.out.fr hF' np); replace hM := Lib.hid hM'; replace hF := Lib.hid (hF.out.trans (two_three hF')); clear hM' hF'; have hY_w4 : w4.cell? ⟨p, 0, none⟩ = some (.bool bk) ∧ w4.cell? ⟨p, 1, none⟩ = some (.bool gn) ∧ w4.cell? ⟨p, 2, none⟩ = some (.int .i64 c.S) ∧ w4.cell? ⟨p, 3, none⟩ = some (.int .i64 c.A) ∧ w4.cell? ⟨p, 4, none⟩ = some (.int .i64 c.C) ∧ w4.cell? ⟨p, 5, none⟩ = some (.int .i64 c.H) ∧ w4.cell? ⟨p, 6, none⟩ = some (.int .i64 c.G) ∧ w4.cell? ⟨p, 7, none⟩ = some (.int .i64 c.K) ∧ w4.cell? ⟨p, 8, none⟩ = some (.int .i64 sl) ∧ w4.cell? ⟨p, 9, none⟩ = some (.int .u64 nw) ∧ w4.cell? ⟨p, 10, none⟩ = some (.pointer pu) ∧ w4.cell? ⟨p, 11, none⟩ = some (.int .i64 3) := (by obtain ⟨y0, y1, y2, y3, y4, y5, y6, y7, y8, y9, y10, y11⟩ := free_cells hp.out; exact ⟨y0, y1, y2, y3, y4, y5, y6, y7, y8, y9, y10, y11⟩)))
  all_goals
    clear hX hY_w3 hY_w4
    go_wp2
    replace hp := Lib.hid hp.out.drew
    replace hM := Lib.hid hM.out.drew
    replace hF := Lib.hid (hF.out.trans (Fr.drew _ w4))
    have hX0 := free_cells hp.out
    have hX : w4.drew.cell? ⟨p, 0, none⟩ = some (.bool bk) ∧ w4.drew.cell? ⟨p, 1, none⟩ = some (.bool gn) ∧ w4.drew.cell? ⟨p, 2, none⟩ = some (.int .i64 c.S) ∧ w4.drew.cell? ⟨p, 3, none⟩ = some (.int .i64 c.A) ∧ w4.drew.cell? ⟨p, 4, none⟩ = some (.int .i64 c.C) ∧ w4.drew.cell? ⟨p, 5, none⟩ = some (.int .i64 c.H) ∧ w4.drew.cell? ⟨p, 6, none⟩ = some (.int .i64 c.G) ∧ w4.drew.cell? ⟨p, 7, none⟩ = some (.int .i64 c.K) ∧ w4.drew.cell? ⟨p, 8, none⟩ = some (.int .i64 sl) ∧ w4.drew.cell? ⟨p, 9, none⟩ = some (.int .u64 nw) := by
      obtain ⟨x0, x1, x2, x3, x4, x5, x6, x7, x8, x9, x10, x11⟩ := hX0
      exact ⟨x0, x1, x2, x3, x4, x5, x6, x7, x8, x9⟩
    clear hX0
    go_region_held3 (fun w' => w'.cell? ⟨p, 0, none⟩ = some (.bool bk) ∧ w'.cell? ⟨p, 1, none⟩ = some (.bool gn) ∧ w'.cell? ⟨p, 2, none⟩ = some (.int .i64 c.S) ∧ w'.cell? ⟨p, 3, none⟩ = some (.int .i64 c.A) ∧ w'.cell? ⟨p, 4, none⟩ = some (.int .i64 c.C) ∧ w'.cell? ⟨p, 5, none⟩ = some (.int .i64 c.H) ∧ w'.cell? ⟨p, 6, none⟩ = some (.int .i64 c.G) ∧ w'.cell? ⟨p, 7, none⟩ = some (.int .i64 c.K) ∧ w'.cell? ⟨p, 8, none⟩ = some (.int .i64 sl) ∧ w'.cell? ⟨p, 9, none⟩ = some (.int .u64 nw)) (first | assumption | (refine free_k10 ?_; assumption) | (refine free_k11 ?_; assumption)) (first
      | (go_at_call 46; refine (newPushC c _ sl hc s0 s1).mono ?_; rintro e w5 ⟨q, rfl, gq, hq, hb⟩; have zq := hF.out.size; have ltq := Blk.lt hq; replace hq := Lib.hid hq; have ltw := hp.out.lt; replace hp := Lib.hid (hp.out.below hb hp.out.lt); replace hM := Lib.hid (hM.out.next hb); replace hF := Lib.hid (hF.out.trans (fr_below hb)); clear hb; have z10 := hp.out.frozen 10; have z11 := hp.out.frozen 11; have hY_w5 : w5.cell? ⟨p, 0, none⟩ = some (.bool bk) ∧ w5.cell? ⟨p, 1, none⟩ = some (.bool gn) ∧ w5.cell? ⟨p, 2, none⟩ = some (.int .i64 c.S) ∧ w5.cell? ⟨p, 3, none⟩ = some (.int .i64 c.A) ∧ w5.cell? ⟨p, 4, none⟩ = some (.int .i64 c.C) ∧ w5.cell? ⟨p, 5, none⟩ = some (.int .i64 c.H) ∧ w5.cell? ⟨p, 6, none⟩ = some (.int .i64 c.G) ∧ w5.cell? ⟨p, 7, none⟩ = some (.int .i64 c.K) ∧ w5.cell? ⟨p, 8, none⟩ = some (.int .i64 sl) ∧ w5.cell? ⟨p, 9, none⟩ = some (.int .u64 nw) := (by obtain ⟨y0, y1, y2, y3, y4, y5, y6, y7, y8, y9, y10, y11⟩ := free_cells hp.out; exact ⟨y0, y1, y2, y3, y4, y5, y6, y7, y8, y9⟩); have l10 := hp.out.cell (i := 10) (v := .pointer pu) rfl; have l11 := hp.out.cell (i := 11) (v := .int .i64 3) rfl))
    all_goals
      go_upto_region 12 with (fail)
      have nqp : q ≠ p := (by intro e; subst e; exact absurd ltw (by omega))
      have zq' : w.heap.size ≤ q := Nat.le_trans zq gq
      have hq' : PushB ((w5.setCell ⟨p, 10, none⟩ (.pointer (some ⟨q, 0, none⟩))).setCell ⟨p, 11, none⟩ (.int .i64 4)) q c ⟨sl, 0, 0⟩ := Blk.other (Blk.other hq.out ⟨p, 10, none⟩ nqp _) ⟨p, 11, none⟩ nqp _
      have hp' : Blk ((w5.setCell ⟨p, 10, none⟩ (.pointer (some ⟨q, 0, none⟩))).setCell ⟨p, 11, none⟩ (.int .i64 4)) p 95 (freeA c bk gn sl nw ((some ⟨q, 0, none⟩)) 4) := ((hp.out.set 10 _).set 11 _)
      have hM' := ((hM.out.set np 10 (.pointer (some ⟨q, 0, none⟩))).set np 11 (.int .i64 4))
      have hF' := ((hF.out.trans (fr_p w5 10 (.pointer (some ⟨q, 0, none⟩)))).trans (fr_p (w5.setCell ⟨p, 10, none⟩ (.pointer (some ⟨q, 0, none⟩))) 11 (.int .i64 4)))
      clear hp hM hF hX hY_w5 z10 z11 l10 l11 hq
      generalize (w5.setCell ⟨p, 10, none⟩ (.pointer (some ⟨q, 0, none⟩))).setCell ⟨p, 11, none⟩ (.int .i64 4) = w6 at *
      have hp := Lib.hid hp'
      have hM := Lib.hid hM'
      have hF := Lib.hid hF'
      clear hp' hM' hF'
      have hq := Lib.hid hq'
      clear hq'
      have ltq' := Blk.lt hq.out
      have l9 := hp.out.cell (i := 9) (v := .int .u64 nw) rfl
      have hk4 : uK nw = 4 := by simpa using hk
      go_wp2_with (go_at_call 86; refine (hu _).mono ?_; rintro e w7 ⟨rfl, hb⟩; rw [hk4]; replace hq := Lib.hid (Blk.below hq.out hb ltq'); replace hp := Lib.hid (hp.out.below hb hp.out.lt); replace hM := Lib.hid (hM.out.next hb); replace hF := Lib.hid (hF.out.trans (fr_below hb)); clear hb; have hN := Blk.new w7 85 (#[.int .i64 4, .int .i64 (uM nw), .bool (uG nw), .int .i64 (uA nw), .int .i64 (uN nw), .int .i64 (uS nw)] : Array Value); have n0' := hN.cell (i := 0) (v := .int .i64 4) rfl; have hpa := hp.out.alloc (.cells (#[.int .i64 4, .int .i64 (uM nw), .bool (uG nw), .int .i64 (uA nw), .int .i64 (uN nw), .int .i64 (uS nw)] : Array Value) 85); have z1 := hpa.frozen 1; have z11 := hpa.frozen 11; have a1 := hpa.cell (i := 1) (v := .bool gn) rfl; have a11 := hpa.cell (i := 11) (v := .int .i64 4) rfl)
      go_ret
      exact ⟨rfl, q, zq', Blk.other (Blk.other (Blk.alloc hq.out _) ⟨p, 1, none⟩ nqp _) ⟨p, 11, none⟩ nqp _, ((hp.out.alloc _).set 1 _).set 11 _, ((hM.out.alloc _).set np 1 _).set np 11 _, ((hF.out.trans (Fr.alloc _ w7 _)).trans (fr_p _ 1 _)).trans (fr_p _ 11 _)⟩
set_option maxHeartbeats 4000000 in
set_option maxRecDepth 100000 in
theorem free_3b (s0 : 0 ≤ sl) (s1 : sl < c.S) (n0 : 0 ≤ nw) (n1 : nw < 18446744073709551616) (hk : (uK nw == 4) = false) (hp : Blk w p 95 (freeA c bk gn sl nw pu 3)) : Calls Try.prog 59 #[.pointer (some ⟨p, 0, none⟩), .pointer (some ⟨m, 0, none⟩)] w fun e w' =>
    e = .returned (.bool false) ∧ ∃ q, w.heap.size ≤ q ∧ PushB w' q c ⟨sl, 0, 0⟩ ∧ Blk w' p 95 (freeA c bk gn sl nw ((some ⟨q, 0, none⟩)) 4) ∧ MemB w' m b (M.stS (c.header sl) nw) ∧ Fr (three p m b) w w' := by
  have hu := fun w => unpack_c nw n0 n1 w
  have ltp := Blk.lt hp
  have hF := Lib.hid (Fr.refl (three p m b) w)
  obtain ⟨k0, k1, k2, k3, k4, k5, k6, k7, k8, k9, k10, k11⟩ := free_cells hp
  replace hp := Lib.hid hp
  replace hM := Lib.hid hM
  go_enter Try.func59, Try.ntmps59
  go_wp2
  clear k0 k1 k2 k3 k4 k5 k6 k7 k8 k9 k10 k11
  replace hp := Lib.hid hp.out.drew
  replace hM := Lib.hid hM.out.drew
  replace hF := Lib.hid (hF.out.trans (Fr.drew _ w))
  have hX0 := free_cells hp.out
  have hX : w.drew.cell? ⟨p, 0, none⟩ = some (.bool bk) ∧ w.drew.cell? ⟨p, 1, none⟩ = some (.bool gn) ∧ w.drew.cell? ⟨p, 2, none⟩ = some (.int .i64 c.S) ∧ w.drew.cell? ⟨p, 3, none⟩ = some (.int .i64 c.A) ∧ w.drew.cell? ⟨p, 4, none⟩ = some (.int .i64 c.C) ∧ w.drew.cell? ⟨p, 5, none⟩ = some (.int .i64 c.H) ∧ w.drew.cell? ⟨p, 6, none⟩ = some (.int .i64 c.G) ∧ w.drew.cell? ⟨p, 7, none⟩ = some (.int .i64 c.K) ∧ w.drew.cell? ⟨p, 8, none⟩ = some (.int .i64 sl) ∧ w.drew.cell? ⟨p, 9, none⟩ = some (.int .u64 nw) ∧ w.drew.cell? ⟨p, 10, none⟩ = some (.pointer pu) ∧ w.drew.cell? ⟨p, 11, none⟩ = some (.int .i64 3) := hX0
  clear hX0
  go_region_held3 (fun w' => w'.cell? ⟨p, 0, none⟩ = some (.bool bk) ∧ w'.cell? ⟨p, 1, none⟩ = some (.bool gn) ∧ w'.cell? ⟨p, 2, none⟩ = some (.int .i64 c.S) ∧ w'.cell? ⟨p, 3, none⟩ = some (.int .i64 c.A) ∧ w'.cell? ⟨p, 4, none⟩ = some (.int .i64 c.C) ∧ w'.cell? ⟨p, 5, none⟩ = some (.int .i64 c.H) ∧ w'.cell? ⟨p, 6, none⟩ = some (.int .i64 c.G) ∧ w'.cell? ⟨p, 7, none⟩ = some (.int .i64 c.K) ∧ w'.cell? ⟨p, 8, none⟩ = some (.int .i64 sl) ∧ w'.cell? ⟨p, 9, none⟩ = some (.int .u64 nw) ∧ w'.cell? ⟨p, 10, none⟩ = some (.pointer pu) ∧ w'.cell? ⟨p, 11, none⟩ = some (.int .i64 3)) (assumption) (first
    | (go_at_call 72; refine (headerC c _ sl).mono ?_; rintro e w3 ⟨rfl, hb⟩; replace hp := Lib.hid (hp.out.below hb hp.out.lt); replace hM := Lib.hid (hM.out.next hb); replace hF := Lib.hid (hF.out.trans (fr_below hb)); clear hb; have hY_w3 : w3.cell? ⟨p, 0, none⟩ = some (.bool bk) ∧ w3.cell? ⟨p, 1, none⟩ = some (.bool gn) ∧ w3.cell? ⟨p, 2, none⟩ = some (.int .i64 c.S) ∧ w3.cell? ⟨p, 3, none⟩ = some (.int .i64 c.A) ∧ w3.cell? ⟨p, 4, none⟩ = some (.int .i64 c.C) ∧ w3.cell? ⟨p, 5, none⟩ = some (.int .i64 c.H) ∧ w3.cell? ⟨p, 6, none⟩ = some (.int .i64 c.G) ∧ w3.cell? ⟨p, 7, none⟩ = some (.int .i64 c.K) ∧ w3.cell? ⟨p, 8, none⟩ = some (.int .i64 sl) ∧ w3.cell? ⟨p, 9, none⟩ = some (.int .u64 nw) ∧ w3.cell? ⟨p, 10, none⟩ = some (.pointer pu) ∧ w3.cell? ⟨p, 11, none⟩ = some (.int .i64 3) := (by obtain ⟨y0, y1, y2, y3, y4, y5, y6, y7, y8, y9, y10, y11⟩ := free_cells hp.out; exact ⟨y0, y1, y2, y3, y4, y5, y6, y7, y8, y9, y10, y11⟩))
    | (go_at_call 57; refine (store_c _ m b M (c.header sl) hM.out ok nw).mono ?_; rintro e w4 ⟨rfl, hM', hF'⟩; replace hp := Lib.hid (hp.out.fr hF' np); replace hM := Lib.hid hM'; replace hF := Lib.hid (hF.out.trans (two_three hF')); clear hM' hF'; have hY_w4 : w4.cell? ⟨p, 0, none⟩ = some (.bool bk) ∧ w4.cell? ⟨p, 1, none⟩ = some (.bool gn) ∧ w4.cell? ⟨p, 2, none⟩ = some (.int .i64 c.S) ∧ w4.cell? ⟨p, 3, none⟩ = some (.int .i64 c.A) ∧ w4.cell? ⟨p, 4, none⟩ = some (.int .i64 c.C) ∧ w4.cell? ⟨p, 5, none⟩ = some (.int .i64 c.H) ∧ w4.cell? ⟨p, 6, none⟩ = some (.int .i64 c.G) ∧ w4.cell? ⟨p, 7, none⟩ = some (.int .i64 c.K) ∧ w4.cell? ⟨p, 8, none⟩ = some (.int .i64 sl) ∧ w4.cell? ⟨p, 9, none⟩ = some (.int .u64 nw) ∧ w4.cell? ⟨p, 10, none⟩ = some (.pointer pu) ∧ w4.cell? ⟨p, 11, none⟩ = some (.int .i64 3) := (by obtain ⟨y0, y1, y2, y3, y4, y5, y6, y7, y8, y9, y10, y11⟩ := free_cells hp.out; exact ⟨y0, y1, y2, y3, y4, y5, y6, y7, y8, y9, y10, y11⟩)))
  all_goals
    clear hX hY_w3 hY_w4
    go_wp2
    replace hp := Lib.hid hp.out.drew
    replace hM := Lib.hid hM.out.drew
    replace hF := Lib.hid (hF.out.trans (Fr.drew _ w4))
    have hX0 := free_cells hp.out
    have hX : w4.drew.cell? ⟨p, 0, none⟩ = some (.bool bk) ∧ w4.drew.cell? ⟨p, 1, none⟩ = some (.bool gn) ∧ w4.drew.cell? ⟨p, 2, none⟩ = some (.int .i64 c.S) ∧ w4.drew.cell? ⟨p, 3, none⟩ = some (.int .i64 c.A) ∧ w4.drew.cell? ⟨p, 4, none⟩ = some (.int .i64 c.C) ∧ w4.drew.cell? ⟨p, 5, none⟩ = some (.int .i64 c.H) ∧ w4.drew.cell? ⟨p, 6, none⟩ = some (.int .i64 c.G) ∧ w4.drew.cell? ⟨p, 7, none⟩ = some (.int .i64 c.K) ∧ w4.drew.cell? ⟨p, 8, none⟩ = some (.int .i64 sl) ∧ w4.drew.cell? ⟨p, 9, none⟩ = some (.int .u64 nw) := by
      obtain ⟨x0, x1, x2, x3, x4, x5, x6, x7, x8, x9, x10, x11⟩ := hX0
      exact ⟨x0, x1, x2, x3, x4, x5, x6, x7, x8, x9⟩
    clear hX0
    go_region_held3 (fun w' => w'.cell? ⟨p, 0, none⟩ = some (.bool bk) ∧ w'.cell? ⟨p, 1, none⟩ = some (.bool gn) ∧ w'.cell? ⟨p, 2, none⟩ = some (.int .i64 c.S) ∧ w'.cell? ⟨p, 3, none⟩ = some (.int .i64 c.A) ∧ w'.cell? ⟨p, 4, none⟩ = some (.int .i64 c.C) ∧ w'.cell? ⟨p, 5, none⟩ = some (.int .i64 c.H) ∧ w'.cell? ⟨p, 6, none⟩ = some (.int .i64 c.G) ∧ w'.cell? ⟨p, 7, none⟩ = some (.int .i64 c.K) ∧ w'.cell? ⟨p, 8, none⟩ = some (.int .i64 sl) ∧ w'.cell? ⟨p, 9, none⟩ = some (.int .u64 nw)) (first | assumption | (refine free_k10 ?_; assumption) | (refine free_k11 ?_; assumption)) (first
      | (go_at_call 46; refine (newPushC c _ sl hc s0 s1).mono ?_; rintro e w5 ⟨q, rfl, gq, hq, hb⟩; have zq := hF.out.size; have ltq := Blk.lt hq; replace hq := Lib.hid hq; have ltw := hp.out.lt; replace hp := Lib.hid (hp.out.below hb hp.out.lt); replace hM := Lib.hid (hM.out.next hb); replace hF := Lib.hid (hF.out.trans (fr_below hb)); clear hb; have z10 := hp.out.frozen 10; have z11 := hp.out.frozen 11; have hY_w5 : w5.cell? ⟨p, 0, none⟩ = some (.bool bk) ∧ w5.cell? ⟨p, 1, none⟩ = some (.bool gn) ∧ w5.cell? ⟨p, 2, none⟩ = some (.int .i64 c.S) ∧ w5.cell? ⟨p, 3, none⟩ = some (.int .i64 c.A) ∧ w5.cell? ⟨p, 4, none⟩ = some (.int .i64 c.C) ∧ w5.cell? ⟨p, 5, none⟩ = some (.int .i64 c.H) ∧ w5.cell? ⟨p, 6, none⟩ = some (.int .i64 c.G) ∧ w5.cell? ⟨p, 7, none⟩ = some (.int .i64 c.K) ∧ w5.cell? ⟨p, 8, none⟩ = some (.int .i64 sl) ∧ w5.cell? ⟨p, 9, none⟩ = some (.int .u64 nw) := (by obtain ⟨y0, y1, y2, y3, y4, y5, y6, y7, y8, y9, y10, y11⟩ := free_cells hp.out; exact ⟨y0, y1, y2, y3, y4, y5, y6, y7, y8, y9⟩); have l10 := hp.out.cell (i := 10) (v := .pointer pu) rfl; have l11 := hp.out.cell (i := 11) (v := .int .i64 3) rfl))
    all_goals
      go_upto_region 12 with (fail)
      have nqp : q ≠ p := (by intro e; subst e; exact absurd ltw (by omega))
      have zq' : w.heap.size ≤ q := Nat.le_trans zq gq
      have hq' : PushB ((w5.setCell ⟨p, 10, none⟩ (.pointer (some ⟨q, 0, none⟩))).setCell ⟨p, 11, none⟩ (.int .i64 4)) q c ⟨sl, 0, 0⟩ := Blk.other (Blk.other hq.out ⟨p, 10, none⟩ nqp _) ⟨p, 11, none⟩ nqp _
      have hp' : Blk ((w5.setCell ⟨p, 10, none⟩ (.pointer (some ⟨q, 0, none⟩))).setCell ⟨p, 11, none⟩ (.int .i64 4)) p 95 (freeA c bk gn sl nw ((some ⟨q, 0, none⟩)) 4) := ((hp.out.set 10 _).set 11 _)
      have hM' := ((hM.out.set np 10 (.pointer (some ⟨q, 0, none⟩))).set np 11 (.int .i64 4))
      have hF' := ((hF.out.trans (fr_p w5 10 (.pointer (some ⟨q, 0, none⟩)))).trans (fr_p (w5.setCell ⟨p, 10, none⟩ (.pointer (some ⟨q, 0, none⟩))) 11 (.int .i64 4)))
      clear hp hM hF hX hY_w5 z10 z11 l10 l11 hq
      generalize (w5.setCell ⟨p, 10, none⟩ (.pointer (some ⟨q, 0, none⟩))).setCell ⟨p, 11, none⟩ (.int .i64 4) = w6 at *
      have hp := Lib.hid hp'
      have hM := Lib.hid hM'
      have hF := Lib.hid hF'
      clear hp' hM' hF'
      have hq := Lib.hid hq'
      clear hq'
      have ltq' := Blk.lt hq.out
      have l9 := hp.out.cell (i := 9) (v := .int .u64 nw) rfl
      go_wp2_with (go_at_call 86; refine (hu _).mono ?_; rintro e w7 ⟨rfl, hb⟩; replace hq := Lib.hid (Blk.below hq.out hb ltq'); replace hp := Lib.hid (hp.out.below hb hp.out.lt); replace hM := Lib.hid (hM.out.next hb); replace hF := Lib.hid (hF.out.trans (fr_below hb)); clear hb; have hN := Blk.new w7 85 (#[.int .i64 (uK nw), .int .i64 (uM nw), .bool (uG nw), .int .i64 (uA nw), .int .i64 (uN nw), .int .i64 (uS nw)] : Array Value); have n0' := hN.cell (i := 0) (v := .int .i64 (uK nw)) rfl; have hpa := hp.out.alloc (.cells (#[.int .i64 (uK nw), .int .i64 (uM nw), .bool (uG nw), .int .i64 (uA nw), .int .i64 (uN nw), .int .i64 (uS nw)] : Array Value) 85); have z1 := hpa.frozen 1; have z11 := hpa.frozen 11; have a1 := hpa.cell (i := 1) (v := .bool gn) rfl; have a11 := hpa.cell (i := 11) (v := .int .i64 4) rfl)
      go_ret
      exact ⟨rfl, q, zq', Blk.alloc hq.out _, hp.out.alloc _, hM.out.alloc _, hF.out.trans (Fr.alloc _ w7 _)⟩
set_option maxHeartbeats 4000000 in
set_option maxRecDepth 100000 in
theorem free_4a (q : Nat) (Q : Push) (nqm : ¬ two m b q) (nqp : q ≠ p) (hQ : PushB w q c Q) (oQ : PushOk Q) (hd : pushD c Q M = true) (hp : Blk w p 95 (freeA c bk gn sl nw ((some ⟨q, 0, none⟩)) 4)) : Calls Try.prog 59 #[.pointer (some ⟨p, 0, none⟩), .pointer (some ⟨m, 0, none⟩)] w fun e w' =>
    e = .returned (.bool true) ∧ PushB w' q c (pushS c Q M) ∧ Blk w' p 95 (freeA c true gn sl nw ((some ⟨q, 0, none⟩)) 5) ∧ MemB w' m b (pushM c Q M) ∧ Fr (four p q m b) w w' := by
  have n3 : ¬ three q m b p := fun h => h.elim (fun e => nqp e.symm) np
  have hS := fun w hM hQ => pushC c w q m b M hc hM ok nqm Q hQ oQ
  rw [hd] at hS
  have hF := Lib.hid (Fr.refl (four p q m b) w)
  obtain ⟨k0, k1, k2, k3, k4, k5, k6, k7, k8, k9, k10, k11⟩ := free_cells hp
  replace hp := Lib.hid hp
  replace hM := Lib.hid hM
  replace hQ := Lib.hid hQ
  go_enter Try.func59, Try.ntmps59
  go_wp2_with (go_at_call 47; refine (hS _ hM.out hQ.out).mono ?_; rintro e w7 ⟨rfl, hQ', hM', hF'⟩; replace hp := Lib.hid (hp.out.fr hF' n3); replace hF := Lib.hid (hF.out.trans (hF'.mono (fun _ x => .inr x))); have z0 := hp.out.frozen 0; have z6 := hp.out.frozen 11; have a0 := hp.out.cell (i := 0) (v := .bool bk) rfl; have a11 := hp.out.cell (i := 11) (v := .int .i64 4) rfl)
  go_ret
  exact ⟨rfl, Blk.other (Blk.other hQ' ⟨p, 0, none⟩ nqp _) ⟨p, 11, none⟩ nqp _, (hp.out.set 0 _).set 11 _, (hM'.set np 0 _).set np 11 _, (hF.out.trans (fr_f _ 0 _)).trans (fr_f _ 11 _)⟩
set_option maxHeartbeats 4000000 in
set_option maxRecDepth 100000 in
theorem free_4b (q : Nat) (Q : Push) (nqm : ¬ two m b q) (nqp : q ≠ p) (hQ : PushB w q c Q) (oQ : PushOk Q) (hd : pushD c Q M = false) (hp : Blk w p 95 (freeA c bk gn sl nw ((some ⟨q, 0, none⟩)) 4)) : Calls Try.prog 59 #[.pointer (some ⟨p, 0, none⟩), .pointer (some ⟨m, 0, none⟩)] w fun e w' =>
    e = .returned (.bool false) ∧ PushB w' q c (pushS c Q M) ∧ Blk w' p 95 (freeA c bk gn sl nw ((some ⟨q, 0, none⟩)) 4) ∧ MemB w' m b (pushM c Q M) ∧ Fr (four p q m b) w w' := by
  have n3 : ¬ three q m b p := fun h => h.elim (fun e => nqp e.symm) np
  have hS := fun w hM hQ => pushC c w q m b M hc hM ok nqm Q hQ oQ
  rw [hd] at hS
  have hF := Lib.hid (Fr.refl (four p q m b) w)
  obtain ⟨k0, k1, k2, k3, k4, k5, k6, k7, k8, k9, k10, k11⟩ := free_cells hp
  replace hp := Lib.hid hp
  replace hM := Lib.hid hM
  replace hQ := Lib.hid hQ
  go_enter Try.func59, Try.ntmps59
  go_wp2_with (go_at_call 47; refine (hS _ hM.out hQ.out).mono ?_; rintro e w7 ⟨rfl, hQ', hM', hF'⟩; replace hp := Lib.hid (hp.out.fr hF' n3); replace hF := Lib.hid (hF.out.trans (hF'.mono (fun _ x => .inr x))); have z0 := hp.out.frozen 0; have z6 := hp.out.frozen 11; have a0 := hp.out.cell (i := 0) (v := .bool bk) rfl; have a11 := hp.out.cell (i := 11) (v := .int .i64 4) rfl)
  go_ret
  exact ⟨rfl, hQ', hp.out, hM', hF.out⟩
set_option maxHeartbeats 4000000 in
set_option maxRecDepth 100000 in
theorem free_5 (hp : Blk w p 95 (freeA c bk gn sl nw pu 5)) : Calls Try.prog 59 #[.pointer (some ⟨p, 0, none⟩), .pointer (some ⟨m, 0, none⟩)] w fun e w' => e = .returned (.bool true) ∧ w' = w := by
  obtain ⟨k0, k1, k2, k3, k4, k5, k6, k7, k8, k9, k10, k11⟩ := free_cells hp
  replace hp := Lib.hid hp
  replace hM := Lib.hid hM
  go_enter Try.func59, Try.ntmps59
  go_wp2
  go_ret
  exact ⟨rfl, rfl⟩
end
theorem newFreeC (c : Cf) (w : World) (s : Int) (h : ¬ c.header s < 0) : Calls Try.prog 54 #[.agg #[.int .i64 c.S, .int .i64 c.A, .int .i64 c.C, .int .i64 c.H, .int .i64 c.G, .int .i64 c.K], .int .i64 s] w fun e w' =>
    ∃ p, e = .returned (.pointer (some ⟨p, 0, none⟩)) ∧ w.heap.size ≤ p ∧ Blk w' p 95 (freeA c false false s 0 none 1) ∧ Below w.heap.size w w' := by
  have hf := Lib.hid (Blk.new w 23 #[.int .i64 c.S, .int .i64 c.A, .int .i64 c.C, .int .i64 c.H, .int .i64 c.G, .int .i64 c.K])
  have hb0 : decide (c.header s < 0) = false := by simpa using h
  replace hb0 := Lib.hid hb0
  clear h
  go_enter Try.func54, Try.ntmps54
  go_wp2_with (go_at_call 72; refine (headerC c _ s).mono ?_; rintro e w1 ⟨rfl, hb⟩; have hf1 := hf.out.below hb hf.out.lt; obtain ⟨k0, k1, k2, k3, k4, k5⟩ := cfgs hf1; replace hb := Lib.hid (below_pre hb); clear hf1; have hx := hb0.out; generalize c.header s = x at *)
  go_ret
  have hs := hb.out.size
  exact ⟨w1.heap.size, rfl, hs, Blk.new w1 95 _, hb.out.alloc hs _⟩
end Go.Proofs.Ytijfkpoofpcacaa.ArenaC
end
section
namespace Go.Proofs.Ytijfkpoofpcacaa.ArenaM
open Go.RowKit Go.Proofs.YtijfkpoofpcacaaW.PrintWords Go.Proofs.Ytijfkpoofpcacaa.Blk Go.Proofs.Ytijfkpoofpcacaa.Core Go.Proofs.Ytijfkpoofpcacaa.MemC Go.Proofs.Ytijfkpoofpcacaa.MemD Go.Proofs.Ytijfkpoofpcacaa.MemT Go.Proofs.Ytijfkpoofpcacaa.PlanC Go.Proofs.Ytijfkpoofpcacaa.PlanD Go.Proofs.Ytijfkpoofpcacaa.StackC Go.Proofs.Ytijfkpoofpcacaa.StackS Go.Proofs.Ytijfkpoofpcacaa.HeadC Go.Proofs.Ytijfkpoofpcacaa.ArenaC
def makeA (c : Cf) (sl : Int) (fu : Bool) (kd : Int) (ar : Int) (ep : Int) (bd : Value) (po : Option Addr) (gn : Int) (ix : Int) (nx : Int) : Array Value := #[.int .i64 sl, .bool fu, .int .i64 c.S, .int .i64 c.A, .int .i64 c.C, .int .i64 c.H, .int .i64 c.G, .int .i64 c.K, .int .i64 kd, .int .i64 ar, .int .u64 ep, bd, .pointer po, .int .i64 gn, .int .i64 ix, .int .i64 nx]
theorem make_cells {w : World} {p t : Nat} {c : Cf} {sl : Int} {fu : Bool} {kd : Int} {ar : Int} {ep : Int} {bd : Value} {po : Option Addr} {gn : Int} {ix : Int} {nx : Int} (h : Blk w p t (makeA c sl fu kd ar ep bd po gn ix nx)) :
    w.cell? ⟨p, 0, none⟩ = some (.int .i64 sl) ∧ w.cell? ⟨p, 1, none⟩ = some (.bool fu) ∧ w.cell? ⟨p, 2, none⟩ = some (.int .i64 c.S) ∧ w.cell? ⟨p, 3, none⟩ = some (.int .i64 c.A) ∧ w.cell? ⟨p, 4, none⟩ = some (.int .i64 c.C) ∧ w.cell? ⟨p, 5, none⟩ = some (.int .i64 c.H) ∧ w.cell? ⟨p, 6, none⟩ = some (.int .i64 c.G) ∧ w.cell? ⟨p, 7, none⟩ = some (.int .i64 c.K) ∧ w.cell? ⟨p, 8, none⟩ = some (.int .i64 kd) ∧ w.cell? ⟨p, 9, none⟩ = some (.int .i64 ar) ∧ w.cell? ⟨p, 10, none⟩ = some (.int .u64 ep) ∧ w.cell? ⟨p, 11, none⟩ = some (bd) ∧ w.cell? ⟨p, 12, none⟩ = some (.pointer po) ∧ w.cell? ⟨p, 13, none⟩ = some (.int .i64 gn) ∧ w.cell? ⟨p, 14, none⟩ = some (.int .i64 ix) ∧ w.cell? ⟨p, 15, none⟩ = some (.int .i64 nx) :=
  ⟨h.cell (i := 0) rfl, h.cell (i := 1) rfl, h.cell (i := 2) rfl, h.cell (i := 3) rfl, h.cell (i := 4) rfl, h.cell (i := 5) rfl, h.cell (i := 6) rfl, h.cell (i := 7) rfl, h.cell (i := 8) rfl, h.cell (i := 9) rfl, h.cell (i := 10) rfl, h.cell (i := 11) rfl, h.cell (i := 12) rfl, h.cell (i := 13) rfl, h.cell (i := 14) rfl, h.cell (i := 15) rfl⟩
set_option maxHeartbeats 4000000 in
set_option maxRecDepth 100000 in
theorem make_5 (c : Cf) (w : World) (p m : Nat) (sl : Int) (fu : Bool) (kd ar ep : Int) (bd : Value) (q : Nat) (Q : Pop) (hQ : PopB w q c Q) (gn ix : Int) (hp : Blk w p 82 (makeA c sl fu kd ar ep bd ((some ⟨q, 0, none⟩)) gn ix 5)) : Calls Try.prog 52 #[.pointer (some ⟨p, 0, none⟩), .pointer (some ⟨m, 0, none⟩)] w fun e w' => e = .returned (.bool true) ∧ w = w' := by
  obtain ⟨k0, k1, k2, k3, k4, k5, k6, k7, k8, k9, k10, k11, k12, k13, k14, k15⟩ := make_cells hp
  have q0 : w.cell? ⟨q, 0, none⟩ = some (.int .i64 Q.sl) := Blk.cell hQ (i := 0) rfl
  replace hQ := Lib.hid hQ
  replace hp := Lib.hid hp
  go_enter Try.func52, Try.ntmps52
  go_wp2
  go_ret
  exact ⟨rfl, rfl⟩
set_option maxHeartbeats 4000000 in
set_option maxRecDepth 100000 in
theorem make_0b (c : Cf) (w : World) (p m b : Nat) (M : Ms) (hc : c.right = true) (hM : MemB w m b M) (ok : Ok M) (np : ¬ two m b p) (sl : Int) (fu : Bool) (kd ar ep : Int) (bd : Value) (q : Nat) (Q : Pop) (nqm : ¬ two m b q) (nqp : q ≠ p) (hQ : PopB w q c Q) (oQ : PopOk Q) (hd : popD c Q M = false) (gn ix : Int) (hp : Blk w p 82 (makeA c sl fu kd ar ep bd ((some ⟨q, 0, none⟩)) gn ix 0)) : Calls Try.prog 52 #[.pointer (some ⟨p, 0, none⟩), .pointer (some ⟨m, 0, none⟩)] w fun e w' =>
    e = .returned (.bool false) ∧ PopB w' q c (popS c Q M) ∧ Blk w' p 82 (makeA c sl fu kd ar ep bd ((some ⟨q, 0, none⟩)) gn ix 0) ∧ MemB w' m b (popM c Q M) ∧ Fr (four p q m b) w w' := by
  have n3 : ¬ three q m b p := fun h => h.elim (fun e => nqp e.symm) np
  have hS := fun w hM hQ => popC c w q m b M hc hM ok nqm Q hQ oQ
  rw [hd] at hS
  have hF := Lib.hid (Fr.refl (four p q m b) w)
  obtain ⟨k0, k1, k2, k3, k4, k5, k6, k7, k8, k9, k10, k11, k12, k13, k14, k15⟩ := make_cells hp
  have q0 : w.cell? ⟨q, 0, none⟩ = some (.int .i64 Q.sl) := Blk.cell hQ (i := 0) rfl
  replace hQ := Lib.hid hQ
  replace hp := Lib.hid hp
  replace hM := Lib.hid hM
  go_enter Try.func52, Try.ntmps52
  go_wp2_with (go_at_call 45; refine (hS _ hM.out hQ.out).mono ?_; rintro e w7 ⟨rfl, hQ', hM', hF'⟩; replace hp := Lib.hid (hp.out.fr hF' n3); replace hF := Lib.hid (hF.out.trans (hF'.mono (fun _ x => .inr x))); have z1 := hp.out.frozen 1; have z15 := hp.out.frozen 15; obtain ⟨l0, l1, l2, l3, l4, l5, l6, l7, l8, l9, l10, l11, l12, l13, l14, l15⟩ := make_cells hp.out)
  go_ret
  exact ⟨rfl, hQ', hp.out, hM', hF.out⟩
set_option maxHeartbeats 4000000 in
set_option maxRecDepth 100000 in
theorem make_0n (c : Cf) (w : World) (p m b : Nat) (M : Ms) (hc : c.right = true) (hM : MemB w m b M) (ok : Ok M) (np : ¬ two m b p) (sl : Int) (fu : Bool) (kd ar ep : Int) (bd : Value) (q : Nat) (Q : Pop) (nqm : ¬ two m b q) (nqp : q ≠ p) (hQ : PopB w q c Q) (oQ : PopOk Q) (hd : popD c Q M = true) (he : (popS c Q M).em = false) (gn ix : Int) (hp : Blk w p 82 (makeA c sl fu kd ar ep bd ((some ⟨q, 0, none⟩)) gn ix 0)) : Calls Try.prog 52 #[.pointer (some ⟨p, 0, none⟩), .pointer (some ⟨m, 0, none⟩)] w fun e w' =>
    e = .returned (.bool false) ∧ PopB w' q c (popS c Q M) ∧ Blk w' p 82 (makeA c sl fu kd ar ep bd ((some ⟨q, 0, none⟩)) gn ix 1) ∧ MemB w' m b (popM c Q M) ∧ Fr (four p q m b) w w' := by
  have n3 : ¬ three q m b p := fun h => h.elim (fun e => nqp e.symm) np
  have hS := fun w hM hQ => popC c w q m b M hc hM ok nqm Q hQ oQ
  rw [hd] at hS
  have hF := Lib.hid (Fr.refl (four p q m b) w)
  obtain ⟨k0, k1, k2, k3, k4, k5, k6, k7, k8, k9, k10, k11, k12, k13, k14, k15⟩ := make_cells hp
  have q0 : w.cell? ⟨q, 0, none⟩ = some (.int .i64 Q.sl) := Blk.cell hQ (i := 0) rfl
  replace hQ := Lib.hid hQ
  replace hp := Lib.hid hp
  replace hM := Lib.hid hM
  go_enter Try.func52, Try.ntmps52
  go_wp2_with (go_at_call 45; refine (hS _ hM.out hQ.out).mono ?_; rintro e w7 ⟨rfl, hQ', hM', hF'⟩; replace hp := Lib.hid (hp.out.fr hF' n3); replace hF := Lib.hid (hF.out.trans (hF'.mono (fun _ x => .inr x))); have b1 : w7.cell? ⟨q, 1, none⟩ = some (.bool false) := (by rw [← he]; exact Blk.cell hQ' (i := 1) rfl); have z1 := hp.out.frozen 1; have z15 := hp.out.frozen 15; obtain ⟨l0, l1, l2, l3, l4, l5, l6, l7, l8, l9, l10, l11, l12, l13, l14, l15⟩ := make_cells hp.out)
  go_ret
  exact ⟨rfl, Blk.other hQ' ⟨p, 15, none⟩ nqp _, hp.out.set 15 _, hM'.set np 15 _, hF.out.trans (fr_f _ 15 _)⟩
set_option maxHeartbeats 4000000 in
set_option maxRecDepth 100000 in
theorem make_0e (c : Cf) (w : World) (p m b : Nat) (M : Ms) (hc : c.right = true) (hM : MemB w m b M) (ok : Ok M) (np : ¬ two m b p) (sl : Int) (fu : Bool) (kd ar ep : Int) (bd : Value) (q : Nat) (Q : Pop) (nqm : ¬ two m b q) (nqp : q ≠ p) (hQ : PopB w q c Q) (oQ : PopOk Q) (hd : popD c Q M = true) (he : (popS c Q M).em = true) (gn ix : Int) (hp : Blk w p 82 (makeA c sl fu kd ar ep bd ((some ⟨q, 0, none⟩)) gn ix 0)) : Calls Try.prog 52 #[.pointer (some ⟨p, 0, none⟩), .pointer (some ⟨m, 0, none⟩)] w fun e w' =>
    e = .returned (.bool true) ∧ PopB w' q c (popS c Q M) ∧ Blk w' p 82 (makeA c sl true kd ar ep bd ((some ⟨q, 0, none⟩)) gn ix 5) ∧ MemB w' m b (popM c Q M) ∧ Fr (four p q m b) w w' := by
  have n3 : ¬ three q m b p := fun h => h.elim (fun e => nqp e.symm) np
  have hS := fun w hM hQ => popC c w q m b M hc hM ok nqm Q hQ oQ
  rw [hd] at hS
  have hF := Lib.hid (Fr.refl (four p q m b) w)
  obtain ⟨k0, k1, k2, k3, k4, k5, k6, k7, k8, k9, k10, k11, k12, k13, k14, k15⟩ := make_cells hp
  have q0 : w.cell? ⟨q, 0, none⟩ = some (.int .i64 Q.sl) := Blk.cell hQ (i := 0) rfl
  replace hQ := Lib.hid hQ
  replace hp := Lib.hid hp
  replace hM := Lib.hid hM
  go_enter Try.func52, Try.ntmps52
  go_wp2_with (go_at_call 45; refine (hS _ hM.out hQ.out).mono ?_; rintro e w7 ⟨rfl, hQ', hM', hF'⟩; replace hp := Lib.hid (hp.out.fr hF' n3); replace hF := Lib.hid (hF.out.trans (hF'.mono (fun _ x => .inr x))); have b1 : w7.cell? ⟨q, 1, none⟩ = some (.bool true) := (by rw [← he]; exact Blk.cell hQ' (i := 1) rfl); have z1 := hp.out.frozen 1; have z15 := hp.out.frozen 15; obtain ⟨l0, l1, l2, l3, l4, l5, l6, l7, l8, l9, l10, l11, l12, l13, l14, l15⟩ := make_cells hp.out)
  go_ret
  exact ⟨rfl, Blk.other (Blk.other (Blk.other hQ' ⟨p, 15, none⟩ nqp _) ⟨p, 1, none⟩ nqp _) ⟨p, 15, none⟩ nqp _, ((hp.out.set 15 _).set 1 _).set 15 _, ((hM'.set np 15 _).set np 1 _).set np 15 _, ((hF.out.trans (fr_f _ 15 _)).trans (fr_f _ 1 _)).trans (fr_f _ 15 _)⟩
set_option maxHeartbeats 4000000 in
set_option maxRecDepth 100000 in
theorem make_1 (c : Cf) (w : World) (p m b : Nat) (M : Ms) (hM : MemB w m b M) (ok : Ok M) (np : ¬ two m b p) (sl : Int) (fu : Bool) (kd ar ep : Int) (bd : Value) (q : Nat) (Q : Pop) (nqm : ¬ two m b q) (nqp : q ≠ p) (hQ : PopB w q c Q) (gn ix : Int) (hp : Blk w p 82 (makeA c sl fu kd ar ep bd ((some ⟨q, 0, none⟩)) gn ix 1)) : Calls Try.prog 52 #[.pointer (some ⟨p, 0, none⟩), .pointer (some ⟨m, 0, none⟩)] w fun e w' =>
    e = .returned (.bool false) ∧ PopB w' q c Q ∧ Blk w' p 82 (makeA c sl fu kd ar ep bd ((some ⟨q, 0, none⟩)) ((uN (M.ldV (c.header Q.sl)))) ix 2) ∧ MemB w' m b (M.ldS (c.header Q.sl)) ∧ Fr (four p q m b) w w' := by
  obtain ⟨x0, x1⟩ := ldV_bd ok (c.header Q.sl)
  have hu := fun w => unpack_c (M.ldV (c.header Q.sl)) x0 x1 w
  have hl := fun w hM => load_c w m b M (c.header Q.sl) hM ok
  generalize (M.ldV (c.header Q.sl)) = x at *
  have hF := Lib.hid (Fr.refl (four p q m b) w)
  obtain ⟨k0, k1, k2, k3, k4, k5, k6, k7, k8, k9, k10, k11, k12, k13, k14, k15⟩ := make_cells hp
  have q0 : w.cell? ⟨q, 0, none⟩ = some (.int .i64 Q.sl) := Blk.cell hQ (i := 0) rfl
  replace hQ := Lib.hid hQ
  replace hp := Lib.hid hp
  replace hM := Lib.hid hM
  go_enter Try.func52, Try.ntmps52
  go_wp2_with (first
    | (go_at_call 72; refine (headerC c _ Q.sl).mono ?_; rintro e w3 ⟨rfl, hb⟩; replace hQ := Lib.hid (Blk.below hQ.out hb (Blk.lt hQ.out)); replace hp := Lib.hid (hp.out.below hb hp.out.lt); replace hM := Lib.hid (hM.out.next hb); replace hF := Lib.hid (hF.out.trans (Fr.of_below hb (fun _ x _ => x))); clear hb)
    | (go_at_call 35; refine (hl _ hM.out).mono ?_; rintro e w4 ⟨rfl, hM', hF'⟩; replace hQ := Lib.hid (Blk.fr hQ.out hF' nqm); replace hp := Lib.hid (hp.out.fr hF' np); replace hM := Lib.hid hM'; replace hF := Lib.hid (hF.out.trans (hF'.mono (fun _ x => .inr (.inr x)))); clear hM' hF')
    | (go_at_call 86; refine (hu _).mono ?_; rintro e w7 ⟨rfl, hb⟩; replace hQ := Lib.hid (Blk.below hQ.out hb (Blk.lt hQ.out)); replace hp := Lib.hid (hp.out.below hb hp.out.lt); replace hM := Lib.hid (hM.out.next hb); replace hF := Lib.hid (hF.out.trans (Fr.of_below hb (fun _ x _ => x))); clear hb; have hN := Blk.new w7 85 (#[.int .i64 (uK x), .int .i64 (uM x), .bool (uG x), .int .i64 (uA x), .int .i64 (uN x), .int .i64 (uS x)] : Array Value); have n4 := hN.cell (i := 4) (v := .int .i64 (uN x)) rfl; have hpa := hp.out.alloc (.cells (#[.int .i64 (uK x), .int .i64 (uM x), .bool (uG x), .int .i64 (uA x), .int .i64 (uN x), .int .i64 (uS x)] : Array Value) 85); have z13 := hpa.frozen 13; have z15 := hpa.frozen 15; obtain ⟨l0, l1, l2, l3, l4, l5, l6, l7, l8, l9, l10, l11, l12, l13, l14, l15⟩ := make_cells hpa))
  go_ret
  exact ⟨rfl, Blk.other (Blk.other (Blk.alloc hQ.out _) ⟨p, 13, none⟩ nqp _) ⟨p, 15, none⟩ nqp _, ((hp.out.alloc _).set 13 _).set 15 _, ((hM.out.alloc _).set np 13 _).set np 15 _, ((hF.out.trans (Fr.alloc _ w7 _)).trans (fr_f _ 13 _)).trans (fr_f _ 15 _)⟩
end Go.Proofs.Ytijfkpoofpcacaa.ArenaM
end
section
namespace Go.Proofs.Ytijfkpoofpcacaa.ArenaN
open Go.RowKit Go.Proofs.YtijfkpoofpcacaaW.PrintWords Go.Proofs.Ytijfkpoofpcacaa.Blk Go.Proofs.Ytijfkpoofpcacaa.Core Go.Proofs.Ytijfkpoofpcacaa.MemC Go.Proofs.Ytijfkpoofpcacaa.MemD Go.Proofs.Ytijfkpoofpcacaa.MemT Go.Proofs.Ytijfkpoofpcacaa.PlanC Go.Proofs.Ytijfkpoofpcacaa.PlanD Go.Proofs.Ytijfkpoofpcacaa.StackC Go.Proofs.Ytijfkpoofpcacaa.StackS Go.Proofs.Ytijfkpoofpcacaa.HeadC Go.Proofs.Ytijfkpoofpcacaa.ArenaC Go.Proofs.Ytijfkpoofpcacaa.ArenaM
set_option maxHeartbeats 4000000 in
set_option maxRecDepth 100000 in
theorem make_2b (c : Cf) (w : World) (p m b : Nat) (M : Ms) (hM : MemB w m b M) (ok : Ok M) (np : ¬ two m b p) (sl : Int) (fu : Bool) (kd ar ep : Int) (q : Nat) (Q : Pop) (nqm : ¬ two m b q) (nqp : q ≠ p) (hQ : PopB w q c Q) (gn : Int) (r cc n : Nat) (g : Nat → Int) (hR : RowB w (some ⟨r, 0, none⟩) cc r n g) (hn : n ≤ 1000) (nrm : ¬ two m b r) (nrp : r ≠ p) (k : Nat) (hk : k < n) (hl : ((k : Int) + 1 == (n : Int)) = false) (hp : Blk w p 82 (makeA c sl fu kd ar ep ((.slice (some ⟨r, 0, none⟩) n cc)) ((some ⟨q, 0, none⟩)) gn ((k : Int)) 2)) : Calls Try.prog 52 #[.pointer (some ⟨p, 0, none⟩), .pointer (some ⟨m, 0, none⟩)] w fun e w' =>
    e = .returned (.bool false) ∧ PopB w' q c Q ∧ Blk w' p 82 (makeA c sl fu kd ar ep ((.slice (some ⟨r, 0, none⟩) n cc)) ((some ⟨q, 0, none⟩)) gn (((k : Int) + 1)) 2) ∧ MemB w' m b (M.stS (c.body Q.sl k) (g k)) ∧ RowB w' (some ⟨r, 0, none⟩) cc r n g ∧ Fr (four p q m b) w w' := by
  replace hR := Lib.hid hR
  have kn : (k : Int) < (n : Int) := by omega
  have k0' : 0 ≤ (k : Int) := by omega
  have hF := Lib.hid (Fr.refl (four p q m b) w)
  obtain ⟨k0, k1, k2, k3, k4, k5, k6, k7, k8, k9, k10, k11, k12, k13, k14, k15⟩ := make_cells hp
  have q0 : w.cell? ⟨q, 0, none⟩ = some (.int .i64 Q.sl) := Blk.cell hQ (i := 0) rfl
  replace hQ := Lib.hid hQ
  replace hp := Lib.hid hp
  replace hM := Lib.hid hM
  go_enter Try.func52, Try.ntmps52
  go_wp2
  clear k0 k1 k2 k3 k4 k5 k6 k7 k8 k9 k10 k11 k12 k13 k14 k15 q0
  replace hQ := Lib.hid (Blk.drew hQ.out)
  replace hp := Lib.hid hp.out.drew
  replace hM := Lib.hid hM.out.drew
  replace hR := Lib.hid hR.out.drew
  replace hF := Lib.hid (hF.out.trans (Fr.drew _ w))
  have hX : w.drew.cell? ⟨p, 0, none⟩ = some (.int .i64 sl) ∧ w.drew.cell? ⟨p, 1, none⟩ = some (.bool fu) ∧ w.drew.cell? ⟨p, 2, none⟩ = some (.int .i64 c.S) ∧ w.drew.cell? ⟨p, 3, none⟩ = some (.int .i64 c.A) ∧ w.drew.cell? ⟨p, 4, none⟩ = some (.int .i64 c.C) ∧ w.drew.cell? ⟨p, 5, none⟩ = some (.int .i64 c.H) ∧ w.drew.cell? ⟨p, 6, none⟩ = some (.int .i64 c.G) ∧ w.drew.cell? ⟨p, 7, none⟩ = some (.int .i64 c.K) ∧ w.drew.cell? ⟨p, 8, none⟩ = some (.int .i64 kd) ∧ w.drew.cell? ⟨p, 9, none⟩ = some (.int .i64 ar) ∧ w.drew.cell? ⟨p, 10, none⟩ = some (.int .u64 ep) ∧ w.drew.cell? ⟨p, 11, none⟩ = some ((.slice (some ⟨r, 0, none⟩) n cc)) ∧ w.drew.cell? ⟨p, 12, none⟩ = some (.pointer (some ⟨q, 0, none⟩)) ∧ w.drew.cell? ⟨p, 13, none⟩ = some (.int .i64 gn) ∧ w.drew.cell? ⟨p, 14, none⟩ = some (.int .i64 (k : Int)) ∧ w.drew.cell? ⟨p, 15, none⟩ = some (.int .i64 2) ∧ w.drew.cell? ⟨r, k, none⟩ = some (.int .u64 (g k)) := by
    obtain ⟨x0, x1, x2, x3, x4, x5, x6, x7, x8, x9, x10, x11, x12, x13, x14, x15⟩ := make_cells hp.out
    exact ⟨x0, x1, x2, x3, x4, x5, x6, x7, x8, x9, x10, x11, x12, x13, x14, x15, (hR.out.cell hk).2.1⟩
  go_region_held3 (fun w' => w'.cell? ⟨p, 0, none⟩ = some (.int .i64 sl) ∧ w'.cell? ⟨p, 1, none⟩ = some (.bool fu) ∧ w'.cell? ⟨p, 2, none⟩ = some (.int .i64 c.S) ∧ w'.cell? ⟨p, 3, none⟩ = some (.int .i64 c.A) ∧ w'.cell? ⟨p, 4, none⟩ = some (.int .i64 c.C) ∧ w'.cell? ⟨p, 5, none⟩ = some (.int .i64 c.H) ∧ w'.cell? ⟨p, 6, none⟩ = some (.int .i64 c.G) ∧ w'.cell? ⟨p, 7, none⟩ = some (.int .i64 c.K) ∧ w'.cell? ⟨p, 8, none⟩ = some (.int .i64 kd) ∧ w'.cell? ⟨p, 9, none⟩ = some (.int .i64 ar) ∧ w'.cell? ⟨p, 10, none⟩ = some (.int .u64 ep) ∧ w'.cell? ⟨p, 11, none⟩ = some ((.slice (some ⟨r, 0, none⟩) n cc)) ∧ w'.cell? ⟨p, 12, none⟩ = some (.pointer (some ⟨q, 0, none⟩)) ∧ w'.cell? ⟨p, 13, none⟩ = some (.int .i64 gn) ∧ w'.cell? ⟨p, 14, none⟩ = some (.int .i64 (k : Int)) ∧ w'.cell? ⟨p, 15, none⟩ = some (.int .i64 2) ∧ w'.cell? ⟨r, k, none⟩ = some (.int .u64 (g k))) (assumption) (first
    | (go_at_call 85; refine (bodyC c _ Q.sl k).mono ?_; rintro e w3 ⟨rfl, hb⟩; replace hQ := Lib.hid (Blk.below hQ.out hb (Blk.lt hQ.out)); replace hp := Lib.hid (hp.out.below hb hp.out.lt); replace hM := Lib.hid (hM.out.next hb); replace hR := Lib.hid (hR.out.below hb (Nat.le_refl _)); replace hF := Lib.hid (hF.out.trans (Fr.of_below hb (fun _ x _ => x))); clear hb; have hY3 : w3.cell? ⟨p, 0, none⟩ = some (.int .i64 sl) ∧ w3.cell? ⟨p, 1, none⟩ = some (.bool fu) ∧ w3.cell? ⟨p, 2, none⟩ = some (.int .i64 c.S) ∧ w3.cell? ⟨p, 3, none⟩ = some (.int .i64 c.A) ∧ w3.cell? ⟨p, 4, none⟩ = some (.int .i64 c.C) ∧ w3.cell? ⟨p, 5, none⟩ = some (.int .i64 c.H) ∧ w3.cell? ⟨p, 6, none⟩ = some (.int .i64 c.G) ∧ w3.cell? ⟨p, 7, none⟩ = some (.int .i64 c.K) ∧ w3.cell? ⟨p, 8, none⟩ = some (.int .i64 kd) ∧ w3.cell? ⟨p, 9, none⟩ = some (.int .i64 ar) ∧ w3.cell? ⟨p, 10, none⟩ = some (.int .u64 ep) ∧ w3.cell? ⟨p, 11, none⟩ = some ((.slice (some ⟨r, 0, none⟩) n cc)) ∧ w3.cell? ⟨p, 12, none⟩ = some (.pointer (some ⟨q, 0, none⟩)) ∧ w3.cell? ⟨p, 13, none⟩ = some (.int .i64 gn) ∧ w3.cell? ⟨p, 14, none⟩ = some (.int .i64 (k : Int)) ∧ w3.cell? ⟨p, 15, none⟩ = some (.int .i64 2) ∧ w3.cell? ⟨r, k, none⟩ = some (.int .u64 (g k)) := (by obtain ⟨y0, y1, y2, y3, y4, y5, y6, y7, y8, y9, y10, y11, y12, y13, y14, y15⟩ := make_cells hp.out; exact ⟨y0, y1, y2, y3, y4, y5, y6, y7, y8, y9, y10, y11, y12, y13, y14, y15, (hR.out.cell hk).2.1⟩))
    | (go_at_call 57; refine (store_c _ m b M (c.body Q.sl k) hM.out ok (g k)).mono ?_; rintro e w4 ⟨rfl, hM', hF'⟩; replace hQ := Lib.hid (Blk.fr hQ.out hF' nqm); replace hp := Lib.hid (hp.out.fr hF' np); replace hM := Lib.hid hM'; replace hR := Lib.hid (hR.out.fr hF' nrm); replace hF := Lib.hid (hF.out.trans (hF'.mono (fun _ x => .inr (.inr x)))); clear hM' hF'; have hY4 : w4.cell? ⟨p, 0, none⟩ = some (.int .i64 sl) ∧ w4.cell? ⟨p, 1, none⟩ = some (.bool fu) ∧ w4.cell? ⟨p, 2, none⟩ = some (.int .i64 c.S) ∧ w4.cell? ⟨p, 3, none⟩ = some (.int .i64 c.A) ∧ w4.cell? ⟨p, 4, none⟩ = some (.int .i64 c.C) ∧ w4.cell? ⟨p, 5, none⟩ = some (.int .i64 c.H) ∧ w4.cell? ⟨p, 6, none⟩ = some (.int .i64 c.G) ∧ w4.cell? ⟨p, 7, none⟩ = some (.int .i64 c.K) ∧ w4.cell? ⟨p, 8, none⟩ = some (.int .i64 kd) ∧ w4.cell? ⟨p, 9, none⟩ = some (.int .i64 ar) ∧ w4.cell? ⟨p, 10, none⟩ = some (.int .u64 ep) ∧ w4.cell? ⟨p, 11, none⟩ = some ((.slice (some ⟨r, 0, none⟩) n cc)) ∧ w4.cell? ⟨p, 12, none⟩ = some (.pointer (some ⟨q, 0, none⟩)) ∧ w4.cell? ⟨p, 13, none⟩ = some (.int .i64 gn) ∧ w4.cell? ⟨p, 14, none⟩ = some (.int .i64 (k : Int)) ∧ w4.cell? ⟨p, 15, none⟩ = some (.int .i64 2) ∧ w4.cell? ⟨r, k, none⟩ = some (.int .u64 (g k)) := (by obtain ⟨y0, y1, y2, y3, y4, y5, y6, y7, y8, y9, y10, y11, y12, y13, y14, y15⟩ := make_cells hp.out; exact ⟨y0, y1, y2, y3, y4, y5, y6, y7, y8, y9, y10, y11, y12, y13, y14, y15, (hR.out.cell hk).2.1⟩)))
  all_goals
    clear hX hY3 hY4
    obtain ⟨l0, l1, l2, l3, l4, l5, l6, l7, l8, l9, l10, l11, l12, l13, l14, l15⟩ := make_cells hp.out
    have z14 := hp.out.frozen 14
    go_upto_region 16 with (fail)
    have hQ' : PopB (w4.setCell ⟨p, 14, none⟩ (.int .i64 ((k : Int) + 1))) q c Q := Blk.other hQ.out ⟨p, 14, none⟩ nqp _
    have hp' : Blk (w4.setCell ⟨p, 14, none⟩ (.int .i64 ((k : Int) + 1))) p 82 (makeA c sl fu kd ar ep ((.slice (some ⟨r, 0, none⟩) n cc)) ((some ⟨q, 0, none⟩)) gn (((k : Int) + 1)) 2) := hp.out.set 14 _
    have hM' := hM.out.set np 14 (.int .i64 ((k : Int) + 1))
    have hR' := hR.out.fr (Fr.set (fun x => x = p) w4 (p := ⟨p, 14, none⟩) rfl (.int .i64 ((k : Int) + 1))) nrp
    have hF' := hF.out.trans (fr_f w4 14 (.int .i64 ((k : Int) + 1)))
    clear hp hM hF hQ hR z14 l0 l1 l2 l3 l4 l5 l6 l7 l8 l9 l10 l11 l12 l13 l14 l15
    generalize w4.setCell ⟨p, 14, none⟩ (.int .i64 ((k : Int) + 1)) = w5 at *
    have hp := Lib.hid hp'
    have hM := Lib.hid hM'
    have hF := Lib.hid hF'
    have hQ := Lib.hid hQ'
    have hR := Lib.hid hR'
    clear hp' hM' hF' hQ' hR'
    replace hQ := Lib.hid (Blk.drew hQ.out)
    replace hp := Lib.hid hp.out.drew
    replace hM := Lib.hid hM.out.drew
    replace hR := Lib.hid hR.out.drew
    replace hF := Lib.hid (hF.out.trans (Fr.drew _ w5))
    have hX : w5.drew.cell? ⟨p, 0, none⟩ = some (.int .i64 sl) ∧ w5.drew.cell? ⟨p, 1, none⟩ = some (.bool fu) ∧ w5.drew.cell? ⟨p, 2, none⟩ = some (.int .i64 c.S) ∧ w5.drew.cell? ⟨p, 3, none⟩ = some (.int .i64 c.A) ∧ w5.drew.cell? ⟨p, 4, none⟩ = some (.int .i64 c.C) ∧ w5.drew.cell? ⟨p, 5, none⟩ = some (.int .i64 c.H) ∧ w5.drew.cell? ⟨p, 6, none⟩ = some (.int .i64 c.G) ∧ w5.drew.cell? ⟨p, 7, none⟩ = some (.int .i64 c.K) ∧ w5.drew.cell? ⟨p, 8, none⟩ = some (.int .i64 kd) ∧ w5.drew.cell? ⟨p, 9, none⟩ = some (.int .i64 ar) ∧ w5.drew.cell? ⟨p, 10, none⟩ = some (.int .u64 ep) ∧ w5.drew.cell? ⟨p, 11, none⟩ = some ((.slice (some ⟨r, 0, none⟩) n cc)) ∧ w5.drew.cell? ⟨p, 12, none⟩ = some (.pointer (some ⟨q, 0, none⟩)) ∧ w5.drew.cell? ⟨p, 13, none⟩ = some (.int .i64 gn) ∧ w5.drew.cell? ⟨p, 14, none⟩ = some (.int .i64 ((k : Int) + 1)) ∧ w5.drew.cell? ⟨p, 15, none⟩ = some (.int .i64 2) := make_cells hp.out
    go_region_held3 (fun w' => w'.cell? ⟨p, 0, none⟩ = some (.int .i64 sl) ∧ w'.cell? ⟨p, 1, none⟩ = some (.bool fu) ∧ w'.cell? ⟨p, 2, none⟩ = some (.int .i64 c.S) ∧ w'.cell? ⟨p, 3, none⟩ = some (.int .i64 c.A) ∧ w'.cell? ⟨p, 4, none⟩ = some (.int .i64 c.C) ∧ w'.cell? ⟨p, 5, none⟩ = some (.int .i64 c.H) ∧ w'.cell? ⟨p, 6, none⟩ = some (.int .i64 c.G) ∧ w'.cell? ⟨p, 7, none⟩ = some (.int .i64 c.K) ∧ w'.cell? ⟨p, 8, none⟩ = some (.int .i64 kd) ∧ w'.cell? ⟨p, 9, none⟩ = some (.int .i64 ar) ∧ w'.cell? ⟨p, 10, none⟩ = some (.int .u64 ep) ∧ w'.cell? ⟨p, 11, none⟩ = some ((.slice (some ⟨r, 0, none⟩) n cc)) ∧ w'.cell? ⟨p, 12, none⟩ = some (.pointer (some ⟨q, 0, none⟩)) ∧ w'.cell? ⟨p, 13, none⟩ = some (.int .i64 gn) ∧ w'.cell? ⟨p, 14, none⟩ = some (.int .i64 ((k : Int) + 1)) ∧ w'.cell? ⟨p, 15, none⟩ = some (.int .i64 2)) (assumption) (fail)
    all_goals
      clear hX
      have hp5 : Blk w5 p 82 (makeA c sl fu kd ar ep ((.slice (some ⟨r, 0, none⟩) n cc)) ((some ⟨q, 0, none⟩)) gn (((k : Int) + 1)) 2) := hp.out
      obtain ⟨l0, l1, l2, l3, l4, l5, l6, l7, l8, l9, l10, l11, l12, l13, l14, l15⟩ := make_cells hp5
      have z15 := hp5.frozen 15
      clear hp5
      go_wp2
      go_ret
      exact ⟨rfl, hQ.out, hp.out, hM.out, hR.out, hF.out⟩
set_option maxHeartbeats 4000000 in
set_option maxRecDepth 100000 in
theorem make_2e (c : Cf) (w : World) (p m b : Nat) (M : Ms) (hM : MemB w m b M) (ok : Ok M) (np : ¬ two m b p) (sl : Int) (fu : Bool) (kd ar ep : Int) (q : Nat) (Q : Pop) (nqm : ¬ two m b q) (nqp : q ≠ p) (hQ : PopB w q c Q) (gn : Int) (r cc n : Nat) (g : Nat → Int) (hR : RowB w (some ⟨r, 0, none⟩) cc r n g) (hn : n ≤ 1000) (nrm : ¬ two m b r) (nrp : r ≠ p) (k : Nat) (hk : k < n) (hl : ((k : Int) + 1 == (n : Int)) = true) (hp : Blk w p 82 (makeA c sl fu kd ar ep ((.slice (some ⟨r, 0, none⟩) n cc)) ((some ⟨q, 0, none⟩)) gn ((k : Int)) 2)) : Calls Try.prog 52 #[.pointer (some ⟨p, 0, none⟩), .pointer (some ⟨m, 0, none⟩)] w fun e w' =>
    e = .returned (.bool false) ∧ PopB w' q c Q ∧ Blk w' p 82 (makeA c sl fu kd ar ep ((.slice (some ⟨r, 0, none⟩) n cc)) ((some ⟨q, 0, none⟩)) gn (((k : Int) + 1)) 3) ∧ MemB w' m b (M.stS (c.body Q.sl k) (g k)) ∧ RowB w' (some ⟨r, 0, none⟩) cc r n g ∧ Fr (four p q m b) w w' := by
  replace hR := Lib.hid hR
  have kn : (k : Int) < (n : Int) := by omega
  have k0' : 0 ≤ (k : Int) := by omega
  have hF := Lib.hid (Fr.refl (four p q m b) w)
  obtain ⟨k0, k1, k2, k3, k4, k5, k6, k7, k8, k9, k10, k11, k12, k13, k14, k15⟩ := make_cells hp
  have q0 : w.cell? ⟨q, 0, none⟩ = some (.int .i64 Q.sl) := Blk.cell hQ (i := 0) rfl
  replace hQ := Lib.hid hQ
  replace hp := Lib.hid hp
  replace hM := Lib.hid hM
  go_enter Try.func52, Try.ntmps52
  go_wp2
  clear k0 k1 k2 k3 k4 k5 k6 k7 k8 k9 k10 k11 k12 k13 k14 k15 q0
  replace hQ := Lib.hid (Blk.drew hQ.out)
  replace hp := Lib.hid hp.out.drew
  replace hM := Lib.hid hM.out.drew
  replace hR := Lib.hid hR.out.drew
  replace hF := Lib.hid (hF.out.trans (Fr.drew _ w))
  have hX : w.drew.cell? ⟨p, 0, none⟩ = some (.int .i64 sl) ∧ w.drew.cell? ⟨p, 1, none⟩ = some (.bool fu) ∧ w.drew.cell? ⟨p, 2, none⟩ = some (.int .i64 c.S) ∧ w.drew.cell? ⟨p, 3, none⟩ = some (.int .i64 c.A) ∧ w.drew.cell? ⟨p, 4, none⟩ = some (.int .i64 c.C) ∧ w.drew.cell? ⟨p, 5, none⟩ = some (.int .i64 c.H) ∧ w.drew.cell? ⟨p, 6, none⟩ = some (.int .i64 c.G) ∧ w.drew.cell? ⟨p, 7, none⟩ = some (.int .i64 c.K) ∧ w.drew.cell? ⟨p, 8, none⟩ = some (.int .i64 kd) ∧ w.drew.cell? ⟨p, 9, none⟩ = some (.int .i64 ar) ∧ w.drew.cell? ⟨p, 10, none⟩ = some (.int .u64 ep) ∧ w.drew.cell? ⟨p, 11, none⟩ = some ((.slice (some ⟨r, 0, none⟩) n cc)) ∧ w.drew.cell? ⟨p, 12, none⟩ = some (.pointer (some ⟨q, 0, none⟩)) ∧ w.drew.cell? ⟨p, 13, none⟩ = some (.int .i64 gn) ∧ w.drew.cell? ⟨p, 14, none⟩ = some (.int .i64 (k : Int)) ∧ w.drew.cell? ⟨p, 15, none⟩ = some (.int .i64 2) ∧ w.drew.cell? ⟨r, k, none⟩ = some (.int .u64 (g k)) := by
    obtain ⟨x0, x1, x2, x3, x4, x5, x6, x7, x8, x9, x10, x11, x12, x13, x14, x15⟩ := make_cells hp.out
    exact ⟨x0, x1, x2, x3, x4, x5, x6, x7, x8, x9, x10, x11, x12, x13, x14, x15, (hR.out.cell hk).2.1⟩
  go_region_held3 (fun w' => w'.cell? ⟨p, 0, none⟩ = some (.int .i64 sl) ∧ w'.cell? ⟨p, 1, none⟩ = some (.bool fu) ∧ w'.cell? ⟨p, 2, none⟩ = some (.int .i64 c.S) ∧ w'.cell? ⟨p, 3, none⟩ = some (.int .i64 c.A) ∧ w'.cell? ⟨p, 4, none⟩ = some (.int .i64 c.C) ∧ w'.cell? ⟨p, 5, none⟩ = some (.int .i64 c.H) ∧ w'.cell? ⟨p, 6, none⟩ = some (.int .i64 c.G) ∧ w'.cell? ⟨p, 7, none⟩ = some (.int .i64 c.K) ∧ w'.cell? ⟨p, 8, none⟩ = some (.int .i64 kd) ∧ w'.cell? ⟨p, 9, none⟩ = some (.int .i64 ar) ∧ w'.cell? ⟨p, 10, none⟩ = some (.int .u64 ep) ∧ w'.cell? ⟨p, 11, none⟩ = some ((.slice (some ⟨r, 0, none⟩) n cc)) ∧ w'.cell? ⟨p, 12, none⟩ = some (.pointer (some ⟨q, 0, none⟩)) ∧ w'.cell? ⟨p, 13, none⟩ = some (.int .i64 gn) ∧ w'.cell? ⟨p, 14, none⟩ = some (.int .i64 (k : Int)) ∧ w'.cell? ⟨p, 15, none⟩ = some (.int .i64 2) ∧ w'.cell? ⟨r, k, none⟩ = some (.int .u64 (g k))) (assumption) (first
    | (go_at_call 85; refine (bodyC c _ Q.sl k).mono ?_; rintro e w3 ⟨rfl, hb⟩; replace hQ := Lib.hid (Blk.below hQ.out hb (Blk.lt hQ.out)); replace hp := Lib.hid (hp.out.below hb hp.out.lt); replace hM := Lib.hid (hM.out.next hb); replace hR := Lib.hid (hR.out.below hb (Nat.le_refl _)); replace hF := Lib.hid (hF.out.trans (Fr.of_below hb (fun _ x _ => x))); clear hb; have hY3 : w3.cell? ⟨p, 0, none⟩ = some (.int .i64 sl) ∧ w3.cell? ⟨p, 1, none⟩ = some (.bool fu) ∧ w3.cell? ⟨p, 2, none⟩ = some (.int .i64 c.S) ∧ w3.cell? ⟨p, 3, none⟩ = some (.int .i64 c.A) ∧ w3.cell? ⟨p, 4, none⟩ = some (.int .i64 c.C) ∧ w3.cell? ⟨p, 5, none⟩ = some (.int .i64 c.H) ∧ w3.cell? ⟨p, 6, none⟩ = some (.int .i64 c.G) ∧ w3.cell? ⟨p, 7, none⟩ = some (.int .i64 c.K) ∧ w3.cell? ⟨p, 8, none⟩ = some (.int .i64 kd) ∧ w3.cell? ⟨p, 9, none⟩ = some (.int .i64 ar) ∧ w3.cell? ⟨p, 10, none⟩ = some (.int .u64 ep) ∧ w3.cell? ⟨p, 11, none⟩ = some ((.slice (some ⟨r, 0, none⟩) n cc)) ∧ w3.cell? ⟨p, 12, none⟩ = some (.pointer (some ⟨q, 0, none⟩)) ∧ w3.cell? ⟨p, 13, none⟩ = some (.int .i64 gn) ∧ w3.cell? ⟨p, 14, none⟩ = some (.int .i64 (k : Int)) ∧ w3.cell? ⟨p, 15, none⟩ = some (.int .i64 2) ∧ w3.cell? ⟨r, k, none⟩ = some (.int .u64 (g k)) := (by obtain ⟨y0, y1, y2, y3, y4, y5, y6, y7, y8, y9, y10, y11, y12, y13, y14, y15⟩ := make_cells hp.out; exact ⟨y0, y1, y2, y3, y4, y5, y6, y7, y8, y9, y10, y11, y12, y13, y14, y15, (hR.out.cell hk).2.1⟩))
    | (go_at_call 57; refine (store_c _ m b M (c.body Q.sl k) hM.out ok (g k)).mono ?_; rintro e w4 ⟨rfl, hM', hF'⟩; replace hQ := Lib.hid (Blk.fr hQ.out hF' nqm); replace hp := Lib.hid (hp.out.fr hF' np); replace hM := Lib.hid hM'; replace hR := Lib.hid (hR.out.fr hF' nrm); replace hF := Lib.hid (hF.out.trans (hF'.mono (fun _ x => .inr (.inr x)))); clear hM' hF'; have hY4 : w4.cell? ⟨p, 0, none⟩ = some (.int .i64 sl) ∧ w4.cell? ⟨p, 1, none⟩ = some (.bool fu) ∧ w4.cell? ⟨p, 2, none⟩ = some (.int .i64 c.S) ∧ w4.cell? ⟨p, 3, none⟩ = some (.int .i64 c.A) ∧ w4.cell? ⟨p, 4, none⟩ = some (.int .i64 c.C) ∧ w4.cell? ⟨p, 5, none⟩ = some (.int .i64 c.H) ∧ w4.cell? ⟨p, 6, none⟩ = some (.int .i64 c.G) ∧ w4.cell? ⟨p, 7, none⟩ = some (.int .i64 c.K) ∧ w4.cell? ⟨p, 8, none⟩ = some (.int .i64 kd) ∧ w4.cell? ⟨p, 9, none⟩ = some (.int .i64 ar) ∧ w4.cell? ⟨p, 10, none⟩ = some (.int .u64 ep) ∧ w4.cell? ⟨p, 11, none⟩ = some ((.slice (some ⟨r, 0, none⟩) n cc)) ∧ w4.cell? ⟨p, 12, none⟩ = some (.pointer (some ⟨q, 0, none⟩)) ∧ w4.cell? ⟨p, 13, none⟩ = some (.int .i64 gn) ∧ w4.cell? ⟨p, 14, none⟩ = some (.int .i64 (k : Int)) ∧ w4.cell? ⟨p, 15, none⟩ = some (.int .i64 2) ∧ w4.cell? ⟨r, k, none⟩ = some (.int .u64 (g k)) := (by obtain ⟨y0, y1, y2, y3, y4, y5, y6, y7, y8, y9, y10, y11, y12, y13, y14, y15⟩ := make_cells hp.out; exact ⟨y0, y1, y2, y3, y4, y5, y6, y7, y8, y9, y10, y11, y12, y13, y14, y15, (hR.out.cell hk).2.1⟩)))
  all_goals
    clear hX hY3 hY4
    obtain ⟨l0, l1, l2, l3, l4, l5, l6, l7, l8, l9, l10, l11, l12, l13, l14, l15⟩ := make_cells hp.out
    have z14 := hp.out.frozen 14
    go_upto_region 16 with (fail)
    have hQ' : PopB (w4.setCell ⟨p, 14, none⟩ (.int .i64 ((k : Int) + 1))) q c Q := Blk.other hQ.out ⟨p, 14, none⟩ nqp _
    have hp' : Blk (w4.setCell ⟨p, 14, none⟩ (.int .i64 ((k : Int) + 1))) p 82 (makeA c sl fu kd ar ep ((.slice (some ⟨r, 0, none⟩) n cc)) ((some ⟨q, 0, none⟩)) gn (((k : Int) + 1)) 2) := hp.out.set 14 _
    have hM' := hM.out.set np 14 (.int .i64 ((k : Int) + 1))
    have hR' := hR.out.fr (Fr.set (fun x => x = p) w4 (p := ⟨p, 14, none⟩) rfl (.int .i64 ((k : Int) + 1))) nrp
    have hF' := hF.out.trans (fr_f w4 14 (.int .i64 ((k : Int) + 1)))
    clear hp hM hF hQ hR z14 l0 l1 l2 l3 l4 l5 l6 l7 l8 l9 l10 l11 l12 l13 l14 l15
    generalize w4.setCell ⟨p, 14, none⟩ (.int .i64 ((k : Int) + 1)) = w5 at *
    have hp := Lib.hid hp'
    have hM := Lib.hid hM'
    have hF := Lib.hid hF'
    have hQ := Lib.hid hQ'
    have hR := Lib.hid hR'
    clear hp' hM' hF' hQ' hR'
    replace hQ := Lib.hid (Blk.drew hQ.out)
    replace hp := Lib.hid hp.out.drew
    replace hM := Lib.hid hM.out.drew
    replace hR := Lib.hid hR.out.drew
    replace hF := Lib.hid (hF.out.trans (Fr.drew _ w5))
    have hX : w5.drew.cell? ⟨p, 0, none⟩ = some (.int .i64 sl) ∧ w5.drew.cell? ⟨p, 1, none⟩ = some (.bool fu) ∧ w5.drew.cell? ⟨p, 2, none⟩ = some (.int .i64 c.S) ∧ w5.drew.cell? ⟨p, 3, none⟩ = some (.int .i64 c.A) ∧ w5.drew.cell? ⟨p, 4, none⟩ = some (.int .i64 c.C) ∧ w5.drew.cell? ⟨p, 5, none⟩ = some (.int .i64 c.H) ∧ w5.drew.cell? ⟨p, 6, none⟩ = some (.int .i64 c.G) ∧ w5.drew.cell? ⟨p, 7, none⟩ = some (.int .i64 c.K) ∧ w5.drew.cell? ⟨p, 8, none⟩ = some (.int .i64 kd) ∧ w5.drew.cell? ⟨p, 9, none⟩ = some (.int .i64 ar) ∧ w5.drew.cell? ⟨p, 10, none⟩ = some (.int .u64 ep) ∧ w5.drew.cell? ⟨p, 11, none⟩ = some ((.slice (some ⟨r, 0, none⟩) n cc)) ∧ w5.drew.cell? ⟨p, 12, none⟩ = some (.pointer (some ⟨q, 0, none⟩)) ∧ w5.drew.cell? ⟨p, 13, none⟩ = some (.int .i64 gn) ∧ w5.drew.cell? ⟨p, 14, none⟩ = some (.int .i64 ((k : Int) + 1)) ∧ w5.drew.cell? ⟨p, 15, none⟩ = some (.int .i64 2) := make_cells hp.out
    go_region_held3 (fun w' => w'.cell? ⟨p, 0, none⟩ = some (.int .i64 sl) ∧ w'.cell? ⟨p, 1, none⟩ = some (.bool fu) ∧ w'.cell? ⟨p, 2, none⟩ = some (.int .i64 c.S) ∧ w'.cell? ⟨p, 3, none⟩ = some (.int .i64 c.A) ∧ w'.cell? ⟨p, 4, none⟩ = some (.int .i64 c.C) ∧ w'.cell? ⟨p, 5, none⟩ = some (.int .i64 c.H) ∧ w'.cell? ⟨p, 6, none⟩ = some (.int .i64 c.G) ∧ w'.cell? ⟨p, 7, none⟩ = some (.int .i64 c.K) ∧ w'.cell? ⟨p, 8, none⟩ = some (.int .i64 kd) ∧ w'.cell? ⟨p, 9, none⟩ = some (.int .i64 ar) ∧ w'.cell? ⟨p, 10, none⟩ = some (.int .u64 ep) ∧ w'.cell? ⟨p, 11, none⟩ = some ((.slice (some ⟨r, 0, none⟩) n cc)) ∧ w'.cell? ⟨p, 12, none⟩ = some (.pointer (some ⟨q, 0, none⟩)) ∧ w'.cell? ⟨p, 13, none⟩ = some (.int .i64 gn) ∧ w'.cell? ⟨p, 14, none⟩ = some (.int .i64 ((k : Int) + 1)) ∧ w'.cell? ⟨p, 15, none⟩ = some (.int .i64 2)) (assumption) (fail)
    all_goals
      clear hX
      have hp5 : Blk w5 p 82 (makeA c sl fu kd ar ep ((.slice (some ⟨r, 0, none⟩) n cc)) ((some ⟨q, 0, none⟩)) gn (((k : Int) + 1)) 2) := hp.out
      obtain ⟨l0, l1, l2, l3, l4, l5, l6, l7, l8, l9, l10, l11, l12, l13, l14, l15⟩ := make_cells hp5
      have z15 := hp5.frozen 15
      clear hp5
      go_wp2
      go_ret
      exact ⟨rfl, Blk.other hQ.out ⟨p, 15, none⟩ nqp _, hp.out.set 15 _, hM.out.set np 15 _, hR.out.fr (Fr.set (fun x => x = p) _ (p := ⟨p, 15, none⟩) rfl _) nrp, hF.out.trans (fr_f _ 15 _)⟩
set_option maxHeartbeats 4000000 in
set_option maxRecDepth 100000 in
theorem make_3 (c : Cf) (w : World) (p m b : Nat) (M : Ms) (hM : MemB w m b M) (ok : Ok M) (np : ¬ two m b p) (sl : Int) (fu : Bool) (kd ar ep : Int) (q : Nat) (Q : Pop) (nqm : ¬ two m b q) (nqp : q ≠ p) (hQ : PopB w q c Q) (bd : Value) (gn ix : Int) (e0 : 0 ≤ ep) (e1 : ep < 18446744073709551616) (ha : ar < 9223372036854775808) (hg : gn < 9223372036854775808) (hp : Blk w p 82 (makeA c sl fu kd ar ep bd ((some ⟨q, 0, none⟩)) gn ix 3)) : Calls Try.prog 52 #[.pointer (some ⟨p, 0, none⟩), .pointer (some ⟨m, 0, none⟩)] w fun e w' =>
    e = .returned (.bool true) ∧ PopB w' q c Q ∧ Blk w' p 82 (makeA c Q.sl fu kd ar ep bd ((some ⟨q, 0, none⟩)) gn ix 5) ∧ MemB w' m b (M.stS (c.header Q.sl) (madeV kd ar gn ep).1) ∧ Fr (four p q m b) w w' := by
  have hmd := fun w => made_c kd ar gn ep e0 e1 ha hg w
  generalize madeV kd ar gn ep = mv at *
  obtain ⟨mv1, mv2⟩ := mv
  have hF := Lib.hid (Fr.refl (four p q m b) w)
  obtain ⟨k0, k1, k2, k3, k4, k5, k6, k7, k8, k9, k10, k11, k12, k13, k14, k15⟩ := make_cells hp
  have q0 : w.cell? ⟨q, 0, none⟩ = some (.int .i64 Q.sl) := Blk.cell hQ (i := 0) rfl
  replace hQ := Lib.hid hQ
  replace hp := Lib.hid hp
  replace hM := Lib.hid hM
  go_enter Try.func52, Try.ntmps52
  go_wp2
  clear k0 k1 k2 k3 k4 k5 k6 k7 k8 k9 k10 k11 k12 k13 k14 k15 q0
  replace hQ := Lib.hid (Blk.drew hQ.out)
  replace hp := Lib.hid hp.out.drew
  replace hM := Lib.hid hM.out.drew
  replace hF := Lib.hid (hF.out.trans (Fr.drew _ w))
  have hX : w.drew.cell? ⟨p, 0, none⟩ = some (.int .i64 sl) ∧ w.drew.cell? ⟨p, 1, none⟩ = some (.bool fu) ∧ w.drew.cell? ⟨p, 2, none⟩ = some (.int .i64 c.S) ∧ w.drew.cell? ⟨p, 3, none⟩ = some (.int .i64 c.A) ∧ w.drew.cell? ⟨p, 4, none⟩ = some (.int .i64 c.C) ∧ w.drew.cell? ⟨p, 5, none⟩ = some (.int .i64 c.H) ∧ w.drew.cell? ⟨p, 6, none⟩ = some (.int .i64 c.G) ∧ w.drew.cell? ⟨p, 7, none⟩ = some (.int .i64 c.K) ∧ w.drew.cell? ⟨p, 8, none⟩ = some (.int .i64 kd) ∧ w.drew.cell? ⟨p, 9, none⟩ = some (.int .i64 ar) ∧ w.drew.cell? ⟨p, 10, none⟩ = some (.int .u64 ep) ∧ w.drew.cell? ⟨p, 11, none⟩ = some (bd) ∧ w.drew.cell? ⟨p, 12, none⟩ = some (.pointer (some ⟨q, 0, none⟩)) ∧ w.drew.cell? ⟨p, 13, none⟩ = some (.int .i64 gn) ∧ w.drew.cell? ⟨p, 14, none⟩ = some (.int .i64 ix) ∧ w.drew.cell? ⟨p, 15, none⟩ = some (.int .i64 3) := make_cells hp.out
  go_region_held3 (fun w' => w'.cell? ⟨p, 0, none⟩ = some (.int .i64 sl) ∧ w'.cell? ⟨p, 1, none⟩ = some (.bool fu) ∧ w'.cell? ⟨p, 2, none⟩ = some (.int .i64 c.S) ∧ w'.cell? ⟨p, 3, none⟩ = some (.int .i64 c.A) ∧ w'.cell? ⟨p, 4, none⟩ = some (.int .i64 c.C) ∧ w'.cell? ⟨p, 5, none⟩ = some (.int .i64 c.H) ∧ w'.cell? ⟨p, 6, none⟩ = some (.int .i64 c.G) ∧ w'.cell? ⟨p, 7, none⟩ = some (.int .i64 c.K) ∧ w'.cell? ⟨p, 8, none⟩ = some (.int .i64 kd) ∧ w'.cell? ⟨p, 9, none⟩ = some (.int .i64 ar) ∧ w'.cell? ⟨p, 10, none⟩ = some (.int .u64 ep) ∧ w'.cell? ⟨p, 11, none⟩ = some (bd) ∧ w'.cell? ⟨p, 12, none⟩ = some (.pointer (some ⟨q, 0, none⟩)) ∧ w'.cell? ⟨p, 13, none⟩ = some (.int .i64 gn) ∧ w'.cell? ⟨p, 14, none⟩ = some (.int .i64 ix) ∧ w'.cell? ⟨p, 15, none⟩ = some (.int .i64 3)) (assumption) (first
    | (go_at_call 87; refine (hmd _).mono ?_; rintro e w3 ⟨rfl, hb⟩; replace hQ := Lib.hid (Blk.below hQ.out hb (Blk.lt hQ.out)); replace hp := Lib.hid (hp.out.below hb hp.out.lt); replace hM := Lib.hid (hM.out.next hb); replace hF := Lib.hid (hF.out.trans (Fr.of_below hb (fun _ x _ => x))); clear hb; have hY3 : w3.cell? ⟨p, 0, none⟩ = some (.int .i64 sl) ∧ w3.cell? ⟨p, 1, none⟩ = some (.bool fu) ∧ w3.cell? ⟨p, 2, none⟩ = some (.int .i64 c.S) ∧ w3.cell? ⟨p, 3, none⟩ = some (.int .i64 c.A) ∧ w3.cell? ⟨p, 4, none⟩ = some (.int .i64 c.C) ∧ w3.cell? ⟨p, 5, none⟩ = some (.int .i64 c.H) ∧ w3.cell? ⟨p, 6, none⟩ = some (.int .i64 c.G) ∧ w3.cell? ⟨p, 7, none⟩ = some (.int .i64 c.K) ∧ w3.cell? ⟨p, 8, none⟩ = some (.int .i64 kd) ∧ w3.cell? ⟨p, 9, none⟩ = some (.int .i64 ar) ∧ w3.cell? ⟨p, 10, none⟩ = some (.int .u64 ep) ∧ w3.cell? ⟨p, 11, none⟩ = some (bd) ∧ w3.cell? ⟨p, 12, none⟩ = some (.pointer (some ⟨q, 0, none⟩)) ∧ w3.cell? ⟨p, 13, none⟩ = some (.int .i64 gn) ∧ w3.cell? ⟨p, 14, none⟩ = some (.int .i64 ix) ∧ w3.cell? ⟨p, 15, none⟩ = some (.int .i64 3) := make_cells hp.out))
  all_goals
    clear hX hY3
    obtain ⟨l0, l1, l2, l3, l4, l5, l6, l7, l8, l9, l10, l11, l12, l13, l14, l15⟩ := make_cells hp.out
    go_wp2_with (first
      | (go_at_call 72; refine (headerC c _ Q.sl).mono ?_; rintro e w4 ⟨rfl, hb⟩; replace hQ := Lib.hid (Blk.below hQ.out hb (Blk.lt hQ.out)); replace hp := Lib.hid (hp.out.below hb hp.out.lt); replace hM := Lib.hid (hM.out.next hb); replace hF := Lib.hid (hF.out.trans (Fr.of_below hb (fun _ x _ => x))); clear hb)
      | (go_at_call 57; refine (store_c _ m b M (c.header Q.sl) hM.out ok mv1).mono ?_; rintro e w5 ⟨rfl, hM', hF'⟩; replace hQ := Lib.hid (Blk.fr hQ.out hF' nqm); replace hp := Lib.hid (hp.out.fr hF' np); replace hM := Lib.hid hM'; replace hF := Lib.hid (hF.out.trans (hF'.mono (fun _ x => .inr (.inr x)))); clear hM' hF'; have z0 := hp.out.frozen 0; have z15 := hp.out.frozen 15; obtain ⟨n0, n1, n2, n3, n4, n5, n6, n7, n8, n9, n10, n11, n12, n13, n14, n15⟩ := make_cells hp.out))
    go_ret
    exact ⟨rfl, Blk.other (Blk.other hQ.out ⟨p, 0, none⟩ nqp _) ⟨p, 15, none⟩ nqp _, (hp.out.set 0 _).set 15 _, (hM.out.set np 0 _).set np 15 _, (hF.out.trans (fr_f _ 0 _)).trans (fr_f _ 15 _)⟩
end Go.Proofs.Ytijfkpoofpcacaa.ArenaN
end
section
namespace Go.Proofs.Ytijfkpoofpcacaa.ArenaP
open Go.RowKit Go.Proofs.YtijfkpoofpcacaaW.PrintWords Go.Proofs.Ytijfkpoofpcacaa.Blk Go.Proofs.Ytijfkpoofpcacaa.Core Go.Proofs.Ytijfkpoofpcacaa.MemC Go.Proofs.Ytijfkpoofpcacaa.MemD Go.Proofs.Ytijfkpoofpcacaa.MemT Go.Proofs.Ytijfkpoofpcacaa.PlanC Go.Proofs.Ytijfkpoofpcacaa.PlanD Go.Proofs.Ytijfkpoofpcacaa.StackC Go.Proofs.Ytijfkpoofpcacaa.StackS Go.Proofs.Ytijfkpoofpcacaa.HeadC Go.Proofs.Ytijfkpoofpcacaa.ArenaC Go.Proofs.Ytijfkpoofpcacaa.ArenaM Go.Proofs.Ytijfkpoofpcacaa.ArenaN Go.Proofs.Ytijfkpoofpcacaa.Opens
def padF (bn : Nat) (bf : Nat → Int) : Nat → Int := fun j => if j < bn then bf j else 0
theorem copyC (w : World) (r n : Nat) (A : Option Addr) (bn bc : Nat) (bf : Nat → Int) (hb : Blk w r 33 (rowF .u64 n (fun _ => 0))) (hS : Sl w A bn 1 (fun i _ => .int .u64 (bf i))) (h : bn ≤ n) :
    ∃ w', (Builtin.copy_ #[29, 29] 3 #[.slice (some ⟨r, 0, none⟩) n n, .slice A bn bc]).run Try.prog w = .ok (goInt bn) w' ∧ Blk w' r 33 (rowF .u64 n (padF bn bf)) ∧ Fr (fun k => k = r) w w' := by
  have hu : Try.prog.underlying 29 = some (.slice 33) := Try.underlying29
  have hz : (Try.prog.info? 33).map (·.size) = some 1 := by kernel_rfl
  rcases Nat.eq_zero_or_pos bn with e | e
  · subst e
    refine ⟨w, Go.run_copy_none w 29 29 3 33 _ _ _ _ _ _ hu hz (by simp), ?_, Fr.refl _ _⟩
    have : padF 0 bf = fun _ => 0 := by funext j; unfold padF; rw [if_neg (by omega)]
    rw [this]; exact hb
  · obtain ⟨b, o, rfl, hl, hc⟩ := hS e
    have hlen : ((List.range bn).map (fun i => Value.int .u64 (bf i))).length = bn := by simp
    have hrun := Go.run_copy_row (P := Try.prog) w 29 29 3 33 r 0 n n ⟨b, o, none⟩ bn bc (rowF .u64 n (fun _ => 0)) 33 ((List.range bn).map (fun i => Value.int .u64 (bf i))) hu hz hb (by rw [hlen]; exact (Nat.min_eq_left h).symm)
      (fun j v hj => by
        have hj' : j < bn := by
          rcases Nat.lt_or_ge j bn with q | q
          · exact q
          · rw [List.getElem?_eq_none (by rw [hlen]; exact q)] at hj; cases hj
        have := hc j hj' 0 (by decide)
        rw [Nat.mul_one] at this
        rw [Go.WideShapes.add_plain]
        rw [List.getElem?_map, List.getElem?_range hj'] at hj
        cases hj
        exact this) (by rw [hlen, rowF_size]; omega) (fun v hv => by
        obtain ⟨i, _, rfl⟩ := List.mem_map.1 hv
        rfl)
    rw [hlen] at hrun
    have he : ((rowF .u64 n (fun _ => 0)).toList.take 0 ++ (List.range bn).map (fun i => Value.int .u64 (bf i)) ++ (rowF .u64 n (fun _ => 0)).toList.drop (0 + bn)).toArray = rowF .u64 n (padF bn bf) := by
      refine Array.ext_getElem? fun i => ?_
      rw [List.getElem?_toArray, List.take_zero, List.nil_append, Nat.zero_add]
      by_cases h1 : i < n
      · rw [rowF_get h1]
        unfold padF
        by_cases h2 : i < bn
        · rw [List.getElem?_append_left (by rw [hlen]; exact h2), List.getElem?_map, List.getElem?_range h2, if_pos h2]; rfl
        · rw [List.getElem?_append_right (by rw [hlen]; omega), hlen, List.getElem?_drop, show bn + (i - bn) = i by omega, if_neg h2, Array.getElem?_toList, rowF_get h1]
      · rw [rowF_none h1, List.getElem?_eq_none]
        rw [List.length_append, hlen, List.length_drop, Array.length_toList, rowF_size]
        omega
    rw [he] at hrun
    exact ⟨_, hrun, Go.setRow_heap w r _ _ _ _ hb, ⟨rfl, rfl, rfl, by simp, fun k hk hs => Go.setRow_other w r k _ (fun e => hs e)⟩⟩
def roomI (c : Cf) : Nat := (roomV c.A - 2).toNat
theorem room_i {c : Cf} (hr : c.right = true) : 3 ≤ roomI c ∧ roomI c ≤ 8 ∧ (roomI c : Int) = roomV c.A - 2 := by
  have := size_bd hr
  unfold roomI; omega
theorem body_yes {c : Cf} (hr : c.right = true) {i : Nat} (hi : i < roomI c) : 0 ≤ c.body 0 i := by
  have h := size_bd hr
  have h1 := room_i hr
  have h2 := right_iff.1 hr
  unfold Cf.body
  rw [if_pos ⟨hr, by decide, by omega, by omega, by omega⟩]
  omega
theorem body_no {c : Cf} (hr : c.right = true) {s : Int} : c.body s (roomI c) < 0 := by
  have h1 := room_i hr
  unfold Cf.body
  rw [if_neg (by omega)]
  decide
section
variable (c : Cf) (w : World) (ar ep : Int) (A : Option Addr) (bn bc : Nat) (bf : Nat → Int) (hS : Sl w A bn 1 (fun i _ => .int .u64 (bf i))) (hr : c.right = true) (h0 : 0 ≤ ar)
include hS hr h0
set_option maxHeartbeats 4000000 in
set_option maxRecDepth 100000 in
theorem newMake_1 (hk : ar ≤ c.A) (hb : bn ≤ roomI c) : Calls Try.prog 51 #[.agg #[.int .i64 c.S, .int .i64 c.A, .int .i64 c.C, .int .i64 c.H, .int .i64 c.G, .int .i64 c.K], .int .i64 1, .int .i64 ar, .int .u64 ep, .slice A bn bc] w fun e w' =>
    ∃ p q r, e = .returned (.pointer (some ⟨p, 0, none⟩)) ∧ w.heap.size ≤ r ∧ r < q ∧ q < p ∧ PopB w' q c ⟨-1, false, 0, 0, 0⟩ ∧ Blk w' p 82 (makeA c (-1) false 1 ar ep (.slice (some ⟨r, 0, none⟩) (roomI c) (roomI c)) (some ⟨q, 0, none⟩) 0 0 0) ∧ RowB w' (some ⟨r, 0, none⟩) (roomI c) r (roomI c) (padF bn bf) ∧ Below w.heap.size w w' := by
  have hf := Lib.hid (Blk.new w 23 #[.int .i64 c.S, .int .i64 c.A, .int .i64 c.C, .int .i64 c.H, .int .i64 c.G, .int .i64 c.K])
  have hT0 := Lib.hid ((Below.refl w.heap.size w).alloc (Nat.le_refl _) (.cells #[.int .i64 c.S, .int .i64 c.A, .int .i64 c.C, .int .i64 c.H, .int .i64 c.G, .int .i64 c.K] 23))
  have hri := room_i hr
  obtain ⟨R, hR⟩ : ∃ R, R = roomI c := ⟨_, rfl⟩
  have hby : ∀ i : Nat, i < R → 0 ≤ c.body 0 i := fun i hi => body_yes hr (hR ▸ hi)
  have hbn : c.body 0 R < 0 := hR ▸ body_no hr
  obtain ⟨hr3, hr8, _⟩ := hri
  rw [← hR] at hr3 hr8 hb ⊢
  have hA : 0 ≤ c.A := by have := right_iff.1 hr; omega
  replace hR := Lib.hid hR
  replace hr := Lib.hid hr
  replace hby := Lib.hid hby
  replace hbn := Lib.hid hbn
  replace hS := Lib.hid hS
  go_enter Try.func51, Try.ntmps51
  generalize hCFe : w.heap.size = CF at *
  go_wp2_with (go_at_call 66; refine (rightC c _).mono ?_; rintro e w1 ⟨rfl, hb1⟩; rw [hr.out]; replace hf := Lib.hid (hf.out.below hb1 hf.out.lt); replace hT0 := Lib.hid (hT0.out.trans (hb1.mono (by have := hT0.out.size; omega))); obtain ⟨k0, k1, k2, k3, k4, k5⟩ := cfgs hf.out; clear hb1)
  clear k0 k1 k2 k3 k4 k5
  go_loopw [11] (fun z wr => ∃ i : Nat, i ≤ R ∧ z = .int .i64 (i : Int) ∧ Blk wr CF 23 #[.int .i64 c.S, .int .i64 c.A, .int .i64 c.C, .int .i64 c.H, .int .i64 c.G, .int .i64 c.K] ∧ Below CF w wr) (fun z _ => R - (intOf z).toNat)
  case atStart => exact ⟨0, Nat.zero_le _, rfl, hf.out, hT0.out⟩
  case round =>
    obtain ⟨i, hi, rfl, hcs, hWs⟩ := hrel
    obtain ⟨k0, k1, k2, k3, k4, k5⟩ := cfgs hcs
    replace hcs := Lib.hid hcs
    replace hWs := Lib.hid hWs
    by_cases hlt : i < R
    · have hy := hby.out i hlt
      go_wp2_with (go_at_call 85; refine (bodyC c _ 0 i).mono ?_; rintro e w2 ⟨rfl, hb2⟩; replace hcs := Lib.hid (hcs.out.below hb2 hcs.out.lt); replace hWs := Lib.hid (hWs.out.trans (hb2.mono (by have := hcs.out.lt; have := hWs.out.size; omega))); clear hb2)
      go_roundw
      case rel => exact ⟨i + 1, by omega, by go_num, hcs.out, hWs.out⟩
      case measure => simp [intOf]; omega
    · have hiR : i = R := by omega
      subst hiR
      have hn := hbn.out
      have hbi : ¬ (i : Int) < (bn : Int) := by omega
      have hi0 : 0 ≤ (i : Int) := by omega
      have hmk := make_run (i : Int) hi0 (by omega)
      rw [Int.toNat_natCast] at hmk
      go_upto_region 11 with (go_at_call 85; refine (bodyC c _ 0 i).mono ?_; rintro e w2 ⟨rfl, hb2⟩; replace hcs := Lib.hid (hcs.out.below hb2 hcs.out.lt); replace hWs := Lib.hid (hWs.out.trans (hb2.mono (by have := hcs.out.lt; have := hWs.out.size; omega))); clear hb2)
      have hlo : CF ≤ w2.heap.size := by have := hcs.out.lt; omega
      have hSc := hS.out.below hWs.out (Nat.le_of_eq hCFe)
      have hSd := hSc.below ((Below.refl w2.heap.size w2).alloc (Nat.le_refl _) (.cells (rowF .u64 i (fun _ => 0)) 33)) (Nat.le_refl _)
      obtain ⟨w3, hrun, hb3, hF3⟩ := copyC (w2.alloc (.cells (rowF .u64 i (fun _ => 0)) 33)) w2.heap.size i A bn bc bf (Blk.new w2 33 (rowF .u64 i (fun _ => 0))) hSd hb
      have hcs3 := (hcs.out.alloc (.cells (rowF .u64 i (fun _ => 0)) 33)).fr hF3 (fun e => by have := hcs.out.lt; have e' : CF = w2.heap.size := e; omega)
      have hW3 := (hWs.out.alloc hlo (.cells (rowF .u64 i (fun _ => 0)) 33)).trans (hF3.below (n := CF) (fun k hk => ⟨by simp; omega, fun e => by have e' : k = w2.heap.size := e; omega⟩))
      have hz3 := hF3.size
      have hz4 : (w2.alloc (.cells (rowF .u64 i (fun _ => 0)) 33)).heap.size = w2.heap.size + 1 := by simp
      rw [hz4] at hz3
      generalize hre : w2.heap.size = rr at *
      clear hSc hSd hcs hF3 hWs k0 k1 k2 k3 k4 k5 hz4
      go_upto_region 12 with (at_builtin; refine Lib.wpList_copy_run _ rfl _ _ 29 29 rfl _ _ rfl rfl hrun ?_)
      clear hrun hmk
      have hf3 := Lib.hid hcs3.drew
      replace hb3 := Lib.hid hb3.drew
      replace hW3 := Lib.hid hW3.drew
      have hz : rr + 1 ≤ w3.drew.heap.size := hz3
      have hX : w3.drew.cell? ⟨CF, 0, none⟩ = some (.int .i64 c.S) ∧ w3.drew.cell? ⟨CF, 1, none⟩ = some (.int .i64 c.A) ∧ w3.drew.cell? ⟨CF, 2, none⟩ = some (.int .i64 c.C) ∧ w3.drew.cell? ⟨CF, 3, none⟩ = some (.int .i64 c.H) ∧ w3.drew.cell? ⟨CF, 4, none⟩ = some (.int .i64 c.G) ∧ w3.drew.cell? ⟨CF, 5, none⟩ = some (.int .i64 c.K) := cfgs hf3.out
      clear hcs3 hre hz3
      go_region_held3 (fun w' => w'.cell? ⟨CF, 0, none⟩ = some (.int .i64 c.S) ∧ w'.cell? ⟨CF, 1, none⟩ = some (.int .i64 c.A) ∧ w'.cell? ⟨CF, 2, none⟩ = some (.int .i64 c.C) ∧ w'.cell? ⟨CF, 3, none⟩ = some (.int .i64 c.H) ∧ w'.cell? ⟨CF, 4, none⟩ = some (.int .i64 c.G) ∧ w'.cell? ⟨CF, 5, none⟩ = some (.int .i64 c.K)) (first | assumption | (refine cfgs (t := 23) (Blk.alloc (Hid.out ?_) _); assumption)) (first | (go_at_call 44; refine (newPopC c _ hr.out).mono ?_; rintro e w4 ⟨q, rfl, hq0, hq, hb4⟩; replace hf3 := Lib.hid (hf3.out.below hb4 hf3.out.lt); have hY := cfgs hf3.out; replace hb3 := Lib.hid (hb3.out.below hb4 hb3.out.lt); have ltq := Blk.lt hq; replace hq := Lib.hid hq; replace hW3 := Lib.hid (hW3.out.trans (hb4.mono (by omega))); clear hb4))
      all_goals
        clear hX hY
        go_wp2
        go_ret
        exact ⟨w4.heap.size, q, rr, rfl, hlo, by omega, ltq, Blk.alloc hq.out _, Blk.new w4 _ _, ⟨Nat.le_refl _, fun _ => ⟨rfl, _, hb3.out.alloc _, fun j hj => rowF_get hj⟩⟩, hW3.out.alloc (by omega) _⟩
set_option maxHeartbeats 4000000 in
set_option maxRecDepth 100000 in
theorem newMake_2 (hk : ar = 0) (hb : bn ≤ roomI c) : Calls Try.prog 51 #[.agg #[.int .i64 c.S, .int .i64 c.A, .int .i64 c.C, .int .i64 c.H, .int .i64 c.G, .int .i64 c.K], .int .i64 2, .int .i64 ar, .int .u64 ep, .slice A bn bc] w fun e w' =>
    ∃ p q r, e = .returned (.pointer (some ⟨p, 0, none⟩)) ∧ w.heap.size ≤ r ∧ r < q ∧ q < p ∧ PopB w' q c ⟨-1, false, 0, 0, 0⟩ ∧ Blk w' p 82 (makeA c (-1) false 2 ar ep (.slice (some ⟨r, 0, none⟩) (roomI c) (roomI c)) (some ⟨q, 0, none⟩) 0 0 0) ∧ RowB w' (some ⟨r, 0, none⟩) (roomI c) r (roomI c) (padF bn bf) ∧ Below w.heap.size w w' := by
  subst hk
  have hf := Lib.hid (Blk.new w 23 #[.int .i64 c.S, .int .i64 c.A, .int .i64 c.C, .int .i64 c.H, .int .i64 c.G, .int .i64 c.K])
  have hT0 := Lib.hid ((Below.refl w.heap.size w).alloc (Nat.le_refl _) (.cells #[.int .i64 c.S, .int .i64 c.A, .int .i64 c.C, .int .i64 c.H, .int .i64 c.G, .int .i64 c.K] 23))
  have hri := room_i hr
  obtain ⟨R, hR⟩ : ∃ R, R = roomI c := ⟨_, rfl⟩
  have hby : ∀ i : Nat, i < R → 0 ≤ c.body 0 i := fun i hi => body_yes hr (hR ▸ hi)
  have hbn : c.body 0 R < 0 := hR ▸ body_no hr
  obtain ⟨hr3, hr8, _⟩ := hri
  rw [← hR] at hr3 hr8 hb ⊢
  have hA : 0 ≤ c.A := by have := right_iff.1 hr; omega
  replace hR := Lib.hid hR
  replace hr := Lib.hid hr
  replace hby := Lib.hid hby
  replace hbn := Lib.hid hbn
  replace hS := Lib.hid hS
  go_enter Try.func51, Try.ntmps51
  generalize hCFe : w.heap.size = CF at *
  go_wp2_with (go_at_call 66; refine (rightC c _).mono ?_; rintro e w1 ⟨rfl, hb1⟩; rw [hr.out]; replace hf := Lib.hid (hf.out.below hb1 hf.out.lt); replace hT0 := Lib.hid (hT0.out.trans (hb1.mono (by have := hT0.out.size; omega))); obtain ⟨k0, k1, k2, k3, k4, k5⟩ := cfgs hf.out; clear hb1)
  clear k0 k1 k2 k3 k4 k5
  go_loopw [11] (fun z wr => ∃ i : Nat, i ≤ R ∧ z = .int .i64 (i : Int) ∧ Blk wr CF 23 #[.int .i64 c.S, .int .i64 c.A, .int .i64 c.C, .int .i64 c.H, .int .i64 c.G, .int .i64 c.K] ∧ Below CF w wr) (fun z _ => R - (intOf z).toNat)
  case atStart => exact ⟨0, Nat.zero_le _, rfl, hf.out, hT0.out⟩
  case round =>
    obtain ⟨i, hi, rfl, hcs, hWs⟩ := hrel
    obtain ⟨k0, k1, k2, k3, k4, k5⟩ := cfgs hcs
    replace hcs := Lib.hid hcs
    replace hWs := Lib.hid hWs
    by_cases hlt : i < R
    · have hy := hby.out i hlt
      go_wp2_with (go_at_call 85; refine (bodyC c _ 0 i).mono ?_; rintro e w2 ⟨rfl, hb2⟩; replace hcs := Lib.hid (hcs.out.below hb2 hcs.out.lt); replace hWs := Lib.hid (hWs.out.trans (hb2.mono (by have := hcs.out.lt; have := hWs.out.size; omega))); clear hb2)
      go_roundw
      case rel => exact ⟨i + 1, by omega, by go_num, hcs.out, hWs.out⟩
      case measure => simp [intOf]; omega
    · have hiR : i = R := by omega
      subst hiR
      have hn := hbn.out
      have hbi : ¬ (i : Int) < (bn : Int) := by omega
      have hi0 : 0 ≤ (i : Int) := by omega
      have hmk := make_run (i : Int) hi0 (by omega)
      rw [Int.toNat_natCast] at hmk
      go_upto_region 11 with (go_at_call 85; refine (bodyC c _ 0 i).mono ?_; rintro e w2 ⟨rfl, hb2⟩; replace hcs := Lib.hid (hcs.out.below hb2 hcs.out.lt); replace hWs := Lib.hid (hWs.out.trans (hb2.mono (by have := hcs.out.lt; have := hWs.out.size; omega))); clear hb2)
      have hlo : CF ≤ w2.heap.size := by have := hcs.out.lt; omega
      have hSc := hS.out.below hWs.out (Nat.le_of_eq hCFe)
      have hSd := hSc.below ((Below.refl w2.heap.size w2).alloc (Nat.le_refl _) (.cells (rowF .u64 i (fun _ => 0)) 33)) (Nat.le_refl _)
      obtain ⟨w3, hrun, hb3, hF3⟩ := copyC (w2.alloc (.cells (rowF .u64 i (fun _ => 0)) 33)) w2.heap.size i A bn bc bf (Blk.new w2 33 (rowF .u64 i (fun _ => 0))) hSd hb
      have hcs3 := (hcs.out.alloc (.cells (rowF .u64 i (fun _ => 0)) 33)).fr hF3 (fun e => by have := hcs.out.lt; have e' : CF = w2.heap.size := e; omega)
      have hW3 := (hWs.out.alloc hlo (.cells (rowF .u64 i (fun _ => 0)) 33)).trans (hF3.below (n := CF) (fun k hk => ⟨by simp; omega, fun e => by have e' : k = w2.heap.size := e; omega⟩))
      have hz3 := hF3.size
      have hz4 : (w2.alloc (.cells (rowF .u64 i (fun _ => 0)) 33)).heap.size = w2.heap.size + 1 := by simp
      rw [hz4] at hz3
      generalize hre : w2.heap.size = rr at *
      clear hSc hSd hcs hF3 hWs k0 k1 k2 k3 k4 k5 hz4
      go_upto_region 12 with (at_builtin; refine Lib.wpList_copy_run _ rfl _ _ 29 29 rfl _ _ rfl rfl hrun ?_)
      clear hrun hmk
      have hf3 := Lib.hid hcs3.drew
      replace hb3 := Lib.hid hb3.drew
      replace hW3 := Lib.hid hW3.drew
      have hz : rr + 1 ≤ w3.drew.heap.size := hz3
      have hX : w3.drew.cell? ⟨CF, 0, none⟩ = some (.int .i64 c.S) ∧ w3.drew.cell? ⟨CF, 1, none⟩ = some (.int .i64 c.A) ∧ w3.drew.cell? ⟨CF, 2, none⟩ = some (.int .i64 c.C) ∧ w3.drew.cell? ⟨CF, 3, none⟩ = some (.int .i64 c.H) ∧ w3.drew.cell? ⟨CF, 4, none⟩ = some (.int .i64 c.G) ∧ w3.drew.cell? ⟨CF, 5, none⟩ = some (.int .i64 c.K) := cfgs hf3.out
      clear hcs3 hre hz3
      go_region_held3 (fun w' => w'.cell? ⟨CF, 0, none⟩ = some (.int .i64 c.S) ∧ w'.cell? ⟨CF, 1, none⟩ = some (.int .i64 c.A) ∧ w'.cell? ⟨CF, 2, none⟩ = some (.int .i64 c.C) ∧ w'.cell? ⟨CF, 3, none⟩ = some (.int .i64 c.H) ∧ w'.cell? ⟨CF, 4, none⟩ = some (.int .i64 c.G) ∧ w'.cell? ⟨CF, 5, none⟩ = some (.int .i64 c.K)) (first | assumption | (refine cfgs (t := 23) (Blk.alloc (Hid.out ?_) _); assumption)) (first | (go_at_call 44; refine (newPopC c _ hr.out).mono ?_; rintro e w4 ⟨q, rfl, hq0, hq, hb4⟩; replace hf3 := Lib.hid (hf3.out.below hb4 hf3.out.lt); have hY := cfgs hf3.out; replace hb3 := Lib.hid (hb3.out.below hb4 hb3.out.lt); have ltq := Blk.lt hq; replace hq := Lib.hid hq; replace hW3 := Lib.hid (hW3.out.trans (hb4.mono (by omega))); clear hb4))
      all_goals
        clear hX hY
        go_wp2
        go_ret
        exact ⟨w4.heap.size, q, rr, rfl, hlo, by omega, ltq, Blk.alloc hq.out _, Blk.new w4 _ _, ⟨Nat.le_refl _, fun _ => ⟨rfl, _, hb3.out.alloc _, fun j hj => rowF_get hj⟩⟩, hW3.out.alloc (by omega) _⟩
end
def canM (c : Cf) (kd ar : Int) (bn : Nat) : Prop := c.right = true ∧ 0 ≤ ar ∧ bn ≤ roomI c ∧ (kd = 1 ∧ ar ≤ c.A ∨ kd = 2 ∧ ar = 0)
theorem newMakeC (c : Cf) (w : World) (kd ar ep : Int) (A : Option Addr) (bn bc : Nat) (bf : Nat → Int) (hS : Sl w A bn 1 (fun i _ => .int .u64 (bf i))) (h : canM c kd ar bn) : Calls Try.prog 51 #[.agg #[.int .i64 c.S, .int .i64 c.A, .int .i64 c.C, .int .i64 c.H, .int .i64 c.G, .int .i64 c.K], .int .i64 kd, .int .i64 ar, .int .u64 ep, .slice A bn bc] w fun e w' =>
    ∃ p q r, e = .returned (.pointer (some ⟨p, 0, none⟩)) ∧ w.heap.size ≤ r ∧ r < q ∧ q < p ∧ PopB w' q c ⟨-1, false, 0, 0, 0⟩ ∧ Blk w' p 82 (makeA c (-1) false kd ar ep (.slice (some ⟨r, 0, none⟩) (roomI c) (roomI c)) (some ⟨q, 0, none⟩) 0 0 0) ∧ RowB w' (some ⟨r, 0, none⟩) (roomI c) r (roomI c) (padF bn bf) ∧ Below w.heap.size w w' := by
  obtain ⟨hr, h0, hb, ⟨rfl, hk⟩ | ⟨rfl, hk⟩⟩ := h
  · exact newMake_1 c w ar ep A bn bc bf hS hr h0 hk hb
  · exact newMake_2 c w ar ep A bn bc bf hS hr h0 hk hb
end Go.Proofs.Ytijfkpoofpcacaa.ArenaP
end
section
namespace Go.Proofs.Ytijfkpoofpcacaa.MakerL
open Go.RowKit Go.Proofs.Ytijfkpoofpcacaa.Blk Go.Proofs.Ytijfkpoofpcacaa.Core Go.Proofs.Ytijfkpoofpcacaa.MemC Go.Proofs.Ytijfkpoofpcacaa.MemT Go.Proofs.Ytijfkpoofpcacaa.Memory Go.Proofs.Ytijfkpoofpcacaa.PlanC Go.Proofs.Ytijfkpoofpcacaa.PlanD Go.Proofs.Ytijfkpoofpcacaa.StackC Go.Proofs.Ytijfkpoofpcacaa.StackL Go.Proofs.Ytijfkpoofpcacaa.StackS Go.Proofs.Ytijfkpoofpcacaa.StackF Go.Proofs.Ytijfkpoofpcacaa.StackP Go.Proofs.Ytijfkpoofpcacaa.StackQ Go.Proofs.Ytijfkpoofpcacaa.TakerL Go.Proofs.Ytijfkpoofpcacaa.HeadC Go.Proofs.Ytijfkpoofpcacaa.ArenaL Go.Proofs.Ytijfkpoofpcacaa.ArenaR Go.Proofs.Ytijfkpoofpcacaa.ArenaP
structure MkP where
  p : Nat
  q : Nat
  r : Nat
  a : Mk
structure FeP where
  p : Nat
  qa : Option Nat
  a : Fre
structure Mr where
  wv : Value
  fr : Bool
  rc : Bool
  ar : Int
  ep : Int
  wd : Int
  hv : Value
  h : List Int
  ma : Option MkP
  fe : Option FeP
  fs : Int
def Mr.new : Mr := ⟨.slice none 0 0, false, false, 0, 0, 0, .slice none 0 0, [], none, none, 0⟩
def put (T : Nat → Mr) (i : Nat) (τ : Mr) : Nat → Mr := fun j => if j = i then τ else T j
theorem put_eq (T : Nat → Mr) (i : Nat) (τ : Mr) : put T i τ i = τ := if_pos rfl
theorem put_ne {T : Nat → Mr} {i j : Nat} {τ : Mr} (h : j ≠ i) : put T i τ j = T j := if_neg h
def Mr.hand (τ : Mr) : Option Int := match τ.ma with
  | some x => if x.a.nx = 0 then none else some x.a.pop.sl
  | none => match τ.fe with | some x => some x.a.sl | none => none
def Mr.mine (τ : Mr) : List Int := match τ.hand with | some x => x :: τ.h | none => τ.h
def InR (c : Cf) (x : Int) : Prop := 0 ≤ x ∧ x < c.S
def hw (c : Cf) (f : Nat → Int) (x : Int) : Int := f (c.pl x 0).toNat
def bw (c : Cf) (f : Nat → Int) (x : Int) (j : Nat) : Int := f (c.pl x (2 + j)).toNat
def FreeH (c : Cf) (f : Nat → Int) (μ : Int → Int) (x : Int) : Prop := InR c x ∧ uK (hw c f x) = 0 ∧ uN (hw c f x) = μ x ∧ μ x < c.G
def HasH (c : Cf) (f : Nat → Int) (μ : Int → Int) (x : Int) : Prop := InR c x ∧ okW (hw c f x) = true ∧ uN (hw c f x) = μ x - 1 ∧ 1 ≤ μ x ∧ (uK (hw c f x) = 1 ∨ uK (hw c f x) = 2)
def LimH (c : Cf) (f : Nat → Int) (μ : Int → Int) (x : Int) : Prop := InR c x ∧ okW (hw c f x) = true ∧ uK (hw c f x) = 3 ∧ uN (hw c f x) = μ x - 1 ∧ 1 ≤ μ x
def Mr.kd (τ : Mr) : Int := if τ.rc = true then 2 else 1
def Mr.an (c : Cf) (τ : Mr) : Int := if τ.rc = true then 0 else τ.ar % (c.A + 1)
def Mr.g (τ : Mr) : Nat → Int := padF 1 (fun _ => τ.wd)
def MkI (c : Cf) (f : Nat → Int) (t : Int) (L : List Int) (μ : Int → Int) (τ : Mr) (a : Mk) : Prop :=
  (a.kd = τ.kd ∧ a.ar = τ.an c ∧ a.ep = τ.ep ∧ a.sl = -1 ∧ a.fu = false) ∧ (
    (a.nx = 0 ∧ a.ix = 0 ∧ PopI f t L a.pop) ∨
    (FreeH c f μ a.pop.sl ∧ (
      (a.nx = 1 ∧ a.ix = 0) ∨
      (a.gn = μ a.pop.sl ∧ (
        (∃ k : Nat, a.nx = 2 ∧ a.ix = k ∧ k < roomI c ∧ ∀ j, j < k → bw c f a.pop.sl j = τ.g j) ∨
        (a.nx = 3 ∧ ∀ j, j < roomI c → bw c f a.pop.sl j = τ.g j))))))
def FeI (c : Cf) (f : Nat → Int) (t : Int) (L : List Int) (μ : Int → Int) (τ : Mr) (a : Fre) : Prop :=
  a.sl = τ.fs ∧ a.bk = false ∧ a.gn = false ∧ (
    (a.nx = 1 ∧ LimH c f μ a.sl) ∨
    (a.nx = 3 ∧ LimH c f μ a.sl ∧ a.nw = (freedV (hw c f a.sl) c.G).1) ∨
    (a.nx = 4 ∧ InR c a.sl ∧ μ a.sl < c.G ∧ hw c f a.sl = headN 0 0 false 0 (μ a.sl) 0 ∧ ∃ Q, a.pu = some Q ∧ Q.sl = a.sl ∧ PushI c f t L Q))
structure AI (c : Cf) (f : Nat → Int) (t : Int) (L : List Int) (K : Nat) (T : Nat → Mr) (own : Int → Nat) (μ : Int → Int) : Prop where
  stk : Stk c f t L
  g2 : f 2 = 0
  lst : ∀ x, x ∈ L ↔ (InR c x ∧ own x = 0)
  le : ∀ x, InR c x → own x ≤ K + 1
  mu : ∀ x, InR c x → 0 ≤ μ x ∧ μ x ≤ c.G
  free : ∀ x, InR c x → own x = 0 → FreeH c f μ x
  dead : ∀ x, InR c x → own x = K + 1 → uK (hw c f x) = 4
  mine : ∀ i, i < K → ∀ x, x ∈ (T i).mine ↔ (InR c x ∧ own x = i + 1)
  nd : ∀ i, i < K → (T i).mine.Nodup
  has : ∀ i, i < K → ∀ x ∈ (T i).h, HasH c f μ x
  ma : ∀ i, i < K → ∀ z, (T i).ma = some z → MkI c f t L μ (T i) z.a ∧ (T i).fe = none
  fe : ∀ i, i < K → ∀ z, (T i).fe = some z → FeI c f t L μ (T i) z.a ∧ (T i).ma = none
structure Lvs (c : Cf) (f : Nat → Int) (t : Int) (L : List Int) (f' : Nat → Int) (t' : Int) (L' : List Int) (x : Int) : Prop where
  stk : Stk c f' t' L'
  tt : (t' = t ∧ L' = L ∧ f' 3 = f 3) ∨ t' = t + 1
  g2 : f' 2 = f 2
  oth : ∀ y, InR c y → y ≠ x → ∀ o, 0 ≤ o → o < roomV c.A → f' (c.pl y o).toNat = f (c.pl y o).toNat
section
variable {c : Cf} (hr : c.right = true) {f f' : Nat → Int} {t t' : Int} {L L' : List Int} {x : Int}
include hr
theorem Lvs.pop (h : Lvs c f t L f' t' L' x) {q : Pop} (hq : PopI f t L q) : PopI f' t' L' q := by
  rcases h.tt with ⟨rfl, rfl, e⟩ | rfl
  · exact hq.same e
  · exact hq.next hr h.stk
theorem Lvs.push (h : Lvs c f t L f' t' L' x) {q : Push} (hx : InR c q.sl) (hne : q.sl ≠ x) (hq : PushI c f t L q) : PushI c f' t' L' q := by
  have hb := room_bd hr
  rcases h.tt with ⟨rfl, rfl, e⟩ | rfl
  · refine hq.same e ?_
    rw [link_pl hr hx]
    exact h.oth q.sl hx hne 1 (by decide) (by omega)
  · exact hq.next hr h.stk
theorem Lvs.hw (h : Lvs c f t L f' t' L' x) {y : Int} (hy : InR c y) (hne : y ≠ x) : MakerL.hw c f' y = MakerL.hw c f y := h.oth y hy hne 0 (Int.le_refl 0) (by have := room_bd hr; omega)
theorem Lvs.bw (h : Lvs c f t L f' t' L' x) {y : Int} (hy : InR c y) (hne : y ≠ x) {j : Nat} (hj : j < roomI c) : MakerL.bw c f' y j = MakerL.bw c f y j := h.oth y hy hne (2 + j) (by omega) (by have := room_i hr; omega)
variable {μ μ' : Int → Int} (hl : Lvs c f t L f' t' L' x)
include hl
theorem Lvs.free {y : Int} (hne : y ≠ x) (hm : μ' y = μ y) (h : FreeH c f μ y) : FreeH c f' μ' y := by
  obtain ⟨a, b, d, e⟩ := h
  exact ⟨a, by rw [hl.hw hr a hne]; exact b, by rw [hl.hw hr a hne, hm]; exact d, by rw [hm]; exact e⟩
theorem Lvs.has {y : Int} (hne : y ≠ x) (hm : μ' y = μ y) (h : HasH c f μ y) : HasH c f' μ' y := by
  obtain ⟨a, b, d, e, g⟩ := h
  unfold HasH
  rw [hl.hw hr a hne, hm]
  exact ⟨a, b, d, e, g⟩
theorem Lvs.lim {y : Int} (hne : y ≠ x) (hm : μ' y = μ y) (h : LimH c f μ y) : LimH c f' μ' y := by
  obtain ⟨a, b, d, e, g⟩ := h
  unfold LimH
  rw [hl.hw hr a hne, hm]
  exact ⟨a, b, d, e, g⟩
theorem Lvs.ma {τ : Mr} {a : Mk} (h : MkI c f t L μ τ a) (hne : a.nx ≠ 0 → a.pop.sl ≠ x ∧ μ' a.pop.sl = μ a.pop.sl) : MkI c f' t' L' μ' τ a := by
  obtain ⟨h1, h2⟩ := h
  refine ⟨h1, ?_⟩
  rcases h2 with ⟨e1, e2, e3⟩ | ⟨e0, e⟩
  · exact .inl ⟨e1, e2, hl.pop hr e3⟩
  · right
    rcases e with ⟨e1, e2⟩ | ⟨e2, ⟨k, e1, e3, e4, e5⟩ | ⟨e1, e5⟩⟩
    · obtain ⟨n1, n2⟩ := hne (by rw [e1]; decide)
      exact ⟨hl.free hr n1 n2 e0, .inl ⟨e1, e2⟩⟩
    · obtain ⟨n1, n2⟩ := hne (by rw [e1]; decide)
      exact ⟨hl.free hr n1 n2 e0, .inr ⟨by rw [n2]; exact e2, .inl ⟨k, e1, e3, e4, fun j hj => by rw [hl.bw hr e0.1 n1 (by omega)]; exact e5 j hj⟩⟩⟩
    · obtain ⟨n1, n2⟩ := hne (by rw [e1]; decide)
      exact ⟨hl.free hr n1 n2 e0, .inr ⟨by rw [n2]; exact e2, .inr ⟨e1, fun j hj => by rw [hl.bw hr e0.1 n1 hj]; exact e5 j hj⟩⟩⟩
theorem Lvs.fe {τ : Mr} {a : Fre} (h : FeI c f t L μ τ a) (hne : a.sl ≠ x) (hm : μ' a.sl = μ a.sl) : FeI c f' t' L' μ' τ a := by
  obtain ⟨h1, h2, h3, h4⟩ := h
  refine ⟨h1, h2, h3, ?_⟩
  rcases h4 with ⟨e1, e2⟩ | ⟨e1, e2, e3⟩ | ⟨e1, e2, e3, e4, Q, e5, e6, e7⟩
  · exact .inl ⟨e1, hl.lim hr hne hm e2⟩
  · exact .inr (.inl ⟨e1, hl.lim hr hne hm e2, by rw [hl.hw hr e2.1 hne]; exact e3⟩)
  · exact .inr (.inr ⟨e1, e2, by rw [hm]; exact e3, by rw [hl.hw hr e2 hne, hm]; exact e4, Q, e5, e6, hl.push hr (by rw [e6]; exact e2) (by rw [e6]; exact hne) e7⟩)
end
theorem hand_mk {τ : Mr} {z : MkP} (h : τ.ma = some z) (hn : z.a.nx ≠ 0) : τ.hand = some z.a.pop.sl := by unfold Mr.hand; rw [h]; exact if_neg hn
theorem hand_mk0 {τ : Mr} {z : MkP} (h : τ.ma = some z) (hn : z.a.nx = 0) : τ.hand = none := by unfold Mr.hand; rw [h]; exact if_pos hn
theorem hand_fe {τ : Mr} {z : FeP} (h1 : τ.ma = none) (h : τ.fe = some z) : τ.hand = some z.a.sl := by unfold Mr.hand; rw [h1, h]
theorem hand_no {τ : Mr} (h1 : τ.ma = none) (h : τ.fe = none) : τ.hand = none := by unfold Mr.hand; rw [h1, h]
theorem mine_hand {τ : Mr} {x : Int} (h : τ.hand = some x) : τ.mine = x :: τ.h := by unfold Mr.mine; rw [h]
theorem mine_no {τ : Mr} (h : τ.hand = none) : τ.mine = τ.h := by unfold Mr.mine; rw [h]
theorem h_mine {τ : Mr} {x : Int} (h : x ∈ τ.h) : x ∈ τ.mine := by
  unfold Mr.mine
  split
  · exact List.mem_cons_of_mem _ h
  · exact h
section
variable {c : Cf} (hr : c.right = true) {f f' : Nat → Int} {t t' : Int} {L L' : List Int} {x : Int} {K i : Nat} {T : Nat → Mr} {own own' : Int → Nat} {μ μ' : Int → Int} {τ : Mr}
include hr
theorem AI.move (h : AI c f t L K T own μ) (hi : i < K) (hl : Lvs c f t L f' t' L' x) (hy : ∀ y, y ≠ x → own' y = own y ∧ μ' y = μ y)
    (ho : InR c x → own x = i + 1 ∨ own x = 0) (ho' : InR c x → own' x = i + 1 ∨ own' x = 0 ∨ own' x = K + 1)
    (hlst : ∀ y, y ∈ L' ↔ (InR c y ∧ own' y = 0)) (hmu : InR c x → 0 ≤ μ' x ∧ μ' x ≤ c.G)
    (hfr : InR c x → own' x = 0 → FreeH c f' μ' x) (hde : InR c x → own' x = K + 1 → uK (hw c f' x) = 4)
    (hm : ∀ y, y ∈ τ.mine ↔ (InR c y ∧ own' y = i + 1)) (hnd : τ.mine.Nodup) (hh : ∀ y ∈ τ.h, HasH c f' μ' y)
    (hmk : ∀ z, τ.ma = some z → MkI c f' t' L' μ' τ z.a ∧ τ.fe = none) (hfe : ∀ z, τ.fe = some z → FeI c f' t' L' μ' τ z.a ∧ τ.ma = none) :
    AI c f' t' L' K (put T i τ) own' μ' := by
  have hx : ∀ j, j < K → j ≠ i → ∀ y, y ∈ (T j).mine → y ≠ x := fun j hj hne y hm e => by
    subst e
    have := (h.mine j hj y).1 hm
    rcases ho this.1 with k | k <;> omega
  refine ⟨hl.stk, by rw [hl.g2]; exact h.g2, hlst, fun y hR => ?_, fun y hR => ?_, fun y hR ho2 => ?_, fun y hR ho2 => ?_, fun j hj y => ?_, fun j hj => ?_, fun j hj y hy2 => ?_, fun j hj z hz => ?_, fun j hj z hz => ?_⟩
  · by_cases e : y = x
    · subst e; rcases ho' hR with k | k | k <;> omega
    · rw [(hy y e).1]; exact h.le y hR
  · by_cases e : y = x
    · subst e; exact hmu hR
    · rw [(hy y e).2]; exact h.mu y hR
  · by_cases e : y = x
    · subst e; exact hfr hR ho2
    · exact hl.free hr e (hy y e).2 (h.free y hR ((hy y e).1 ▸ ho2))
  · by_cases e : y = x
    · subst e; exact hde hR ho2
    · rw [hl.hw hr hR e]; exact h.dead y hR ((hy y e).1 ▸ ho2)
  · by_cases e : j = i
    · subst e; rw [put_eq]; exact hm y
    · rw [put_ne e, h.mine j hj y]
      by_cases e2 : y = x
      · subst e2
        constructor
        · intro k; rcases ho k.1 with z | z <;> omega
        · intro k; rcases ho' k.1 with z | z | z <;> omega
      · rw [(hy y e2).1]
  · by_cases e : j = i
    · subst e; rw [put_eq]; exact hnd
    · rw [put_ne e]; exact h.nd j hj
  · by_cases e : j = i
    · subst e; rw [put_eq] at hy2; exact hh y hy2
    · rw [put_ne e] at hy2
      have hne := hx j hj e y (h_mine hy2)
      exact hl.has hr hne (hy y hne).2 (h.has j hj y hy2)
  · by_cases e : j = i
    · subst e; rw [put_eq] at hz ⊢; exact hmk z hz
    · rw [put_ne e] at hz ⊢
      obtain ⟨a1, a2⟩ := h.ma j hj z hz
      refine ⟨hl.ma hr a1 (fun hn => ?_), a2⟩
      have hne := hx j hj e z.a.pop.sl (by rw [mine_hand (hand_mk hz hn)]; exact List.mem_cons_self ..)
      exact ⟨hne, (hy _ hne).2⟩
  · by_cases e : j = i
    · subst e; rw [put_eq] at hz ⊢; exact hfe z hz
    · rw [put_ne e] at hz ⊢
      obtain ⟨a1, a2⟩ := h.fe j hj z hz
      have hne := hx j hj e z.a.sl (by rw [mine_hand (hand_fe a2 hz)]; exact List.mem_cons_self ..)
      exact ⟨hl.fe hr a1 hne (hy _ hne).2, a2⟩
end
end Go.Proofs.Ytijfkpoofpcacaa.MakerL
end
section
namespace Go.Proofs.Ytijfkpoofpcacaa.ArenaQ
open Go.RowKit Go.Proofs.YtijfkpoofpcacaaW.PrintWords Go.Proofs.Ytijfkpoofpcacaa.Blk Go.Proofs.Ytijfkpoofpcacaa.Core Go.Proofs.Ytijfkpoofpcacaa.MemC Go.Proofs.Ytijfkpoofpcacaa.MemD Go.Proofs.Ytijfkpoofpcacaa.MemT Go.Proofs.Ytijfkpoofpcacaa.PlanC Go.Proofs.Ytijfkpoofpcacaa.PlanD Go.Proofs.Ytijfkpoofpcacaa.StackC Go.Proofs.Ytijfkpoofpcacaa.StackL Go.Proofs.Ytijfkpoofpcacaa.StackS Go.Proofs.Ytijfkpoofpcacaa.StackP Go.Proofs.Ytijfkpoofpcacaa.HeadC Go.Proofs.Ytijfkpoofpcacaa.ArenaC Go.Proofs.Ytijfkpoofpcacaa.ArenaM Go.Proofs.Ytijfkpoofpcacaa.ArenaN Go.Proofs.Ytijfkpoofpcacaa.ArenaP Go.Proofs.Ytijfkpoofpcacaa.ArenaL Go.Proofs.Ytijfkpoofpcacaa.ArenaR Go.Proofs.Ytijfkpoofpcacaa.Opens
structure MkB (w : World) (p q r : Nat) (c : Cf) (n : Nat) (g : Nat → Int) (a : Mk) : Prop where
  blk : Blk w p 82 (makeA c a.sl a.fu a.kd a.ar a.ep (.slice (some ⟨r, 0, none⟩) n n) (some ⟨q, 0, none⟩) a.gn a.ix a.nx)
  pop : PopB w q c a.pop
  row : RowB w (some ⟨r, 0, none⟩) n r n g
theorem MkB.below {w w' : World} {p q r n : Nat} {c : Cf} {g : Nat → Int} {a : Mk} (h : MkB w p q r c n g a) (hb : Below w.heap.size w w') : MkB w' p q r c n g a :=
  ⟨h.blk.below hb h.blk.lt, Blk.below h.pop hb (Blk.lt h.pop), h.row.below hb (Nat.le_refl _)⟩
theorem MkB.fr {S : Nat → Prop} {w w' : World} {p q r n : Nat} {c : Cf} {g : Nat → Int} {a : Mk} (h : MkB w p q r c n g a) (hf : Fr S w w') (hp : ¬ S p) (hq : ¬ S q) (hr : ¬ S r) : MkB w' p q r c n g a :=
  ⟨h.blk.fr hf hp, Blk.fr h.pop hf hq, h.row.fr hf hr⟩
theorem makeC (c : Cf) (w : World) (p q r m b n : Nat) (M : Ms) (g : Nat → Int) (a : Mk) (hc : c.right = true) (hM : MemB w m b M) (ok : Ok M) (np : ¬ two m b p) (nqm : ¬ two m b q) (nrm : ¬ two m b r) (nqp : q ≠ p) (nrp : r ≠ p) (nrq : r ≠ q) (hn : n ≤ 1000) (h : MkB w p q r c n g a) (ho : MkOk n a) :
    Calls Try.prog 52 #[.pointer (some ⟨p, 0, none⟩), .pointer (some ⟨m, 0, none⟩)] w fun e w' =>
    e = .returned (.bool (mkD c n a M)) ∧ MkB w' p q r c n g (mkS c n a M) ∧ MemB w' m b (mkM c g a M) ∧ Fr (four p q m b) w w' := by
  have hR : ∀ w', Fr (four p q m b) w w' → RowB w' (some ⟨r, 0, none⟩) n r n g := fun w' hf => h.row.fr hf (fun x => x.elim nrp (fun x => x.elim nrq nrm))
  obtain ⟨sl, fu, kd, ar, ep, gn, ix, nx, pop⟩ := a
  obtain ⟨h1, h2, h3⟩ := h
  have hx : ((nx = 0 ∨ nx = 1 ∨ nx = 2) ∧ 0 ≤ ix ∧ ix < n) ∨ nx = 3 ∨ nx = 5 := ho.nx
  rcases hx with ⟨rfl | rfl | rfl, i0, i1⟩ | rfl | rfl
  · have oQ : PopOk pop := ho.pop rfl
    cases hd : popD c pop M with
    | false =>
      refine (make_0b c w p m b M hc hM ok np sl fu kd ar ep _ q pop nqm nqp h2 oQ hd gn ix h1).mono ?_
      rintro e w' ⟨rfl, a1, a2, a3, a4⟩
      have hS : mkS c n ⟨sl, fu, kd, ar, ep, gn, ix, 0, pop⟩ M = ⟨sl, fu, kd, ar, ep, gn, ix, 0, popS c pop M⟩ := by simp [mkS, hd]
      have hM' : mkM c g ⟨sl, fu, kd, ar, ep, gn, ix, 0, pop⟩ M = popM c pop M := by simp [mkM]
      rw [hM']
      refine ⟨by unfold mkD; rw [hS]; rfl, ?_, a3, a4⟩
      rw [hS]; exact ⟨a2, a1, hR _ a4⟩
    | true =>
      cases he : (popS c pop M).em with
      | false =>
        refine (make_0n c w p m b M hc hM ok np sl fu kd ar ep _ q pop nqm nqp h2 oQ hd he gn ix h1).mono ?_
        rintro e w' ⟨rfl, a1, a2, a3, a4⟩
        have hS : mkS c n ⟨sl, fu, kd, ar, ep, gn, ix, 0, pop⟩ M = ⟨sl, fu, kd, ar, ep, gn, ix, 1, popS c pop M⟩ := by simp [mkS, hd, he]
        have hM' : mkM c g ⟨sl, fu, kd, ar, ep, gn, ix, 0, pop⟩ M = popM c pop M := by simp [mkM]
        rw [hM']
        refine ⟨by unfold mkD; rw [hS]; rfl, ?_, a3, a4⟩
        rw [hS]; exact ⟨a2, a1, hR _ a4⟩
      | true =>
        refine (make_0e c w p m b M hc hM ok np sl fu kd ar ep _ q pop nqm nqp h2 oQ hd he gn ix h1).mono ?_
        rintro e w' ⟨rfl, a1, a2, a3, a4⟩
        have hS : mkS c n ⟨sl, fu, kd, ar, ep, gn, ix, 0, pop⟩ M = ⟨sl, true, kd, ar, ep, gn, ix, 5, popS c pop M⟩ := by simp [mkS, hd, he]
        have hM' : mkM c g ⟨sl, fu, kd, ar, ep, gn, ix, 0, pop⟩ M = popM c pop M := by simp [mkM]
        rw [hM']
        refine ⟨by unfold mkD; rw [hS]; rfl, ?_, a3, a4⟩
        rw [hS]; exact ⟨a2, a1, hR _ a4⟩
  · refine (make_1 c w p m b M hM ok np sl fu kd ar ep _ q pop nqm nqp h2 gn ix h1).mono ?_
    rintro e w' ⟨rfl, a1, a2, a3, a4⟩
    have hS : mkS c n ⟨sl, fu, kd, ar, ep, gn, ix, 1, pop⟩ M = ⟨sl, fu, kd, ar, ep, uN (M.ldV (c.header pop.sl)), ix, 2, pop⟩ := by simp [mkS]
    have hM' : mkM c g ⟨sl, fu, kd, ar, ep, gn, ix, 1, pop⟩ M = M.ldS (c.header pop.sl) := by simp [mkM]
    rw [hM']
    refine ⟨by unfold mkD; rw [hS]; rfl, ?_, a3, a4⟩
    rw [hS]; exact ⟨a2, a1, hR _ a4⟩
  · obtain ⟨k, rfl⟩ := Int.eq_ofNat_of_zero_le i0
    have hk : k < n := by omega
    have hM' : mkM c g ⟨sl, fu, kd, ar, ep, gn, (k : Int), 2, pop⟩ M = M.stS (c.body pop.sl k) (g k) := by simp [mkM]
    rw [hM']
    by_cases e : k + 1 = n
    · refine (make_2e c w p m b M hM ok np sl fu kd ar ep q pop nqm nqp h2 gn r n n g h3 hn nrm nrp k hk (by simpa using (by omega : (k : Int) + 1 = (n : Int))) h1).mono ?_
      rintro e w' ⟨rfl, a1, a2, a3, a4, a5⟩
      have hS : mkS c n ⟨sl, fu, kd, ar, ep, gn, (k : Int), 2, pop⟩ M = ⟨sl, fu, kd, ar, ep, gn, (k : Int) + 1, 3, pop⟩ := by simp [mkS, show (k : Int) + 1 = (n : Int) by omega]
      refine ⟨by unfold mkD; rw [hS]; rfl, ?_, a3, a5⟩
      rw [hS]; exact ⟨a2, a1, a4⟩
    · have e' : ¬ (k : Int) + 1 = (n : Int) := by omega
      refine (make_2b c w p m b M hM ok np sl fu kd ar ep q pop nqm nqp h2 gn r n n g h3 hn nrm nrp k hk (by simpa using e') h1).mono ?_
      rintro e w' ⟨rfl, a1, a2, a3, a4, a5⟩
      have hS : mkS c n ⟨sl, fu, kd, ar, ep, gn, (k : Int), 2, pop⟩ M = ⟨sl, fu, kd, ar, ep, gn, (k : Int) + 1, 2, pop⟩ := by simp [mkS, e']
      refine ⟨by unfold mkD; rw [hS]; rfl, ?_, a3, a5⟩
      rw [hS]; exact ⟨a2, a1, a4⟩
  · refine (make_3 c w p m b M hM ok np sl fu kd ar ep q pop nqm nqp h2 _ gn ix ho.ep.1 ho.ep.2 ho.ar ho.gn h1).mono ?_
    rintro e w' ⟨rfl, a1, a2, a3, a4⟩
    have hS : mkS c n ⟨sl, fu, kd, ar, ep, gn, ix, 3, pop⟩ M = ⟨pop.sl, fu, kd, ar, ep, gn, ix, 5, pop⟩ := by simp [mkS]
    have hM' : mkM c g ⟨sl, fu, kd, ar, ep, gn, ix, 3, pop⟩ M = M.stS (c.header pop.sl) (madeV kd ar gn ep).1 := by simp [mkM]
    rw [hM']
    refine ⟨by unfold mkD; rw [hS]; rfl, ?_, a3, a4⟩
    rw [hS]; exact ⟨a2, a1, hR _ a4⟩
  · refine (make_5 c w p m sl fu kd ar ep _ q pop h2 gn ix h1).mono ?_
    rintro e w' ⟨rfl, rfl⟩
    have hS : mkS c n ⟨sl, fu, kd, ar, ep, gn, ix, 5, pop⟩ M = ⟨sl, fu, kd, ar, ep, gn, ix, 5, pop⟩ := by simp [mkS]
    have hM' : mkM c g ⟨sl, fu, kd, ar, ep, gn, ix, 5, pop⟩ M = M := by simp [mkM]
    rw [hM']
    refine ⟨by unfold mkD; rw [hS]; rfl, ?_, hM, Fr.refl _ _⟩
    rw [hS]; exact ⟨h1, h2, h3⟩
structure FrB (w : World) (p : Nat) (c : Cf) (a : Fre) (qa : Option Nat) : Prop where
  blk : Blk w p 95 (freeA c a.bk a.gn a.sl a.nw (qa.map fun q => ⟨q, 0, none⟩) a.nx)
  push : ∀ Q, a.pu = some Q → ∃ q, qa = some q ∧ PushB w q c Q
theorem FrB.below {w w' : World} {p : Nat} {c : Cf} {a : Fre} {qa : Option Nat} (h : FrB w p c a qa) (hb : Below w.heap.size w w') : FrB w' p c a qa :=
  ⟨h.blk.below hb h.blk.lt, fun Q e => by obtain ⟨q, e1, e2⟩ := h.push Q e; exact ⟨q, e1, Blk.below e2 hb (Blk.lt e2)⟩⟩
theorem FrB.fr {S : Nat → Prop} {w w' : World} {p : Nat} {c : Cf} {a : Fre} {qa : Option Nat} (h : FrB w p c a qa) (hf : Fr S w w') (hp : ¬ S p) (hq : ∀ q, qa = some q → ¬ S q) : FrB w' p c a qa :=
  ⟨h.blk.fr hf hp, fun Q e => by obtain ⟨q, e1, e2⟩ := h.push Q e; exact ⟨q, e1, Blk.fr e2 hf (hq q e1)⟩⟩
def fiv (p m b : Nat) (qa : Option Nat) : Nat → Prop := fun k => qa = some k ∨ three p m b k
theorem freC2 (c : Cf) (w : World) (p m b : Nat) (M : Ms) (a : Fre) (qa : Option Nat) (hc : c.right = true) (hM : MemB w m b M) (ok : Ok M) (np : ¬ two m b p) (nq : ∀ q, qa = some q → ¬ two m b q ∧ q ≠ p) (h : FrB w p c a qa) (ho : FreOk c a) :
    Calls Try.prog 59 #[.pointer (some ⟨p, 0, none⟩), .pointer (some ⟨m, 0, none⟩)] w fun e w' =>
    e = .returned (.bool (frD c a M)) ∧ ∃ qa', FrB w' p c (frS c a M) qa' ∧ (qa' = qa ∨ ∃ q, qa' = some q ∧ w.heap.size ≤ q ∧ q < w'.heap.size) ∧ MemB w' m b (frM c a M) ∧ Fr (fiv p m b qa) w w' := by
  obtain ⟨bk, gn, sl, nw, nx, pu⟩ := a
  obtain ⟨h1, h2⟩ := h
  have f3 : ∀ w', Fr (three p m b) w w' → Fr (fiv p m b qa) w w' := fun w' hf => hf.mono (fun _ x => .inr x)
  have h2' : ∀ w', Fr (three p m b) w w' → ∀ Q, pu = some Q → ∃ q, qa = some q ∧ PushB w' q c Q := fun w' hf Q e => by
    obtain ⟨q, e1, e2⟩ := h2 Q e
    have := nq q e1
    exact ⟨q, e1, Blk.fr e2 hf (fun x => x.elim this.2 this.1)⟩
  have hx : nx = 1 ∨ nx = 3 ∨ (nx = 4 ∧ ∃ Q, pu = some Q ∧ PushOk Q) ∨ nx = 5 := ho.nx
  rcases hx with rfl | rfl | ⟨rfl, Q, rfl, oQ⟩ | rfl
  · have hM' : frM c ⟨bk, gn, sl, nw, 1, pu⟩ M = M.ldS (c.header sl) := by simp [frM]
    rw [hM']
    cases hv : (freedV (M.ldV (c.header sl)) c.G).2 with
    | true =>
      refine (free_1y c w p m b M hc hM ok np bk gn sl nw _ hv h1).mono ?_
      rintro e w' ⟨rfl, a1, a2, a3⟩
      have hS : frS c ⟨bk, gn, sl, nw, 1, pu⟩ M = ⟨bk, gn, sl, (freedV (M.ldV (c.header sl)) c.G).1, 3, pu⟩ := by simp [frS, hv]
      refine ⟨by unfold frD; rw [hS]; rfl, qa, ?_, .inl rfl, a2, f3 _ a3⟩
      rw [hS]; exact ⟨a1, h2' _ a3⟩
    | false =>
      refine (free_1n c w p m b M hc hM ok np bk gn sl nw _ hv h1).mono ?_
      rintro e w' ⟨rfl, a1, a2, a3⟩
      have hS : frS c ⟨bk, gn, sl, nw, 1, pu⟩ M = ⟨bk, gn, sl, (freedV (M.ldV (c.header sl)) c.G).1, 5, pu⟩ := by simp [frS, hv]
      refine ⟨by unfold frD; rw [hS]; rfl, qa, ?_, .inl rfl, a2, f3 _ a3⟩
      rw [hS]; exact ⟨a1, h2' _ a3⟩
  · have hM' : frM c ⟨bk, gn, sl, nw, 3, pu⟩ M = M.stS (c.header sl) nw := by simp [frM]
    rw [hM']
    by_cases hk : uK nw = 4
    · refine (free_3d c w p m b M hc hM ok np bk gn sl nw _ ho.sl.1 ho.sl.2 ho.nw.1 ho.nw.2 (by simpa using hk) h1).mono ?_
      rintro e w' ⟨rfl, q, g1, g2, a1, a2, a3⟩
      have hS : frS c ⟨bk, gn, sl, nw, 3, pu⟩ M = ⟨bk, true, sl, nw, 5, some ⟨sl, 0, 0⟩⟩ := by simp [frS, hk]
      refine ⟨by unfold frD; rw [hS]; rfl, some q, ?_, .inr ⟨q, rfl, g1, Blk.lt g2⟩, a2, f3 _ a3⟩
      rw [hS]; exact ⟨a1, fun Q e => ⟨q, rfl, by cases e; exact g2⟩⟩
    · refine (free_3b c w p m b M hc hM ok np bk gn sl nw _ ho.sl.1 ho.sl.2 ho.nw.1 ho.nw.2 (by simpa using hk) h1).mono ?_
      rintro e w' ⟨rfl, q, g1, g2, a1, a2, a3⟩
      have hS : frS c ⟨bk, gn, sl, nw, 3, pu⟩ M = ⟨bk, gn, sl, nw, 4, some ⟨sl, 0, 0⟩⟩ := by simp [frS, hk]
      refine ⟨by unfold frD; rw [hS]; rfl, some q, ?_, .inr ⟨q, rfl, g1, Blk.lt g2⟩, a2, f3 _ a3⟩
      rw [hS]; exact ⟨a1, fun Q e => ⟨q, rfl, by cases e; exact g2⟩⟩
  · have hM' : frM c ⟨bk, gn, sl, nw, 4, some Q⟩ M = pushM c Q M := by simp [frM]
    rw [hM']
    obtain ⟨q, rfl, hQ⟩ := h2 Q rfl
    obtain ⟨nqm, nqp⟩ := nq q rfl
    have f4 : ∀ w', Fr (four p q m b) w w' → Fr (fiv p m b (some q)) w w' := fun w' hf => hf.mono (fun k x => by
      rcases x with x | x | x
      · exact .inr (.inl x)
      · exact .inl (by rw [x])
      · exact .inr (.inr x))
    cases hd : pushD c Q M with
    | true =>
      refine (free_4a c w p m b M hc hM ok np bk gn sl nw q Q nqm nqp hQ oQ hd h1).mono ?_
      rintro e w' ⟨rfl, a0, a1, a2, a3⟩
      have hS : frS c ⟨bk, gn, sl, nw, 4, some Q⟩ M = ⟨true, gn, sl, nw, 5, some (pushS c Q M)⟩ := by simp [frS, hd]
      refine ⟨by unfold frD; rw [hS]; rfl, some q, ?_, .inl rfl, a2, f4 _ a3⟩
      rw [hS]; exact ⟨a1, fun Q' e => ⟨q, rfl, by cases e; exact a0⟩⟩
    | false =>
      refine (free_4b c w p m b M hc hM ok np bk gn sl nw q Q nqm nqp hQ oQ hd h1).mono ?_
      rintro e w' ⟨rfl, a0, a1, a2, a3⟩
      have hS : frS c ⟨bk, gn, sl, nw, 4, some Q⟩ M = ⟨bk, gn, sl, nw, 4, some (pushS c Q M)⟩ := by simp [frS, hd]
      refine ⟨by unfold frD; rw [hS]; rfl, some q, ?_, .inl rfl, a2, f4 _ a3⟩
      rw [hS]; exact ⟨a1, fun Q' e => ⟨q, rfl, by cases e; exact a0⟩⟩
  · refine (free_5 c w p m b M hc hM ok np bk gn sl nw _ h1).mono ?_
    rintro e w' ⟨rfl, rfl⟩
    have hS : frS c ⟨bk, gn, sl, nw, 5, pu⟩ M = ⟨bk, gn, sl, nw, 5, pu⟩ := by simp [frS]
    have hM' : frM c ⟨bk, gn, sl, nw, 5, pu⟩ M = M := by simp [frM]
    rw [hM']
    refine ⟨by unfold frD; rw [hS]; rfl, qa, ?_, .inl rfl, hM, Fr.refl _ _⟩
    rw [hS]; exact ⟨h1, h2⟩
theorem freC (c : Cf) (w : World) (p m b : Nat) (M : Ms) (a : Fre) (qa : Option Nat) (hc : c.right = true) (hM : MemB w m b M) (ok : Ok M) (np : ¬ two m b p) (nq : ∀ q, qa = some q → ¬ two m b q ∧ q ≠ p) (h : FrB w p c a qa) (ho : FreOk c a) :
    Calls Try.prog 59 #[.pointer (some ⟨p, 0, none⟩), .pointer (some ⟨m, 0, none⟩)] w fun e w' =>
    e = .returned (.bool (frD c a M)) ∧ ∃ qa', FrB w' p c (frS c a M) qa' ∧ (qa' = qa ∨ ∃ q, qa' = some q ∧ w.heap.size ≤ q) ∧ MemB w' m b (frM c a M) ∧ Fr (fiv p m b qa) w w' := by
  refine (freC2 c w p m b M a qa hc hM ok np nq h ho).mono ?_
  rintro e w' ⟨h1, qa', h2, h3, h4⟩
  exact ⟨h1, qa', h2, h3.imp id (fun ⟨q, e, l, _⟩ => ⟨q, e, l⟩), h4⟩
end Go.Proofs.Ytijfkpoofpcacaa.ArenaQ
end
section
namespace Go.Proofs.Ytijfkpoofpcacaa.ArenaS
open Go.RowKit Go.Proofs.YtijfkpoofpcacaaW.PrintWords Go.Proofs.Ytijfkpoofpcacaa.Blk Go.Proofs.Ytijfkpoofpcacaa.Core Go.Proofs.Ytijfkpoofpcacaa.MemC Go.Proofs.Ytijfkpoofpcacaa.MemD Go.Proofs.Ytijfkpoofpcacaa.MemT Go.Proofs.Ytijfkpoofpcacaa.Memory Go.Proofs.Ytijfkpoofpcacaa.PlanC Go.Proofs.Ytijfkpoofpcacaa.PlanD Go.Proofs.Ytijfkpoofpcacaa.StackC Go.Proofs.Ytijfkpoofpcacaa.StackL Go.Proofs.Ytijfkpoofpcacaa.StackS Go.Proofs.Ytijfkpoofpcacaa.StackF Go.Proofs.Ytijfkpoofpcacaa.StackP Go.Proofs.Ytijfkpoofpcacaa.HeadC Go.Proofs.Ytijfkpoofpcacaa.ArenaC Go.Proofs.Ytijfkpoofpcacaa.ArenaM Go.Proofs.Ytijfkpoofpcacaa.ArenaN Go.Proofs.Ytijfkpoofpcacaa.ArenaP Go.Proofs.Ytijfkpoofpcacaa.ArenaL Go.Proofs.Ytijfkpoofpcacaa.ArenaR Go.Proofs.Ytijfkpoofpcacaa.ArenaQ Go.Proofs.Ytijfkpoofpcacaa.Opens
structure Dis (p q r m b : Nat) : Prop where
  np : ¬ two m b p
  nq : ¬ two m b q
  nr : ¬ two m b r
  qp : q ≠ p
  rp : r ≠ p
  rq : r ≠ q
def MkX (c : Cf) (w : World) (p q r m b N T : Nat) (g : Nat → Int) (t x : Int) (rst : List Int) (i : Nat) : Prop :=
  ∃ a M, MkB w p q r c (roomI c) g a ∧ Stg c (roomI c) M.f t x rst i a ∧ MkOk (roomI c) a ∧ MemB w m b M ∧ Fine M N T
theorem fine_n {c : Cf} (hr : c.right = true) {M : Ms} {N T : Nat} (h : Fine M N T) (hN : (N : Int) = c.size) : (M.n : Int) = c.size := by rw [h.n]; exact hN
theorem N_bd {c : Cf} (hr : c.right = true) {N : Nat} (hN : (N : Int) = c.size) : 9 ≤ N ∧ N ≤ 800 := by have := size_bd hr; unfold Cf.size at hN; omega
section
variable {c : Cf} (hr : c.right = true) {w : World} {p q r m b N T : Nat} {g : Nat → Int} {t x : Int} {rst : List Int} (hN : (N : Int) = c.size) (hT : T ≤ 1000000) (hx : 0 ≤ x ∧ x < c.S) (ht : t + 1 < 281474976710656) (hg : U g) (d : Dis p q r m b)
include hr hN hT hg d
theorem mkXC (hx : 0 ≤ x ∧ x < c.S) (ht : t + 1 < 281474976710656) {i : Nat} (hi : i < 5 + roomI c) (h : MkX c w p q r m b N T g t x rst i) : Calls Try.prog 52 #[.pointer (some ⟨p, 0, none⟩), .pointer (some ⟨m, 0, none⟩)] w fun e w' =>
    e = .returned (.bool (i + 1 == 5 + roomI c)) ∧ MkX c w' p q r m b N (T + 1) g t x rst (i + 1) ∧ Fr (four p q m b) w w' := by
  obtain ⟨a, M, h1, h2, h3, h4, h5⟩ := h
  have hb := N_bd hr hN
  have hri := room_i hr
  have ok := h5.ok (by omega) (by omega)
  have hn := fine_n hr h5 hN
  refine (makeC c w p q r m b (roomI c) M g a hr h4 ok d.np d.nq d.nr d.qp d.rp d.rq (by omega) h1 h3).mono ?_
  rintro e w' ⟨rfl, a1, a2, a3⟩
  obtain ⟨s1, s2⟩ := mkStep hr hri.2.2 (g := g) hn hx ht hi h2
  rw [s2]
  exact ⟨rfl, ⟨_, _, a1, s1, h3.step ok (by omega), a2, fine_mk h5 h3 hg⟩, a3⟩
end
theorem mkX_new {c : Cf} {w : World} {p q r m b N T : Nat} {g : Nat → Int} {t x : Int} {rst : List Int} {M : Ms} {kd ar ep : Int} (hr : c.right = true) (h1 : PopB w q c ⟨-1, false, 0, 0, 0⟩) (h2 : Blk w p 82 (makeA c (-1) false kd ar ep (.slice (some ⟨r, 0, none⟩) (roomI c) (roomI c)) (some ⟨q, 0, none⟩) 0 0 0)) (h3 : RowB w (some ⟨r, 0, none⟩) (roomI c) r (roomI c) g) (hM : MemB w m b M) (hf : Fine M N T) (hs : Stk c M.f t (x :: rst)) (e : 0 ≤ ep ∧ ep < 18446744073709551616) (ha : ar < 9223372036854775808) : MkX c w p q r m b N T g t x rst 0 := by
  have hri := room_i hr
  exact ⟨⟨-1, false, kd, ar, ep, 0, 0, 0, ⟨-1, false, 0, 0, 0⟩⟩, M, ⟨h2, h1, h3⟩, ⟨rfl, .inl ⟨rfl, rfl, rfl, rfl, hs⟩⟩, ⟨fun _ => ⟨Int.le_refl 0, by show (0 : Int) < _; decide, .inl rfl⟩, .inl ⟨.inl rfl, Int.le_refl 0, by show (0 : Int) < _; omega⟩, e, ha, by show (0 : Int) < _; decide⟩, hM, hf⟩
theorem mkX_end {c : Cf} {w : World} {p q r m b N T : Nat} {g : Nat → Int} {t x : Int} {rst : List Int} (h : MkX c w p q r m b N T g t x rst (5 + roomI c)) : ∃ M, MemB w m b M ∧ Fine M N T ∧ Stk c M.f (t + 1) rst ∧ w.cell? ⟨p, 0, none⟩ = some (.int .i64 x) ∧ w.cell? ⟨p, 1, none⟩ = some (.bool false) := by
  obtain ⟨a, M, h1, ⟨h0, h2⟩, h3, h4, h5⟩ := h
  rcases h2 with ⟨h, _⟩ | ⟨h, _⟩ | ⟨h, _⟩ | ⟨h, _⟩ | ⟨j, h, h', _⟩ | ⟨h, _⟩ | ⟨_, _, e1, e2⟩
  · omega
  · omega
  · omega
  · omega
  · omega
  · omega
  · exact ⟨M, h4, h5, e2, by rw [← e1]; exact h1.blk.cell (i := 0) rfl, by rw [← h0]; exact h1.blk.cell (i := 1) rfl⟩
def kF (c : Cf) (x : Int) : Nat := if (freedV x c.G).2 = false then 1 else if uK (freedV x c.G).1 = 4 then 2 else 5
theorem kF_bd (c : Cf) (x : Int) : 1 ≤ kF c x ∧ kF c x ≤ 5 := by unfold kF; split <;> (try split) <;> omega
def FrX (c : Cf) (w : World) (p m b lo N T : Nat) (t : Int) (L : List Int) (s x : Int) (i : Nat) : Prop :=
  ∃ a M qa, FrB w p c a qa ∧ (∀ q, qa = some q → lo ≤ q ∧ ¬ two m b q ∧ q ≠ p) ∧ ((i < kF c x ∧ FrI c M.f t L s x i a) ∨ (i = kF c x ∧ FrE c M.f t L s x a)) ∧ FreOk c a ∧ MemB w m b M ∧ Fine M N T
def frv (p m b lo : Nat) : Nat → Prop := fun k => k = p ∨ two m b k ∨ lo ≤ k
theorem frXC {c : Cf} (hr : c.right = true) {w : World} {p m b lo N T : Nat} {t s x : Int} {L : List Int} (hN : (N : Int) = c.size) (hT : T ≤ 1000000) (hs : 0 ≤ s ∧ s < c.S) (hnm : s ∉ L) (ht : t + 1 < 281474976710656) (np : ¬ two m b p) (hlo : lo ≤ w.heap.size) {i : Nat} (hi : i < kF c x) (h : FrX c w p m b lo N T t L s x i) :
    Calls Try.prog 59 #[.pointer (some ⟨p, 0, none⟩), .pointer (some ⟨m, 0, none⟩)] w fun e w' =>
    e = .returned (.bool (i + 1 == kF c x)) ∧ FrX c w' p m b lo N (T + 1) t L s x (i + 1) ∧ Fr (frv p m b lo) w w' := by
  obtain ⟨a, M, qa, h1, hq, h2, h3, h4, h5⟩ := h
  have hb := N_bd hr hN
  have ok := h5.ok (by omega) (by omega)
  have hn := fine_n hr h5 hN
  have h2' : FrI c M.f t L s x i a := by
    rcases h2 with ⟨_, h⟩ | ⟨h, _⟩
    · exact h
    · omega
  have ltp := h1.blk.lt
  have lm := h4.lm
  have lb := h4.lb
  refine (freC c w p m b M a qa hr h4 ok np (fun q e => (hq q e).2) h1 h3).mono ?_
  rintro e w' ⟨rfl, qa', a1, a2, a3, a4⟩
  have hq' : ∀ q, qa' = some q → lo ≤ q ∧ ¬ two m b q ∧ q ≠ p := by
    intro q e
    rcases a2 with a2 | ⟨q2, a2, a5⟩
    · exact hq q (a2 ▸ e)
    · rw [a2] at e
      cases e
      refine ⟨by omega, fun k => ?_, by omega⟩
      rcases k with k | k
      · omega
      · omega
  have hF : Fr (frv p m b lo) w w' := a4.mono (fun k y => by
    rcases y with y | y | y
    · exact .inr (.inr (hq k y).1)
    · exact .inl y
    · exact .inr (.inl y))
  rcases frStep hr hn hs hnm ht h2' with ⟨d1, d2, d3⟩ | ⟨d1, d2⟩
  · have hlt : i + 1 < kF c x := by
      obtain ⟨_, _, _, _, z⟩ := d2
      unfold kF
      rcases z with ⟨z, _⟩ | ⟨z1, _, ⟨z, _⟩ | ⟨z2, _, _, z⟩⟩
      · omega
      · rw [z1]; simp only [Bool.true_eq_false, if_false]; split <;> omega
      · rw [z1, if_neg (by decide), if_neg z2]; omega
    rw [d1, beq_eq_false_iff_ne.2 (show i + 1 ≠ kF c x by omega)]
    exact ⟨rfl, ⟨_, _, qa', a1, hq', .inl ⟨hlt, d2⟩, h3.step ok, a3, fine_fr h5 h3⟩, hF⟩
  · have heq : i + 1 = kF c x := by
      obtain ⟨_, _, z⟩ := d2
      have h2s := h2'
      obtain ⟨_, b1, b2, b3, y⟩ := h2s
      unfold kF
      have hb := room_bd hr
      have h00 : (0 : Int) ≤ 0 ∧ (0 : Int) < roomV c.A := ⟨by decide, by omega⟩
      have hsl : a.sl = s := h2'.1
      have hD : frD c a M = true := d1
      obtain ⟨bk, gn, sl, nw, nx, pu⟩ := a
      have e0 : c.header sl = c.pl sl 0 := header_pl hr (by rw [show sl = s from hsl]; exact hs)
      have hsl' : sl = s := hsl
      subst hsl'
      rcases y with ⟨rfl, y1, y2⟩ | ⟨yv, y1, ⟨rfl, y2, y3⟩ | ⟨yk, y2, y3, ⟨rfl, y4⟩ | ⟨rfl, y4⟩ | ⟨rfl, y4, y5⟩⟩⟩
      · obtain rfl : nx = 1 := y1
        have el : M.ldV (c.header sl) = x := by rw [e0, ld_pl hr hn hs h00]; exact y2
        cases hv : (freedV x c.G).2 with
        | false => rw [if_pos rfl]
        | true =>
          exfalso
          unfold frD at hD
          rw [show frS c ⟨bk, gn, sl, nw, 1, pu⟩ M = ⟨bk, gn, sl, (freedV x c.G).1, 3, pu⟩ by simp [frS, el, hv]] at hD
          exact absurd hD (by simp)
      · obtain rfl : nx = 3 := y2
        rw [yv, if_neg (by decide)]
        by_cases hk : uK (freedV x c.G).1 = 4
        · rw [if_pos hk]
        · exfalso
          obtain rfl : nw = (freedV x c.G).1 := y1
          unfold frD at hD
          rw [show frS c ⟨bk, gn, sl, (freedV x c.G).1, 3, pu⟩ M = ⟨bk, gn, sl, (freedV x c.G).1, 4, some ⟨sl, 0, 0⟩⟩ by simp [frS, hk]] at hD
          exact absurd hD (by simp)
      · exfalso
        obtain rfl : nx = 4 := y2
        obtain rfl : pu = some ⟨sl, 0, 0⟩ := y4
        obtain ⟨p1, p2, p3⟩ := pb0 (x := sl) (tp := 0) hr hn b3
        unfold frD at hD
        rw [show frS c ⟨bk, gn, sl, nw, 4, some ⟨sl, 0, 0⟩⟩ M = ⟨bk, gn, sl, nw, 4, some ⟨sl, 1, M.f 3⟩⟩ by simp [frS, p1, p3]] at hD
        exact absurd hD (by simp)
      · exfalso
        obtain rfl : nx = 4 := y2
        obtain rfl : pu = some ⟨sl, 1, M.f 3⟩ := y4
        obtain ⟨p1, p3, _⟩ := pb1 hr hn b3 hs hnm
        unfold frD at hD
        rw [show frS c ⟨bk, gn, sl, nw, 4, some ⟨sl, 1, M.f 3⟩⟩ M = ⟨bk, gn, sl, nw, 4, some ⟨sl, 2, M.f 3⟩⟩ by simp [frS, p1, p3]] at hD
        exact absurd hD (by simp)
      · rw [yv, if_neg (by decide), if_neg yk]
    rw [d1, heq, beq_self_eq_true]
    exact ⟨rfl, ⟨_, _, qa', a1, hq', .inr ⟨rfl, d2⟩, h3.step ok, a3, fine_fr h5 h3⟩, hF⟩
theorem frX_new {c : Cf} {w : World} {p m b lo N T : Nat} {t s x : Int} {L : List Int} {M : Ms} (hs : 0 ≤ s ∧ s < c.S) (h1 : Blk w p 95 (freeA c false false s 0 none 1)) (hM : MemB w m b M) (hf : Fine M N T) (hk : Stk c M.f t L) (hx : M.f (c.pl s 0).toNat = x) : FrX c w p m b lo N T t L s x 0 :=
  ⟨⟨false, false, s, 0, 1, none⟩, M, none, ⟨h1, fun Q e => (by cases e)⟩, (fun q e => by cases e), .inl ⟨(kF_bd c x).1, rfl, rfl, rfl, hk, .inl ⟨rfl, rfl, hx⟩⟩, ⟨hs, ⟨Int.le_refl 0, by show (0 : Int) < _; decide⟩, .inl rfl⟩, hM, hf⟩
theorem frX_end {c : Cf} {w : World} {p m b lo N T : Nat} {t s x : Int} {L : List Int} (h : FrX c w p m b lo N T t L s x (kF c x)) : ∃ M bk gn, MemB w m b M ∧ Fine M N T ∧ w.cell? ⟨p, 0, none⟩ = some (.bool bk) ∧ w.cell? ⟨p, 1, none⟩ = some (.bool gn) ∧
    (((freedV x c.G).2 = false ∧ bk = false ∧ gn = false ∧ M.f (c.pl s 0).toNat = x ∧ Stk c M.f t L) ∨
    ((freedV x c.G).2 = true ∧ M.f (c.pl s 0).toNat = (freedV x c.G).1 ∧ (
      (uK (freedV x c.G).1 = 4 ∧ bk = false ∧ gn = true ∧ Stk c M.f t L) ∨
      (uK (freedV x c.G).1 ≠ 4 ∧ bk = true ∧ gn = false ∧ Stk c M.f (t + 1) (s :: L))))) := by
  obtain ⟨a, M, qa, h1, hq, h2, h3, h4, h5⟩ := h
  rcases h2 with ⟨h, _⟩ | ⟨_, h⟩
  · omega
  · exact ⟨M, a.bk, a.gn, h4, h5, h1.blk.cell (i := 0) rfl, h1.blk.cell (i := 1) rfl, h.2.2⟩
end Go.Proofs.Ytijfkpoofpcacaa.ArenaS
end
section
namespace Go.Proofs.Ytijfkpoofpcacaa.StackG
open Go.RowKit Go.Proofs.Ytijfkpoofpcacaa.Blk Go.Proofs.Ytijfkpoofpcacaa.Core Go.Proofs.Ytijfkpoofpcacaa.MemC Go.Proofs.Ytijfkpoofpcacaa.MemT Go.Proofs.Ytijfkpoofpcacaa.PlanC Go.Proofs.Ytijfkpoofpcacaa.PlanD Go.Proofs.Ytijfkpoofpcacaa.StackC
def six (w : World) (b : Nat) (c : Cf) : World := (((((w.setCell ⟨b, 0, none⟩ (.int .i64 c.S)).setCell ⟨b, 1, none⟩ (.int .i64 c.A)).setCell ⟨b, 2, none⟩ (.int .i64 c.C)).setCell ⟨b, 3, none⟩ (.int .i64 c.H)).setCell ⟨b, 4, none⟩ (.int .i64 c.G)).setCell ⟨b, 5, none⟩ (.int .i64 c.K)
theorem six_blk {w : World} {b t : Nat} {c a : Cf} (h : Blk w b t #[.int .i64 a.S, .int .i64 a.A, .int .i64 a.C, .int .i64 a.H, .int .i64 a.G, .int .i64 a.K]) : Blk (six w b c) b t #[.int .i64 c.S, .int .i64 c.A, .int .i64 c.C, .int .i64 c.H, .int .i64 c.G, .int .i64 c.K] :=
  (((((h.set 0 _).set 1 _).set 2 _).set 3 _).set 4 _).set 5 _
theorem six_below {w0 w : World} {n b : Nat} {c : Cf} (h : Below n w0 w) (hb : n ≤ b) : Below n w0 (six w b c) :=
  (((((h.setCell (p := ⟨b, 0, none⟩) hb _).setCell (p := ⟨b, 1, none⟩) hb _).setCell (p := ⟨b, 2, none⟩) hb _).setCell (p := ⟨b, 3, none⟩) hb _).setCell (p := ⟨b, 4, none⟩) hb _).setCell (p := ⟨b, 5, none⟩) hb _
theorem not_two {p m b : Nat} (h1 : p ≠ m) (h2 : p ≠ b) : ¬ two m b p := fun c => c.elim h1 h2
end Go.Proofs.Ytijfkpoofpcacaa.StackG
end
section
namespace Go.Proofs.Ytijfkpoofpcacaa.ArenaT
open Go.RowKit Go.Proofs.YtijfkpoofpcacaaW.PrintWords Go.Proofs.Ytijfkpoofpcacaa.Blk Go.Proofs.Ytijfkpoofpcacaa.Core Go.Proofs.Ytijfkpoofpcacaa.MemC Go.Proofs.Ytijfkpoofpcacaa.MemD Go.Proofs.Ytijfkpoofpcacaa.MemT Go.Proofs.Ytijfkpoofpcacaa.Memory Go.Proofs.Ytijfkpoofpcacaa.PlanC Go.Proofs.Ytijfkpoofpcacaa.PlanD Go.Proofs.Ytijfkpoofpcacaa.StackC Go.Proofs.Ytijfkpoofpcacaa.StackL Go.Proofs.Ytijfkpoofpcacaa.StackS Go.Proofs.Ytijfkpoofpcacaa.StackF Go.Proofs.Ytijfkpoofpcacaa.StackP Go.Proofs.Ytijfkpoofpcacaa.StackG Go.Proofs.Ytijfkpoofpcacaa.HeadC Go.Proofs.Ytijfkpoofpcacaa.ArenaC Go.Proofs.Ytijfkpoofpcacaa.ArenaM Go.Proofs.Ytijfkpoofpcacaa.ArenaN Go.Proofs.Ytijfkpoofpcacaa.ArenaP Go.Proofs.Ytijfkpoofpcacaa.ArenaL Go.Proofs.Ytijfkpoofpcacaa.ArenaR Go.Proofs.Ytijfkpoofpcacaa.ArenaQ Go.Proofs.Ytijfkpoofpcacaa.ArenaS Go.Proofs.Ytijfkpoofpcacaa.Opens
theorem sl_nil (w : World) (V : Nat → Nat → Value) : Sl w none 0 1 V := fun h => absurd h (by decide)
theorem U_pad (bn : Nat) (bf : Nat → Int) (h : ∀ j, j < bn → 0 ≤ bf j ∧ bf j < 18446744073709551616) : U (padF bn bf) := fun j => by
  unfold padF
  split
  · exact h j ‹_›
  · exact ⟨Int.le_refl 0, by show (0 : Int) < _; decide⟩
theorem nodis {p q r m b k : Nat} (h1 : m < k) (h2 : b < k) (hr : k ≤ r) (hq : r < q) (hp : q < p) : Dis p q r m b :=
  ⟨fun x => x.elim (fun e => by omega) (fun e => by omega), fun x => x.elim (fun e => by omega) (fun e => by omega), fun x => x.elim (fun e => by omega) (fun e => by omega), by omega, by omega, by omega⟩
theorem not_four {k p q m b : Nat} (h1 : k ≠ p) (h2 : k ≠ q) (h3 : k ≠ m) (h4 : k ≠ b) : ¬ four p q m b k := fun x => x.elim h1 (fun x => x.elim h2 (fun x => x.elim h3 h4))
theorem not_frv {k p m b lo : Nat} (h1 : k ≠ p) (h3 : k ≠ m) (h4 : k ≠ b) (h5 : k < lo) : ¬ frv p m b lo k := fun x => x.elim h1 (fun x => x.elim (fun x => x.elim h3 h4) (fun e => absurd h5 (by omega)))
def c12 : Cf := ⟨1, 0, 1, 1, 2, 0⟩
theorem c12_f : c12.right = true ∧ c12.header 0 = 8 ∧ c12.pl 0 0 = 8 ∧ c12.size = 13 ∧ roomI c12 = 3 ∧ headN 3 0 false 0 0 0 = 3 ∧ headN 0 0 false 0 1 0 = 65536 ∧ kF c12 3 = 5 ∧ freedV 3 c12.G = (65536, true) ∧ uK 65536 = 0 := by decide +kernel
set_option maxHeartbeats 4000000 in
set_option maxRecDepth 100000 in
theorem awake12C (w : World) : Calls Try.prog 53 #[] w fun e w' => e = .returned (.bool true) ∧ Below w.heap.size w w' := by
  obtain ⟨hr, hh, hpl, hsz, hri, hn1, hn2, hkf, hfv, huk⟩ := c12_f
  have hbx := Lib.hid (Blk.new w 23 #[.int .i64 c12.S, .int .i64 c12.A, .int .i64 c12.C, .int .i64 c12.H, .int .i64 c12.G, .int .i64 c12.K])
  have hcan : canM c12 1 0 0 := ⟨hr, by decide, by omega, .inl ⟨rfl, by decide⟩⟩
  have hst := stk_start hr
  have hst0 : Stk c12 (memF c12.A c12.C c12.H (c12.S - 1).toNat) 0 [0] := hst
  have hfi := fine_of (n := 13) (memF_U c12.A c12.C c12.H (c12.S - 1).toNat (by decide))
  have hUg : U (padF 0 (fun _ => 0)) := U_pad _ _ (fun j hj => absurd hj (by omega))
  have h13 : ((13 : Nat) : Int) = c12.size := by rw [hsz]; rfl
  replace hr := Lib.hid hr
  replace hh := Lib.hid hh
  replace hpl := Lib.hid hpl
  replace hri := Lib.hid hri
  replace hn1 := Lib.hid hn1
  replace hn2 := Lib.hid hn2
  replace hkf := Lib.hid hkf
  replace hfv := Lib.hid hfv
  replace huk := Lib.hid huk
  replace hcan := Lib.hid hcan
  replace h13 := Lib.hid h13
  replace hfi := Lib.hid hfi
  replace hst0 := Lib.hid hst0
  replace hUg := Lib.hid hUg
  have hsz' : c12.size.toNat = 13 := by rw [hsz]; rfl
  replace hsz' := Lib.hid hsz'
  clear hst hsz
  go_enter Try.func53, Try.ntmps53
  generalize hCFe : w.heap.size = CF at *
  go_upto_region 3 with (go_at_call 20; refine (memC c12 _ hr.out).mono ?_; rintro e w1 ⟨m, b, rfl, hM, hm, hb, hb1⟩; rw [hsz'.out] at hM; have hf1 := hbx.out.below hb1 hbx.out.lt; have hX := cfgs hf1.drew; replace hf1 := Lib.hid hf1.drew; replace hM := Lib.hid hM.drew; replace hb1 := Lib.hid hb1)
  have szb : ∀ o : Obj, (w.alloc o).heap.size = CF + 1 := fun o => by rw [← hCFe]; simp
  have hT := Lib.hid (below_pre hb1.out).drew
  have lt1 : CF < w1.drew.heap.size := hf1.out.lt
  have lm : m < w1.drew.heap.size := hM.out.lm
  have lb : b < w1.drew.heap.size := hM.out.lb
  rw [szb] at hm hb
  clear hb1 szb hbx
  go_cut [3, 4] (fun va vb wx => ∃ p q r f, va = .pointer (some ⟨p, 0, none⟩) ∧ vb = .pointer (some ⟨f, 0, none⟩) ∧ PopB wx q c12 ⟨-1, false, 0, 0, 0⟩ ∧ Blk wx p 82 (makeA c12 (-1) false 1 0 0 (.slice (some ⟨r, 0, none⟩) (roomI c12) (roomI c12)) (some ⟨q, 0, none⟩) 0 0 0) ∧ RowB wx (some ⟨r, 0, none⟩) (roomI c12) r (roomI c12) (padF 0 (fun _ => 0)) ∧ Blk wx f 95 (freeA c12 false false 0 0 none 1) ∧ MemB wx m b (Ms.of 13 (memF c12.A c12.C c12.H (c12.S - 1).toNat)) ∧ Blk wx CF 23 #[.int .i64 c12.S, .int .i64 c12.A, .int .i64 c12.C, .int .i64 c12.H, .int .i64 c12.G, .int .i64 c12.K] ∧ Below w.heap.size w wx ∧ (w1.drew.heap.size ≤ r ∧ r < q ∧ q < p ∧ w1.drew.heap.size ≤ f ∧ (f < r ∨ p < f)))
  case first =>
    have hX' : w1.drew.cell? ⟨CF, 0, none⟩ = some (.int .i64 c12.S) ∧ w1.drew.cell? ⟨CF, 1, none⟩ = some (.int .i64 c12.A) ∧ w1.drew.cell? ⟨CF, 2, none⟩ = some (.int .i64 c12.C) ∧ w1.drew.cell? ⟨CF, 3, none⟩ = some (.int .i64 c12.H) ∧ w1.drew.cell? ⟨CF, 4, none⟩ = some (.int .i64 c12.G) ∧ w1.drew.cell? ⟨CF, 5, none⟩ = some (.int .i64 c12.K) := hX
    clear hX
    go_region_held3 (fun w' => w'.cell? ⟨CF, 0, none⟩ = some (.int .i64 c12.S) ∧ w'.cell? ⟨CF, 1, none⟩ = some (.int .i64 c12.A) ∧ w'.cell? ⟨CF, 2, none⟩ = some (.int .i64 c12.C) ∧ w'.cell? ⟨CF, 3, none⟩ = some (.int .i64 c12.H) ∧ w'.cell? ⟨CF, 4, none⟩ = some (.int .i64 c12.G) ∧ w'.cell? ⟨CF, 5, none⟩ = some (.int .i64 c12.K)) (assumption) (first
      | (go_at_call 51; refine (newMakeC c12 _ 1 0 0 none 0 0 (fun _ => 0) (sl_nil _ _) hcan.out).mono ?_; rintro e w4 ⟨p, q, r, rfl, g1, g2, g3, hQ, hP, hR, hb4⟩; replace hf1 := Lib.hid (hf1.out.below hb4 hf1.out.lt); have hY1 := cfgs hf1.out; (try replace hV := Lib.hid (hV.out.below hb4 hV.out.lt)); replace hM := Lib.hid (hM.out.next hb4); replace hT := Lib.hid (MemT.bT hT.out hb4); have lt1 := hP.lt; have zz1 := hb4.size; replace hP := Lib.hid hP; replace hQ := Lib.hid hQ; replace hR := Lib.hid hR; clear hb4)
      | (go_at_call 54; refine (newFreeC c12 _ 0 (by rw [hh.out]; decide)).mono ?_; rintro e w5 ⟨f, rfl, g4, hV, hb5⟩; replace hf1 := Lib.hid (hf1.out.below hb5 hf1.out.lt); have hY2 := cfgs hf1.out; (try (replace hP := Lib.hid (hP.out.below hb5 hP.out.lt); replace hQ := Lib.hid (Blk.below hQ.out hb5 (Blk.lt hQ.out)); replace hR := Lib.hid (hR.out.below hb5 (Nat.le_refl _)))); replace hM := Lib.hid (hM.out.next hb5); replace hT := Lib.hid (MemT.bT hT.out hb5); have lt2 := hV.lt; have zz2 := hb5.size; replace hV := Lib.hid hV; clear hb5))
    all_goals
      clear hX' hY1 hY2
      go_wp2
      go_meet
      case rel => exact ⟨p, q, r, f, rfl, rfl, hQ.out, hP.out, hR.out, hV.out, hM.out, hf1.out, hCFe ▸ hT.out, by omega⟩
  case rest =>
    obtain ⟨p, q, r, f, rfl, rfl, hQ, hP, hR, hV, hM2, hf2, hT2, g1, g2, g3, g4, g5⟩ := hcut
    clear hM hT hf1 hX
    have hd : Dis p q r m b := nodis lm lb g1 g2 g3
    have hX0 := Lib.hid (mkX_new (T := 0) hr.out hQ hP hR hM2 hfi.out hst0.out ⟨by decide, by decide⟩ (by decide))
    replace hV := Lib.hid hV
    replace hf2 := Lib.hid hf2
    replace hT2 := Lib.hid hT2
    replace hd := Lib.hid hd
    clear hQ hP hR hM2
    go_wp2
    go_loopw [5] (fun z wr => ∃ i : Nat, i ≤ 7 ∧ z = .int .i64 (i : Int) ∧ MkX c12 wr p q r m b 13 i (padF 0 (fun _ => 0)) 0 0 [] i ∧ Blk wr f 95 (freeA c12 false false 0 0 none 1) ∧ Blk wr CF 23 #[.int .i64 c12.S, .int .i64 c12.A, .int .i64 c12.C, .int .i64 c12.H, .int .i64 c12.G, .int .i64 c12.K] ∧ Below w.heap.size w wr) (fun z _ => 8 - (intOf z).toNat)
    case atStart => exact ⟨0, by omega, rfl, hX0.out, hV.out, hf2.out, hT2.out⟩
    case round =>
      obtain ⟨i, hi, rfl, hB, hVi, hC, hW⟩ := hrel
      have ef : ∀ j, i + 1 = j → (i + 1 == 5 + roomI c12) = (j == 8) := fun j e => by rw [hri.out, e]
      have lti : i < 5 + roomI c12 := by rw [hri.out]; omega
      have i20 : (i : Int) < 20 := by omega
      replace hB := Lib.hid hB
      replace hVi := Lib.hid hVi
      replace hC := Lib.hid hC
      replace hW := Lib.hid hW
      rcases (show i < 7 ∨ i = 7 by omega) with hlt | rfl
      · have hf8 : (i + 1 == 5 + roomI c12) = false := by rw [hri.out]; simp; omega
        replace hf8 := Lib.hid hf8
        clear ef
        go_wp2_with (go_at_call 52; refine (mkXC hr.out h13.out (by omega) hUg.out hd.out (by decide) (by decide) lti hB.out).mono ?_; rintro e w2 ⟨rfl, hB2, hF2⟩; rw [hf8.out]; replace hVi := Lib.hid (hVi.out.fr hF2 (not_four (by omega) (by omega) (by omega) (by omega))); replace hC := Lib.hid (hC.out.fr hF2 (not_four (by omega) (by omega) (by omega) (by omega))); replace hW := Lib.hid (hW.out.trans (hF2.below (fun k hk => ⟨by have := hW.out.size; omega, not_four (by omega) (by omega) (by omega) (by omega)⟩))); replace hB := Lib.hid hB2; clear hF2 hB2)
        go_roundw
        case rel => exact ⟨i + 1, by omega, by go_num, hB.out, hVi.out, hC.out, hW.out⟩
        case measure => simp [intOf]; omega
      · have hf8 : (7 + 1 == 5 + roomI c12) = true := by rw [hri.out]; rfl
        have h71 : 7 + 1 = 5 + roomI c12 := by rw [hri.out]
        replace hf8 := Lib.hid hf8
        replace h71 := Lib.hid h71
        clear ef
        go_upto_region 9 with (go_at_call 52; refine (mkXC hr.out h13.out (by omega) hUg.out hd.out (by decide) (by decide) lti hB.out).mono ?_; rintro e w2 ⟨rfl, hB2, hF2⟩; rw [hf8.out]; replace hVi := Lib.hid (hVi.out.fr hF2 (not_four (by omega) (by omega) (by omega) (by omega))); replace hC := Lib.hid (hC.out.fr hF2 (not_four (by omega) (by omega) (by omega) (by omega))); replace hW := Lib.hid (hW.out.trans (hF2.below (fun k hk => ⟨by have := hW.out.size; omega, not_four (by omega) (by omega) (by omega) (by omega)⟩))); replace hB := Lib.hid hB2; clear hF2 hB2)
        have hB2 := hB.out
        rw [h71.out] at hB2
        obtain ⟨M, hM, hf, hk, c0, c1⟩ := mkX_end hB2
        clear hB hB2 c1
        have ok := hf.ok (by decide) (by decide)
        replace hM := Lib.hid hM
        obtain ⟨k0, k1, k2, k3, k4, k5⟩ := cfgs hC.out
        have hin : M.inn 8 = true := inn_iff.2 ⟨by decide, by rw [hf.n]; decide⟩
        replace hin := Lib.hid hin
        replace hf := Lib.hid hf
        replace hk := Lib.hid hk
        go_upto_region 11 with (first
          | (go_at_call 72; refine (headerC c12 _ 0).mono ?_; rintro e w3 ⟨rfl, hb3⟩; rw [hh.out]; replace hVi := Lib.hid (hVi.out.below hb3 hVi.out.lt); replace hC := Lib.hid (hC.out.below hb3 hC.out.lt); replace hM := Lib.hid (hM.out.next hb3); replace hW := Lib.hid (hW.out.trans (hb3.mono (by have := hW.out.size; omega))); clear hb3)
          | (go_at_call 58; refine (rPack_c 3 0 false 0 0 0 (by decide) _).mono ?_; rintro e w4 ⟨rfl, hb3⟩; rw [hn1.out]; replace hVi := Lib.hid (hVi.out.below hb3 hVi.out.lt); replace hC := Lib.hid (hC.out.below hb3 hC.out.lt); replace hM := Lib.hid (hM.out.next hb3); replace hW := Lib.hid (hW.out.trans (hb3.mono (by have := hW.out.size; omega))); clear hb3)
          | (go_at_call 57; refine (store_c _ m b M 8 hM.out ok 3).mono ?_; rintro e w5 ⟨rfl, hM', hF'⟩; rw [hin.out]; replace hVi := Lib.hid (hVi.out.fr hF' (not_two (by omega) (by omega))); replace hC := Lib.hid (hC.out.fr hF' (not_two (by omega) (by omega))); replace hW := Lib.hid (hW.out.trans (hF'.below (fun k hk => ⟨by have := hW.out.size; omega, not_two (by omega) (by omega)⟩))); replace hM := Lib.hid hM'; clear hM' hF'))
        have e8 : M.stS 8 3 = M.stS (c12.pl 0 0) 3 := by rw [hpl.out]
        have hnM := fine_n hr.out hf.out h13.out
        have hs8 := (st_pl (M := M) hr.out hnM (s := 0) (o := 0) (v := 3) ⟨by decide, by decide⟩ ⟨by decide, by decide⟩).1
        rw [← e8] at hs8
        have hk2 : Stk c12 (M.stS 8 3).f 1 [] := by rw [hs8]; exact Stk.off hr.out hk.out ⟨by decide, by decide⟩ ⟨by decide, by decide⟩ (by decide)
        have hx2 : (M.stS 8 3).f (c12.pl 0 0).toNat = 3 := by rw [hs8, upd_eq]
        have hf3 := hf.out.st 8 (v := 3) (by decide) (by decide)
        have ltw := hC.out.lt
        have lov : f < w5.heap.size := hVi.out.lt
        have hZ0 := Lib.hid (frX_new (lo := w5.heap.size) (L := []) ⟨by decide, by decide⟩ hVi.out hM.out hf3 hk2 hx2)
        have lm5 := hM.out.lm
        have lb5 := hM.out.lb
        have nf : ¬ two m b f := not_two (by omega) (by omega)
        have hlo := Nat.le_refl w5.heap.size
        generalize hL5 : w5.heap.size = lo at *
        have hlo5 : lo ≤ w5.heap.size := by omega
        clear e8 hs8 hk2 hx2 hf3 hVi hM hnM c0 k0 k1 k2 k3 k4 k5 ok hin hL5 hf hk
        go_wp2
        go_loopw [6] (fun z wr => ∃ i : Nat, i ≤ 4 ∧ z = .int .i64 (i : Int) ∧ FrX c12 wr f m b lo 13 (9 + i) 1 [] 0 3 i ∧ lo ≤ wr.heap.size ∧ Blk wr CF 23 #[.int .i64 c12.S, .int .i64 c12.A, .int .i64 c12.C, .int .i64 c12.H, .int .i64 c12.G, .int .i64 c12.K] ∧ Below w.heap.size w wr) (fun z _ => 5 - (intOf z).toNat)
        case atStart => exact ⟨0, by omega, rfl, hZ0.out, hlo5, hC.out, hW.out⟩
        case round =>
          obtain ⟨i, hi, rfl, hZ, hls, hC, hW⟩ := hrel
          have lti : i < kF c12 3 := by rw [hkf.out]; omega
          have i20 : (i : Int) < 20 := by omega
          replace hZ := Lib.hid hZ
          replace hC := Lib.hid hC
          replace hW := Lib.hid hW
          rcases (show i < 4 ∨ i = 4 by omega) with hlt | rfl
          · have hf8 : (i + 1 == kF c12 3) = false := by rw [hkf.out]; simp; omega
            replace hf8 := Lib.hid hf8
            go_wp2_with (go_at_call 59; refine (frXC hr.out h13.out (by omega) ⟨by decide, by decide⟩ (List.not_mem_nil) (by decide) nf hls lti hZ.out).mono ?_; rintro e w6 ⟨rfl, hZ2, hF2⟩; rw [hf8.out]; replace hC := Lib.hid (hC.out.fr hF2 (not_frv (by omega) (by omega) (by omega) (by omega))); have zs := hF2.size; replace hW := Lib.hid (hW.out.trans (hF2.below (fun k hk => ⟨by have := hW.out.size; omega, not_frv (by omega) (by omega) (by omega) (by omega)⟩))); replace hZ := Lib.hid hZ2; clear hF2 hZ2)
            go_roundw
            case rel => exact ⟨i + 1, by omega, by go_num, hZ.out, by omega, hC.out, hW.out⟩
            case measure => simp [intOf]; omega
          · have hf8 : (4 + 1 == kF c12 3) = true := by rw [hkf.out]; rfl
            have h71 : 4 + 1 = kF c12 3 := by rw [hkf.out]
            replace hf8 := Lib.hid hf8
            replace h71 := Lib.hid h71
            go_upto_region 14 with (go_at_call 59; refine (frXC hr.out h13.out (by omega) ⟨by decide, by decide⟩ (List.not_mem_nil) (by decide) nf hls lti hZ.out).mono ?_; rintro e w6 ⟨rfl, hZ2, hF2⟩; rw [hf8.out]; replace hC := Lib.hid (hC.out.fr hF2 (not_frv (by omega) (by omega) (by omega) (by omega))); have zs := hF2.size; replace hW := Lib.hid (hW.out.trans (hF2.below (fun k hk => ⟨by have := hW.out.size; omega, not_frv (by omega) (by omega) (by omega) (by omega)⟩))); replace hZ := Lib.hid hZ2; clear hF2 hZ2)
            have hZ2 := hZ.out
            rw [h71.out] at hZ2
            obtain ⟨M2, bk, gn, hM2, hf2, c0, c1, hcase⟩ := frX_end hZ2
            have h65 : M2.f 8 = 65536 ∧ bk = true ∧ gn = false := by
              rcases hcase with ⟨e, _⟩ | ⟨_, h8, ⟨e, _⟩ | ⟨_, e1, e2, _⟩⟩
              · rw [hfv.out] at e; cases e
              · rw [hfv.out] at e; rw [show uK (65536, true).1 = 0 from huk.out] at e; exact absurd e (by decide)
              · rw [hpl.out, hfv.out] at h8; exact ⟨h8, e1, e2⟩
            obtain ⟨h65, rfl, rfl⟩ := h65
            have hsn := hf2.n
            clear hZ hZ2 hcase hf8 h71 lti i20 hf2
            have hX : (w6.cell? ⟨f, 0, none⟩ = some (.bool true) ∧ w6.cell? ⟨f, 1, none⟩ = some (.bool false) ∧ w6.cell? ⟨CF, 0, none⟩ = some (.int .i64 c12.S) ∧ w6.cell? ⟨CF, 1, none⟩ = some (.int .i64 c12.A) ∧ w6.cell? ⟨CF, 2, none⟩ = some (.int .i64 c12.C) ∧ w6.cell? ⟨CF, 3, none⟩ = some (.int .i64 c12.H) ∧ w6.cell? ⟨CF, 4, none⟩ = some (.int .i64 c12.G) ∧ w6.cell? ⟨CF, 5, none⟩ = some (.int .i64 c12.K)) := ⟨c0, c1, cfgs hC.out⟩
            have hX' : (w6.drew.cell? ⟨f, 0, none⟩ = some (.bool true) ∧ w6.drew.cell? ⟨f, 1, none⟩ = some (.bool false) ∧ w6.drew.cell? ⟨CF, 0, none⟩ = some (.int .i64 c12.S) ∧ w6.drew.cell? ⟨CF, 1, none⟩ = some (.int .i64 c12.A) ∧ w6.drew.cell? ⟨CF, 2, none⟩ = some (.int .i64 c12.C) ∧ w6.drew.cell? ⟨CF, 3, none⟩ = some (.int .i64 c12.H) ∧ w6.drew.cell? ⟨CF, 4, none⟩ = some (.int .i64 c12.G) ∧ w6.drew.cell? ⟨CF, 5, none⟩ = some (.int .i64 c12.K)) := hX
            clear hX c0 c1
            replace hM2 := Lib.hid hM2.drew
            replace hC := Lib.hid hC.out.drew
            replace hW := Lib.hid hW.out.drew
            replace h65 := Lib.hid h65
            replace hsn := Lib.hid hsn
            have hfl : f < w6.heap.size := by omega
            have hbf := Lib.hid (Below.refl w6.heap.size w6).drew
            have hFf : ∀ w', Below w6.heap.size w6 w' → w'.cell? ⟨f, 0, none⟩ = some (.bool true) ∧ w'.cell? ⟨f, 1, none⟩ = some (.bool false) := fun w' hb => ⟨(hb.cell (p := ⟨f, 0, none⟩) hfl).trans hX'.1, (hb.cell (p := ⟨f, 1, none⟩) hfl).trans hX'.2.1⟩
            replace hFf := Lib.hid hFf
            refine wp_region_held_drew (S := fun w' => w'.cell? ⟨f, 0, none⟩ = some (.bool true) ∧ w'.cell? ⟨f, 1, none⟩ = some (.bool false) ∧ w'.cell? ⟨CF, 0, none⟩ = some (.int .i64 c12.S) ∧ w'.cell? ⟨CF, 1, none⟩ = some (.int .i64 c12.A) ∧ w'.cell? ⟨CF, 2, none⟩ = some (.int .i64 c12.C) ∧ w'.cell? ⟨CF, 3, none⟩ = some (.int .i64 c12.H) ∧ w'.cell? ⟨CF, 4, none⟩ = some (.int .i64 c12.G) ∧ w'.cell? ⟨CF, 5, none⟩ = some (.int .i64 c12.K)) (by kernel_rfl) hX' (fun hHeld => ?_)
            refine wpAnyH_take (i := 0) (oi := ⟨some 58, .move (.tmp 4), 86, "law.go:30", #[], none⟩) (v := ?_) rfl (by kernel_rfl) (by kernel_rfl) (by kernel_rfl) (fun _ _ _ h => h) (Or.inl ⟨by rfl, ?_⟩) (by assumption) ?_
            rotate_left 1
            focus (intro w hSw; first | (go_simp; first | done | with_reducible rfl) | ((try dsimp only at hSw); go_split_ands; go_simp; first | done | with_reducible rfl))
            try simp only [Act.put, pA, pB, pC]
            refine wpAnyH_take (i := 1) (oi := ⟨some 59, .nilCheck (.tmp 58), 0, "law.go:30", #[⟨0, .data⟩], none⟩) (v := ?_) rfl (by kernel_rfl) (by kernel_rfl) (by kernel_rfl) (fun _ _ _ h => h) (Or.inl ⟨by rfl, ?_⟩) (by assumption) ?_
            rotate_left 1
            focus (intro w hSw; first | (go_simp; first | done | with_reducible rfl) | ((try dsimp only at hSw); go_split_ands; go_simp; first | done | with_reducible rfl))
            try simp only [Act.put, pA, pB, pC]
            refine wpAnyH_take (i := 2) (oi := ⟨some 60, .fieldAddr 95 (.tmp 59) 0, 0, "law.go:30", #[⟨1, .data⟩], none⟩) (v := ?_) rfl (by kernel_rfl) (by kernel_rfl) (by kernel_rfl) (fun _ _ _ h => h) (Or.inl ⟨by rfl, ?_⟩) (by assumption) ?_
            rotate_left 1
            focus (intro w hSw; first | (go_simp; first | done | with_reducible rfl) | ((try dsimp only at hSw); go_split_ands; go_simp; first | done | with_reducible rfl))
            try simp only [Act.put, pA, pB, pC]
            refine wpAnyH_take (i := 3) (oi := ⟨some 61, .load 4 (.tmp 60), 4, "law.go:30", #[⟨2, .data⟩], none⟩) (v := ?_) rfl (by kernel_rfl) (by kernel_rfl) (by kernel_rfl) (fun _ _ _ h => h) (Or.inl ⟨by rfl, ?_⟩) (by assumption) ?_
            rotate_left 1
            focus (intro w hSw; first | (go_simp; first | done | with_reducible rfl) | ((try dsimp only at hSw); go_split_ands; go_simp; first | done | with_reducible rfl))
            try simp only [Act.put, pA, pB, pC]
            refine wpAnyH_take (i := 4) (oi := ⟨some 62, .move (.tmp 61), 4, "law.go:30", #[⟨3, .data⟩], none⟩) (v := ?_) rfl (by kernel_rfl) (by kernel_rfl) (by kernel_rfl) (fun _ _ _ h => h) (Or.inl ⟨by rfl, ?_⟩) (by assumption) ?_
            rotate_left 1
            focus (intro w hSw; first | (go_simp; first | done | with_reducible rfl) | ((try dsimp only at hSw); go_split_ands; go_simp; first | done | with_reducible rfl))
            try simp only [Act.put, pA, pB, pC]
            refine wpAnyH_take (i := 5) (oi := ⟨some 63, .move (.tmp 4), 86, "law.go:30", #[⟨4, .guard⟩], some (4, true)⟩) (v := ?_) rfl (by kernel_rfl) (by kernel_rfl) (by kernel_rfl) (fun _ _ _ h => h) (Or.inl ⟨by rfl, ?_⟩) (by assumption) ?_
            rotate_left 1
            focus (intro w hSw; first | (go_simp; first | done | with_reducible rfl) | ((try dsimp only at hSw); go_split_ands; go_simp; first | done | with_reducible rfl))
            try simp only [Act.put, pA, pB, pC]
            refine wpAnyH_take (i := 6) (oi := ⟨some 64, .nilCheck (.tmp 63), 0, "law.go:30", #[⟨5, .data⟩, ⟨4, .guard⟩], some (4, true)⟩) (v := ?_) rfl (by kernel_rfl) (by kernel_rfl) (by kernel_rfl) (fun _ _ _ h => h) (Or.inl ⟨by rfl, ?_⟩) (by assumption) ?_
            rotate_left 1
            focus (intro w hSw; first | (go_simp; first | done | with_reducible rfl) | ((try dsimp only at hSw); go_split_ands; go_simp; first | done | with_reducible rfl))
            try simp only [Act.put, pA, pB, pC]
            refine wpAnyH_take (i := 7) (oi := ⟨some 65, .fieldAddr 95 (.tmp 64) 1, 0, "law.go:30", #[⟨6, .data⟩, ⟨4, .guard⟩], some (4, true)⟩) (v := ?_) rfl (by kernel_rfl) (by kernel_rfl) (by kernel_rfl) (fun _ _ _ h => h) (Or.inl ⟨by rfl, ?_⟩) (by assumption) ?_
            rotate_left 1
            focus (intro w hSw; first | (go_simp; first | done | with_reducible rfl) | ((try dsimp only at hSw); go_split_ands; go_simp; first | done | with_reducible rfl))
            try simp only [Act.put, pA, pB, pC]
            refine wpAnyH_take (i := 8) (oi := ⟨some 66, .load 4 (.tmp 65), 4, "law.go:30", #[⟨7, .data⟩, ⟨4, .guard⟩], some (4, true)⟩) (v := ?_) rfl (by kernel_rfl) (by kernel_rfl) (by kernel_rfl) (fun _ _ _ h => h) (Or.inl ⟨by rfl, ?_⟩) (by assumption) ?_
            rotate_left 1
            focus (intro w hSw; first | (go_simp; first | done | with_reducible rfl) | ((try dsimp only at hSw); go_split_ands; go_simp; first | done | with_reducible rfl))
            try simp only [Act.put, pA, pB, pC]
            refine wpAnyH_take (i := 9) (oi := ⟨some 67, .unOp .not 4 (.tmp 66), 4, "law.go:30", #[⟨8, .data⟩, ⟨4, .guard⟩], some (4, true)⟩) (v := ?_) rfl (by kernel_rfl) (by kernel_rfl) (by kernel_rfl) (fun _ _ _ h => h) (Or.inl ⟨by rfl, ?_⟩) (by assumption) ?_
            rotate_left 1
            focus (intro w hSw; first | (go_simp; first | done | with_reducible rfl) | ((try dsimp only at hSw); go_split_ands; go_simp; first | done | with_reducible rfl))
            try simp only [Act.put, pA, pB, pC]
            refine wpAnyH_take (i := 10) (oi := ⟨some 68, .pick (.tmp 62) (.tmp 67) (.const (.bool false)), 4, "law.go:30", #[⟨4, .data⟩, ⟨9, .data⟩], none⟩) (v := ?_) rfl (by kernel_rfl) (by kernel_rfl) (by kernel_rfl) (fun _ _ _ h => h) (Or.inl ⟨by rfl, ?_⟩) (by assumption) ?_
            rotate_left 1
            focus (intro w hSw; first | (go_simp; first | done | with_reducible rfl) | ((try dsimp only at hSw); go_split_ands; go_simp; first | done | with_reducible rfl))
            try simp only [Act.put, pA, pB, pC]
            refine wpAnyH_take (i := 11) (oi := ⟨some 69, .move (.tmp 68), 4, "law.go:30", #[⟨10, .data⟩, ⟨4, .chain⟩], none⟩) (v := ?_) rfl (by kernel_rfl) (by kernel_rfl) (by kernel_rfl) (fun _ _ _ h => h) (Or.inl ⟨by rfl, ?_⟩) (by assumption) ?_
            rotate_left 1
            focus (intro w hSw; first | (go_simp; first | done | with_reducible rfl) | ((try dsimp only at hSw); go_split_ands; go_simp; first | done | with_reducible rfl))
            try simp only [Act.put, pA, pB, pC]
            refine wpAnyH_take (i := 12) (oi := ⟨some 70, .move (.tmp 2), 24, "law.go:30", #[⟨11, .guard⟩], some (11, true)⟩) (v := ?_) rfl (by kernel_rfl) (by kernel_rfl) (by kernel_rfl) (fun _ _ _ h => h) (Or.inl ⟨by rfl, ?_⟩) (by assumption) ?_
            rotate_left 1
            focus (intro w hSw; first | (go_simp; first | done | with_reducible rfl) | ((try dsimp only at hSw); go_split_ands; go_simp; first | done | with_reducible rfl))
            try simp only [Act.put, pA, pB, pC]
            refine wpAnyH_take (i := 14) (oi := ⟨some 72, .load 23 (.tmp 1), 23, "law.go:30", #[⟨11, .guard⟩], some (11, true)⟩) (v := ?_) rfl (by kernel_rfl) (by kernel_rfl) (by kernel_rfl) (fun _ _ _ h => h) (Or.inl ⟨by rfl, ?_⟩) (by assumption) ?_
            rotate_left 1
            focus (intro w hSw; first | (go_simp; first | done | with_reducible rfl) | ((try dsimp only at hSw); go_split_ands; go_simp; first | done | with_reducible rfl))
            try simp only [Act.put, pA, pB, pC]
            refine wpAnyH_take (i := 18) (oi := ⟨some 76, .build 85 #[(4, .const (.int .i64 1))], 85, "law.go:30", #[⟨11, .guard⟩], some (11, true)⟩) (v := ?_) rfl (by kernel_rfl) (by kernel_rfl) (by kernel_rfl) (fun _ _ _ h => h) (Or.inl ⟨by rfl, ?_⟩) (by assumption) ?_
            rotate_left 1
            focus (intro w hSw; first | (go_simp; first | done | with_reducible rfl) | ((try dsimp only at hSw); go_split_ands; go_simp; first | done | with_reducible rfl))
            try simp only [Act.put, pA, pB, pC]
            refine wpAnyH_ready (rs := [13]) (by kernel_rfl) (by simp) ?_
            refine AllReadyH.cons (o := ⟨some 71, .call { callee := .value (.func 24), args := #[.tmp 70], argTypes := #[24] }, 29, "law.go:30", #[⟨12, .data⟩, ⟨11, .chain⟩, ⟨11, .guard⟩], some (11, true)⟩) rfl (fun K hK => ?_) ?_
            · go_simp
              (go_at_call 24; refine (words_n _ m b 13 _ hM2.out hsn.out (by decide)).mono ?_; rintro e wa ⟨A1, ca, b1, rfl, _, hR1, hb9⟩; obtain ⟨hA1, hc1, _⟩ := hR1.cell (i := 8) (by decide); rw [h65.out] at hc1; subst hA1; replace hbf := Lib.hid (hbf.out.trans (hb9.mono hbf.out.size)); replace hC := Lib.hid (hC.out.below hb9 hC.out.lt); have hY1 := And.intro (hFf.out _ hbf.out).1 (And.intro (hFf.out _ hbf.out).2 (cfgs hC.out)); replace hW := Lib.hid (hW.out.trans (hb9.mono (by have := hW.out.size; have := hbf.out.size; omega))); replace hR1 := Lib.hid hR1; replace hM2 := Lib.hid (hM2.out.next hb9); clear hb9)
              refine hK.out _ _ (by assumption) (fun hHeld => ?_)
              clear hK K
              try simp only [Act.put, pA, pB, pC]
              refine wpAnyH_ready (rs := [15]) (by kernel_rfl) (by simp) ?_
              refine AllReadyH.cons (o := ⟨some 73, .call { callee := .value (.func 72), args := #[.tmp 72, .const (.int .i64 0)], argTypes := #[23, 3] }, 3, "law.go:30", #[⟨14, .data⟩, ⟨13, .chain⟩, ⟨11, .guard⟩], some (11, true)⟩) rfl (fun K hK => ?_) ?_
              · go_simp
                (go_at_call 72; refine (headerC c12 _ 0).mono ?_; rintro e wb ⟨rfl, hb9⟩; rw [hh.out]; replace hM2 := Lib.hid (hM2.out.next hb9); replace hbf := Lib.hid (hbf.out.trans (hb9.mono hbf.out.size)); replace hC := Lib.hid (hC.out.below hb9 hC.out.lt); have hY2 := And.intro (hFf.out _ hbf.out).1 (And.intro (hFf.out _ hbf.out).2 (cfgs hC.out)); replace hW := Lib.hid (hW.out.trans (hb9.mono (by have := hW.out.size; have := hbf.out.size; omega))); (try (replace hR1 := Lib.hid (hR1.out.below hb9 (Nat.le_refl _)); have hc2 := (hR1.out.cell (i := 8) (by decide)).2.1; rw [h65.out] at hc2)); clear hb9)
                refine hK.out _ _ (by assumption) (fun hHeld => ?_)
                clear hK K
                try simp only [Act.put, pA, pB, pC]
                refine wpAnyH_take (i := 16) (oi := ⟨some 74, .indexAddr 29 (.tmp 71) (.tmp 73), 0, "law.go:30", #[⟨13, .data⟩, ⟨15, .data⟩, ⟨11, .guard⟩], some (11, true)⟩) (v := ?_) rfl (by kernel_rfl) (by kernel_rfl) (by kernel_rfl) (fun _ _ _ h => h) (Or.inl ⟨by rfl, ?_⟩) (by assumption) ?_
                rotate_left 1
                focus (intro w hSw; first | (go_simp; first | done | with_reducible rfl) | ((try dsimp only at hSw); go_split_ands; go_simp; first | done | with_reducible rfl))
                try simp only [Act.put, pA, pB, pC]
                refine wpAnyH_ready (rs := [17, 19]) (by kernel_rfl) (by simp) ?_
                refine AllReadyH.cons (o := ⟨some 75, .load 33 (.tmp 74), 33, "law.go:30", #[⟨16, .data⟩, ⟨11, .guard⟩], some (11, true)⟩) rfl (fun K hK => ?_) ?_
                · go_simp
                  refine hK.out _ _ (by assumption) (fun hHeld => ?_)
                  clear hK K
                  try simp only [Act.put, pA, pB, pC]
                  refine wpAnyH_ready (rs := [19]) (by kernel_rfl) (by simp) ?_
                  refine AllReadyH.cons (o := ⟨some 77, .call { callee := .value (.func 58), args := #[.tmp 76], argTypes := #[85] }, 33, "law.go:30", #[⟨18, .data⟩, ⟨15, .chain⟩, ⟨11, .guard⟩], some (11, true)⟩) rfl (fun K hK => ?_) ?_
                  · go_simp
                    (go_at_call 58; refine (rPack_c 0 0 false 0 1 0 (by decide) _).mono ?_; rintro e wd ⟨rfl, hb9⟩; rw [hn2.out]; replace hM2 := Lib.hid (hM2.out.next hb9); replace hbf := Lib.hid (hbf.out.trans (hb9.mono hbf.out.size)); replace hC := Lib.hid (hC.out.below hb9 hC.out.lt); have hY3 := And.intro (hFf.out _ hbf.out).1 (And.intro (hFf.out _ hbf.out).2 (cfgs hC.out)); replace hW := Lib.hid (hW.out.trans (hb9.mono (by have := hW.out.size; have := hbf.out.size; omega))); (try (replace hR1 := Lib.hid (hR1.out.below hb9 (Nat.le_refl _)); have hc3 := (hR1.out.cell (i := 8) (by decide)).2.1; rw [h65.out] at hc3)); clear hb9)
                    refine hK.out _ _ (by assumption) (fun hHeld => ?_)
                    clear hK K
                    try simp only [Act.put, pA, pB, pC]
                    refine wpAnyH_take (i := 20) (oi := ⟨some 78, .binOp .eql 33 (.tmp 75) (.tmp 77) 33, 4, "law.go:30", #[⟨17, .data⟩, ⟨19, .data⟩, ⟨11, .guard⟩], some (11, true)⟩) (v := ?_) rfl (by kernel_rfl) (by kernel_rfl) (by kernel_rfl) (fun _ _ _ h => h) (Or.inl ⟨by rfl, ?_⟩) (by assumption) ?_
                    rotate_left 1
                    focus (intro w hSw; first | (go_simp; first | done | with_reducible rfl) | ((try dsimp only at hSw); go_split_ands; go_simp; first | done | with_reducible rfl))
                    try simp only [Act.put, pA, pB, pC]
                    refine wpAnyH_take (i := 21) (oi := ⟨some 79, .pick (.tmp 69) (.tmp 78) (.const (.bool false)), 4, "law.go:30", #[⟨11, .data⟩, ⟨20, .data⟩], none⟩) (v := ?_) rfl (by kernel_rfl) (by kernel_rfl) (by kernel_rfl) (fun _ _ _ h => h) (Or.inl ⟨by rfl, ?_⟩) (by assumption) ?_
                    rotate_left 1
                    focus (intro w hSw; first | (go_simp; first | done | with_reducible rfl) | ((try dsimp only at hSw); go_split_ands; go_simp; first | done | with_reducible rfl))
                    try simp only [Act.put, pA, pB, pC]
                    refine wpAnyH_take (i := 22) (oi := ⟨some 0, .assign (.tmp 79), 4, "law.go:30", #[⟨21, .data⟩, ⟨19, .chain⟩, ⟨0, .phase⟩, ⟨1, .phase⟩, ⟨2, .phase⟩, ⟨3, .phase⟩, ⟨4, .phase⟩, ⟨5, .phase⟩, ⟨6, .phase⟩, ⟨7, .phase⟩, ⟨8, .phase⟩, ⟨9, .phase⟩, ⟨10, .phase⟩, ⟨11, .phase⟩, ⟨12, .phase⟩, ⟨13, .phase⟩, ⟨14, .phase⟩, ⟨15, .phase⟩, ⟨16, .phase⟩, ⟨17, .phase⟩, ⟨18, .phase⟩, ⟨19, .phase⟩, ⟨20, .phase⟩, ⟨21, .phase⟩], none⟩) (v := ?_) rfl (by kernel_rfl) (by kernel_rfl) (by kernel_rfl) (fun _ _ _ h => h) (Or.inl ⟨by rfl, ?_⟩) (by assumption) ?_
                    rotate_left 1
                    focus (intro w hSw; first | (go_simp; first | done | with_reducible rfl) | ((try dsimp only at hSw); go_split_ands; go_simp; first | done | with_reducible rfl))
                    try simp only [Act.put, pA, pB, pC]
                    refine wpAnyH_done (by kernel_rfl) ?_ _
                    clear hX'
                    go_wp2
                    go_ret
                    exact ⟨rfl, hCFe ▸ hW.out⟩
                  exact AllReadyH.nil
                refine AllReadyH.cons (o := ⟨some 77, .call { callee := .value (.func 58), args := #[.tmp 76], argTypes := #[85] }, 33, "law.go:30", #[⟨18, .data⟩, ⟨15, .chain⟩, ⟨11, .guard⟩], some (11, true)⟩) rfl (fun K hK => ?_) ?_
                · go_simp
                  (go_at_call 58; refine (rPack_c 0 0 false 0 1 0 (by decide) _).mono ?_; rintro e wd ⟨rfl, hb9⟩; rw [hn2.out]; replace hM2 := Lib.hid (hM2.out.next hb9); replace hbf := Lib.hid (hbf.out.trans (hb9.mono hbf.out.size)); replace hC := Lib.hid (hC.out.below hb9 hC.out.lt); have hY3 := And.intro (hFf.out _ hbf.out).1 (And.intro (hFf.out _ hbf.out).2 (cfgs hC.out)); replace hW := Lib.hid (hW.out.trans (hb9.mono (by have := hW.out.size; have := hbf.out.size; omega))); (try (replace hR1 := Lib.hid (hR1.out.below hb9 (Nat.le_refl _)); have hc3 := (hR1.out.cell (i := 8) (by decide)).2.1; rw [h65.out] at hc3)); clear hb9)
                  refine hK.out _ _ (by assumption) (fun hHeld => ?_)
                  clear hK K
                  try simp only [Act.put, pA, pB, pC]
                  refine wpAnyH_ready (rs := [17]) (by kernel_rfl) (by simp) ?_
                  refine AllReadyH.cons (o := ⟨some 75, .load 33 (.tmp 74), 33, "law.go:30", #[⟨16, .data⟩, ⟨11, .guard⟩], some (11, true)⟩) rfl (fun K hK => ?_) ?_
                  · go_simp
                    refine hK.out _ _ (by assumption) (fun hHeld => ?_)
                    clear hK K
                    try simp only [Act.put, pA, pB, pC]
                    refine wpAnyH_take (i := 20) (oi := ⟨some 78, .binOp .eql 33 (.tmp 75) (.tmp 77) 33, 4, "law.go:30", #[⟨17, .data⟩, ⟨19, .data⟩, ⟨11, .guard⟩], some (11, true)⟩) (v := ?_) rfl (by kernel_rfl) (by kernel_rfl) (by kernel_rfl) (fun _ _ _ h => h) (Or.inl ⟨by rfl, ?_⟩) (by assumption) ?_
                    rotate_left 1
                    focus (intro w hSw; first | (go_simp; first | done | with_reducible rfl) | ((try dsimp only at hSw); go_split_ands; go_simp; first | done | with_reducible rfl))
                    try simp only [Act.put, pA, pB, pC]
                    refine wpAnyH_take (i := 21) (oi := ⟨some 79, .pick (.tmp 69) (.tmp 78) (.const (.bool false)), 4, "law.go:30", #[⟨11, .data⟩, ⟨20, .data⟩], none⟩) (v := ?_) rfl (by kernel_rfl) (by kernel_rfl) (by kernel_rfl) (fun _ _ _ h => h) (Or.inl ⟨by rfl, ?_⟩) (by assumption) ?_
                    rotate_left 1
                    focus (intro w hSw; first | (go_simp; first | done | with_reducible rfl) | ((try dsimp only at hSw); go_split_ands; go_simp; first | done | with_reducible rfl))
                    try simp only [Act.put, pA, pB, pC]
                    refine wpAnyH_take (i := 22) (oi := ⟨some 0, .assign (.tmp 79), 4, "law.go:30", #[⟨21, .data⟩, ⟨19, .chain⟩, ⟨0, .phase⟩, ⟨1, .phase⟩, ⟨2, .phase⟩, ⟨3, .phase⟩, ⟨4, .phase⟩, ⟨5, .phase⟩, ⟨6, .phase⟩, ⟨7, .phase⟩, ⟨8, .phase⟩, ⟨9, .phase⟩, ⟨10, .phase⟩, ⟨11, .phase⟩, ⟨12, .phase⟩, ⟨13, .phase⟩, ⟨14, .phase⟩, ⟨15, .phase⟩, ⟨16, .phase⟩, ⟨17, .phase⟩, ⟨18, .phase⟩, ⟨19, .phase⟩, ⟨20, .phase⟩, ⟨21, .phase⟩], none⟩) (v := ?_) rfl (by kernel_rfl) (by kernel_rfl) (by kernel_rfl) (fun _ _ _ h => h) (Or.inl ⟨by rfl, ?_⟩) (by assumption) ?_
                    rotate_left 1
                    focus (intro w hSw; first | (go_simp; first | done | with_reducible rfl) | ((try dsimp only at hSw); go_split_ands; go_simp; first | done | with_reducible rfl))
                    try simp only [Act.put, pA, pB, pC]
                    refine wpAnyH_done (by kernel_rfl) ?_ _
                    clear hX'
                    go_wp2
                    go_ret
                    exact ⟨rfl, hCFe ▸ hW.out⟩
                  exact AllReadyH.nil
                exact AllReadyH.nil
              exact AllReadyH.nil
            exact AllReadyH.nil
end Go.Proofs.Ytijfkpoofpcacaa.ArenaT
end
section
namespace Go.Proofs.Ytijfkpoofpcacaa.ArenaU
open Go.RowKit Go.Proofs.YtijfkpoofpcacaaW.PrintWords Go.Proofs.Ytijfkpoofpcacaa.PArenaPlays Go.Proofs.Ytijfkpoofpcacaa.PuArenaPlays Go.Proofs.Ytijfkpoofpcacaa.Blk Go.Proofs.Ytijfkpoofpcacaa.Core Go.Proofs.Ytijfkpoofpcacaa.MemC Go.Proofs.Ytijfkpoofpcacaa.MemD Go.Proofs.Ytijfkpoofpcacaa.MemT Go.Proofs.Ytijfkpoofpcacaa.Memory Go.Proofs.Ytijfkpoofpcacaa.PlanC Go.Proofs.Ytijfkpoofpcacaa.PlanD Go.Proofs.Ytijfkpoofpcacaa.StackC Go.Proofs.Ytijfkpoofpcacaa.StackL Go.Proofs.Ytijfkpoofpcacaa.StackS Go.Proofs.Ytijfkpoofpcacaa.StackF Go.Proofs.Ytijfkpoofpcacaa.StackP Go.Proofs.Ytijfkpoofpcacaa.StackG Go.Proofs.Ytijfkpoofpcacaa.HeadC Go.Proofs.Ytijfkpoofpcacaa.ArenaC Go.Proofs.Ytijfkpoofpcacaa.ArenaM Go.Proofs.Ytijfkpoofpcacaa.ArenaN Go.Proofs.Ytijfkpoofpcacaa.ArenaP Go.Proofs.Ytijfkpoofpcacaa.ArenaL Go.Proofs.Ytijfkpoofpcacaa.ArenaR Go.Proofs.Ytijfkpoofpcacaa.ArenaQ Go.Proofs.Ytijfkpoofpcacaa.ArenaS Go.Proofs.Ytijfkpoofpcacaa.ArenaT Go.Proofs.Ytijfkpoofpcacaa.Opens
theorem rRoomC (c : Cf) (w : World) (hr : c.right = true) : Calls Try.prog 50 #[.agg #[.int .i64 c.S, .int .i64 c.A, .int .i64 c.C, .int .i64 c.H, .int .i64 c.G, .int .i64 c.K]] w fun e w' => e = .returned (.int .i64 (roomI c)) ∧ Below w.heap.size w w' := by
  have h := room_i hr
  have e : (roomI c : Int) = if c.A < 3 then 3 else c.A := by rw [h.2.2]; unfold roomV; split <;> omega
  rw [e]
  exact withyref06_Room.calls c.S c.A c.C c.H c.G c.K _ w (p_rRoom _ _ _ _ _ _)
end Go.Proofs.Ytijfkpoofpcacaa.ArenaU
end
namespace Go.Proofs.Ytijfkpoofpcacaa.RefM
end Go.Proofs.Ytijfkpoofpcacaa.RefM
section
namespace Go.Proofs.Ytijfkpoofpcacaa.ArenaW
open Go.RowKit Go.Proofs.YtijfkpoofpcacaaW.PrintWords Go.Proofs.Ytijfkpoofpcacaa.PArenaPlays Go.Proofs.Ytijfkpoofpcacaa.PuArenaPlays Go.Proofs.Ytijfkpoofpcacaa.Blk Go.Proofs.Ytijfkpoofpcacaa.Core Go.Proofs.Ytijfkpoofpcacaa.MemC Go.Proofs.Ytijfkpoofpcacaa.MemD Go.Proofs.Ytijfkpoofpcacaa.MemT Go.Proofs.Ytijfkpoofpcacaa.Memory Go.Proofs.Ytijfkpoofpcacaa.PlanC Go.Proofs.Ytijfkpoofpcacaa.PlanD Go.Proofs.Ytijfkpoofpcacaa.RefM Go.Proofs.Ytijfkpoofpcacaa.StackC Go.Proofs.Ytijfkpoofpcacaa.StackL Go.Proofs.Ytijfkpoofpcacaa.StackS Go.Proofs.Ytijfkpoofpcacaa.StackF Go.Proofs.Ytijfkpoofpcacaa.StackP Go.Proofs.Ytijfkpoofpcacaa.StackG Go.Proofs.Ytijfkpoofpcacaa.HeadC Go.Proofs.Ytijfkpoofpcacaa.ArenaC Go.Proofs.Ytijfkpoofpcacaa.ArenaM Go.Proofs.Ytijfkpoofpcacaa.ArenaN Go.Proofs.Ytijfkpoofpcacaa.ArenaP Go.Proofs.Ytijfkpoofpcacaa.ArenaL Go.Proofs.Ytijfkpoofpcacaa.ArenaR Go.Proofs.Ytijfkpoofpcacaa.ArenaQ Go.Proofs.Ytijfkpoofpcacaa.ArenaS Go.Proofs.Ytijfkpoofpcacaa.ArenaT Go.Proofs.Ytijfkpoofpcacaa.ArenaU Go.Proofs.Ytijfkpoofpcacaa.Opens
theorem refHeaderC (c : Cf) (w : World) (s : Int) : Calls Try.prog 56 #[.agg #[.int .i64 c.S, .int .i64 c.A, .int .i64 c.C, .int .i64 c.H, .int .i64 c.G, .int .i64 c.K], .agg #[.string ⟨#[104, 101, 97, 100, 101, 114]⟩, .int .i64 s, .int .i64 0]] w fun e w' => e = .returned (.int .i64 (c.header s)) ∧ Below w.heap.size w w' := by
  obtain ⟨S, X, C, H, G, K⟩ := c
  by_cases h : rightB S X C H G K = true
  · have hr := right_iff.1 h
    obtain ⟨s', rfl⟩ := Int.eq_ofNat_of_zero_le (show 0 ≤ S by omega)
    obtain ⟨c, rfl⟩ := Int.eq_ofNat_of_zero_le (show 0 ≤ C by omega)
    obtain ⟨hh, rfl⟩ := Int.eq_ofNat_of_zero_le (show 0 ≤ H by omega)
    refine withyref06_At.calls 2000 s' X c hh G K ⟨#[104, 101, 97, 100, 101, 114]⟩ s 0 _ w ?_
    have hR : (2 : Int) + (roomN X : Nat) = roomV X := by unfold roomN roomV; split <;> omega
    rw [p_rAt 2000 s' c hh X G K ⟨#[104, 101, 97, 100, 101, 114]⟩ s 0 (by decide) h (0 ≤ s ∧ s < s') mem_header]
    unfold Cf.header Cf.right
    congr 1
    by_cases d : 0 ≤ s ∧ s < s'
    · rw [if_pos d, if_pos ⟨h, d.1, d.2⟩]
      simp [posW, slotsV, hR]
    · rw [if_neg d, if_neg (fun x => d x.2)]
  · refine withyref06_At.calls 2000 S X C H G K ⟨#[104, 101, 97, 100, 101, 114]⟩ s 0 _ w ?_
    rw [p_rAt_no 2000 S C H X G K _ _ _ h]
    unfold Cf.header Cf.right
    rw [if_neg (fun x => h x.1)]
end Go.Proofs.Ytijfkpoofpcacaa.ArenaW
end
section
namespace Go.Proofs.Ytijfkpoofpcacaa.ArenaY
open Go.RowKit Go.Proofs.YtijfkpoofpcacaaW.PrintWords Go.Proofs.Ytijfkpoofpcacaa.Blk Go.Proofs.Ytijfkpoofpcacaa.Core Go.Proofs.Ytijfkpoofpcacaa.MemC Go.Proofs.Ytijfkpoofpcacaa.MemD Go.Proofs.Ytijfkpoofpcacaa.MemT Go.Proofs.Ytijfkpoofpcacaa.Memory Go.Proofs.Ytijfkpoofpcacaa.PlanC Go.Proofs.Ytijfkpoofpcacaa.PlanD Go.Proofs.Ytijfkpoofpcacaa.StackC Go.Proofs.Ytijfkpoofpcacaa.StackL Go.Proofs.Ytijfkpoofpcacaa.StackS Go.Proofs.Ytijfkpoofpcacaa.StackT Go.Proofs.Ytijfkpoofpcacaa.StackF Go.Proofs.Ytijfkpoofpcacaa.StackP Go.Proofs.Ytijfkpoofpcacaa.HeadC Go.Proofs.Ytijfkpoofpcacaa.ArenaL Go.Proofs.Ytijfkpoofpcacaa.ArenaR Go.Proofs.Ytijfkpoofpcacaa.ArenaS Go.Proofs.Ytijfkpoofpcacaa.Opens
def hdRight (k m a n s : Int) : Prop := 0 ≤ k ∧ k ≤ 4 ∧ 0 ≤ m ∧ m ≤ 1 ∧ 0 ≤ a ∧ a ≤ 15 ∧ 0 ≤ n ∧ n ≤ 4294967295 ∧ 0 ≤ s ∧ s ≤ 65535
theorem u_head {k m : Int} {g : Bool} {a n s : Int} (h : hdRight k m a n s) : okW (headN k m g a n s) = true ∧ uK (headN k m g a n s) = k ∧ uM (headN k m g a n s) = m ∧ uG (headN k m g a n s) = g ∧ uA (headN k m g a n s) = a ∧ uN (headN k m g a n s) = n ∧ uS (headN k m g a n s) = s := by
  unfold hdRight at h
  have ok : okW (headN k m g a n s) = true := by
    unfold okW headN
    rw [decide_eq_true_iff]
    cases g <;> simp <;> omega
  obtain ⟨e1, e2, e3, e4, e5, e6⟩ := u_yes ok
  refine ⟨ok, ?_, ?_, ?_, ?_, ?_, ?_⟩
  · rw [e1]; unfold headN; cases g <;> simp <;> omega
  · rw [e2]; unfold headN; cases g <;> simp <;> omega
  · rw [e3]; unfold headN; cases g
    · rw [beq_eq_false_iff_ne]; simp; omega
    · rw [beq_iff_eq]; simp; omega
  · rw [e4]; unfold headN; cases g <;> simp <;> omega
  · rw [e5]; unfold headN; cases g <;> simp <;> omega
  · rw [e6]; unfold headN; cases g <;> simp <;> omega
section
variable (k m : Int) (g : Bool) (a n s : Int) (w : World)
end
end Go.Proofs.Ytijfkpoofpcacaa.ArenaY
end
section
namespace Go.Proofs.Ytijfkpoofpcacaa.MakerM
open Go.RowKit Go.Proofs.Ytijfkpoofpcacaa.Blk Go.Proofs.Ytijfkpoofpcacaa.Core Go.Proofs.Ytijfkpoofpcacaa.MemC Go.Proofs.Ytijfkpoofpcacaa.MemT Go.Proofs.Ytijfkpoofpcacaa.Memory Go.Proofs.Ytijfkpoofpcacaa.PlanC Go.Proofs.Ytijfkpoofpcacaa.PlanD Go.Proofs.Ytijfkpoofpcacaa.StackC Go.Proofs.Ytijfkpoofpcacaa.StackL Go.Proofs.Ytijfkpoofpcacaa.StackS Go.Proofs.Ytijfkpoofpcacaa.StackF Go.Proofs.Ytijfkpoofpcacaa.StackP Go.Proofs.Ytijfkpoofpcacaa.StackQ Go.Proofs.Ytijfkpoofpcacaa.TakerL Go.Proofs.Ytijfkpoofpcacaa.HeadC Go.Proofs.Ytijfkpoofpcacaa.ArenaL Go.Proofs.Ytijfkpoofpcacaa.ArenaR Go.Proofs.Ytijfkpoofpcacaa.ArenaP Go.Proofs.Ytijfkpoofpcacaa.ArenaY Go.Proofs.Ytijfkpoofpcacaa.MakerL
def oset (own : Int → Nat) (x : Int) (v : Nat) : Int → Nat := fun y => if y = x then v else own y
def mset (μ : Int → Int) (x v : Int) : Int → Int := fun y => if y = x then v else μ y
theorem oset_eq (own : Int → Nat) (x : Int) (v : Nat) : oset own x v x = v := if_pos rfl
theorem oset_ne {own : Int → Nat} {x y : Int} {v : Nat} (h : y ≠ x) : oset own x v y = own y := if_neg h
theorem mset_eq (μ : Int → Int) (x v : Int) : mset μ x v x = v := if_pos rfl
theorem mset_ne {μ : Int → Int} {x y v : Int} (h : y ≠ x) : mset μ x v y = μ y := if_neg h
theorem sw_oth {M : Ms} {old now : Int} (hn : 4 ≤ M.n) {j : Nat} (hj : j ≠ 3) : (M.swS 3 old now).f j = M.f j := by
  by_cases e : M.f 3 = old
  · obtain ⟨_, s2, _⟩ := sw_yes (M := M) (a := 3) (old := old) (now := now) (by decide) (by omega) e
    rw [s2]; exact upd_ne hj
  · obtain ⟨_, s2, _⟩ := sw_no (M := M) (a := 3) (old := old) (now := now) e
    rw [s2]
theorem popM_oth {c : Cf} {q : Pop} {M : Ms} (hn : 4 ≤ M.n) {j : Nat} (hj : j ≠ 3) : (popM c q M).f j = M.f j := by
  unfold popM
  split
  · rw [(ld_f M _).1]
  · split
    · rw [(ld_f M _).1]
    · split
      · exact sw_oth hn hj
      · rfl
theorem pushM_oth {c : Cf} (hr : c.right = true) {q : Push} {M : Ms} (hn : M.n = c.size) (hx : InR c q.sl) {j : Nat} (hj : j ≠ 3) (hj2 : j ≠ (c.pl q.sl 1).toNat) : (pushM c q M).f j = M.f j := by
  have hsz := size_bd hr
  have hn4 : 4 ≤ M.n := by unfold Cf.size at hn; omega
  have hb := room_bd hr
  unfold pushM
  split
  · rw [(ld_f M _).1]
  · split
    · rw [link_pl hr hx, (st_pl hr hn hx ⟨by decide, by omega⟩).1]; exact upd_ne hj2
    · split
      · exact sw_oth hn4 hj
      · rfl
section
variable {c : Cf} (hr : c.right = true) {f f' : Nat → Int} {t t' : Int} {L L' : List Int} {x : Int}
include hr
theorem leaves_refl (h : Stk c f t L) (x : Int) : Lvs c f t L f t L x := ⟨h, .inl ⟨rfl, rfl, rfl⟩, rfl, fun _ _ _ _ _ _ => rfl⟩
theorem leaves_upd (h : Stk c f t L) (hx : InR c x) {o : Int} (ho : 0 ≤ o ∧ o < roomV c.A) (h1 : o ≠ 1) (v : Int) : Lvs c f t L (upd f (c.pl x o).toNat v) t L x := by
  have hp := pl_bd hr hx ho
  refine ⟨Stk.off hr h hx ho h1, .inl ⟨rfl, rfl, upd_ne (by omega)⟩, upd_ne (by omega), fun y hy hne o' h0 h2 => ?_⟩
  exact upd_ne (pl_ne hr hy hx ⟨h0, h2⟩ ho (.inl hne))
theorem pl_3 {y o : Int} (hy : InR c y) (ho : 0 ≤ o ∧ o < roomV c.A) : (c.pl y o).toNat ≠ 3 ∧ (c.pl y o).toNat ≠ 2 := by
  have hp := pl_bd hr hy ho
  omega
variable {K i : Nat} {T : Nat → Mr} {own : Int → Nat} {μ : Int → Int} {τ : Mr} {M : Ms}
theorem AI.same (h : AI c f t L K T own μ) (hi : i < K) (hl : Lvs c f t L f' t' L' x) (hL : L' = L) (hx : InR c x → own x = i + 1 ∧ (hw c f' x = hw c f x))
    (hm : τ.mine = (T i).mine) (hh : ∀ y ∈ τ.h, HasH c f' μ y)
    (hmk : ∀ z, τ.ma = some z → MkI c f' t' L' μ τ z.a ∧ τ.fe = none) (hfe : ∀ z, τ.fe = some z → FeI c f' t' L' μ τ z.a ∧ τ.ma = none) : AI c f' t' L' K (put T i τ) own μ := by
  subst hL
  refine h.move hr hi hl (fun y _ => ⟨rfl, rfl⟩) (fun k => .inl (hx k).1) (fun k => .inl (hx k).1) h.lst (h.mu x) (fun k e => ?_) (fun k e => ?_) (by rw [hm]; exact h.mine i hi) (by rw [hm]; exact h.nd i hi) hh hmk hfe
  · have := (hx k).1; omega
  · have := (hx k).1; omega
variable (hn : M.n = c.size) (hu : U M.f)
theorem AI.mkStep (hn : M.n = c.size) (hu : U M.f) (ht : t + 1 < 281474976710656) (h : AI c M.f t L K T own μ) (hi : i < K) {z : MkP} (hz : (T i).ma = some z) (hep : 0 ≤ (T i).ep ∧ (T i).ep < 256) :
    (mkD c (roomI c) z.a M = false ∧ ∃ t' L' own', t' ≤ t + 1 ∧ AI c (mkM c (T i).g z.a M).f t' L' K (put T i { T i with ma := some ⟨z.p, z.q, z.r, mkS c (roomI c) z.a M⟩ }) own' μ) ∨
    (mkD c (roomI c) z.a M = true ∧ (mkS c (roomI c) z.a M).fu = true ∧ (mkS c (roomI c) z.a M).sl = -1 ∧ AI c (mkM c (T i).g z.a M).f t L K (put T i { T i with ma := none }) own μ) ∨
    (mkD c (roomI c) z.a M = true ∧ (mkS c (roomI c) z.a M).fu = false ∧ ∃ x, (mkS c (roomI c) z.a M).sl = x ∧ InR c x ∧ 0 ≤ μ x ∧ μ x < c.G ∧
      hw c (mkM c (T i).g z.a M).f x = headN (T i).kd (bornI (T i).ep) false ((T i).an c) (μ x) 0 ∧ (∀ j, j < roomI c → bw c (mkM c (T i).g z.a M).f x j = (T i).g j) ∧
      ∀ v, AI c (mkM c (T i).g z.a M).f t L K (put T i { T i with ma := none, hv := v, h := (T i).h ++ [x] }) own (mset μ x (μ x + 1))) := by
  have hb := room_bd hr
  have hri := room_i hr
  have hsz := size_bd hr
  have hn4 : 4 ≤ M.n := by unfold Cf.size at hn; omega
  obtain ⟨⟨c1, c2, c3, c4, c5⟩, hI⟩ := (h.ma i hi z hz).1
  have hfe0 := (h.ma i hi z hz).2
  obtain ⟨zp, zq, zr, a⟩ := z
  obtain ⟨sl, fu, kd, ar, ep, gn, ix, nx, pop⟩ := a
  obtain rfl : kd = (T i).kd := c1
  obtain rfl : ar = (T i).an c := c2
  obtain rfl : ep = (T i).ep := c3
  obtain rfl : sl = -1 := c4
  obtain rfl : fu = false := c5
  have h00 : (0 : Int) ≤ 0 ∧ (0 : Int) < roomV c.A := ⟨by decide, by omega⟩
  rcases hI with ⟨e1, e2, e3⟩ | ⟨e0, e⟩
  · obtain rfl : nx = 0 := e1
    obtain rfl : ix = 0 := e2
    have e3' : PopI M.f t L pop := e3
    have hand0 : (T i).hand = none := hand_mk0 hz rfl
    have hM : mkM c (T i).g ⟨-1, false, (T i).kd, (T i).an c, (T i).ep, gn, 0, 0, pop⟩ M = popM c pop M := by simp [mkM]
    simp only [hM]
    have hoth : ∀ y, InR c y → ∀ o, 0 ≤ o → o < roomV c.A → (popM c pop M).f (c.pl y o).toNat = M.f (c.pl y o).toNat := fun y hy o h0 h1 => popM_oth hn4 (pl_3 hr hy ⟨h0, h1⟩).1
    rcases pop_step hr hn hu h.stk ht e3' with ⟨d1, d2, d3⟩ | ⟨d1, d2, d3, d4, d5⟩ | ⟨d1, x, r, d2, d3, d4, d5, d6⟩
    · have hS : mkS c (roomI c) ⟨-1, false, (T i).kd, (T i).an c, (T i).ep, gn, 0, 0, pop⟩ M = ⟨-1, false, (T i).kd, (T i).an c, (T i).ep, gn, 0, 0, popS c pop M⟩ := by simp [mkS, d1]
      refine .inl ⟨by unfold mkD; rw [hS]; rfl, t, L, own, by omega, ?_⟩
      rw [hS, d3]
      rw [d3] at d2
      refine AI.same hr h hi (leaves_refl hr h.stk (-1)) rfl (fun k => absurd k.1 (by decide)) ?_ (h.has i hi) (fun z e => by cases e; exact ⟨⟨⟨rfl, rfl, rfl, rfl, rfl⟩, .inl ⟨rfl, rfl, d2⟩⟩, hfe0⟩) (fun z e => absurd (hfe0.symm.trans e) (by simp))
      rw [mine_no hand0]; exact mine_no (hand_mk0 rfl rfl)
    · have hS : mkS c (roomI c) ⟨-1, false, (T i).kd, (T i).an c, (T i).ep, gn, 0, 0, pop⟩ M = ⟨-1, true, (T i).kd, (T i).an c, (T i).ep, gn, 0, 5, popS c pop M⟩ := by simp [mkS, d1, d3]
      refine .inr (.inl ⟨by unfold mkD; rw [hS]; rfl, by rw [hS], by rw [hS], ?_⟩)
      rw [d5]
      refine AI.same hr h hi (leaves_refl hr h.stk (-1)) rfl (fun k => absurd k.1 (by decide)) ?_ (h.has i hi) (fun z e => by cases e) (fun z e => absurd (hfe0.symm.trans e) (by simp))
      rw [mine_no hand0]; exact mine_no (hand_no rfl hfe0)
    · have hS : mkS c (roomI c) ⟨-1, false, (T i).kd, (T i).an c, (T i).ep, gn, 0, 0, pop⟩ M = ⟨-1, false, (T i).kd, (T i).an c, (T i).ep, gn, 0, 1, popS c pop M⟩ := by simp [mkS, d1, d3]
      subst d2
      have hxL := (h.lst x).1 (List.mem_cons_self ..)
      have hnd := List.nodup_cons.1 h.stk.nd
      have hl : Lvs c M.f t (x :: r) (popM c pop M).f (t + 1) r x := ⟨d6, .inr rfl, popM_oth hn4 (by decide), fun y hy _ o h0 h1 => hoth y hy o h0 h1⟩
      have hFr : FreeH c (popM c pop M).f μ x := by
        obtain ⟨q1, q2, q3, q4⟩ := h.free x hxL.1 hxL.2
        have e : hw c (popM c pop M).f x = hw c M.f x := hoth x q1 0 h00.1 h00.2
        unfold FreeH
        rw [e]
        exact ⟨q1, q2, q3, q4⟩
      have hxh : x ∉ (T i).h := fun k => by
        have := ((h.mine i hi x).1 (h_mine k)).2
        have := hxL.2
        omega
      refine .inl ⟨by unfold mkD; rw [hS]; rfl, t + 1, r, oset own x (i + 1), by omega, ?_⟩
      rw [hS]
      have hm' : ({ T i with ma := some ⟨zp, zq, zr, ⟨-1, false, (T i).kd, (T i).an c, (T i).ep, gn, 0, 1, popS c pop M⟩⟩ } : Mr).mine = x :: (T i).h := by
        rw [mine_hand (x := x)]
        exact (hand_mk rfl (show (1 : Int) ≠ 0 by decide)).trans (congrArg some d4)
      have hmi : (T i).mine = (T i).h := mine_no hand0
      refine h.move hr hi hl (fun y hne => ⟨oset_ne hne, rfl⟩) (fun _ => .inr hxL.2) (fun _ => .inl (oset_eq ..)) (fun y => ?_) (h.mu x) (fun _ e => by rw [oset_eq] at e; omega) (fun _ e => by rw [oset_eq] at e; omega) (fun y => ?_) ?_ (fun y hy => ?_) (fun z e => ?_) (fun z e => absurd (hfe0.symm.trans e) (by simp))
      · by_cases e : y = x
        · subst e; rw [oset_eq]; exact ⟨fun k => absurd k hnd.1, fun k => by omega⟩
        · rw [oset_ne e, ← h.lst y, List.mem_cons]; exact ⟨.inr, fun k => k.resolve_left e⟩
      · rw [hm', List.mem_cons]
        have hmy := h.mine i hi y
        rw [hmi] at hmy
        by_cases e : y = x
        · subst e; rw [oset_eq]; exact ⟨fun _ => ⟨hxL.1, rfl⟩, fun _ => .inl rfl⟩
        · rw [oset_ne e, ← hmy]; exact ⟨fun k => k.resolve_left e, .inr⟩
      · rw [hm']
        have := h.nd i hi
        rw [hmi] at this
        exact List.nodup_cons.2 ⟨hxh, this⟩
      · exact hl.has hr (fun e => hxh (e ▸ hy)) rfl (h.has i hi y hy)
      · cases e
        refine ⟨⟨⟨rfl, rfl, rfl, rfl, rfl⟩, .inr ⟨?_, .inl ⟨rfl, rfl⟩⟩⟩, hfe0⟩
        show FreeH c _ μ (popS c pop M).sl
        rw [d4]; exact hFr
  · have hR : InR c pop.sl := e0.1
    have e0' : FreeH c M.f μ pop.sl := e0
    have hne0 : nx ≠ 0 := by
      intro k
      rcases e with ⟨e1, _⟩ | ⟨_, ⟨_, e1, _⟩ | ⟨e1, _⟩⟩ <;> (have e1' : nx = _ := e1; omega)
    have hhand : (T i).hand = some pop.sl := hand_mk hz hne0
    have hmine : (T i).mine = pop.sl :: (T i).h := mine_hand hhand
    have hown : own pop.sl = i + 1 := ((h.mine i hi _).1 (by rw [hmine]; exact List.mem_cons_self ..)).2
    have hndm := h.nd i hi
    rw [hmine] at hndm
    have hxh := (List.nodup_cons.1 hndm).1
    have hHd : c.header pop.sl = c.pl pop.sl 0 := header_pl hr hR
    rcases e with ⟨e1, e2⟩ | ⟨e2, ⟨k, e1, e3, e4, e5⟩ | ⟨e1, e5⟩⟩
    · obtain rfl : nx = 1 := e1
      obtain rfl : ix = 0 := e2
      have el : M.ldV (c.header pop.sl) = hw c M.f pop.sl := by rw [hHd, ld_pl hr hn hR h00]; rfl
      have hS : mkS c (roomI c) ⟨-1, false, (T i).kd, (T i).an c, (T i).ep, gn, 0, 1, pop⟩ M = ⟨-1, false, (T i).kd, (T i).an c, (T i).ep, μ pop.sl, 0, 2, pop⟩ := by simp [mkS, el, e0'.2.2.1]
      have hM : (mkM c (T i).g ⟨-1, false, (T i).kd, (T i).an c, (T i).ep, gn, 0, 1, pop⟩ M).f = M.f := by rw [show mkM c (T i).g ⟨-1, false, (T i).kd, (T i).an c, (T i).ep, gn, 0, 1, pop⟩ M = M.ldS (c.header pop.sl) by simp [mkM]]; exact (ld_f M _).1
      refine .inl ⟨by unfold mkD; rw [hS]; rfl, t, L, own, by omega, ?_⟩
      rw [hS, hM]
      refine AI.same hr h hi (leaves_refl hr h.stk pop.sl) rfl (fun _ => ⟨hown, rfl⟩) ?_ (h.has i hi) (fun z e => by cases e; exact ⟨⟨⟨rfl, rfl, rfl, rfl, rfl⟩, .inr ⟨e0', .inr ⟨rfl, .inl ⟨0, rfl, rfl, by omega, fun j hj => absurd hj (by omega)⟩⟩⟩⟩, hfe0⟩) (fun z e => absurd (hfe0.symm.trans e) (by simp))
      rw [hmine]; exact mine_hand (x := pop.sl) (hand_mk (z := ⟨zp, zq, zr, ⟨-1, false, (T i).kd, (T i).an c, (T i).ep, _, _, 2, pop⟩⟩) rfl (show (2 : Int) ≠ 0 by decide))
    · obtain rfl : nx = 2 := e1
      obtain rfl : ix = (k : Int) := e3
      obtain rfl : gn = μ pop.sl := e2
      have ho : (0 : Int) ≤ 2 + (k : Int) ∧ 2 + (k : Int) < roomV c.A := by omega
      have hM : (mkM c (T i).g ⟨-1, false, (T i).kd, (T i).an c, (T i).ep, μ pop.sl, k, 2, pop⟩ M).f = upd M.f (c.pl pop.sl (2 + k)).toNat ((T i).g k) := by
        rw [show mkM c (T i).g ⟨-1, false, (T i).kd, (T i).an c, (T i).ep, μ pop.sl, k, 2, pop⟩ M = M.stS (c.pl pop.sl (2 + k)) ((T i).g k) by simp [mkM, body_pl hr hR (i := (k : Int)) ⟨by omega, by omega⟩]]
        exact (st_pl hr hn hR ho).1
      have hl := leaves_upd hr h.stk hR ho (by omega) ((T i).g k)
      have hwx : hw c (upd M.f (c.pl pop.sl (2 + k)).toNat ((T i).g k)) pop.sl = hw c M.f pop.sl := upd_ne (pl_ne hr hR hR h00 ho (.inr (by omega)))
      have hF2 : FreeH c (upd M.f (c.pl pop.sl (2 + k)).toNat ((T i).g k)) μ pop.sl := by unfold FreeH; rw [hwx]; exact e0'
      have hbw : ∀ j, j < k + 1 → bw c (upd M.f (c.pl pop.sl (2 + k)).toNat ((T i).g k)) pop.sl j = (T i).g j := fun j hj => by
        by_cases e : j = k
        · subst e; exact upd_eq
        · exact (upd_ne (pl_ne hr hR hR ⟨by omega, by omega⟩ ho (.inr (by omega)))).trans (e5 j (by omega))
      have hhs : ∀ y ∈ (T i).h, HasH c (upd M.f (c.pl pop.sl (2 + k)).toNat ((T i).g k)) μ y := fun y hy => hl.has hr (fun e => hxh (e ▸ hy)) rfl (h.has i hi y hy)
      rw [hM]
      by_cases e : k + 1 = roomI c
      · have hS : mkS c (roomI c) ⟨-1, false, (T i).kd, (T i).an c, (T i).ep, μ pop.sl, k, 2, pop⟩ M = ⟨-1, false, (T i).kd, (T i).an c, (T i).ep, μ pop.sl, (k : Int) + 1, 3, pop⟩ := by simp [mkS, show (k : Int) + 1 = (roomI c : Int) by omega]
        refine .inl ⟨by unfold mkD; rw [hS]; rfl, t, L, own, by omega, ?_⟩
        rw [hS]
        refine AI.same hr h hi hl rfl (fun _ => ⟨hown, hwx⟩) ?_ hhs (fun z e' => by cases e'; exact ⟨⟨⟨rfl, rfl, rfl, rfl, rfl⟩, .inr ⟨hF2, .inr ⟨rfl, .inr ⟨rfl, fun j hj => hbw j (by omega)⟩⟩⟩⟩, hfe0⟩) (fun z e => absurd (hfe0.symm.trans e) (by simp))
        rw [hmine]; exact mine_hand (x := pop.sl) (hand_mk (z := ⟨zp, zq, zr, ⟨-1, false, (T i).kd, (T i).an c, (T i).ep, _, _, 3, pop⟩⟩) rfl (show (3 : Int) ≠ 0 by decide))
      · have hS : mkS c (roomI c) ⟨-1, false, (T i).kd, (T i).an c, (T i).ep, μ pop.sl, k, 2, pop⟩ M = ⟨-1, false, (T i).kd, (T i).an c, (T i).ep, μ pop.sl, (k : Int) + 1, 2, pop⟩ := by simp [mkS, show ¬ (k : Int) + 1 = (roomI c : Int) by omega]
        refine .inl ⟨by unfold mkD; rw [hS]; rfl, t, L, own, by omega, ?_⟩
        rw [hS]
        refine AI.same hr h hi hl rfl (fun _ => ⟨hown, hwx⟩) ?_ hhs (fun z e' => by cases e'; exact ⟨⟨⟨rfl, rfl, rfl, rfl, rfl⟩, .inr ⟨hF2, .inr ⟨rfl, .inl ⟨k + 1, rfl, by show (k : Int) + 1 = ((k + 1 : Nat) : Int); omega, by omega, fun j hj => hbw j hj⟩⟩⟩⟩, hfe0⟩) (fun z e => absurd (hfe0.symm.trans e) (by simp))
        rw [hmine]; exact mine_hand (x := pop.sl) (hand_mk (z := ⟨zp, zq, zr, ⟨-1, false, (T i).kd, (T i).an c, (T i).ep, _, _, 2, pop⟩⟩) rfl (show (2 : Int) ≠ 0 by decide))
    · obtain rfl : nx = 3 := e1
      obtain rfl : gn = μ pop.sl := e2
      have hmu := h.mu pop.sl hR
      have hrI := right_iff.1 hr
      have han : 0 ≤ (T i).an c ∧ (T i).an c ≤ 15 := by
        unfold Mr.an
        split
        · omega
        · have := Int.emod_nonneg (T i).ar (show c.A + 1 ≠ 0 by omega)
          have := Int.emod_lt_of_pos (T i).ar (show 0 < c.A + 1 by omega)
          omega
      have hkd : (T i).kd = 1 ∨ (T i).kd = 2 := by unfold Mr.kd; split <;> simp
      have hbn := born_bd (T i).ep
      have hG := e0'.2.2.2
      have hmv : (madeV (T i).kd ((T i).an c) (μ pop.sl) (T i).ep).1 = headN (T i).kd (bornI (T i).ep) false ((T i).an c) (μ pop.sl) 0 := by
        unfold madeV
        rw [if_pos hkd, packV_yes _ _ _ _ _ _ (by omega)]
      have hhr : hdRight (T i).kd (bornI (T i).ep) ((T i).an c) (μ pop.sl) 0 := by unfold hdRight; omega
      obtain ⟨u1, u2, u3, u4, u5, u6, u7⟩ := u_head (g := false) hhr
      have hS : mkS c (roomI c) ⟨-1, false, (T i).kd, (T i).an c, (T i).ep, μ pop.sl, ix, 3, pop⟩ M = ⟨pop.sl, false, (T i).kd, (T i).an c, (T i).ep, μ pop.sl, ix, 5, pop⟩ := by simp [mkS]
      have hM : (mkM c (T i).g ⟨-1, false, (T i).kd, (T i).an c, (T i).ep, μ pop.sl, ix, 3, pop⟩ M).f = upd M.f (c.pl pop.sl 0).toNat (headN (T i).kd (bornI (T i).ep) false ((T i).an c) (μ pop.sl) 0) := by
        rw [show mkM c (T i).g ⟨-1, false, (T i).kd, (T i).an c, (T i).ep, μ pop.sl, ix, 3, pop⟩ M = M.stS (c.pl pop.sl 0) (headN (T i).kd (bornI (T i).ep) false ((T i).an c) (μ pop.sl) 0) by simp [mkM, hHd, hmv]]
        exact (st_pl hr hn hR h00).1
      have hl := leaves_upd hr h.stk hR h00 (by decide) (headN (T i).kd (bornI (T i).ep) false ((T i).an c) (μ pop.sl) 0)
      refine .inr (.inr ⟨by unfold mkD; rw [hS]; rfl, by rw [hS], pop.sl, by rw [hS], hR, hmu.1, hG, by rw [hM]; exact upd_eq, fun j hj => ?_, fun v => ?_⟩)
      · rw [hM]; exact (upd_ne (pl_ne hr hR hR ⟨by omega, by omega⟩ h00 (.inr (by omega)))).trans (e5 j hj)
      · rw [hM]
        have hm' : ({ T i with ma := none, hv := v, h := (T i).h ++ [pop.sl] } : Mr).mine = (T i).h ++ [pop.sl] := mine_no (hand_no rfl hfe0)
        refine h.move hr hi hl (fun y hne => ⟨rfl, mset_ne hne⟩) (fun _ => .inl hown) (fun _ => .inl hown) h.lst (fun _ => by rw [mset_eq]; omega) (fun _ e => by omega) (fun _ e => by omega) (fun y => ?_) ?_ (fun y hy => ?_) (fun z e => by cases e) (fun z e => absurd (hfe0.symm.trans e) (by simp))
        · rw [hm', List.mem_append, List.mem_singleton, ← h.mine i hi y, hmine, List.mem_cons]; exact or_comm
        · rw [hm', List.nodup_append]
          exact ⟨(List.nodup_cons.1 hndm).2, by simp, fun a ha b hb2 => by rw [List.mem_singleton] at hb2; subst hb2; exact fun e => hxh (e ▸ ha)⟩
        · have hy' : y ∈ (T i).h ++ [pop.sl] := hy
          rcases List.mem_append.1 hy' with k | k
          · have hne : y ≠ pop.sl := fun e => hxh (e ▸ k)
            exact hl.has hr hne (mset_ne hne) (h.has i hi y k)
          · rw [List.mem_singleton] at k
            subst k
            have e : hw c (upd M.f (c.pl pop.sl 0).toNat (headN (T i).kd (bornI (T i).ep) false ((T i).an c) (μ pop.sl) 0)) pop.sl = headN (T i).kd (bornI (T i).ep) false ((T i).an c) (μ pop.sl) 0 := upd_eq
            unfold HasH
            rw [e, mset_eq, u1, u2, u6]
            exact ⟨hR, rfl, by omega, by omega, hkd⟩
end
end Go.Proofs.Ytijfkpoofpcacaa.MakerM
end
section
namespace Go.Proofs.Ytijfkpoofpcacaa.MakerF
open Go.RowKit Go.Proofs.Ytijfkpoofpcacaa.Blk Go.Proofs.Ytijfkpoofpcacaa.Core Go.Proofs.Ytijfkpoofpcacaa.MemC Go.Proofs.Ytijfkpoofpcacaa.MemT Go.Proofs.Ytijfkpoofpcacaa.Memory Go.Proofs.Ytijfkpoofpcacaa.PlanC Go.Proofs.Ytijfkpoofpcacaa.PlanD Go.Proofs.Ytijfkpoofpcacaa.StackC Go.Proofs.Ytijfkpoofpcacaa.StackL Go.Proofs.Ytijfkpoofpcacaa.StackS Go.Proofs.Ytijfkpoofpcacaa.StackF Go.Proofs.Ytijfkpoofpcacaa.StackP Go.Proofs.Ytijfkpoofpcacaa.StackQ Go.Proofs.Ytijfkpoofpcacaa.TakerL Go.Proofs.Ytijfkpoofpcacaa.HeadC Go.Proofs.Ytijfkpoofpcacaa.ArenaL Go.Proofs.Ytijfkpoofpcacaa.ArenaR Go.Proofs.Ytijfkpoofpcacaa.ArenaP Go.Proofs.Ytijfkpoofpcacaa.ArenaY Go.Proofs.Ytijfkpoofpcacaa.MakerL Go.Proofs.Ytijfkpoofpcacaa.MakerM
theorem freed_any {x G : Int} (x0 : 0 ≤ x) (x1 : x < 18446744073709551616) (hok : okW x = true) (h3 : uK x = 3) (hG : G ≤ 1048576) :
    (G ≤ uN x + 1 → ∃ y, freedV x G = (y, true) ∧ okW y = true ∧ uK y = 4) ∧ (¬ G ≤ uN x + 1 → freedV x G = (headN 0 0 false 0 (uN x + 1) 0, true)) := by
  have hu := u_bd x x0 x1
  constructor
  · intro h
    refine ⟨headN 4 (uM x) (uG x) (uA x) (uN x) (uS x), ?_, ?_⟩
    · unfold freedV; rw [if_pos ⟨hok, h3⟩, if_pos (.inl h)]
    · have := u_head (k := 4) (m := uM x) (g := uG x) (a := uA x) (n := uN x) (s := uS x) (by unfold hdRight; omega)
      exact ⟨this.1, this.2.1⟩
  · intro h
    unfold freedV; rw [if_pos ⟨hok, h3⟩, if_neg (fun k => by rcases k with k | k <;> omega)]
section
variable {c : Cf} (hr : c.right = true) {t : Int} {L : List Int} {K i : Nat} {T : Nat → Mr} {own : Int → Nat} {μ : Int → Int} {M : Ms}
include hr
theorem AI.feStep (hn : M.n = c.size) (hu : U M.f) (ht : t + 1 < 281474976710656) (h : AI c M.f t L K T own μ) (hi : i < K) {z : FeP} (hz : (T i).fe = some z) :
    (frD c z.a M = false ∧ ∃ t' L' own', t' ≤ t + 1 ∧ ∀ qa, AI c (frM c z.a M).f t' L' K (put T i { T i with fe := some ⟨z.p, qa, frS c z.a M⟩ }) own' μ) ∨
    (frD c z.a M = true ∧ InR c (T i).fs ∧ okW (hw c (frM c z.a M).f (T i).fs) = true ∧
      ((c.G ≤ μ (T i).fs ∧ (frS c z.a M).gn = true ∧ (frS c z.a M).bk = false ∧ uK (hw c (frM c z.a M).f (T i).fs) = 4) ∨ (μ (T i).fs < c.G ∧ (frS c z.a M).gn = false ∧ (frS c z.a M).bk = true ∧ uK (hw c (frM c z.a M).f (T i).fs) = 0)) ∧
      ∃ t' L' own', t' ≤ t + 1 ∧ AI c (frM c z.a M).f t' L' K (put T i { T i with fe := none }) own' μ) := by
  have hb := room_bd hr
  have hri := room_i hr
  have hrI := right_iff.1 hr
  have hsz := size_bd hr
  have hn4 : 4 ≤ M.n := by unfold Cf.size at hn; omega
  obtain ⟨⟨c1, c2, c3, hI⟩, hma⟩ := h.fe i hi z hz
  obtain ⟨zp, zq, a⟩ := z
  obtain ⟨bk, gn, sl, nw, nx, pu⟩ := a
  have hsl : sl = (T i).fs := c1
  obtain rfl : bk = false := c2
  obtain rfl : gn = false := c3
  have h00 : (0 : Int) ≤ 0 ∧ (0 : Int) < roomV c.A := ⟨by decide, by omega⟩
  have h01 : (0 : Int) ≤ 1 ∧ (1 : Int) < roomV c.A := ⟨by decide, by omega⟩
  have hhand : (T i).hand = some sl := hand_fe hma hz
  have hmine : (T i).mine = sl :: (T i).h := mine_hand hhand
  have hoR := (h.mine i hi sl).1 (by rw [hmine]; exact List.mem_cons_self ..)
  have hR : InR c sl := hoR.1
  have hown : own sl = i + 1 := hoR.2
  have hndm := h.nd i hi
  rw [hmine] at hndm
  have hxh := (List.nodup_cons.1 hndm).1
  have hHd : c.header sl = c.pl sl 0 := header_pl hr hR
  have hwb := hu (c.pl sl 0).toNat
  have hmu := h.mu sl hR
  have hxL : sl ∉ L := fun k => by have := ((h.lst sl).1 k).2; omega
  have hnoH : ∀ {τ : Mr}, τ.ma = none → τ.fe = none → τ.h = (T i).h → τ.mine = (T i).h := fun e1 e2 e3 => (mine_no (hand_no e1 e2)).trans e3
  rw [← hsl]
  rcases hI with ⟨e1, e2⟩ | ⟨e1, e2, e3⟩ | ⟨e1, e2, e3, e4, Q, e5, e6, e7⟩
  · obtain rfl : nx = 1 := e1
    have e2' : LimH c M.f μ sl := e2
    have el : M.ldV (c.header sl) = hw c M.f sl := by rw [hHd, ld_pl hr hn hR h00]; rfl
    have hv : (freedV (hw c M.f sl) c.G).2 = true := by
      obtain ⟨f1, f2⟩ := freed_any (G := c.G) hwb.1 hwb.2 e2'.2.1 e2'.2.2.1 (by omega)
      by_cases k : c.G ≤ uN (hw c M.f sl) + 1
      · obtain ⟨y, e, _⟩ := f1 k
        have e' : freedV (hw c M.f sl) c.G = (y, true) := e
        rw [e']
      · have e' : freedV (hw c M.f sl) c.G = _ := f2 k
        rw [e']
    have hS : frS c ⟨false, false, sl, nw, 1, pu⟩ M = ⟨false, false, sl, (freedV (hw c M.f sl) c.G).1, 3, pu⟩ := by simp [frS, el, hv]
    have hM : (frM c ⟨false, false, sl, nw, 1, pu⟩ M).f = M.f := by rw [show frM c ⟨false, false, sl, nw, 1, pu⟩ M = M.ldS (c.header sl) by simp [frM]]; exact (ld_f M _).1
    refine .inl ⟨by unfold frD; rw [hS]; rfl, t, L, own, by omega, fun qa => ?_⟩
    rw [hS, hM]
    refine AI.same hr h hi (leaves_refl hr h.stk sl) rfl (fun _ => ⟨hown, rfl⟩) ?_ (h.has i hi) (fun z e => absurd (hma.symm.trans e) (by simp)) (fun z e => by cases e; exact ⟨⟨hsl, rfl, rfl, .inr (.inl ⟨rfl, e2', rfl⟩)⟩, hma⟩)
    rw [hmine]; exact mine_hand (x := sl) (hand_fe (z := ⟨zp, qa, ⟨false, false, sl, _, 3, pu⟩⟩) hma rfl)
  · obtain rfl : nx = 3 := e1
    have e2' : LimH c M.f μ sl := e2
    obtain rfl : nw = (freedV (hw c M.f sl) c.G).1 := e3
    have hM : ∀ y, (frM c ⟨false, false, sl, y, 3, pu⟩ M).f = upd M.f (c.pl sl 0).toNat y := fun y => by
      rw [show frM c ⟨false, false, sl, y, 3, pu⟩ M = M.stS (c.pl sl 0) y by simp [frM, hHd]]
      exact (st_pl hr hn hR h00).1
    obtain ⟨f1, f2⟩ := freed_any (G := c.G) hwb.1 hwb.2 e2'.2.1 e2'.2.2.1 (by omega)
    by_cases k : c.G ≤ uN (hw c M.f sl) + 1
    · obtain ⟨y, ey, ey1, ey2⟩ := f1 k
      have ey' : freedV (hw c M.f sl) c.G = (y, true) := ey
      have e1 : (freedV (hw c M.f sl) c.G).1 = y := by rw [ey']
      rw [e1]
      have hS : frS c ⟨false, false, sl, y, 3, pu⟩ M = ⟨false, true, sl, y, 5, some ⟨sl, 0, 0⟩⟩ := by simp [frS, ey2]
      have hl := leaves_upd hr h.stk hR h00 (by decide) y
      have hwx : hw c (upd M.f (c.pl sl 0).toNat y) sl = y := upd_eq
      rw [hM, hS]
      refine .inr ⟨by unfold frD; rw [hS]; rfl, hR, by rw [hwx]; exact ey1, .inl ⟨by have := e2'.2.2.2.1; omega, rfl, rfl, by rw [hwx]; exact ey2⟩, t, L, oset own sl (K + 1), by omega, ?_⟩
      have hm' : ({ T i with fe := none } : Mr).mine = (T i).h := hnoH hma rfl rfl
      refine h.move hr hi hl (fun y hne => ⟨oset_ne hne, rfl⟩) (fun _ => .inl hown) (fun _ => .inr (.inr (oset_eq ..))) (fun y => ?_) (fun _ => hmu) (fun _ e => by rw [oset_eq] at e; omega) (fun _ _ => by rw [hwx]; exact ey2) (fun y => ?_) ?_ (fun y hy => ?_) (fun z e => absurd (hma.symm.trans e) (by simp)) (fun z e => by cases e)
      · by_cases e : y = sl
        · subst e; rw [oset_eq]; exact ⟨fun k => absurd k hxL, fun k => by omega⟩
        · rw [oset_ne e]; exact h.lst y
      · rw [hm']
        have hmy := h.mine i hi y
        rw [hmine, List.mem_cons] at hmy
        by_cases e : y = sl
        · subst e; rw [oset_eq]; exact ⟨fun k => absurd k hxh, fun k => by omega⟩
        · rw [oset_ne e, ← hmy]; exact ⟨.inr, fun k => k.resolve_left e⟩
      · rw [hm']; exact (List.nodup_cons.1 hndm).2
      · exact hl.has hr (fun e => hxh (e ▸ hy)) rfl (h.has i hi y hy)
    · have ey' : freedV (hw c M.f sl) c.G = (headN 0 0 false 0 (uN (hw c M.f sl) + 1) 0, true) := f2 k
      have eN : uN (hw c M.f sl) + 1 = μ sl := by have := e2'.2.2.2.1; omega
      have e1 : (freedV (hw c M.f sl) c.G).1 = headN 0 0 false 0 (μ sl) 0 := by rw [ey', eN]
      rw [e1]
      have hG : μ sl < c.G := by omega
      obtain ⟨u1, u2, _⟩ := u_head (k := 0) (m := 0) (g := false) (a := 0) (n := μ sl) (s := 0) (by unfold hdRight; omega)
      have hS : frS c ⟨false, false, sl, headN 0 0 false 0 (μ sl) 0, 3, pu⟩ M = ⟨false, false, sl, headN 0 0 false 0 (μ sl) 0, 4, some ⟨sl, 0, 0⟩⟩ := by simp [frS, u2]
      have hl := leaves_upd hr h.stk hR h00 (by decide) (headN 0 0 false 0 (μ sl) 0)
      refine .inl ⟨by unfold frD; rw [hS]; rfl, t, L, own, by omega, fun qa => ?_⟩
      rw [hM, hS]
      have hm' : ({ T i with fe := some ⟨zp, qa, ⟨false, false, sl, headN 0 0 false 0 (μ sl) 0, 4, some ⟨sl, 0, 0⟩⟩⟩ } : Mr).mine = sl :: (T i).h := mine_hand (x := sl) (hand_fe (z := ⟨zp, qa, ⟨false, false, sl, _, 4, some ⟨sl, 0, 0⟩⟩⟩) hma rfl)
      refine h.move hr hi hl (fun y _ => ⟨rfl, rfl⟩) (fun _ => .inl hown) (fun _ => .inl hown) h.lst (fun _ => hmu) (fun _ e => by omega) (fun _ e => by omega) (by rw [hm', ← hmine]; exact h.mine i hi) (by rw [hm']; exact hndm) (fun y hy => hl.has hr (fun e => hxh (e ▸ hy)) rfl (h.has i hi y hy)) (fun z e => absurd (hma.symm.trans e) (by simp)) (fun z e => ?_)
      cases e
      exact ⟨⟨hsl, rfl, rfl, .inr (.inr ⟨rfl, hR, hG, upd_eq, _, rfl, rfl, pushI_new c _ t L sl⟩)⟩, hma⟩
  · obtain rfl : nx = 4 := e1
    obtain rfl : pu = some Q := e5
    have e6' : Q.sl = sl := e6
    have hM : frM c ⟨false, false, sl, nw, 4, some Q⟩ M = pushM c Q M := by simp [frM]
    simp only [hM]
    have hoth : ∀ y o, InR c y → 0 ≤ o → o < roomV c.A → (y ≠ sl ∨ o ≠ 1) → (pushM c Q M).f (c.pl y o).toNat = M.f (c.pl y o).toNat := fun y o hy h0 h1 hne => by
      refine pushM_oth hr hn (by rw [e6']; exact hR) (pl_3 hr hy ⟨h0, h1⟩).1 ?_
      rw [e6']
      exact pl_ne hr hy hR ⟨h0, h1⟩ h01 hne
    have hoth2 : (pushM c Q M).f 2 = M.f 2 := pushM_oth hr hn (by rw [e6']; exact hR) (by decide) (by rw [e6']; have := pl_bd hr hR h01; omega)
    have hwx : hw c (pushM c Q M).f sl = hw c M.f sl := hoth sl 0 hR h00.1 h00.2 (.inr (by decide))
    have hwv : hw c M.f sl = headN 0 0 false 0 (μ sl) 0 := e4
    have e3' : μ sl < c.G := e3
    obtain ⟨u1, u2, _, _, _, u6, _⟩ := u_head (k := 0) (m := 0) (g := false) (a := 0) (n := μ sl) (s := 0) (by unfold hdRight; omega)
    have hQx : 0 ≤ Q.sl ∧ Q.sl < c.S := by rw [e6']; exact hR
    obtain ⟨p1, p2 | p2⟩ := push_step hr hn hu h.stk ht (q := Q) e7 hQx (by rw [e6']; exact hxL)
    · obtain ⟨d1, d2, d3, d4, d5⟩ := p2
      have hS : frS c ⟨false, false, sl, nw, 4, some Q⟩ M = ⟨false, false, sl, nw, 4, some (pushS c Q M)⟩ := by simp [frS, d1]
      refine .inl ⟨by unfold frD; rw [hS]; rfl, t, L, own, by omega, fun qa => ?_⟩
      rw [hS]
      have hl : Lvs c M.f t L (pushM c Q M).f t L sl := ⟨d3, .inl ⟨rfl, rfl, d4⟩, hoth2, fun y hy hne o h0 h1 => hoth y o hy h0 h1 (.inl hne)⟩
      refine AI.same hr h hi hl rfl (fun _ => ⟨hown, hwx⟩) ?_ (fun y hy => hl.has hr (fun e => hxh (e ▸ hy)) rfl (h.has i hi y hy)) (fun z e => absurd (hma.symm.trans e) (by simp)) (fun z e => by cases e; exact ⟨⟨hsl, rfl, rfl, .inr (.inr ⟨rfl, hR, e3', hwx.trans hwv, _, rfl, p1.trans e6', d2⟩)⟩, hma⟩)
      rw [hmine]; exact mine_hand (x := sl) (hand_fe (z := ⟨zp, qa, ⟨false, false, sl, _, 4, _⟩⟩) hma rfl)
    · obtain ⟨d1, d2⟩ := p2
      rw [e6'] at d2
      have hS : frS c ⟨false, false, sl, nw, 4, some Q⟩ M = ⟨true, false, sl, nw, 5, some (pushS c Q M)⟩ := by simp [frS, d1]
      rw [hS]
      have hl : Lvs c M.f t L (pushM c Q M).f (t + 1) (sl :: L) sl := ⟨d2, .inr rfl, hoth2, fun y hy hne o h0 h1 => hoth y o hy h0 h1 (.inl hne)⟩
      refine .inr ⟨by unfold frD; rw [hS]; rfl, hR, by rw [hwx, hwv]; exact u1, .inr ⟨e3', rfl, rfl, by rw [hwx, hwv]; exact u2⟩, t + 1, sl :: L, oset own sl 0, by omega, ?_⟩
      have hm' : ({ T i with fe := none } : Mr).mine = (T i).h := hnoH hma rfl rfl
      refine h.move hr hi hl (fun y hne => ⟨oset_ne hne, rfl⟩) (fun _ => .inl hown) (fun _ => .inr (.inl (oset_eq ..))) (fun y => ?_) (fun _ => hmu) (fun _ _ => ?_) (fun _ e => by rw [oset_eq] at e; omega) (fun y => ?_) ?_ (fun y hy => ?_) (fun z e => absurd (hma.symm.trans e) (by simp)) (fun z e => by cases e)
      · rw [List.mem_cons]
        by_cases e : y = sl
        · subst e; rw [oset_eq]; exact ⟨fun _ => ⟨hR, rfl⟩, fun _ => .inl rfl⟩
        · rw [oset_ne e, ← h.lst y]; exact ⟨fun k => k.resolve_left e, .inr⟩
      · unfold FreeH; rw [hwx, hwv, u2, u6]; exact ⟨hR, rfl, rfl, e3'⟩
      · rw [hm']
        have hmy := h.mine i hi y
        rw [hmine, List.mem_cons] at hmy
        by_cases e : y = sl
        · subst e; rw [oset_eq]; exact ⟨fun k => absurd k hxh, fun k => by omega⟩
        · rw [oset_ne e, ← hmy]; exact ⟨.inr, fun k => k.resolve_left e⟩
      · rw [hm']; exact (List.nodup_cons.1 hndm).2
      · exact hl.has hr (fun e => hxh (e ▸ hy)) rfl (h.has i hi y hy)
theorem AI.idle {f : Nat → Int} (h : AI c f t L K T own μ) (hi : i < K) (h1 : (T i).ma = none) (h2 : (T i).fe = none) (wv : Value) (fr rc : Bool) (ar ep wd : Int) : AI c f t L K (put T i { T i with wv := wv, fr := fr, rc := rc, ar := ar, ep := ep, wd := wd }) own μ := by
  refine AI.same hr h hi (leaves_refl hr h.stk (-1)) rfl (fun k => absurd k.1 (by decide)) ?_ (h.has i hi) (fun z e => absurd (h1.symm.trans e) (by simp)) (fun z e => absurd (h2.symm.trans e) (by simp))
  rw [mine_no (hand_no h1 h2)]; exact mine_no (hand_no h1 h2)
theorem AI.beginMk {f : Nat → Int} (h : AI c f t L K T own μ) (hi : i < K) (h1 : (T i).ma = none) (h2 : (T i).fe = none) (p q r : Nat) : AI c f t L K (put T i { T i with ma := some ⟨p, q, r, ⟨-1, false, (T i).kd, (T i).an c, (T i).ep, 0, 0, 0, ⟨-1, false, 0, 0, 0⟩⟩⟩ }) own μ := by
  refine AI.same hr h hi (leaves_refl hr h.stk (-1)) rfl (fun k => absurd k.1 (by decide)) ?_ (h.has i hi) (fun z e => by cases e; exact ⟨⟨⟨rfl, rfl, rfl, rfl, rfl⟩, .inl ⟨rfl, rfl, popI_new _ _ _⟩⟩, h2⟩) (fun z e => absurd (h2.symm.trans e) (by simp))
  rw [mine_no (hand_no h1 h2)]; exact mine_no (hand_mk0 rfl rfl)
theorem AI.beginFe {f : Nat → Int} (h : AI c f t L K T own μ) (hi : i < K) (h1 : (T i).ma = none) (h2 : (T i).fe = none) {x : Int} {s : List Int} (hh : (T i).h = x :: s) (hu : U f) (v : Value) (p : Nat) (qa : Option Nat) :
    InR c x ∧ hdRight 3 (uM (hw c f x)) (uA (hw c f x)) (uN (hw c f x)) (uS (hw c f x)) ∧
    AI c (upd f (c.pl x 0).toNat (headN 3 (uM (hw c f x)) false (uA (hw c f x)) (uN (hw c f x)) (uS (hw c f x)))) t L K (put T i { T i with hv := v, h := s, fe := some ⟨p, qa, ⟨false, false, x, 0, 1, none⟩⟩, fs := x }) own μ := by
  have hb := room_bd hr
  have h00 : (0 : Int) ≤ 0 ∧ (0 : Int) < roomV c.A := ⟨by decide, by omega⟩
  have hH := h.has i hi x (by rw [hh]; exact List.mem_cons_self ..)
  have hR := hH.1
  have hmine : (T i).mine = x :: s := by rw [mine_no (hand_no h1 h2)]; exact hh
  have hown := ((h.mine i hi x).1 (by rw [hmine]; exact List.mem_cons_self ..)).2
  have hndm := h.nd i hi
  rw [hmine] at hndm
  have hxs := (List.nodup_cons.1 hndm).1
  have hwb := hu (c.pl x 0).toNat
  have hub := u_bd (hw c f x) hwb.1 hwb.2
  have hhr : hdRight 3 (uM (hw c f x)) (uA (hw c f x)) (uN (hw c f x)) (uS (hw c f x)) := by unfold hdRight; omega
  obtain ⟨u1, u2, _, _, _, u6, _⟩ := u_head (g := false) hhr
  have hl := leaves_upd hr h.stk hR h00 (by decide) (headN 3 (uM (hw c f x)) false (uA (hw c f x)) (uN (hw c f x)) (uS (hw c f x)))
  have hwx : hw c (upd f (c.pl x 0).toNat (headN 3 (uM (hw c f x)) false (uA (hw c f x)) (uN (hw c f x)) (uS (hw c f x)))) x = headN 3 (uM (hw c f x)) false (uA (hw c f x)) (uN (hw c f x)) (uS (hw c f x)) := upd_eq
  refine ⟨hR, hhr, ?_⟩
  have hm' : ({ T i with hv := v, h := s, fe := some ⟨p, qa, ⟨false, false, x, 0, 1, none⟩⟩, fs := x } : Mr).mine = x :: s := mine_hand (x := x) (hand_fe (z := ⟨p, qa, ⟨false, false, x, 0, 1, none⟩⟩) h1 rfl)
  refine h.move hr hi hl (fun y _ => ⟨rfl, rfl⟩) (fun _ => .inl hown) (fun _ => .inl hown) h.lst (h.mu x) (fun _ e => by omega) (fun _ e => ?_) (by rw [hm', ← hmine]; exact h.mine i hi) (by rw [hm']; exact hndm) (fun y hy => ?_) (fun z e => absurd (h1.symm.trans e) (by simp)) (fun z e => ?_)
  · omega
  · exact hl.has hr (fun e => hxs (e ▸ hy)) rfl (h.has i hi y (by rw [hh]; exact List.mem_cons_of_mem _ hy))
  · cases e
    refine ⟨⟨rfl, rfl, rfl, .inl ⟨rfl, ?_⟩⟩, h1⟩
    show LimH c _ μ x
    unfold LimH
    rw [hwx]
    exact ⟨hR, u1, u2, by rw [u6]; exact hH.2.2.1, hH.2.2.2.1⟩
end
end Go.Proofs.Ytijfkpoofpcacaa.MakerF
end
section
namespace Go.Proofs.Ytijfkpoofpcacaa.TakerM
open Go.RowKit Go.Proofs.Ytijfkpoofpcacaa.Blk Go.Proofs.Ytijfkpoofpcacaa.Core Go.Proofs.Ytijfkpoofpcacaa.MemC Go.Proofs.Ytijfkpoofpcacaa.PlanC Go.Proofs.Ytijfkpoofpcacaa.PlanD Go.Proofs.Ytijfkpoofpcacaa.StackC Go.Proofs.Ytijfkpoofpcacaa.StackS Go.Proofs.Ytijfkpoofpcacaa.StackP Go.Proofs.Ytijfkpoofpcacaa.TakerL
structure Tk where
  hv : Value
  h : List Int
  wv : Value
  pop : Option (Nat × Pop)
  push : Option (Nat × Push)
  lays : Int
def Tk.new : Tk := ⟨.slice none 0 0, [], .slice none 0 0, none, none, 0⟩
def put (T : Nat → Tk) (i : Nat) (τ : Tk) : Nat → Tk := fun j => if j = i then τ else T j
def Tk.mine (τ : Tk) : List Int := match τ.push with | some _ => τ.lays :: τ.h | none => τ.h
structure TI (c : Cf) (f : Nat → Int) (t : Int) (L : List Int) (K : Nat) (T : Nat → Tk) (own : Int → Nat) : Prop where
  stk : Stk c f t L
  pop : ∀ i, i < K → ∀ p q, (T i).pop = some (p, q) → PopI f t L q
  push : ∀ i, i < K → ∀ p q, (T i).push = some (p, q) → PushI c f t L q ∧ q.sl = (T i).lays ∧ (T i).pop = none
  lst : ∀ x, x ∈ L ↔ ((0 ≤ x ∧ x < c.S) ∧ own x = 0)
  mine : ∀ i, i < K → ∀ x, x ∈ (T i).mine ↔ ((0 ≤ x ∧ x < c.S) ∧ own x = i + 1)
  nd : ∀ i, i < K → (T i).mine.Nodup
  le : ∀ x, (0 ≤ x ∧ x < c.S) → own x ≤ K
def oset (own : Int → Nat) (x : Int) (v : Nat) : Int → Nat := fun y => if y = x then v else own y
section
variable {c : Cf} {f f' : Nat → Int} {t : Int} {L : List Int} {K : Nat} {T : Nat → Tk} {own : Int → Nat} {i : Nat} {τ : Tk}
end
end Go.Proofs.Ytijfkpoofpcacaa.TakerM
end
section
namespace Go.Proofs.Ytijfkpoofpcacaa.StackI
open Go.RowKit Go.Proofs.Ytijfkpoofpcacaa.Blk Go.Proofs.Ytijfkpoofpcacaa.Core Go.Proofs.Ytijfkpoofpcacaa.MemC Go.Proofs.Ytijfkpoofpcacaa.MemT Go.Proofs.Ytijfkpoofpcacaa.Memory Go.Proofs.Ytijfkpoofpcacaa.PlanC Go.Proofs.Ytijfkpoofpcacaa.PlanD Go.Proofs.Ytijfkpoofpcacaa.StackC Go.Proofs.Ytijfkpoofpcacaa.StackL Go.Proofs.Ytijfkpoofpcacaa.StackS Go.Proofs.Ytijfkpoofpcacaa.StackF Go.Proofs.Ytijfkpoofpcacaa.StackP Go.Proofs.Ytijfkpoofpcacaa.StackQ Go.Proofs.Ytijfkpoofpcacaa.StackG
def TakeI (w : World) (p : Nat) (c : Cf) (f : Nat → Int) (t : Int) (L : List Int) (k : Nat) : Prop :=
  (L = [] ∧ Stk c f t [] ∧ ((k = 0 ∧ PopB w p c ⟨-1, false, 0, 0, 0⟩) ∨ (1 ≤ k ∧ ∃ tp nx, (0 ≤ tp ∧ tp < 18446744073709551616) ∧ PopB w p c ⟨-1, true, 3, tp, nx⟩)))
  ∨ ∃ x r, L = x :: r ∧ ((k = 0 ∧ Stk c f t (x :: r) ∧ PopB w p c ⟨-1, false, 0, 0, 0⟩) ∨ (k = 1 ∧ Stk c f t (x :: r) ∧ PopB w p c ⟨-1, false, 1, f 3, 0⟩) ∨ (k = 2 ∧ Stk c f t (x :: r) ∧ PopB w p c ⟨-1, false, 2, f 3, hd r - 1⟩) ∨ (k = 3 ∧ Stk c f (t + 1) r ∧ ∃ tp nx, PopB w p c ⟨x, false, 3, tp, nx⟩))
def LayI (w : World) (p : Nat) (c : Cf) (f : Nat → Int) (t : Int) (L : List Int) (x : Int) (k : Nat) : Prop :=
  (k = 0 ∧ Stk c f t L ∧ PushB w p c ⟨x, 0, 0⟩) ∨ (k = 1 ∧ Stk c f t L ∧ PushB w p c ⟨x, 1, f 3⟩) ∨ (k = 2 ∧ Stk c f t L ∧ f (c.link x).toNat = hd L ∧ PushB w p c ⟨x, 2, f 3⟩) ∨ (k = 3 ∧ Stk c f (t + 1) (x :: L) ∧ ∃ tp, PushB w p c ⟨x, 3, tp⟩)
section
variable {c : Cf} {w w' : World} {p : Nat} {f : Nat → Int} {t x : Int} {L : List Int} {k : Nat}
end
section
variable {c : Cf} (hr : c.right = true) {w : World} {p m b n T : Nat} {M : Ms} {t : Int} {L : List Int} {x : Int} (hM : MemB w m b M) (hf : Fine M n T) (hn : (n : Int) = c.size) (hT : T ≤ 1000000) (np : ¬ two m b p) {k : Nat}
include hr hM hf hn hT np
end
end Go.Proofs.Ytijfkpoofpcacaa.StackI
end
section
namespace Go.Proofs.Ytijfkpoofpcacaa.QueueI
open Go.RowKit Go.Proofs.YtijfkpoofpcacaaW.PrintWords Go.Proofs.Ytijfkpoofpcacaa.Blk Go.Proofs.Ytijfkpoofpcacaa.StackC Go.Proofs.Ytijfkpoofpcacaa.StackT Go.Proofs.Ytijfkpoofpcacaa.StackP Go.Proofs.Ytijfkpoofpcacaa.PlanC Go.Proofs.Ytijfkpoofpcacaa.PlanD
def QJ (w : World) (B D : Nat) (v : Value) (xs : List Int) : Prop := (Kd.int .i64).Q 3 w B (fun k => k < D) v xs
section
variable {w w' : World} {B D : Nat} {v : Value} {xs : List Int}
theorem QJ.first {A : Option Addr} {n c : Nat} {x : Int} {s : List Int} (h : QJ w B D (.slice A n c) (x :: s)) : n = s.length + 1 ∧ n ≤ c ∧ ∃ b o, A = some ⟨b, o, none⟩ ∧ w.cell? ⟨b, o, none⟩ = some (.int .i64 x) := by
  obtain ⟨e, hc, hC⟩ := Kd.Q_reads' h
  obtain ⟨ad, ha, hcell⟩ := Kd.at_int hC 0 (by omega) (by simp)
  have hc0 : w.cell? (ad.add 0) = some (.int .i64 x) := hcell
  obtain ⟨b, o, spot⟩ := ad
  have hspot : spot = none := by simpa [Addr.add] using World.cell?_spot hc0
  subst hspot
  exact ⟨e, hc, b, o, ha, by simpa [Addr.add] using hc0⟩
end
structure Part (c : Cf) (L Q : List Int) : Prop where
  nd : Q.Nodup
  rg : ∀ x ∈ Q, 0 ≤ x ∧ x < c.S
  ap : ∀ x ∈ Q, x ∉ L
  all : ((L.length + Q.length : Nat) : Int) = c.S
end Go.Proofs.Ytijfkpoofpcacaa.QueueI
end
section
namespace Go.Proofs.Ytijfkpoofpcacaa.TakerS
open Go.RowKit Go.Proofs.YtijfkpoofpcacaaW.PrintWords Go.Proofs.Ytijfkpoofpcacaa.Blk Go.Proofs.Ytijfkpoofpcacaa.Core Go.Proofs.Ytijfkpoofpcacaa.MemC Go.Proofs.Ytijfkpoofpcacaa.MemD Go.Proofs.Ytijfkpoofpcacaa.MemT Go.Proofs.Ytijfkpoofpcacaa.Memory Go.Proofs.Ytijfkpoofpcacaa.PlanC Go.Proofs.Ytijfkpoofpcacaa.PlanD Go.Proofs.Ytijfkpoofpcacaa.StackC Go.Proofs.Ytijfkpoofpcacaa.StackL Go.Proofs.Ytijfkpoofpcacaa.StackS Go.Proofs.Ytijfkpoofpcacaa.StackT Go.Proofs.Ytijfkpoofpcacaa.StackF Go.Proofs.Ytijfkpoofpcacaa.StackP Go.Proofs.Ytijfkpoofpcacaa.StackQ Go.Proofs.Ytijfkpoofpcacaa.StackG Go.Proofs.Ytijfkpoofpcacaa.StackI Go.Proofs.Ytijfkpoofpcacaa.QueueI Go.Proofs.Ytijfkpoofpcacaa.TakerL Go.Proofs.Ytijfkpoofpcacaa.TakerM Go.Proofs.Ytijfkpoofpcacaa.Opens
attribute [local go_sem ↓] Go.wp_at_zero Go.wp_at_succ
theorem blk_one {w : World} {b t t' : Nat} {cs cs' : Array Value} (h : Blk w b t cs) (h' : Blk w b t' cs') : t = t' ∧ cs = cs' := by
  unfold Blk at h h'
  rw [h] at h'
  cases h'
  exact ⟨rfl, rfl⟩
def IQ (w : World) (lo : Nat) (v : Value) (xs : List Int) : Prop := (Kd.int .i64).Q 3 w lo (fun _ => True) v xs
section
variable {w w' : World} {lo : Nat} {v : Value} {xs : List Int}
theorem IQ.nil (w : World) (lo : Nat) : IQ w lo (.slice none 0 0) [] := Kd.Q_nil _ _ _ _ _
theorem IQ.typed (h : IQ w lo v xs) : ∀ k, v.ownBlock = some k → lo ≤ k ∧ k < w.heap.size ∧ ∃ cs, Blk w k 3 cs := by
  intro k hk
  obtain ⟨_, h1, h2, q, hq, cs, h3⟩ := (Kd.Q_bound h).1 k hk
  have : q = 3 := by simpa [Kd.int, Kd.scalar] using hq
  subst this
  exact ⟨h1, h2, cs, h3⟩
theorem IQ.below (h : IQ w lo v xs) (hb : Below w.heap.size w w') : IQ w' lo v xs := Kd.Q_below h hb
theorem IQ.drew (h : IQ w lo v xs) : IQ w.drew lo v xs := Kd.Q_drew h
theorem IQ.fr {S : Nat → Prop} (h : IQ w lo v xs) (hf : Fr S w w') (hS : ∀ k, v.ownBlock = some k → ¬ S k) : IQ w' lo v xs := by
  have h1 := Kd.Q_bound h
  obtain ⟨h0, inner, ho, hr⟩ := h
  have h2 : (Kd.int .i64).Q 3 w lo (fun k => v.ownBlock = some k) v xs := ⟨fun k hk => hk, inner, ho, hr.imp_ (fun _ _ hp => by simpa [Kd.int, Kd.scalar] using hp)⟩
  exact Kd.Q_mono (Kd.Q_step h2 (fun k hk hl => hf.keep k hl (hS k hk))) (fun _ _ => trivial)
theorem IQ.li (h : IQ w lo v xs) (hl : xs.length ≤ 100000) : Li w lo v xs := by
  obtain ⟨A, c, rfl, hc, hC⟩ := Kd.Q_reads h
  refine ⟨A, c, rfl, hc, li_of_C hC, fun b o e hn => ?_, hl⟩
  subst e
  exact (IQ.typed h b rfl).1
theorem IQ.slice (h : IQ w lo v xs) : ∃ A c, v = .slice A xs.length c ∧ xs.length ≤ c := Kd.Q_slice h
theorem IQ.tail {A : Option Addr} {n c : Nat} {x : Int} {s : List Int} (h : IQ w lo (.slice A n c) (x :: s)) : IQ w lo (.slice (if c = 1 then A else A.map (·.add 1)) (n - 1) (c - 1)) s := Kd.Q_drop h (k := 1) (by simp)
theorem IQ.first {A : Option Addr} {n c : Nat} {x : Int} {s : List Int} (h : IQ w lo (.slice A n c) (x :: s)) : n = s.length + 1 ∧ n ≤ c ∧ ∃ b o, A = some ⟨b, o, none⟩ ∧ w.cell? ⟨b, o, none⟩ = some (.int .i64 x) :=
  QJ.first (D := w.heap.size) (Kd.Q_mono (Kd.Q_bound h) (fun k hk => hk.2.2.1))
end
theorem fr_grown {S : Nat → Prop} {w w' : World} {r : Option Nat} (h : w.grownBy w' r) (hS : ∀ k, some k = r → S k) : Fr S w w' :=
  ⟨h.os, h.tape, h.output, h.size, fun k hk hs => h.block k hk (fun e => hs (hS k e))⟩
section
variable {w : World} {B lo lu lv o : Nat} {cs : Array Value} (hB : Blk w B 74 cs) {bs s : List Int} {u v : Value} {x : Int}
include hB
end
end Go.Proofs.Ytijfkpoofpcacaa.TakerS
end
section
namespace Go.Proofs.Ytijfkpoofpcacaa.TakerT
open Go.RowKit Go.Proofs.YtijfkpoofpcacaaW.PrintWords Go.Proofs.Ytijfkpoofpcacaa.PArenaPlays Go.Proofs.Ytijfkpoofpcacaa.Blk Go.Proofs.Ytijfkpoofpcacaa.Core Go.Proofs.Ytijfkpoofpcacaa.PuArenaPlays Go.Proofs.Ytijfkpoofpcacaa.MemC Go.Proofs.Ytijfkpoofpcacaa.MemD Go.Proofs.Ytijfkpoofpcacaa.MemT Go.Proofs.Ytijfkpoofpcacaa.Memory Go.Proofs.Ytijfkpoofpcacaa.PlanC Go.Proofs.Ytijfkpoofpcacaa.PlanD Go.Proofs.Ytijfkpoofpcacaa.StackC Go.Proofs.Ytijfkpoofpcacaa.StackL Go.Proofs.Ytijfkpoofpcacaa.StackS Go.Proofs.Ytijfkpoofpcacaa.StackT Go.Proofs.Ytijfkpoofpcacaa.StackF Go.Proofs.Ytijfkpoofpcacaa.StackP Go.Proofs.Ytijfkpoofpcacaa.StackQ Go.Proofs.Ytijfkpoofpcacaa.StackG Go.Proofs.Ytijfkpoofpcacaa.StackI Go.Proofs.Ytijfkpoofpcacaa.QueueI Go.Proofs.Ytijfkpoofpcacaa.TakerL Go.Proofs.Ytijfkpoofpcacaa.TakerM Go.Proofs.Ytijfkpoofpcacaa.TakerS Go.Proofs.Ytijfkpoofpcacaa.Opens
def sarr (z C : Nat) (F : Nat → Nat → Value) : Array Value := (Array.range (z * C)).map fun x => F (x / z) (x % z)
theorem sarr_size (z C : Nat) (F : Nat → Nat → Value) : (sarr z C F).size = z * C := by simp [sarr]
theorem mul_lt {z C i k : Nat} (hi : i < C) (hk : k < z) : z * i + k < z * C := by
  have : z * (i + 1) ≤ z * C := Nat.mul_le_mul_left z hi
  rw [Nat.mul_add, Nat.mul_one] at this
  omega
theorem div_mod {z i k : Nat} (hk : k < z) : (z * i + k) / z = i ∧ (z * i + k) % z = k := by
  refine ⟨?_, ?_⟩
  · rw [Nat.mul_add_div (by omega), Nat.div_eq_of_lt hk, Nat.add_zero]
  · rw [Nat.mul_add_mod, Nat.mod_eq_of_lt hk]
theorem sarr_get {z C : Nat} {F : Nat → Nat → Value} {i k : Nat} (hi : i < C) (hk : k < z) : (sarr z C F)[z * i + k]? = some (F i k) := by
  have h1 := mul_lt hi hk
  obtain ⟨h2, h3⟩ := div_mod (i := i) hk
  simp [sarr, h1, h2, h3]
theorem sarr_set {z C : Nat} {F G : Nat → Nat → Value} {i k : Nat} {v : Value} (hi : i < C) (hk : k < z) (hv : G i k = v) (ho : ∀ j r, r < z → (j ≠ i ∨ r ≠ k) → G j r = F j r) : (sarr z C F).setIfInBounds (z * i + k) v = sarr z C G := by
  refine Array.ext_getElem? fun x => ?_
  rw [Array.getElem?_setIfInBounds, sarr_size]
  by_cases hx : x < z * C
  · have hz : 0 < z := by omega
    obtain ⟨j, r, rfl, hr⟩ : ∃ j r, x = z * j + r ∧ r < z := ⟨x / z, x % z, by rw [Nat.div_add_mod], Nat.mod_lt _ hz⟩
    have hj : j < C := by
      rcases Nat.lt_or_ge j C with q | q
      · exact q
      · have := Nat.mul_le_mul_left z q; omega
    rw [sarr_get hj hr, sarr_get hj hr]
    by_cases q : j = i
    · by_cases e : r = k
      · subst q; subst e; rw [if_pos rfl, if_pos hx, hv]
      · rw [if_neg (by subst q; omega), ho j r hr (.inr e)]
    · rw [if_neg, ho j r hr (.inl q)]
      intro e
      have := (div_mod (i := i) hk).1
      rw [e, (div_mod (i := j) hr).1] at this
      exact q this
  · rw [if_neg (by have := mul_lt hi hk; omega), Array.getElem?_eq_none (by rw [sarr_size]; omega), Array.getElem?_eq_none (by rw [sarr_size]; omega)]
def tv (τ : Tk) (k : Nat) : Value :=
  if k = 0 then τ.hv else if k = 1 then τ.wv else if k = 2 then .pointer (τ.pop.map fun x => ⟨x.1, 0, none⟩) else if k = 3 then .pointer (τ.push.map fun x => ⟨x.1, 0, none⟩) else .int .i64 τ.lays
def tarr (K : Nat) (T : Nat → Tk) : Array Value := sarr 5 K (fun i k => tv (T i) k)
def WV (w0 : World) (v : Value) : Prop := ∃ (A : Option Addr) (n c : Nat) (g : Nat → Bool), v = .slice A n c ∧ n ≤ c ∧ Sl w0 A n 1 (fun i _ => .bool (g i))
structure TB (c : Cf) (w0 w : World) (lo B K : Nat) (T : Nat → Tk) : Prop where
  blk : Blk w B 74 (tarr K T)
  low : lo ≤ B
  pop : ∀ i, i < K → ∀ p q, (T i).pop = some (p, q) → PopB w p c q ∧ lo ≤ p
  push : ∀ i, i < K → ∀ p q, (T i).push = some (p, q) → PushB w p c q ∧ lo ≤ p
  has : ∀ i, i < K → IQ w lo (T i).hv (T i).h
  apH : ∀ i j, i < K → j < K → i ≠ j → ∀ k, (T i).hv.ownBlock = some k → (T j).hv.ownBlock ≠ some k
  apP : ∀ i j, i < K → j < K → i ≠ j → ∀ p q p' q', (T i).pop = some (p, q) → (T j).pop = some (p', q') → p ≠ p'
  apQ : ∀ i j, i < K → j < K → i ≠ j → ∀ p q p' q', (T i).push = some (p, q) → (T j).push = some (p', q') → p ≠ p'
  work : ∀ i, i < K → WV w0 (T i).wv
section
variable {c : Cf} {w0 w w' : World} {lo B K i N : Nat} {T : Nat → Tk} {τ : Tk} {S : Nat → Prop}
def okT (t : Nat) : Prop := t ≠ 74 ∧ t ≠ 124 ∧ t ≠ 33 ∧ t ≠ 66 ∧ t ≠ 137 ∧ t ≠ 3
def Keeps (lo : Nat) (w w' : World) : Prop := (∀ q t cs, okT t → Blk w q t cs → Blk w' q t cs) ∧ Below lo w w'
end
theorem refListQ (c : Cf) (w : World) (A : Option Addr) (cc b n : Nat) (f : Nat → Int) (hf : U f) (h : c.right = true) (hn : (n : Int) = c.size) (hR : RowB w A cc b n f) : Calls Try.prog 30 #[.agg #[.int .i64 c.S, .int .i64 c.A, .int .i64 c.C, .int .i64 c.H, .int .i64 c.G, .int .i64 c.K], .slice A n cc] w fun e w' =>
    ∃ v, e = .returned v ∧ IQ w' w.heap.size v (listV c f) ∧ Below w.heap.size w w' := by
  have hb := size_bd h
  obtain ⟨rfl, hc, hR'⟩ := rd_of_row hR (by unfold Cf.size at hn; omega)
  obtain ⟨S, X, C, H, G, K⟩ := c
  have h' : rightB S X C H G K = true := h
  have hr := right_iff.1 h'
  obtain ⟨s, rfl⟩ := Int.eq_ofNat_of_zero_le (show 0 ≤ S by omega)
  obtain ⟨c, rfl⟩ := Int.eq_ofNat_of_zero_le (show 0 ≤ C by omega)
  obtain ⟨hh, rfl⟩ := Int.eq_ofNat_of_zero_le (show 0 ≤ H by omega)
  have hn' : (n : Int) = sizeV s X c hh := hn
  have hC := C_of_rd hR' (by unfold Cf.size at hn; omega)
  have hlen : ((List.range n).map f).length = n := by simp
  have hcl := withyref07_List.calls 3000 s X c hh G K (some ⟨b, 0, none⟩) cc ((List.range n).map f) _ w hC (by rw [hlen]; exact hc) (ref_f s c hh X G K f hf n h hn')
  rw [hlen] at hcl
  refine hcl.mono ?_
  rintro e w' ⟨v, rfl, hv, hbl⟩
  exact ⟨v, rfl, Kd.Q_mono (Kd.Q_of_R hv) (fun _ _ => trivial), hbl⟩
end Go.Proofs.Ytijfkpoofpcacaa.TakerT
end
section
namespace Go.Proofs.Ytijfkpoofpcacaa.MakerT
open Go.RowKit Go.Proofs.YtijfkpoofpcacaaW.PrintWords Go.Proofs.Ytijfkpoofpcacaa.Blk Go.Proofs.Ytijfkpoofpcacaa.Core Go.Proofs.Ytijfkpoofpcacaa.MemC Go.Proofs.Ytijfkpoofpcacaa.MemD Go.Proofs.Ytijfkpoofpcacaa.MemT Go.Proofs.Ytijfkpoofpcacaa.PlanC Go.Proofs.Ytijfkpoofpcacaa.PlanD Go.Proofs.Ytijfkpoofpcacaa.StackC Go.Proofs.Ytijfkpoofpcacaa.StackL Go.Proofs.Ytijfkpoofpcacaa.StackS Go.Proofs.Ytijfkpoofpcacaa.ArenaC Go.Proofs.Ytijfkpoofpcacaa.ArenaM Go.Proofs.Ytijfkpoofpcacaa.ArenaP Go.Proofs.Ytijfkpoofpcacaa.ArenaL Go.Proofs.Ytijfkpoofpcacaa.ArenaQ Go.Proofs.Ytijfkpoofpcacaa.MakerL Go.Proofs.Ytijfkpoofpcacaa.Opens
open Go.Proofs.Ytijfkpoofpcacaa.TakerS (IQ blk_one)
open Go.Proofs.Ytijfkpoofpcacaa.TakerT (sarr sarr_get sarr_set sarr_size)
def mv (τ : Mr) (k : Nat) : Value :=
  if k = 0 then τ.wv else if k = 1 then .bool τ.fr else if k = 2 then .bool τ.rc else if k = 3 then .int .u8 τ.ar else if k = 4 then .int .u8 τ.ep
  else if k = 5 then .int .u64 τ.wd else if k = 6 then τ.hv else if k = 7 then .pointer (τ.ma.map fun z => ⟨z.p, 0, none⟩) else if k = 8 then .pointer (τ.fe.map fun z => ⟨z.p, 0, none⟩) else .int .i64 τ.fs
def marr (K : Nat) (T : Nat → Mr) : Array Value := sarr 10 K (fun i k => mv (T i) k)
theorem marr_get {K : Nat} {T : Nat → Mr} {i k : Nat} (hi : i < K) (hk : k < 10) : (marr K T)[10 * i + k]? = some (mv (T i) k) := sarr_get hi hk
theorem ten {P : Nat → Prop} (h0 : P 0) (h1 : P 1) (h2 : P 2) (h3 : P 3) (h4 : P 4) (h5 : P 5) (h6 : P 6) (h7 : P 7) (h8 : P 8) (h9 : P 9) : ∀ j, j < 10 → P j := by
  intro j hj
  match j, hj with
  | 0, _ => exact h0
  | 1, _ => exact h1
  | 2, _ => exact h2
  | 3, _ => exact h3
  | 4, _ => exact h4
  | 5, _ => exact h5
  | 6, _ => exact h6
  | 7, _ => exact h7
  | 8, _ => exact h8
  | 9, _ => exact h9
theorem marr_set {K : Nat} {T : Nat → Mr} {i k : Nat} {v : Value} {τ : Mr} (hi : i < K) (hk : k < 10) (h : ∀ j, j < 10 → mv τ j = if j = k then v else mv (T i) j) : (marr K T).setIfInBounds (10 * i + k) v = marr K (put T i τ) := by
  refine sarr_set hi hk ?_ (fun j r hr h2 => ?_)
  · show mv (put T i τ i) k = v
    rw [put_eq, h k hk, if_pos rfl]
  · show mv (put T i τ j) r = mv (T j) r
    by_cases e : j = i
    · subst e; rw [put_eq, h r hr]
      rw [if_neg (h2.resolve_left (fun k => k rfl))]
    · rw [put_ne e]
theorem marr_congr {K : Nat} {T T' : Nat → Mr} (h : ∀ i, i < K → ∀ k, k < 10 → mv (T i) k = mv (T' i) k) : marr K T = marr K T' := by
  unfold marr sarr
  refine Array.ext (by simp) fun x h1 h2 => ?_
  have hx : x < 10 * K := by simpa using h1
  simp only [Array.getElem_map, Array.getElem_range]
  exact h _ (by omega) _ (by omega)
theorem put_put {T : Nat → Mr} {i : Nat} {a b : Mr} : put (put T i a) i b = put T i b := by
  funext j; unfold put; split <;> simp_all
section
variable {K : Nat} {T : Nat → Mr} {i : Nat} (hi : i < K)
include hi
theorem marr_wv (v : Value) : (marr K T).setIfInBounds (10 * i) v = marr K (put T i { T i with wv := v }) := marr_set (k := 0) hi (by decide) (ten rfl rfl rfl rfl rfl rfl rfl rfl rfl rfl)
theorem marr_hv (v : Value) (h : List Int) : (marr K T).setIfInBounds (10 * i + 6) v = marr K (put T i { T i with hv := v, h := h }) := marr_set hi (by decide) (ten rfl rfl rfl rfl rfl rfl rfl rfl rfl rfl)
theorem marr_ma (z : Option MkP) : (marr K T).setIfInBounds (10 * i + 7) (.pointer (z.map fun z => ⟨z.p, 0, none⟩)) = marr K (put T i { T i with ma := z }) := marr_set hi (by decide) (ten rfl rfl rfl rfl rfl rfl rfl rfl rfl rfl)
theorem marr_fe (z : Option FeP) : (marr K T).setIfInBounds (10 * i + 8) (.pointer (z.map fun z => ⟨z.p, 0, none⟩)) = marr K (put T i { T i with fe := z }) := marr_set hi (by decide) (ten rfl rfl rfl rfl rfl rfl rfl rfl rfl rfl)
theorem marr_fs (x : Int) : (marr K T).setIfInBounds (10 * i + 9) (.int .i64 x) = marr K (put T i { T i with fs := x }) := marr_set hi (by decide) (ten rfl rfl rfl rfl rfl rfl rfl rfl rfl rfl)
theorem marr_now (fr rc : Bool) (ar ep wd : Int) : (((((marr K T).setIfInBounds (10 * i + 1) (.bool fr)).setIfInBounds (10 * i + 2) (.bool rc)).setIfInBounds (10 * i + 3) (.int .u8 ar)).setIfInBounds (10 * i + 4) (.int .u8 ep)).setIfInBounds (10 * i + 5) (.int .u64 wd) = marr K (put T i { T i with fr := fr, rc := rc, ar := ar, ep := ep, wd := wd }) := by
  rw [marr_set (τ := { T i with fr := fr }) (v := .bool fr) hi (k := 1) (by decide) (ten rfl rfl rfl rfl rfl rfl rfl rfl rfl rfl)]
  rw [marr_set (τ := { T i with fr := fr, rc := rc }) (v := .bool rc) hi (k := 2) (by decide) (by rw [put_eq]; exact ten rfl rfl rfl rfl rfl rfl rfl rfl rfl rfl), put_put]
  rw [marr_set (τ := { T i with fr := fr, rc := rc, ar := ar }) (v := .int .u8 ar) hi (k := 3) (by decide) (by rw [put_eq]; exact ten rfl rfl rfl rfl rfl rfl rfl rfl rfl rfl), put_put]
  rw [marr_set (τ := { T i with fr := fr, rc := rc, ar := ar, ep := ep }) (v := .int .u8 ep) hi (k := 4) (by decide) (by rw [put_eq]; exact ten rfl rfl rfl rfl rfl rfl rfl rfl rfl rfl), put_put]
  rw [marr_set (τ := { T i with fr := fr, rc := rc, ar := ar, ep := ep, wd := wd }) (v := .int .u64 wd) hi (k := 5) (by decide) (by rw [put_eq]; exact ten rfl rfl rfl rfl rfl rfl rfl rfl rfl rfl), put_put]
end
def worldA (c : Cf) (m RB : Nat) : Array Value := #[.int .i64 c.S, .int .i64 c.A, .int .i64 c.C, .int .i64 c.H, .int .i64 c.G, .int .i64 c.K, .pointer (some ⟨m, 0, none⟩), .slice (some ⟨RB, 0, none⟩) c.S.toNat c.S.toNat]
def foot (τ : Mr) (k : Nat) : Prop := (∃ z, τ.ma = some z ∧ (k = z.p ∨ k = z.q ∨ k = z.r)) ∨ (∃ z, τ.fe = some z ∧ (k = z.p ∨ z.qa = some k)) ∨ τ.hv.ownBlock = some k
structure Wk where
  fr : Bool
  rc : Bool
  ar : Int
  ep : Int
  wd : Int
def Wk.ok (x : Wk) : Prop := (0 ≤ x.ar ∧ x.ar < 256) ∧ (0 ≤ x.ep ∧ x.ep < 256) ∧ 0 ≤ x.wd ∧ x.wd < 18446744073709551616
def wkv (x : Wk) (k : Nat) : Value := if k = 0 then .bool x.fr else if k = 1 then .bool x.rc else if k = 2 then .int .u8 x.ar else if k = 3 then .int .u8 x.ep else .int .u64 x.wd
def WV (w0 : World) (v : Value) : Prop := ∃ (A : Option Addr) (n c : Nat) (g : Nat → Wk), v = .slice A n c ∧ n ≤ c ∧ (∀ j, j < n → (g j).ok) ∧ Sl w0 A n 5 (fun j k => wkv (g j) k)
def fixd (B WB RB m b : Nat) (k : Nat) : Prop := k = B ∨ k = WB ∨ k = RB ∨ k = m ∨ k = b
structure AB (c : Cf) (w0 w : World) (lo B WB RB m b K : Nat) (T : Nat → Mr) (μ : Int → Int) : Prop where
  blk : Blk w B 107 (marr K T)
  wld : Blk w WB 101 (worldA c m RB)
  row : Blk w RB 3 (rowF .i64 c.S.toNat (fun j => μ j))
  ne : WB ≠ B ∧ RB ≠ B ∧ RB ≠ WB ∧ (∀ k, two m b k → k ≠ B ∧ k ≠ WB ∧ k ≠ RB)
  low : ∀ k, fixd B WB RB m b k → lo ≤ k
  ma : ∀ i, i < K → ∀ z, (T i).ma = some z → MkB w z.p z.q z.r c (roomI c) (T i).g z.a ∧ MkOk (roomI c) z.a ∧ z.q ≠ z.p ∧ z.r ≠ z.p ∧ z.r ≠ z.q
  fe : ∀ i, i < K → ∀ z, (T i).fe = some z → FrB w z.p c z.a z.qa ∧ FreOk c z.a ∧ ∀ q, z.qa = some q → q ≠ z.p ∧ (T i).hv.ownBlock ≠ some q
  has : ∀ i, i < K → IQ w lo (T i).hv (T i).h
  ft : ∀ i, i < K → ∀ k, foot (T i) k → lo ≤ k ∧ k < w.heap.size ∧ ¬ fixd B WB RB m b k
  ap : ∀ i j, i < K → j < K → i ≠ j → ∀ k, foot (T i) k → ¬ foot (T j) k
  work : ∀ i, i < K → WV w0 (T i).wv
  num : ∀ i, i < K → (0 ≤ (T i).ar ∧ (T i).ar < 256) ∧ (0 ≤ (T i).ep ∧ (T i).ep < 256) ∧ 0 ≤ (T i).wd ∧ (T i).wd < 18446744073709551616
section
variable {c : Cf} {w0 w w' : World} {lo B WB RB m b K i : Nat} {T : Nat → Mr} {μ μ' : Int → Int} {τ : Mr} {S : Nat → Prop}
theorem AB.set (h : AB c w0 w lo B WB RB m b K T μ) (hi : i < K) (hf : Fr S w w') (hS : ∀ k, k < w.heap.size → S k → foot (T i) k ∨ fixd B WB RB m b k)
    (hb : Blk w' B 107 (marr K (put T i τ))) (hw : Blk w' WB 101 (worldA c m RB)) (hrow : Blk w' RB 3 (rowF .i64 c.S.toNat (fun j => μ' j)))
    (hma : ∀ z, τ.ma = some z → MkB w' z.p z.q z.r c (roomI c) τ.g z.a ∧ MkOk (roomI c) z.a ∧ z.q ≠ z.p ∧ z.r ≠ z.p ∧ z.r ≠ z.q)
    (hfe : ∀ z, τ.fe = some z → FrB w' z.p c z.a z.qa ∧ FreOk c z.a ∧ ∀ q, z.qa = some q → q ≠ z.p ∧ τ.hv.ownBlock ≠ some q)
    (hh : IQ w' lo τ.hv τ.h) (hft : ∀ k, foot τ k → foot (T i) k ∨ (w.heap.size ≤ k ∧ k < w'.heap.size)) (hlo : lo ≤ w.heap.size) (hwk : WV w0 τ.wv)
    (hnum : (0 ≤ τ.ar ∧ τ.ar < 256) ∧ (0 ≤ τ.ep ∧ τ.ep < 256) ∧ 0 ≤ τ.wd ∧ τ.wd < 18446744073709551616) (hM : m < w.heap.size ∧ b < w.heap.size) : AB c w0 w' lo B WB RB m b K (put T i τ) μ' := by
  have hsz := hf.size
  have nS : ∀ j, j < K → j ≠ i → ∀ k, foot (T j) k → ¬ S k := fun j hj hne k hk hs => by
    obtain ⟨h1, h2, h3⟩ := h.ft j hj k hk
    rcases hS k h2 hs with e | e
    · exact h.ap i j hi hj (fun e => hne e.symm) k e hk
    · exact h3 e
  have hfx : ∀ k, fixd B WB RB m b k → k < w.heap.size := by
    rintro k (rfl | rfl | rfl | rfl | rfl)
    · exact h.blk.lt
    · exact h.wld.lt
    · exact h.row.lt
    · exact hM.1
    · exact hM.2
  refine ⟨hb, hw, hrow, h.ne, h.low, fun j hj z hz => ?_, fun j hj z hz => ?_, fun j hj => ?_, fun j hj k hk => ?_, fun j l hj hl hne k hk hk2 => ?_, fun j hj => ?_, fun j hj => ?_⟩
  · by_cases e : j = i
    · subst e; rw [put_eq] at hz ⊢; exact hma z hz
    · rw [put_ne e] at hz ⊢
      obtain ⟨a1, a2⟩ := h.ma j hj z hz
      have hn := fun k hk => nS j hj e k (.inl ⟨z, hz, hk⟩)
      exact ⟨a1.fr hf (hn _ (.inl rfl)) (hn _ (.inr (.inl rfl))) (hn _ (.inr (.inr rfl))), a2⟩
  · by_cases e : j = i
    · subst e; rw [put_eq] at hz ⊢; exact hfe z hz
    · rw [put_ne e] at hz ⊢
      obtain ⟨a1, a2⟩ := h.fe j hj z hz
      have hn := fun k hk => nS j hj e k (.inr (.inl ⟨z, hz, hk⟩))
      exact ⟨a1.fr hf (hn _ (.inl rfl)) (fun q hq => hn q (.inr hq)), a2⟩
  · by_cases e : j = i
    · subst e; rw [put_eq]; exact hh
    · rw [put_ne e]; exact (h.has j hj).fr hf (fun k hk => nS j hj e k (.inr (.inr hk)))
  · by_cases e : j = i
    · subst e; rw [put_eq] at hk
      rcases hft k hk with k2 | k2
      · obtain ⟨h1, h2, h3⟩ := h.ft j hj k k2; exact ⟨h1, by omega, h3⟩
      · exact ⟨by omega, k2.2, fun x => by have := hfx k x; omega⟩
    · rw [put_ne e] at hk
      obtain ⟨h1, h2, h3⟩ := h.ft j hj k hk; exact ⟨h1, by omega, h3⟩
  · by_cases e : j = i
    · subst e
      have e2 : l ≠ j := fun k => hne k.symm
      rw [put_eq] at hk; rw [put_ne e2] at hk2
      rcases hft k hk with k2 | k2
      · exact h.ap j l hj hl hne k k2 hk2
      · have := (h.ft l hl k hk2).2.1; omega
    · rw [put_ne e] at hk
      by_cases e2 : l = i
      · subst e2; rw [put_eq] at hk2
        rcases hft k hk2 with k2 | k2
        · exact h.ap j l hj hl hne k hk k2
        · have := (h.ft j hj k hk).2.1; omega
      · rw [put_ne e2] at hk2; exact h.ap j l hj hl hne k hk hk2
  · by_cases e : j = i
    · subst e; rw [put_eq]; exact hwk
    · rw [put_ne e]; exact h.work j hj
  · by_cases e : j = i
    · subst e; rw [put_eq]; exact hnum
    · rw [put_ne e]; exact h.num j hj
theorem AB.below (h : AB c w0 w lo B WB RB m b K T μ) (hb : Below w.heap.size w w') : AB c w0 w' lo B WB RB m b K T μ :=
  ⟨h.blk.below hb h.blk.lt, h.wld.below hb h.wld.lt, h.row.below hb h.row.lt, h.ne, h.low, fun j hj z hz => ⟨(h.ma j hj z hz).1.below hb, (h.ma j hj z hz).2⟩, fun j hj z hz => ⟨(h.fe j hj z hz).1.below hb, (h.fe j hj z hz).2⟩, fun j hj => (h.has j hj).below hb, fun j hj k hk => by obtain ⟨h1, h2, h3⟩ := h.ft j hj k hk; exact ⟨h1, Nat.lt_of_lt_of_le h2 hb.size, h3⟩, h.ap, h.work, h.num⟩
theorem AB.lo_size (h : AB c w0 w lo B WB RB m b K T μ) : lo ≤ w.heap.size := by have := h.low B (.inl rfl); have := h.blk.lt; omega
theorem world_cells {w : World} {WB m RB t : Nat} {c : Cf} (h : Blk w WB t (worldA c m RB)) : (w.cell? ⟨WB, 0, none⟩ = some (.int .i64 c.S) ∧ w.cell? ⟨WB, 1, none⟩ = some (.int .i64 c.A) ∧ w.cell? ⟨WB, 2, none⟩ = some (.int .i64 c.C) ∧ w.cell? ⟨WB, 3, none⟩ = some (.int .i64 c.H) ∧ w.cell? ⟨WB, 4, none⟩ = some (.int .i64 c.G) ∧ w.cell? ⟨WB, 5, none⟩ = some (.int .i64 c.K)) ∧ w.cell? ⟨WB, 6, none⟩ = some (.pointer (some ⟨m, 0, none⟩)) ∧ w.cell? ⟨WB, 7, none⟩ = some (.slice (some ⟨RB, 0, none⟩) c.S.toNat c.S.toNat) :=
  ⟨⟨h.cell (i := 0) rfl, h.cell (i := 1) rfl, h.cell (i := 2) rfl, h.cell (i := 3) rfl, h.cell (i := 4) rfl, h.cell (i := 5) rfl⟩, h.cell (i := 6) rfl, h.cell (i := 7) rfl⟩
end
end Go.Proofs.Ytijfkpoofpcacaa.MakerT
end
section
namespace Go.Proofs.Ytijfkpoofpcacaa.MakerU
open Go.RowKit Go.Proofs.YtijfkpoofpcacaaW.PrintWords Go.Proofs.Ytijfkpoofpcacaa.PArenaPlays Go.Proofs.Ytijfkpoofpcacaa.PuArenaPlays Go.Proofs.Ytijfkpoofpcacaa.Blk Go.Proofs.Ytijfkpoofpcacaa.Core Go.Proofs.Ytijfkpoofpcacaa.MemC Go.Proofs.Ytijfkpoofpcacaa.MemD Go.Proofs.Ytijfkpoofpcacaa.MemT Go.Proofs.Ytijfkpoofpcacaa.PlanC Go.Proofs.Ytijfkpoofpcacaa.PlanD Go.Proofs.Ytijfkpoofpcacaa.RefM Go.Proofs.Ytijfkpoofpcacaa.StackC Go.Proofs.Ytijfkpoofpcacaa.StackL Go.Proofs.Ytijfkpoofpcacaa.StackS Go.Proofs.Ytijfkpoofpcacaa.StackF Go.Proofs.Ytijfkpoofpcacaa.StackP Go.Proofs.Ytijfkpoofpcacaa.StackG Go.Proofs.Ytijfkpoofpcacaa.StackT Go.Proofs.Ytijfkpoofpcacaa.Memory Go.Proofs.Ytijfkpoofpcacaa.HeadC Go.Proofs.Ytijfkpoofpcacaa.ArenaC Go.Proofs.Ytijfkpoofpcacaa.ArenaM Go.Proofs.Ytijfkpoofpcacaa.ArenaP Go.Proofs.Ytijfkpoofpcacaa.ArenaL Go.Proofs.Ytijfkpoofpcacaa.ArenaR Go.Proofs.Ytijfkpoofpcacaa.ArenaQ Go.Proofs.Ytijfkpoofpcacaa.ArenaW Go.Proofs.Ytijfkpoofpcacaa.MakerL Go.Proofs.Ytijfkpoofpcacaa.MakerT Go.Proofs.Ytijfkpoofpcacaa.Opens
theorem refBodyCi (c : Cf) (w : World) (s i : Int) (hr0 : c.right = true) : Calls Try.prog 56 #[.agg #[.int .i64 c.S, .int .i64 c.A, .int .i64 c.C, .int .i64 c.H, .int .i64 c.G, .int .i64 c.K], .agg #[.string ⟨#[98, 111, 100, 121]⟩, .int .i64 s, .int .i64 i]] w fun e w' => e = .returned (.int .i64 (c.body s i)) ∧ Below w.heap.size w w' := by
  obtain ⟨S, X, C, H, G, K⟩ := c
  have h : rightB S X C H G K = true := hr0
  have hr := right_iff.1 h
  obtain ⟨s', rfl⟩ := Int.eq_ofNat_of_zero_le (show 0 ≤ S by omega)
  obtain ⟨c, rfl⟩ := Int.eq_ofNat_of_zero_le (show 0 ≤ C by omega)
  obtain ⟨hh, rfl⟩ := Int.eq_ofNat_of_zero_le (show 0 ≤ H by omega)
  refine withyref06_At.calls 2000 s' X c hh G K ⟨#[98, 111, 100, 121]⟩ s i _ w ?_
  have hR : (2 : Int) + (roomN X : Nat) = roomV X := by unfold roomN roomV; split <;> omega
  rw [p_rAt 2000 s' c hh X G K ⟨#[98, 111, 100, 121]⟩ s i (by decide) h (0 ≤ s ∧ s < s' ∧ 0 ≤ i ∧ i < roomN X) mem_body]
  unfold Cf.body Cf.right
  congr 1
  by_cases d : 0 ≤ s ∧ s < s' ∧ 0 ≤ i ∧ i < roomN X
  · rw [if_pos d, if_pos ⟨h, d.1, d.2.1, d.2.2.1, show (2 : Int) + i < roomV X by omega⟩]
    simp [posW, slotsV, hR]
  · rw [if_neg d, if_neg (fun x => d ⟨x.2.1, x.2.2.1, x.2.2.2.1, by have : (2 : Int) + i < roomV X := x.2.2.2.2; omega⟩)]
set_option maxHeartbeats 1000000 in
set_option maxRecDepth 100000 in
theorem atHeaderC (c : Cf) (w : World) (WB m RB : Nat) (s : Int) (hW : Blk w WB 101 (worldA c m RB)) (hr : c.right = true) (hs : InR c s) : Calls Try.prog 63 #[.pointer (some ⟨WB, 0, none⟩), .string ⟨#[104, 101, 97, 100, 101, 114]⟩, .int .i64 s, .int .i64 0] w fun e w' => e = .returned (.int .i64 (c.pl s 0)) ∧ Below w.heap.size w w' := by
  obtain ⟨⟨k0, k1, k2, k3, k4, k5⟩, k6, k7⟩ := world_cells hW
  have e : c.header s = c.pl s 0 := header_pl hr hs
  have hT := Lib.hid (Below.refl w.heap.size w)
  clear hr hs hW
  go_enter Try.func63, Try.ntmps63
  go_wp2_with (go_at_call 56; refine (refHeaderC c _ s).mono ?_; rintro e w6 ⟨rfl, hb⟩; replace hT := Lib.hid (hT.out.trans (hb.mono (by have := hT.out.size; omega))); clear hb)
  go_ret
  exact ⟨rfl, hT.out⟩
set_option maxHeartbeats 1000000 in
set_option maxRecDepth 100000 in
theorem atBodyC (c : Cf) (w : World) (WB m RB : Nat) (s i : Int) (hW : Blk w WB 101 (worldA c m RB)) (hr : c.right = true) : Calls Try.prog 63 #[.pointer (some ⟨WB, 0, none⟩), .string ⟨#[98, 111, 100, 121]⟩, .int .i64 s, .int .i64 i] w fun e w' => e = .returned (.int .i64 (c.body s i)) ∧ Below w.heap.size w w' := by
  obtain ⟨⟨k0, k1, k2, k3, k4, k5⟩, k6, k7⟩ := world_cells hW
  have hT := Lib.hid (Below.refl w.heap.size w)
  replace hr := Lib.hid hr
  clear hW
  go_enter Try.func63, Try.ntmps63
  go_wp2_with (go_at_call 56; refine (refBodyCi c _ s i hr.out).mono ?_; rintro e w6 ⟨rfl, hb⟩; replace hT := Lib.hid (hT.out.trans (hb.mono (by have := hT.out.size; omega))); clear hb)
  go_ret
  exact ⟨rfl, hT.out⟩
theorem meetC (w : World) (A B : Nat) (u v : Value) (l s : List Int) (hu : Li w A u l) (hv : Li w B v s) (hd : ∀ x, x ∈ l → x ∉ s) : Calls Try.prog 61 #[u, v] w fun e w' => e = .returned (.bool false) ∧ w = w' := by
  obtain ⟨A1, cc, rfl, hc, hl, h1⟩ := Li.cell hu
  have hno : ∀ i, i < l.length → decide (l.getD i 0 ∈ s) = false := fun i hi => decide_eq_false (hd _ (by rw [getD_eq hi]; exact List.getElem_mem hi))
  replace hno := Lib.hid hno
  replace h1 := Lib.hid h1
  replace hv := Lib.hid hv
  clear hu hd
  generalize l.length = n at *
  go_enter Try.func61, Try.ntmps61
  go_wp2
  go_loopw [5] (fun z wr => ∃ i : Nat, i ≤ n ∧ z = .int .i64 (i : Int) ∧ w = wr) (fun z _ => n - (intOf z).toNat)
  case atStart => exact ⟨0, Nat.zero_le _, rfl, rfl⟩
  case round =>
    obtain ⟨i, hi, rfl, rfl⟩ := hrel
    by_cases hlt : i < n
    · obtain ⟨b1, o1, rfl, x1⟩ := h1.out i hlt
      have e0 := Lib.hid (hno.out i hlt)
      generalize l.getD i 0 = y at *
      go_wp2_with (go_at_call 49; refine (hasC _ _ _ s _ hv.out).mono ?_; rintro e w' ⟨rfl, rfl⟩; rw [e0.out])
      go_roundw
      case measure => simp [intOf]; omega
      exact ⟨i + 1, by omega, by go_num, trivial⟩
    · go_wp2
      go_ret
      exact ⟨rfl, rfl⟩
end Go.Proofs.Ytijfkpoofpcacaa.MakerU
end
section
namespace Go.Proofs.Ytijfkpoofpcacaa.MakerV
open Go.RowKit Go.Proofs.YtijfkpoofpcacaaW.PrintWords Go.Proofs.Ytijfkpoofpcacaa.Blk Go.Proofs.Ytijfkpoofpcacaa.Core Go.Proofs.Ytijfkpoofpcacaa.MemC Go.Proofs.Ytijfkpoofpcacaa.MemD Go.Proofs.Ytijfkpoofpcacaa.MemT Go.Proofs.Ytijfkpoofpcacaa.Memory Go.Proofs.Ytijfkpoofpcacaa.PlanC Go.Proofs.Ytijfkpoofpcacaa.PlanD Go.Proofs.Ytijfkpoofpcacaa.RefM Go.Proofs.Ytijfkpoofpcacaa.StackC Go.Proofs.Ytijfkpoofpcacaa.StackL Go.Proofs.Ytijfkpoofpcacaa.StackS Go.Proofs.Ytijfkpoofpcacaa.StackF Go.Proofs.Ytijfkpoofpcacaa.StackP Go.Proofs.Ytijfkpoofpcacaa.StackG Go.Proofs.Ytijfkpoofpcacaa.StackT Go.Proofs.Ytijfkpoofpcacaa.HeadC Go.Proofs.Ytijfkpoofpcacaa.ArenaC Go.Proofs.Ytijfkpoofpcacaa.ArenaM Go.Proofs.Ytijfkpoofpcacaa.ArenaP Go.Proofs.Ytijfkpoofpcacaa.ArenaL Go.Proofs.Ytijfkpoofpcacaa.ArenaR Go.Proofs.Ytijfkpoofpcacaa.ArenaQ Go.Proofs.Ytijfkpoofpcacaa.ArenaW Go.Proofs.Ytijfkpoofpcacaa.MakerL Go.Proofs.Ytijfkpoofpcacaa.MakerT Go.Proofs.Ytijfkpoofpcacaa.MakerU Go.Proofs.Ytijfkpoofpcacaa.Opens
open Go.Proofs.Ytijfkpoofpcacaa.TakerS (IQ blk_one)
def t5 (A : Option Addr) (cc : Nat) : Option Addr := if cc = 1 then A else A.map (·.add 5)
def t1 (A : Option Addr) (cc : Nat) : Option Addr := if cc = 1 then A else A.map (·.add 1)
def kdOf (x : Wk) : Int := if x.rc = true then 2 else 1
def arOf (c : Cf) (x : Wk) : Int := if x.rc = true then 0 else x.ar % (c.A + 1)
theorem fr_cell {S : Nat → Prop} {w w' : World} (hF : Fr S w w') {k i : Nat} {v : Value} (h : w.cell? ⟨k, i, none⟩ = some v) (hk : ¬ S k) : w'.cell? ⟨k, i, none⟩ = some v := by
  have hl : k < w.heap.size := cell_lt h
  have := hF.keep k hl hk
  simp only [World.cell?] at h ⊢
  rw [this]; exact h
theorem fr_old {S : Nat → Prop} {w w' : World} (h : Fr (fun k => S k ∨ w.heap.size ≤ k) w w') : Fr S w w' :=
  ⟨h.os, h.tape, h.output, h.size, fun k hk hs => h.keep k hk (fun x => x.elim hs (fun e => by omega))⟩
theorem hdr_blk {w : World} {nb t : Nat} {a0 a1 a2 a3 a4 a5 b0 b1 b2 b3 b4 b5 : Value} (h : Blk w nb t #[a0, a1, a2, a3, a4, a5]) : ∃ wy, (((((w.setCell ⟨nb, 0, none⟩ b0).setCell ⟨nb, 1, none⟩ b1).setCell ⟨nb, 2, none⟩ b2).setCell ⟨nb, 3, none⟩ b3).setCell ⟨nb, 4, none⟩ b4).setCell ⟨nb, 5, none⟩ b5 = wy ∧ Blk wy nb t #[b0, b1, b2, b3, b4, b5] ∧ Fr (fun k => k = nb) w wy :=
  ⟨_, rfl, by simpa using (((((h.set 0 b0).set 1 b1).set 2 b2).set 3 b3).set 4 b4).set 5 b5,
   (((((Fr.set (fun k => k = nb) w (p := ⟨nb, 0, none⟩) rfl b0).trans (Fr.set (fun k => k = nb) _ (p := ⟨nb, 1, none⟩) rfl b1)).trans (Fr.set (fun k => k = nb) _ (p := ⟨nb, 2, none⟩) rfl b2)).trans (Fr.set (fun k => k = nb) _ (p := ⟨nb, 3, none⟩) rfl b3)).trans (Fr.set (fun k => k = nb) _ (p := ⟨nb, 4, none⟩) rfl b4)).trans (Fr.set (fun k => k = nb) _ (p := ⟨nb, 5, none⟩) rfl b5)⟩
theorem six_cells {w : World} {nb t : Nat} {a0 a1 a2 a3 a4 a5 : Value} (h : Blk w nb t #[a0, a1, a2, a3, a4, a5]) : (w.cell? ⟨nb, 0, none⟩ = some a0 ∧ w.cell? ⟨nb, 1, none⟩ = some a1 ∧ w.cell? ⟨nb, 2, none⟩ = some a2 ∧ w.cell? ⟨nb, 3, none⟩ = some a3 ∧ w.cell? ⟨nb, 4, none⟩ = some a4 ∧ w.cell? ⟨nb, 5, none⟩ = some a5) ∧ w.frozen? ⟨nb, 0, none⟩ = false ∧ w.frozen? ⟨nb, 1, none⟩ = false ∧ w.frozen? ⟨nb, 2, none⟩ = false ∧ w.frozen? ⟨nb, 3, none⟩ = false ∧ w.frozen? ⟨nb, 4, none⟩ = false ∧ w.frozen? ⟨nb, 5, none⟩ = false :=
  ⟨⟨h.cell rfl, h.cell rfl, h.cell rfl, h.cell rfl, h.cell rfl, h.cell rfl⟩, h.frozen 0, h.frozen 1, h.frozen 2, h.frozen 3, h.frozen 4, h.frozen 5⟩
def now5 (cs : Array Value) (o : Nat) (x : Wk) : Array Value := ((((cs.setIfInBounds (o + 1) (.bool x.fr)).setIfInBounds (o + 1 + 1) (.bool x.rc)).setIfInBounds (o + 1 + 2) (.int .u8 x.ar)).setIfInBounds (o + 1 + 3) (.int .u8 x.ep)).setIfInBounds (o + 1 + 4) (.int .u64 x.wd)
theorem now5_ne {cs : Array Value} {o : Nat} {x : Wk} {j : Nat} (h : j < o + 1 ∨ o + 6 ≤ j) : (now5 cs o x)[j]? = cs[j]? := by
  unfold now5
  rw [Array.getElem?_setIfInBounds_ne (by omega), Array.getElem?_setIfInBounds_ne (by omega), Array.getElem?_setIfInBounds_ne (by omega), Array.getElem?_setIfInBounds_ne (by omega), Array.getElem?_setIfInBounds_ne (by omega)]
theorem now5_at {cs : Array Value} {o : Nat} {x : Wk} (h : o + 10 ≤ cs.size) : (now5 cs o x)[o + 1]? = some (.bool x.fr) ∧ (now5 cs o x)[o + 2]? = some (.bool x.rc) ∧ (now5 cs o x)[o + 3]? = some (.int .u8 x.ar) ∧ (now5 cs o x)[o + 4]? = some (.int .u8 x.ep) ∧ (now5 cs o x)[o + 5]? = some (.int .u64 x.wd) := by
  unfold now5
  refine ⟨?_, ?_, ?_, ?_, ?_⟩
  · rw [Array.getElem?_setIfInBounds_ne (by omega), Array.getElem?_setIfInBounds_ne (by omega), Array.getElem?_setIfInBounds_ne (by omega), Array.getElem?_setIfInBounds_ne (by omega), Array.getElem?_setIfInBounds_self_of_lt (by first | omega | (simp; omega))]
  · rw [Array.getElem?_setIfInBounds_ne (by omega), Array.getElem?_setIfInBounds_ne (by omega), Array.getElem?_setIfInBounds_ne (by omega), Array.getElem?_setIfInBounds_self_of_lt (by first | omega | (simp; omega))]
  · rw [Array.getElem?_setIfInBounds_ne (by omega), Array.getElem?_setIfInBounds_ne (by omega), Array.getElem?_setIfInBounds_self_of_lt (by first | omega | (simp; omega))]
  · rw [Array.getElem?_setIfInBounds_ne (by omega), Array.getElem?_setIfInBounds_self_of_lt (by first | omega | (simp; omega))]
  · rw [Array.getElem?_setIfInBounds_self_of_lt (by first | omega | (simp; omega))]
theorem now5_blk {w : World} {B o : Nat} {cs : Array Value} {x : Wk} (hB : Blk w B 107 cs) : ∃ w2, ((((w.setCell ⟨B, o + 1, none⟩ (.bool x.fr)).setCell ⟨B, o + 1 + 1, none⟩ (.bool x.rc)).setCell ⟨B, o + 1 + 2, none⟩ (.int .u8 x.ar)).setCell ⟨B, o + 1 + 3, none⟩ (.int .u8 x.ep)).setCell ⟨B, o + 1 + 4, none⟩ (.int .u64 x.wd) = w2 ∧ Blk w2 B 107 (now5 cs o x) ∧ Fr (fun k => k = B) w w2 :=
  ⟨_, rfl, ((((hB.set (o + 1) (.bool x.fr)).set (o + 1 + 1) (.bool x.rc)).set (o + 1 + 2) (.int .u8 x.ar)).set (o + 1 + 3) (.int .u8 x.ep)).set (o + 1 + 4) (.int .u64 x.wd),
   ((((Fr.set (fun k => k = B) w (p := ⟨B, o + 1, none⟩) rfl (.bool x.fr)).trans (Fr.set (fun k => k = B) _ (p := ⟨B, o + 1 + 1, none⟩) rfl (.bool x.rc))).trans (Fr.set (fun k => k = B) _ (p := ⟨B, o + 1 + 2, none⟩) rfl (.int .u8 x.ar))).trans (Fr.set (fun k => k = B) _ (p := ⟨B, o + 1 + 3, none⟩) rfl (.int .u8 x.ep))).trans (Fr.set (fun k => k = B) _ (p := ⟨B, o + 1 + 4, none⟩) rfl (.int .u64 x.wd))⟩
set_option maxHeartbeats 4000000 in
set_option maxRecDepth 100000 in
theorem beginEmpty {w : World} {B WB o b q n cc c2 : Nat} {cs : Array Value} {A2 : Option Addr} {x : Wk} (hB : Blk w B 107 cs) (x0 : cs[o]? = some (.slice (some ⟨b, q, none⟩) n cc)) (hn : 1 ≤ n) (hc : n ≤ cc)
    (hS : o + 10 ≤ cs.size) (x6 : cs[o + 6]? = some (.slice A2 0 c2)) (hfr : x.fr = true) (hb : b ≠ B) (h0 : w.cell? ⟨b, q, none⟩ = some (.bool x.fr)) (h1 : w.cell? ⟨b, q + 1, none⟩ = some (.bool x.rc)) (h2 : w.cell? ⟨b, q + 2, none⟩ = some (.int .u8 x.ar)) (h3 : w.cell? ⟨b, q + 3, none⟩ = some (.int .u8 x.ep)) (h4 : w.cell? ⟨b, q + 4, none⟩ = some (.int .u64 x.wd)) :
    Calls Try.prog 89 #[.pointer (some ⟨B, o, none⟩), .pointer (some ⟨WB, 0, none⟩)] w fun e w' => e = .returned (.bool true) ∧ Blk w' B 107 ((now5 cs o x).setIfInBounds o (.slice (t5 (some ⟨b, q, none⟩) cc) (n - 1) (cc - 1))) ∧ Fr (fun k => k = B) w w' := by
  have y0 := hB.cell x0
  have y6 := hB.cell x6
  obtain ⟨v1, e1⟩ : ∃ v, cs[o + 1]? = some v := ⟨_, Array.getElem?_eq_getElem (by omega)⟩
  obtain ⟨v2, e2⟩ : ∃ v, cs[o + 2]? = some v := ⟨_, Array.getElem?_eq_getElem (by omega)⟩
  obtain ⟨v3, e3⟩ : ∃ v, cs[o + 3]? = some v := ⟨_, Array.getElem?_eq_getElem (by omega)⟩
  obtain ⟨v4, e4⟩ : ∃ v, cs[o + 4]? = some v := ⟨_, Array.getElem?_eq_getElem (by omega)⟩
  obtain ⟨v5, e5⟩ : ∃ v, cs[o + 5]? = some v := ⟨_, Array.getElem?_eq_getElem (by omega)⟩
  have y1 : w.cell? ⟨B, o + 1, none⟩ = some v1 := hB.cell e1
  have y2 : w.cell? ⟨B, o + 1 + 1, none⟩ = some v2 := hB.cell e2
  have y3 : w.cell? ⟨B, o + 1 + 2, none⟩ = some v3 := hB.cell e3
  have y4 : w.cell? ⟨B, o + 1 + 3, none⟩ = some v4 := hB.cell e4
  have y5 : w.cell? ⟨B, o + 1 + 4, none⟩ = some v5 := hB.cell e5
  have z0 := hB.frozen o
  have z1 := hB.frozen (o + 1)
  have z2 := hB.frozen (o + 1 + 1)
  have z3 := hB.frozen (o + 1 + 2)
  have z4 := hB.frozen (o + 1 + 3)
  have z5 := hB.frozen (o + 1 + 4)
  have hn1 : (0 : Int) < (n : Int) := by omega
  go_enter Try.func89, Try.ntmps89
  go_upto_region 2 with (fail)
  obtain ⟨w2, ew, hB1, hF1⟩ := now5_blk (o := o) (x := x) hB
  rw [hfr] at ew
  rw [ew]
  clear y1 y2 y3 y4 y5 z1 z2 z3 z4 z5 e1 e2 e3 e4 e5 y0 y6 z0 h0 h1 h2 h3 h4 ew
  have y0 : w2.cell? ⟨B, o, none⟩ = some (.slice (some ⟨b, q, none⟩) n cc) := hB1.cell (i := o) (by rw [now5_ne (by omega)]; exact x0)
  have y1 : w2.cell? ⟨B, o + 1, none⟩ = some (.bool true) := hB1.cell (i := o + 1) (by rw [(now5_at hS).1, hfr])
  have y6 : w2.cell? ⟨B, o + 6, none⟩ = some (.slice A2 0 c2) := hB1.cell (i := o + 6) (by rw [now5_ne (by omega)]; exact x6)
  have z0 := hB1.frozen o
  have hn4 : (1 : Int) ≤ (n : Int) := by omega
  have hn2 : (n : Int) ≤ (cc : Int) := by omega
  have hn3 : 0 < n := by omega
  have hBs := fun v => hB1.set o v
  have hFs := fun v => hF1.trans (Fr.set (fun k => k = B) w2 (p := ⟨B, o, none⟩) rfl v)
  replace hB1 := Lib.hid hB1
  replace hF1 := Lib.hid hF1
  replace hBs := Lib.hid hBs
  replace hFs := Lib.hid hFs
  clear hB x0 x6 hS
  have et : t5 (some ⟨b, q, none⟩) cc = (if cc = 1 then some ⟨b, q, none⟩ else some ⟨b, q + 5, none⟩) := by unfold t5; simp [Addr.add]
  replace et := Lib.hid et
  by_cases hc1 : cc = 1
  · subst hc1
    go_wp2
    go_ret
    obtain rfl : n = 1 := by omega
    exact ⟨rfl, hBs.out _, hFs.out _⟩
  · go_wp2
    go_ret
    rw [et.out, if_neg hc1]
    exact ⟨rfl, hBs.out _, hFs.out _⟩
end Go.Proofs.Ytijfkpoofpcacaa.MakerV
end
