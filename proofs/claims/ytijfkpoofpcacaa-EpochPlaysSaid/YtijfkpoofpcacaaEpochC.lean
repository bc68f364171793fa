/-
  Contracts of layer 8 (epoch): where a client's pin stands, what each step of a Pin, a Leave and an Advance does to its own cells and to the memory; condition: a right config, as many touches as fit a number.
-/
import Derived.Test.YtijfkpoofpcacaaStackC
import Derived.Deep.QuietTactic
import Derived.BigQuiet
set_option linter.unusedVariables false
set_option linter.unusedSectionVars false
namespace Go.Proofs.Ytijfkpoofpcacaa.EpochC
open Go.RowKit Go.Proofs.Ytijfkpoofpcacaa.PArenaPlays Go.Proofs.YtijfkpoofpcacaaW.PrintWords Go.Proofs.Ytijfkpoofpcacaa.Blk Go.Proofs.Ytijfkpoofpcacaa.Core Go.Proofs.Ytijfkpoofpcacaa.PuArenaPlays Go.Proofs.Ytijfkpoofpcacaa.MemC Go.Proofs.Ytijfkpoofpcacaa.MemD Go.Proofs.Ytijfkpoofpcacaa.MemT Go.Proofs.Ytijfkpoofpcacaa.PlanC Go.Proofs.Ytijfkpoofpcacaa.PlanD Go.Proofs.Ytijfkpoofpcacaa.StackC
def pinV (e : Int) : Int := (2 * e % 18446744073709551616 + 1) % 18446744073709551616
theorem pinV_bd (e : Int) : 0 ≤ pinV e ∧ pinV e < 18446744073709551616 := by unfold pinV; omega
theorem pinnedC (w : World) (e : Int) : Calls Try.prog 78 #[.int .u64 e] w fun r w' => r = .returned (.int .u64 (pinV e)) ∧ w = w' := by
  have e1 : IntKind.u64.wrap (2 * e) = 2 * e % 18446744073709551616 := wrap_u64 _
  have e2 : IntKind.u64.wrap (2 * e % 18446744073709551616 + 1) = pinV e := wrap_u64 _
  go_enter Try.func78, Try.ntmps78
  go_wp2
  go_ret
  exact ⟨rfl, rfl⟩
def Cf.pin (c : Cf) (who : Int) : Int := if c.right = true ∧ 0 ≤ who ∧ who < c.C then 4 + who else -1
theorem betweenC (x lo hi : Int) (w : World) : Calls Try.prog 91 #[.int .i64 x, .int .i64 lo, .int .i64 hi] w fun e w' => e = .returned (.bool (decide (lo ≤ x ∧ x ≤ hi))) ∧ Below w.heap.size w w' := by
  refine (plan_between.calls x lo hi _ w (p_between x lo hi)).mono ?_
  intro e w' h
  exact ⟨h.1, by first | exact h.2 | (obtain ⟨nd, hd⟩ := h.2; subst hd; exact pw_below_drewN (Below.refl _ _) _)⟩
section
variable (c : Cf) (w : World) (who : Int)
theorem place_no (h : c.right = false) : Calls Try.prog 81 #[.agg #[.int .i64 c.S, .int .i64 c.A, .int .i64 c.C, .int .i64 c.H, .int .i64 c.G, .int .i64 c.K], .int .i64 who, .int .i64 0, .int .i64 1, .int .i64 0] w fun e w' => e = .returned (.int .i64 (-1)) ∧ Below w.heap.size w w' := by
  replace h := Lib.hid h
  go_enter Try.func81, Try.ntmps81
  go_wp2_with (go_at_call 66; refine (rightC c _).mono ?_; rintro e w1 ⟨rfl, hb⟩; rw [h.out]; replace hb := Lib.hid (below_pre hb))
  go_ret
  exact ⟨rfl, hb.out⟩
theorem place_out (h : c.right = true) (ho : ¬ (0 ≤ who ∧ who < c.C)) : Calls Try.prog 81 #[.agg #[.int .i64 c.S, .int .i64 c.A, .int .i64 c.C, .int .i64 c.H, .int .i64 c.G, .int .i64 c.K], .int .i64 who, .int .i64 0, .int .i64 1, .int .i64 0] w fun e w' => e = .returned (.int .i64 (-1)) ∧ Below w.heap.size w w' := by
  have hr := right_iff.1 h
  have hf := Lib.hid (Blk.new w 23 #[.int .i64 c.S, .int .i64 c.A, .int .i64 c.C, .int .i64 c.H, .int .i64 c.G, .int .i64 c.K])
  have e1 : decide (0 ≤ who ∧ who ≤ c.C - 1) = false := decide_eq_false (by omega)
  obtain ⟨q1, q2⟩ : 1 ≤ c.C ∧ c.C ≤ 8 := by omega
  clear hr ho
  replace h := Lib.hid h
  replace e1 := Lib.hid e1
  go_enter Try.func81, Try.ntmps81
  go_wp2_with (first
    | (go_at_call 66; refine (rightC c _).mono ?_; rintro e w1 ⟨rfl, hb⟩; rw [h.out]; have hf1 := hf.out.below hb hf.out.lt; obtain ⟨k0, k1, k2, k3, k4, k5⟩ := cfgs hf1; clear hf1; replace hb := Lib.hid (below_pre hb))
    | (go_at_call 91; refine (betweenC who 0 (c.C - 1) _).mono ?_; rintro e w2 ⟨rfl, hb2⟩; rw [e1.out]; replace hb2 := Lib.hid hb2))
  go_ret
  exact ⟨rfl, bT hb.out hb2.out⟩
theorem place_yes (h : c.right = true) (h0 : 0 ≤ who) (h1 : who < c.C) : Calls Try.prog 81 #[.agg #[.int .i64 c.S, .int .i64 c.A, .int .i64 c.C, .int .i64 c.H, .int .i64 c.G, .int .i64 c.K], .int .i64 who, .int .i64 0, .int .i64 1, .int .i64 0] w fun e w' => e = .returned (.int .i64 (4 + who)) ∧ Below w.heap.size w w' := by
  have hr := right_iff.1 h
  have hf := Lib.hid (Blk.new w 23 #[.int .i64 c.S, .int .i64 c.A, .int .i64 c.C, .int .i64 c.H, .int .i64 c.G, .int .i64 c.K])
  have e1 : decide (0 ≤ who ∧ who ≤ c.C - 1) = true := decide_eq_true (by omega)
  obtain ⟨q1, q2⟩ : 1 ≤ c.C ∧ c.C ≤ 8 := by omega
  have e5 : 4 + who = 4 + who * 1 + 0 := by omega
  clear hr
  replace h := Lib.hid h
  replace e1 := Lib.hid e1
  replace e5 := Lib.hid e5
  have tk : True := trivial
  go_enter Try.func81, Try.ntmps81
  go_wp2_with (first
    | (go_at_call 66; refine (rightC c _).mono ?_; rintro e w1 ⟨rfl, hb⟩; rw [h.out]; have hf1 := hf.out.below hb hf.out.lt; obtain ⟨k0, k1, k2, k3, k4, k5⟩ := cfgs hf1; replace hf1 := Lib.hid hf1; replace hb := Lib.hid (below_pre hb))
    | (go_at_call 91; have _t := tk; refine (betweenC who 0 (c.C - 1) _).mono ?_; rintro e w2 ⟨rfl, hb2⟩; rw [e1.out]; have hf2 := hf1.out.below hb2 hf1.out.lt; replace hb2 := Lib.hid hb2; replace hf2 := Lib.hid hf2; clear tk _t)
    | (go_at_call 91; refine (betweenC 0 0 0 _).mono ?_; rintro e w3 ⟨rfl, hb3⟩; rw [show decide ((0 : Int) ≤ 0 ∧ (0 : Int) ≤ 0) = true from by decide]; have hf3 := hf2.out.below hb3 hf2.out.lt; obtain ⟨l0, l1, l2, l3, l4, l5⟩ := cfgs hf3; replace hb3 := Lib.hid hb3; clear hf3))
  go_ret
  exact ⟨by simp, bT (bT hb.out hb2.out) hb3.out⟩
theorem pinAtC : Calls Try.prog 36 #[.agg #[.int .i64 c.S, .int .i64 c.A, .int .i64 c.C, .int .i64 c.H, .int .i64 c.G, .int .i64 c.K], .int .i64 who] w fun e w' => e = .returned (.int .i64 (Cf.pin c who)) ∧ Below w.heap.size w w' := by
  have hp : ∀ w, Calls Try.prog 81 #[.agg #[.int .i64 c.S, .int .i64 c.A, .int .i64 c.C, .int .i64 c.H, .int .i64 c.G, .int .i64 c.K], .int .i64 who, .int .i64 0, .int .i64 1, .int .i64 0] w fun e w' => e = .returned (.int .i64 (Cf.pin c who)) ∧ Below w.heap.size w w' := by
    intro w
    unfold Cf.pin
    cases h : c.right with
    | false => rw [if_neg (fun x => absurd x.1 (by decide))]; exact place_no c w who h
    | true =>
      by_cases hb : 0 ≤ who ∧ who < c.C
      · rw [if_pos ⟨rfl, hb⟩]; exact place_yes c w who h hb.1 hb.2
      · rw [if_neg (fun x => hb x.2)]; exact place_out c w who h hb
  replace hp := Lib.hid hp
  go_enter Try.func36, Try.ntmps36
  go_wp2_with (go_at_call 81; refine (hp.out _).mono ?_; rintro e w1 ⟨rfl, hb⟩; replace hb := Lib.hid (below_pre hb))
  go_ret
  exact ⟨rfl, hb.out⟩
end
def pinA (c : Cf) (ee : Int) (pa : Int) (nx : Int) : Array Value := #[.int .u64 ee, .int .i64 pa, .int .i64 nx]
theorem pin_cells {w : World} {p t : Nat} {c : Cf} {ee : Int} {pa : Int} {nx : Int} (h : Blk w p t (pinA c ee pa nx)) :
    w.cell? ⟨p, 0, none⟩ = some (.int .u64 ee) ∧ w.cell? ⟨p, 1, none⟩ = some (.int .i64 pa) ∧ w.cell? ⟨p, 2, none⟩ = some (.int .i64 nx) :=
  ⟨h.cell (i := 0) rfl, h.cell (i := 1) rfl, h.cell (i := 2) rfl⟩
def levA (c : Cf) (pa : Int) (dn : Bool) : Array Value := #[.int .i64 pa, .bool dn]
theorem lev_cells {w : World} {p t : Nat} {c : Cf} {pa : Int} {dn : Bool} (h : Blk w p t (levA c pa dn)) :
    w.cell? ⟨p, 0, none⟩ = some (.int .i64 pa) ∧ w.cell? ⟨p, 1, none⟩ = some (.bool dn) :=
  ⟨h.cell (i := 0) rfl, h.cell (i := 1) rfl⟩
def advA (c : Cf) (ee : Int) (nw : Int) (wh : Int) (nx : Int) : Array Value := #[.int .u64 ee, .int .i64 c.S, .int .i64 c.A, .int .i64 c.C, .int .i64 c.H, .int .i64 c.G, .int .i64 c.K, .int .u64 nw, .int .i64 wh, .int .i64 nx]
theorem adv_cells {w : World} {p t : Nat} {c : Cf} {ee : Int} {nw : Int} {wh : Int} {nx : Int} (h : Blk w p t (advA c ee nw wh nx)) :
    w.cell? ⟨p, 0, none⟩ = some (.int .u64 ee) ∧ w.cell? ⟨p, 1, none⟩ = some (.int .i64 c.S) ∧ w.cell? ⟨p, 2, none⟩ = some (.int .i64 c.A) ∧ w.cell? ⟨p, 3, none⟩ = some (.int .i64 c.C) ∧ w.cell? ⟨p, 4, none⟩ = some (.int .i64 c.H) ∧ w.cell? ⟨p, 5, none⟩ = some (.int .i64 c.G) ∧ w.cell? ⟨p, 6, none⟩ = some (.int .i64 c.K) ∧ w.cell? ⟨p, 7, none⟩ = some (.int .u64 nw) ∧ w.cell? ⟨p, 8, none⟩ = some (.int .i64 wh) ∧ w.cell? ⟨p, 9, none⟩ = some (.int .i64 nx) :=
  ⟨h.cell (i := 0) rfl, h.cell (i := 1) rfl, h.cell (i := 2) rfl, h.cell (i := 3) rfl, h.cell (i := 4) rfl, h.cell (i := 5) rfl, h.cell (i := 6) rfl, h.cell (i := 7) rfl, h.cell (i := 8) rfl, h.cell (i := 9) rfl⟩
section
variable (c : Cf) (w : World) (p m b : Nat) (M : Ms) (hM : MemB w m b M) (ok : Ok M) (np : ¬ two m b p)
include hM ok np
variable (ee pa nw wh : Int) (dn : Bool)
set_option maxHeartbeats 4000000 in
set_option maxRecDepth 100000 in
theorem pin_0 (hp : Blk w p 44 (pinA c ee pa 0)) : Calls Try.prog 33 #[.pointer (some ⟨p, 0, none⟩), .pointer (some ⟨m, 0, none⟩)] w fun e w' =>
    e = .returned (.bool false) ∧ Blk w' p 44 (pinA c ((M.ldV 1)) pa 1) ∧ MemB w' m b (M.ldS 1) ∧ Fr (three p m b) w w' := by
  have hF := Lib.hid (Fr.refl (three p m b) w)
  obtain ⟨k0, k1, k2⟩ := pin_cells hp
  have hl := load_c w m b M 1 hM ok
  replace hp := Lib.hid hp
  replace hM := Lib.hid hM
  go_enter Try.func33, Try.ntmps33
  go_wp2_with (go_at_call 35; refine (hl).mono ?_; rintro e w1 ⟨rfl, hM', hF'⟩; replace hp := Lib.hid (hp.out.fr hF' np); replace hM := Lib.hid hM'; replace hF := Lib.hid (hF.out.trans (two_three hF')); clear hM' hF'; obtain ⟨l0, l1, l2⟩ := pin_cells hp.out; have z0 := hp.out.frozen 0; have z2 := hp.out.frozen 2)
  go_ret
  exact ⟨rfl, (hp.out.set 0 _).set 2 _, (hM.out.set np 0 _).set np 2 _, (hF.out.trans (fr_p _ 0 _)).trans (fr_p _ 2 _)⟩
set_option maxHeartbeats 4000000 in
set_option maxRecDepth 100000 in
theorem pin_1 (hp : Blk w p 44 (pinA c ee pa 1)) : Calls Try.prog 33 #[.pointer (some ⟨p, 0, none⟩), .pointer (some ⟨m, 0, none⟩)] w fun e w' =>
    e = .returned (.bool false) ∧ Blk w' p 44 (pinA c ee pa 2) ∧ MemB w' m b (M.stS pa (pinV ee)) ∧ Fr (three p m b) w w' := by
  obtain ⟨v0, v1⟩ := pinV_bd ee
  have hF := Lib.hid (Fr.refl (three p m b) w)
  obtain ⟨k0, k1, k2⟩ := pin_cells hp
  replace hp := Lib.hid hp
  replace hM := Lib.hid hM
  go_enter Try.func33, Try.ntmps33
  go_wp2
  clear k0 k1 k2
  replace hp := Lib.hid hp.out.drew
  replace hM := Lib.hid hM.out.drew
  replace hF := Lib.hid (hF.out.trans (Fr.drew _ w))
  have hX0 := pin_cells hp.out
  have hX : w.drew.cell? ⟨p, 0, none⟩ = some (.int .u64 ee) ∧ w.drew.cell? ⟨p, 1, none⟩ = some (.int .i64 pa) ∧ w.drew.cell? ⟨p, 2, none⟩ = some (.int .i64 1) := hX0
  clear hX0
  go_region_held3 (fun w' => w'.cell? ⟨p, 0, none⟩ = some (.int .u64 ee) ∧ w'.cell? ⟨p, 1, none⟩ = some (.int .i64 pa) ∧ w'.cell? ⟨p, 2, none⟩ = some (.int .i64 1)) (assumption) (first
    | (go_at_call 78; refine (pinnedC _ ee).mono ?_; rintro e w3 ⟨rfl, rfl⟩)
    | (go_at_call 57; refine (store_c _ m b M pa hM.out ok (pinV ee)).mono ?_; rintro e w4 ⟨rfl, hM', hF'⟩; replace hp := Lib.hid (hp.out.fr hF' np); replace hM := Lib.hid hM'; replace hF := Lib.hid (hF.out.trans (two_three hF')); clear hM' hF'; have z2 := hp.out.frozen 2; have hY_w4 : w4.cell? ⟨p, 0, none⟩ = some (.int .u64 ee) ∧ w4.cell? ⟨p, 1, none⟩ = some (.int .i64 pa) ∧ w4.cell? ⟨p, 2, none⟩ = some (.int .i64 1) := (by obtain ⟨y0, y1, y2⟩ := pin_cells hp.out; exact ⟨y0, y1, y2⟩)))
  obtain ⟨l0, l1, l2⟩ := hY_w4
  go_wp2
  go_ret
  exact ⟨rfl, hp.out.set 2 _, hM.out.set np 2 _, hF.out.trans (fr_p _ 2 _)⟩
set_option maxHeartbeats 4000000 in
set_option maxRecDepth 100000 in
theorem pin_2a (he : M.ldV 1 = ee) (hp : Blk w p 44 (pinA c ee pa 2)) : Calls Try.prog 33 #[.pointer (some ⟨p, 0, none⟩), .pointer (some ⟨m, 0, none⟩)] w fun e w' =>
    e = .returned (.bool true) ∧ Blk w' p 44 (pinA c ee pa 3) ∧ MemB w' m b (M.ldS 1) ∧ Fr (three p m b) w w' := by
  have hx : (M.ldV 1 != ee) = false := by simp [he]
  replace he := Lib.hid he
  generalize hv : M.ldV 1 = v at *
  replace hv := Lib.hid hv
  have hF := Lib.hid (Fr.refl (three p m b) w)
  obtain ⟨k0, k1, k2⟩ := pin_cells hp
  have z2 := hp.frozen 2
  replace hp := Lib.hid hp
  replace hM := Lib.hid hM
  go_enter Try.func33, Try.ntmps33
  go_upto_region 12 with (fail)
  have hp' : Blk (w.setCell ⟨p, 2, none⟩ (.int .i64 3)) p 44 (pinA c ee pa 3) := (hp.out.set 2 _)
  have hM' := (hM.out.set np 2 (.int .i64 3))
  have hF' := (hF.out.trans (fr_p w 2 (.int .i64 3)))
  clear hp hM hF k0 k1 k2 z2
  generalize w.setCell ⟨p, 2, none⟩ (.int .i64 3) = w2 at *
  have hp := Lib.hid hp'
  have hM := Lib.hid hM'
  have hF := Lib.hid hF'
  clear hp' hM' hF'
  have hl := load_c w2 m b M 1 hM.out ok
  rw [hv.out] at hl
  replace hl := Lib.hid hl
  go_wp2_with (go_at_call 35; refine (hl.out).mono ?_; rintro e w3 ⟨rfl, hM', hF'⟩; replace hp := Lib.hid (hp.out.fr hF' np); replace hM := Lib.hid hM'; replace hF := Lib.hid (hF.out.trans (two_three hF')); clear hM' hF'; obtain ⟨l0, l1, l2⟩ := pin_cells hp.out; have z0 := hp.out.frozen 0; have z2 := hp.out.frozen 2)
  go_ret
  exact ⟨rfl, hp.out, hM.out, hF.out⟩
set_option maxHeartbeats 4000000 in
set_option maxRecDepth 100000 in
theorem pin_2b (he : M.ldV 1 ≠ ee) (hp : Blk w p 44 (pinA c ee pa 2)) : Calls Try.prog 33 #[.pointer (some ⟨p, 0, none⟩), .pointer (some ⟨m, 0, none⟩)] w fun e w' =>
    e = .returned (.bool false) ∧ Blk w' p 44 (pinA c ((M.ldV 1)) pa 1) ∧ MemB w' m b (M.ldS 1) ∧ Fr (three p m b) w w' := by
  have hx : (M.ldV 1 != ee) = true := by simpa using he
  replace he := Lib.hid he
  generalize hv : M.ldV 1 = v at *
  replace hv := Lib.hid hv
  have hF := Lib.hid (Fr.refl (three p m b) w)
  obtain ⟨k0, k1, k2⟩ := pin_cells hp
  have z2 := hp.frozen 2
  replace hp := Lib.hid hp
  replace hM := Lib.hid hM
  go_enter Try.func33, Try.ntmps33
  go_upto_region 12 with (fail)
  have hp' : Blk (w.setCell ⟨p, 2, none⟩ (.int .i64 3)) p 44 (pinA c ee pa 3) := (hp.out.set 2 _)
  have hM' := (hM.out.set np 2 (.int .i64 3))
  have hF' := (hF.out.trans (fr_p w 2 (.int .i64 3)))
  clear hp hM hF k0 k1 k2 z2
  generalize w.setCell ⟨p, 2, none⟩ (.int .i64 3) = w2 at *
  have hp := Lib.hid hp'
  have hM := Lib.hid hM'
  have hF := Lib.hid hF'
  clear hp' hM' hF'
  have hl := load_c w2 m b M 1 hM.out ok
  rw [hv.out] at hl
  replace hl := Lib.hid hl
  go_wp2_with (go_at_call 35; refine (hl.out).mono ?_; rintro e w3 ⟨rfl, hM', hF'⟩; replace hp := Lib.hid (hp.out.fr hF' np); replace hM := Lib.hid hM'; replace hF := Lib.hid (hF.out.trans (two_three hF')); clear hM' hF'; obtain ⟨l0, l1, l2⟩ := pin_cells hp.out; have z0 := hp.out.frozen 0; have z2 := hp.out.frozen 2)
  go_ret
  exact ⟨rfl, (hp.out.set 0 _).set 2 _, (hM.out.set np 0 _).set np 2 _, (hF.out.trans (fr_p _ 0 _)).trans (fr_p _ 2 _)⟩
set_option maxHeartbeats 4000000 in
set_option maxRecDepth 100000 in
theorem pin_3 (hp : Blk w p 44 (pinA c ee pa 3)) : Calls Try.prog 33 #[.pointer (some ⟨p, 0, none⟩), .pointer (some ⟨m, 0, none⟩)] w fun e w' =>
    e = .returned (.bool true) ∧ Blk w' p 44 (pinA c ee pa 3) ∧ MemB w' m b (M) ∧ Fr (three p m b) w w' := by
  have hF := Lib.hid (Fr.refl (three p m b) w)
  obtain ⟨k0, k1, k2⟩ := pin_cells hp
  replace hp := Lib.hid hp
  replace hM := Lib.hid hM
  go_enter Try.func33, Try.ntmps33
  go_wp2
  go_ret
  exact ⟨rfl, hp.out, hM.out, hF.out⟩
set_option maxHeartbeats 4000000 in
set_option maxRecDepth 100000 in
theorem lev_0 (hp : Blk w p 132 (levA c pa false)) : Calls Try.prog 40 #[.pointer (some ⟨p, 0, none⟩), .pointer (some ⟨m, 0, none⟩)] w fun e w' =>
    e = .returned (.bool true) ∧ Blk w' p 132 (levA c pa true) ∧ MemB w' m b (M.stS pa 0) ∧ Fr (three p m b) w w' := by
  have hF := Lib.hid (Fr.refl (three p m b) w)
  obtain ⟨k0, k1⟩ := lev_cells hp
  have hl := store_c w m b M pa hM ok 0
  replace hp := Lib.hid hp
  replace hM := Lib.hid hM
  go_enter Try.func40, Try.ntmps40
  go_wp2_with (go_at_call 57; refine (hl).mono ?_; rintro e w1 ⟨rfl, hM', hF'⟩; replace hp := Lib.hid (hp.out.fr hF' np); replace hM := Lib.hid hM'; replace hF := Lib.hid (hF.out.trans (two_three hF')); clear hM' hF'; obtain ⟨l0, l1⟩ := lev_cells hp.out; have z1 := hp.out.frozen 1)
  go_ret
  exact ⟨rfl, hp.out.set 1 _, hM.out.set np 1 _, hF.out.trans (fr_p _ 1 _)⟩
set_option maxHeartbeats 4000000 in
set_option maxRecDepth 100000 in
theorem lev_1 (hp : Blk w p 132 (levA c pa true)) : Calls Try.prog 40 #[.pointer (some ⟨p, 0, none⟩), .pointer (some ⟨m, 0, none⟩)] w fun e w' =>
    e = .returned (.bool true) ∧ Blk w' p 132 (levA c pa true) ∧ MemB w' m b (M) ∧ Fr (three p m b) w w' := by
  have hF := Lib.hid (Fr.refl (three p m b) w)
  obtain ⟨k0, k1⟩ := lev_cells hp
  replace hp := Lib.hid hp
  replace hM := Lib.hid hM
  go_enter Try.func40, Try.ntmps40
  go_wp2
  go_ret
  exact ⟨rfl, hp.out, hM.out, hF.out⟩
set_option maxHeartbeats 4000000 in
set_option maxRecDepth 100000 in
theorem adv_0 (hp : Blk w p 54 (advA c ee nw wh 0)) : Calls Try.prog 41 #[.pointer (some ⟨p, 0, none⟩), .pointer (some ⟨m, 0, none⟩)] w fun e w' =>
    e = .returned (.bool false) ∧ Blk w' p 54 (advA c ee ((M.ldV 1)) 0 1) ∧ MemB w' m b (M.ldS 1) ∧ Fr (three p m b) w w' := by
  have hF := Lib.hid (Fr.refl (three p m b) w)
  obtain ⟨k0, k1, k2, k3, k4, k5, k6, k7, k8, k9⟩ := adv_cells hp
  have hl := load_c w m b M 1 hM ok
  replace hp := Lib.hid hp
  replace hM := Lib.hid hM
  go_enter Try.func41, Try.ntmps41
  go_wp2_with (go_at_call 35; refine (hl).mono ?_; rintro e w1 ⟨rfl, hM', hF'⟩; replace hp := Lib.hid (hp.out.fr hF' np); replace hM := Lib.hid hM'; replace hF := Lib.hid (hF.out.trans (two_three hF')); clear hM' hF'; obtain ⟨l0, l1, l2, l3, l4, l5, l6, l7, l8, l9⟩ := adv_cells hp.out; have z7 := hp.out.frozen 7; have z8 := hp.out.frozen 8; have z9 := hp.out.frozen 9)
  go_ret
  exact ⟨rfl, ((hp.out.set 7 _).set 8 _).set 9 _, ((hM.out.set np 7 _).set np 8 _).set np 9 _, ((hF.out.trans (fr_p _ 7 _)).trans (fr_p _ 8 _)).trans (fr_p _ 9 _)⟩
set_option maxHeartbeats 4000000 in
set_option maxRecDepth 100000 in
theorem adv_1az (hw : 0 ≤ wh) (hw1 : wh < c.C) (hC : c.C ≤ 8) (h0 : M.ldV (Cf.pin c wh) = 0) (hw2 : wh + 1 = c.C) (hp : Blk w p 54 (advA c ee nw wh 1)) : Calls Try.prog 41 #[.pointer (some ⟨p, 0, none⟩), .pointer (some ⟨m, 0, none⟩)] w fun e w' =>
    e = .returned (.bool false) ∧ Blk w' p 54 (advA c ee nw ((wh + 1)) 2) ∧ MemB w' m b (M.ldS (Cf.pin c wh)) ∧ Fr (three p m b) w w' := by
  have y1 : (wh + 1 == c.C) = true := by simpa using hw2
  replace hw2 := Lib.hid hw2
  have x1 : (M.ldV (Cf.pin c wh) == 0) = true := by simp [h0]
  replace h0 := Lib.hid h0
  generalize hv : M.ldV (Cf.pin c wh) = v at *
  replace hv := Lib.hid hv
  have hF := Lib.hid (Fr.refl (three p m b) w)
  obtain ⟨k0, k1, k2, k3, k4, k5, k6, k7, k8, k9⟩ := adv_cells hp
  replace hp := Lib.hid hp
  replace hM := Lib.hid hM
  go_enter Try.func41, Try.ntmps41
  go_wp2
  clear k0 k1 k2 k3 k4 k5 k6 k7 k8 k9
  replace hp := Lib.hid hp.out.drew
  replace hM := Lib.hid hM.out.drew
  replace hF := Lib.hid (hF.out.trans (Fr.drew _ w))
  have hX0 := adv_cells hp.out
  have hX : w.drew.cell? ⟨p, 0, none⟩ = some (.int .u64 ee) ∧ w.drew.cell? ⟨p, 1, none⟩ = some (.int .i64 c.S) ∧ w.drew.cell? ⟨p, 2, none⟩ = some (.int .i64 c.A) ∧ w.drew.cell? ⟨p, 3, none⟩ = some (.int .i64 c.C) ∧ w.drew.cell? ⟨p, 4, none⟩ = some (.int .i64 c.H) ∧ w.drew.cell? ⟨p, 5, none⟩ = some (.int .i64 c.G) ∧ w.drew.cell? ⟨p, 6, none⟩ = some (.int .i64 c.K) ∧ w.drew.cell? ⟨p, 7, none⟩ = some (.int .u64 nw) ∧ w.drew.cell? ⟨p, 8, none⟩ = some (.int .i64 wh) ∧ w.drew.cell? ⟨p, 9, none⟩ = some (.int .i64 1) := hX0
  clear hX0
  go_region_held3 (fun w' => w'.cell? ⟨p, 0, none⟩ = some (.int .u64 ee) ∧ w'.cell? ⟨p, 1, none⟩ = some (.int .i64 c.S) ∧ w'.cell? ⟨p, 2, none⟩ = some (.int .i64 c.A) ∧ w'.cell? ⟨p, 3, none⟩ = some (.int .i64 c.C) ∧ w'.cell? ⟨p, 4, none⟩ = some (.int .i64 c.H) ∧ w'.cell? ⟨p, 5, none⟩ = some (.int .i64 c.G) ∧ w'.cell? ⟨p, 6, none⟩ = some (.int .i64 c.K) ∧ w'.cell? ⟨p, 7, none⟩ = some (.int .u64 nw) ∧ w'.cell? ⟨p, 8, none⟩ = some (.int .i64 wh) ∧ w'.cell? ⟨p, 9, none⟩ = some (.int .i64 1)) (assumption) (first
    | (go_at_call 36; refine (pinAtC c _ wh).mono ?_; rintro e w3 ⟨rfl, hb⟩; replace hp := Lib.hid (hp.out.below hb hp.out.lt); replace hM := Lib.hid (hM.out.next hb); replace hF := Lib.hid (hF.out.trans (fr_below hb)); clear hb; have hY_w3 : w3.cell? ⟨p, 0, none⟩ = some (.int .u64 ee) ∧ w3.cell? ⟨p, 1, none⟩ = some (.int .i64 c.S) ∧ w3.cell? ⟨p, 2, none⟩ = some (.int .i64 c.A) ∧ w3.cell? ⟨p, 3, none⟩ = some (.int .i64 c.C) ∧ w3.cell? ⟨p, 4, none⟩ = some (.int .i64 c.H) ∧ w3.cell? ⟨p, 5, none⟩ = some (.int .i64 c.G) ∧ w3.cell? ⟨p, 6, none⟩ = some (.int .i64 c.K) ∧ w3.cell? ⟨p, 7, none⟩ = some (.int .u64 nw) ∧ w3.cell? ⟨p, 8, none⟩ = some (.int .i64 wh) ∧ w3.cell? ⟨p, 9, none⟩ = some (.int .i64 1) := (by obtain ⟨y0, y1, y2, y3, y4, y5, y6, y7, y8, y9⟩ := adv_cells hp.out; exact ⟨y0, y1, y2, y3, y4, y5, y6, y7, y8, y9⟩))
    | (go_at_call 35; refine (load_c _ m b M (Cf.pin c wh) hM.out ok).mono ?_; rintro e w4 ⟨rfl, hM', hF'⟩; rw [hv.out]; replace hp := Lib.hid (hp.out.fr hF' np); replace hM := Lib.hid hM'; replace hF := Lib.hid (hF.out.trans (two_three hF')); clear hM' hF'; have z8 := hp.out.frozen 8; have z9 := hp.out.frozen 9; have hY_w4 : w4.cell? ⟨p, 0, none⟩ = some (.int .u64 ee) ∧ w4.cell? ⟨p, 1, none⟩ = some (.int .i64 c.S) ∧ w4.cell? ⟨p, 2, none⟩ = some (.int .i64 c.A) ∧ w4.cell? ⟨p, 3, none⟩ = some (.int .i64 c.C) ∧ w4.cell? ⟨p, 4, none⟩ = some (.int .i64 c.H) ∧ w4.cell? ⟨p, 5, none⟩ = some (.int .i64 c.G) ∧ w4.cell? ⟨p, 6, none⟩ = some (.int .i64 c.K) ∧ w4.cell? ⟨p, 7, none⟩ = some (.int .u64 nw) ∧ w4.cell? ⟨p, 8, none⟩ = some (.int .i64 wh) ∧ w4.cell? ⟨p, 9, none⟩ = some (.int .i64 1) := (by obtain ⟨y0, y1, y2, y3, y4, y5, y6, y7, y8, y9⟩ := adv_cells hp.out; exact ⟨y0, y1, y2, y3, y4, y5, y6, y7, y8, y9⟩)))
  obtain ⟨l0, l1, l2, l3, l4, l5, l6, l7, l8, l9⟩ := hY_w4
  go_wp2_with (go_at_call 78; refine (pinnedC _ nw).mono ?_; rintro e w5 ⟨rfl, rfl⟩)
  go_quiet (fail)
  go_wp2
  go_ret
  exact ⟨rfl, ((hp.out.set 8 _).drewN _).set 9 _, ((hM.out.set np 8 _).drewN _).set np 9 _, ((hF.out.trans (fr_p _ 8 _)).trans (Fr.drewN _ _ _)).trans (fr_p _ 9 _)⟩
set_option maxHeartbeats 4000000 in
set_option maxRecDepth 100000 in
theorem adv_1a (hw : 0 ≤ wh) (hw1 : wh < c.C) (hC : c.C ≤ 8) (h0 : M.ldV (Cf.pin c wh) = 0) (hw2 : wh + 1 ≠ c.C) (hp : Blk w p 54 (advA c ee nw wh 1)) : Calls Try.prog 41 #[.pointer (some ⟨p, 0, none⟩), .pointer (some ⟨m, 0, none⟩)] w fun e w' =>
    e = .returned (.bool false) ∧ Blk w' p 54 (advA c ee nw ((wh + 1)) 1) ∧ MemB w' m b (M.ldS (Cf.pin c wh)) ∧ Fr (three p m b) w w' := by
  have y1 : (wh + 1 == c.C) = false := by simpa using hw2
  have x1 : (M.ldV (Cf.pin c wh) == 0) = true := by simp [h0]
  replace h0 := Lib.hid h0
  generalize hv : M.ldV (Cf.pin c wh) = v at *
  replace hv := Lib.hid hv
  have hF := Lib.hid (Fr.refl (three p m b) w)
  obtain ⟨k0, k1, k2, k3, k4, k5, k6, k7, k8, k9⟩ := adv_cells hp
  replace hp := Lib.hid hp
  replace hM := Lib.hid hM
  go_enter Try.func41, Try.ntmps41
  go_wp2
  clear k0 k1 k2 k3 k4 k5 k6 k7 k8 k9
  replace hp := Lib.hid hp.out.drew
  replace hM := Lib.hid hM.out.drew
  replace hF := Lib.hid (hF.out.trans (Fr.drew _ w))
  have hX0 := adv_cells hp.out
  have hX : w.drew.cell? ⟨p, 0, none⟩ = some (.int .u64 ee) ∧ w.drew.cell? ⟨p, 1, none⟩ = some (.int .i64 c.S) ∧ w.drew.cell? ⟨p, 2, none⟩ = some (.int .i64 c.A) ∧ w.drew.cell? ⟨p, 3, none⟩ = some (.int .i64 c.C) ∧ w.drew.cell? ⟨p, 4, none⟩ = some (.int .i64 c.H) ∧ w.drew.cell? ⟨p, 5, none⟩ = some (.int .i64 c.G) ∧ w.drew.cell? ⟨p, 6, none⟩ = some (.int .i64 c.K) ∧ w.drew.cell? ⟨p, 7, none⟩ = some (.int .u64 nw) ∧ w.drew.cell? ⟨p, 8, none⟩ = some (.int .i64 wh) ∧ w.drew.cell? ⟨p, 9, none⟩ = some (.int .i64 1) := hX0
  clear hX0
  go_region_held3 (fun w' => w'.cell? ⟨p, 0, none⟩ = some (.int .u64 ee) ∧ w'.cell? ⟨p, 1, none⟩ = some (.int .i64 c.S) ∧ w'.cell? ⟨p, 2, none⟩ = some (.int .i64 c.A) ∧ w'.cell? ⟨p, 3, none⟩ = some (.int .i64 c.C) ∧ w'.cell? ⟨p, 4, none⟩ = some (.int .i64 c.H) ∧ w'.cell? ⟨p, 5, none⟩ = some (.int .i64 c.G) ∧ w'.cell? ⟨p, 6, none⟩ = some (.int .i64 c.K) ∧ w'.cell? ⟨p, 7, none⟩ = some (.int .u64 nw) ∧ w'.cell? ⟨p, 8, none⟩ = some (.int .i64 wh) ∧ w'.cell? ⟨p, 9, none⟩ = some (.int .i64 1)) (assumption) (first
    | (go_at_call 36; refine (pinAtC c _ wh).mono ?_; rintro e w3 ⟨rfl, hb⟩; replace hp := Lib.hid (hp.out.below hb hp.out.lt); replace hM := Lib.hid (hM.out.next hb); replace hF := Lib.hid (hF.out.trans (fr_below hb)); clear hb; have hY_w3 : w3.cell? ⟨p, 0, none⟩ = some (.int .u64 ee) ∧ w3.cell? ⟨p, 1, none⟩ = some (.int .i64 c.S) ∧ w3.cell? ⟨p, 2, none⟩ = some (.int .i64 c.A) ∧ w3.cell? ⟨p, 3, none⟩ = some (.int .i64 c.C) ∧ w3.cell? ⟨p, 4, none⟩ = some (.int .i64 c.H) ∧ w3.cell? ⟨p, 5, none⟩ = some (.int .i64 c.G) ∧ w3.cell? ⟨p, 6, none⟩ = some (.int .i64 c.K) ∧ w3.cell? ⟨p, 7, none⟩ = some (.int .u64 nw) ∧ w3.cell? ⟨p, 8, none⟩ = some (.int .i64 wh) ∧ w3.cell? ⟨p, 9, none⟩ = some (.int .i64 1) := (by obtain ⟨y0, y1, y2, y3, y4, y5, y6, y7, y8, y9⟩ := adv_cells hp.out; exact ⟨y0, y1, y2, y3, y4, y5, y6, y7, y8, y9⟩))
    | (go_at_call 35; refine (load_c _ m b M (Cf.pin c wh) hM.out ok).mono ?_; rintro e w4 ⟨rfl, hM', hF'⟩; rw [hv.out]; replace hp := Lib.hid (hp.out.fr hF' np); replace hM := Lib.hid hM'; replace hF := Lib.hid (hF.out.trans (two_three hF')); clear hM' hF'; have z8 := hp.out.frozen 8; have z9 := hp.out.frozen 9; have hY_w4 : w4.cell? ⟨p, 0, none⟩ = some (.int .u64 ee) ∧ w4.cell? ⟨p, 1, none⟩ = some (.int .i64 c.S) ∧ w4.cell? ⟨p, 2, none⟩ = some (.int .i64 c.A) ∧ w4.cell? ⟨p, 3, none⟩ = some (.int .i64 c.C) ∧ w4.cell? ⟨p, 4, none⟩ = some (.int .i64 c.H) ∧ w4.cell? ⟨p, 5, none⟩ = some (.int .i64 c.G) ∧ w4.cell? ⟨p, 6, none⟩ = some (.int .i64 c.K) ∧ w4.cell? ⟨p, 7, none⟩ = some (.int .u64 nw) ∧ w4.cell? ⟨p, 8, none⟩ = some (.int .i64 wh) ∧ w4.cell? ⟨p, 9, none⟩ = some (.int .i64 1) := (by obtain ⟨y0, y1, y2, y3, y4, y5, y6, y7, y8, y9⟩ := adv_cells hp.out; exact ⟨y0, y1, y2, y3, y4, y5, y6, y7, y8, y9⟩)))
  obtain ⟨l0, l1, l2, l3, l4, l5, l6, l7, l8, l9⟩ := hY_w4
  go_wp2_with (go_at_call 78; refine (pinnedC _ nw).mono ?_; rintro e w5 ⟨rfl, rfl⟩)
  go_quiet (fail)
  go_wp2
  go_ret
  exact ⟨rfl, (hp.out.set 8 _).drewN _, (hM.out.set np 8 _).drewN _, (hF.out.trans (fr_p _ 8 _)).trans (Fr.drewN _ _ _)⟩
set_option maxHeartbeats 4000000 in
set_option maxRecDepth 100000 in
theorem adv_1bz (hw : 0 ≤ wh) (hw1 : wh < c.C) (hC : c.C ≤ 8) (h0 : M.ldV (Cf.pin c wh) ≠ 0) (h1 : M.ldV (Cf.pin c wh) = pinV nw) (hw2 : wh + 1 = c.C) (hp : Blk w p 54 (advA c ee nw wh 1)) : Calls Try.prog 41 #[.pointer (some ⟨p, 0, none⟩), .pointer (some ⟨m, 0, none⟩)] w fun e w' =>
    e = .returned (.bool false) ∧ Blk w' p 54 (advA c ee nw ((wh + 1)) 2) ∧ MemB w' m b (M.ldS (Cf.pin c wh)) ∧ Fr (three p m b) w w' := by
  have y1 : (wh + 1 == c.C) = true := by simpa using hw2
  replace hw2 := Lib.hid hw2
  have x1 : (M.ldV (Cf.pin c wh) == 0) = false := by simpa using h0
  have x2 : (M.ldV (Cf.pin c wh) == pinV nw) = true := by simp [h1]
  replace h1 := Lib.hid h1
  replace h0 := Lib.hid h0
  generalize hv : M.ldV (Cf.pin c wh) = v at *
  replace hv := Lib.hid hv
  have hF := Lib.hid (Fr.refl (three p m b) w)
  obtain ⟨k0, k1, k2, k3, k4, k5, k6, k7, k8, k9⟩ := adv_cells hp
  replace hp := Lib.hid hp
  replace hM := Lib.hid hM
  go_enter Try.func41, Try.ntmps41
  go_wp2
  clear k0 k1 k2 k3 k4 k5 k6 k7 k8 k9
  replace hp := Lib.hid hp.out.drew
  replace hM := Lib.hid hM.out.drew
  replace hF := Lib.hid (hF.out.trans (Fr.drew _ w))
  have hX0 := adv_cells hp.out
  have hX : w.drew.cell? ⟨p, 0, none⟩ = some (.int .u64 ee) ∧ w.drew.cell? ⟨p, 1, none⟩ = some (.int .i64 c.S) ∧ w.drew.cell? ⟨p, 2, none⟩ = some (.int .i64 c.A) ∧ w.drew.cell? ⟨p, 3, none⟩ = some (.int .i64 c.C) ∧ w.drew.cell? ⟨p, 4, none⟩ = some (.int .i64 c.H) ∧ w.drew.cell? ⟨p, 5, none⟩ = some (.int .i64 c.G) ∧ w.drew.cell? ⟨p, 6, none⟩ = some (.int .i64 c.K) ∧ w.drew.cell? ⟨p, 7, none⟩ = some (.int .u64 nw) ∧ w.drew.cell? ⟨p, 8, none⟩ = some (.int .i64 wh) ∧ w.drew.cell? ⟨p, 9, none⟩ = some (.int .i64 1) := hX0
  clear hX0
  go_region_held3 (fun w' => w'.cell? ⟨p, 0, none⟩ = some (.int .u64 ee) ∧ w'.cell? ⟨p, 1, none⟩ = some (.int .i64 c.S) ∧ w'.cell? ⟨p, 2, none⟩ = some (.int .i64 c.A) ∧ w'.cell? ⟨p, 3, none⟩ = some (.int .i64 c.C) ∧ w'.cell? ⟨p, 4, none⟩ = some (.int .i64 c.H) ∧ w'.cell? ⟨p, 5, none⟩ = some (.int .i64 c.G) ∧ w'.cell? ⟨p, 6, none⟩ = some (.int .i64 c.K) ∧ w'.cell? ⟨p, 7, none⟩ = some (.int .u64 nw) ∧ w'.cell? ⟨p, 8, none⟩ = some (.int .i64 wh) ∧ w'.cell? ⟨p, 9, none⟩ = some (.int .i64 1)) (assumption) (first
    | (go_at_call 36; refine (pinAtC c _ wh).mono ?_; rintro e w3 ⟨rfl, hb⟩; replace hp := Lib.hid (hp.out.below hb hp.out.lt); replace hM := Lib.hid (hM.out.next hb); replace hF := Lib.hid (hF.out.trans (fr_below hb)); clear hb; have hY_w3 : w3.cell? ⟨p, 0, none⟩ = some (.int .u64 ee) ∧ w3.cell? ⟨p, 1, none⟩ = some (.int .i64 c.S) ∧ w3.cell? ⟨p, 2, none⟩ = some (.int .i64 c.A) ∧ w3.cell? ⟨p, 3, none⟩ = some (.int .i64 c.C) ∧ w3.cell? ⟨p, 4, none⟩ = some (.int .i64 c.H) ∧ w3.cell? ⟨p, 5, none⟩ = some (.int .i64 c.G) ∧ w3.cell? ⟨p, 6, none⟩ = some (.int .i64 c.K) ∧ w3.cell? ⟨p, 7, none⟩ = some (.int .u64 nw) ∧ w3.cell? ⟨p, 8, none⟩ = some (.int .i64 wh) ∧ w3.cell? ⟨p, 9, none⟩ = some (.int .i64 1) := (by obtain ⟨y0, y1, y2, y3, y4, y5, y6, y7, y8, y9⟩ := adv_cells hp.out; exact ⟨y0, y1, y2, y3, y4, y5, y6, y7, y8, y9⟩))
    | (go_at_call 35; refine (load_c _ m b M (Cf.pin c wh) hM.out ok).mono ?_; rintro e w4 ⟨rfl, hM', hF'⟩; rw [hv.out]; replace hp := Lib.hid (hp.out.fr hF' np); replace hM := Lib.hid hM'; replace hF := Lib.hid (hF.out.trans (two_three hF')); clear hM' hF'; have z8 := hp.out.frozen 8; have z9 := hp.out.frozen 9; have hY_w4 : w4.cell? ⟨p, 0, none⟩ = some (.int .u64 ee) ∧ w4.cell? ⟨p, 1, none⟩ = some (.int .i64 c.S) ∧ w4.cell? ⟨p, 2, none⟩ = some (.int .i64 c.A) ∧ w4.cell? ⟨p, 3, none⟩ = some (.int .i64 c.C) ∧ w4.cell? ⟨p, 4, none⟩ = some (.int .i64 c.H) ∧ w4.cell? ⟨p, 5, none⟩ = some (.int .i64 c.G) ∧ w4.cell? ⟨p, 6, none⟩ = some (.int .i64 c.K) ∧ w4.cell? ⟨p, 7, none⟩ = some (.int .u64 nw) ∧ w4.cell? ⟨p, 8, none⟩ = some (.int .i64 wh) ∧ w4.cell? ⟨p, 9, none⟩ = some (.int .i64 1) := (by obtain ⟨y0, y1, y2, y3, y4, y5, y6, y7, y8, y9⟩ := adv_cells hp.out; exact ⟨y0, y1, y2, y3, y4, y5, y6, y7, y8, y9⟩)))
  obtain ⟨l0, l1, l2, l3, l4, l5, l6, l7, l8, l9⟩ := hY_w4
  go_wp2_with (go_at_call 78; refine (pinnedC _ nw).mono ?_; rintro e w5 ⟨rfl, rfl⟩)
  go_quiet (fail)
  go_wp2
  go_ret
  exact ⟨rfl, ((hp.out.set 8 _).drewN _).set 9 _, ((hM.out.set np 8 _).drewN _).set np 9 _, ((hF.out.trans (fr_p _ 8 _)).trans (Fr.drewN _ _ _)).trans (fr_p _ 9 _)⟩
set_option maxHeartbeats 4000000 in
set_option maxRecDepth 100000 in
theorem adv_1b (hw : 0 ≤ wh) (hw1 : wh < c.C) (hC : c.C ≤ 8) (h0 : M.ldV (Cf.pin c wh) ≠ 0) (h1 : M.ldV (Cf.pin c wh) = pinV nw) (hw2 : wh + 1 ≠ c.C) (hp : Blk w p 54 (advA c ee nw wh 1)) : Calls Try.prog 41 #[.pointer (some ⟨p, 0, none⟩), .pointer (some ⟨m, 0, none⟩)] w fun e w' =>
    e = .returned (.bool false) ∧ Blk w' p 54 (advA c ee nw ((wh + 1)) 1) ∧ MemB w' m b (M.ldS (Cf.pin c wh)) ∧ Fr (three p m b) w w' := by
  have y1 : (wh + 1 == c.C) = false := by simpa using hw2
  have x1 : (M.ldV (Cf.pin c wh) == 0) = false := by simpa using h0
  have x2 : (M.ldV (Cf.pin c wh) == pinV nw) = true := by simp [h1]
  replace h1 := Lib.hid h1
  replace h0 := Lib.hid h0
  generalize hv : M.ldV (Cf.pin c wh) = v at *
  replace hv := Lib.hid hv
  have hF := Lib.hid (Fr.refl (three p m b) w)
  obtain ⟨k0, k1, k2, k3, k4, k5, k6, k7, k8, k9⟩ := adv_cells hp
  replace hp := Lib.hid hp
  replace hM := Lib.hid hM
  go_enter Try.func41, Try.ntmps41
  go_wp2
  clear k0 k1 k2 k3 k4 k5 k6 k7 k8 k9
  replace hp := Lib.hid hp.out.drew
  replace hM := Lib.hid hM.out.drew
  replace hF := Lib.hid (hF.out.trans (Fr.drew _ w))
  have hX0 := adv_cells hp.out
  have hX : w.drew.cell? ⟨p, 0, none⟩ = some (.int .u64 ee) ∧ w.drew.cell? ⟨p, 1, none⟩ = some (.int .i64 c.S) ∧ w.drew.cell? ⟨p, 2, none⟩ = some (.int .i64 c.A) ∧ w.drew.cell? ⟨p, 3, none⟩ = some (.int .i64 c.C) ∧ w.drew.cell? ⟨p, 4, none⟩ = some (.int .i64 c.H) ∧ w.drew.cell? ⟨p, 5, none⟩ = some (.int .i64 c.G) ∧ w.drew.cell? ⟨p, 6, none⟩ = some (.int .i64 c.K) ∧ w.drew.cell? ⟨p, 7, none⟩ = some (.int .u64 nw) ∧ w.drew.cell? ⟨p, 8, none⟩ = some (.int .i64 wh) ∧ w.drew.cell? ⟨p, 9, none⟩ = some (.int .i64 1) := hX0
  clear hX0
  go_region_held3 (fun w' => w'.cell? ⟨p, 0, none⟩ = some (.int .u64 ee) ∧ w'.cell? ⟨p, 1, none⟩ = some (.int .i64 c.S) ∧ w'.cell? ⟨p, 2, none⟩ = some (.int .i64 c.A) ∧ w'.cell? ⟨p, 3, none⟩ = some (.int .i64 c.C) ∧ w'.cell? ⟨p, 4, none⟩ = some (.int .i64 c.H) ∧ w'.cell? ⟨p, 5, none⟩ = some (.int .i64 c.G) ∧ w'.cell? ⟨p, 6, none⟩ = some (.int .i64 c.K) ∧ w'.cell? ⟨p, 7, none⟩ = some (.int .u64 nw) ∧ w'.cell? ⟨p, 8, none⟩ = some (.int .i64 wh) ∧ w'.cell? ⟨p, 9, none⟩ = some (.int .i64 1)) (assumption) (first
    | (go_at_call 36; refine (pinAtC c _ wh).mono ?_; rintro e w3 ⟨rfl, hb⟩; replace hp := Lib.hid (hp.out.below hb hp.out.lt); replace hM := Lib.hid (hM.out.next hb); replace hF := Lib.hid (hF.out.trans (fr_below hb)); clear hb; have hY_w3 : w3.cell? ⟨p, 0, none⟩ = some (.int .u64 ee) ∧ w3.cell? ⟨p, 1, none⟩ = some (.int .i64 c.S) ∧ w3.cell? ⟨p, 2, none⟩ = some (.int .i64 c.A) ∧ w3.cell? ⟨p, 3, none⟩ = some (.int .i64 c.C) ∧ w3.cell? ⟨p, 4, none⟩ = some (.int .i64 c.H) ∧ w3.cell? ⟨p, 5, none⟩ = some (.int .i64 c.G) ∧ w3.cell? ⟨p, 6, none⟩ = some (.int .i64 c.K) ∧ w3.cell? ⟨p, 7, none⟩ = some (.int .u64 nw) ∧ w3.cell? ⟨p, 8, none⟩ = some (.int .i64 wh) ∧ w3.cell? ⟨p, 9, none⟩ = some (.int .i64 1) := (by obtain ⟨y0, y1, y2, y3, y4, y5, y6, y7, y8, y9⟩ := adv_cells hp.out; exact ⟨y0, y1, y2, y3, y4, y5, y6, y7, y8, y9⟩))
    | (go_at_call 35; refine (load_c _ m b M (Cf.pin c wh) hM.out ok).mono ?_; rintro e w4 ⟨rfl, hM', hF'⟩; rw [hv.out]; replace hp := Lib.hid (hp.out.fr hF' np); replace hM := Lib.hid hM'; replace hF := Lib.hid (hF.out.trans (two_three hF')); clear hM' hF'; have z8 := hp.out.frozen 8; have z9 := hp.out.frozen 9; have hY_w4 : w4.cell? ⟨p, 0, none⟩ = some (.int .u64 ee) ∧ w4.cell? ⟨p, 1, none⟩ = some (.int .i64 c.S) ∧ w4.cell? ⟨p, 2, none⟩ = some (.int .i64 c.A) ∧ w4.cell? ⟨p, 3, none⟩ = some (.int .i64 c.C) ∧ w4.cell? ⟨p, 4, none⟩ = some (.int .i64 c.H) ∧ w4.cell? ⟨p, 5, none⟩ = some (.int .i64 c.G) ∧ w4.cell? ⟨p, 6, none⟩ = some (.int .i64 c.K) ∧ w4.cell? ⟨p, 7, none⟩ = some (.int .u64 nw) ∧ w4.cell? ⟨p, 8, none⟩ = some (.int .i64 wh) ∧ w4.cell? ⟨p, 9, none⟩ = some (.int .i64 1) := (by obtain ⟨y0, y1, y2, y3, y4, y5, y6, y7, y8, y9⟩ := adv_cells hp.out; exact ⟨y0, y1, y2, y3, y4, y5, y6, y7, y8, y9⟩)))
  obtain ⟨l0, l1, l2, l3, l4, l5, l6, l7, l8, l9⟩ := hY_w4
  go_wp2_with (go_at_call 78; refine (pinnedC _ nw).mono ?_; rintro e w5 ⟨rfl, rfl⟩)
  go_quiet (fail)
  go_wp2
  go_ret
  exact ⟨rfl, (hp.out.set 8 _).drewN _, (hM.out.set np 8 _).drewN _, (hF.out.trans (fr_p _ 8 _)).trans (Fr.drewN _ _ _)⟩
set_option maxHeartbeats 4000000 in
set_option maxRecDepth 100000 in
theorem adv_1c (hw : 0 ≤ wh) (hw1 : wh < c.C) (hC : c.C ≤ 8) (h0 : M.ldV (Cf.pin c wh) ≠ 0) (h1 : M.ldV (Cf.pin c wh) ≠ pinV nw) (hp : Blk w p 54 (advA c ee nw wh 1)) : Calls Try.prog 41 #[.pointer (some ⟨p, 0, none⟩), .pointer (some ⟨m, 0, none⟩)] w fun e w' =>
    e = .returned (.bool false) ∧ Blk w' p 54 (advA c ee nw wh 1) ∧ MemB w' m b (M.ldS (Cf.pin c wh)) ∧ Fr (three p m b) w w' := by
  have y1 : (wh == c.C) = false := by simp; omega
  have x1 : (M.ldV (Cf.pin c wh) == 0) = false := by simpa using h0
  have x2 : (M.ldV (Cf.pin c wh) == pinV nw) = false := by simpa using h1
  replace h1 := Lib.hid h1
  replace h0 := Lib.hid h0
  generalize hv : M.ldV (Cf.pin c wh) = v at *
  replace hv := Lib.hid hv
  have hF := Lib.hid (Fr.refl (three p m b) w)
  obtain ⟨k0, k1, k2, k3, k4, k5, k6, k7, k8, k9⟩ := adv_cells hp
  replace hp := Lib.hid hp
  replace hM := Lib.hid hM
  go_enter Try.func41, Try.ntmps41
  go_wp2
  clear k0 k1 k2 k3 k4 k5 k6 k7 k8 k9
  replace hp := Lib.hid hp.out.drew
  replace hM := Lib.hid hM.out.drew
  replace hF := Lib.hid (hF.out.trans (Fr.drew _ w))
  have hX0 := adv_cells hp.out
  have hX : w.drew.cell? ⟨p, 0, none⟩ = some (.int .u64 ee) ∧ w.drew.cell? ⟨p, 1, none⟩ = some (.int .i64 c.S) ∧ w.drew.cell? ⟨p, 2, none⟩ = some (.int .i64 c.A) ∧ w.drew.cell? ⟨p, 3, none⟩ = some (.int .i64 c.C) ∧ w.drew.cell? ⟨p, 4, none⟩ = some (.int .i64 c.H) ∧ w.drew.cell? ⟨p, 5, none⟩ = some (.int .i64 c.G) ∧ w.drew.cell? ⟨p, 6, none⟩ = some (.int .i64 c.K) ∧ w.drew.cell? ⟨p, 7, none⟩ = some (.int .u64 nw) ∧ w.drew.cell? ⟨p, 8, none⟩ = some (.int .i64 wh) ∧ w.drew.cell? ⟨p, 9, none⟩ = some (.int .i64 1) := hX0
  clear hX0
  go_region_held3 (fun w' => w'.cell? ⟨p, 0, none⟩ = some (.int .u64 ee) ∧ w'.cell? ⟨p, 1, none⟩ = some (.int .i64 c.S) ∧ w'.cell? ⟨p, 2, none⟩ = some (.int .i64 c.A) ∧ w'.cell? ⟨p, 3, none⟩ = some (.int .i64 c.C) ∧ w'.cell? ⟨p, 4, none⟩ = some (.int .i64 c.H) ∧ w'.cell? ⟨p, 5, none⟩ = some (.int .i64 c.G) ∧ w'.cell? ⟨p, 6, none⟩ = some (.int .i64 c.K) ∧ w'.cell? ⟨p, 7, none⟩ = some (.int .u64 nw) ∧ w'.cell? ⟨p, 8, none⟩ = some (.int .i64 wh) ∧ w'.cell? ⟨p, 9, none⟩ = some (.int .i64 1)) (assumption) (first
    | (go_at_call 36; refine (pinAtC c _ wh).mono ?_; rintro e w3 ⟨rfl, hb⟩; replace hp := Lib.hid (hp.out.below hb hp.out.lt); replace hM := Lib.hid (hM.out.next hb); replace hF := Lib.hid (hF.out.trans (fr_below hb)); clear hb; have hY_w3 : w3.cell? ⟨p, 0, none⟩ = some (.int .u64 ee) ∧ w3.cell? ⟨p, 1, none⟩ = some (.int .i64 c.S) ∧ w3.cell? ⟨p, 2, none⟩ = some (.int .i64 c.A) ∧ w3.cell? ⟨p, 3, none⟩ = some (.int .i64 c.C) ∧ w3.cell? ⟨p, 4, none⟩ = some (.int .i64 c.H) ∧ w3.cell? ⟨p, 5, none⟩ = some (.int .i64 c.G) ∧ w3.cell? ⟨p, 6, none⟩ = some (.int .i64 c.K) ∧ w3.cell? ⟨p, 7, none⟩ = some (.int .u64 nw) ∧ w3.cell? ⟨p, 8, none⟩ = some (.int .i64 wh) ∧ w3.cell? ⟨p, 9, none⟩ = some (.int .i64 1) := (by obtain ⟨y0, y1, y2, y3, y4, y5, y6, y7, y8, y9⟩ := adv_cells hp.out; exact ⟨y0, y1, y2, y3, y4, y5, y6, y7, y8, y9⟩))
    | (go_at_call 35; refine (load_c _ m b M (Cf.pin c wh) hM.out ok).mono ?_; rintro e w4 ⟨rfl, hM', hF'⟩; rw [hv.out]; replace hp := Lib.hid (hp.out.fr hF' np); replace hM := Lib.hid hM'; replace hF := Lib.hid (hF.out.trans (two_three hF')); clear hM' hF'; have z8 := hp.out.frozen 8; have z9 := hp.out.frozen 9; have hY_w4 : w4.cell? ⟨p, 0, none⟩ = some (.int .u64 ee) ∧ w4.cell? ⟨p, 1, none⟩ = some (.int .i64 c.S) ∧ w4.cell? ⟨p, 2, none⟩ = some (.int .i64 c.A) ∧ w4.cell? ⟨p, 3, none⟩ = some (.int .i64 c.C) ∧ w4.cell? ⟨p, 4, none⟩ = some (.int .i64 c.H) ∧ w4.cell? ⟨p, 5, none⟩ = some (.int .i64 c.G) ∧ w4.cell? ⟨p, 6, none⟩ = some (.int .i64 c.K) ∧ w4.cell? ⟨p, 7, none⟩ = some (.int .u64 nw) ∧ w4.cell? ⟨p, 8, none⟩ = some (.int .i64 wh) ∧ w4.cell? ⟨p, 9, none⟩ = some (.int .i64 1) := (by obtain ⟨y0, y1, y2, y3, y4, y5, y6, y7, y8, y9⟩ := adv_cells hp.out; exact ⟨y0, y1, y2, y3, y4, y5, y6, y7, y8, y9⟩)))
  obtain ⟨l0, l1, l2, l3, l4, l5, l6, l7, l8, l9⟩ := hY_w4
  go_wp2_with (go_at_call 78; refine (pinnedC _ nw).mono ?_; rintro e w5 ⟨rfl, rfl⟩)
  go_quiet (fail)
  go_wp2
  go_ret
  exact ⟨rfl, hp.out.drewN _, hM.out.drewN _, hF.out.trans (Fr.drewN _ _ _)⟩
set_option maxHeartbeats 4000000 in
set_option maxRecDepth 100000 in
theorem adv_2a (hs : M.swV 1 nw = true) (hp : Blk w p 54 (advA c ee nw wh 2)) : Calls Try.prog 41 #[.pointer (some ⟨p, 0, none⟩), .pointer (some ⟨m, 0, none⟩)] w fun e w' =>
    e = .returned (.bool true) ∧ Blk w' p 54 (advA c (((nw + 1) % 18446744073709551616)) nw wh 3) ∧ MemB w' m b (M.swS 1 nw ((nw + 1) % 18446744073709551616)) ∧ Fr (three p m b) w w' := by
  have e1 : IntKind.u64.wrap (nw + 1) = (nw + 1) % 18446744073709551616 := wrap_u64 _
  replace hs := Lib.hid hs
  have hF := Lib.hid (Fr.refl (three p m b) w)
  obtain ⟨k0, k1, k2, k3, k4, k5, k6, k7, k8, k9⟩ := adv_cells hp
  have z9 := hp.frozen 9
  replace hp := Lib.hid hp
  replace hM := Lib.hid hM
  go_enter Try.func41, Try.ntmps41
  go_wp2
  have hp' : Blk (w.setCell ⟨p, 9, none⟩ (.int .i64 0)) p 54 (advA c ee nw wh 0) := (hp.out.set 9 _)
  have hM' := (hM.out.set np 9 (.int .i64 0))
  have hF' := (hF.out.trans (fr_p w 9 (.int .i64 0)))
  clear hp hM hF k0 k1 k2 k3 k4 k5 k6 k7 k8 k9 z9
  generalize w.setCell ⟨p, 9, none⟩ (.int .i64 0) = w2 at *
  have hp := Lib.hid hp'
  have hM := Lib.hid hM'
  have hF := Lib.hid hF'
  clear hp' hM' hF'
  replace hp := Lib.hid hp.out.drew
  replace hM := Lib.hid hM.out.drew
  replace hF := Lib.hid (hF.out.trans (Fr.drew _ w2))
  have hX0 := adv_cells hp.out
  have hX : w2.drew.cell? ⟨p, 0, none⟩ = some (.int .u64 ee) ∧ w2.drew.cell? ⟨p, 1, none⟩ = some (.int .i64 c.S) ∧ w2.drew.cell? ⟨p, 2, none⟩ = some (.int .i64 c.A) ∧ w2.drew.cell? ⟨p, 3, none⟩ = some (.int .i64 c.C) ∧ w2.drew.cell? ⟨p, 4, none⟩ = some (.int .i64 c.H) ∧ w2.drew.cell? ⟨p, 5, none⟩ = some (.int .i64 c.G) ∧ w2.drew.cell? ⟨p, 6, none⟩ = some (.int .i64 c.K) ∧ w2.drew.cell? ⟨p, 7, none⟩ = some (.int .u64 nw) ∧ w2.drew.cell? ⟨p, 8, none⟩ = some (.int .i64 wh) ∧ w2.drew.cell? ⟨p, 9, none⟩ = some (.int .i64 0) := hX0
  clear hX0
  go_region_held3 (fun w' => w'.cell? ⟨p, 0, none⟩ = some (.int .u64 ee) ∧ w'.cell? ⟨p, 1, none⟩ = some (.int .i64 c.S) ∧ w'.cell? ⟨p, 2, none⟩ = some (.int .i64 c.A) ∧ w'.cell? ⟨p, 3, none⟩ = some (.int .i64 c.C) ∧ w'.cell? ⟨p, 4, none⟩ = some (.int .i64 c.H) ∧ w'.cell? ⟨p, 5, none⟩ = some (.int .i64 c.G) ∧ w'.cell? ⟨p, 6, none⟩ = some (.int .i64 c.K) ∧ w'.cell? ⟨p, 7, none⟩ = some (.int .u64 nw) ∧ w'.cell? ⟨p, 8, none⟩ = some (.int .i64 wh) ∧ w'.cell? ⟨p, 9, none⟩ = some (.int .i64 0)) (assumption) (first
    | (go_at_call 82; refine (swap_c _ m b M 1 hM.out ok nw ((nw + 1) % 18446744073709551616)).mono ?_; rintro e w4 ⟨rfl, hM', hF'⟩; rw [hs.out]; replace hp := Lib.hid (hp.out.fr hF' np); replace hM := Lib.hid hM'; replace hF := Lib.hid (hF.out.trans (two_three hF')); clear hM' hF'; have z0 := hp.out.frozen 0; have z9 := hp.out.frozen 9; have hY_w4 : w4.cell? ⟨p, 0, none⟩ = some (.int .u64 ee) ∧ w4.cell? ⟨p, 1, none⟩ = some (.int .i64 c.S) ∧ w4.cell? ⟨p, 2, none⟩ = some (.int .i64 c.A) ∧ w4.cell? ⟨p, 3, none⟩ = some (.int .i64 c.C) ∧ w4.cell? ⟨p, 4, none⟩ = some (.int .i64 c.H) ∧ w4.cell? ⟨p, 5, none⟩ = some (.int .i64 c.G) ∧ w4.cell? ⟨p, 6, none⟩ = some (.int .i64 c.K) ∧ w4.cell? ⟨p, 7, none⟩ = some (.int .u64 nw) ∧ w4.cell? ⟨p, 8, none⟩ = some (.int .i64 wh) ∧ w4.cell? ⟨p, 9, none⟩ = some (.int .i64 0) := (by obtain ⟨y0, y1, y2, y3, y4, y5, y6, y7, y8, y9⟩ := adv_cells hp.out; exact ⟨y0, y1, y2, y3, y4, y5, y6, y7, y8, y9⟩)))
  obtain ⟨l0, l1, l2, l3, l4, l5, l6, l7, l8, l9⟩ := hY_w4
  go_wp2
  go_ret
  exact ⟨rfl, (hp.out.set 0 _).set 9 _, (hM.out.set np 0 _).set np 9 _, (hF.out.trans (fr_p _ 0 _)).trans (fr_p _ 9 _)⟩
set_option maxHeartbeats 4000000 in
set_option maxRecDepth 100000 in
theorem adv_2b (hs : M.swV 1 nw = false) (hp : Blk w p 54 (advA c ee nw wh 2)) : Calls Try.prog 41 #[.pointer (some ⟨p, 0, none⟩), .pointer (some ⟨m, 0, none⟩)] w fun e w' =>
    e = .returned (.bool false) ∧ Blk w' p 54 (advA c ee nw wh 0) ∧ MemB w' m b (M.swS 1 nw ((nw + 1) % 18446744073709551616)) ∧ Fr (three p m b) w w' := by
  have e1 : IntKind.u64.wrap (nw + 1) = (nw + 1) % 18446744073709551616 := wrap_u64 _
  replace hs := Lib.hid hs
  have hF := Lib.hid (Fr.refl (three p m b) w)
  obtain ⟨k0, k1, k2, k3, k4, k5, k6, k7, k8, k9⟩ := adv_cells hp
  have z9 := hp.frozen 9
  replace hp := Lib.hid hp
  replace hM := Lib.hid hM
  go_enter Try.func41, Try.ntmps41
  go_wp2
  have hp' : Blk (w.setCell ⟨p, 9, none⟩ (.int .i64 0)) p 54 (advA c ee nw wh 0) := (hp.out.set 9 _)
  have hM' := (hM.out.set np 9 (.int .i64 0))
  have hF' := (hF.out.trans (fr_p w 9 (.int .i64 0)))
  clear hp hM hF k0 k1 k2 k3 k4 k5 k6 k7 k8 k9 z9
  generalize w.setCell ⟨p, 9, none⟩ (.int .i64 0) = w2 at *
  have hp := Lib.hid hp'
  have hM := Lib.hid hM'
  have hF := Lib.hid hF'
  clear hp' hM' hF'
  replace hp := Lib.hid hp.out.drew
  replace hM := Lib.hid hM.out.drew
  replace hF := Lib.hid (hF.out.trans (Fr.drew _ w2))
  have hX0 := adv_cells hp.out
  have hX : w2.drew.cell? ⟨p, 0, none⟩ = some (.int .u64 ee) ∧ w2.drew.cell? ⟨p, 1, none⟩ = some (.int .i64 c.S) ∧ w2.drew.cell? ⟨p, 2, none⟩ = some (.int .i64 c.A) ∧ w2.drew.cell? ⟨p, 3, none⟩ = some (.int .i64 c.C) ∧ w2.drew.cell? ⟨p, 4, none⟩ = some (.int .i64 c.H) ∧ w2.drew.cell? ⟨p, 5, none⟩ = some (.int .i64 c.G) ∧ w2.drew.cell? ⟨p, 6, none⟩ = some (.int .i64 c.K) ∧ w2.drew.cell? ⟨p, 7, none⟩ = some (.int .u64 nw) ∧ w2.drew.cell? ⟨p, 8, none⟩ = some (.int .i64 wh) ∧ w2.drew.cell? ⟨p, 9, none⟩ = some (.int .i64 0) := hX0
  clear hX0
  go_region_held3 (fun w' => w'.cell? ⟨p, 0, none⟩ = some (.int .u64 ee) ∧ w'.cell? ⟨p, 1, none⟩ = some (.int .i64 c.S) ∧ w'.cell? ⟨p, 2, none⟩ = some (.int .i64 c.A) ∧ w'.cell? ⟨p, 3, none⟩ = some (.int .i64 c.C) ∧ w'.cell? ⟨p, 4, none⟩ = some (.int .i64 c.H) ∧ w'.cell? ⟨p, 5, none⟩ = some (.int .i64 c.G) ∧ w'.cell? ⟨p, 6, none⟩ = some (.int .i64 c.K) ∧ w'.cell? ⟨p, 7, none⟩ = some (.int .u64 nw) ∧ w'.cell? ⟨p, 8, none⟩ = some (.int .i64 wh) ∧ w'.cell? ⟨p, 9, none⟩ = some (.int .i64 0)) (assumption) (first
    | (go_at_call 82; refine (swap_c _ m b M 1 hM.out ok nw ((nw + 1) % 18446744073709551616)).mono ?_; rintro e w4 ⟨rfl, hM', hF'⟩; rw [hs.out]; replace hp := Lib.hid (hp.out.fr hF' np); replace hM := Lib.hid hM'; replace hF := Lib.hid (hF.out.trans (two_three hF')); clear hM' hF'; have z0 := hp.out.frozen 0; have z9 := hp.out.frozen 9; have hY_w4 : w4.cell? ⟨p, 0, none⟩ = some (.int .u64 ee) ∧ w4.cell? ⟨p, 1, none⟩ = some (.int .i64 c.S) ∧ w4.cell? ⟨p, 2, none⟩ = some (.int .i64 c.A) ∧ w4.cell? ⟨p, 3, none⟩ = some (.int .i64 c.C) ∧ w4.cell? ⟨p, 4, none⟩ = some (.int .i64 c.H) ∧ w4.cell? ⟨p, 5, none⟩ = some (.int .i64 c.G) ∧ w4.cell? ⟨p, 6, none⟩ = some (.int .i64 c.K) ∧ w4.cell? ⟨p, 7, none⟩ = some (.int .u64 nw) ∧ w4.cell? ⟨p, 8, none⟩ = some (.int .i64 wh) ∧ w4.cell? ⟨p, 9, none⟩ = some (.int .i64 0) := (by obtain ⟨y0, y1, y2, y3, y4, y5, y6, y7, y8, y9⟩ := adv_cells hp.out; exact ⟨y0, y1, y2, y3, y4, y5, y6, y7, y8, y9⟩)))
  obtain ⟨l0, l1, l2, l3, l4, l5, l6, l7, l8, l9⟩ := hY_w4
  go_wp2
  go_ret
  exact ⟨rfl, hp.out, hM.out, hF.out⟩
set_option maxHeartbeats 4000000 in
set_option maxRecDepth 100000 in
theorem adv_3 (hp : Blk w p 54 (advA c ee nw wh 3)) : Calls Try.prog 41 #[.pointer (some ⟨p, 0, none⟩), .pointer (some ⟨m, 0, none⟩)] w fun e w' =>
    e = .returned (.bool true) ∧ Blk w' p 54 (advA c ee nw wh 3) ∧ MemB w' m b (M) ∧ Fr (three p m b) w w' := by
  have hF := Lib.hid (Fr.refl (three p m b) w)
  obtain ⟨k0, k1, k2, k3, k4, k5, k6, k7, k8, k9⟩ := adv_cells hp
  replace hp := Lib.hid hp
  replace hM := Lib.hid hM
  go_enter Try.func41, Try.ntmps41
  go_wp2
  go_ret
  exact ⟨rfl, hp.out, hM.out, hF.out⟩
end
end Go.Proofs.Ytijfkpoofpcacaa.EpochC
