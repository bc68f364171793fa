/-
  What the law ArenaFrees needs of the seat's texts (ArenaN, ArenaP, StackT, StackF, StackP, StackQ, TakerL, ArenaL, ArenaR, ArenaQ, ArenaS, StackG, ArenaT, ArenaU, ArenaV, RefM, ArenaW, ArenaY): the words and functions that the kit's print.sh printed, and our own; no condition of its own.
-/
import Derived.Laws.CopyRow
import Derived.Laws.IdiomCopy
import Derived.Lib.SlBuf
import Derived.Deep.DeepCutAuto
import Derived.Deep.CutBlock
import Derived.Deep.CutRange
import Derived.Deep.QuietTactic
import Derived.BigQuiet
import Derived.Lib.SliceRun
import Derived.Test.YtijfkpoofpcacaaZArenaFrees3
set_option linter.unusedVariables false
set_option linter.unusedSectionVars false
set_option linter.unusedSimpArgs false
section
set_option linter.unusedVariables false
set_option linter.unusedSectionVars false
set_option linter.unusedSimpArgs false
namespace Go.Proofs.Ytijfkpoofpcacaa.ArenaN
open Go.RowKit Go.Proofs.YtijfkpoofpcacaaW.PrintWords Go.Proofs.Ytijfkpoofpcacaa.Blk Go.Proofs.Ytijfkpoofpcacaa.Core Go.Proofs.Ytijfkpoofpcacaa.MemC Go.Proofs.Ytijfkpoofpcacaa.MemD Go.Proofs.Ytijfkpoofpcacaa.MemT Go.Proofs.Ytijfkpoofpcacaa.PlanC Go.Proofs.Ytijfkpoofpcacaa.PlanD Go.Proofs.Ytijfkpoofpcacaa.StackC Go.Proofs.Ytijfkpoofpcacaa.StackS Go.Proofs.Ytijfkpoofpcacaa.HeadC Go.Proofs.Ytijfkpoofpcacaa.ArenaC Go.Proofs.Ytijfkpoofpcacaa.ArenaM
set_option maxHeartbeats 4000000 in
set_option maxRecDepth 100000 in
theorem make_2b (c : Cf) (w : World) (p m b : Nat) (M : Ms) (hM : MemB w m b M) (ok : Ok M) (np : ¬ two m b p) (sl : Int) (fu : Bool) (kd ar ep : Int) (q : Nat) (Q : Pop) (nqm : ¬ two m b q) (nqp : q ≠ p) (hQ : PopB w q c Q) (gn : Int) (r cc n : Nat) (g : Nat → Int) (hR : RowB w (some ⟨r, 0, none⟩) cc r n g) (hn : n ≤ 1000) (nrm : ¬ two m b r) (nrp : r ≠ p) (k : Nat) (hk : k < n) (hl : ((k : Int) + 1 == (n : Int)) = false) (hp : Blk w p 82 (makeA c sl fu kd ar ep ((.slice (some ⟨r, 0, none⟩) n cc)) ((some ⟨q, 0, none⟩)) gn ((k : Int)) 2)) : Calls Try.prog 52 #[.pointer (some ⟨p, 0, none⟩), .pointer (some ⟨m, 0, none⟩)] w fun e w' =>
    e = .returned (.bool false) ∧ PopB w' q c Q ∧ Blk w' p 82 (makeA c sl fu kd ar ep ((.slice (some ⟨r, 0, none⟩) n cc)) ((some ⟨q, 0, none⟩)) gn (((k : Int) + 1)) 2) ∧ MemB w' m b (M.stS (c.body Q.sl k) (g k)) ∧ RowB w' (some ⟨r, 0, none⟩) cc r n g ∧ Fr (four p q m b) w w' := by
  replace hR := Lib.hid hR
  have kn : (k : Int) < (n : Int) := by omega
  have k0' : 0 ≤ (k : Int) := by omega
  have hF := Lib.hid (Fr.refl (four p q m b) w)
  obtain ⟨k0, k1, k2, k3, k4, k5, k6, k7, k8, k9, k10, k11, k12, k13, k14, k15⟩ := make_cells hp
  have q0 : w.cell? ⟨q, 0, none⟩ = some (.int .i64 Q.sl) := Blk.cell hQ (i := 0) rfl
  replace hQ := Lib.hid hQ
  replace hp := Lib.hid hp
  replace hM := Lib.hid hM
  go_enter Try.func52, Try.ntmps52
  go_wp2
  clear k0 k1 k2 k3 k4 k5 k6 k7 k8 k9 k10 k11 k12 k13 k14 k15 q0
  replace hQ := Lib.hid (Blk.drew hQ.out)
  replace hp := Lib.hid hp.out.drew
  replace hM := Lib.hid hM.out.drew
  replace hR := Lib.hid hR.out.drew
  replace hF := Lib.hid (hF.out.trans (Fr.drew _ w))
  have hX : w.drew.cell? ⟨p, 0, none⟩ = some (.int .i64 sl) ∧ w.drew.cell? ⟨p, 1, none⟩ = some (.bool fu) ∧ w.drew.cell? ⟨p, 2, none⟩ = some (.int .i64 c.S) ∧ w.drew.cell? ⟨p, 3, none⟩ = some (.int .i64 c.A) ∧ w.drew.cell? ⟨p, 4, none⟩ = some (.int .i64 c.C) ∧ w.drew.cell? ⟨p, 5, none⟩ = some (.int .i64 c.H) ∧ w.drew.cell? ⟨p, 6, none⟩ = some (.int .i64 c.G) ∧ w.drew.cell? ⟨p, 7, none⟩ = some (.int .i64 c.K) ∧ w.drew.cell? ⟨p, 8, none⟩ = some (.int .i64 kd) ∧ w.drew.cell? ⟨p, 9, none⟩ = some (.int .i64 ar) ∧ w.drew.cell? ⟨p, 10, none⟩ = some (.int .u64 ep) ∧ w.drew.cell? ⟨p, 11, none⟩ = some ((.slice (some ⟨r, 0, none⟩) n cc)) ∧ w.drew.cell? ⟨p, 12, none⟩ = some (.pointer (some ⟨q, 0, none⟩)) ∧ w.drew.cell? ⟨p, 13, none⟩ = some (.int .i64 gn) ∧ w.drew.cell? ⟨p, 14, none⟩ = some (.int .i64 (k : Int)) ∧ w.drew.cell? ⟨p, 15, none⟩ = some (.int .i64 2) ∧ w.drew.cell? ⟨r, k, none⟩ = some (.int .u64 (g k)) := by
    obtain ⟨x0, x1, x2, x3, x4, x5, x6, x7, x8, x9, x10, x11, x12, x13, x14, x15⟩ := make_cells hp.out
    exact ⟨x0, x1, x2, x3, x4, x5, x6, x7, x8, x9, x10, x11, x12, x13, x14, x15, (hR.out.cell hk).2.1⟩
  go_region_held3 (fun w' => w'.cell? ⟨p, 0, none⟩ = some (.int .i64 sl) ∧ w'.cell? ⟨p, 1, none⟩ = some (.bool fu) ∧ w'.cell? ⟨p, 2, none⟩ = some (.int .i64 c.S) ∧ w'.cell? ⟨p, 3, none⟩ = some (.int .i64 c.A) ∧ w'.cell? ⟨p, 4, none⟩ = some (.int .i64 c.C) ∧ w'.cell? ⟨p, 5, none⟩ = some (.int .i64 c.H) ∧ w'.cell? ⟨p, 6, none⟩ = some (.int .i64 c.G) ∧ w'.cell? ⟨p, 7, none⟩ = some (.int .i64 c.K) ∧ w'.cell? ⟨p, 8, none⟩ = some (.int .i64 kd) ∧ w'.cell? ⟨p, 9, none⟩ = some (.int .i64 ar) ∧ w'.cell? ⟨p, 10, none⟩ = some (.int .u64 ep) ∧ w'.cell? ⟨p, 11, none⟩ = some ((.slice (some ⟨r, 0, none⟩) n cc)) ∧ w'.cell? ⟨p, 12, none⟩ = some (.pointer (some ⟨q, 0, none⟩)) ∧ w'.cell? ⟨p, 13, none⟩ = some (.int .i64 gn) ∧ w'.cell? ⟨p, 14, none⟩ = some (.int .i64 (k : Int)) ∧ w'.cell? ⟨p, 15, none⟩ = some (.int .i64 2) ∧ w'.cell? ⟨r, k, none⟩ = some (.int .u64 (g k))) (assumption) (first
    | (go_at_call 85; refine (bodyC c _ Q.sl k).mono ?_; rintro e w3 ⟨rfl, hb⟩; replace hQ := Lib.hid (Blk.below hQ.out hb (Blk.lt hQ.out)); replace hp := Lib.hid (hp.out.below hb hp.out.lt); replace hM := Lib.hid (hM.out.next hb); replace hR := Lib.hid (hR.out.below hb (Nat.le_refl _)); replace hF := Lib.hid (hF.out.trans (Fr.of_below hb (fun _ x _ => x))); clear hb; have hY3 : w3.cell? ⟨p, 0, none⟩ = some (.int .i64 sl) ∧ w3.cell? ⟨p, 1, none⟩ = some (.bool fu) ∧ w3.cell? ⟨p, 2, none⟩ = some (.int .i64 c.S) ∧ w3.cell? ⟨p, 3, none⟩ = some (.int .i64 c.A) ∧ w3.cell? ⟨p, 4, none⟩ = some (.int .i64 c.C) ∧ w3.cell? ⟨p, 5, none⟩ = some (.int .i64 c.H) ∧ w3.cell? ⟨p, 6, none⟩ = some (.int .i64 c.G) ∧ w3.cell? ⟨p, 7, none⟩ = some (.int .i64 c.K) ∧ w3.cell? ⟨p, 8, none⟩ = some (.int .i64 kd) ∧ w3.cell? ⟨p, 9, none⟩ = some (.int .i64 ar) ∧ w3.cell? ⟨p, 10, none⟩ = some (.int .u64 ep) ∧ w3.cell? ⟨p, 11, none⟩ = some ((.slice (some ⟨r, 0, none⟩) n cc)) ∧ w3.cell? ⟨p, 12, none⟩ = some (.pointer (some ⟨q, 0, none⟩)) ∧ w3.cell? ⟨p, 13, none⟩ = some (.int .i64 gn) ∧ w3.cell? ⟨p, 14, none⟩ = some (.int .i64 (k : Int)) ∧ w3.cell? ⟨p, 15, none⟩ = some (.int .i64 2) ∧ w3.cell? ⟨r, k, none⟩ = some (.int .u64 (g k)) := (by obtain ⟨y0, y1, y2, y3, y4, y5, y6, y7, y8, y9, y10, y11, y12, y13, y14, y15⟩ := make_cells hp.out; exact ⟨y0, y1, y2, y3, y4, y5, y6, y7, y8, y9, y10, y11, y12, y13, y14, y15, (hR.out.cell hk).2.1⟩))
    | (go_at_call 57; refine (store_c _ m b M (c.body Q.sl k) hM.out ok (g k)).mono ?_; rintro e w4 ⟨rfl, hM', hF'⟩; replace hQ := Lib.hid (Blk.fr hQ.out hF' nqm); replace hp := Lib.hid (hp.out.fr hF' np); replace hM := Lib.hid hM'; replace hR := Lib.hid (hR.out.fr hF' nrm); replace hF := Lib.hid (hF.out.trans (hF'.mono (fun _ x => .inr (.inr x)))); clear hM' hF'; have hY4 : w4.cell? ⟨p, 0, none⟩ = some (.int .i64 sl) ∧ w4.cell? ⟨p, 1, none⟩ = some (.bool fu) ∧ w4.cell? ⟨p, 2, none⟩ = some (.int .i64 c.S) ∧ w4.cell? ⟨p, 3, none⟩ = some (.int .i64 c.A) ∧ w4.cell? ⟨p, 4, none⟩ = some (.int .i64 c.C) ∧ w4.cell? ⟨p, 5, none⟩ = some (.int .i64 c.H) ∧ w4.cell? ⟨p, 6, none⟩ = some (.int .i64 c.G) ∧ w4.cell? ⟨p, 7, none⟩ = some (.int .i64 c.K) ∧ w4.cell? ⟨p, 8, none⟩ = some (.int .i64 kd) ∧ w4.cell? ⟨p, 9, none⟩ = some (.int .i64 ar) ∧ w4.cell? ⟨p, 10, none⟩ = some (.int .u64 ep) ∧ w4.cell? ⟨p, 11, none⟩ = some ((.slice (some ⟨r, 0, none⟩) n cc)) ∧ w4.cell? ⟨p, 12, none⟩ = some (.pointer (some ⟨q, 0, none⟩)) ∧ w4.cell? ⟨p, 13, none⟩ = some (.int .i64 gn) ∧ w4.cell? ⟨p, 14, none⟩ = some (.int .i64 (k : Int)) ∧ w4.cell? ⟨p, 15, none⟩ = some (.int .i64 2) ∧ w4.cell? ⟨r, k, none⟩ = some (.int .u64 (g k)) := (by obtain ⟨y0, y1, y2, y3, y4, y5, y6, y7, y8, y9, y10, y11, y12, y13, y14, y15⟩ := make_cells hp.out; exact ⟨y0, y1, y2, y3, y4, y5, y6, y7, y8, y9, y10, y11, y12, y13, y14, y15, (hR.out.cell hk).2.1⟩)))
  all_goals
    clear hX hY3 hY4
    obtain ⟨l0, l1, l2, l3, l4, l5, l6, l7, l8, l9, l10, l11, l12, l13, l14, l15⟩ := make_cells hp.out
    have z14 := hp.out.frozen 14
    go_upto_region 16 with (fail)
    have hQ' : PopB (w4.setCell ⟨p, 14, none⟩ (.int .i64 ((k : Int) + 1))) q c Q := Blk.other hQ.out ⟨p, 14, none⟩ nqp _
    have hp' : Blk (w4.setCell ⟨p, 14, none⟩ (.int .i64 ((k : Int) + 1))) p 82 (makeA c sl fu kd ar ep ((.slice (some ⟨r, 0, none⟩) n cc)) ((some ⟨q, 0, none⟩)) gn (((k : Int) + 1)) 2) := hp.out.set 14 _
    have hM' := hM.out.set np 14 (.int .i64 ((k : Int) + 1))
    have hR' := hR.out.fr (Fr.set (fun x => x = p) w4 (p := ⟨p, 14, none⟩) rfl (.int .i64 ((k : Int) + 1))) nrp
    have hF' := hF.out.trans (fr_f w4 14 (.int .i64 ((k : Int) + 1)))
    clear hp hM hF hQ hR z14 l0 l1 l2 l3 l4 l5 l6 l7 l8 l9 l10 l11 l12 l13 l14 l15
    generalize w4.setCell ⟨p, 14, none⟩ (.int .i64 ((k : Int) + 1)) = w5 at *
    have hp := Lib.hid hp'
    have hM := Lib.hid hM'
    have hF := Lib.hid hF'
    have hQ := Lib.hid hQ'
    have hR := Lib.hid hR'
    clear hp' hM' hF' hQ' hR'
    replace hQ := Lib.hid (Blk.drew hQ.out)
    replace hp := Lib.hid hp.out.drew
    replace hM := Lib.hid hM.out.drew
    replace hR := Lib.hid hR.out.drew
    replace hF := Lib.hid (hF.out.trans (Fr.drew _ w5))
    have hX : w5.drew.cell? ⟨p, 0, none⟩ = some (.int .i64 sl) ∧ w5.drew.cell? ⟨p, 1, none⟩ = some (.bool fu) ∧ w5.drew.cell? ⟨p, 2, none⟩ = some (.int .i64 c.S) ∧ w5.drew.cell? ⟨p, 3, none⟩ = some (.int .i64 c.A) ∧ w5.drew.cell? ⟨p, 4, none⟩ = some (.int .i64 c.C) ∧ w5.drew.cell? ⟨p, 5, none⟩ = some (.int .i64 c.H) ∧ w5.drew.cell? ⟨p, 6, none⟩ = some (.int .i64 c.G) ∧ w5.drew.cell? ⟨p, 7, none⟩ = some (.int .i64 c.K) ∧ w5.drew.cell? ⟨p, 8, none⟩ = some (.int .i64 kd) ∧ w5.drew.cell? ⟨p, 9, none⟩ = some (.int .i64 ar) ∧ w5.drew.cell? ⟨p, 10, none⟩ = some (.int .u64 ep) ∧ w5.drew.cell? ⟨p, 11, none⟩ = some ((.slice (some ⟨r, 0, none⟩) n cc)) ∧ w5.drew.cell? ⟨p, 12, none⟩ = some (.pointer (some ⟨q, 0, none⟩)) ∧ w5.drew.cell? ⟨p, 13, none⟩ = some (.int .i64 gn) ∧ w5.drew.cell? ⟨p, 14, none⟩ = some (.int .i64 ((k : Int) + 1)) ∧ w5.drew.cell? ⟨p, 15, none⟩ = some (.int .i64 2) := make_cells hp.out
    go_region_held3 (fun w' => w'.cell? ⟨p, 0, none⟩ = some (.int .i64 sl) ∧ w'.cell? ⟨p, 1, none⟩ = some (.bool fu) ∧ w'.cell? ⟨p, 2, none⟩ = some (.int .i64 c.S) ∧ w'.cell? ⟨p, 3, none⟩ = some (.int .i64 c.A) ∧ w'.cell? ⟨p, 4, none⟩ = some (.int .i64 c.C) ∧ w'.cell? ⟨p, 5, none⟩ = some (.int .i64 c.H) ∧ w'.cell? ⟨p, 6, none⟩ = some (.int .i64 c.G) ∧ w'.cell? ⟨p, 7, none⟩ = some (.int .i64 c.K) ∧ w'.cell? ⟨p, 8, none⟩ = some (.int .i64 kd) ∧ w'.cell? ⟨p, 9, none⟩ = some (.int .i64 ar) ∧ w'.cell? ⟨p, 10, none⟩ = some (.int .u64 ep) ∧ w'.cell? ⟨p, 11, none⟩ = some ((.slice (some ⟨r, 0, none⟩) n cc)) ∧ w'.cell? ⟨p, 12, none⟩ = some (.pointer (some ⟨q, 0, none⟩)) ∧ w'.cell? ⟨p, 13, none⟩ = some (.int .i64 gn) ∧ w'.cell? ⟨p, 14, none⟩ = some (.int .i64 ((k : Int) + 1)) ∧ w'.cell? ⟨p, 15, none⟩ = some (.int .i64 2)) (assumption) (fail)
    all_goals
      clear hX
      have hp5 : Blk w5 p 82 (makeA c sl fu kd ar ep ((.slice (some ⟨r, 0, none⟩) n cc)) ((some ⟨q, 0, none⟩)) gn (((k : Int) + 1)) 2) := hp.out
      obtain ⟨l0, l1, l2, l3, l4, l5, l6, l7, l8, l9, l10, l11, l12, l13, l14, l15⟩ := make_cells hp5
      have z15 := hp5.frozen 15
      clear hp5
      go_wp2
      go_ret
      exact ⟨rfl, hQ.out, hp.out, hM.out, hR.out, hF.out⟩
set_option maxHeartbeats 4000000 in
set_option maxRecDepth 100000 in
theorem make_2e (c : Cf) (w : World) (p m b : Nat) (M : Ms) (hM : MemB w m b M) (ok : Ok M) (np : ¬ two m b p) (sl : Int) (fu : Bool) (kd ar ep : Int) (q : Nat) (Q : Pop) (nqm : ¬ two m b q) (nqp : q ≠ p) (hQ : PopB w q c Q) (gn : Int) (r cc n : Nat) (g : Nat → Int) (hR : RowB w (some ⟨r, 0, none⟩) cc r n g) (hn : n ≤ 1000) (nrm : ¬ two m b r) (nrp : r ≠ p) (k : Nat) (hk : k < n) (hl : ((k : Int) + 1 == (n : Int)) = true) (hp : Blk w p 82 (makeA c sl fu kd ar ep ((.slice (some ⟨r, 0, none⟩) n cc)) ((some ⟨q, 0, none⟩)) gn ((k : Int)) 2)) : Calls Try.prog 52 #[.pointer (some ⟨p, 0, none⟩), .pointer (some ⟨m, 0, none⟩)] w fun e w' =>
    e = .returned (.bool false) ∧ PopB w' q c Q ∧ Blk w' p 82 (makeA c sl fu kd ar ep ((.slice (some ⟨r, 0, none⟩) n cc)) ((some ⟨q, 0, none⟩)) gn (((k : Int) + 1)) 3) ∧ MemB w' m b (M.stS (c.body Q.sl k) (g k)) ∧ RowB w' (some ⟨r, 0, none⟩) cc r n g ∧ Fr (four p q m b) w w' := by
  replace hR := Lib.hid hR
  have kn : (k : Int) < (n : Int) := by omega
  have k0' : 0 ≤ (k : Int) := by omega
  have hF := Lib.hid (Fr.refl (four p q m b) w)
  obtain ⟨k0, k1, k2, k3, k4, k5, k6, k7, k8, k9, k10, k11, k12, k13, k14, k15⟩ := make_cells hp
  have q0 : w.cell? ⟨q, 0, none⟩ = some (.int .i64 Q.sl) := Blk.cell hQ (i := 0) rfl
  replace hQ := Lib.hid hQ
  replace hp := Lib.hid hp
  replace hM := Lib.hid hM
  go_enter Try.func52, Try.ntmps52
  go_wp2
  clear k0 k1 k2 k3 k4 k5 k6 k7 k8 k9 k10 k11 k12 k13 k14 k15 q0
  replace hQ := Lib.hid (Blk.drew hQ.out)
  replace hp := Lib.hid hp.out.drew
  replace hM := Lib.hid hM.out.drew
  replace hR := Lib.hid hR.out.drew
  replace hF := Lib.hid (hF.out.trans (Fr.drew _ w))
  have hX : w.drew.cell? ⟨p, 0, none⟩ = some (.int .i64 sl) ∧ w.drew.cell? ⟨p, 1, none⟩ = some (.bool fu) ∧ w.drew.cell? ⟨p, 2, none⟩ = some (.int .i64 c.S) ∧ w.drew.cell? ⟨p, 3, none⟩ = some (.int .i64 c.A) ∧ w.drew.cell? ⟨p, 4, none⟩ = some (.int .i64 c.C) ∧ w.drew.cell? ⟨p, 5, none⟩ = some (.int .i64 c.H) ∧ w.drew.cell? ⟨p, 6, none⟩ = some (.int .i64 c.G) ∧ w.drew.cell? ⟨p, 7, none⟩ = some (.int .i64 c.K) ∧ w.drew.cell? ⟨p, 8, none⟩ = some (.int .i64 kd) ∧ w.drew.cell? ⟨p, 9, none⟩ = some (.int .i64 ar) ∧ w.drew.cell? ⟨p, 10, none⟩ = some (.int .u64 ep) ∧ w.drew.cell? ⟨p, 11, none⟩ = some ((.slice (some ⟨r, 0, none⟩) n cc)) ∧ w.drew.cell? ⟨p, 12, none⟩ = some (.pointer (some ⟨q, 0, none⟩)) ∧ w.drew.cell? ⟨p, 13, none⟩ = some (.int .i64 gn) ∧ w.drew.cell? ⟨p, 14, none⟩ = some (.int .i64 (k : Int)) ∧ w.drew.cell? ⟨p, 15, none⟩ = some (.int .i64 2) ∧ w.drew.cell? ⟨r, k, none⟩ = some (.int .u64 (g k)) := by
    obtain ⟨x0, x1, x2, x3, x4, x5, x6, x7, x8, x9, x10, x11, x12, x13, x14, x15⟩ := make_cells hp.out
    exact ⟨x0, x1, x2, x3, x4, x5, x6, x7, x8, x9, x10, x11, x12, x13, x14, x15, (hR.out.cell hk).2.1⟩
  go_region_held3 (fun w' => w'.cell? ⟨p, 0, none⟩ = some (.int .i64 sl) ∧ w'.cell? ⟨p, 1, none⟩ = some (.bool fu) ∧ w'.cell? ⟨p, 2, none⟩ = some (.int .i64 c.S) ∧ w'.cell? ⟨p, 3, none⟩ = some (.int .i64 c.A) ∧ w'.cell? ⟨p, 4, none⟩ = some (.int .i64 c.C) ∧ w'.cell? ⟨p, 5, none⟩ = some (.int .i64 c.H) ∧ w'.cell? ⟨p, 6, none⟩ = some (.int .i64 c.G) ∧ w'.cell? ⟨p, 7, none⟩ = some (.int .i64 c.K) ∧ w'.cell? ⟨p, 8, none⟩ = some (.int .i64 kd) ∧ w'.cell? ⟨p, 9, none⟩ = some (.int .i64 ar) ∧ w'.cell? ⟨p, 10, none⟩ = some (.int .u64 ep) ∧ w'.cell? ⟨p, 11, none⟩ = some ((.slice (some ⟨r, 0, none⟩) n cc)) ∧ w'.cell? ⟨p, 12, none⟩ = some (.pointer (some ⟨q, 0, none⟩)) ∧ w'.cell? ⟨p, 13, none⟩ = some (.int .i64 gn) ∧ w'.cell? ⟨p, 14, none⟩ = some (.int .i64 (k : Int)) ∧ w'.cell? ⟨p, 15, none⟩ = some (.int .i64 2) ∧ w'.cell? ⟨r, k, none⟩ = some (.int .u64 (g k))) (assumption) (first
    | (go_at_call 85; refine (bodyC c _ Q.sl k).mono ?_; rintro e w3 ⟨rfl, hb⟩; replace hQ := Lib.hid (Blk.below hQ.out hb (Blk.lt hQ.out)); replace hp := Lib.hid (hp.out.below hb hp.out.lt); replace hM := Lib.hid (hM.out.next hb); replace hR := Lib.hid (hR.out.below hb (Nat.le_refl _)); replace hF := Lib.hid (hF.out.trans (Fr.of_below hb (fun _ x _ => x))); clear hb; have hY3 : w3.cell? ⟨p, 0, none⟩ = some (.int .i64 sl) ∧ w3.cell? ⟨p, 1, none⟩ = some (.bool fu) ∧ w3.cell? ⟨p, 2, none⟩ = some (.int .i64 c.S) ∧ w3.cell? ⟨p, 3, none⟩ = some (.int .i64 c.A) ∧ w3.cell? ⟨p, 4, none⟩ = some (.int .i64 c.C) ∧ w3.cell? ⟨p, 5, none⟩ = some (.int .i64 c.H) ∧ w3.cell? ⟨p, 6, none⟩ = some (.int .i64 c.G) ∧ w3.cell? ⟨p, 7, none⟩ = some (.int .i64 c.K) ∧ w3.cell? ⟨p, 8, none⟩ = some (.int .i64 kd) ∧ w3.cell? ⟨p, 9, none⟩ = some (.int .i64 ar) ∧ w3.cell? ⟨p, 10, none⟩ = some (.int .u64 ep) ∧ w3.cell? ⟨p, 11, none⟩ = some ((.slice (some ⟨r, 0, none⟩) n cc)) ∧ w3.cell? ⟨p, 12, none⟩ = some (.pointer (some ⟨q, 0, none⟩)) ∧ w3.cell? ⟨p, 13, none⟩ = some (.int .i64 gn) ∧ w3.cell? ⟨p, 14, none⟩ = some (.int .i64 (k : Int)) ∧ w3.cell? ⟨p, 15, none⟩ = some (.int .i64 2) ∧ w3.cell? ⟨r, k, none⟩ = some (.int .u64 (g k)) := (by obtain ⟨y0, y1, y2, y3, y4, y5, y6, y7, y8, y9, y10, y11, y12, y13, y14, y15⟩ := make_cells hp.out; exact ⟨y0, y1, y2, y3, y4, y5, y6, y7, y8, y9, y10, y11, y12, y13, y14, y15, (hR.out.cell hk).2.1⟩))
    | (go_at_call 57; refine (store_c _ m b M (c.body Q.sl k) hM.out ok (g k)).mono ?_; rintro e w4 ⟨rfl, hM', hF'⟩; replace hQ := Lib.hid (Blk.fr hQ.out hF' nqm); replace hp := Lib.hid (hp.out.fr hF' np); replace hM := Lib.hid hM'; replace hR := Lib.hid (hR.out.fr hF' nrm); replace hF := Lib.hid (hF.out.trans (hF'.mono (fun _ x => .inr (.inr x)))); clear hM' hF'; have hY4 : w4.cell? ⟨p, 0, none⟩ = some (.int .i64 sl) ∧ w4.cell? ⟨p, 1, none⟩ = some (.bool fu) ∧ w4.cell? ⟨p, 2, none⟩ = some (.int .i64 c.S) ∧ w4.cell? ⟨p, 3, none⟩ = some (.int .i64 c.A) ∧ w4.cell? ⟨p, 4, none⟩ = some (.int .i64 c.C) ∧ w4.cell? ⟨p, 5, none⟩ = some (.int .i64 c.H) ∧ w4.cell? ⟨p, 6, none⟩ = some (.int .i64 c.G) ∧ w4.cell? ⟨p, 7, none⟩ = some (.int .i64 c.K) ∧ w4.cell? ⟨p, 8, none⟩ = some (.int .i64 kd) ∧ w4.cell? ⟨p, 9, none⟩ = some (.int .i64 ar) ∧ w4.cell? ⟨p, 10, none⟩ = some (.int .u64 ep) ∧ w4.cell? ⟨p, 11, none⟩ = some ((.slice (some ⟨r, 0, none⟩) n cc)) ∧ w4.cell? ⟨p, 12, none⟩ = some (.pointer (some ⟨q, 0, none⟩)) ∧ w4.cell? ⟨p, 13, none⟩ = some (.int .i64 gn) ∧ w4.cell? ⟨p, 14, none⟩ = some (.int .i64 (k : Int)) ∧ w4.cell? ⟨p, 15, none⟩ = some (.int .i64 2) ∧ w4.cell? ⟨r, k, none⟩ = some (.int .u64 (g k)) := (by obtain ⟨y0, y1, y2, y3, y4, y5, y6, y7, y8, y9, y10, y11, y12, y13, y14, y15⟩ := make_cells hp.out; exact ⟨y0, y1, y2, y3, y4, y5, y6, y7, y8, y9, y10, y11, y12, y13, y14, y15, (hR.out.cell hk).2.1⟩)))
  all_goals
    clear hX hY3 hY4
    obtain ⟨l0, l1, l2, l3, l4, l5, l6, l7, l8, l9, l10, l11, l12, l13, l14, l15⟩ := make_cells hp.out
    have z14 := hp.out.frozen 14
    go_upto_region 16 with (fail)
    have hQ' : PopB (w4.setCell ⟨p, 14, none⟩ (.int .i64 ((k : Int) + 1))) q c Q := Blk.other hQ.out ⟨p, 14, none⟩ nqp _
    have hp' : Blk (w4.setCell ⟨p, 14, none⟩ (.int .i64 ((k : Int) + 1))) p 82 (makeA c sl fu kd ar ep ((.slice (some ⟨r, 0, none⟩) n cc)) ((some ⟨q, 0, none⟩)) gn (((k : Int) + 1)) 2) := hp.out.set 14 _
    have hM' := hM.out.set np 14 (.int .i64 ((k : Int) + 1))
    have hR' := hR.out.fr (Fr.set (fun x => x = p) w4 (p := ⟨p, 14, none⟩) rfl (.int .i64 ((k : Int) + 1))) nrp
    have hF' := hF.out.trans (fr_f w4 14 (.int .i64 ((k : Int) + 1)))
    clear hp hM hF hQ hR z14 l0 l1 l2 l3 l4 l5 l6 l7 l8 l9 l10 l11 l12 l13 l14 l15
    generalize w4.setCell ⟨p, 14, none⟩ (.int .i64 ((k : Int) + 1)) = w5 at *
    have hp := Lib.hid hp'
    have hM := Lib.hid hM'
    have hF := Lib.hid hF'
    have hQ := Lib.hid hQ'
    have hR := Lib.hid hR'
    clear hp' hM' hF' hQ' hR'
    replace hQ := Lib.hid (Blk.drew hQ.out)
    replace hp := Lib.hid hp.out.drew
    replace hM := Lib.hid hM.out.drew
    replace hR := Lib.hid hR.out.drew
    replace hF := Lib.hid (hF.out.trans (Fr.drew _ w5))
    have hX : w5.drew.cell? ⟨p, 0, none⟩ = some (.int .i64 sl) ∧ w5.drew.cell? ⟨p, 1, none⟩ = some (.bool fu) ∧ w5.drew.cell? ⟨p, 2, none⟩ = some (.int .i64 c.S) ∧ w5.drew.cell? ⟨p, 3, none⟩ = some (.int .i64 c.A) ∧ w5.drew.cell? ⟨p, 4, none⟩ = some (.int .i64 c.C) ∧ w5.drew.cell? ⟨p, 5, none⟩ = some (.int .i64 c.H) ∧ w5.drew.cell? ⟨p, 6, none⟩ = some (.int .i64 c.G) ∧ w5.drew.cell? ⟨p, 7, none⟩ = some (.int .i64 c.K) ∧ w5.drew.cell? ⟨p, 8, none⟩ = some (.int .i64 kd) ∧ w5.drew.cell? ⟨p, 9, none⟩ = some (.int .i64 ar) ∧ w5.drew.cell? ⟨p, 10, none⟩ = some (.int .u64 ep) ∧ w5.drew.cell? ⟨p, 11, none⟩ = some ((.slice (some ⟨r, 0, none⟩) n cc)) ∧ w5.drew.cell? ⟨p, 12, none⟩ = some (.pointer (some ⟨q, 0, none⟩)) ∧ w5.drew.cell? ⟨p, 13, none⟩ = some (.int .i64 gn) ∧ w5.drew.cell? ⟨p, 14, none⟩ = some (.int .i64 ((k : Int) + 1)) ∧ w5.drew.cell? ⟨p, 15, none⟩ = some (.int .i64 2) := make_cells hp.out
    go_region_held3 (fun w' => w'.cell? ⟨p, 0, none⟩ = some (.int .i64 sl) ∧ w'.cell? ⟨p, 1, none⟩ = some (.bool fu) ∧ w'.cell? ⟨p, 2, none⟩ = some (.int .i64 c.S) ∧ w'.cell? ⟨p, 3, none⟩ = some (.int .i64 c.A) ∧ w'.cell? ⟨p, 4, none⟩ = some (.int .i64 c.C) ∧ w'.cell? ⟨p, 5, none⟩ = some (.int .i64 c.H) ∧ w'.cell? ⟨p, 6, none⟩ = some (.int .i64 c.G) ∧ w'.cell? ⟨p, 7, none⟩ = some (.int .i64 c.K) ∧ w'.cell? ⟨p, 8, none⟩ = some (.int .i64 kd) ∧ w'.cell? ⟨p, 9, none⟩ = some (.int .i64 ar) ∧ w'.cell? ⟨p, 10, none⟩ = some (.int .u64 ep) ∧ w'.cell? ⟨p, 11, none⟩ = some ((.slice (some ⟨r, 0, none⟩) n cc)) ∧ w'.cell? ⟨p, 12, none⟩ = some (.pointer (some ⟨q, 0, none⟩)) ∧ w'.cell? ⟨p, 13, none⟩ = some (.int .i64 gn) ∧ w'.cell? ⟨p, 14, none⟩ = some (.int .i64 ((k : Int) + 1)) ∧ w'.cell? ⟨p, 15, none⟩ = some (.int .i64 2)) (assumption) (fail)
    all_goals
      clear hX
      have hp5 : Blk w5 p 82 (makeA c sl fu kd ar ep ((.slice (some ⟨r, 0, none⟩) n cc)) ((some ⟨q, 0, none⟩)) gn (((k : Int) + 1)) 2) := hp.out
      obtain ⟨l0, l1, l2, l3, l4, l5, l6, l7, l8, l9, l10, l11, l12, l13, l14, l15⟩ := make_cells hp5
      have z15 := hp5.frozen 15
      clear hp5
      go_wp2
      go_ret
      exact ⟨rfl, Blk.other hQ.out ⟨p, 15, none⟩ nqp _, hp.out.set 15 _, hM.out.set np 15 _, hR.out.fr (Fr.set (fun x => x = p) _ (p := ⟨p, 15, none⟩) rfl _) nrp, hF.out.trans (fr_f _ 15 _)⟩
set_option maxHeartbeats 4000000 in
set_option maxRecDepth 100000 in
theorem make_3 (c : Cf) (w : World) (p m b : Nat) (M : Ms) (hM : MemB w m b M) (ok : Ok M) (np : ¬ two m b p) (sl : Int) (fu : Bool) (kd ar ep : Int) (q : Nat) (Q : Pop) (nqm : ¬ two m b q) (nqp : q ≠ p) (hQ : PopB w q c Q) (bd : Value) (gn ix : Int) (e0 : 0 ≤ ep) (e1 : ep < 18446744073709551616) (ha : ar < 9223372036854775808) (hg : gn < 9223372036854775808) (hp : Blk w p 82 (makeA c sl fu kd ar ep bd ((some ⟨q, 0, none⟩)) gn ix 3)) : Calls Try.prog 52 #[.pointer (some ⟨p, 0, none⟩), .pointer (some ⟨m, 0, none⟩)] w fun e w' =>
    e = .returned (.bool true) ∧ PopB w' q c Q ∧ Blk w' p 82 (makeA c Q.sl fu kd ar ep bd ((some ⟨q, 0, none⟩)) gn ix 5) ∧ MemB w' m b (M.stS (c.header Q.sl) (madeV kd ar gn ep).1) ∧ Fr (four p q m b) w w' := by
  have hmd := fun w => made_c kd ar gn ep e0 e1 ha hg w
  generalize madeV kd ar gn ep = mv at *
  obtain ⟨mv1, mv2⟩ := mv
  have hF := Lib.hid (Fr.refl (four p q m b) w)
  obtain ⟨k0, k1, k2, k3, k4, k5, k6, k7, k8, k9, k10, k11, k12, k13, k14, k15⟩ := make_cells hp
  have q0 : w.cell? ⟨q, 0, none⟩ = some (.int .i64 Q.sl) := Blk.cell hQ (i := 0) rfl
  replace hQ := Lib.hid hQ
  replace hp := Lib.hid hp
  replace hM := Lib.hid hM
  go_enter Try.func52, Try.ntmps52
  go_wp2
  clear k0 k1 k2 k3 k4 k5 k6 k7 k8 k9 k10 k11 k12 k13 k14 k15 q0
  replace hQ := Lib.hid (Blk.drew hQ.out)
  replace hp := Lib.hid hp.out.drew
  replace hM := Lib.hid hM.out.drew
  replace hF := Lib.hid (hF.out.trans (Fr.drew _ w))
  have hX : w.drew.cell? ⟨p, 0, none⟩ = some (.int .i64 sl) ∧ w.drew.cell? ⟨p, 1, none⟩ = some (.bool fu) ∧ w.drew.cell? ⟨p, 2, none⟩ = some (.int .i64 c.S) ∧ w.drew.cell? ⟨p, 3, none⟩ = some (.int .i64 c.A) ∧ w.drew.cell? ⟨p, 4, none⟩ = some (.int .i64 c.C) ∧ w.drew.cell? ⟨p, 5, none⟩ = some (.int .i64 c.H) ∧ w.drew.cell? ⟨p, 6, none⟩ = some (.int .i64 c.G) ∧ w.drew.cell? ⟨p, 7, none⟩ = some (.int .i64 c.K) ∧ w.drew.cell? ⟨p, 8, none⟩ = some (.int .i64 kd) ∧ w.drew.cell? ⟨p, 9, none⟩ = some (.int .i64 ar) ∧ w.drew.cell? ⟨p, 10, none⟩ = some (.int .u64 ep) ∧ w.drew.cell? ⟨p, 11, none⟩ = some (bd) ∧ w.drew.cell? ⟨p, 12, none⟩ = some (.pointer (some ⟨q, 0, none⟩)) ∧ w.drew.cell? ⟨p, 13, none⟩ = some (.int .i64 gn) ∧ w.drew.cell? ⟨p, 14, none⟩ = some (.int .i64 ix) ∧ w.drew.cell? ⟨p, 15, none⟩ = some (.int .i64 3) := make_cells hp.out
  go_region_held3 (fun w' => w'.cell? ⟨p, 0, none⟩ = some (.int .i64 sl) ∧ w'.cell? ⟨p, 1, none⟩ = some (.bool fu) ∧ w'.cell? ⟨p, 2, none⟩ = some (.int .i64 c.S) ∧ w'.cell? ⟨p, 3, none⟩ = some (.int .i64 c.A) ∧ w'.cell? ⟨p, 4, none⟩ = some (.int .i64 c.C) ∧ w'.cell? ⟨p, 5, none⟩ = some (.int .i64 c.H) ∧ w'.cell? ⟨p, 6, none⟩ = some (.int .i64 c.G) ∧ w'.cell? ⟨p, 7, none⟩ = some (.int .i64 c.K) ∧ w'.cell? ⟨p, 8, none⟩ = some (.int .i64 kd) ∧ w'.cell? ⟨p, 9, none⟩ = some (.int .i64 ar) ∧ w'.cell? ⟨p, 10, none⟩ = some (.int .u64 ep) ∧ w'.cell? ⟨p, 11, none⟩ = some (bd) ∧ w'.cell? ⟨p, 12, none⟩ = some (.pointer (some ⟨q, 0, none⟩)) ∧ w'.cell? ⟨p, 13, none⟩ = some (.int .i64 gn) ∧ w'.cell? ⟨p, 14, none⟩ = some (.int .i64 ix) ∧ w'.cell? ⟨p, 15, none⟩ = some (.int .i64 3)) (assumption) (first
    | (go_at_call 87; refine (hmd _).mono ?_; rintro e w3 ⟨rfl, hb⟩; replace hQ := Lib.hid (Blk.below hQ.out hb (Blk.lt hQ.out)); replace hp := Lib.hid (hp.out.below hb hp.out.lt); replace hM := Lib.hid (hM.out.next hb); replace hF := Lib.hid (hF.out.trans (Fr.of_below hb (fun _ x _ => x))); clear hb; have hY3 : w3.cell? ⟨p, 0, none⟩ = some (.int .i64 sl) ∧ w3.cell? ⟨p, 1, none⟩ = some (.bool fu) ∧ w3.cell? ⟨p, 2, none⟩ = some (.int .i64 c.S) ∧ w3.cell? ⟨p, 3, none⟩ = some (.int .i64 c.A) ∧ w3.cell? ⟨p, 4, none⟩ = some (.int .i64 c.C) ∧ w3.cell? ⟨p, 5, none⟩ = some (.int .i64 c.H) ∧ w3.cell? ⟨p, 6, none⟩ = some (.int .i64 c.G) ∧ w3.cell? ⟨p, 7, none⟩ = some (.int .i64 c.K) ∧ w3.cell? ⟨p, 8, none⟩ = some (.int .i64 kd) ∧ w3.cell? ⟨p, 9, none⟩ = some (.int .i64 ar) ∧ w3.cell? ⟨p, 10, none⟩ = some (.int .u64 ep) ∧ w3.cell? ⟨p, 11, none⟩ = some (bd) ∧ w3.cell? ⟨p, 12, none⟩ = some (.pointer (some ⟨q, 0, none⟩)) ∧ w3.cell? ⟨p, 13, none⟩ = some (.int .i64 gn) ∧ w3.cell? ⟨p, 14, none⟩ = some (.int .i64 ix) ∧ w3.cell? ⟨p, 15, none⟩ = some (.int .i64 3) := make_cells hp.out))
  all_goals
    clear hX hY3
    obtain ⟨l0, l1, l2, l3, l4, l5, l6, l7, l8, l9, l10, l11, l12, l13, l14, l15⟩ := make_cells hp.out
    go_wp2_with (first
      | (go_at_call 72; refine (headerC c _ Q.sl).mono ?_; rintro e w4 ⟨rfl, hb⟩; replace hQ := Lib.hid (Blk.below hQ.out hb (Blk.lt hQ.out)); replace hp := Lib.hid (hp.out.below hb hp.out.lt); replace hM := Lib.hid (hM.out.next hb); replace hF := Lib.hid (hF.out.trans (Fr.of_below hb (fun _ x _ => x))); clear hb)
      | (go_at_call 57; refine (store_c _ m b M (c.header Q.sl) hM.out ok mv1).mono ?_; rintro e w5 ⟨rfl, hM', hF'⟩; replace hQ := Lib.hid (Blk.fr hQ.out hF' nqm); replace hp := Lib.hid (hp.out.fr hF' np); replace hM := Lib.hid hM'; replace hF := Lib.hid (hF.out.trans (hF'.mono (fun _ x => .inr (.inr x)))); clear hM' hF'; have z0 := hp.out.frozen 0; have z15 := hp.out.frozen 15; obtain ⟨n0, n1, n2, n3, n4, n5, n6, n7, n8, n9, n10, n11, n12, n13, n14, n15⟩ := make_cells hp.out))
    go_ret
    exact ⟨rfl, Blk.other (Blk.other hQ.out ⟨p, 0, none⟩ nqp _) ⟨p, 15, none⟩ nqp _, (hp.out.set 0 _).set 15 _, (hM.out.set np 0 _).set np 15 _, (hF.out.trans (fr_f _ 0 _)).trans (fr_f _ 15 _)⟩
end Go.Proofs.Ytijfkpoofpcacaa.ArenaN
end
section
set_option linter.unusedVariables false
set_option linter.unusedSectionVars false
set_option linter.unusedSimpArgs false
namespace Go.Proofs.Ytijfkpoofpcacaa.ArenaP
open Go.RowKit Go.Proofs.YtijfkpoofpcacaaW.PrintWords Go.Proofs.Ytijfkpoofpcacaa.Blk Go.Proofs.Ytijfkpoofpcacaa.Core Go.Proofs.Ytijfkpoofpcacaa.MemC Go.Proofs.Ytijfkpoofpcacaa.MemD Go.Proofs.Ytijfkpoofpcacaa.MemT Go.Proofs.Ytijfkpoofpcacaa.PlanC Go.Proofs.Ytijfkpoofpcacaa.PlanD Go.Proofs.Ytijfkpoofpcacaa.StackC Go.Proofs.Ytijfkpoofpcacaa.StackS Go.Proofs.Ytijfkpoofpcacaa.HeadC Go.Proofs.Ytijfkpoofpcacaa.ArenaC Go.Proofs.Ytijfkpoofpcacaa.ArenaM Go.Proofs.Ytijfkpoofpcacaa.ArenaN Go.Proofs.Ytijfkpoofpcacaa.Opens
def padF (bn : Nat) (bf : Nat → Int) : Nat → Int := fun j => if j < bn then bf j else 0
theorem copyC (w : World) (r n : Nat) (A : Option Addr) (bn bc : Nat) (bf : Nat → Int) (hb : Blk w r 33 (rowF .u64 n (fun _ => 0))) (hS : Sl w A bn 1 (fun i _ => .int .u64 (bf i))) (h : bn ≤ n) :
    ∃ w', (Builtin.copy_ #[29, 29] 3 #[.slice (some ⟨r, 0, none⟩) n n, .slice A bn bc]).run Try.prog w = .ok (goInt bn) w' ∧ Blk w' r 33 (rowF .u64 n (padF bn bf)) ∧ Fr (fun k => k = r) w w' := by
  have hu : Try.prog.underlying 29 = some (.slice 33) := Try.underlying29
  have hz : (Try.prog.info? 33).map (·.size) = some 1 := by kernel_rfl
  rcases Nat.eq_zero_or_pos bn with e | e
  · subst e
    refine ⟨w, Go.run_copy_none w 29 29 3 33 _ _ _ _ _ _ hu hz (by simp), ?_, Fr.refl _ _⟩
    have : padF 0 bf = fun _ => 0 := by funext j; unfold padF; rw [if_neg (by omega)]
    rw [this]; exact hb
  · obtain ⟨b, o, rfl, hl, hc⟩ := hS e
    have hlen : ((List.range bn).map (fun i => Value.int .u64 (bf i))).length = bn := by simp
    have hrun := Go.run_copy_row (P := Try.prog) w 29 29 3 33 r 0 n n ⟨b, o, none⟩ bn bc (rowF .u64 n (fun _ => 0)) 33 ((List.range bn).map (fun i => Value.int .u64 (bf i))) hu hz hb (by rw [hlen]; exact (Nat.min_eq_left h).symm)
      (fun j v hj => by
        have hj' : j < bn := by
          rcases Nat.lt_or_ge j bn with q | q
          · exact q
          · rw [List.getElem?_eq_none (by rw [hlen]; exact q)] at hj; cases hj
        have := hc j hj' 0 (by decide)
        rw [Nat.mul_one] at this
        rw [Go.WideShapes.add_plain]
        rw [List.getElem?_map, List.getElem?_range hj'] at hj
        cases hj
        exact this) (by rw [hlen, rowF_size]; omega) (fun v hv => by
        obtain ⟨i, _, rfl⟩ := List.mem_map.1 hv
        rfl)
    rw [hlen] at hrun
    have he : ((rowF .u64 n (fun _ => 0)).toList.take 0 ++ (List.range bn).map (fun i => Value.int .u64 (bf i)) ++ (rowF .u64 n (fun _ => 0)).toList.drop (0 + bn)).toArray = rowF .u64 n (padF bn bf) := by
      refine Array.ext_getElem? fun i => ?_
      rw [List.getElem?_toArray, List.take_zero, List.nil_append, Nat.zero_add]
      by_cases h1 : i < n
      · rw [rowF_get h1]
        unfold padF
        by_cases h2 : i < bn
        · rw [List.getElem?_append_left (by rw [hlen]; exact h2), List.getElem?_map, List.getElem?_range h2, if_pos h2]; rfl
        · rw [List.getElem?_append_right (by rw [hlen]; omega), hlen, List.getElem?_drop, show bn + (i - bn) = i by omega, if_neg h2, Array.getElem?_toList, rowF_get h1]
      · rw [rowF_none h1, List.getElem?_eq_none]
        rw [List.length_append, hlen, List.length_drop, Array.length_toList, rowF_size]
        omega
    rw [he] at hrun
    exact ⟨_, hrun, Go.setRow_heap w r _ _ _ _ hb, ⟨rfl, rfl, rfl, by simp, fun k hk hs => Go.setRow_other w r k _ (fun e => hs e)⟩⟩
def roomI (c : Cf) : Nat := (roomV c.A - 2).toNat
theorem room_i {c : Cf} (hr : c.right = true) : 3 ≤ roomI c ∧ roomI c ≤ 8 ∧ (roomI c : Int) = roomV c.A - 2 := by
  have := size_bd hr
  unfold roomI; omega
theorem body_yes {c : Cf} (hr : c.right = true) {i : Nat} (hi : i < roomI c) : 0 ≤ c.body 0 i := by
  have h := size_bd hr
  have h1 := room_i hr
  have h2 := right_iff.1 hr
  unfold Cf.body
  rw [if_pos ⟨hr, by decide, by omega, by omega, by omega⟩]
  omega
theorem body_no {c : Cf} (hr : c.right = true) {s : Int} : c.body s (roomI c) < 0 := by
  have h1 := room_i hr
  unfold Cf.body
  rw [if_neg (by omega)]
  decide
section
variable (c : Cf) (w : World) (ar ep : Int) (A : Option Addr) (bn bc : Nat) (bf : Nat → Int) (hS : Sl w A bn 1 (fun i _ => .int .u64 (bf i))) (hr : c.right = true) (h0 : 0 ≤ ar)
include hS hr h0
set_option maxHeartbeats 4000000 in
set_option maxRecDepth 100000 in
theorem newMake_1 (hk : ar ≤ c.A) (hb : bn ≤ roomI c) : Calls Try.prog 51 #[.agg #[.int .i64 c.S, .int .i64 c.A, .int .i64 c.C, .int .i64 c.H, .int .i64 c.G, .int .i64 c.K], .int .i64 1, .int .i64 ar, .int .u64 ep, .slice A bn bc] w fun e w' =>
    ∃ p q r, e = .returned (.pointer (some ⟨p, 0, none⟩)) ∧ w.heap.size ≤ r ∧ r < q ∧ q < p ∧ PopB w' q c ⟨-1, false, 0, 0, 0⟩ ∧ Blk w' p 82 (makeA c (-1) false 1 ar ep (.slice (some ⟨r, 0, none⟩) (roomI c) (roomI c)) (some ⟨q, 0, none⟩) 0 0 0) ∧ RowB w' (some ⟨r, 0, none⟩) (roomI c) r (roomI c) (padF bn bf) ∧ Below w.heap.size w w' := by
  have hf := Lib.hid (Blk.new w 23 #[.int .i64 c.S, .int .i64 c.A, .int .i64 c.C, .int .i64 c.H, .int .i64 c.G, .int .i64 c.K])
  have hT0 := Lib.hid ((Below.refl w.heap.size w).alloc (Nat.le_refl _) (.cells #[.int .i64 c.S, .int .i64 c.A, .int .i64 c.C, .int .i64 c.H, .int .i64 c.G, .int .i64 c.K] 23))
  have hri := room_i hr
  obtain ⟨R, hR⟩ : ∃ R, R = roomI c := ⟨_, rfl⟩
  have hby : ∀ i : Nat, i < R → 0 ≤ c.body 0 i := fun i hi => body_yes hr (hR ▸ hi)
  have hbn : c.body 0 R < 0 := hR ▸ body_no hr
  obtain ⟨hr3, hr8, _⟩ := hri
  rw [← hR] at hr3 hr8 hb ⊢
  have hA : 0 ≤ c.A := by have := right_iff.1 hr; omega
  replace hR := Lib.hid hR
  replace hr := Lib.hid hr
  replace hby := Lib.hid hby
  replace hbn := Lib.hid hbn
  replace hS := Lib.hid hS
  go_enter Try.func51, Try.ntmps51
  generalize hCFe : w.heap.size = CF at *
  go_wp2_with (go_at_call 66; refine (rightC c _).mono ?_; rintro e w1 ⟨rfl, hb1⟩; rw [hr.out]; replace hf := Lib.hid (hf.out.below hb1 hf.out.lt); replace hT0 := Lib.hid (hT0.out.trans (hb1.mono (by have := hT0.out.size; omega))); obtain ⟨k0, k1, k2, k3, k4, k5⟩ := cfgs hf.out; clear hb1)
  clear k0 k1 k2 k3 k4 k5
  go_loopw [11] (fun z wr => ∃ i : Nat, i ≤ R ∧ z = .int .i64 (i : Int) ∧ Blk wr CF 23 #[.int .i64 c.S, .int .i64 c.A, .int .i64 c.C, .int .i64 c.H, .int .i64 c.G, .int .i64 c.K] ∧ Below CF w wr) (fun z _ => R - (intOf z).toNat)
  case atStart => exact ⟨0, Nat.zero_le _, rfl, hf.out, hT0.out⟩
  case round =>
    obtain ⟨i, hi, rfl, hcs, hWs⟩ := hrel
    obtain ⟨k0, k1, k2, k3, k4, k5⟩ := cfgs hcs
    replace hcs := Lib.hid hcs
    replace hWs := Lib.hid hWs
    by_cases hlt : i < R
    · have hy := hby.out i hlt
      go_wp2_with (go_at_call 85; refine (bodyC c _ 0 i).mono ?_; rintro e w2 ⟨rfl, hb2⟩; replace hcs := Lib.hid (hcs.out.below hb2 hcs.out.lt); replace hWs := Lib.hid (hWs.out.trans (hb2.mono (by have := hcs.out.lt; have := hWs.out.size; omega))); clear hb2)
      go_roundw
      case rel => exact ⟨i + 1, by omega, by go_num, hcs.out, hWs.out⟩
      case measure => simp [intOf]; omega
    · have hiR : i = R := by omega
      subst hiR
      have hn := hbn.out
      have hbi : ¬ (i : Int) < (bn : Int) := by omega
      have hi0 : 0 ≤ (i : Int) := by omega
      have hmk := make_run (i : Int) hi0 (by omega)
      rw [Int.toNat_natCast] at hmk
      go_upto_region 11 with (go_at_call 85; refine (bodyC c _ 0 i).mono ?_; rintro e w2 ⟨rfl, hb2⟩; replace hcs := Lib.hid (hcs.out.below hb2 hcs.out.lt); replace hWs := Lib.hid (hWs.out.trans (hb2.mono (by have := hcs.out.lt; have := hWs.out.size; omega))); clear hb2)
      have hlo : CF ≤ w2.heap.size := by have := hcs.out.lt; omega
      have hSc := hS.out.below hWs.out (Nat.le_of_eq hCFe)
      have hSd := hSc.below ((Below.refl w2.heap.size w2).alloc (Nat.le_refl _) (.cells (rowF .u64 i (fun _ => 0)) 33)) (Nat.le_refl _)
      obtain ⟨w3, hrun, hb3, hF3⟩ := copyC (w2.alloc (.cells (rowF .u64 i (fun _ => 0)) 33)) w2.heap.size i A bn bc bf (Blk.new w2 33 (rowF .u64 i (fun _ => 0))) hSd hb
      have hcs3 := (hcs.out.alloc (.cells (rowF .u64 i (fun _ => 0)) 33)).fr hF3 (fun e => by have := hcs.out.lt; have e' : CF = w2.heap.size := e; omega)
      have hW3 := (hWs.out.alloc hlo (.cells (rowF .u64 i (fun _ => 0)) 33)).trans (hF3.below (n := CF) (fun k hk => ⟨by simp; omega, fun e => by have e' : k = w2.heap.size := e; omega⟩))
      have hz3 := hF3.size
      have hz4 : (w2.alloc (.cells (rowF .u64 i (fun _ => 0)) 33)).heap.size = w2.heap.size + 1 := by simp
      rw [hz4] at hz3
      generalize hre : w2.heap.size = rr at *
      clear hSc hSd hcs hF3 hWs k0 k1 k2 k3 k4 k5 hz4
      go_upto_region 12 with (at_builtin; refine Lib.wpList_copy_run _ rfl _ _ 29 29 rfl _ _ rfl rfl hrun ?_)
      clear hrun hmk
      have hf3 := Lib.hid hcs3.drew
      replace hb3 := Lib.hid hb3.drew
      replace hW3 := Lib.hid hW3.drew
      have hz : rr + 1 ≤ w3.drew.heap.size := hz3
      have hX : w3.drew.cell? ⟨CF, 0, none⟩ = some (.int .i64 c.S) ∧ w3.drew.cell? ⟨CF, 1, none⟩ = some (.int .i64 c.A) ∧ w3.drew.cell? ⟨CF, 2, none⟩ = some (.int .i64 c.C) ∧ w3.drew.cell? ⟨CF, 3, none⟩ = some (.int .i64 c.H) ∧ w3.drew.cell? ⟨CF, 4, none⟩ = some (.int .i64 c.G) ∧ w3.drew.cell? ⟨CF, 5, none⟩ = some (.int .i64 c.K) := cfgs hf3.out
      clear hcs3 hre hz3
      go_region_held3 (fun w' => w'.cell? ⟨CF, 0, none⟩ = some (.int .i64 c.S) ∧ w'.cell? ⟨CF, 1, none⟩ = some (.int .i64 c.A) ∧ w'.cell? ⟨CF, 2, none⟩ = some (.int .i64 c.C) ∧ w'.cell? ⟨CF, 3, none⟩ = some (.int .i64 c.H) ∧ w'.cell? ⟨CF, 4, none⟩ = some (.int .i64 c.G) ∧ w'.cell? ⟨CF, 5, none⟩ = some (.int .i64 c.K)) (first | assumption | (refine cfgs (t := 23) (Blk.alloc (Hid.out ?_) _); assumption)) (first | (go_at_call 44; refine (newPopC c _ hr.out).mono ?_; rintro e w4 ⟨q, rfl, hq0, hq, hb4⟩; replace hf3 := Lib.hid (hf3.out.below hb4 hf3.out.lt); have hY := cfgs hf3.out; replace hb3 := Lib.hid (hb3.out.below hb4 hb3.out.lt); have ltq := Blk.lt hq; replace hq := Lib.hid hq; replace hW3 := Lib.hid (hW3.out.trans (hb4.mono (by omega))); clear hb4))
      all_goals
        clear hX hY
        go_wp2
        go_ret
        exact ⟨w4.heap.size, q, rr, rfl, hlo, by omega, ltq, Blk.alloc hq.out _, Blk.new w4 _ _, ⟨Nat.le_refl _, fun _ => ⟨rfl, _, hb3.out.alloc _, fun j hj => rowF_get hj⟩⟩, hW3.out.alloc (by omega) _⟩
set_option maxHeartbeats 4000000 in
set_option maxRecDepth 100000 in
theorem newMake_2 (hk : ar = 0) (hb : bn ≤ roomI c) : Calls Try.prog 51 #[.agg #[.int .i64 c.S, .int .i64 c.A, .int .i64 c.C, .int .i64 c.H, .int .i64 c.G, .int .i64 c.K], .int .i64 2, .int .i64 ar, .int .u64 ep, .slice A bn bc] w fun e w' =>
    ∃ p q r, e = .returned (.pointer (some ⟨p, 0, none⟩)) ∧ w.heap.size ≤ r ∧ r < q ∧ q < p ∧ PopB w' q c ⟨-1, false, 0, 0, 0⟩ ∧ Blk w' p 82 (makeA c (-1) false 2 ar ep (.slice (some ⟨r, 0, none⟩) (roomI c) (roomI c)) (some ⟨q, 0, none⟩) 0 0 0) ∧ RowB w' (some ⟨r, 0, none⟩) (roomI c) r (roomI c) (padF bn bf) ∧ Below w.heap.size w w' := by
  subst hk
  have hf := Lib.hid (Blk.new w 23 #[.int .i64 c.S, .int .i64 c.A, .int .i64 c.C, .int .i64 c.H, .int .i64 c.G, .int .i64 c.K])
  have hT0 := Lib.hid ((Below.refl w.heap.size w).alloc (Nat.le_refl _) (.cells #[.int .i64 c.S, .int .i64 c.A, .int .i64 c.C, .int .i64 c.H, .int .i64 c.G, .int .i64 c.K] 23))
  have hri := room_i hr
  obtain ⟨R, hR⟩ : ∃ R, R = roomI c := ⟨_, rfl⟩
  have hby : ∀ i : Nat, i < R → 0 ≤ c.body 0 i := fun i hi => body_yes hr (hR ▸ hi)
  have hbn : c.body 0 R < 0 := hR ▸ body_no hr
  obtain ⟨hr3, hr8, _⟩ := hri
  rw [← hR] at hr3 hr8 hb ⊢
  have hA : 0 ≤ c.A := by have := right_iff.1 hr; omega
  replace hR := Lib.hid hR
  replace hr := Lib.hid hr
  replace hby := Lib.hid hby
  replace hbn := Lib.hid hbn
  replace hS := Lib.hid hS
  go_enter Try.func51, Try.ntmps51
  generalize hCFe : w.heap.size = CF at *
  go_wp2_with (go_at_call 66; refine (rightC c _).mono ?_; rintro e w1 ⟨rfl, hb1⟩; rw [hr.out]; replace hf := Lib.hid (hf.out.below hb1 hf.out.lt); replace hT0 := Lib.hid (hT0.out.trans (hb1.mono (by have := hT0.out.size; omega))); obtain ⟨k0, k1, k2, k3, k4, k5⟩ := cfgs hf.out; clear hb1)
  clear k0 k1 k2 k3 k4 k5
  go_loopw [11] (fun z wr => ∃ i : Nat, i ≤ R ∧ z = .int .i64 (i : Int) ∧ Blk wr CF 23 #[.int .i64 c.S, .int .i64 c.A, .int .i64 c.C, .int .i64 c.H, .int .i64 c.G, .int .i64 c.K] ∧ Below CF w wr) (fun z _ => R - (intOf z).toNat)
  case atStart => exact ⟨0, Nat.zero_le _, rfl, hf.out, hT0.out⟩
  case round =>
    obtain ⟨i, hi, rfl, hcs, hWs⟩ := hrel
    obtain ⟨k0, k1, k2, k3, k4, k5⟩ := cfgs hcs
    replace hcs := Lib.hid hcs
    replace hWs := Lib.hid hWs
    by_cases hlt : i < R
    · have hy := hby.out i hlt
      go_wp2_with (go_at_call 85; refine (bodyC c _ 0 i).mono ?_; rintro e w2 ⟨rfl, hb2⟩; replace hcs := Lib.hid (hcs.out.below hb2 hcs.out.lt); replace hWs := Lib.hid (hWs.out.trans (hb2.mono (by have := hcs.out.lt; have := hWs.out.size; omega))); clear hb2)
      go_roundw
      case rel => exact ⟨i + 1, by omega, by go_num, hcs.out, hWs.out⟩
      case measure => simp [intOf]; omega
    · have hiR : i = R := by omega
      subst hiR
      have hn := hbn.out
      have hbi : ¬ (i : Int) < (bn : Int) := by omega
      have hi0 : 0 ≤ (i : Int) := by omega
      have hmk := make_run (i : Int) hi0 (by omega)
      rw [Int.toNat_natCast] at hmk
      go_upto_region 11 with (go_at_call 85; refine (bodyC c _ 0 i).mono ?_; rintro e w2 ⟨rfl, hb2⟩; replace hcs := Lib.hid (hcs.out.below hb2 hcs.out.lt); replace hWs := Lib.hid (hWs.out.trans (hb2.mono (by have := hcs.out.lt; have := hWs.out.size; omega))); clear hb2)
      have hlo : CF ≤ w2.heap.size := by have := hcs.out.lt; omega
      have hSc := hS.out.below hWs.out (Nat.le_of_eq hCFe)
      have hSd := hSc.below ((Below.refl w2.heap.size w2).alloc (Nat.le_refl _) (.cells (rowF .u64 i (fun _ => 0)) 33)) (Nat.le_refl _)
      obtain ⟨w3, hrun, hb3, hF3⟩ := copyC (w2.alloc (.cells (rowF .u64 i (fun _ => 0)) 33)) w2.heap.size i A bn bc bf (Blk.new w2 33 (rowF .u64 i (fun _ => 0))) hSd hb
      have hcs3 := (hcs.out.alloc (.cells (rowF .u64 i (fun _ => 0)) 33)).fr hF3 (fun e => by have := hcs.out.lt; have e' : CF = w2.heap.size := e; omega)
      have hW3 := (hWs.out.alloc hlo (.cells (rowF .u64 i (fun _ => 0)) 33)).trans (hF3.below (n := CF) (fun k hk => ⟨by simp; omega, fun e => by have e' : k = w2.heap.size := e; omega⟩))
      have hz3 := hF3.size
      have hz4 : (w2.alloc (.cells (rowF .u64 i (fun _ => 0)) 33)).heap.size = w2.heap.size + 1 := by simp
      rw [hz4] at hz3
      generalize hre : w2.heap.size = rr at *
      clear hSc hSd hcs hF3 hWs k0 k1 k2 k3 k4 k5 hz4
      go_upto_region 12 with (at_builtin; refine Lib.wpList_copy_run _ rfl _ _ 29 29 rfl _ _ rfl rfl hrun ?_)
      clear hrun hmk
      have hf3 := Lib.hid hcs3.drew
      replace hb3 := Lib.hid hb3.drew
      replace hW3 := Lib.hid hW3.drew
      have hz : rr + 1 ≤ w3.drew.heap.size := hz3
      have hX : w3.drew.cell? ⟨CF, 0, none⟩ = some (.int .i64 c.S) ∧ w3.drew.cell? ⟨CF, 1, none⟩ = some (.int .i64 c.A) ∧ w3.drew.cell? ⟨CF, 2, none⟩ = some (.int .i64 c.C) ∧ w3.drew.cell? ⟨CF, 3, none⟩ = some (.int .i64 c.H) ∧ w3.drew.cell? ⟨CF, 4, none⟩ = some (.int .i64 c.G) ∧ w3.drew.cell? ⟨CF, 5, none⟩ = some (.int .i64 c.K) := cfgs hf3.out
      clear hcs3 hre hz3
      go_region_held3 (fun w' => w'.cell? ⟨CF, 0, none⟩ = some (.int .i64 c.S) ∧ w'.cell? ⟨CF, 1, none⟩ = some (.int .i64 c.A) ∧ w'.cell? ⟨CF, 2, none⟩ = some (.int .i64 c.C) ∧ w'.cell? ⟨CF, 3, none⟩ = some (.int .i64 c.H) ∧ w'.cell? ⟨CF, 4, none⟩ = some (.int .i64 c.G) ∧ w'.cell? ⟨CF, 5, none⟩ = some (.int .i64 c.K)) (first | assumption | (refine cfgs (t := 23) (Blk.alloc (Hid.out ?_) _); assumption)) (first | (go_at_call 44; refine (newPopC c _ hr.out).mono ?_; rintro e w4 ⟨q, rfl, hq0, hq, hb4⟩; replace hf3 := Lib.hid (hf3.out.below hb4 hf3.out.lt); have hY := cfgs hf3.out; replace hb3 := Lib.hid (hb3.out.below hb4 hb3.out.lt); have ltq := Blk.lt hq; replace hq := Lib.hid hq; replace hW3 := Lib.hid (hW3.out.trans (hb4.mono (by omega))); clear hb4))
      all_goals
        clear hX hY
        go_wp2
        go_ret
        exact ⟨w4.heap.size, q, rr, rfl, hlo, by omega, ltq, Blk.alloc hq.out _, Blk.new w4 _ _, ⟨Nat.le_refl _, fun _ => ⟨rfl, _, hb3.out.alloc _, fun j hj => rowF_get hj⟩⟩, hW3.out.alloc (by omega) _⟩
end
def canM (c : Cf) (kd ar : Int) (bn : Nat) : Prop := c.right = true ∧ 0 ≤ ar ∧ bn ≤ roomI c ∧ (kd = 1 ∧ ar ≤ c.A ∨ kd = 2 ∧ ar = 0)
theorem newMakeC (c : Cf) (w : World) (kd ar ep : Int) (A : Option Addr) (bn bc : Nat) (bf : Nat → Int) (hS : Sl w A bn 1 (fun i _ => .int .u64 (bf i))) (h : canM c kd ar bn) : Calls Try.prog 51 #[.agg #[.int .i64 c.S, .int .i64 c.A, .int .i64 c.C, .int .i64 c.H, .int .i64 c.G, .int .i64 c.K], .int .i64 kd, .int .i64 ar, .int .u64 ep, .slice A bn bc] w fun e w' =>
    ∃ p q r, e = .returned (.pointer (some ⟨p, 0, none⟩)) ∧ w.heap.size ≤ r ∧ r < q ∧ q < p ∧ PopB w' q c ⟨-1, false, 0, 0, 0⟩ ∧ Blk w' p 82 (makeA c (-1) false kd ar ep (.slice (some ⟨r, 0, none⟩) (roomI c) (roomI c)) (some ⟨q, 0, none⟩) 0 0 0) ∧ RowB w' (some ⟨r, 0, none⟩) (roomI c) r (roomI c) (padF bn bf) ∧ Below w.heap.size w w' := by
  obtain ⟨hr, h0, hb, ⟨rfl, hk⟩ | ⟨rfl, hk⟩⟩ := h
  · exact newMake_1 c w ar ep A bn bc bf hS hr h0 hk hb
  · exact newMake_2 c w ar ep A bn bc bf hS hr h0 hk hb
end Go.Proofs.Ytijfkpoofpcacaa.ArenaP
end
section
set_option linter.unusedVariables false
namespace Go.Proofs.Ytijfkpoofpcacaa.StackT
open Go.RowKit Go.Proofs.YtijfkpoofpcacaaW.PrintWords Go.Proofs.Ytijfkpoofpcacaa.Blk Go.Proofs.Ytijfkpoofpcacaa.Core Go.Proofs.Ytijfkpoofpcacaa.MemC Go.Proofs.Ytijfkpoofpcacaa.MemD Go.Proofs.Ytijfkpoofpcacaa.MemT Go.Proofs.Ytijfkpoofpcacaa.PlanC Go.Proofs.Ytijfkpoofpcacaa.PlanD Go.Proofs.Ytijfkpoofpcacaa.StackC Go.Proofs.Ytijfkpoofpcacaa.StackL Go.Proofs.Ytijfkpoofpcacaa.StackS Go.Proofs.Ytijfkpoofpcacaa.Opens
theorem Li.cell {w : World} {B : Nat} {v : Value} {l : List Int} (h : Li w B v l) : ∃ A cc, v = .slice A l.length cc ∧ l.length ≤ cc ∧ l.length ≤ 100000 ∧ ∀ i, i < l.length → ∃ b o, A = some ⟨b, o, none⟩ ∧ w.cell? ⟨b, o + i, none⟩ = some (.int .i64 (l.getD i 0)) := by
  obtain ⟨A, cc, e, hc, hS, hB, hl⟩ := h
  refine ⟨A, cc, e, hc, hl, fun i hi => ?_⟩
  obtain ⟨b, o, e', _, hcl⟩ := hS (by omega)
  have := hcl i hi 0 (by decide)
  rw [Nat.mul_one] at this
  exact ⟨b, o, e', this⟩
theorem getD_eq {l : List Int} {i : Nat} (h : i < l.length) : l.getD i 0 = l[i] := by rw [List.getD_eq_getElem?_getD, List.getElem?_eq_getElem h]; rfl
theorem take_ext {l k : List Int} (hl : l.length = k.length) (h : ∀ i, i < l.length → l.getD i 0 = k.getD i 0) : l = k := by
  apply List.ext_getElem hl
  intro i h1 h2
  have := h i h1
  rwa [getD_eq h1, getD_eq h2] at this
theorem sameC (w : World) (B B' : Nat) (u v : Value) (l k : List Int) (hu : Li w B u l) (hv : Li w B' v k) : Calls Try.prog 28 #[u, v] w fun e w' => e = .returned (.bool (decide (l = k))) ∧ Below w.heap.size w w' := by
  by_cases hlen : l.length = k.length
  · have key : ∀ w', Below w.heap.size w w' → (∃ A cc, u = .slice A l.length cc ∧ l.length ≤ cc ∧ l.length ≤ 100000 ∧ ∀ i, i < l.length → ∃ b o, A = some ⟨b, o, none⟩ ∧ w'.cell? ⟨b, o + i, none⟩ = some (.int .i64 (l.getD i 0))) ∧ ∃ A cc, v = .slice A k.length cc ∧ k.length ≤ cc ∧ k.length ≤ 100000 ∧ ∀ i, i < k.length → ∃ b o, A = some ⟨b, o, none⟩ ∧ w'.cell? ⟨b, o + i, none⟩ = some (.int .i64 (k.getD i 0)) := fun w' hb => ⟨Li.cell (hu.below hb), Li.cell (hv.below hb)⟩
    obtain ⟨A, cc, rfl, hc, hl, _⟩ := Li.cell hu
    obtain ⟨A', cc', rfl, hc', hl', _⟩ := Li.cell hv
    replace key := Lib.hid key
    rw [← hlen] at hc' hl'
    have hd : ∀ i, l.length = i → (∀ j, j < i → l.getD j 0 = k.getD j 0) → decide (l = k) = true := fun i hi h => decide_eq_true (take_ext hlen (fun j hj => h j (by omega)))
    have hne : ∀ i, i < l.length → l.getD i 0 ≠ k.getD i 0 → decide (l = k) = false := fun i hi h => decide_eq_false (fun e => h (by rw [e]))
    replace hd := Lib.hid hd
    replace hne := Lib.hid hne
    clear hu hv
    obtain ⟨r, hr⟩ : ∃ r, decide (l = k) = r := ⟨_, rfl⟩
    rw [hr, ← hlen]
    rw [hr] at hd hne
    replace hr := Lib.hid hr
    rw [← hlen] at key
    replace hlen := Lib.hid hlen
    generalize l.length = n at *
    go_enter Try.func28, Try.ntmps28
    go_wp2
    go_loopw [5] (fun z wr => ∃ i : Nat, i ≤ n ∧ z = .int .i64 (i : Int) ∧ Below w.heap.size w wr ∧ ∀ j, j < i → l.getD j 0 = k.getD j 0) (fun z _ => n - (intOf z).toNat)
    case atStart => exact ⟨0, Nat.zero_le _, rfl, Below.refl _ _, fun j hj => absurd hj (by omega)⟩
    case round =>
      obtain ⟨i, hi, rfl, hB, hj⟩ := hrel
      by_cases hlt : i < n
      · obtain ⟨⟨_, _, e1, _, _, h1⟩, ⟨_, _, e2, _, _, h2⟩⟩ := key.out _ hB
        cases e1
        cases e2
        obtain ⟨b1, o1, rfl, x1⟩ := h1 i hlt
        obtain ⟨b2, o2, rfl, x2⟩ := h2 i hlt
        clear h1 h2
        replace hB := Lib.hid hB
        replace hj := Lib.hid hj
        by_cases he : l.getD i 0 = k.getD i 0
        · have hE := Lib.hid he
          rw [← he] at x2
          clear he
          go_wp2
          go_quiet (fail)
          go_wp2
          go_roundw
          case rel => exact ⟨i + 1, by omega, by go_num, pw_below_drewN hB.out _, fun j hj' => by
            rcases Nat.lt_or_ge j i with q | q
            · exact hj.out j q
            · obtain rfl : j = i := by omega
              exact hE.out⟩
          case measure => simp [intOf]; omega
        · have hf := hne.out i hlt he
          have he' : (l.getD i 0 == k.getD i 0) = false := beq_eq_false_iff_ne.2 he
          generalize l.getD i 0 = y1 at *
          generalize k.getD i 0 = y2 at *
          subst hf
          go_wp2
          go_quiet (fail)
          go_wp2
          go_ret
          exact ⟨rfl, pw_below_drewN hB.out _⟩
      · have hT := hd.out i (by omega) hj
        replace hB := Lib.hid hB
        replace hj := Lib.hid hj
        subst hT
        go_wp2
        go_ret
        exact ⟨rfl, hB.out⟩
  · rw [decide_eq_false (fun e => hlen (by rw [e]))]
    obtain ⟨A, cc, rfl, hc, hl, _⟩ := Li.cell hu
    obtain ⟨A', cc', rfl, hc', hl', _⟩ := Li.cell hv
    have e1 : decide ((l.length : Int) = k.length) = false := decide_eq_false (by omega)
    have e2 : ((l.length : Int) == k.length) = false := beq_eq_false_iff_ne.2 (by omega)
    clear hu hv
    go_enter Try.func28, Try.ntmps28
    go_wp2
    go_ret
    exact ⟨rfl, Below.refl _ _⟩
theorem infoI : (Try.prog.info? 3).map (fun i => (i.zero, i.size, i.bytes)) = some (some (.int .i64 0), 1, 8) := by kernel_rfl
end Go.Proofs.Ytijfkpoofpcacaa.StackT
end
section
set_option linter.unusedVariables false
namespace Go.Proofs.Ytijfkpoofpcacaa.StackF
open Go.RowKit Go.Proofs.YtijfkpoofpcacaaW.PrintWords Go.Proofs.Ytijfkpoofpcacaa.Blk Go.Proofs.Ytijfkpoofpcacaa.Core Go.Proofs.Ytijfkpoofpcacaa.MemC Go.Proofs.Ytijfkpoofpcacaa.MemD Go.Proofs.Ytijfkpoofpcacaa.MemT Go.Proofs.Ytijfkpoofpcacaa.Memory Go.Proofs.Ytijfkpoofpcacaa.PlanC Go.Proofs.Ytijfkpoofpcacaa.PlanD Go.Proofs.Ytijfkpoofpcacaa.StackC Go.Proofs.Ytijfkpoofpcacaa.StackL Go.Proofs.Ytijfkpoofpcacaa.StackS Go.Proofs.Ytijfkpoofpcacaa.StackT Go.Proofs.Ytijfkpoofpcacaa.Opens
theorem memF_U (A C H : Int) (j : Nat) (hj : j ≤ 64) : U (memF A C H j) := by
  intro k
  unfold memF
  split
  · decide
  · split
    · decide
    · split
      · rename_i h
        have h5 : 0 < roomV A := by unfold roomV; split <;> omega
        have := Int.ediv_nonneg h.1 (Int.le_of_lt h5)
        omega
      · decide
theorem fine_of {n : Nat} {f : Nat → Int} (h : U f) : Fine (Ms.of n f) n 0 := ⟨h, rfl, Int.le_refl 0, Int.le_refl 0⟩
theorem fine_pop {c : Cf} {q : Pop} {M : Ms} {n t : Nat} (h : Fine M n t) (t0 : 0 ≤ q.tp) : Fine (popM c q M) n (t + 1) := by
  unfold popM
  split
  · exact h.ld _
  · split
    · exact h.ld _
    · split
      · have := movedV_bd q.tp q.nx t0
        exact h.sw _ _ this.1 this.2
      · exact h.mono (Nat.le_succ _)
theorem first_bd (S x : Int) : -1 ≤ firstI S x ∧ firstI S x < 65536 := by unfold firstI; split <;> omega
theorem fine_push {c : Cf} {q : Push} {M : Ms} {n t : Nat} (h : Fine M n t) (t0 : 0 ≤ q.tp) : Fine (pushM c q M) n (t + 1) := by
  unfold pushM
  split
  · exact h.ld _
  · split
    · have := first_bd c.S q.tp
      exact h.st _ (by omega) (by omega)
    · split
      · have := movedV_bd q.tp q.sl t0
        exact h.sw _ _ this.1 this.2
      · exact h.mono (Nat.le_succ _)
theorem memC (c : Cf) (w : World) (h : c.right = true) : Calls Try.prog 20 #[.agg #[.int .i64 c.S, .int .i64 c.A, .int .i64 c.C, .int .i64 c.H, .int .i64 c.G, .int .i64 c.K]] w fun e w' =>
    ∃ m b, e = .returned (.pointer (some ⟨m, 0, none⟩)) ∧ MemB w' m b (Ms.of c.size.toNat (memF c.A c.C c.H (c.S - 1).toNat)) ∧ w.heap.size ≤ m ∧ w.heap.size ≤ b ∧ Below w.heap.size w w' := memory_c _ _ _ _ _ _ w h
def c7 : Cf := ⟨3, 0, 1, 1, 1, 0⟩
end Go.Proofs.Ytijfkpoofpcacaa.StackF
end
section
set_option linter.unusedVariables false
namespace Go.Proofs.Ytijfkpoofpcacaa.StackP
open Go.RowKit Go.Proofs.Ytijfkpoofpcacaa.Blk Go.Proofs.Ytijfkpoofpcacaa.Core Go.Proofs.Ytijfkpoofpcacaa.MemC Go.Proofs.Ytijfkpoofpcacaa.MemT Go.Proofs.Ytijfkpoofpcacaa.Memory Go.Proofs.Ytijfkpoofpcacaa.PlanC Go.Proofs.Ytijfkpoofpcacaa.PlanD Go.Proofs.Ytijfkpoofpcacaa.StackC Go.Proofs.Ytijfkpoofpcacaa.StackL Go.Proofs.Ytijfkpoofpcacaa.StackS Go.Proofs.Ytijfkpoofpcacaa.StackF
def hd : List Int → Int
  | [] => 0
  | x :: _ => x + 1
def Lk (c : Cf) (f : Nat → Int) : List Int → Prop
  | [] => True
  | x :: r => (0 ≤ x ∧ x < c.S) ∧ f (c.link x).toNat = hd r ∧ Lk c f r
structure Stk (c : Cf) (f : Nat → Int) (t : Int) (L : List Int) : Prop where
  top : f 3 = 65536 * t + hd L
  t0 : 0 ≤ t
  lk : Lk c f L
  nd : L.Nodup
theorem Lk.mem {c : Cf} {f : Nat → Int} : ∀ {L : List Int}, Lk c f L → ∀ x ∈ L, 0 ≤ x ∧ x < c.S := by
  intro L
  induction L with
  | nil => intro _ x hx; cases hx
  | cons y r ih =>
    intro h x hx
    rcases List.mem_cons.1 hx with rfl | hx
    · exact h.1
    · exact ih h.2.2 x hx
theorem hd_bd {c : Cf} {f : Nat → Int} {L : List Int} (h : Lk c f L) : 0 ≤ hd L ∧ (0 ≤ c.S → hd L ≤ c.S) := by
  cases L with
  | nil => exact ⟨Int.le_refl 0, fun h => h⟩
  | cons x r => have := h.1; show 0 ≤ x + 1 ∧ (0 ≤ c.S → x + 1 ≤ c.S); omega
theorem link_inj {c : Cf} (hr : c.right = true) {x y : Int} (hx : 0 ≤ x ∧ x < c.S) (hy : 0 ≤ y ∧ y < c.S) (h : c.link x = c.link y) : x = y := by
  have hb := size_bd hr
  unfold Cf.link at h
  rw [if_pos ⟨hr, hx.1, hx.2⟩, if_pos ⟨hr, hy.1, hy.2⟩] at h
  have h2 : x * roomV c.A = y * roomV c.A := by omega
  exact Int.eq_of_mul_eq_mul_right (by omega) h2
theorem Lk.congr {c : Cf} {f g : Nat → Int} : ∀ {L : List Int}, Lk c f L → (∀ x ∈ L, g (c.link x).toNat = f (c.link x).toNat) → Lk c g L := by
  intro L
  induction L with
  | nil => intro _ _; trivial
  | cons y r ih =>
    intro h hg
    exact ⟨h.1, (hg y List.mem_cons_self).trans h.2.1, ih h.2.2 (fun x hx => hg x (List.mem_cons_of_mem _ hx))⟩
theorem upd_ne {f : Nat → Int} {a i : Nat} {v : Int} (h : i ≠ a) : upd f a v i = f i := if_neg h
theorem upd_eq {f : Nat → Int} {a : Nat} {v : Int} : upd f a v a = v := if_pos rfl
theorem nodup_len : ∀ (n : Nat) (l : List Int), l.Nodup → (∀ x ∈ l, 0 ≤ x ∧ x < (n : Int)) → l.length ≤ n := by
  intro n
  induction n with
  | zero =>
    intro l _ h
    cases l with
    | nil => exact Nat.le_refl _
    | cons a l => have := h a List.mem_cons_self; omega
  | succ n ih =>
    intro l hn h
    by_cases hm : (n : Int) ∈ l
    · have h1 := ih (l.erase (n : Int)) (hn.erase _) (fun x hx => by
        have hx' := (hn.mem_erase_iff).1 hx
        have := h x hx'.2
        have := hx'.1
        omega)
      rw [List.length_erase_of_mem hm] at h1
      omega
    · have h1 := ih l hn (fun x hx => by
        have := h x hx
        have : x ≠ n := fun e => hm (e ▸ hx)
        omega)
      omega
theorem chain_of {c : Cf} {f : Nat → Int} : ∀ {L : List Int} {n : Nat}, Lk c f L → L.length ≤ n → chain c f n (hd L) = L := by
  intro L
  induction L with
  | nil =>
    intro n _ _
    cases n with
    | zero => rfl
    | succ n => simp [chain, hd]
  | cons x r ih =>
    intro n h hl
    cases n with
    | zero => simp at hl
    | succ n =>
      obtain ⟨h1, h2, h3⟩ := h
      unfold chain
      have e : hd (x :: r) - 1 = x := by show x + 1 - 1 = x; omega
      rw [if_pos (by show 1 ≤ x + 1 ∧ x + 1 ≤ c.S; omega), e, h2, ih h3 (by simpa using hl)]
theorem moved_eq {t : Int} (ht : 0 ≤ t) (t1 : t + 1 < 281474976710656) {a s : Int} (ha : 0 ≤ a ∧ a < 65536) (hs : -1 ≤ s ∧ s < 64) : movedV (65536 * t + a) s = 65536 * (t + 1) + (s + 1) := by
  unfold movedV
  rw [if_pos hs]
  have e : (65536 * t + a) / 65536 = t := by omega
  rw [e]
  omega
section
variable {c : Cf} (hr : c.right = true) {f : Nat → Int} {t : Int} {L r : List Int} {x : Int}
include hr
theorem S_bd : 1 ≤ c.S ∧ c.S ≤ 64 := by have := right_iff.1 hr; omega
theorem Stk.len (h : Stk c f t L) : L.length ≤ c.S.toNat := nodup_len _ _ h.nd (fun x hx => by have := h.lk.mem x hx; have := S_bd hr; omega)
theorem Stk.list (h : Stk c f t L) : listV c f = L := by
  have hb := hd_bd h.lk
  have hS := S_bd hr
  unfold listV
  have e : f 3 % 65536 = hd L := by rw [h.top]; omega
  rw [e]
  exact chain_of h.lk (h.len hr)
theorem Stk.first (h : Stk c f t L) : firstI c.S (f 3) = hd L - 1 := by
  have hb := hd_bd h.lk
  have hS := S_bd hr
  have e : f 3 % 65536 = hd L := by rw [h.top]; omega
  unfold firstI
  rw [e]
  split
  · cases L with
    | nil => rfl
    | cons x r => have := h.lk.1; have : hd (x :: r) = x + 1 := rfl; omega
  · rfl
theorem link_ge (hx : 0 ≤ x ∧ x < c.S) : 4 ≤ (c.link x).toNat := by have := link_lt hr hx.1 hx.2; omega
theorem Stk.link_top (h : Stk c f t L) (v : Int) : ∀ y ∈ L, upd f 3 v (c.link y).toNat = f (c.link y).toNat := fun y hy => upd_ne (by have := link_ge hr (h.lk.mem y hy); omega)
theorem Stk.take (h : Stk c f t (x :: r)) (t1 : t + 1 < 281474976710656) : Stk c (upd f 3 (movedV (f 3) (hd r - 1))) (t + 1) r := by
  have hS := S_bd hr
  have hx := h.lk.1
  have hb := hd_bd h.lk.2.2
  have ht := h.t0
  refine ⟨?_, by omega, h.lk.2.2.congr (fun y hy => h.link_top hr _ y (List.mem_cons_of_mem _ hy)), (List.nodup_cons.1 h.nd).2⟩
  rw [upd_eq, h.top, moved_eq ht t1 (by show 0 ≤ x + 1 ∧ x + 1 < 65536; omega) (by omega)]
  omega
theorem Stk.lay (h : Stk c f t L) (t1 : t + 1 < 281474976710656) (hx : 0 ≤ x ∧ x < c.S) (hn : x ∉ L) (hl : f (c.link x).toNat = hd L) : Stk c (upd f 3 (movedV (f 3) x)) (t + 1) (x :: L) := by
  have hS := S_bd hr
  have hb := hd_bd h.lk
  have ht := h.t0
  refine ⟨?_, by omega, ⟨hx, ?_, h.lk.congr (fun y hy => h.link_top hr _ y hy)⟩, List.nodup_cons.2 ⟨hn, h.nd⟩⟩
  · rw [upd_eq, h.top, moved_eq ht t1 (by omega) (by omega)]
    rfl
  · rw [upd_ne (by have := link_ge hr hx; omega)]; exact hl
theorem Stk.store (h : Stk c f t L) (hx : 0 ≤ x ∧ x < c.S) (hn : x ∉ L) (v : Int) : Stk c (upd f (c.link x).toNat v) t L := by
  refine ⟨?_, h.t0, h.lk.congr (fun y hy => upd_ne (fun e => ?_)), h.nd⟩
  · rw [upd_ne (by have := link_ge hr hx; omega)]; exact h.top
  · have h1 := link_lt hr (h.lk.mem y hy).1 (h.lk.mem y hy).2
    have h2 := link_lt hr hx.1 hx.2
    have := link_inj hr (h.lk.mem y hy) hx (by omega)
    exact hn (this ▸ hy)
end
theorem ld_f (M : Ms) (a : Int) : (M.ldS a).f = M.f ∧ (M.ldS a).n = M.n := by
  unfold Ms.ldS
  split
  · refine ⟨?_, rfl⟩
    funext i
    show upd M.f a.toNat (M.f a.toNat) i = M.f i
    unfold upd
    split
    · rename_i e; rw [e]
    · rfl
  · exact ⟨rfl, rfl⟩
theorem ld_v {M : Ms} {a : Int} (h0 : 0 ≤ a) (h1 : a < M.n) : M.ldV a = M.f a.toNat := by unfold Ms.ldV; rw [if_pos (inn_iff.2 ⟨h0, h1⟩)]
theorem sw_yes {M : Ms} {a old now : Int} (h0 : 0 ≤ a) (h1 : a < M.n) (h : M.f a.toNat = old) : M.swV a old = true ∧ (M.swS a old now).f = upd M.f a.toNat now ∧ (M.swS a old now).n = M.n := by
  have hi : M.inn a = true := inn_iff.2 ⟨h0, h1⟩
  refine ⟨by unfold Ms.swV; rw [hi, decide_eq_true h]; rfl, ?_, ?_⟩
  · unfold Ms.swS; rw [if_pos hi, if_pos h]; rfl
  · unfold Ms.swS; rw [if_pos hi]; rfl
theorem st_f {M : Ms} {a v : Int} (h0 : 0 ≤ a) (h1 : a < M.n) : (M.stS a v).f = upd M.f a.toNat v ∧ (M.stS a v).n = M.n := by
  unfold Ms.stS; rw [if_pos (inn_iff.2 ⟨h0, h1⟩)]; exact ⟨rfl, rfl⟩
def ups (k : Nat) : Nat → List Int
  | 0 => []
  | n + 1 => (k : Int) :: ups (k + 1) n
theorem ups_mem : ∀ {n k : Nat} {x : Int}, x ∈ ups k n → (k : Int) ≤ x ∧ x < (k : Int) + n := by
  intro n
  induction n with
  | zero => intro k x h; cases h
  | succ n ih =>
    intro k x h
    rcases List.mem_cons.1 h with rfl | h
    · omega
    · have := ih h; omega
theorem ups_nodup : ∀ (n k : Nat), (ups k n).Nodup := by
  intro n
  induction n with
  | zero => intro k; exact List.nodup_nil
  | succ n ih => intro k; exact List.nodup_cons.2 ⟨fun h => by have := ups_mem h; omega, ih _⟩
theorem memF_last {A C H : Int} {j : Nat} (h4 : 4 ≤ slotsV C H) (h5 : 5 ≤ roomV A) : memF A C H j (slotsV C H + j * roomV A + 1).toNat = 0 := by
  have hm : 0 ≤ (j : Int) * roomV A := Int.mul_nonneg (by omega) (by omega)
  unfold memF
  have e : (((slotsV C H + j * roomV A + 1).toNat : Nat) : Int) - slotsV C H = 1 + j * roomV A := by omega
  rw [if_neg (by omega), if_neg (by omega), e]
  have e2 : (1 + (j : Int) * roomV A) / roomV A = j := by rw [Int.add_mul_ediv_right _ _ (by omega), Int.ediv_eq_zero_of_lt (by omega) (by omega)]; omega
  rw [e2, if_neg (by omega)]
theorem stk_lk {c : Cf} (hr : c.right = true) : ∀ (n k : Nat), ((k + n : Nat) : Int) = c.S → Lk c (memF c.A c.C c.H (c.S - 1).toNat) (ups k n) := by
  have hb := size_bd hr
  have hS := S_bd hr
  intro n
  induction n with
  | zero => intro k _; trivial
  | succ n ih =>
    intro k hk
    refine ⟨by omega, ?_, ih (k + 1) (by omega)⟩
    unfold Cf.link
    rw [if_pos ⟨hr, by omega, by omega⟩]
    cases n with
    | zero =>
      have : (c.S - 1).toNat = k := by omega
      rw [this]
      exact memF_last (by omega) (by omega)
    | succ n =>
      rw [memF_link (by omega) (by omega) (by omega)]
      show (k : Int) + 2 = ((k + 1 : Nat) : Int) + 1
      omega
theorem stk_start {c : Cf} (hr : c.right = true) : Stk c (memF c.A c.C c.H (c.S - 1).toNat) 0 (ups 0 c.S.toNat) := by
  have hS := S_bd hr
  refine ⟨?_, Int.le_refl 0, stk_lk hr _ 0 (by omega), ups_nodup _ _⟩
  obtain ⟨k, hk⟩ : ∃ k, c.S.toNat = k + 1 := ⟨c.S.toNat - 1, by omega⟩
  rw [hk]
  rfl
end Go.Proofs.Ytijfkpoofpcacaa.StackP
end
namespace Go.Proofs.Ytijfkpoofpcacaa.StackQ
end Go.Proofs.Ytijfkpoofpcacaa.StackQ
section
set_option linter.unusedVariables false
set_option linter.unusedSectionVars false
namespace Go.Proofs.Ytijfkpoofpcacaa.TakerL
open Go.RowKit Go.Proofs.Ytijfkpoofpcacaa.Blk Go.Proofs.Ytijfkpoofpcacaa.Core Go.Proofs.Ytijfkpoofpcacaa.MemC Go.Proofs.Ytijfkpoofpcacaa.MemT Go.Proofs.Ytijfkpoofpcacaa.Memory Go.Proofs.Ytijfkpoofpcacaa.PlanC Go.Proofs.Ytijfkpoofpcacaa.PlanD Go.Proofs.Ytijfkpoofpcacaa.StackC Go.Proofs.Ytijfkpoofpcacaa.StackL Go.Proofs.Ytijfkpoofpcacaa.StackS Go.Proofs.Ytijfkpoofpcacaa.StackF Go.Proofs.Ytijfkpoofpcacaa.StackP Go.Proofs.Ytijfkpoofpcacaa.StackQ
def Tg (f : Nat → Int) (t tp : Int) : Prop := (0 ≤ tp ∧ tp < 18446744073709551616) ∧ tp / 65536 ≤ t ∧ (tp / 65536 = t → tp = f 3)
def PopI (f : Nat → Int) (t : Int) (L : List Int) (q : Pop) : Prop :=
  q.sl = -1 ∧ q.em = false ∧ (0 ≤ q.tp ∧ q.tp < 18446744073709551616) ∧
    (q.a = 0 ∨ (q.a = 1 ∧ Tg f t q.tp ∧ (q.tp = f 3 → L ≠ [])) ∨ (q.a = 2 ∧ Tg f t q.tp ∧ (q.tp = f 3 → L ≠ [] ∧ q.nx = hd L.tail - 1)))
def PushI (c : Cf) (f : Nat → Int) (t : Int) (L : List Int) (q : Push) : Prop :=
  (0 ≤ q.tp ∧ q.tp < 18446744073709551616) ∧ (q.a = 0 ∨ (q.a = 1 ∧ Tg f t q.tp) ∨ (q.a = 2 ∧ Tg f t q.tp ∧ (q.tp = f 3 → f (c.link q.sl).toNat = hd L)))
theorem PopI.ok {f : Nat → Int} {t : Int} {L : List Int} {q : Pop} (h : PopI f t L q) : PopOk q := ⟨h.2.2.1.1, h.2.2.1.2, by rcases h.2.2.2 with a | ⟨a, _⟩ | ⟨a, _⟩ <;> simp [a]⟩
theorem PushI.ok {c : Cf} {f : Nat → Int} {t : Int} {L : List Int} {q : Push} (h : PushI c f t L q) : PushOk q := ⟨h.1.1, h.1.2, by rcases h.2 with a | ⟨a, _⟩ | ⟨a, _⟩ <;> simp [a]⟩
theorem Tg.next {f f' : Nat → Int} {t tp : Int} (h : Tg f t tp) : Tg f' (t + 1) tp := ⟨h.1, by have := h.2.1; omega, fun k => by have := h.2.1; omega⟩
section
variable {c : Cf} (hr : c.right = true) {f f' : Nat → Int} {t : Int} {L L' : List Int}
include hr
theorem top_tag (h : Stk c f t L) : f 3 / 65536 = t ∧ 0 ≤ f 3 := by
  have hS := S_bd hr
  have hb := hd_bd h.lk
  have ht := h.t0
  rw [h.top]; omega
theorem PopI.next {q : Pop} (h : PopI f t L q) (hs : Stk c f' (t + 1) L') : PopI f' (t + 1) L' q := by
  have h1 := (top_tag hr hs).1
  refine ⟨h.1, h.2.1, h.2.2.1, ?_⟩
  rcases h.2.2.2 with a | ⟨a, b, d⟩ | ⟨a, b, d⟩
  · exact .inl a
  · exact .inr (.inl ⟨a, b.next, fun e => by have := b.2.1; rw [e] at this; omega⟩)
  · exact .inr (.inr ⟨a, b.next, fun e => by have := b.2.1; rw [e] at this; omega⟩)
theorem PushI.next {q : Push} (h : PushI c f t L q) (hs : Stk c f' (t + 1) L') : PushI c f' (t + 1) L' q := by
  have h1 := (top_tag hr hs).1
  refine ⟨h.1, ?_⟩
  rcases h.2 with a | ⟨a, b⟩ | ⟨a, b, d⟩
  · exact .inl a
  · exact .inr (.inl ⟨a, b.next⟩)
  · exact .inr (.inr ⟨a, b.next, fun e => by have := b.2.1; rw [e] at this; omega⟩)
variable {M : Ms} (hn : M.n = c.size) (hu : U M.f)
include hn hu
end
end Go.Proofs.Ytijfkpoofpcacaa.TakerL
end
section
set_option linter.unusedVariables false
set_option linter.unusedSectionVars false
namespace Go.Proofs.Ytijfkpoofpcacaa.ArenaL
open Go.RowKit Go.Proofs.Ytijfkpoofpcacaa.Blk Go.Proofs.Ytijfkpoofpcacaa.Core Go.Proofs.Ytijfkpoofpcacaa.MemC Go.Proofs.Ytijfkpoofpcacaa.MemT Go.Proofs.Ytijfkpoofpcacaa.Memory Go.Proofs.Ytijfkpoofpcacaa.PlanC Go.Proofs.Ytijfkpoofpcacaa.PlanD Go.Proofs.Ytijfkpoofpcacaa.StackC Go.Proofs.Ytijfkpoofpcacaa.StackL Go.Proofs.Ytijfkpoofpcacaa.StackS Go.Proofs.Ytijfkpoofpcacaa.StackF Go.Proofs.Ytijfkpoofpcacaa.StackP Go.Proofs.Ytijfkpoofpcacaa.StackQ Go.Proofs.Ytijfkpoofpcacaa.TakerL Go.Proofs.Ytijfkpoofpcacaa.HeadC
structure Mk where
  sl : Int
  fu : Bool
  kd : Int
  ar : Int
  ep : Int
  gn : Int
  ix : Int
  nx : Int
  pop : Pop
def mkS (c : Cf) (n : Nat) (a : Mk) (M : Ms) : Mk :=
  if a.nx = 0 then
    (if popD c a.pop M = true then
      (if (popS c a.pop M).em = true then ⟨a.sl, true, a.kd, a.ar, a.ep, a.gn, a.ix, 5, popS c a.pop M⟩ else ⟨a.sl, a.fu, a.kd, a.ar, a.ep, a.gn, a.ix, 1, popS c a.pop M⟩)
    else ⟨a.sl, a.fu, a.kd, a.ar, a.ep, a.gn, a.ix, 0, popS c a.pop M⟩)
  else if a.nx = 1 then ⟨a.sl, a.fu, a.kd, a.ar, a.ep, uN (M.ldV (c.header a.pop.sl)), a.ix, 2, a.pop⟩
  else if a.nx = 2 then ⟨a.sl, a.fu, a.kd, a.ar, a.ep, a.gn, a.ix + 1, (if a.ix + 1 = (n : Int) then 3 else 2), a.pop⟩
  else if a.nx = 3 then ⟨a.pop.sl, a.fu, a.kd, a.ar, a.ep, a.gn, a.ix, 5, a.pop⟩
  else a
def mkM (c : Cf) (g : Nat → Int) (a : Mk) (M : Ms) : Ms :=
  if a.nx = 0 then popM c a.pop M else if a.nx = 1 then M.ldS (c.header a.pop.sl)
  else if a.nx = 2 then M.stS (c.body a.pop.sl a.ix) (g a.ix.toNat) else if a.nx = 3 then M.stS (c.header a.pop.sl) (madeV a.kd a.ar a.gn a.ep).1 else M
def mkD (c : Cf) (n : Nat) (a : Mk) (M : Ms) : Bool := (mkS c n a M).nx == 5
structure MkOk (n : Nat) (a : Mk) : Prop where
  pop : a.nx = 0 → PopOk a.pop
  nx : ((a.nx = 0 ∨ a.nx = 1 ∨ a.nx = 2) ∧ 0 ≤ a.ix ∧ a.ix < n) ∨ a.nx = 3 ∨ a.nx = 5
  ep : 0 ≤ a.ep ∧ a.ep < 18446744073709551616
  ar : a.ar < 9223372036854775808
  gn : a.gn < 9223372036854775808
structure Fre where
  bk : Bool
  gn : Bool
  sl : Int
  nw : Int
  nx : Int
  pu : Option Push
def frS (c : Cf) (a : Fre) (M : Ms) : Fre :=
  if a.nx = 1 then ⟨a.bk, a.gn, a.sl, (freedV (M.ldV (c.header a.sl)) c.G).1, (if (freedV (M.ldV (c.header a.sl)) c.G).2 = true then 3 else 5), a.pu⟩
  else if a.nx = 3 then (if uK a.nw = 4 then ⟨a.bk, true, a.sl, a.nw, 5, some ⟨a.sl, 0, 0⟩⟩ else ⟨a.bk, a.gn, a.sl, a.nw, 4, some ⟨a.sl, 0, 0⟩⟩)
  else if a.nx = 4 then (match a.pu with
    | some Q => if pushD c Q M = true then ⟨true, a.gn, a.sl, a.nw, 5, some (pushS c Q M)⟩ else ⟨a.bk, a.gn, a.sl, a.nw, 4, some (pushS c Q M)⟩
    | none => a)
  else a
def frM (c : Cf) (a : Fre) (M : Ms) : Ms :=
  if a.nx = 1 then M.ldS (c.header a.sl) else if a.nx = 3 then M.stS (c.header a.sl) a.nw
  else if a.nx = 4 then (match a.pu with | some Q => pushM c Q M | none => M) else M
def frD (c : Cf) (a : Fre) (M : Ms) : Bool := (frS c a M).nx == 5
structure FreOk (c : Cf) (a : Fre) : Prop where
  sl : 0 ≤ a.sl ∧ a.sl < c.S
  nw : 0 ≤ a.nw ∧ a.nw < 18446744073709551616
  nx : a.nx = 1 ∨ a.nx = 3 ∨ (a.nx = 4 ∧ ∃ Q, a.pu = some Q ∧ PushOk Q) ∨ a.nx = 5
def _root_.Go.Proofs.Ytijfkpoofpcacaa.PlanD.Cf.pl (c : Cf) (s o : Int) : Int := slotsV c.C c.H + s * roomV c.A + o
theorem place_inj {R s y i j : Int} (hi : 0 ≤ i ∧ i < R) (hj : 0 ≤ j ∧ j < R) (h : s * R + i = y * R + j) : s = y ∧ i = j := by
  have e : ∀ a b : Int, 0 ≤ b ∧ b < R → (a * R + b) / R = a := fun a b hb => by
    rw [Int.add_comm, Int.add_mul_ediv_right _ _ (by omega), Int.ediv_eq_zero_of_lt hb.1 hb.2, Int.zero_add]
  have e1 := e s i hi
  have e2 := e y j hj
  rw [h, e2] at e1
  subst e1
  exact ⟨rfl, by omega⟩
section
variable {c : Cf} (hr : c.right = true)
include hr
theorem room_bd : 5 ≤ roomV c.A ∧ roomV c.A ≤ 10 := by have := size_bd hr; omega
theorem link_pl {s : Int} (h : 0 ≤ s ∧ s < c.S) : c.link s = c.pl s 1 := by unfold Cf.link Cf.pl; rw [if_pos ⟨hr, h.1, h.2⟩]
theorem header_pl {s : Int} (h : 0 ≤ s ∧ s < c.S) : c.header s = c.pl s 0 := by unfold Cf.header Cf.pl; rw [if_pos ⟨hr, h.1, h.2⟩]; omega
theorem body_pl {s i : Int} (h : 0 ≤ s ∧ s < c.S) (hi : 0 ≤ i ∧ 2 + i < roomV c.A) : c.body s i = c.pl s (2 + i) := by unfold Cf.body Cf.pl; rw [if_pos ⟨hr, h.1, h.2, hi.1, hi.2⟩]
theorem pl_bd {s o : Int} (h : 0 ≤ s ∧ s < c.S) (ho : 0 ≤ o ∧ o < roomV c.A) : 4 ≤ c.pl s o ∧ c.pl s o < c.size := by
  have h1 := at_bd (S := c.S) (A := c.A) (C := c.C) (H := c.H) (G := c.G) (K := c.K) hr h.1 h.2 ho.1 ho.2
  have h2 := size_bd hr
  unfold Cf.pl Cf.size; omega
theorem pl_ne {s y i j : Int} (hs : 0 ≤ s ∧ s < c.S) (hy : 0 ≤ y ∧ y < c.S) (hi : 0 ≤ i ∧ i < roomV c.A) (hj : 0 ≤ j ∧ j < roomV c.A) (h : s ≠ y ∨ i ≠ j) : (c.pl s i).toNat ≠ (c.pl y j).toNat := by
  intro e
  have h1 := pl_bd hr hs hi
  have h2 := pl_bd hr hy hj
  have e2 : c.pl s i = c.pl y j := by omega
  unfold Cf.pl at e2
  obtain ⟨a, b⟩ := place_inj (R := roomV c.A) (s := s) (y := y) hi hj (by omega)
  exact h.elim (fun k => k a) (fun k => k b)
theorem Stk.off {f : Nat → Int} {t v : Int} {L : List Int} (h : Stk c f t L) {s o : Int} (hs : 0 ≤ s ∧ s < c.S) (ho : 0 ≤ o ∧ o < roomV c.A) (h1 : o ≠ 1) : Stk c (upd f (c.pl s o).toNat v) t L := by
  have hb := room_bd hr
  have hp := pl_bd hr hs ho
  refine ⟨?_, h.t0, h.lk.congr (fun y hy => ?_), h.nd⟩
  · rw [upd_ne (by omega)]; exact h.top
  · have hy' := h.lk.mem y hy
    rw [link_pl hr hy', upd_ne (pl_ne hr hy' hs ⟨by decide, by omega⟩ ho (.inr (fun e => h1 e.symm)))]
variable {M : Ms} (hn : M.n = c.size)
include hn
theorem ld_pl {s o : Int} (hs : 0 ≤ s ∧ s < c.S) (ho : 0 ≤ o ∧ o < roomV c.A) : M.ldV (c.pl s o) = M.f (c.pl s o).toNat := by
  have hp := pl_bd hr hs ho
  exact ld_v (by omega) (by omega)
theorem st_pl {s o v : Int} (hs : 0 ≤ s ∧ s < c.S) (ho : 0 ≤ o ∧ o < roomV c.A) : (M.stS (c.pl s o) v).f = upd M.f (c.pl s o).toNat v ∧ (M.stS (c.pl s o) v).n = M.n := by
  have hp := pl_bd hr hs ho
  exact st_f (by omega) (by omega)
end
section
variable {c : Cf} (hr : c.right = true) {M : Ms} {t : Int} {r : List Int} {x sl tp nx : Int} {em : Bool} (hn : M.n = c.size) (h : Stk c M.f t (x :: r))
include hr hn h
theorem pa0 : popS c ⟨sl, em, 0, tp, nx⟩ M = ⟨sl, em, 1, M.f 3, nx⟩ ∧ popM c ⟨sl, em, 0, tp, nx⟩ M = M.ldS 3 ∧ popD c ⟨sl, em, 0, tp, nx⟩ M = false := by
  have hx := h.lk.1
  have h1 := h.first hr
  have e3 : M.ldV 3 = M.f 3 := ld_v (by decide) (by have := size_bd hr; unfold Cf.size at hn; omega)
  have h2 : ¬ firstI c.S (M.f 3) < 0 := by rw [h1]; show ¬ x + 1 - 1 < 0; omega
  have hS : popS c ⟨sl, em, 0, tp, nx⟩ M = ⟨sl, em, 1, M.f 3, nx⟩ := by simp [popS, e3, h2]
  exact ⟨hS, by simp [popM], by unfold popD; rw [hS]; rfl⟩
theorem pa1 : popS c ⟨sl, em, 1, M.f 3, nx⟩ M = ⟨sl, em, 2, M.f 3, hd r - 1⟩ ∧ popM c ⟨sl, em, 1, M.f 3, nx⟩ M = M.ldS (c.link x) ∧ popD c ⟨sl, em, 1, M.f 3, nx⟩ M = false := by
  have hx := h.lk.1
  have h1 : firstI c.S (M.f 3) = x := by rw [h.first hr]; show x + 1 - 1 = x; omega
  have hl := link_lt hr hx.1 hx.2
  have e4 : M.ldV (c.link x) = hd r := by rw [ld_v (by omega) (by rw [hn]; exact hl.2)]; exact h.lk.2.1
  have hb := hd_bd h.lk.2.2
  have hSb := S_bd hr
  have e5 : linkedI c.S (hd r) = hd r - 1 := by unfold linkedI; rw [if_neg (by omega)]
  have hS : popS c ⟨sl, em, 1, M.f 3, nx⟩ M = ⟨sl, em, 2, M.f 3, hd r - 1⟩ := by simp [popS, h1, e4, e5]
  exact ⟨hS, by simp [popM, h1], by unfold popD; rw [hS]; rfl⟩
theorem pa2 (ht : t + 1 < 281474976710656) : popS c ⟨sl, em, 2, M.f 3, hd r - 1⟩ M = ⟨x, em, 3, M.f 3, hd r - 1⟩ ∧ Stk c (popM c ⟨sl, em, 2, M.f 3, hd r - 1⟩ M).f (t + 1) r ∧ (∀ j, j ≠ 3 → (popM c ⟨sl, em, 2, M.f 3, hd r - 1⟩ M).f j = M.f j) ∧ popD c ⟨sl, em, 2, M.f 3, hd r - 1⟩ M = true := by
  have hx := h.lk.1
  have hsz := size_bd hr
  have hn9 : (9 : Int) ≤ M.n := by unfold Cf.size at hn; omega
  have h1 : firstI c.S (M.f 3) = x := by rw [h.first hr]; show x + 1 - 1 = x; omega
  obtain ⟨s1, s2, s3⟩ := sw_yes (M := M) (a := 3) (old := M.f 3) (now := movedV (M.f 3) (hd r - 1)) (by decide) (by omega) rfl
  have hS : popS c ⟨sl, em, 2, M.f 3, hd r - 1⟩ M = ⟨x, em, 3, M.f 3, hd r - 1⟩ := by simp [popS, h1, s1]
  have hM : (popM c ⟨sl, em, 2, M.f 3, hd r - 1⟩ M).f = upd M.f 3 (movedV (M.f 3) (hd r - 1)) := by rw [show popM c ⟨sl, em, 2, M.f 3, hd r - 1⟩ M = M.swS 3 (M.f 3) (movedV (M.f 3) (hd r - 1)) by simp [popM]]; exact s2
  refine ⟨hS, ?_, fun j hj => ?_, by unfold popD; rw [hS]; rfl⟩
  · rw [hM]; exact h.take hr ht
  · rw [hM]; exact upd_ne hj
end
def Stg (c : Cf) (n : Nat) (f : Nat → Int) (t x : Int) (r : List Int) (i : Nat) (a : Mk) : Prop :=
  a.fu = false ∧ (
    (i = 0 ∧ a.nx = 0 ∧ a.ix = 0 ∧ a.pop = ⟨-1, false, 0, 0, 0⟩ ∧ Stk c f t (x :: r)) ∨
    (i = 1 ∧ a.nx = 0 ∧ a.ix = 0 ∧ a.pop = ⟨-1, false, 1, f 3, 0⟩ ∧ Stk c f t (x :: r)) ∨
    (i = 2 ∧ a.nx = 0 ∧ a.ix = 0 ∧ a.pop = ⟨-1, false, 2, f 3, hd r - 1⟩ ∧ Stk c f t (x :: r)) ∨
    (i = 3 ∧ a.nx = 1 ∧ a.ix = 0 ∧ a.pop.sl = x ∧ Stk c f (t + 1) r) ∨
    (∃ j : Nat, i = 4 + j ∧ j < n ∧ a.nx = 2 ∧ a.ix = j ∧ a.pop.sl = x ∧ Stk c f (t + 1) r) ∨
    (i = 4 + n ∧ a.nx = 3 ∧ a.pop.sl = x ∧ Stk c f (t + 1) r) ∨
    (i = 5 + n ∧ a.nx = 5 ∧ a.sl = x ∧ Stk c f (t + 1) r))
theorem mkStep {c : Cf} (hr : c.right = true) {n : Nat} (hnr : (n : Int) = roomV c.A - 2) {g : Nat → Int} {M : Ms} (hn : M.n = c.size) {t x : Int} {r : List Int} (hx : 0 ≤ x ∧ x < c.S) (ht : t + 1 < 281474976710656) {i : Nat} (hi : i < 5 + n) {a : Mk} (h : Stg c n M.f t x r i a) :
    Stg c n (mkM c g a M).f t x r (i + 1) (mkS c n a M) ∧ mkD c n a M = (i + 1 == 5 + n) := by
  have hb := room_bd hr
  obtain ⟨sl, fu, kd, ar, ep, gn, ix, nx, pop⟩ := a
  obtain ⟨h0, h⟩ := h
  obtain rfl : fu = false := h0
  rcases h with ⟨rfl, h1, h2, h3, h4⟩ | ⟨rfl, h1, h2, h3, h4⟩ | ⟨rfl, h1, h2, h3, h4⟩ | ⟨rfl, h1, h2, h3, h4⟩ | ⟨j, rfl, hj, h1, h2, h3, h4⟩ | ⟨rfl, h1, h3, h4⟩ | ⟨rfl, h1, h3, h4⟩
  · obtain rfl : nx = 0 := h1
    obtain rfl : pop = ⟨-1, false, 0, 0, 0⟩ := h3
    obtain ⟨p1, p2, p3⟩ := pa0 (sl := -1) (em := false) (tp := 0) (nx := 0) hr hn h4
    have ef : (M.ldS 3).f = M.f := (ld_f M 3).1
    have hS : mkS c n ⟨sl, false, kd, ar, ep, gn, ix, 0, ⟨-1, false, 0, 0, 0⟩⟩ M = ⟨sl, false, kd, ar, ep, gn, ix, 0, ⟨-1, false, 1, M.f 3, 0⟩⟩ := by simp [mkS, p1, p3]
    have hM : mkM c g ⟨sl, false, kd, ar, ep, gn, ix, 0, ⟨-1, false, 0, 0, 0⟩⟩ M = M.ldS 3 := by simp [mkM, p2]
    refine ⟨?_, ?_⟩
    · rw [hS, hM, ef]; exact ⟨rfl, .inr (.inl ⟨rfl, rfl, h2, rfl, h4⟩)⟩
    · unfold mkD; rw [hS]; show ((0 : Int) == 5) = _; rw [beq_eq_false_iff_ne.2 (show 0 + 1 ≠ 5 + n by omega)]; rfl
  · obtain rfl : nx = 0 := h1
    obtain rfl : pop = ⟨-1, false, 1, M.f 3, 0⟩ := h3
    obtain ⟨p1, p2, p3⟩ := pa1 (sl := -1) (em := false) (nx := 0) hr hn h4
    have ef : (M.ldS (c.link x)).f = M.f := (ld_f M _).1
    have hS : mkS c n ⟨sl, false, kd, ar, ep, gn, ix, 0, ⟨-1, false, 1, M.f 3, 0⟩⟩ M = ⟨sl, false, kd, ar, ep, gn, ix, 0, ⟨-1, false, 2, M.f 3, hd r - 1⟩⟩ := by simp [mkS, p1, p3]
    have hM : mkM c g ⟨sl, false, kd, ar, ep, gn, ix, 0, ⟨-1, false, 1, M.f 3, 0⟩⟩ M = M.ldS (c.link x) := by simp [mkM, p2]
    refine ⟨?_, ?_⟩
    · rw [hS, hM, ef]; exact ⟨rfl, .inr (.inr (.inl ⟨rfl, rfl, h2, rfl, h4⟩))⟩
    · unfold mkD; rw [hS]; show ((0 : Int) == 5) = _; rw [beq_eq_false_iff_ne.2 (show 1 + 1 ≠ 5 + n by omega)]; rfl
  · obtain rfl : nx = 0 := h1
    obtain rfl : pop = ⟨-1, false, 2, M.f 3, hd r - 1⟩ := h3
    obtain ⟨p1, p2, _, p3⟩ := pa2 (sl := -1) (em := false) hr hn h4 ht
    have hS : mkS c n ⟨sl, false, kd, ar, ep, gn, ix, 0, ⟨-1, false, 2, M.f 3, hd r - 1⟩⟩ M = ⟨sl, false, kd, ar, ep, gn, ix, 1, ⟨x, false, 3, M.f 3, hd r - 1⟩⟩ := by simp [mkS, p1, p3]
    have hM : mkM c g ⟨sl, false, kd, ar, ep, gn, ix, 0, ⟨-1, false, 2, M.f 3, hd r - 1⟩⟩ M = popM c ⟨-1, false, 2, M.f 3, hd r - 1⟩ M := by simp [mkM]
    refine ⟨?_, ?_⟩
    · rw [hS, hM]; exact ⟨rfl, .inr (.inr (.inr (.inl ⟨rfl, rfl, h2, rfl, p2⟩)))⟩
    · unfold mkD; rw [hS]; show ((1 : Int) == 5) = _; rw [beq_eq_false_iff_ne.2 (show 2 + 1 ≠ 5 + n by omega)]; rfl
  · obtain rfl : nx = 1 := h1
    have ef : (M.ldS (c.header pop.sl)).f = M.f := (ld_f M _).1
    have hM : mkM c g ⟨sl, false, kd, ar, ep, gn, ix, 1, pop⟩ M = M.ldS (c.header pop.sl) := by simp [mkM]
    refine ⟨?_, ?_⟩
    · rw [hM, ef]; exact ⟨by simp [mkS], .inr (.inr (.inr (.inr (.inl ⟨0, rfl, by omega, by simp [mkS], by simpa [mkS] using h2, by simpa [mkS] using h3, h4⟩))))⟩
    · have : mkD c n ⟨sl, false, kd, ar, ep, gn, ix, 1, pop⟩ M = false := by simp [mkD, mkS]
      rw [this, beq_eq_false_iff_ne.2 (show 3 + 1 ≠ 5 + n by omega)]
  · obtain rfl : nx = 2 := h1
    obtain rfl : ix = (j : Int) := h2
    obtain rfl : pop.sl = x := h3
    have hM : mkM c g ⟨sl, false, kd, ar, ep, gn, j, 2, pop⟩ M = M.stS (c.pl pop.sl (2 + j)) (g j) := by simp [mkM, body_pl hr hx (i := (j : Int)) ⟨by omega, by omega⟩]
    have hs := (st_pl hr hn hx (o := 2 + (j : Int)) (v := g j) ⟨by omega, by omega⟩).1
    have hk := Stk.off hr h4 (v := g j) hx (o := 2 + (j : Int)) ⟨by omega, by omega⟩ (by omega)
    rw [← hs, ← hM] at hk
    by_cases e : j + 1 = n
    · have hS : mkS c n ⟨sl, false, kd, ar, ep, gn, j, 2, pop⟩ M = ⟨sl, false, kd, ar, ep, gn, (j : Int) + 1, 3, pop⟩ := by simp [mkS, show (j : Int) + 1 = (n : Int) by omega]
      refine ⟨?_, ?_⟩
      · rw [hS]; exact ⟨rfl, .inr (.inr (.inr (.inr (.inr (.inl ⟨by omega, rfl, rfl, hk⟩)))))⟩
      · unfold mkD; rw [hS]; show ((3 : Int) == 5) = _; rw [beq_eq_false_iff_ne.2 (show 4 + j + 1 ≠ 5 + n by omega)]; rfl
    · have hS : mkS c n ⟨sl, false, kd, ar, ep, gn, j, 2, pop⟩ M = ⟨sl, false, kd, ar, ep, gn, (j : Int) + 1, 2, pop⟩ := by simp [mkS, show ¬ (j : Int) + 1 = (n : Int) by omega]
      refine ⟨?_, ?_⟩
      · rw [hS]; exact ⟨rfl, .inr (.inr (.inr (.inr (.inl ⟨j + 1, by omega, by omega, rfl, by show (j : Int) + 1 = ((j + 1 : Nat) : Int); omega, rfl, hk⟩))))⟩
      · unfold mkD; rw [hS]; show ((2 : Int) == 5) = _; rw [beq_eq_false_iff_ne.2 (show 4 + j + 1 ≠ 5 + n by omega)]; rfl
  · obtain rfl : nx = 3 := h1
    obtain rfl : pop.sl = x := h3
    have hM : mkM c g ⟨sl, false, kd, ar, ep, gn, ix, 3, pop⟩ M = M.stS (c.pl pop.sl 0) (madeV kd ar gn ep).1 := by simp [mkM, header_pl hr hx]
    have hs := (st_pl hr hn hx (o := 0) (v := (madeV kd ar gn ep).1) ⟨by omega, by omega⟩).1
    have hk := Stk.off hr h4 (v := (madeV kd ar gn ep).1) hx (o := 0) ⟨by omega, by omega⟩ (by omega)
    rw [← hs, ← hM] at hk
    have hS : mkS c n ⟨sl, false, kd, ar, ep, gn, ix, 3, pop⟩ M = ⟨pop.sl, false, kd, ar, ep, gn, ix, 5, pop⟩ := by simp [mkS]
    refine ⟨?_, ?_⟩
    · rw [hS]; exact ⟨rfl, .inr (.inr (.inr (.inr (.inr (.inr ⟨by omega, rfl, rfl, hk⟩)))))⟩
    · unfold mkD; rw [hS]; show ((5 : Int) == 5) = _; rw [show (4 + n + 1 == 5 + n) = true from by simp; omega]; rfl
  · omega
end Go.Proofs.Ytijfkpoofpcacaa.ArenaL
end
section
set_option linter.unusedVariables false
set_option linter.unusedSectionVars false
namespace Go.Proofs.Ytijfkpoofpcacaa.ArenaR
open Go.RowKit Go.Proofs.Ytijfkpoofpcacaa.Blk Go.Proofs.Ytijfkpoofpcacaa.Core Go.Proofs.Ytijfkpoofpcacaa.MemC Go.Proofs.Ytijfkpoofpcacaa.MemT Go.Proofs.Ytijfkpoofpcacaa.Memory Go.Proofs.Ytijfkpoofpcacaa.PlanC Go.Proofs.Ytijfkpoofpcacaa.PlanD Go.Proofs.Ytijfkpoofpcacaa.StackC Go.Proofs.Ytijfkpoofpcacaa.StackL Go.Proofs.Ytijfkpoofpcacaa.StackS Go.Proofs.Ytijfkpoofpcacaa.StackF Go.Proofs.Ytijfkpoofpcacaa.StackP Go.Proofs.Ytijfkpoofpcacaa.StackQ Go.Proofs.Ytijfkpoofpcacaa.TakerL Go.Proofs.Ytijfkpoofpcacaa.HeadC Go.Proofs.Ytijfkpoofpcacaa.ArenaL
theorem headN_bd {k m : Int} {g : Bool} {a n s : Int} (h : 0 ≤ k ∧ k ≤ 4 ∧ 0 ≤ m ∧ m ≤ 1 ∧ 0 ≤ a ∧ a ≤ 15 ∧ 0 ≤ n ∧ n ≤ 4294967295 ∧ 0 ≤ s ∧ s ≤ 65535) : 0 ≤ headN k m g a n s ∧ headN k m g a n s < 18446744073709551616 := by
  unfold headN
  split <;> omega
theorem made_bd (k a n e : Int) : 0 ≤ (madeV k a n e).1 ∧ (madeV k a n e).1 < 18446744073709551616 := by
  unfold madeV
  split
  · unfold packV
    split
    · rename_i h
      unfold headB at h
      exact headN_bd (of_decide_eq_true h)
    · exact ⟨Int.le_refl 0, by show (0 : Int) < _; decide⟩
  · exact ⟨Int.le_refl 0, by show (0 : Int) < _; decide⟩
theorem freed_bd (x g : Int) (h0 : 0 ≤ x) (h1 : x < 18446744073709551616) : 0 ≤ (freedV x g).1 ∧ (freedV x g).1 < 18446744073709551616 := by
  have hu := u_bd x h0 h1
  unfold freedV
  split
  · show 0 ≤ (if g ≤ uN x + 1 ∨ uN x = 4294967295 then headN 4 (uM x) (uG x) (uA x) (uN x) (uS x) else headN 0 0 false 0 (uN x + 1) 0) ∧ (if g ≤ uN x + 1 ∨ uN x = 4294967295 then headN 4 (uM x) (uG x) (uA x) (uN x) (uS x) else headN 0 0 false 0 (uN x + 1) 0) < _
    split
    · exact headN_bd (by omega)
    · exact headN_bd (by omega)
  · exact ⟨h0, h1⟩
theorem _root_.Go.Proofs.Ytijfkpoofpcacaa.ArenaL.MkOk.step {c : Cf} {n : Nat} {a : Mk} {M : Ms} (h : MkOk n a) (ok : Ok M) (hn : (n : Int) < 9223372036854775808) : MkOk n (mkS c n a M) := by
  obtain ⟨sl, fu, kd, ar, ep, gn, ix, nx, pop⟩ := a
  have hp : nx = 0 → PopOk pop := h.pop
  have hx : ((nx = 0 ∨ nx = 1 ∨ nx = 2) ∧ 0 ≤ ix ∧ ix < n) ∨ nx = 3 ∨ nx = 5 := h.nx
  have he : 0 ≤ ep ∧ ep < 18446744073709551616 := h.ep
  have ha : ar < 9223372036854775808 := h.ar
  have hg : gn < 9223372036854775808 := h.gn
  rcases hx with ⟨rfl | rfl | rfl, i0, i1⟩ | rfl | rfl
  · have hps := (hp rfl).step (c := c) ok
    cases hd : popD c pop M with
    | false =>
      have hS : mkS c n ⟨sl, fu, kd, ar, ep, gn, ix, 0, pop⟩ M = ⟨sl, fu, kd, ar, ep, gn, ix, 0, popS c pop M⟩ := by simp [mkS, hd]
      rw [hS]; exact ⟨fun _ => hps, .inl ⟨.inl rfl, i0, i1⟩, he, ha, hg⟩
    | true =>
      cases hm : (popS c pop M).em with
      | false =>
        have hS : mkS c n ⟨sl, fu, kd, ar, ep, gn, ix, 0, pop⟩ M = ⟨sl, fu, kd, ar, ep, gn, ix, 1, popS c pop M⟩ := by simp [mkS, hd, hm]
        rw [hS]; exact ⟨fun _ => hps, .inl ⟨.inr (.inl rfl), i0, i1⟩, he, ha, hg⟩
      | true =>
        have hS : mkS c n ⟨sl, fu, kd, ar, ep, gn, ix, 0, pop⟩ M = ⟨sl, true, kd, ar, ep, gn, ix, 5, popS c pop M⟩ := by simp [mkS, hd, hm]
        rw [hS]; exact ⟨fun _ => hps, .inr (.inr rfl), he, ha, hg⟩
  · have hS : mkS c n ⟨sl, fu, kd, ar, ep, gn, ix, 1, pop⟩ M = ⟨sl, fu, kd, ar, ep, uN (M.ldV (c.header pop.sl)), ix, 2, pop⟩ := by simp [mkS]
    obtain ⟨x0, x1⟩ := ldV_bd ok (c.header pop.sl)
    have hu := u_bd _ x0 x1
    rw [hS]; exact ⟨fun k => absurd (show (2 : Int) = 0 from k) (by decide), .inl ⟨.inr (.inr rfl), i0, i1⟩, he, ha, by show uN _ < _; omega⟩
  · by_cases e : ix + 1 = (n : Int)
    · have hS : mkS c n ⟨sl, fu, kd, ar, ep, gn, ix, 2, pop⟩ M = ⟨sl, fu, kd, ar, ep, gn, ix + 1, 3, pop⟩ := by simp [mkS, e]
      rw [hS]; exact ⟨fun k => absurd (show (3 : Int) = 0 from k) (by decide), .inr (.inl rfl), he, ha, hg⟩
    · have hS : mkS c n ⟨sl, fu, kd, ar, ep, gn, ix, 2, pop⟩ M = ⟨sl, fu, kd, ar, ep, gn, ix + 1, 2, pop⟩ := by simp [mkS, e]
      rw [hS]; exact ⟨fun k => absurd (show (2 : Int) = 0 from k) (by decide), .inl ⟨.inr (.inr rfl), by show 0 ≤ ix + 1; omega, by show ix + 1 < n; omega⟩, he, ha, hg⟩
  · have hS : mkS c n ⟨sl, fu, kd, ar, ep, gn, ix, 3, pop⟩ M = ⟨pop.sl, fu, kd, ar, ep, gn, ix, 5, pop⟩ := by simp [mkS]
    rw [hS]; exact ⟨fun k => absurd (show (5 : Int) = 0 from k) (by decide), .inr (.inr rfl), he, ha, hg⟩
  · have hS : mkS c n ⟨sl, fu, kd, ar, ep, gn, ix, 5, pop⟩ M = ⟨sl, fu, kd, ar, ep, gn, ix, 5, pop⟩ := by simp [mkS]
    rw [hS]; exact h
theorem fine_mk {c : Cf} {n N T : Nat} {g : Nat → Int} {a : Mk} {M : Ms} (h : Fine M N T) (ho : MkOk n a) (hg : U g) : Fine (mkM c g a M) N (T + 1) := by
  unfold mkM
  split
  · exact fine_pop h (ho.pop ‹_›).t0
  · split
    · exact h.ld _
    · split
      · exact h.st _ (hg _).1 (hg _).2
      · split
        · have := made_bd a.kd a.ar a.gn a.ep
          exact h.st _ this.1 this.2
        · exact h.mono (Nat.le_succ _)
theorem _root_.Go.Proofs.Ytijfkpoofpcacaa.ArenaL.FreOk.step {c : Cf} {a : Fre} {M : Ms} (h : FreOk c a) (ok : Ok M) : FreOk c (frS c a M) := by
  obtain ⟨bk, gn, sl, nw, nx, pu⟩ := a
  have hs : 0 ≤ sl ∧ sl < c.S := h.sl
  have hw : 0 ≤ nw ∧ nw < 18446744073709551616 := h.nw
  have hx : nx = 1 ∨ nx = 3 ∨ (nx = 4 ∧ ∃ Q, pu = some Q ∧ PushOk Q) ∨ nx = 5 := h.nx
  have p0 : PushOk ⟨sl, 0, 0⟩ := ⟨Int.le_refl 0, by show (0 : Int) < _; decide, .inl rfl⟩
  rcases hx with rfl | rfl | ⟨rfl, Q, rfl, oQ⟩ | rfl
  · obtain ⟨x0, x1⟩ := ldV_bd ok (c.header sl)
    have hf := freed_bd _ c.G x0 x1
    cases hv : (freedV (M.ldV (c.header sl)) c.G).2 with
    | true =>
      have hS : frS c ⟨bk, gn, sl, nw, 1, pu⟩ M = ⟨bk, gn, sl, (freedV (M.ldV (c.header sl)) c.G).1, 3, pu⟩ := by simp [frS, hv]
      rw [hS]; exact ⟨hs, hf, .inr (.inl rfl)⟩
    | false =>
      have hS : frS c ⟨bk, gn, sl, nw, 1, pu⟩ M = ⟨bk, gn, sl, (freedV (M.ldV (c.header sl)) c.G).1, 5, pu⟩ := by simp [frS, hv]
      rw [hS]; exact ⟨hs, hf, .inr (.inr (.inr rfl))⟩
  · by_cases hk : uK nw = 4
    · have hS : frS c ⟨bk, gn, sl, nw, 3, pu⟩ M = ⟨bk, true, sl, nw, 5, some ⟨sl, 0, 0⟩⟩ := by simp [frS, hk]
      rw [hS]; exact ⟨hs, hw, .inr (.inr (.inr rfl))⟩
    · have hS : frS c ⟨bk, gn, sl, nw, 3, pu⟩ M = ⟨bk, gn, sl, nw, 4, some ⟨sl, 0, 0⟩⟩ := by simp [frS, hk]
      rw [hS]; exact ⟨hs, hw, .inr (.inr (.inl ⟨rfl, _, rfl, p0⟩))⟩
  · cases hd : pushD c Q M with
    | true =>
      have hS : frS c ⟨bk, gn, sl, nw, 4, some Q⟩ M = ⟨true, gn, sl, nw, 5, some (pushS c Q M)⟩ := by simp [frS, hd]
      rw [hS]; exact ⟨hs, hw, .inr (.inr (.inr rfl))⟩
    | false =>
      have hS : frS c ⟨bk, gn, sl, nw, 4, some Q⟩ M = ⟨bk, gn, sl, nw, 4, some (pushS c Q M)⟩ := by simp [frS, hd]
      rw [hS]; exact ⟨hs, hw, .inr (.inr (.inl ⟨rfl, _, rfl, oQ.step ok⟩))⟩
  · have hS : frS c ⟨bk, gn, sl, nw, 5, pu⟩ M = ⟨bk, gn, sl, nw, 5, pu⟩ := by simp [frS]
    rw [hS]; exact h
theorem fine_fr {c : Cf} {N T : Nat} {a : Fre} {M : Ms} (h : Fine M N T) (ho : FreOk c a) : Fine (frM c a M) N (T + 1) := by
  obtain ⟨bk, gn, sl, nw, nx, pu⟩ := a
  have hw : 0 ≤ nw ∧ nw < 18446744073709551616 := ho.nw
  have hx : nx = 1 ∨ nx = 3 ∨ (nx = 4 ∧ ∃ Q, pu = some Q ∧ PushOk Q) ∨ nx = 5 := ho.nx
  rcases hx with rfl | rfl | ⟨rfl, Q, rfl, oQ⟩ | rfl
  · rw [show frM c ⟨bk, gn, sl, nw, 1, pu⟩ M = M.ldS (c.header sl) by simp [frM]]; exact h.ld _
  · rw [show frM c ⟨bk, gn, sl, nw, 3, pu⟩ M = M.stS (c.header sl) nw by simp [frM]]; exact h.st _ hw.1 hw.2
  · rw [show frM c ⟨bk, gn, sl, nw, 4, some Q⟩ M = pushM c Q M by simp [frM]]; exact fine_push h oQ.t0
  · rw [show frM c ⟨bk, gn, sl, nw, 5, pu⟩ M = M by simp [frM]]; exact h.mono (Nat.le_succ _)
section
variable {c : Cf} (hr : c.right = true) {M : Ms} {t : Int} {L : List Int} {x tp : Int} (hn : M.n = c.size) (h : Stk c M.f t L)
include hr hn h
theorem pb0 : pushS c ⟨x, 0, tp⟩ M = ⟨x, 1, M.f 3⟩ ∧ pushM c ⟨x, 0, tp⟩ M = M.ldS 3 ∧ pushD c ⟨x, 0, tp⟩ M = false := by
  have e3 : M.ldV 3 = M.f 3 := ld_v (by decide) (by have := size_bd hr; unfold Cf.size at hn; omega)
  have hS : pushS c ⟨x, 0, tp⟩ M = ⟨x, 1, M.f 3⟩ := by simp [pushS, e3]
  exact ⟨hS, by simp [pushM], by unfold pushD; rw [hS]; rfl⟩
theorem pb1 (hx : 0 ≤ x ∧ x < c.S) (hnm : x ∉ L) : pushS c ⟨x, 1, M.f 3⟩ M = ⟨x, 2, M.f 3⟩ ∧ pushD c ⟨x, 1, M.f 3⟩ M = false ∧ (pushM c ⟨x, 1, M.f 3⟩ M).f = upd M.f (c.pl x 1).toNat (hd L) ∧ Stk c (pushM c ⟨x, 1, M.f 3⟩ M).f t L ∧ (pushM c ⟨x, 1, M.f 3⟩ M).f 3 = M.f 3 := by
  have hb := room_bd hr
  have hl := pl_bd hr hx (o := 1) ⟨by decide, by omega⟩
  have h1 := h.first hr
  have hS : pushS c ⟨x, 1, M.f 3⟩ M = ⟨x, 2, M.f 3⟩ := by simp [pushS]
  have e1 : firstI c.S (M.f 3) + 1 = hd L := by rw [h1]; omega
  have hM : (pushM c ⟨x, 1, M.f 3⟩ M).f = upd M.f (c.pl x 1).toNat (hd L) := by
    rw [show pushM c ⟨x, 1, M.f 3⟩ M = M.stS (c.pl x 1) (hd L) by simp [pushM, link_pl hr hx, e1]]
    exact (st_pl hr hn hx ⟨by decide, by omega⟩).1
  refine ⟨hS, by unfold pushD; rw [hS]; rfl, hM, ?_, ?_⟩
  · rw [hM, ← link_pl hr hx]; exact h.store hr hx hnm _
  · rw [hM, upd_ne (by omega)]
theorem pb2 (ht : t + 1 < 281474976710656) (hx : 0 ≤ x ∧ x < c.S) (hnm : x ∉ L) (hl : M.f (c.link x).toNat = hd L) : pushS c ⟨x, 2, M.f 3⟩ M = ⟨x, 3, M.f 3⟩ ∧ pushD c ⟨x, 2, M.f 3⟩ M = true ∧ Stk c (pushM c ⟨x, 2, M.f 3⟩ M).f (t + 1) (x :: L) ∧ (∀ j, j ≠ 3 → (pushM c ⟨x, 2, M.f 3⟩ M).f j = M.f j) := by
  have hsz := size_bd hr
  have hn9 : (9 : Int) ≤ M.n := by unfold Cf.size at hn; omega
  obtain ⟨s1, s2, s3⟩ := sw_yes (M := M) (a := 3) (old := M.f 3) (now := movedV (M.f 3) x) (by decide) (by omega) rfl
  have hS : pushS c ⟨x, 2, M.f 3⟩ M = ⟨x, 3, M.f 3⟩ := by simp [pushS, s1]
  have hM : (pushM c ⟨x, 2, M.f 3⟩ M).f = upd M.f 3 (movedV (M.f 3) x) := by rw [show pushM c ⟨x, 2, M.f 3⟩ M = M.swS 3 (M.f 3) (movedV (M.f 3) x) by simp [pushM]]; exact s2
  refine ⟨hS, by unfold pushD; rw [hS]; rfl, ?_, fun j hj => ?_⟩
  · rw [hM]; exact h.lay hr ht hx hnm hl
  · rw [hM]; exact upd_ne hj
end
def FrI (c : Cf) (f : Nat → Int) (t : Int) (L : List Int) (s x : Int) (i : Nat) (a : Fre) : Prop :=
  a.sl = s ∧ a.bk = false ∧ a.gn = false ∧ Stk c f t L ∧ (
    (i = 0 ∧ a.nx = 1 ∧ f (c.pl s 0).toNat = x) ∨
    ((freedV x c.G).2 = true ∧ a.nw = (freedV x c.G).1 ∧ (
      (i = 1 ∧ a.nx = 3 ∧ f (c.pl s 0).toNat = x) ∨
      (uK (freedV x c.G).1 ≠ 4 ∧ a.nx = 4 ∧ f (c.pl s 0).toNat = (freedV x c.G).1 ∧ (
        (i = 2 ∧ a.pu = some ⟨s, 0, 0⟩) ∨ (i = 3 ∧ a.pu = some ⟨s, 1, f 3⟩) ∨ (i = 4 ∧ a.pu = some ⟨s, 2, f 3⟩ ∧ f (c.link s).toNat = hd L))))))
def FrE (c : Cf) (f : Nat → Int) (t : Int) (L : List Int) (s x : Int) (a : Fre) : Prop :=
  a.nx = 5 ∧ a.sl = s ∧ (
    ((freedV x c.G).2 = false ∧ a.bk = false ∧ a.gn = false ∧ f (c.pl s 0).toNat = x ∧ Stk c f t L) ∨
    ((freedV x c.G).2 = true ∧ f (c.pl s 0).toNat = (freedV x c.G).1 ∧ (
      (uK (freedV x c.G).1 = 4 ∧ a.bk = false ∧ a.gn = true ∧ Stk c f t L) ∨
      (uK (freedV x c.G).1 ≠ 4 ∧ a.bk = true ∧ a.gn = false ∧ Stk c f (t + 1) (s :: L)))))
theorem frStep {c : Cf} (hr : c.right = true) {M : Ms} (hn : M.n = c.size) {t s x : Int} {L : List Int} (hs : 0 ≤ s ∧ s < c.S) (hnm : s ∉ L) (ht : t + 1 < 281474976710656) {i : Nat} {a : Fre} (h : FrI c M.f t L s x i a) :
    (frD c a M = false ∧ FrI c (frM c a M).f t L s x (i + 1) (frS c a M) ∧ i < 4) ∨ (frD c a M = true ∧ FrE c (frM c a M).f t L s x (frS c a M)) := by
  have hb := room_bd hr
  have h00 : (0 : Int) ≤ 0 ∧ (0 : Int) < roomV c.A := ⟨by decide, by omega⟩
  have hp0 := pl_bd hr hs h00
  obtain ⟨bk, gn, sl, nw, nx, pu⟩ := a
  obtain ⟨h1, h2, h3, h4, h5⟩ := h
  obtain rfl : sl = s := h1
  obtain rfl : bk = false := h2
  obtain rfl : gn = false := h3
  have e0 : c.header sl = c.pl sl 0 := header_pl hr hs
  rcases h5 with ⟨rfl, h5, h6⟩ | ⟨hv, h5, ⟨rfl, h6, h7⟩ | ⟨hk, h6, h7, h8⟩⟩
  · obtain rfl : nx = 1 := h5
    have el : M.ldV (c.header sl) = x := by rw [e0, ld_pl hr hn hs h00]; exact h6
    have hM : (frM c ⟨false, false, sl, nw, 1, pu⟩ M).f = M.f := by rw [show frM c ⟨false, false, sl, nw, 1, pu⟩ M = M.ldS (c.header sl) by simp [frM]]; exact (ld_f M _).1
    cases hv : (freedV x c.G).2 with
    | true =>
      have hS : frS c ⟨false, false, sl, nw, 1, pu⟩ M = ⟨false, false, sl, (freedV x c.G).1, 3, pu⟩ := by simp [frS, el, hv]
      refine .inl ⟨by unfold frD; rw [hS]; rfl, ?_, by decide⟩
      rw [hS, hM]; exact ⟨rfl, rfl, rfl, h4, .inr ⟨hv, rfl, .inl ⟨rfl, rfl, h6⟩⟩⟩
    | false =>
      have hS : frS c ⟨false, false, sl, nw, 1, pu⟩ M = ⟨false, false, sl, (freedV x c.G).1, 5, pu⟩ := by simp [frS, el, hv]
      refine .inr ⟨by unfold frD; rw [hS]; rfl, ?_⟩
      rw [hS, hM]; exact ⟨rfl, rfl, .inl ⟨hv, rfl, rfl, h6, h4⟩⟩
  · obtain rfl : nx = 3 := h6
    obtain rfl : nw = (freedV x c.G).1 := h5
    have hM : (frM c ⟨false, false, sl, (freedV x c.G).1, 3, pu⟩ M).f = upd M.f (c.pl sl 0).toNat (freedV x c.G).1 := by
      rw [show frM c ⟨false, false, sl, (freedV x c.G).1, 3, pu⟩ M = M.stS (c.pl sl 0) (freedV x c.G).1 by simp [frM, e0]]
      exact (st_pl hr hn hs h00).1
    have hk4 := Stk.off hr h4 (v := (freedV x c.G).1) hs h00 (by decide)
    by_cases hk : uK (freedV x c.G).1 = 4
    · have hS : frS c ⟨false, false, sl, (freedV x c.G).1, 3, pu⟩ M = ⟨false, true, sl, (freedV x c.G).1, 5, some ⟨sl, 0, 0⟩⟩ := by simp [frS, hk]
      refine .inr ⟨by unfold frD; rw [hS]; rfl, ?_⟩
      rw [hS, hM]; exact ⟨rfl, rfl, .inr ⟨hv, upd_eq, .inl ⟨hk, rfl, rfl, hk4⟩⟩⟩
    · have hS : frS c ⟨false, false, sl, (freedV x c.G).1, 3, pu⟩ M = ⟨false, false, sl, (freedV x c.G).1, 4, some ⟨sl, 0, 0⟩⟩ := by simp [frS, hk]
      refine .inl ⟨by unfold frD; rw [hS]; rfl, ?_, by decide⟩
      rw [hS, hM]; exact ⟨rfl, rfl, rfl, hk4, .inr ⟨hv, rfl, .inr ⟨hk, rfl, upd_eq, .inl ⟨rfl, rfl⟩⟩⟩⟩
  · obtain rfl : nx = 4 := h6
    obtain rfl : nw = (freedV x c.G).1 := h5
    rcases h8 with ⟨rfl, h8⟩ | ⟨rfl, h8⟩ | ⟨rfl, h8, h9⟩
    · obtain rfl : pu = some ⟨sl, 0, 0⟩ := h8
      obtain ⟨p1, p2, p3⟩ := pb0 (x := sl) (tp := 0) hr hn h4
      have hS : frS c ⟨false, false, sl, (freedV x c.G).1, 4, some ⟨sl, 0, 0⟩⟩ M = ⟨false, false, sl, (freedV x c.G).1, 4, some ⟨sl, 1, M.f 3⟩⟩ := by simp [frS, p1, p3]
      have hM : (frM c ⟨false, false, sl, (freedV x c.G).1, 4, some ⟨sl, 0, 0⟩⟩ M).f = M.f := by rw [show frM c ⟨false, false, sl, (freedV x c.G).1, 4, some ⟨sl, 0, 0⟩⟩ M = M.ldS 3 by simp [frM, p2]]; exact (ld_f M _).1
      refine .inl ⟨by unfold frD; rw [hS]; rfl, ?_, by decide⟩
      rw [hS, hM]; exact ⟨rfl, rfl, rfl, h4, .inr ⟨hv, rfl, .inr ⟨hk, rfl, h7, .inr (.inl ⟨rfl, rfl⟩)⟩⟩⟩
    · obtain rfl : pu = some ⟨sl, 1, M.f 3⟩ := h8
      obtain ⟨p1, p3, p2, p4, p5⟩ := pb1 hr hn h4 hs hnm
      have hS : frS c ⟨false, false, sl, (freedV x c.G).1, 4, some ⟨sl, 1, M.f 3⟩⟩ M = ⟨false, false, sl, (freedV x c.G).1, 4, some ⟨sl, 2, M.f 3⟩⟩ := by simp [frS, p1, p3]
      have hM : frM c ⟨false, false, sl, (freedV x c.G).1, 4, some ⟨sl, 1, M.f 3⟩⟩ M = pushM c ⟨sl, 1, M.f 3⟩ M := by simp [frM]
      have hne := pl_ne hr hs hs h00 (j := 1) ⟨by decide, by omega⟩ (.inr (by decide))
      refine .inl ⟨by unfold frD; rw [hS]; rfl, ?_, by decide⟩
      rw [hS, hM]
      refine ⟨rfl, rfl, rfl, p4, .inr ⟨hv, rfl, .inr ⟨hk, rfl, ?_, .inr (.inr ⟨rfl, by rw [p5], ?_⟩)⟩⟩⟩
      · rw [p2, upd_ne hne]; exact h7
      · rw [link_pl hr hs, p2, upd_eq]
    · obtain rfl : pu = some ⟨sl, 2, M.f 3⟩ := h8
      obtain ⟨p1, p3, p4, p5⟩ := pb2 hr hn h4 ht hs hnm h9
      have hS : frS c ⟨false, false, sl, (freedV x c.G).1, 4, some ⟨sl, 2, M.f 3⟩⟩ M = ⟨true, false, sl, (freedV x c.G).1, 5, some ⟨sl, 3, M.f 3⟩⟩ := by simp [frS, p1, p3]
      have hM : frM c ⟨false, false, sl, (freedV x c.G).1, 4, some ⟨sl, 2, M.f 3⟩⟩ M = pushM c ⟨sl, 2, M.f 3⟩ M := by simp [frM]
      refine .inr ⟨by unfold frD; rw [hS]; rfl, ?_⟩
      rw [hS, hM]
      exact ⟨rfl, rfl, .inr ⟨hv, by rw [p5 _ (by omega)]; exact h7, .inr ⟨hk, rfl, rfl, p4⟩⟩⟩
end Go.Proofs.Ytijfkpoofpcacaa.ArenaR
end
section
set_option linter.unusedVariables false
set_option linter.unusedSectionVars false
namespace Go.Proofs.Ytijfkpoofpcacaa.ArenaQ
open Go.RowKit Go.Proofs.YtijfkpoofpcacaaW.PrintWords Go.Proofs.Ytijfkpoofpcacaa.Blk Go.Proofs.Ytijfkpoofpcacaa.Core Go.Proofs.Ytijfkpoofpcacaa.MemC Go.Proofs.Ytijfkpoofpcacaa.MemD Go.Proofs.Ytijfkpoofpcacaa.MemT Go.Proofs.Ytijfkpoofpcacaa.PlanC Go.Proofs.Ytijfkpoofpcacaa.PlanD Go.Proofs.Ytijfkpoofpcacaa.StackC Go.Proofs.Ytijfkpoofpcacaa.StackL Go.Proofs.Ytijfkpoofpcacaa.StackS Go.Proofs.Ytijfkpoofpcacaa.StackP Go.Proofs.Ytijfkpoofpcacaa.HeadC Go.Proofs.Ytijfkpoofpcacaa.ArenaC Go.Proofs.Ytijfkpoofpcacaa.ArenaM Go.Proofs.Ytijfkpoofpcacaa.ArenaN Go.Proofs.Ytijfkpoofpcacaa.ArenaP Go.Proofs.Ytijfkpoofpcacaa.ArenaL Go.Proofs.Ytijfkpoofpcacaa.ArenaR Go.Proofs.Ytijfkpoofpcacaa.Opens
structure MkB (w : World) (p q r : Nat) (c : Cf) (n : Nat) (g : Nat → Int) (a : Mk) : Prop where
  blk : Blk w p 82 (makeA c a.sl a.fu a.kd a.ar a.ep (.slice (some ⟨r, 0, none⟩) n n) (some ⟨q, 0, none⟩) a.gn a.ix a.nx)
  pop : PopB w q c a.pop
  row : RowB w (some ⟨r, 0, none⟩) n r n g
theorem MkB.below {w w' : World} {p q r n : Nat} {c : Cf} {g : Nat → Int} {a : Mk} (h : MkB w p q r c n g a) (hb : Below w.heap.size w w') : MkB w' p q r c n g a :=
  ⟨h.blk.below hb h.blk.lt, Blk.below h.pop hb (Blk.lt h.pop), h.row.below hb (Nat.le_refl _)⟩
theorem MkB.fr {S : Nat → Prop} {w w' : World} {p q r n : Nat} {c : Cf} {g : Nat → Int} {a : Mk} (h : MkB w p q r c n g a) (hf : Fr S w w') (hp : ¬ S p) (hq : ¬ S q) (hr : ¬ S r) : MkB w' p q r c n g a :=
  ⟨h.blk.fr hf hp, Blk.fr h.pop hf hq, h.row.fr hf hr⟩
theorem makeC (c : Cf) (w : World) (p q r m b n : Nat) (M : Ms) (g : Nat → Int) (a : Mk) (hc : c.right = true) (hM : MemB w m b M) (ok : Ok M) (np : ¬ two m b p) (nqm : ¬ two m b q) (nrm : ¬ two m b r) (nqp : q ≠ p) (nrp : r ≠ p) (nrq : r ≠ q) (hn : n ≤ 1000) (h : MkB w p q r c n g a) (ho : MkOk n a) :
    Calls Try.prog 52 #[.pointer (some ⟨p, 0, none⟩), .pointer (some ⟨m, 0, none⟩)] w fun e w' =>
    e = .returned (.bool (mkD c n a M)) ∧ MkB w' p q r c n g (mkS c n a M) ∧ MemB w' m b (mkM c g a M) ∧ Fr (four p q m b) w w' := by
  have hR : ∀ w', Fr (four p q m b) w w' → RowB w' (some ⟨r, 0, none⟩) n r n g := fun w' hf => h.row.fr hf (fun x => x.elim nrp (fun x => x.elim nrq nrm))
  obtain ⟨sl, fu, kd, ar, ep, gn, ix, nx, pop⟩ := a
  obtain ⟨h1, h2, h3⟩ := h
  have hx : ((nx = 0 ∨ nx = 1 ∨ nx = 2) ∧ 0 ≤ ix ∧ ix < n) ∨ nx = 3 ∨ nx = 5 := ho.nx
  rcases hx with ⟨rfl | rfl | rfl, i0, i1⟩ | rfl | rfl
  · have oQ : PopOk pop := ho.pop rfl
    cases hd : popD c pop M with
    | false =>
      refine (make_0b c w p m b M hc hM ok np sl fu kd ar ep _ q pop nqm nqp h2 oQ hd gn ix h1).mono ?_
      rintro e w' ⟨rfl, a1, a2, a3, a4⟩
      have hS : mkS c n ⟨sl, fu, kd, ar, ep, gn, ix, 0, pop⟩ M = ⟨sl, fu, kd, ar, ep, gn, ix, 0, popS c pop M⟩ := by simp [mkS, hd]
      have hM' : mkM c g ⟨sl, fu, kd, ar, ep, gn, ix, 0, pop⟩ M = popM c pop M := by simp [mkM]
      rw [hM']
      refine ⟨by unfold mkD; rw [hS]; rfl, ?_, a3, a4⟩
      rw [hS]; exact ⟨a2, a1, hR _ a4⟩
    | true =>
      cases he : (popS c pop M).em with
      | false =>
        refine (make_0n c w p m b M hc hM ok np sl fu kd ar ep _ q pop nqm nqp h2 oQ hd he gn ix h1).mono ?_
        rintro e w' ⟨rfl, a1, a2, a3, a4⟩
        have hS : mkS c n ⟨sl, fu, kd, ar, ep, gn, ix, 0, pop⟩ M = ⟨sl, fu, kd, ar, ep, gn, ix, 1, popS c pop M⟩ := by simp [mkS, hd, he]
        have hM' : mkM c g ⟨sl, fu, kd, ar, ep, gn, ix, 0, pop⟩ M = popM c pop M := by simp [mkM]
        rw [hM']
        refine ⟨by unfold mkD; rw [hS]; rfl, ?_, a3, a4⟩
        rw [hS]; exact ⟨a2, a1, hR _ a4⟩
      | true =>
        refine (make_0e c w p m b M hc hM ok np sl fu kd ar ep _ q pop nqm nqp h2 oQ hd he gn ix h1).mono ?_
        rintro e w' ⟨rfl, a1, a2, a3, a4⟩
        have hS : mkS c n ⟨sl, fu, kd, ar, ep, gn, ix, 0, pop⟩ M = ⟨sl, true, kd, ar, ep, gn, ix, 5, popS c pop M⟩ := by simp [mkS, hd, he]
        have hM' : mkM c g ⟨sl, fu, kd, ar, ep, gn, ix, 0, pop⟩ M = popM c pop M := by simp [mkM]
        rw [hM']
        refine ⟨by unfold mkD; rw [hS]; rfl, ?_, a3, a4⟩
        rw [hS]; exact ⟨a2, a1, hR _ a4⟩
  · refine (make_1 c w p m b M hM ok np sl fu kd ar ep _ q pop nqm nqp h2 gn ix h1).mono ?_
    rintro e w' ⟨rfl, a1, a2, a3, a4⟩
    have hS : mkS c n ⟨sl, fu, kd, ar, ep, gn, ix, 1, pop⟩ M = ⟨sl, fu, kd, ar, ep, uN (M.ldV (c.header pop.sl)), ix, 2, pop⟩ := by simp [mkS]
    have hM' : mkM c g ⟨sl, fu, kd, ar, ep, gn, ix, 1, pop⟩ M = M.ldS (c.header pop.sl) := by simp [mkM]
    rw [hM']
    refine ⟨by unfold mkD; rw [hS]; rfl, ?_, a3, a4⟩
    rw [hS]; exact ⟨a2, a1, hR _ a4⟩
  · obtain ⟨k, rfl⟩ := Int.eq_ofNat_of_zero_le i0
    have hk : k < n := by omega
    have hM' : mkM c g ⟨sl, fu, kd, ar, ep, gn, (k : Int), 2, pop⟩ M = M.stS (c.body pop.sl k) (g k) := by simp [mkM]
    rw [hM']
    by_cases e : k + 1 = n
    · refine (make_2e c w p m b M hM ok np sl fu kd ar ep q pop nqm nqp h2 gn r n n g h3 hn nrm nrp k hk (by simpa using (by omega : (k : Int) + 1 = (n : Int))) h1).mono ?_
      rintro e w' ⟨rfl, a1, a2, a3, a4, a5⟩
      have hS : mkS c n ⟨sl, fu, kd, ar, ep, gn, (k : Int), 2, pop⟩ M = ⟨sl, fu, kd, ar, ep, gn, (k : Int) + 1, 3, pop⟩ := by simp [mkS, show (k : Int) + 1 = (n : Int) by omega]
      refine ⟨by unfold mkD; rw [hS]; rfl, ?_, a3, a5⟩
      rw [hS]; exact ⟨a2, a1, a4⟩
    · have e' : ¬ (k : Int) + 1 = (n : Int) := by omega
      refine (make_2b c w p m b M hM ok np sl fu kd ar ep q pop nqm nqp h2 gn r n n g h3 hn nrm nrp k hk (by simpa using e') h1).mono ?_
      rintro e w' ⟨rfl, a1, a2, a3, a4, a5⟩
      have hS : mkS c n ⟨sl, fu, kd, ar, ep, gn, (k : Int), 2, pop⟩ M = ⟨sl, fu, kd, ar, ep, gn, (k : Int) + 1, 2, pop⟩ := by simp [mkS, e']
      refine ⟨by unfold mkD; rw [hS]; rfl, ?_, a3, a5⟩
      rw [hS]; exact ⟨a2, a1, a4⟩
  · refine (make_3 c w p m b M hM ok np sl fu kd ar ep q pop nqm nqp h2 _ gn ix ho.ep.1 ho.ep.2 ho.ar ho.gn h1).mono ?_
    rintro e w' ⟨rfl, a1, a2, a3, a4⟩
    have hS : mkS c n ⟨sl, fu, kd, ar, ep, gn, ix, 3, pop⟩ M = ⟨pop.sl, fu, kd, ar, ep, gn, ix, 5, pop⟩ := by simp [mkS]
    have hM' : mkM c g ⟨sl, fu, kd, ar, ep, gn, ix, 3, pop⟩ M = M.stS (c.header pop.sl) (madeV kd ar gn ep).1 := by simp [mkM]
    rw [hM']
    refine ⟨by unfold mkD; rw [hS]; rfl, ?_, a3, a4⟩
    rw [hS]; exact ⟨a2, a1, hR _ a4⟩
  · refine (make_5 c w p m sl fu kd ar ep _ q pop h2 gn ix h1).mono ?_
    rintro e w' ⟨rfl, rfl⟩
    have hS : mkS c n ⟨sl, fu, kd, ar, ep, gn, ix, 5, pop⟩ M = ⟨sl, fu, kd, ar, ep, gn, ix, 5, pop⟩ := by simp [mkS]
    have hM' : mkM c g ⟨sl, fu, kd, ar, ep, gn, ix, 5, pop⟩ M = M := by simp [mkM]
    rw [hM']
    refine ⟨by unfold mkD; rw [hS]; rfl, ?_, hM, Fr.refl _ _⟩
    rw [hS]; exact ⟨h1, h2, h3⟩
structure FrB (w : World) (p : Nat) (c : Cf) (a : Fre) (qa : Option Nat) : Prop where
  blk : Blk w p 95 (freeA c a.bk a.gn a.sl a.nw (qa.map fun q => ⟨q, 0, none⟩) a.nx)
  push : ∀ Q, a.pu = some Q → ∃ q, qa = some q ∧ PushB w q c Q
theorem FrB.below {w w' : World} {p : Nat} {c : Cf} {a : Fre} {qa : Option Nat} (h : FrB w p c a qa) (hb : Below w.heap.size w w') : FrB w' p c a qa :=
  ⟨h.blk.below hb h.blk.lt, fun Q e => by obtain ⟨q, e1, e2⟩ := h.push Q e; exact ⟨q, e1, Blk.below e2 hb (Blk.lt e2)⟩⟩
theorem FrB.fr {S : Nat → Prop} {w w' : World} {p : Nat} {c : Cf} {a : Fre} {qa : Option Nat} (h : FrB w p c a qa) (hf : Fr S w w') (hp : ¬ S p) (hq : ∀ q, qa = some q → ¬ S q) : FrB w' p c a qa :=
  ⟨h.blk.fr hf hp, fun Q e => by obtain ⟨q, e1, e2⟩ := h.push Q e; exact ⟨q, e1, Blk.fr e2 hf (hq q e1)⟩⟩
def fiv (p m b : Nat) (qa : Option Nat) : Nat → Prop := fun k => qa = some k ∨ three p m b k
theorem freC (c : Cf) (w : World) (p m b : Nat) (M : Ms) (a : Fre) (qa : Option Nat) (hc : c.right = true) (hM : MemB w m b M) (ok : Ok M) (np : ¬ two m b p) (nq : ∀ q, qa = some q → ¬ two m b q ∧ q ≠ p) (h : FrB w p c a qa) (ho : FreOk c a) :
    Calls Try.prog 59 #[.pointer (some ⟨p, 0, none⟩), .pointer (some ⟨m, 0, none⟩)] w fun e w' =>
    e = .returned (.bool (frD c a M)) ∧ ∃ qa', FrB w' p c (frS c a M) qa' ∧ (qa' = qa ∨ ∃ q, qa' = some q ∧ w.heap.size ≤ q) ∧ MemB w' m b (frM c a M) ∧ Fr (fiv p m b qa) w w' := by
  obtain ⟨bk, gn, sl, nw, nx, pu⟩ := a
  obtain ⟨h1, h2⟩ := h
  have f3 : ∀ w', Fr (three p m b) w w' → Fr (fiv p m b qa) w w' := fun w' hf => hf.mono (fun _ x => .inr x)
  have h2' : ∀ w', Fr (three p m b) w w' → ∀ Q, pu = some Q → ∃ q, qa = some q ∧ PushB w' q c Q := fun w' hf Q e => by
    obtain ⟨q, e1, e2⟩ := h2 Q e
    have := nq q e1
    exact ⟨q, e1, Blk.fr e2 hf (fun x => x.elim this.2 this.1)⟩
  have hx : nx = 1 ∨ nx = 3 ∨ (nx = 4 ∧ ∃ Q, pu = some Q ∧ PushOk Q) ∨ nx = 5 := ho.nx
  rcases hx with rfl | rfl | ⟨rfl, Q, rfl, oQ⟩ | rfl
  · have hM' : frM c ⟨bk, gn, sl, nw, 1, pu⟩ M = M.ldS (c.header sl) := by simp [frM]
    rw [hM']
    cases hv : (freedV (M.ldV (c.header sl)) c.G).2 with
    | true =>
      refine (free_1y c w p m b M hc hM ok np bk gn sl nw _ hv h1).mono ?_
      rintro e w' ⟨rfl, a1, a2, a3⟩
      have hS : frS c ⟨bk, gn, sl, nw, 1, pu⟩ M = ⟨bk, gn, sl, (freedV (M.ldV (c.header sl)) c.G).1, 3, pu⟩ := by simp [frS, hv]
      refine ⟨by unfold frD; rw [hS]; rfl, qa, ?_, .inl rfl, a2, f3 _ a3⟩
      rw [hS]; exact ⟨a1, h2' _ a3⟩
    | false =>
      refine (free_1n c w p m b M hc hM ok np bk gn sl nw _ hv h1).mono ?_
      rintro e w' ⟨rfl, a1, a2, a3⟩
      have hS : frS c ⟨bk, gn, sl, nw, 1, pu⟩ M = ⟨bk, gn, sl, (freedV (M.ldV (c.header sl)) c.G).1, 5, pu⟩ := by simp [frS, hv]
      refine ⟨by unfold frD; rw [hS]; rfl, qa, ?_, .inl rfl, a2, f3 _ a3⟩
      rw [hS]; exact ⟨a1, h2' _ a3⟩
  · have hM' : frM c ⟨bk, gn, sl, nw, 3, pu⟩ M = M.stS (c.header sl) nw := by simp [frM]
    rw [hM']
    by_cases hk : uK nw = 4
    · refine (free_3d c w p m b M hc hM ok np bk gn sl nw _ ho.sl.1 ho.sl.2 ho.nw.1 ho.nw.2 (by simpa using hk) h1).mono ?_
      rintro e w' ⟨rfl, q, g1, g2, a1, a2, a3⟩
      have hS : frS c ⟨bk, gn, sl, nw, 3, pu⟩ M = ⟨bk, true, sl, nw, 5, some ⟨sl, 0, 0⟩⟩ := by simp [frS, hk]
      refine ⟨by unfold frD; rw [hS]; rfl, some q, ?_, .inr ⟨q, rfl, g1⟩, a2, f3 _ a3⟩
      rw [hS]; exact ⟨a1, fun Q e => ⟨q, rfl, by cases e; exact g2⟩⟩
    · refine (free_3b c w p m b M hc hM ok np bk gn sl nw _ ho.sl.1 ho.sl.2 ho.nw.1 ho.nw.2 (by simpa using hk) h1).mono ?_
      rintro e w' ⟨rfl, q, g1, g2, a1, a2, a3⟩
      have hS : frS c ⟨bk, gn, sl, nw, 3, pu⟩ M = ⟨bk, gn, sl, nw, 4, some ⟨sl, 0, 0⟩⟩ := by simp [frS, hk]
      refine ⟨by unfold frD; rw [hS]; rfl, some q, ?_, .inr ⟨q, rfl, g1⟩, a2, f3 _ a3⟩
      rw [hS]; exact ⟨a1, fun Q e => ⟨q, rfl, by cases e; exact g2⟩⟩
  · have hM' : frM c ⟨bk, gn, sl, nw, 4, some Q⟩ M = pushM c Q M := by simp [frM]
    rw [hM']
    obtain ⟨q, rfl, hQ⟩ := h2 Q rfl
    obtain ⟨nqm, nqp⟩ := nq q rfl
    have f4 : ∀ w', Fr (four p q m b) w w' → Fr (fiv p m b (some q)) w w' := fun w' hf => hf.mono (fun k x => by
      rcases x with x | x | x
      · exact .inr (.inl x)
      · exact .inl (by rw [x])
      · exact .inr (.inr x))
    cases hd : pushD c Q M with
    | true =>
      refine (free_4a c w p m b M hc hM ok np bk gn sl nw q Q nqm nqp hQ oQ hd h1).mono ?_
      rintro e w' ⟨rfl, a0, a1, a2, a3⟩
      have hS : frS c ⟨bk, gn, sl, nw, 4, some Q⟩ M = ⟨true, gn, sl, nw, 5, some (pushS c Q M)⟩ := by simp [frS, hd]
      refine ⟨by unfold frD; rw [hS]; rfl, some q, ?_, .inl rfl, a2, f4 _ a3⟩
      rw [hS]; exact ⟨a1, fun Q' e => ⟨q, rfl, by cases e; exact a0⟩⟩
    | false =>
      refine (free_4b c w p m b M hc hM ok np bk gn sl nw q Q nqm nqp hQ oQ hd h1).mono ?_
      rintro e w' ⟨rfl, a0, a1, a2, a3⟩
      have hS : frS c ⟨bk, gn, sl, nw, 4, some Q⟩ M = ⟨bk, gn, sl, nw, 4, some (pushS c Q M)⟩ := by simp [frS, hd]
      refine ⟨by unfold frD; rw [hS]; rfl, some q, ?_, .inl rfl, a2, f4 _ a3⟩
      rw [hS]; exact ⟨a1, fun Q' e => ⟨q, rfl, by cases e; exact a0⟩⟩
  · refine (free_5 c w p m b M hc hM ok np bk gn sl nw _ h1).mono ?_
    rintro e w' ⟨rfl, rfl⟩
    have hS : frS c ⟨bk, gn, sl, nw, 5, pu⟩ M = ⟨bk, gn, sl, nw, 5, pu⟩ := by simp [frS]
    have hM' : frM c ⟨bk, gn, sl, nw, 5, pu⟩ M = M := by simp [frM]
    rw [hM']
    refine ⟨by unfold frD; rw [hS]; rfl, qa, ?_, .inl rfl, hM, Fr.refl _ _⟩
    rw [hS]; exact ⟨h1, h2⟩
end Go.Proofs.Ytijfkpoofpcacaa.ArenaQ
end
section
set_option linter.unusedVariables false
set_option linter.unusedSectionVars false
namespace Go.Proofs.Ytijfkpoofpcacaa.ArenaS
open Go.RowKit Go.Proofs.YtijfkpoofpcacaaW.PrintWords Go.Proofs.Ytijfkpoofpcacaa.Blk Go.Proofs.Ytijfkpoofpcacaa.Core Go.Proofs.Ytijfkpoofpcacaa.MemC Go.Proofs.Ytijfkpoofpcacaa.MemD Go.Proofs.Ytijfkpoofpcacaa.MemT Go.Proofs.Ytijfkpoofpcacaa.Memory Go.Proofs.Ytijfkpoofpcacaa.PlanC Go.Proofs.Ytijfkpoofpcacaa.PlanD Go.Proofs.Ytijfkpoofpcacaa.StackC Go.Proofs.Ytijfkpoofpcacaa.StackL Go.Proofs.Ytijfkpoofpcacaa.StackS Go.Proofs.Ytijfkpoofpcacaa.StackF Go.Proofs.Ytijfkpoofpcacaa.StackP Go.Proofs.Ytijfkpoofpcacaa.HeadC Go.Proofs.Ytijfkpoofpcacaa.ArenaC Go.Proofs.Ytijfkpoofpcacaa.ArenaM Go.Proofs.Ytijfkpoofpcacaa.ArenaN Go.Proofs.Ytijfkpoofpcacaa.ArenaP Go.Proofs.Ytijfkpoofpcacaa.ArenaL Go.Proofs.Ytijfkpoofpcacaa.ArenaR Go.Proofs.Ytijfkpoofpcacaa.ArenaQ Go.Proofs.Ytijfkpoofpcacaa.Opens
structure Dis (p q r m b : Nat) : Prop where
  np : ¬ two m b p
  nq : ¬ two m b q
  nr : ¬ two m b r
  qp : q ≠ p
  rp : r ≠ p
  rq : r ≠ q
def MkX (c : Cf) (w : World) (p q r m b N T : Nat) (g : Nat → Int) (t x : Int) (rst : List Int) (i : Nat) : Prop :=
  ∃ a M, MkB w p q r c (roomI c) g a ∧ Stg c (roomI c) M.f t x rst i a ∧ MkOk (roomI c) a ∧ MemB w m b M ∧ Fine M N T
theorem fine_n {c : Cf} (hr : c.right = true) {M : Ms} {N T : Nat} (h : Fine M N T) (hN : (N : Int) = c.size) : (M.n : Int) = c.size := by rw [h.n]; exact hN
theorem N_bd {c : Cf} (hr : c.right = true) {N : Nat} (hN : (N : Int) = c.size) : 9 ≤ N ∧ N ≤ 800 := by have := size_bd hr; unfold Cf.size at hN; omega
section
variable {c : Cf} (hr : c.right = true) {w : World} {p q r m b N T : Nat} {g : Nat → Int} {t x : Int} {rst : List Int} (hN : (N : Int) = c.size) (hT : T ≤ 1000000) (hx : 0 ≤ x ∧ x < c.S) (ht : t + 1 < 281474976710656) (hg : U g) (d : Dis p q r m b)
include hr hN hT hg d
theorem mkXC (hx : 0 ≤ x ∧ x < c.S) (ht : t + 1 < 281474976710656) {i : Nat} (hi : i < 5 + roomI c) (h : MkX c w p q r m b N T g t x rst i) : Calls Try.prog 52 #[.pointer (some ⟨p, 0, none⟩), .pointer (some ⟨m, 0, none⟩)] w fun e w' =>
    e = .returned (.bool (i + 1 == 5 + roomI c)) ∧ MkX c w' p q r m b N (T + 1) g t x rst (i + 1) ∧ Fr (four p q m b) w w' := by
  obtain ⟨a, M, h1, h2, h3, h4, h5⟩ := h
  have hb := N_bd hr hN
  have hri := room_i hr
  have ok := h5.ok (by omega) (by omega)
  have hn := fine_n hr h5 hN
  refine (makeC c w p q r m b (roomI c) M g a hr h4 ok d.np d.nq d.nr d.qp d.rp d.rq (by omega) h1 h3).mono ?_
  rintro e w' ⟨rfl, a1, a2, a3⟩
  obtain ⟨s1, s2⟩ := mkStep hr hri.2.2 (g := g) hn hx ht hi h2
  rw [s2]
  exact ⟨rfl, ⟨_, _, a1, s1, h3.step ok (by omega), a2, fine_mk h5 h3 hg⟩, a3⟩
end
theorem mkX_new {c : Cf} {w : World} {p q r m b N T : Nat} {g : Nat → Int} {t x : Int} {rst : List Int} {M : Ms} {kd ar ep : Int} (hr : c.right = true) (h1 : PopB w q c ⟨-1, false, 0, 0, 0⟩) (h2 : Blk w p 82 (makeA c (-1) false kd ar ep (.slice (some ⟨r, 0, none⟩) (roomI c) (roomI c)) (some ⟨q, 0, none⟩) 0 0 0)) (h3 : RowB w (some ⟨r, 0, none⟩) (roomI c) r (roomI c) g) (hM : MemB w m b M) (hf : Fine M N T) (hs : Stk c M.f t (x :: rst)) (e : 0 ≤ ep ∧ ep < 18446744073709551616) (ha : ar < 9223372036854775808) : MkX c w p q r m b N T g t x rst 0 := by
  have hri := room_i hr
  exact ⟨⟨-1, false, kd, ar, ep, 0, 0, 0, ⟨-1, false, 0, 0, 0⟩⟩, M, ⟨h2, h1, h3⟩, ⟨rfl, .inl ⟨rfl, rfl, rfl, rfl, hs⟩⟩, ⟨fun _ => ⟨Int.le_refl 0, by show (0 : Int) < _; decide, .inl rfl⟩, .inl ⟨.inl rfl, Int.le_refl 0, by show (0 : Int) < _; omega⟩, e, ha, by show (0 : Int) < _; decide⟩, hM, hf⟩
theorem mkX_end {c : Cf} {w : World} {p q r m b N T : Nat} {g : Nat → Int} {t x : Int} {rst : List Int} (h : MkX c w p q r m b N T g t x rst (5 + roomI c)) : ∃ M, MemB w m b M ∧ Fine M N T ∧ Stk c M.f (t + 1) rst ∧ w.cell? ⟨p, 0, none⟩ = some (.int .i64 x) ∧ w.cell? ⟨p, 1, none⟩ = some (.bool false) := by
  obtain ⟨a, M, h1, ⟨h0, h2⟩, h3, h4, h5⟩ := h
  rcases h2 with ⟨h, _⟩ | ⟨h, _⟩ | ⟨h, _⟩ | ⟨h, _⟩ | ⟨j, h, h', _⟩ | ⟨h, _⟩ | ⟨_, _, e1, e2⟩
  · omega
  · omega
  · omega
  · omega
  · omega
  · omega
  · exact ⟨M, h4, h5, e2, by rw [← e1]; exact h1.blk.cell (i := 0) rfl, by rw [← h0]; exact h1.blk.cell (i := 1) rfl⟩
theorem MkX.drew {c : Cf} {w : World} {p q r m b N T : Nat} {g : Nat → Int} {t x : Int} {rst : List Int} {i : Nat} (h : MkX c w p q r m b N T g t x rst i) : MkX c w.drew p q r m b N T g t x rst i := by
  obtain ⟨a, M, ⟨g1, g2, g3⟩, h2, h3, h4, h5⟩ := h
  exact ⟨a, M, ⟨g1.drew, Blk.drew g2, g3.drew⟩, h2, h3, h4.drew, h5⟩
def kF (c : Cf) (x : Int) : Nat := if (freedV x c.G).2 = false then 1 else if uK (freedV x c.G).1 = 4 then 2 else 5
theorem kF_bd (c : Cf) (x : Int) : 1 ≤ kF c x ∧ kF c x ≤ 5 := by unfold kF; split <;> (try split) <;> omega
def FrX (c : Cf) (w : World) (p m b lo N T : Nat) (t : Int) (L : List Int) (s x : Int) (i : Nat) : Prop :=
  ∃ a M qa, FrB w p c a qa ∧ (∀ q, qa = some q → lo ≤ q ∧ ¬ two m b q ∧ q ≠ p) ∧ ((i < kF c x ∧ FrI c M.f t L s x i a) ∨ (i = kF c x ∧ FrE c M.f t L s x a)) ∧ FreOk c a ∧ MemB w m b M ∧ Fine M N T
def frv (p m b lo : Nat) : Nat → Prop := fun k => k = p ∨ two m b k ∨ lo ≤ k
theorem frXC {c : Cf} (hr : c.right = true) {w : World} {p m b lo N T : Nat} {t s x : Int} {L : List Int} (hN : (N : Int) = c.size) (hT : T ≤ 1000000) (hs : 0 ≤ s ∧ s < c.S) (hnm : s ∉ L) (ht : t + 1 < 281474976710656) (np : ¬ two m b p) (hlo : lo ≤ w.heap.size) {i : Nat} (hi : i < kF c x) (h : FrX c w p m b lo N T t L s x i) :
    Calls Try.prog 59 #[.pointer (some ⟨p, 0, none⟩), .pointer (some ⟨m, 0, none⟩)] w fun e w' =>
    e = .returned (.bool (i + 1 == kF c x)) ∧ FrX c w' p m b lo N (T + 1) t L s x (i + 1) ∧ Fr (frv p m b lo) w w' := by
  obtain ⟨a, M, qa, h1, hq, h2, h3, h4, h5⟩ := h
  have hb := N_bd hr hN
  have ok := h5.ok (by omega) (by omega)
  have hn := fine_n hr h5 hN
  have h2' : FrI c M.f t L s x i a := by
    rcases h2 with ⟨_, h⟩ | ⟨h, _⟩
    · exact h
    · omega
  have ltp := h1.blk.lt
  have lm := h4.lm
  have lb := h4.lb
  refine (freC c w p m b M a qa hr h4 ok np (fun q e => (hq q e).2) h1 h3).mono ?_
  rintro e w' ⟨rfl, qa', a1, a2, a3, a4⟩
  have hq' : ∀ q, qa' = some q → lo ≤ q ∧ ¬ two m b q ∧ q ≠ p := by
    intro q e
    rcases a2 with a2 | ⟨q2, a2, a5⟩
    · exact hq q (a2 ▸ e)
    · rw [a2] at e
      cases e
      refine ⟨by omega, fun k => ?_, by omega⟩
      rcases k with k | k
      · omega
      · omega
  have hF : Fr (frv p m b lo) w w' := a4.mono (fun k y => by
    rcases y with y | y | y
    · exact .inr (.inr (hq k y).1)
    · exact .inl y
    · exact .inr (.inl y))
  rcases frStep hr hn hs hnm ht h2' with ⟨d1, d2, d3⟩ | ⟨d1, d2⟩
  · have hlt : i + 1 < kF c x := by
      obtain ⟨_, _, _, _, z⟩ := d2
      unfold kF
      rcases z with ⟨z, _⟩ | ⟨z1, _, ⟨z, _⟩ | ⟨z2, _, _, z⟩⟩
      · omega
      · rw [z1]; simp only [Bool.true_eq_false, if_false]; split <;> omega
      · rw [z1, if_neg (by decide), if_neg z2]; omega
    rw [d1, beq_eq_false_iff_ne.2 (show i + 1 ≠ kF c x by omega)]
    exact ⟨rfl, ⟨_, _, qa', a1, hq', .inl ⟨hlt, d2⟩, h3.step ok, a3, fine_fr h5 h3⟩, hF⟩
  · have heq : i + 1 = kF c x := by
      obtain ⟨_, _, z⟩ := d2
      have h2s := h2'
      obtain ⟨_, b1, b2, b3, y⟩ := h2s
      unfold kF
      have hb := room_bd hr
      have h00 : (0 : Int) ≤ 0 ∧ (0 : Int) < roomV c.A := ⟨by decide, by omega⟩
      have hsl : a.sl = s := h2'.1
      have hD : frD c a M = true := d1
      obtain ⟨bk, gn, sl, nw, nx, pu⟩ := a
      have e0 : c.header sl = c.pl sl 0 := header_pl hr (by rw [show sl = s from hsl]; exact hs)
      have hsl' : sl = s := hsl
      subst hsl'
      rcases y with ⟨rfl, y1, y2⟩ | ⟨yv, y1, ⟨rfl, y2, y3⟩ | ⟨yk, y2, y3, ⟨rfl, y4⟩ | ⟨rfl, y4⟩ | ⟨rfl, y4, y5⟩⟩⟩
      · obtain rfl : nx = 1 := y1
        have el : M.ldV (c.header sl) = x := by rw [e0, ld_pl hr hn hs h00]; exact y2
        cases hv : (freedV x c.G).2 with
        | false => rw [if_pos rfl]
        | true =>
          exfalso
          unfold frD at hD
          rw [show frS c ⟨bk, gn, sl, nw, 1, pu⟩ M = ⟨bk, gn, sl, (freedV x c.G).1, 3, pu⟩ by simp [frS, el, hv]] at hD
          exact absurd hD (by simp)
      · obtain rfl : nx = 3 := y2
        rw [yv, if_neg (by decide)]
        by_cases hk : uK (freedV x c.G).1 = 4
        · rw [if_pos hk]
        · exfalso
          obtain rfl : nw = (freedV x c.G).1 := y1
          unfold frD at hD
          rw [show frS c ⟨bk, gn, sl, (freedV x c.G).1, 3, pu⟩ M = ⟨bk, gn, sl, (freedV x c.G).1, 4, some ⟨sl, 0, 0⟩⟩ by simp [frS, hk]] at hD
          exact absurd hD (by simp)
      · exfalso
        obtain rfl : nx = 4 := y2
        obtain rfl : pu = some ⟨sl, 0, 0⟩ := y4
        obtain ⟨p1, p2, p3⟩ := pb0 (x := sl) (tp := 0) hr hn b3
        unfold frD at hD
        rw [show frS c ⟨bk, gn, sl, nw, 4, some ⟨sl, 0, 0⟩⟩ M = ⟨bk, gn, sl, nw, 4, some ⟨sl, 1, M.f 3⟩⟩ by simp [frS, p1, p3]] at hD
        exact absurd hD (by simp)
      · exfalso
        obtain rfl : nx = 4 := y2
        obtain rfl : pu = some ⟨sl, 1, M.f 3⟩ := y4
        obtain ⟨p1, p3, _⟩ := pb1 hr hn b3 hs hnm
        unfold frD at hD
        rw [show frS c ⟨bk, gn, sl, nw, 4, some ⟨sl, 1, M.f 3⟩⟩ M = ⟨bk, gn, sl, nw, 4, some ⟨sl, 2, M.f 3⟩⟩ by simp [frS, p1, p3]] at hD
        exact absurd hD (by simp)
      · rw [yv, if_neg (by decide), if_neg yk]
    rw [d1, heq, beq_self_eq_true]
    exact ⟨rfl, ⟨_, _, qa', a1, hq', .inr ⟨rfl, d2⟩, h3.step ok, a3, fine_fr h5 h3⟩, hF⟩
theorem frX_new {c : Cf} {w : World} {p m b lo N T : Nat} {t s x : Int} {L : List Int} {M : Ms} (hs : 0 ≤ s ∧ s < c.S) (h1 : Blk w p 95 (freeA c false false s 0 none 1)) (hM : MemB w m b M) (hf : Fine M N T) (hk : Stk c M.f t L) (hx : M.f (c.pl s 0).toNat = x) : FrX c w p m b lo N T t L s x 0 :=
  ⟨⟨false, false, s, 0, 1, none⟩, M, none, ⟨h1, fun Q e => (by cases e)⟩, (fun q e => by cases e), .inl ⟨(kF_bd c x).1, rfl, rfl, rfl, hk, .inl ⟨rfl, rfl, hx⟩⟩, ⟨hs, ⟨Int.le_refl 0, by show (0 : Int) < _; decide⟩, .inl rfl⟩, hM, hf⟩
theorem frX_end {c : Cf} {w : World} {p m b lo N T : Nat} {t s x : Int} {L : List Int} (h : FrX c w p m b lo N T t L s x (kF c x)) : ∃ M bk gn, MemB w m b M ∧ Fine M N T ∧ w.cell? ⟨p, 0, none⟩ = some (.bool bk) ∧ w.cell? ⟨p, 1, none⟩ = some (.bool gn) ∧
    (((freedV x c.G).2 = false ∧ bk = false ∧ gn = false ∧ M.f (c.pl s 0).toNat = x ∧ Stk c M.f t L) ∨
    ((freedV x c.G).2 = true ∧ M.f (c.pl s 0).toNat = (freedV x c.G).1 ∧ (
      (uK (freedV x c.G).1 = 4 ∧ bk = false ∧ gn = true ∧ Stk c M.f t L) ∨
      (uK (freedV x c.G).1 ≠ 4 ∧ bk = true ∧ gn = false ∧ Stk c M.f (t + 1) (s :: L))))) := by
  obtain ⟨a, M, qa, h1, hq, h2, h3, h4, h5⟩ := h
  rcases h2 with ⟨h, _⟩ | ⟨_, h⟩
  · omega
  · exact ⟨M, a.bk, a.gn, h4, h5, h1.blk.cell (i := 0) rfl, h1.blk.cell (i := 1) rfl, h.2.2⟩
end Go.Proofs.Ytijfkpoofpcacaa.ArenaS
end
section
set_option linter.unusedVariables false
namespace Go.Proofs.Ytijfkpoofpcacaa.StackG
open Go.RowKit Go.Proofs.Ytijfkpoofpcacaa.Blk Go.Proofs.Ytijfkpoofpcacaa.Core Go.Proofs.Ytijfkpoofpcacaa.MemC Go.Proofs.Ytijfkpoofpcacaa.MemT Go.Proofs.Ytijfkpoofpcacaa.PlanC Go.Proofs.Ytijfkpoofpcacaa.PlanD Go.Proofs.Ytijfkpoofpcacaa.StackC
def six (w : World) (b : Nat) (c : Cf) : World := (((((w.setCell ⟨b, 0, none⟩ (.int .i64 c.S)).setCell ⟨b, 1, none⟩ (.int .i64 c.A)).setCell ⟨b, 2, none⟩ (.int .i64 c.C)).setCell ⟨b, 3, none⟩ (.int .i64 c.H)).setCell ⟨b, 4, none⟩ (.int .i64 c.G)).setCell ⟨b, 5, none⟩ (.int .i64 c.K)
theorem six_blk {w : World} {b t : Nat} {c a : Cf} (h : Blk w b t #[.int .i64 a.S, .int .i64 a.A, .int .i64 a.C, .int .i64 a.H, .int .i64 a.G, .int .i64 a.K]) : Blk (six w b c) b t #[.int .i64 c.S, .int .i64 c.A, .int .i64 c.C, .int .i64 c.H, .int .i64 c.G, .int .i64 c.K] :=
  (((((h.set 0 _).set 1 _).set 2 _).set 3 _).set 4 _).set 5 _
theorem six_below {w0 w : World} {n b : Nat} {c : Cf} (h : Below n w0 w) (hb : n ≤ b) : Below n w0 (six w b c) :=
  (((((h.setCell (p := ⟨b, 0, none⟩) hb _).setCell (p := ⟨b, 1, none⟩) hb _).setCell (p := ⟨b, 2, none⟩) hb _).setCell (p := ⟨b, 3, none⟩) hb _).setCell (p := ⟨b, 4, none⟩) hb _).setCell (p := ⟨b, 5, none⟩) hb _
theorem not_two {p m b : Nat} (h1 : p ≠ m) (h2 : p ≠ b) : ¬ two m b p := fun c => c.elim h1 h2
end Go.Proofs.Ytijfkpoofpcacaa.StackG
end
section
set_option linter.unusedVariables false
set_option linter.unusedSimpArgs false
namespace Go.Proofs.Ytijfkpoofpcacaa.ArenaT
open Go.RowKit Go.Proofs.YtijfkpoofpcacaaW.PrintWords Go.Proofs.Ytijfkpoofpcacaa.Blk Go.Proofs.Ytijfkpoofpcacaa.Core Go.Proofs.Ytijfkpoofpcacaa.MemC Go.Proofs.Ytijfkpoofpcacaa.MemD Go.Proofs.Ytijfkpoofpcacaa.MemT Go.Proofs.Ytijfkpoofpcacaa.Memory Go.Proofs.Ytijfkpoofpcacaa.PlanC Go.Proofs.Ytijfkpoofpcacaa.PlanD Go.Proofs.Ytijfkpoofpcacaa.StackC Go.Proofs.Ytijfkpoofpcacaa.StackL Go.Proofs.Ytijfkpoofpcacaa.StackS Go.Proofs.Ytijfkpoofpcacaa.StackF Go.Proofs.Ytijfkpoofpcacaa.StackP Go.Proofs.Ytijfkpoofpcacaa.StackG Go.Proofs.Ytijfkpoofpcacaa.HeadC Go.Proofs.Ytijfkpoofpcacaa.ArenaC Go.Proofs.Ytijfkpoofpcacaa.ArenaM Go.Proofs.Ytijfkpoofpcacaa.ArenaN Go.Proofs.Ytijfkpoofpcacaa.ArenaP Go.Proofs.Ytijfkpoofpcacaa.ArenaL Go.Proofs.Ytijfkpoofpcacaa.ArenaR Go.Proofs.Ytijfkpoofpcacaa.ArenaQ Go.Proofs.Ytijfkpoofpcacaa.ArenaS Go.Proofs.Ytijfkpoofpcacaa.Opens
theorem sl_nil (w : World) (V : Nat → Nat → Value) : Sl w none 0 1 V := fun h => absurd h (by decide)
theorem U_pad (bn : Nat) (bf : Nat → Int) (h : ∀ j, j < bn → 0 ≤ bf j ∧ bf j < 18446744073709551616) : U (padF bn bf) := fun j => by
  unfold padF
  split
  · exact h j ‹_›
  · exact ⟨Int.le_refl 0, by show (0 : Int) < _; decide⟩
theorem nodis {p q r m b k : Nat} (h1 : m < k) (h2 : b < k) (hr : k ≤ r) (hq : r < q) (hp : q < p) : Dis p q r m b :=
  ⟨fun x => x.elim (fun e => by omega) (fun e => by omega), fun x => x.elim (fun e => by omega) (fun e => by omega), fun x => x.elim (fun e => by omega) (fun e => by omega), by omega, by omega, by omega⟩
theorem not_four {k p q m b : Nat} (h1 : k ≠ p) (h2 : k ≠ q) (h3 : k ≠ m) (h4 : k ≠ b) : ¬ four p q m b k := fun x => x.elim h1 (fun x => x.elim h2 (fun x => x.elim h3 h4))
theorem not_frv {k p m b lo : Nat} (h1 : k ≠ p) (h3 : k ≠ m) (h4 : k ≠ b) (h5 : k < lo) : ¬ frv p m b lo k := fun x => x.elim h1 (fun x => x.elim (fun x => x.elim h3 h4) (fun e => absurd h5 (by omega)))
def c12 : Cf := ⟨1, 0, 1, 1, 2, 0⟩
theorem c12_f : c12.right = true ∧ c12.header 0 = 8 ∧ c12.pl 0 0 = 8 ∧ c12.size = 13 ∧ roomI c12 = 3 ∧ headN 3 0 false 0 0 0 = 3 ∧ headN 0 0 false 0 1 0 = 65536 ∧ kF c12 3 = 5 ∧ freedV 3 c12.G = (65536, true) ∧ uK 65536 = 0 := by decide +kernel
set_option maxHeartbeats 4000000 in
set_option maxRecDepth 100000 in
theorem awake12C (w : World) : Calls Try.prog 53 #[] w fun e w' => e = .returned (.bool true) ∧ Below w.heap.size w w' := by
  obtain ⟨hr, hh, hpl, hsz, hri, hn1, hn2, hkf, hfv, huk⟩ := c12_f
  have hbx := Lib.hid (Blk.new w 23 #[.int .i64 c12.S, .int .i64 c12.A, .int .i64 c12.C, .int .i64 c12.H, .int .i64 c12.G, .int .i64 c12.K])
  have hcan : canM c12 1 0 0 := ⟨hr, by decide, by omega, .inl ⟨rfl, by decide⟩⟩
  have hst := stk_start hr
  have hst0 : Stk c12 (memF c12.A c12.C c12.H (c12.S - 1).toNat) 0 [0] := hst
  have hfi := fine_of (n := 13) (memF_U c12.A c12.C c12.H (c12.S - 1).toNat (by decide))
  have hUg : U (padF 0 (fun _ => 0)) := U_pad _ _ (fun j hj => absurd hj (by omega))
  have h13 : ((13 : Nat) : Int) = c12.size := by rw [hsz]; rfl
  replace hr := Lib.hid hr
  replace hh := Lib.hid hh
  replace hpl := Lib.hid hpl
  replace hri := Lib.hid hri
  replace hn1 := Lib.hid hn1
  replace hn2 := Lib.hid hn2
  replace hkf := Lib.hid hkf
  replace hfv := Lib.hid hfv
  replace huk := Lib.hid huk
  replace hcan := Lib.hid hcan
  replace h13 := Lib.hid h13
  replace hfi := Lib.hid hfi
  replace hst0 := Lib.hid hst0
  replace hUg := Lib.hid hUg
  have hsz' : c12.size.toNat = 13 := by rw [hsz]; rfl
  replace hsz' := Lib.hid hsz'
  clear hst hsz
  go_enter Try.func53, Try.ntmps53
  generalize hCFe : w.heap.size = CF at *
  go_upto_region 3 with (go_at_call 20; refine (memC c12 _ hr.out).mono ?_; rintro e w1 ⟨m, b, rfl, hM, hm, hb, hb1⟩; rw [hsz'.out] at hM; have hf1 := hbx.out.below hb1 hbx.out.lt; have hX := cfgs hf1.drew; replace hf1 := Lib.hid hf1.drew; replace hM := Lib.hid hM.drew; replace hb1 := Lib.hid hb1)
  have szb : ∀ o : Obj, (w.alloc o).heap.size = CF + 1 := fun o => by rw [← hCFe]; simp
  have hT := Lib.hid (below_pre hb1.out).drew
  have lt1 : CF < w1.drew.heap.size := hf1.out.lt
  have lm : m < w1.drew.heap.size := hM.out.lm
  have lb : b < w1.drew.heap.size := hM.out.lb
  rw [szb] at hm hb
  clear hb1 szb hbx
  go_cut [3, 4] (fun va vb wx => ∃ p q r f, va = .pointer (some ⟨p, 0, none⟩) ∧ vb = .pointer (some ⟨f, 0, none⟩) ∧ PopB wx q c12 ⟨-1, false, 0, 0, 0⟩ ∧ Blk wx p 82 (makeA c12 (-1) false 1 0 0 (.slice (some ⟨r, 0, none⟩) (roomI c12) (roomI c12)) (some ⟨q, 0, none⟩) 0 0 0) ∧ RowB wx (some ⟨r, 0, none⟩) (roomI c12) r (roomI c12) (padF 0 (fun _ => 0)) ∧ Blk wx f 95 (freeA c12 false false 0 0 none 1) ∧ MemB wx m b (Ms.of 13 (memF c12.A c12.C c12.H (c12.S - 1).toNat)) ∧ Blk wx CF 23 #[.int .i64 c12.S, .int .i64 c12.A, .int .i64 c12.C, .int .i64 c12.H, .int .i64 c12.G, .int .i64 c12.K] ∧ Below w.heap.size w wx ∧ (w1.drew.heap.size ≤ r ∧ r < q ∧ q < p ∧ w1.drew.heap.size ≤ f ∧ (f < r ∨ p < f)))
  case first =>
    have hX' : w1.drew.cell? ⟨CF, 0, none⟩ = some (.int .i64 c12.S) ∧ w1.drew.cell? ⟨CF, 1, none⟩ = some (.int .i64 c12.A) ∧ w1.drew.cell? ⟨CF, 2, none⟩ = some (.int .i64 c12.C) ∧ w1.drew.cell? ⟨CF, 3, none⟩ = some (.int .i64 c12.H) ∧ w1.drew.cell? ⟨CF, 4, none⟩ = some (.int .i64 c12.G) ∧ w1.drew.cell? ⟨CF, 5, none⟩ = some (.int .i64 c12.K) := hX
    clear hX
    go_region_held3 (fun w' => w'.cell? ⟨CF, 0, none⟩ = some (.int .i64 c12.S) ∧ w'.cell? ⟨CF, 1, none⟩ = some (.int .i64 c12.A) ∧ w'.cell? ⟨CF, 2, none⟩ = some (.int .i64 c12.C) ∧ w'.cell? ⟨CF, 3, none⟩ = some (.int .i64 c12.H) ∧ w'.cell? ⟨CF, 4, none⟩ = some (.int .i64 c12.G) ∧ w'.cell? ⟨CF, 5, none⟩ = some (.int .i64 c12.K)) (assumption) (first
      | (go_at_call 51; refine (newMakeC c12 _ 1 0 0 none 0 0 (fun _ => 0) (sl_nil _ _) hcan.out).mono ?_; rintro e w4 ⟨p, q, r, rfl, g1, g2, g3, hQ, hP, hR, hb4⟩; replace hf1 := Lib.hid (hf1.out.below hb4 hf1.out.lt); have hY1 := cfgs hf1.out; (try replace hV := Lib.hid (hV.out.below hb4 hV.out.lt)); replace hM := Lib.hid (hM.out.next hb4); replace hT := Lib.hid (MemT.bT hT.out hb4); have lt1 := hP.lt; have zz1 := hb4.size; replace hP := Lib.hid hP; replace hQ := Lib.hid hQ; replace hR := Lib.hid hR; clear hb4)
      | (go_at_call 54; refine (newFreeC c12 _ 0 (by rw [hh.out]; decide)).mono ?_; rintro e w5 ⟨f, rfl, g4, hV, hb5⟩; replace hf1 := Lib.hid (hf1.out.below hb5 hf1.out.lt); have hY2 := cfgs hf1.out; (try (replace hP := Lib.hid (hP.out.below hb5 hP.out.lt); replace hQ := Lib.hid (Blk.below hQ.out hb5 (Blk.lt hQ.out)); replace hR := Lib.hid (hR.out.below hb5 (Nat.le_refl _)))); replace hM := Lib.hid (hM.out.next hb5); replace hT := Lib.hid (MemT.bT hT.out hb5); have lt2 := hV.lt; have zz2 := hb5.size; replace hV := Lib.hid hV; clear hb5))
    all_goals
      clear hX' hY1 hY2
      go_wp2
      go_meet
      case rel => exact ⟨p, q, r, f, rfl, rfl, hQ.out, hP.out, hR.out, hV.out, hM.out, hf1.out, hCFe ▸ hT.out, by omega⟩
  case rest =>
    obtain ⟨p, q, r, f, rfl, rfl, hQ, hP, hR, hV, hM2, hf2, hT2, g1, g2, g3, g4, g5⟩ := hcut
    clear hM hT hf1 hX
    have hd : Dis p q r m b := nodis lm lb g1 g2 g3
    have hX0 := Lib.hid (mkX_new (T := 0) hr.out hQ hP hR hM2 hfi.out hst0.out ⟨by decide, by decide⟩ (by decide))
    replace hV := Lib.hid hV
    replace hf2 := Lib.hid hf2
    replace hT2 := Lib.hid hT2
    replace hd := Lib.hid hd
    clear hQ hP hR hM2
    go_wp2
    go_loopw [5] (fun z wr => ∃ i : Nat, i ≤ 7 ∧ z = .int .i64 (i : Int) ∧ MkX c12 wr p q r m b 13 i (padF 0 (fun _ => 0)) 0 0 [] i ∧ Blk wr f 95 (freeA c12 false false 0 0 none 1) ∧ Blk wr CF 23 #[.int .i64 c12.S, .int .i64 c12.A, .int .i64 c12.C, .int .i64 c12.H, .int .i64 c12.G, .int .i64 c12.K] ∧ Below w.heap.size w wr) (fun z _ => 8 - (intOf z).toNat)
    case atStart => exact ⟨0, by omega, rfl, hX0.out, hV.out, hf2.out, hT2.out⟩
    case round =>
      obtain ⟨i, hi, rfl, hB, hVi, hC, hW⟩ := hrel
      have ef : ∀ j, i + 1 = j → (i + 1 == 5 + roomI c12) = (j == 8) := fun j e => by rw [hri.out, e]
      have lti : i < 5 + roomI c12 := by rw [hri.out]; omega
      have i20 : (i : Int) < 20 := by omega
      replace hB := Lib.hid hB
      replace hVi := Lib.hid hVi
      replace hC := Lib.hid hC
      replace hW := Lib.hid hW
      rcases (show i < 7 ∨ i = 7 by omega) with hlt | rfl
      · have hf8 : (i + 1 == 5 + roomI c12) = false := by rw [hri.out]; simp; omega
        replace hf8 := Lib.hid hf8
        clear ef
        go_wp2_with (go_at_call 52; refine (mkXC hr.out h13.out (by omega) hUg.out hd.out (by decide) (by decide) lti hB.out).mono ?_; rintro e w2 ⟨rfl, hB2, hF2⟩; rw [hf8.out]; replace hVi := Lib.hid (hVi.out.fr hF2 (not_four (by omega) (by omega) (by omega) (by omega))); replace hC := Lib.hid (hC.out.fr hF2 (not_four (by omega) (by omega) (by omega) (by omega))); replace hW := Lib.hid (hW.out.trans (hF2.below (fun k hk => ⟨by have := hW.out.size; omega, not_four (by omega) (by omega) (by omega) (by omega)⟩))); replace hB := Lib.hid hB2; clear hF2 hB2)
        go_roundw
        case rel => exact ⟨i + 1, by omega, by go_num, hB.out, hVi.out, hC.out, hW.out⟩
        case measure => simp [intOf]; omega
      · have hf8 : (7 + 1 == 5 + roomI c12) = true := by rw [hri.out]; rfl
        have h71 : 7 + 1 = 5 + roomI c12 := by rw [hri.out]
        replace hf8 := Lib.hid hf8
        replace h71 := Lib.hid h71
        clear ef
        go_upto_region 9 with (go_at_call 52; refine (mkXC hr.out h13.out (by omega) hUg.out hd.out (by decide) (by decide) lti hB.out).mono ?_; rintro e w2 ⟨rfl, hB2, hF2⟩; rw [hf8.out]; replace hVi := Lib.hid (hVi.out.fr hF2 (not_four (by omega) (by omega) (by omega) (by omega))); replace hC := Lib.hid (hC.out.fr hF2 (not_four (by omega) (by omega) (by omega) (by omega))); replace hW := Lib.hid (hW.out.trans (hF2.below (fun k hk => ⟨by have := hW.out.size; omega, not_four (by omega) (by omega) (by omega) (by omega)⟩))); replace hB := Lib.hid hB2; clear hF2 hB2)
        have hB2 := hB.out
        rw [h71.out] at hB2
        obtain ⟨M, hM, hf, hk, c0, c1⟩ := mkX_end hB2
        clear hB hB2 c1
        have ok := hf.ok (by decide) (by decide)
        replace hM := Lib.hid hM
        obtain ⟨k0, k1, k2, k3, k4, k5⟩ := cfgs hC.out
        have hin : M.inn 8 = true := inn_iff.2 ⟨by decide, by rw [hf.n]; decide⟩
        replace hin := Lib.hid hin
        replace hf := Lib.hid hf
        replace hk := Lib.hid hk
        go_upto_region 11 with (first
          | (go_at_call 72; refine (headerC c12 _ 0).mono ?_; rintro e w3 ⟨rfl, hb3⟩; rw [hh.out]; replace hVi := Lib.hid (hVi.out.below hb3 hVi.out.lt); replace hC := Lib.hid (hC.out.below hb3 hC.out.lt); replace hM := Lib.hid (hM.out.next hb3); replace hW := Lib.hid (hW.out.trans (hb3.mono (by have := hW.out.size; omega))); clear hb3)
          | (go_at_call 58; refine (rPack_c 3 0 false 0 0 0 (by decide) _).mono ?_; rintro e w4 ⟨rfl, hb3⟩; rw [hn1.out]; replace hVi := Lib.hid (hVi.out.below hb3 hVi.out.lt); replace hC := Lib.hid (hC.out.below hb3 hC.out.lt); replace hM := Lib.hid (hM.out.next hb3); replace hW := Lib.hid (hW.out.trans (hb3.mono (by have := hW.out.size; omega))); clear hb3)
          | (go_at_call 57; refine (store_c _ m b M 8 hM.out ok 3).mono ?_; rintro e w5 ⟨rfl, hM', hF'⟩; rw [hin.out]; replace hVi := Lib.hid (hVi.out.fr hF' (not_two (by omega) (by omega))); replace hC := Lib.hid (hC.out.fr hF' (not_two (by omega) (by omega))); replace hW := Lib.hid (hW.out.trans (hF'.below (fun k hk => ⟨by have := hW.out.size; omega, not_two (by omega) (by omega)⟩))); replace hM := Lib.hid hM'; clear hM' hF'))
        have e8 : M.stS 8 3 = M.stS (c12.pl 0 0) 3 := by rw [hpl.out]
        have hnM := fine_n hr.out hf.out h13.out
        have hs8 := (st_pl (M := M) hr.out hnM (s := 0) (o := 0) (v := 3) ⟨by decide, by decide⟩ ⟨by decide, by decide⟩).1
        rw [← e8] at hs8
        have hk2 : Stk c12 (M.stS 8 3).f 1 [] := by rw [hs8]; exact Stk.off hr.out hk.out ⟨by decide, by decide⟩ ⟨by decide, by decide⟩ (by decide)
        have hx2 : (M.stS 8 3).f (c12.pl 0 0).toNat = 3 := by rw [hs8, upd_eq]
        have hf3 := hf.out.st 8 (v := 3) (by decide) (by decide)
        have ltw := hC.out.lt
        have lov : f < w5.heap.size := hVi.out.lt
        have hZ0 := Lib.hid (frX_new (lo := w5.heap.size) (L := []) ⟨by decide, by decide⟩ hVi.out hM.out hf3 hk2 hx2)
        have lm5 := hM.out.lm
        have lb5 := hM.out.lb
        have nf : ¬ two m b f := not_two (by omega) (by omega)
        have hlo := Nat.le_refl w5.heap.size
        generalize hL5 : w5.heap.size = lo at *
        have hlo5 : lo ≤ w5.heap.size := by omega
        clear e8 hs8 hk2 hx2 hf3 hVi hM hnM c0 k0 k1 k2 k3 k4 k5 ok hin hL5 hf hk
        go_wp2
        go_loopw [6] (fun z wr => ∃ i : Nat, i ≤ 4 ∧ z = .int .i64 (i : Int) ∧ FrX c12 wr f m b lo 13 (9 + i) 1 [] 0 3 i ∧ lo ≤ wr.heap.size ∧ Blk wr CF 23 #[.int .i64 c12.S, .int .i64 c12.A, .int .i64 c12.C, .int .i64 c12.H, .int .i64 c12.G, .int .i64 c12.K] ∧ Below w.heap.size w wr) (fun z _ => 5 - (intOf z).toNat)
        case atStart => exact ⟨0, by omega, rfl, hZ0.out, hlo5, hC.out, hW.out⟩
        case round =>
          obtain ⟨i, hi, rfl, hZ, hls, hC, hW⟩ := hrel
          have lti : i < kF c12 3 := by rw [hkf.out]; omega
          have i20 : (i : Int) < 20 := by omega
          replace hZ := Lib.hid hZ
          replace hC := Lib.hid hC
          replace hW := Lib.hid hW
          rcases (show i < 4 ∨ i = 4 by omega) with hlt | rfl
          · have hf8 : (i + 1 == kF c12 3) = false := by rw [hkf.out]; simp; omega
            replace hf8 := Lib.hid hf8
            go_wp2_with (go_at_call 59; refine (frXC hr.out h13.out (by omega) ⟨by decide, by decide⟩ (List.not_mem_nil) (by decide) nf hls lti hZ.out).mono ?_; rintro e w6 ⟨rfl, hZ2, hF2⟩; rw [hf8.out]; replace hC := Lib.hid (hC.out.fr hF2 (not_frv (by omega) (by omega) (by omega) (by omega))); have zs := hF2.size; replace hW := Lib.hid (hW.out.trans (hF2.below (fun k hk => ⟨by have := hW.out.size; omega, not_frv (by omega) (by omega) (by omega) (by omega)⟩))); replace hZ := Lib.hid hZ2; clear hF2 hZ2)
            go_roundw
            case rel => exact ⟨i + 1, by omega, by go_num, hZ.out, by omega, hC.out, hW.out⟩
            case measure => simp [intOf]; omega
          · have hf8 : (4 + 1 == kF c12 3) = true := by rw [hkf.out]; rfl
            have h71 : 4 + 1 = kF c12 3 := by rw [hkf.out]
            replace hf8 := Lib.hid hf8
            replace h71 := Lib.hid h71
            go_upto_region 14 with (go_at_call 59; refine (frXC hr.out h13.out (by omega) ⟨by decide, by decide⟩ (List.not_mem_nil) (by decide) nf hls lti hZ.out).mono ?_; rintro e w6 ⟨rfl, hZ2, hF2⟩; rw [hf8.out]; replace hC := Lib.hid (hC.out.fr hF2 (not_frv (by omega) (by omega) (by omega) (by omega))); have zs := hF2.size; replace hW := Lib.hid (hW.out.trans (hF2.below (fun k hk => ⟨by have := hW.out.size; omega, not_frv (by omega) (by omega) (by omega) (by omega)⟩))); replace hZ := Lib.hid hZ2; clear hF2 hZ2)
            have hZ2 := hZ.out
            rw [h71.out] at hZ2
            obtain ⟨M2, bk, gn, hM2, hf2, c0, c1, hcase⟩ := frX_end hZ2
            have h65 : M2.f 8 = 65536 ∧ bk = true ∧ gn = false := by
              rcases hcase with ⟨e, _⟩ | ⟨_, h8, ⟨e, _⟩ | ⟨_, e1, e2, _⟩⟩
              · rw [hfv.out] at e; cases e
              · rw [hfv.out] at e; rw [show uK (65536, true).1 = 0 from huk.out] at e; exact absurd e (by decide)
              · rw [hpl.out, hfv.out] at h8; exact ⟨h8, e1, e2⟩
            obtain ⟨h65, rfl, rfl⟩ := h65
            have hsn := hf2.n
            clear hZ hZ2 hcase hf8 h71 lti i20 hf2
            have hX : (w6.cell? ⟨f, 0, none⟩ = some (.bool true) ∧ w6.cell? ⟨f, 1, none⟩ = some (.bool false) ∧ w6.cell? ⟨CF, 0, none⟩ = some (.int .i64 c12.S) ∧ w6.cell? ⟨CF, 1, none⟩ = some (.int .i64 c12.A) ∧ w6.cell? ⟨CF, 2, none⟩ = some (.int .i64 c12.C) ∧ w6.cell? ⟨CF, 3, none⟩ = some (.int .i64 c12.H) ∧ w6.cell? ⟨CF, 4, none⟩ = some (.int .i64 c12.G) ∧ w6.cell? ⟨CF, 5, none⟩ = some (.int .i64 c12.K)) := ⟨c0, c1, cfgs hC.out⟩
            have hX' : (w6.drew.cell? ⟨f, 0, none⟩ = some (.bool true) ∧ w6.drew.cell? ⟨f, 1, none⟩ = some (.bool false) ∧ w6.drew.cell? ⟨CF, 0, none⟩ = some (.int .i64 c12.S) ∧ w6.drew.cell? ⟨CF, 1, none⟩ = some (.int .i64 c12.A) ∧ w6.drew.cell? ⟨CF, 2, none⟩ = some (.int .i64 c12.C) ∧ w6.drew.cell? ⟨CF, 3, none⟩ = some (.int .i64 c12.H) ∧ w6.drew.cell? ⟨CF, 4, none⟩ = some (.int .i64 c12.G) ∧ w6.drew.cell? ⟨CF, 5, none⟩ = some (.int .i64 c12.K)) := hX
            clear hX c0 c1
            replace hM2 := Lib.hid hM2.drew
            replace hC := Lib.hid hC.out.drew
            replace hW := Lib.hid hW.out.drew
            replace h65 := Lib.hid h65
            replace hsn := Lib.hid hsn
            have hfl : f < w6.heap.size := by omega
            have hbf := Lib.hid (Below.refl w6.heap.size w6).drew
            have hFf : ∀ w', Below w6.heap.size w6 w' → w'.cell? ⟨f, 0, none⟩ = some (.bool true) ∧ w'.cell? ⟨f, 1, none⟩ = some (.bool false) := fun w' hb => ⟨(hb.cell (p := ⟨f, 0, none⟩) hfl).trans hX'.1, (hb.cell (p := ⟨f, 1, none⟩) hfl).trans hX'.2.1⟩
            replace hFf := Lib.hid hFf
            refine wp_region_held_drew (S := fun w' => w'.cell? ⟨f, 0, none⟩ = some (.bool true) ∧ w'.cell? ⟨f, 1, none⟩ = some (.bool false) ∧ w'.cell? ⟨CF, 0, none⟩ = some (.int .i64 c12.S) ∧ w'.cell? ⟨CF, 1, none⟩ = some (.int .i64 c12.A) ∧ w'.cell? ⟨CF, 2, none⟩ = some (.int .i64 c12.C) ∧ w'.cell? ⟨CF, 3, none⟩ = some (.int .i64 c12.H) ∧ w'.cell? ⟨CF, 4, none⟩ = some (.int .i64 c12.G) ∧ w'.cell? ⟨CF, 5, none⟩ = some (.int .i64 c12.K)) (by kernel_rfl) hX' (fun hHeld => ?_)
            refine wpAnyH_take (i := 0) (oi := { dst := some 58, op := Go.Op.move (Go.Operand.tmp 4), type := 86, pos := "law.go:30", after := #[], guard := none }) (v := ?vq1) rfl (by kernel_rfl) (by kernel_rfl) (by kernel_rfl) (fun _ _ _ h => h) (Or.inl ⟨by rfl, ?hyq1⟩) (by assumption) ?rsq1
            case hyq1 => (intro w hSw; first | (go_simp; done) | (go_simp; with_reducible rfl) | ((try dsimp only at hSw); go_split_ands; go_simp; done) | ((try dsimp only at hSw); go_split_ands; go_simp; with_reducible rfl))
            case' rsq1 => (try simp only [Act.put, List.setIfInBounds_toArray, List.set_cons_zero, List.set_cons_succ])
            refine wpAnyH_take (i := 1) (oi := { dst := some 59, op := Go.Op.nilCheck (Go.Operand.tmp 58), type := 0, pos := "law.go:30", after := #[{ on := 0, ground := Go.Ground.data }], guard := none }) (v := ?vq2) rfl (by kernel_rfl) (by kernel_rfl) (by kernel_rfl) (fun _ _ _ h => h) (Or.inl ⟨by rfl, ?hyq2⟩) (by assumption) ?rsq2
            case hyq2 => (intro w hSw; first | (go_simp; done) | (go_simp; with_reducible rfl) | ((try dsimp only at hSw); go_split_ands; go_simp; done) | ((try dsimp only at hSw); go_split_ands; go_simp; with_reducible rfl))
            case' rsq2 => (try simp only [Act.put, List.setIfInBounds_toArray, List.set_cons_zero, List.set_cons_succ])
            refine wpAnyH_take (i := 2) (oi := { dst := some 60, op := Go.Op.fieldAddr 95 (Go.Operand.tmp 59) 0, type := 0, pos := "law.go:30", after := #[{ on := 1, ground := Go.Ground.data }], guard := none }) (v := ?vq3) rfl (by kernel_rfl) (by kernel_rfl) (by kernel_rfl) (fun _ _ _ h => h) (Or.inl ⟨by rfl, ?hyq3⟩) (by assumption) ?rsq3
            case hyq3 => (intro w hSw; first | (go_simp; done) | (go_simp; with_reducible rfl) | ((try dsimp only at hSw); go_split_ands; go_simp; done) | ((try dsimp only at hSw); go_split_ands; go_simp; with_reducible rfl))
            case' rsq3 => (try simp only [Act.put, List.setIfInBounds_toArray, List.set_cons_zero, List.set_cons_succ])
            refine wpAnyH_take (i := 3) (oi := { dst := some 61, op := Go.Op.load 4 (Go.Operand.tmp 60), type := 4, pos := "law.go:30", after := #[{ on := 2, ground := Go.Ground.data }], guard := none }) (v := ?vq4) rfl (by kernel_rfl) (by kernel_rfl) (by kernel_rfl) (fun _ _ _ h => h) (Or.inl ⟨by rfl, ?hyq4⟩) (by assumption) ?rsq4
            case hyq4 => (intro w hSw; first | (go_simp; done) | (go_simp; with_reducible rfl) | ((try dsimp only at hSw); go_split_ands; go_simp; done) | ((try dsimp only at hSw); go_split_ands; go_simp; with_reducible rfl))
            case' rsq4 => (try simp only [Act.put, List.setIfInBounds_toArray, List.set_cons_zero, List.set_cons_succ])
            refine wpAnyH_take (i := 4) (oi := { dst := some 62, op := Go.Op.move (Go.Operand.tmp 61), type := 4, pos := "law.go:30", after := #[{ on := 3, ground := Go.Ground.data }], guard := none }) (v := ?vq5) rfl (by kernel_rfl) (by kernel_rfl) (by kernel_rfl) (fun _ _ _ h => h) (Or.inl ⟨by rfl, ?hyq5⟩) (by assumption) ?rsq5
            case hyq5 => (intro w hSw; first | (go_simp; done) | (go_simp; with_reducible rfl) | ((try dsimp only at hSw); go_split_ands; go_simp; done) | ((try dsimp only at hSw); go_split_ands; go_simp; with_reducible rfl))
            case' rsq5 => (try simp only [Act.put, List.setIfInBounds_toArray, List.set_cons_zero, List.set_cons_succ])
            refine wpAnyH_take (i := 5) (oi := { dst := some 63, op := Go.Op.move (Go.Operand.tmp 4), type := 86, pos := "law.go:30", after := #[{ on := 4, ground := Go.Ground.guard }], guard := some (4, true) }) (v := ?vq6) rfl (by kernel_rfl) (by kernel_rfl) (by kernel_rfl) (fun _ _ _ h => h) (Or.inl ⟨by rfl, ?hyq6⟩) (by assumption) ?rsq6
            case hyq6 => (intro w hSw; first | (go_simp; done) | (go_simp; with_reducible rfl) | ((try dsimp only at hSw); go_split_ands; go_simp; done) | ((try dsimp only at hSw); go_split_ands; go_simp; with_reducible rfl))
            case' rsq6 => (try simp only [Act.put, List.setIfInBounds_toArray, List.set_cons_zero, List.set_cons_succ])
            refine wpAnyH_take (i := 6) (oi := { dst := some 64, op := Go.Op.nilCheck (Go.Operand.tmp 63), type := 0, pos := "law.go:30", after := #[{ on := 5, ground := Go.Ground.data }, { on := 4, ground := Go.Ground.guard }], guard := some (4, true) }) (v := ?vq7) rfl (by kernel_rfl) (by kernel_rfl) (by kernel_rfl) (fun _ _ _ h => h) (Or.inl ⟨by rfl, ?hyq7⟩) (by assumption) ?rsq7
            case hyq7 => (intro w hSw; first | (go_simp; done) | (go_simp; with_reducible rfl) | ((try dsimp only at hSw); go_split_ands; go_simp; done) | ((try dsimp only at hSw); go_split_ands; go_simp; with_reducible rfl))
            case' rsq7 => (try simp only [Act.put, List.setIfInBounds_toArray, List.set_cons_zero, List.set_cons_succ])
            refine wpAnyH_take (i := 7) (oi := { dst := some 65, op := Go.Op.fieldAddr 95 (Go.Operand.tmp 64) 1, type := 0, pos := "law.go:30", after := #[{ on := 6, ground := Go.Ground.data }, { on := 4, ground := Go.Ground.guard }], guard := some (4, true) }) (v := ?vq8) rfl (by kernel_rfl) (by kernel_rfl) (by kernel_rfl) (fun _ _ _ h => h) (Or.inl ⟨by rfl, ?hyq8⟩) (by assumption) ?rsq8
            case hyq8 => (intro w hSw; first | (go_simp; done) | (go_simp; with_reducible rfl) | ((try dsimp only at hSw); go_split_ands; go_simp; done) | ((try dsimp only at hSw); go_split_ands; go_simp; with_reducible rfl))
            case' rsq8 => (try simp only [Act.put, List.setIfInBounds_toArray, List.set_cons_zero, List.set_cons_succ])
            refine wpAnyH_take (i := 8) (oi := { dst := some 66, op := Go.Op.load 4 (Go.Operand.tmp 65), type := 4, pos := "law.go:30", after := #[{ on := 7, ground := Go.Ground.data }, { on := 4, ground := Go.Ground.guard }], guard := some (4, true) }) (v := ?vq9) rfl (by kernel_rfl) (by kernel_rfl) (by kernel_rfl) (fun _ _ _ h => h) (Or.inl ⟨by rfl, ?hyq9⟩) (by assumption) ?rsq9
            case hyq9 => (intro w hSw; first | (go_simp; done) | (go_simp; with_reducible rfl) | ((try dsimp only at hSw); go_split_ands; go_simp; done) | ((try dsimp only at hSw); go_split_ands; go_simp; with_reducible rfl))
            case' rsq9 => (try simp only [Act.put, List.setIfInBounds_toArray, List.set_cons_zero, List.set_cons_succ])
            refine wpAnyH_take (i := 9) (oi := { dst := some 67, op := Go.Op.unOp Go.UnOp.not 4 (Go.Operand.tmp 66), type := 4, pos := "law.go:30", after := #[{ on := 8, ground := Go.Ground.data }, { on := 4, ground := Go.Ground.guard }], guard := some (4, true) }) (v := ?vq10) rfl (by kernel_rfl) (by kernel_rfl) (by kernel_rfl) (fun _ _ _ h => h) (Or.inl ⟨by rfl, ?hyq10⟩) (by assumption) ?rsq10
            case hyq10 => (intro w hSw; first | (go_simp; done) | (go_simp; with_reducible rfl) | ((try dsimp only at hSw); go_split_ands; go_simp; done) | ((try dsimp only at hSw); go_split_ands; go_simp; with_reducible rfl))
            case' rsq10 => (try simp only [Act.put, List.setIfInBounds_toArray, List.set_cons_zero, List.set_cons_succ])
            refine wpAnyH_take (i := 10) (oi := { dst := some 68, op := Go.Op.pick (Go.Operand.tmp 62) (Go.Operand.tmp 67) (Go.Operand.const (Go.Value.bool false)), type := 4, pos := "law.go:30", after := #[{ on := 4, ground := Go.Ground.data }, { on := 9, ground := Go.Ground.data }], guard := none }) (v := ?vq11) rfl (by kernel_rfl) (by kernel_rfl) (by kernel_rfl) (fun _ _ _ h => h) (Or.inl ⟨by rfl, ?hyq11⟩) (by assumption) ?rsq11
            case hyq11 => (intro w hSw; first | (go_simp; done) | (go_simp; with_reducible rfl) | ((try dsimp only at hSw); go_split_ands; go_simp; done) | ((try dsimp only at hSw); go_split_ands; go_simp; with_reducible rfl))
            case' rsq11 => (try simp only [Act.put, List.setIfInBounds_toArray, List.set_cons_zero, List.set_cons_succ])
            refine wpAnyH_take (i := 11) (oi := { dst := some 69, op := Go.Op.move (Go.Operand.tmp 68), type := 4, pos := "law.go:30", after := #[{ on := 10, ground := Go.Ground.data }, { on := 4, ground := Go.Ground.chain }], guard := none }) (v := ?vq12) rfl (by kernel_rfl) (by kernel_rfl) (by kernel_rfl) (fun _ _ _ h => h) (Or.inl ⟨by rfl, ?hyq12⟩) (by assumption) ?rsq12
            case hyq12 => (intro w hSw; first | (go_simp; done) | (go_simp; with_reducible rfl) | ((try dsimp only at hSw); go_split_ands; go_simp; done) | ((try dsimp only at hSw); go_split_ands; go_simp; with_reducible rfl))
            case' rsq12 => (try simp only [Act.put, List.setIfInBounds_toArray, List.set_cons_zero, List.set_cons_succ])
            refine wpAnyH_take (i := 12) (oi := { dst := some 70, op := Go.Op.move (Go.Operand.tmp 2), type := 24, pos := "law.go:30", after := #[{ on := 11, ground := Go.Ground.guard }], guard := some (11, true) }) (v := ?vq13) rfl (by kernel_rfl) (by kernel_rfl) (by kernel_rfl) (fun _ _ _ h => h) (Or.inl ⟨by rfl, ?hyq13⟩) (by assumption) ?rsq13
            case hyq13 => (intro w hSw; first | (go_simp; done) | (go_simp; with_reducible rfl) | ((try dsimp only at hSw); go_split_ands; go_simp; done) | ((try dsimp only at hSw); go_split_ands; go_simp; with_reducible rfl))
            case' rsq13 => (try simp only [Act.put, List.setIfInBounds_toArray, List.set_cons_zero, List.set_cons_succ])
            refine wpAnyH_take (i := 14) (oi := { dst := some 72, op := Go.Op.load 23 (Go.Operand.tmp 1), type := 23, pos := "law.go:30", after := #[{ on := 11, ground := Go.Ground.guard }], guard := some (11, true) }) (v := ?vq14) rfl (by kernel_rfl) (by kernel_rfl) (by kernel_rfl) (fun _ _ _ h => h) (Or.inl ⟨by rfl, ?hyq14⟩) (by assumption) ?rsq14
            case hyq14 => (intro w hSw; first | (go_simp; done) | (go_simp; with_reducible rfl) | ((try dsimp only at hSw); go_split_ands; go_simp; done) | ((try dsimp only at hSw); go_split_ands; go_simp; with_reducible rfl))
            case' rsq14 => (try simp only [Act.put, List.setIfInBounds_toArray, List.set_cons_zero, List.set_cons_succ])
            refine wpAnyH_take (i := 18) (oi := { dst := some 76, op := Go.Op.build 85 #[(4, Go.Operand.const (Go.Value.int Go.IntKind.i64 1))], type := 85, pos := "law.go:30", after := #[{ on := 11, ground := Go.Ground.guard }], guard := some (11, true) }) (v := ?vq15) rfl (by kernel_rfl) (by kernel_rfl) (by kernel_rfl) (fun _ _ _ h => h) (Or.inl ⟨by rfl, ?hyq15⟩) (by assumption) ?rsq15
            case hyq15 => (intro w hSw; first | (go_simp; done) | (go_simp; with_reducible rfl) | ((try dsimp only at hSw); go_split_ands; go_simp; done) | ((try dsimp only at hSw); go_split_ands; go_simp; with_reducible rfl))
            case' rsq15 => (try simp only [Act.put, List.setIfInBounds_toArray, List.set_cons_zero, List.set_cons_succ])
            refine wpAnyH_ready (rs := [13]) (by kernel_rfl) (by simp) ?_
            refine AllReadyH.cons (o := { dst := some 71, op := Go.Op.call { callee := Go.Callee.value (Go.Operand.func 24), args := #[Go.Operand.tmp 70], argTypes := #[24] }, type := 29, pos := "law.go:30", after := #[{ on := 12, ground := Go.Ground.data }, { on := 11, ground := Go.Ground.chain }, { on := 11, ground := Go.Ground.guard }], guard := some (11, true) }) rfl (fun K hK => ?_) ?_
            · go_simp
              (go_at_call 24; refine (words_n _ m b 13 _ hM2.out hsn.out (by decide)).mono ?_; rintro e wa ⟨A1, ca, b1, rfl, _, hR1, hb9⟩; obtain ⟨hA1, hc1, _⟩ := hR1.cell (i := 8) (by decide); rw [h65.out] at hc1; subst hA1; replace hbf := Lib.hid (hbf.out.trans (hb9.mono hbf.out.size)); replace hC := Lib.hid (hC.out.below hb9 hC.out.lt); have hY1 := And.intro (hFf.out _ hbf.out).1 (And.intro (hFf.out _ hbf.out).2 (cfgs hC.out)); replace hW := Lib.hid (hW.out.trans (hb9.mono (by have := hW.out.size; have := hbf.out.size; omega))); replace hR1 := Lib.hid hR1; replace hM2 := Lib.hid (hM2.out.next hb9); clear hb9)
              refine hK.out _ _ (by assumption) (fun hHeld => ?_)
              clear hK K
              try simp only [Act.put, List.setIfInBounds_toArray, List.set_cons_zero, List.set_cons_succ]
              refine wpAnyH_ready (rs := [15]) (by kernel_rfl) (by simp) ?_
              refine AllReadyH.cons (o := { dst := some 73, op := Go.Op.call { callee := Go.Callee.value (Go.Operand.func 72), args := #[Go.Operand.tmp 72, Go.Operand.const (Go.Value.int Go.IntKind.i64 0)], argTypes := #[23, 3] }, type := 3, pos := "law.go:30", after := #[{ on := 14, ground := Go.Ground.data }, { on := 13, ground := Go.Ground.chain }, { on := 11, ground := Go.Ground.guard }], guard := some (11, true) }) rfl (fun K hK => ?_) ?_
              · go_simp
                (go_at_call 72; refine (headerC c12 _ 0).mono ?_; rintro e wb ⟨rfl, hb9⟩; rw [hh.out]; replace hM2 := Lib.hid (hM2.out.next hb9); replace hbf := Lib.hid (hbf.out.trans (hb9.mono hbf.out.size)); replace hC := Lib.hid (hC.out.below hb9 hC.out.lt); have hY2 := And.intro (hFf.out _ hbf.out).1 (And.intro (hFf.out _ hbf.out).2 (cfgs hC.out)); replace hW := Lib.hid (hW.out.trans (hb9.mono (by have := hW.out.size; have := hbf.out.size; omega))); (try (replace hR1 := Lib.hid (hR1.out.below hb9 (Nat.le_refl _)); have hc2 := (hR1.out.cell (i := 8) (by decide)).2.1; rw [h65.out] at hc2)); clear hb9)
                refine hK.out _ _ (by assumption) (fun hHeld => ?_)
                clear hK K
                try simp only [Act.put, List.setIfInBounds_toArray, List.set_cons_zero, List.set_cons_succ]
                refine wpAnyH_take (i := 16) (oi := { dst := some 74, op := Go.Op.indexAddr 29 (Go.Operand.tmp 71) (Go.Operand.tmp 73), type := 0, pos := "law.go:30", after := #[{ on := 13, ground := Go.Ground.data }, { on := 15, ground := Go.Ground.data }, { on := 11, ground := Go.Ground.guard }], guard := some (11, true) }) (v := ?vq16) rfl (by kernel_rfl) (by kernel_rfl) (by kernel_rfl) (fun _ _ _ h => h) (Or.inl ⟨by rfl, ?hyq16⟩) (by assumption) ?rsq16
                case hyq16 => (intro w hSw; first | (go_simp; done) | (go_simp; with_reducible rfl) | ((try dsimp only at hSw); go_split_ands; go_simp; done) | ((try dsimp only at hSw); go_split_ands; go_simp; with_reducible rfl))
                case' rsq16 => (try simp only [Act.put, List.setIfInBounds_toArray, List.set_cons_zero, List.set_cons_succ])
                refine wpAnyH_ready (rs := [17, 19]) (by kernel_rfl) (by simp) ?_
                refine AllReadyH.cons (o := { dst := some 75, op := Go.Op.load 33 (Go.Operand.tmp 74), type := 33, pos := "law.go:30", after := #[{ on := 16, ground := Go.Ground.data }, { on := 11, ground := Go.Ground.guard }], guard := some (11, true) }) rfl (fun K hK => ?_) ?_
                · go_simp
                  refine hK.out _ _ (by assumption) (fun hHeld => ?_)
                  clear hK K
                  try simp only [Act.put, List.setIfInBounds_toArray, List.set_cons_zero, List.set_cons_succ]
                  refine wpAnyH_ready (rs := [19]) (by kernel_rfl) (by simp) ?_
                  refine AllReadyH.cons (o := { dst := some 77, op := Go.Op.call { callee := Go.Callee.value (Go.Operand.func 58), args := #[Go.Operand.tmp 76], argTypes := #[85] }, type := 33, pos := "law.go:30", after := #[{ on := 18, ground := Go.Ground.data }, { on := 15, ground := Go.Ground.chain }, { on := 11, ground := Go.Ground.guard }], guard := some (11, true) }) rfl (fun K hK => ?_) ?_
                  · go_simp
                    (go_at_call 58; refine (rPack_c 0 0 false 0 1 0 (by decide) _).mono ?_; rintro e wd ⟨rfl, hb9⟩; rw [hn2.out]; replace hM2 := Lib.hid (hM2.out.next hb9); replace hbf := Lib.hid (hbf.out.trans (hb9.mono hbf.out.size)); replace hC := Lib.hid (hC.out.below hb9 hC.out.lt); have hY3 := And.intro (hFf.out _ hbf.out).1 (And.intro (hFf.out _ hbf.out).2 (cfgs hC.out)); replace hW := Lib.hid (hW.out.trans (hb9.mono (by have := hW.out.size; have := hbf.out.size; omega))); (try (replace hR1 := Lib.hid (hR1.out.below hb9 (Nat.le_refl _)); have hc3 := (hR1.out.cell (i := 8) (by decide)).2.1; rw [h65.out] at hc3)); clear hb9)
                    refine hK.out _ _ (by assumption) (fun hHeld => ?_)
                    clear hK K
                    try simp only [Act.put, List.setIfInBounds_toArray, List.set_cons_zero, List.set_cons_succ]
                    refine wpAnyH_take (i := 20) (oi := { dst := some 78, op := Go.Op.binOp Go.BinOp.eql 33 (Go.Operand.tmp 75) (Go.Operand.tmp 77) 33, type := 4, pos := "law.go:30", after := #[{ on := 17, ground := Go.Ground.data }, { on := 19, ground := Go.Ground.data }, { on := 11, ground := Go.Ground.guard }], guard := some (11, true) }) (v := ?vq17) rfl (by kernel_rfl) (by kernel_rfl) (by kernel_rfl) (fun _ _ _ h => h) (Or.inl ⟨by rfl, ?hyq17⟩) (by assumption) ?rsq17
                    case hyq17 => (intro w hSw; first | (go_simp; done) | (go_simp; with_reducible rfl) | ((try dsimp only at hSw); go_split_ands; go_simp; done) | ((try dsimp only at hSw); go_split_ands; go_simp; with_reducible rfl))
                    case' rsq17 => (try simp only [Act.put, List.setIfInBounds_toArray, List.set_cons_zero, List.set_cons_succ])
                    refine wpAnyH_take (i := 21) (oi := { dst := some 79, op := Go.Op.pick (Go.Operand.tmp 69) (Go.Operand.tmp 78) (Go.Operand.const (Go.Value.bool false)), type := 4, pos := "law.go:30", after := #[{ on := 11, ground := Go.Ground.data }, { on := 20, ground := Go.Ground.data }], guard := none }) (v := ?vq18) rfl (by kernel_rfl) (by kernel_rfl) (by kernel_rfl) (fun _ _ _ h => h) (Or.inl ⟨by rfl, ?hyq18⟩) (by assumption) ?rsq18
                    case hyq18 => (intro w hSw; first | (go_simp; done) | (go_simp; with_reducible rfl) | ((try dsimp only at hSw); go_split_ands; go_simp; done) | ((try dsimp only at hSw); go_split_ands; go_simp; with_reducible rfl))
                    case' rsq18 => (try simp only [Act.put, List.setIfInBounds_toArray, List.set_cons_zero, List.set_cons_succ])
                    refine wpAnyH_take (i := 22) (oi := { dst := some 0, op := Go.Op.assign (Go.Operand.tmp 79), type := 4, pos := "law.go:30", after := #[{ on := 21, ground := Go.Ground.data }, { on := 19, ground := Go.Ground.chain }, { on := 0, ground := Go.Ground.phase }, { on := 1, ground := Go.Ground.phase }, { on := 2, ground := Go.Ground.phase }, { on := 3, ground := Go.Ground.phase }, { on := 4, ground := Go.Ground.phase }, { on := 5, ground := Go.Ground.phase }, { on := 6, ground := Go.Ground.phase }, { on := 7, ground := Go.Ground.phase }, { on := 8, ground := Go.Ground.phase }, { on := 9, ground := Go.Ground.phase }, { on := 10, ground := Go.Ground.phase }, { on := 11, ground := Go.Ground.phase }, { on := 12, ground := Go.Ground.phase }, { on := 13, ground := Go.Ground.phase }, { on := 14, ground := Go.Ground.phase }, { on := 15, ground := Go.Ground.phase }, { on := 16, ground := Go.Ground.phase }, { on := 17, ground := Go.Ground.phase }, { on := 18, ground := Go.Ground.phase }, { on := 19, ground := Go.Ground.phase }, { on := 20, ground := Go.Ground.phase }, { on := 21, ground := Go.Ground.phase }], guard := none }) (v := ?vq19) rfl (by kernel_rfl) (by kernel_rfl) (by kernel_rfl) (fun _ _ _ h => h) (Or.inl ⟨by rfl, ?hyq19⟩) (by assumption) ?rsq19
                    case hyq19 => (intro w hSw; first | (go_simp; done) | (go_simp; with_reducible rfl) | ((try dsimp only at hSw); go_split_ands; go_simp; done) | ((try dsimp only at hSw); go_split_ands; go_simp; with_reducible rfl))
                    case' rsq19 => (try simp only [Act.put, List.setIfInBounds_toArray, List.set_cons_zero, List.set_cons_succ])
                    refine wpAnyH_done (by kernel_rfl) ?_ _
                    clear hX'
                    go_wp2
                    go_ret
                    exact ⟨rfl, hCFe ▸ hW.out⟩
                  exact AllReadyH.nil
                refine AllReadyH.cons (o := { dst := some 77, op := Go.Op.call { callee := Go.Callee.value (Go.Operand.func 58), args := #[Go.Operand.tmp 76], argTypes := #[85] }, type := 33, pos := "law.go:30", after := #[{ on := 18, ground := Go.Ground.data }, { on := 15, ground := Go.Ground.chain }, { on := 11, ground := Go.Ground.guard }], guard := some (11, true) }) rfl (fun K hK => ?_) ?_
                · go_simp
                  (go_at_call 58; refine (rPack_c 0 0 false 0 1 0 (by decide) _).mono ?_; rintro e wd ⟨rfl, hb9⟩; rw [hn2.out]; replace hM2 := Lib.hid (hM2.out.next hb9); replace hbf := Lib.hid (hbf.out.trans (hb9.mono hbf.out.size)); replace hC := Lib.hid (hC.out.below hb9 hC.out.lt); have hY3 := And.intro (hFf.out _ hbf.out).1 (And.intro (hFf.out _ hbf.out).2 (cfgs hC.out)); replace hW := Lib.hid (hW.out.trans (hb9.mono (by have := hW.out.size; have := hbf.out.size; omega))); (try (replace hR1 := Lib.hid (hR1.out.below hb9 (Nat.le_refl _)); have hc3 := (hR1.out.cell (i := 8) (by decide)).2.1; rw [h65.out] at hc3)); clear hb9)
                  refine hK.out _ _ (by assumption) (fun hHeld => ?_)
                  clear hK K
                  try simp only [Act.put, List.setIfInBounds_toArray, List.set_cons_zero, List.set_cons_succ]
                  refine wpAnyH_ready (rs := [17]) (by kernel_rfl) (by simp) ?_
                  refine AllReadyH.cons (o := { dst := some 75, op := Go.Op.load 33 (Go.Operand.tmp 74), type := 33, pos := "law.go:30", after := #[{ on := 16, ground := Go.Ground.data }, { on := 11, ground := Go.Ground.guard }], guard := some (11, true) }) rfl (fun K hK => ?_) ?_
                  · go_simp
                    refine hK.out _ _ (by assumption) (fun hHeld => ?_)
                    clear hK K
                    try simp only [Act.put, List.setIfInBounds_toArray, List.set_cons_zero, List.set_cons_succ]
                    refine wpAnyH_take (i := 20) (oi := { dst := some 78, op := Go.Op.binOp Go.BinOp.eql 33 (Go.Operand.tmp 75) (Go.Operand.tmp 77) 33, type := 4, pos := "law.go:30", after := #[{ on := 17, ground := Go.Ground.data }, { on := 19, ground := Go.Ground.data }, { on := 11, ground := Go.Ground.guard }], guard := some (11, true) }) (v := ?vq20) rfl (by kernel_rfl) (by kernel_rfl) (by kernel_rfl) (fun _ _ _ h => h) (Or.inl ⟨by rfl, ?hyq20⟩) (by assumption) ?rsq20
                    case hyq20 => (intro w hSw; first | (go_simp; done) | (go_simp; with_reducible rfl) | ((try dsimp only at hSw); go_split_ands; go_simp; done) | ((try dsimp only at hSw); go_split_ands; go_simp; with_reducible rfl))
                    case' rsq20 => (try simp only [Act.put, List.setIfInBounds_toArray, List.set_cons_zero, List.set_cons_succ])
                    refine wpAnyH_take (i := 21) (oi := { dst := some 79, op := Go.Op.pick (Go.Operand.tmp 69) (Go.Operand.tmp 78) (Go.Operand.const (Go.Value.bool false)), type := 4, pos := "law.go:30", after := #[{ on := 11, ground := Go.Ground.data }, { on := 20, ground := Go.Ground.data }], guard := none }) (v := ?vq21) rfl (by kernel_rfl) (by kernel_rfl) (by kernel_rfl) (fun _ _ _ h => h) (Or.inl ⟨by rfl, ?hyq21⟩) (by assumption) ?rsq21
                    case hyq21 => (intro w hSw; first | (go_simp; done) | (go_simp; with_reducible rfl) | ((try dsimp only at hSw); go_split_ands; go_simp; done) | ((try dsimp only at hSw); go_split_ands; go_simp; with_reducible rfl))
                    case' rsq21 => (try simp only [Act.put, List.setIfInBounds_toArray, List.set_cons_zero, List.set_cons_succ])
                    refine wpAnyH_take (i := 22) (oi := { dst := some 0, op := Go.Op.assign (Go.Operand.tmp 79), type := 4, pos := "law.go:30", after := #[{ on := 21, ground := Go.Ground.data }, { on := 19, ground := Go.Ground.chain }, { on := 0, ground := Go.Ground.phase }, { on := 1, ground := Go.Ground.phase }, { on := 2, ground := Go.Ground.phase }, { on := 3, ground := Go.Ground.phase }, { on := 4, ground := Go.Ground.phase }, { on := 5, ground := Go.Ground.phase }, { on := 6, ground := Go.Ground.phase }, { on := 7, ground := Go.Ground.phase }, { on := 8, ground := Go.Ground.phase }, { on := 9, ground := Go.Ground.phase }, { on := 10, ground := Go.Ground.phase }, { on := 11, ground := Go.Ground.phase }, { on := 12, ground := Go.Ground.phase }, { on := 13, ground := Go.Ground.phase }, { on := 14, ground := Go.Ground.phase }, { on := 15, ground := Go.Ground.phase }, { on := 16, ground := Go.Ground.phase }, { on := 17, ground := Go.Ground.phase }, { on := 18, ground := Go.Ground.phase }, { on := 19, ground := Go.Ground.phase }, { on := 20, ground := Go.Ground.phase }, { on := 21, ground := Go.Ground.phase }], guard := none }) (v := ?vq22) rfl (by kernel_rfl) (by kernel_rfl) (by kernel_rfl) (fun _ _ _ h => h) (Or.inl ⟨by rfl, ?hyq22⟩) (by assumption) ?rsq22
                    case hyq22 => (intro w hSw; first | (go_simp; done) | (go_simp; with_reducible rfl) | ((try dsimp only at hSw); go_split_ands; go_simp; done) | ((try dsimp only at hSw); go_split_ands; go_simp; with_reducible rfl))
                    case' rsq22 => (try simp only [Act.put, List.setIfInBounds_toArray, List.set_cons_zero, List.set_cons_succ])
                    refine wpAnyH_done (by kernel_rfl) ?_ _
                    clear hX'
                    go_wp2
                    go_ret
                    exact ⟨rfl, hCFe ▸ hW.out⟩
                  exact AllReadyH.nil
                exact AllReadyH.nil
              exact AllReadyH.nil
            exact AllReadyH.nil
end Go.Proofs.Ytijfkpoofpcacaa.ArenaT
end
namespace Go.Proofs.Ytijfkpoofpcacaa.ArenaU
end Go.Proofs.Ytijfkpoofpcacaa.ArenaU
section
set_option linter.unusedVariables false
set_option linter.unusedSimpArgs false
namespace Go.Proofs.Ytijfkpoofpcacaa.ArenaV
open Go.RowKit Go.Proofs.YtijfkpoofpcacaaW.PrintWords Go.Proofs.Ytijfkpoofpcacaa.Blk Go.Proofs.Ytijfkpoofpcacaa.Core Go.Proofs.Ytijfkpoofpcacaa.MemC Go.Proofs.Ytijfkpoofpcacaa.MemD Go.Proofs.Ytijfkpoofpcacaa.MemT Go.Proofs.Ytijfkpoofpcacaa.Memory Go.Proofs.Ytijfkpoofpcacaa.PlanC Go.Proofs.Ytijfkpoofpcacaa.PlanD Go.Proofs.Ytijfkpoofpcacaa.StackC Go.Proofs.Ytijfkpoofpcacaa.StackL Go.Proofs.Ytijfkpoofpcacaa.StackS Go.Proofs.Ytijfkpoofpcacaa.StackF Go.Proofs.Ytijfkpoofpcacaa.StackP Go.Proofs.Ytijfkpoofpcacaa.StackG Go.Proofs.Ytijfkpoofpcacaa.HeadC Go.Proofs.Ytijfkpoofpcacaa.ArenaC Go.Proofs.Ytijfkpoofpcacaa.ArenaM Go.Proofs.Ytijfkpoofpcacaa.ArenaN Go.Proofs.Ytijfkpoofpcacaa.ArenaP Go.Proofs.Ytijfkpoofpcacaa.ArenaL Go.Proofs.Ytijfkpoofpcacaa.ArenaR Go.Proofs.Ytijfkpoofpcacaa.ArenaQ Go.Proofs.Ytijfkpoofpcacaa.ArenaS Go.Proofs.Ytijfkpoofpcacaa.ArenaT Go.Proofs.Ytijfkpoofpcacaa.ArenaU Go.Proofs.Ytijfkpoofpcacaa.Opens
theorem below_four {w0 w w' : World} {n p q m b : Nat} (h : Below n w0 w) (hF : Fr (four p q m b) w w') (hn : n ≤ w.heap.size) (hp : n ≤ p) (hq : n ≤ q) (hm : n ≤ m) (hb : n ≤ b) : Below n w0 w' :=
  h.trans (hF.below (fun k hk => ⟨by omega, not_four (by omega) (by omega) (by omega) (by omega)⟩))
end Go.Proofs.Ytijfkpoofpcacaa.ArenaV
end
section
set_option linter.unusedVariables false
namespace Go.Proofs.Ytijfkpoofpcacaa.RefM
open Go.RowKit Go.Proofs.Ytijfkpoofpcacaa.PArenaPlays Go.Proofs.YtijfkpoofpcacaaW.PrintWords Go.Proofs.Ytijfkpoofpcacaa.Blk Go.Proofs.Ytijfkpoofpcacaa.Core Go.Proofs.Ytijfkpoofpcacaa.PuArenaPlays Go.Proofs.Ytijfkpoofpcacaa.MemC Go.Proofs.Ytijfkpoofpcacaa.MemD Go.Proofs.Ytijfkpoofpcacaa.MemT Go.Proofs.Ytijfkpoofpcacaa.Memory Go.Proofs.Ytijfkpoofpcacaa.PlanC Go.Proofs.Ytijfkpoofpcacaa.Opens
theorem _root_.Go.Proofs.Ytijfkpoofpcacaa.Opens.Sl.fr {P : Nat → Prop} {w w' : World} {A n m V} (h : Sl w A n m V) (hf : Fr P w w') (hb : ∀ b o, A = some ⟨b, o, none⟩ → 0 < n → ¬ P b) : Sl w' A n m V := by
  intro hn
  obtain ⟨b, off, e, hl, hc⟩ := h hn
  refine ⟨b, off, e, Nat.lt_of_lt_of_le hl hf.size, fun i hi j hj => ?_⟩
  have := hf.keep b hl (hb b off e hn)
  have h2 := hc i hi j hj
  simp only [World.cell?] at h2 ⊢
  rw [this]; exact h2
end Go.Proofs.Ytijfkpoofpcacaa.RefM
end
section
set_option linter.unusedVariables false
set_option linter.unusedSectionVars false
set_option linter.unusedSimpArgs false
namespace Go.Proofs.Ytijfkpoofpcacaa.ArenaW
open Go.RowKit Go.Proofs.YtijfkpoofpcacaaW.PrintWords Go.Proofs.Ytijfkpoofpcacaa.PArenaPlays Go.Proofs.Ytijfkpoofpcacaa.PuArenaPlays Go.Proofs.Ytijfkpoofpcacaa.Blk Go.Proofs.Ytijfkpoofpcacaa.Core Go.Proofs.Ytijfkpoofpcacaa.MemC Go.Proofs.Ytijfkpoofpcacaa.MemD Go.Proofs.Ytijfkpoofpcacaa.MemT Go.Proofs.Ytijfkpoofpcacaa.Memory Go.Proofs.Ytijfkpoofpcacaa.PlanC Go.Proofs.Ytijfkpoofpcacaa.PlanD Go.Proofs.Ytijfkpoofpcacaa.RefM Go.Proofs.Ytijfkpoofpcacaa.StackC Go.Proofs.Ytijfkpoofpcacaa.StackL Go.Proofs.Ytijfkpoofpcacaa.StackS Go.Proofs.Ytijfkpoofpcacaa.StackF Go.Proofs.Ytijfkpoofpcacaa.StackP Go.Proofs.Ytijfkpoofpcacaa.StackG Go.Proofs.Ytijfkpoofpcacaa.HeadC Go.Proofs.Ytijfkpoofpcacaa.ArenaC Go.Proofs.Ytijfkpoofpcacaa.ArenaM Go.Proofs.Ytijfkpoofpcacaa.ArenaN Go.Proofs.Ytijfkpoofpcacaa.ArenaP Go.Proofs.Ytijfkpoofpcacaa.ArenaL Go.Proofs.Ytijfkpoofpcacaa.ArenaR Go.Proofs.Ytijfkpoofpcacaa.ArenaQ Go.Proofs.Ytijfkpoofpcacaa.ArenaS Go.Proofs.Ytijfkpoofpcacaa.ArenaT Go.Proofs.Ytijfkpoofpcacaa.ArenaU Go.Proofs.Ytijfkpoofpcacaa.Opens
theorem refHeaderC (c : Cf) (w : World) (s : Int) : Calls Try.prog 56 #[.agg #[.int .i64 c.S, .int .i64 c.A, .int .i64 c.C, .int .i64 c.H, .int .i64 c.G, .int .i64 c.K], .agg #[.string ⟨#[104, 101, 97, 100, 101, 114]⟩, .int .i64 s, .int .i64 0]] w fun e w' => e = .returned (.int .i64 (c.header s)) ∧ Below w.heap.size w w' := by
  obtain ⟨S, X, C, H, G, K⟩ := c
  by_cases h : rightB S X C H G K = true
  · have hr := right_iff.1 h
    obtain ⟨s', rfl⟩ := Int.eq_ofNat_of_zero_le (show 0 ≤ S by omega)
    obtain ⟨c, rfl⟩ := Int.eq_ofNat_of_zero_le (show 0 ≤ C by omega)
    obtain ⟨hh, rfl⟩ := Int.eq_ofNat_of_zero_le (show 0 ≤ H by omega)
    refine withyref06_At.calls 2000 s' X c hh G K ⟨#[104, 101, 97, 100, 101, 114]⟩ s 0 _ w ?_
    have hR : (2 : Int) + (roomN X : Nat) = roomV X := by unfold roomN roomV; split <;> omega
    rw [p_rAt 2000 s' c hh X G K ⟨#[104, 101, 97, 100, 101, 114]⟩ s 0 (by decide) h (0 ≤ s ∧ s < s') mem_header]
    unfold Cf.header Cf.right
    congr 1
    by_cases d : 0 ≤ s ∧ s < s'
    · rw [if_pos d, if_pos ⟨h, d.1, d.2⟩]
      simp [posW, slotsV, hR]
    · rw [if_neg d, if_neg (fun x => d x.2)]
  · refine withyref06_At.calls 2000 S X C H G K ⟨#[104, 101, 97, 100, 101, 114]⟩ s 0 _ w ?_
    rw [p_rAt_no 2000 S C H X G K _ _ _ h]
    unfold Cf.header Cf.right
    rw [if_neg (fun x => h x.1)]
end Go.Proofs.Ytijfkpoofpcacaa.ArenaW
end
section
set_option linter.unusedVariables false
set_option linter.unusedSimpArgs false
namespace Go.Proofs.Ytijfkpoofpcacaa.ArenaY
open Go.RowKit Go.Proofs.YtijfkpoofpcacaaW.PrintWords Go.Proofs.Ytijfkpoofpcacaa.Blk Go.Proofs.Ytijfkpoofpcacaa.Core Go.Proofs.Ytijfkpoofpcacaa.MemC Go.Proofs.Ytijfkpoofpcacaa.MemD Go.Proofs.Ytijfkpoofpcacaa.MemT Go.Proofs.Ytijfkpoofpcacaa.Memory Go.Proofs.Ytijfkpoofpcacaa.PlanC Go.Proofs.Ytijfkpoofpcacaa.PlanD Go.Proofs.Ytijfkpoofpcacaa.StackC Go.Proofs.Ytijfkpoofpcacaa.StackL Go.Proofs.Ytijfkpoofpcacaa.StackS Go.Proofs.Ytijfkpoofpcacaa.StackT Go.Proofs.Ytijfkpoofpcacaa.StackF Go.Proofs.Ytijfkpoofpcacaa.StackP Go.Proofs.Ytijfkpoofpcacaa.HeadC Go.Proofs.Ytijfkpoofpcacaa.ArenaL Go.Proofs.Ytijfkpoofpcacaa.ArenaR Go.Proofs.Ytijfkpoofpcacaa.ArenaS Go.Proofs.Ytijfkpoofpcacaa.Opens
def hdRight (k m a n s : Int) : Prop := 0 ≤ k ∧ k ≤ 4 ∧ 0 ≤ m ∧ m ≤ 1 ∧ 0 ≤ a ∧ a ≤ 15 ∧ 0 ≤ n ∧ n ≤ 4294967295 ∧ 0 ≤ s ∧ s ≤ 65535
theorem u_head {k m : Int} {g : Bool} {a n s : Int} (h : hdRight k m a n s) : okW (headN k m g a n s) = true ∧ uK (headN k m g a n s) = k ∧ uM (headN k m g a n s) = m ∧ uG (headN k m g a n s) = g ∧ uA (headN k m g a n s) = a ∧ uN (headN k m g a n s) = n ∧ uS (headN k m g a n s) = s := by
  unfold hdRight at h
  have ok : okW (headN k m g a n s) = true := by
    unfold okW headN
    rw [decide_eq_true_iff]
    cases g <;> simp <;> omega
  obtain ⟨e1, e2, e3, e4, e5, e6⟩ := u_yes ok
  refine ⟨ok, ?_, ?_, ?_, ?_, ?_, ?_⟩
  · rw [e1]; unfold headN; cases g <;> simp <;> omega
  · rw [e2]; unfold headN; cases g <;> simp <;> omega
  · rw [e3]; unfold headN; cases g
    · rw [beq_eq_false_iff_ne]; simp; omega
    · rw [beq_iff_eq]; simp; omega
  · rw [e4]; unfold headN; cases g <;> simp <;> omega
  · rw [e5]; unfold headN; cases g <;> simp <;> omega
  · rw [e6]; unfold headN; cases g <;> simp <;> omega
theorem freed_k {k m : Int} {g : Bool} {a n s G : Int} (h : hdRight k m a n s) (hk : k ≠ 3) : freedV (headN k m g a n s) G = (headN k m g a n s, false) := by
  obtain ⟨u1, u2, _⟩ := u_head (g := g) h
  unfold freedV; rw [if_neg (fun x => hk (u2 ▸ x.2))]
theorem freed_d {m : Int} {g : Bool} {a n s G : Int} (h : hdRight 3 m a n s) (hG : G ≤ n + 1) : freedV (headN 3 m g a n s) G = (headN 4 m g a n s, true) := by
  obtain ⟨u1, u2, u3, u4, u5, u6, u7⟩ := u_head (g := g) h
  unfold freedV; rw [if_pos ⟨u1, u2⟩, u3, u4, u5, u6, u7, if_pos (.inl hG)]
theorem freed_b {m : Int} {g : Bool} {a n s G : Int} (h : hdRight 3 m a n s) (hG : ¬ G ≤ n + 1) (hG2 : G ≤ 1000) : freedV (headN 3 m g a n s) G = (headN 0 0 false 0 (n + 1) 0, true) := by
  obtain ⟨u1, u2, u3, u4, u5, u6, u7⟩ := u_head (g := g) h
  unfold freedV; rw [if_pos ⟨u1, u2⟩, u6, if_neg (fun x => by rcases x with x | x <;> omega)]
theorem li_tail {w : World} {B : Nat} {A : Option Addr} {cc : Nat} {x : Int} {l : List Int} (h : Li w B (.slice A (x :: l).length cc) (x :: l)) : Li w B (.slice (if cc = 1 then A else A.map (·.add 1)) l.length (cc - 1)) l := by
  obtain ⟨A', cc', e, hc, hS, hB, hl⟩ := h
  injection e with e1 e2 e3
  subst e1 e3
  have hl1 : (x :: l).length = l.length + 1 := rfl
  rw [hl1] at hc hS hB hl
  obtain ⟨b, o, rfl, hlt, hcl⟩ := hS (Nat.succ_pos _)
  by_cases h1 : cc = 1
  · subst h1
    have h0 : l.length = 0 := by omega
    rw [if_pos rfl]
    exact ⟨_, _, rfl, by omega, fun k => absurd k (by omega), fun b o _ k => absurd k (by omega), by omega⟩
  · rw [if_neg h1, Option.map_some, Go.WideShapes.add_plain]
    refine ⟨_, _, rfl, by omega, fun _ => ⟨b, o + 1, rfl, hlt, fun i hi j hj => ?_⟩, fun b' o' e' _ => ?_, by omega⟩
    · have := hcl (i + 1) (by omega) j hj
      rw [show o + 1 + i * 1 + j = o + (i + 1) * 1 + j by omega]
      exact this
    · cases e'; exact hB b o rfl (Nat.succ_pos _)
theorem cut_int (A : Option Addr) (n cc : Nat) (h : 1 ≤ n) (W : World) : (Instr.slice 35 (.slice A n cc) (some (.int .i64 1)) none none).run Try.prog W = .ok (.slice (if cc = 1 then A else A.map (·.add 1)) (n - 1) (cc - 1)) W := by
  obtain ⟨i, hi, e⟩ := Option.map_eq_some_iff.1 infoI
  simp only [Prod.mk.injEq] at e
  obtain ⟨e0, e1, e2⟩ := e
  exact cut_from (P := Try.prog) 35 3 .i64 Try.underlying35 hi 1 e1 A n cc 1 (by decide) (by omega) W
section
variable (k m : Int) (g : Bool) (a n s : Int) (w : World)
set_option maxHeartbeats 2000000 in
set_option maxRecDepth 100000 in
theorem hr_k0 (h : k < 0) : Calls Try.prog 55 #[.agg #[.int .i64 k, .int .i64 m, .bool g, .int .i64 a, .int .i64 n, .int .i64 s]] w fun e w' => e = .returned (.bool false) ∧ Below w.heap.size w w' := by
  have hb := Lib.hid (Blk.new w 85 #[.int .i64 k, .int .i64 m, .bool g, .int .i64 a, .int .i64 n, .int .i64 s])
  have c0 := hb.out.cell (i := 0) (v := .int .i64 k) rfl
  have c1 := hb.out.cell (i := 1) (v := .int .i64 m) rfl
  have c3 := hb.out.cell (i := 3) (v := .int .i64 a) rfl
  have c4 := hb.out.cell (i := 4) (v := .int .i64 n) rfl
  have c5 := hb.out.cell (i := 5) (v := .int .i64 s) rfl
  go_enter Try.func55, Try.ntmps55
  go_wp2
  go_ret
  exact ⟨rfl, (Below.refl _ w).alloc (Nat.le_refl _) _⟩
set_option maxHeartbeats 2000000 in
set_option maxRecDepth 100000 in
theorem hr_k1 (h0 : 0 ≤ k) (h : 4 < k) : Calls Try.prog 55 #[.agg #[.int .i64 k, .int .i64 m, .bool g, .int .i64 a, .int .i64 n, .int .i64 s]] w fun e w' => e = .returned (.bool false) ∧ Below w.heap.size w w' := by
  have hb := Lib.hid (Blk.new w 85 #[.int .i64 k, .int .i64 m, .bool g, .int .i64 a, .int .i64 n, .int .i64 s])
  have c0 := hb.out.cell (i := 0) (v := .int .i64 k) rfl
  have c1 := hb.out.cell (i := 1) (v := .int .i64 m) rfl
  have c3 := hb.out.cell (i := 3) (v := .int .i64 a) rfl
  have c4 := hb.out.cell (i := 4) (v := .int .i64 n) rfl
  have c5 := hb.out.cell (i := 5) (v := .int .i64 s) rfl
  have d := decide_eq_false (show ¬ k ≤ 4 by omega)
  go_enter Try.func55, Try.ntmps55
  go_wp2
  go_ret
  exact ⟨rfl, (Below.refl _ w).alloc (Nat.le_refl _) _⟩
set_option maxHeartbeats 2000000 in
set_option maxRecDepth 100000 in
theorem hr_m (h0 : 0 ≤ k) (h1 : k ≤ 4) (h : m ≠ 0) (hm : m ≠ 1) : Calls Try.prog 55 #[.agg #[.int .i64 k, .int .i64 m, .bool g, .int .i64 a, .int .i64 n, .int .i64 s]] w fun e w' => e = .returned (.bool false) ∧ Below w.heap.size w w' := by
  have hb := Lib.hid (Blk.new w 85 #[.int .i64 k, .int .i64 m, .bool g, .int .i64 a, .int .i64 n, .int .i64 s])
  have c0 := hb.out.cell (i := 0) (v := .int .i64 k) rfl
  have c1 := hb.out.cell (i := 1) (v := .int .i64 m) rfl
  have c3 := hb.out.cell (i := 3) (v := .int .i64 a) rfl
  have c4 := hb.out.cell (i := 4) (v := .int .i64 n) rfl
  have c5 := hb.out.cell (i := 5) (v := .int .i64 s) rfl
  have d1 : (m == 0) = false := by simpa using h
  have d2 : (m == 1) = false := by simpa using hm
  clear h hm
  go_enter Try.func55, Try.ntmps55
  go_wp2
  go_ret
  exact ⟨rfl, (Below.refl _ w).alloc (Nat.le_refl _) _⟩
set_option maxHeartbeats 2000000 in
set_option maxRecDepth 100000 in
theorem hr_a0_0 (h0 : 0 ≤ k) (h1 : k ≤ 4) (hm : m = 0) (h : a < 0) : Calls Try.prog 55 #[.agg #[.int .i64 k, .int .i64 m, .bool g, .int .i64 a, .int .i64 n, .int .i64 s]] w fun e w' => e = .returned (.bool false) ∧ Below w.heap.size w w' := by
  subst hm
  have hb := Lib.hid (Blk.new w 85 #[.int .i64 k, .int .i64 0, .bool g, .int .i64 a, .int .i64 n, .int .i64 s])
  have c0 := hb.out.cell (i := 0) (v := .int .i64 k) rfl
  have c1 := hb.out.cell (i := 1) (v := .int .i64 0) rfl
  have c3 := hb.out.cell (i := 3) (v := .int .i64 a) rfl
  have c4 := hb.out.cell (i := 4) (v := .int .i64 n) rfl
  have c5 := hb.out.cell (i := 5) (v := .int .i64 s) rfl
  go_enter Try.func55, Try.ntmps55
  go_wp2
  go_ret
  exact ⟨rfl, (Below.refl _ w).alloc (Nat.le_refl _) _⟩
set_option maxHeartbeats 2000000 in
set_option maxRecDepth 100000 in
theorem hr_a1_0 (h0 : 0 ≤ k) (h1 : k ≤ 4) (hm : m = 0) (h2 : 0 ≤ a) (h : 15 < a) : Calls Try.prog 55 #[.agg #[.int .i64 k, .int .i64 m, .bool g, .int .i64 a, .int .i64 n, .int .i64 s]] w fun e w' => e = .returned (.bool false) ∧ Below w.heap.size w w' := by
  subst hm
  have hb := Lib.hid (Blk.new w 85 #[.int .i64 k, .int .i64 0, .bool g, .int .i64 a, .int .i64 n, .int .i64 s])
  have c0 := hb.out.cell (i := 0) (v := .int .i64 k) rfl
  have c1 := hb.out.cell (i := 1) (v := .int .i64 0) rfl
  have c3 := hb.out.cell (i := 3) (v := .int .i64 a) rfl
  have c4 := hb.out.cell (i := 4) (v := .int .i64 n) rfl
  have c5 := hb.out.cell (i := 5) (v := .int .i64 s) rfl
  have d := decide_eq_false (show ¬ a ≤ 15 by omega)
  go_enter Try.func55, Try.ntmps55
  go_wp2
  go_ret
  exact ⟨rfl, (Below.refl _ w).alloc (Nat.le_refl _) _⟩
set_option maxHeartbeats 2000000 in
set_option maxRecDepth 100000 in
theorem hr_n0_0 (h0 : 0 ≤ k) (h1 : k ≤ 4) (hm : m = 0) (h2 : 0 ≤ a) (h3 : a ≤ 15) (h : n < 0) : Calls Try.prog 55 #[.agg #[.int .i64 k, .int .i64 m, .bool g, .int .i64 a, .int .i64 n, .int .i64 s]] w fun e w' => e = .returned (.bool false) ∧ Below w.heap.size w w' := by
  subst hm
  have hb := Lib.hid (Blk.new w 85 #[.int .i64 k, .int .i64 0, .bool g, .int .i64 a, .int .i64 n, .int .i64 s])
  have c0 := hb.out.cell (i := 0) (v := .int .i64 k) rfl
  have c1 := hb.out.cell (i := 1) (v := .int .i64 0) rfl
  have c3 := hb.out.cell (i := 3) (v := .int .i64 a) rfl
  have c4 := hb.out.cell (i := 4) (v := .int .i64 n) rfl
  have c5 := hb.out.cell (i := 5) (v := .int .i64 s) rfl
  go_enter Try.func55, Try.ntmps55
  go_wp2
  go_ret
  exact ⟨rfl, (Below.refl _ w).alloc (Nat.le_refl _) _⟩
set_option maxHeartbeats 2000000 in
set_option maxRecDepth 100000 in
theorem hr_n1_0 (h0 : 0 ≤ k) (h1 : k ≤ 4) (hm : m = 0) (h2 : 0 ≤ a) (h3 : a ≤ 15) (h4 : 0 ≤ n) (h : 4294967295 < n) : Calls Try.prog 55 #[.agg #[.int .i64 k, .int .i64 m, .bool g, .int .i64 a, .int .i64 n, .int .i64 s]] w fun e w' => e = .returned (.bool false) ∧ Below w.heap.size w w' := by
  subst hm
  have hb := Lib.hid (Blk.new w 85 #[.int .i64 k, .int .i64 0, .bool g, .int .i64 a, .int .i64 n, .int .i64 s])
  have c0 := hb.out.cell (i := 0) (v := .int .i64 k) rfl
  have c1 := hb.out.cell (i := 1) (v := .int .i64 0) rfl
  have c3 := hb.out.cell (i := 3) (v := .int .i64 a) rfl
  have c4 := hb.out.cell (i := 4) (v := .int .i64 n) rfl
  have c5 := hb.out.cell (i := 5) (v := .int .i64 s) rfl
  have d := decide_eq_false (show ¬ n ≤ 4294967295 by omega)
  go_enter Try.func55, Try.ntmps55
  go_wp2
  go_ret
  exact ⟨rfl, (Below.refl _ w).alloc (Nat.le_refl _) _⟩
set_option maxHeartbeats 2000000 in
set_option maxRecDepth 100000 in
theorem hr_s0_0 (h0 : 0 ≤ k) (h1 : k ≤ 4) (hm : m = 0) (h2 : 0 ≤ a) (h3 : a ≤ 15) (h4 : 0 ≤ n) (h5 : n ≤ 4294967295) (h : s < 0) : Calls Try.prog 55 #[.agg #[.int .i64 k, .int .i64 m, .bool g, .int .i64 a, .int .i64 n, .int .i64 s]] w fun e w' => e = .returned (.bool false) ∧ Below w.heap.size w w' := by
  subst hm
  have hb := Lib.hid (Blk.new w 85 #[.int .i64 k, .int .i64 0, .bool g, .int .i64 a, .int .i64 n, .int .i64 s])
  have c0 := hb.out.cell (i := 0) (v := .int .i64 k) rfl
  have c1 := hb.out.cell (i := 1) (v := .int .i64 0) rfl
  have c3 := hb.out.cell (i := 3) (v := .int .i64 a) rfl
  have c4 := hb.out.cell (i := 4) (v := .int .i64 n) rfl
  have c5 := hb.out.cell (i := 5) (v := .int .i64 s) rfl
  go_enter Try.func55, Try.ntmps55
  go_wp2
  go_ret
  exact ⟨rfl, (Below.refl _ w).alloc (Nat.le_refl _) _⟩
set_option maxHeartbeats 2000000 in
set_option maxRecDepth 100000 in
theorem hr_s1_0 (h0 : 0 ≤ k) (h1 : k ≤ 4) (hm : m = 0) (h2 : 0 ≤ a) (h3 : a ≤ 15) (h4 : 0 ≤ n) (h5 : n ≤ 4294967295) (h6 : 0 ≤ s) : Calls Try.prog 55 #[.agg #[.int .i64 k, .int .i64 m, .bool g, .int .i64 a, .int .i64 n, .int .i64 s]] w fun e w' => e = .returned (.bool (decide (s ≤ 65535))) ∧ Below w.heap.size w w' := by
  subst hm
  have hb := Lib.hid (Blk.new w 85 #[.int .i64 k, .int .i64 0, .bool g, .int .i64 a, .int .i64 n, .int .i64 s])
  have c0 := hb.out.cell (i := 0) (v := .int .i64 k) rfl
  have c1 := hb.out.cell (i := 1) (v := .int .i64 0) rfl
  have c3 := hb.out.cell (i := 3) (v := .int .i64 a) rfl
  have c4 := hb.out.cell (i := 4) (v := .int .i64 n) rfl
  have c5 := hb.out.cell (i := 5) (v := .int .i64 s) rfl
  go_enter Try.func55, Try.ntmps55
  go_wp2
  go_ret
  exact ⟨rfl, (Below.refl _ w).alloc (Nat.le_refl _) _⟩
set_option maxHeartbeats 2000000 in
set_option maxRecDepth 100000 in
theorem hr_a0_1 (h0 : 0 ≤ k) (h1 : k ≤ 4) (hm : m = 1) (h : a < 0) : Calls Try.prog 55 #[.agg #[.int .i64 k, .int .i64 m, .bool g, .int .i64 a, .int .i64 n, .int .i64 s]] w fun e w' => e = .returned (.bool false) ∧ Below w.heap.size w w' := by
  subst hm
  have hb := Lib.hid (Blk.new w 85 #[.int .i64 k, .int .i64 1, .bool g, .int .i64 a, .int .i64 n, .int .i64 s])
  have c0 := hb.out.cell (i := 0) (v := .int .i64 k) rfl
  have c1 := hb.out.cell (i := 1) (v := .int .i64 1) rfl
  have c3 := hb.out.cell (i := 3) (v := .int .i64 a) rfl
  have c4 := hb.out.cell (i := 4) (v := .int .i64 n) rfl
  have c5 := hb.out.cell (i := 5) (v := .int .i64 s) rfl
  go_enter Try.func55, Try.ntmps55
  go_wp2
  go_ret
  exact ⟨rfl, (Below.refl _ w).alloc (Nat.le_refl _) _⟩
set_option maxHeartbeats 2000000 in
set_option maxRecDepth 100000 in
theorem hr_a1_1 (h0 : 0 ≤ k) (h1 : k ≤ 4) (hm : m = 1) (h2 : 0 ≤ a) (h : 15 < a) : Calls Try.prog 55 #[.agg #[.int .i64 k, .int .i64 m, .bool g, .int .i64 a, .int .i64 n, .int .i64 s]] w fun e w' => e = .returned (.bool false) ∧ Below w.heap.size w w' := by
  subst hm
  have hb := Lib.hid (Blk.new w 85 #[.int .i64 k, .int .i64 1, .bool g, .int .i64 a, .int .i64 n, .int .i64 s])
  have c0 := hb.out.cell (i := 0) (v := .int .i64 k) rfl
  have c1 := hb.out.cell (i := 1) (v := .int .i64 1) rfl
  have c3 := hb.out.cell (i := 3) (v := .int .i64 a) rfl
  have c4 := hb.out.cell (i := 4) (v := .int .i64 n) rfl
  have c5 := hb.out.cell (i := 5) (v := .int .i64 s) rfl
  have d := decide_eq_false (show ¬ a ≤ 15 by omega)
  go_enter Try.func55, Try.ntmps55
  go_wp2
  go_ret
  exact ⟨rfl, (Below.refl _ w).alloc (Nat.le_refl _) _⟩
set_option maxHeartbeats 2000000 in
set_option maxRecDepth 100000 in
theorem hr_n0_1 (h0 : 0 ≤ k) (h1 : k ≤ 4) (hm : m = 1) (h2 : 0 ≤ a) (h3 : a ≤ 15) (h : n < 0) : Calls Try.prog 55 #[.agg #[.int .i64 k, .int .i64 m, .bool g, .int .i64 a, .int .i64 n, .int .i64 s]] w fun e w' => e = .returned (.bool false) ∧ Below w.heap.size w w' := by
  subst hm
  have hb := Lib.hid (Blk.new w 85 #[.int .i64 k, .int .i64 1, .bool g, .int .i64 a, .int .i64 n, .int .i64 s])
  have c0 := hb.out.cell (i := 0) (v := .int .i64 k) rfl
  have c1 := hb.out.cell (i := 1) (v := .int .i64 1) rfl
  have c3 := hb.out.cell (i := 3) (v := .int .i64 a) rfl
  have c4 := hb.out.cell (i := 4) (v := .int .i64 n) rfl
  have c5 := hb.out.cell (i := 5) (v := .int .i64 s) rfl
  go_enter Try.func55, Try.ntmps55
  go_wp2
  go_ret
  exact ⟨rfl, (Below.refl _ w).alloc (Nat.le_refl _) _⟩
set_option maxHeartbeats 2000000 in
set_option maxRecDepth 100000 in
theorem hr_n1_1 (h0 : 0 ≤ k) (h1 : k ≤ 4) (hm : m = 1) (h2 : 0 ≤ a) (h3 : a ≤ 15) (h4 : 0 ≤ n) (h : 4294967295 < n) : Calls Try.prog 55 #[.agg #[.int .i64 k, .int .i64 m, .bool g, .int .i64 a, .int .i64 n, .int .i64 s]] w fun e w' => e = .returned (.bool false) ∧ Below w.heap.size w w' := by
  subst hm
  have hb := Lib.hid (Blk.new w 85 #[.int .i64 k, .int .i64 1, .bool g, .int .i64 a, .int .i64 n, .int .i64 s])
  have c0 := hb.out.cell (i := 0) (v := .int .i64 k) rfl
  have c1 := hb.out.cell (i := 1) (v := .int .i64 1) rfl
  have c3 := hb.out.cell (i := 3) (v := .int .i64 a) rfl
  have c4 := hb.out.cell (i := 4) (v := .int .i64 n) rfl
  have c5 := hb.out.cell (i := 5) (v := .int .i64 s) rfl
  have d := decide_eq_false (show ¬ n ≤ 4294967295 by omega)
  go_enter Try.func55, Try.ntmps55
  go_wp2
  go_ret
  exact ⟨rfl, (Below.refl _ w).alloc (Nat.le_refl _) _⟩
set_option maxHeartbeats 2000000 in
set_option maxRecDepth 100000 in
theorem hr_s0_1 (h0 : 0 ≤ k) (h1 : k ≤ 4) (hm : m = 1) (h2 : 0 ≤ a) (h3 : a ≤ 15) (h4 : 0 ≤ n) (h5 : n ≤ 4294967295) (h : s < 0) : Calls Try.prog 55 #[.agg #[.int .i64 k, .int .i64 m, .bool g, .int .i64 a, .int .i64 n, .int .i64 s]] w fun e w' => e = .returned (.bool false) ∧ Below w.heap.size w w' := by
  subst hm
  have hb := Lib.hid (Blk.new w 85 #[.int .i64 k, .int .i64 1, .bool g, .int .i64 a, .int .i64 n, .int .i64 s])
  have c0 := hb.out.cell (i := 0) (v := .int .i64 k) rfl
  have c1 := hb.out.cell (i := 1) (v := .int .i64 1) rfl
  have c3 := hb.out.cell (i := 3) (v := .int .i64 a) rfl
  have c4 := hb.out.cell (i := 4) (v := .int .i64 n) rfl
  have c5 := hb.out.cell (i := 5) (v := .int .i64 s) rfl
  go_enter Try.func55, Try.ntmps55
  go_wp2
  go_ret
  exact ⟨rfl, (Below.refl _ w).alloc (Nat.le_refl _) _⟩
set_option maxHeartbeats 2000000 in
set_option maxRecDepth 100000 in
theorem hr_s1_1 (h0 : 0 ≤ k) (h1 : k ≤ 4) (hm : m = 1) (h2 : 0 ≤ a) (h3 : a ≤ 15) (h4 : 0 ≤ n) (h5 : n ≤ 4294967295) (h6 : 0 ≤ s) : Calls Try.prog 55 #[.agg #[.int .i64 k, .int .i64 m, .bool g, .int .i64 a, .int .i64 n, .int .i64 s]] w fun e w' => e = .returned (.bool (decide (s ≤ 65535))) ∧ Below w.heap.size w w' := by
  subst hm
  have hb := Lib.hid (Blk.new w 85 #[.int .i64 k, .int .i64 1, .bool g, .int .i64 a, .int .i64 n, .int .i64 s])
  have c0 := hb.out.cell (i := 0) (v := .int .i64 k) rfl
  have c1 := hb.out.cell (i := 1) (v := .int .i64 1) rfl
  have c3 := hb.out.cell (i := 3) (v := .int .i64 a) rfl
  have c4 := hb.out.cell (i := 4) (v := .int .i64 n) rfl
  have c5 := hb.out.cell (i := 5) (v := .int .i64 s) rfl
  go_enter Try.func55, Try.ntmps55
  go_wp2
  go_ret
  exact ⟨rfl, (Below.refl _ w).alloc (Nat.le_refl _) _⟩
end
theorem rHRightC (k m : Int) (g : Bool) (a n s : Int) (w : World) : ∃ d : Bool, (d = true ↔ hdRight k m a n s) ∧ Calls Try.prog 55 #[.agg #[.int .i64 k, .int .i64 m, .bool g, .int .i64 a, .int .i64 n, .int .i64 s]] w fun e w' => e = .returned (.bool d) ∧ Below w.heap.size w w' := by
  unfold hdRight
  rcases Int.lt_or_le k 0 with h | h0
  · exact ⟨false, ⟨(fun x => by cases x), (fun x => by omega)⟩, hr_k0 k m g a n s w h⟩
  rcases Int.lt_or_le 4 k with h | h1
  · exact ⟨false, ⟨(fun x => by cases x), (fun x => by omega)⟩, hr_k1 k m g a n s w h0 h⟩
  by_cases hm : m = 0
  · rcases Int.lt_or_le a 0 with h | h2
    · exact ⟨false, ⟨(fun x => by cases x), (fun x => by omega)⟩, hr_a0_0 k m g a n s w h0 h1 hm h⟩
    rcases Int.lt_or_le 15 a with h | h3
    · exact ⟨false, ⟨(fun x => by cases x), (fun x => by omega)⟩, hr_a1_0 k m g a n s w h0 h1 hm h2 h⟩
    rcases Int.lt_or_le n 0 with h | h4
    · exact ⟨false, ⟨(fun x => by cases x), (fun x => by omega)⟩, hr_n0_0 k m g a n s w h0 h1 hm h2 h3 h⟩
    rcases Int.lt_or_le 4294967295 n with h | h5
    · exact ⟨false, ⟨(fun x => by cases x), (fun x => by omega)⟩, hr_n1_0 k m g a n s w h0 h1 hm h2 h3 h4 h⟩
    rcases Int.lt_or_le s 0 with h | h6
    · exact ⟨false, ⟨(fun x => by cases x), (fun x => by omega)⟩, hr_s0_0 k m g a n s w h0 h1 hm h2 h3 h4 h5 h⟩
    exact ⟨decide (s ≤ 65535), ⟨(fun x => by have := of_decide_eq_true x; omega), (fun x => decide_eq_true (by omega))⟩, hr_s1_0 k m g a n s w h0 h1 hm h2 h3 h4 h5 h6⟩
  · by_cases hm1 : m = 1
    · rcases Int.lt_or_le a 0 with h | h2
      · exact ⟨false, ⟨(fun x => by cases x), (fun x => by omega)⟩, hr_a0_1 k m g a n s w h0 h1 hm1 h⟩
      rcases Int.lt_or_le 15 a with h | h3
      · exact ⟨false, ⟨(fun x => by cases x), (fun x => by omega)⟩, hr_a1_1 k m g a n s w h0 h1 hm1 h2 h⟩
      rcases Int.lt_or_le n 0 with h | h4
      · exact ⟨false, ⟨(fun x => by cases x), (fun x => by omega)⟩, hr_n0_1 k m g a n s w h0 h1 hm1 h2 h3 h⟩
      rcases Int.lt_or_le 4294967295 n with h | h5
      · exact ⟨false, ⟨(fun x => by cases x), (fun x => by omega)⟩, hr_n1_1 k m g a n s w h0 h1 hm1 h2 h3 h4 h⟩
      rcases Int.lt_or_le s 0 with h | h6
      · exact ⟨false, ⟨(fun x => by cases x), (fun x => by omega)⟩, hr_s0_1 k m g a n s w h0 h1 hm1 h2 h3 h4 h5 h⟩
      exact ⟨decide (s ≤ 65535), ⟨(fun x => by have := of_decide_eq_true x; omega), (fun x => decide_eq_true (by omega))⟩, hr_s1_1 k m g a n s w h0 h1 hm1 h2 h3 h4 h5 h6⟩
    · exact ⟨false, ⟨(fun x => by cases x), (fun x => by omega)⟩, hr_m k m g a n s w h0 h1 hm hm1⟩
end Go.Proofs.Ytijfkpoofpcacaa.ArenaY
end
