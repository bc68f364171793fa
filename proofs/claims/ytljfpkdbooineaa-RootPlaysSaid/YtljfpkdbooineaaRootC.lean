/-
  Contracts of layer 11 (root), continued: an entry takes a slot; conditions: as many entries as a right config has.
-/
import Derived.Test.YtljfpkdbooineaaRootB
import Derived.StillTailTactics
set_option linter.unusedVariables false
namespace Go.Proofs.Ytljfpkdbooineaa.RootC
open Go.RowKit Go.Proofs.Ytljfpkdbooineaa.PRootPlays Go.Proofs.YtljfpkdbooineaaW.PrintWords Go.Proofs.Ytljfpkdbooineaa.Blk Go.Proofs.Ytljfpkdbooineaa.Core Go.Proofs.Ytljfpkdbooineaa.RootP Go.Proofs.Ytljfpkdbooineaa.RootA Go.Proofs.Ytljfpkdbooineaa.RootB
def takeB (s : Rt) (k : Int) : Bool := decide (s.at_ < s.n) && decide (0 ≤ k ∧ k < s.S)
def takeS (s : Rt) (k : Int) : Rt := if takeB s k = true then { s with tag := upd s.tag s.at_ (s.tag s.at_ + 1), slot := upd s.slot s.at_ k } else s
def takeI (s : Rt) (k : Int) : Int := if takeB s k = true then s.at_ else 0
def takeH (s : Rt) (k : Int) : Int := if takeB s k = true then (handleV s.who s.at_ (s.tag s.at_ + 1)).1 else 0
theorem takeB_iff {s : Rt} {k : Int} : takeB s k = true ↔ s.at_ < s.n ∧ 0 ≤ k ∧ k < s.S := by
  unfold takeB
  rw [Bool.and_eq_true, decide_eq_true_iff, decide_eq_true_iff]
theorem TabB.cfg0 {w : World} {t b : Nat} {s : Rt} (h : TabB w t b s) : w.cell? ⟨t, 0, none⟩ = some (.int .i64 s.S) := by
  obtain ⟨A, c, h1, h2, h3⟩ := h.blk
  exact h1.cell (i := 0) rfl
theorem fr_below {S : Nat → Prop} {w w' : World} (h : Below w.heap.size w w') : Fr S w w' := Fr.of_below h (fun k hk _ => hk)
theorem cells3' {w w' : World} {t b i k l : Nat} {v0 v1 v2 : Value} (hb : Below w.heap.size w w') (hl : t < w.heap.size ∧ b < w.heap.size) (h : w.cell? ⟨t, i, none⟩ = some v0 ∧ w.cell? ⟨t, k, none⟩ = some v1 ∧ w.cell? ⟨b, l, none⟩ = some v2) :
    w'.cell? ⟨t, i, none⟩ = some v0 ∧ w'.cell? ⟨t, k, none⟩ = some v1 ∧ w'.cell? ⟨b, l, none⟩ = some v2 :=
  ⟨(hb.cell (p := ⟨t, i, none⟩) hl.1).trans h.1, (hb.cell (p := ⟨t, k, none⟩) hl.1).trans h.2.1, (hb.cell (p := ⟨b, l, none⟩) hl.2).trans h.2.2⟩
set_option maxHeartbeats 4000000 in
set_option maxRecDepth 100000 in
theorem take_c (w : World) (t b : Nat) (s : Rt) (k : Int) (h : TabB w t b s) (ok : Okr s) : Calls Try.prog 29 #[.pointer (some ⟨t, 0, none⟩), .int .i64 k] w fun e w' => e = .returned (.tuple #[.int .i64 (takeI s k), .int .u64 (takeH s k), .bool (takeB s k)]) ∧ TabB w' t b (takeS s k) ∧ Fr (two t b) w w' := by
  have okn := ok.n
  have hf := free_c w t b s h ok
  unfold takeI takeH takeS
  cases c : takeB s k with
  | true =>
    obtain ⟨i2, c1, c2⟩ := takeB_iff.1 c
    rw [freeV_yes i2] at hf
    rw [if_pos rfl, if_pos rfl, if_pos rfl]
    have hF : s.fr s.at_ = true := fst_is i2
    obtain ⟨g1, g2⟩ := fr_iff.1 hF
    obtain ⟨t0, t1⟩ := ok.tag _ i2
    clear hF
    generalize s.at_ = j at *
    have h' := Lib.hid h
    clear c h
    have ew : IntKind.u64.wrap (s.tag j + 1) = s.tag j + 1 := Core.wrap_u64_id _ (by omega) (by omega)
    go_enter Try.func29, Try.ntmps29
    go_wp2_with (go_at_call 45; refine hf.mono ?_; rintro e w1 ⟨rfl, hb1⟩; have h1 := h'.out.next hb1; obtain ⟨cp, x0, x1, y0, y1⟩ := TabB.row h1 i2; have x6 := TabB.whos h1; have x7 := TabB.cfg0 h1; have z0 := TabB.frozen h1 (by omega) (j * 2); have z1 := TabB.frozen h1 (by omega) (j * 2 + 1); replace h1 := Lib.hid h1; replace hb1 := Lib.hid hb1)
    go_still_tail 17, (by kernel_rfl)
    change wpList _ _ _ _ _ w1.drew
    have hd := h1.out.drew
    have hFd : Fr (two t b) w w1.drew := (fr_below hb1.out).trans (Fr.drew (two t b) w1)
    clear x0 x1 y0 y1
    obtain ⟨cq, x0, x1, y0, y1⟩ := TabB.row hd i2
    have z0 := TabB.frozen hd (by omega) (j * 2)
    have z1 := TabB.frozen hd (by omega) (j * 2 + 1)
    clear hb1 h1
    generalize w1.drew = wd at *
    go_wp2
    have h2 := set_slot (set_tag hd i2 (s.tag j + 1)) (s := { s with tag := upd s.tag j (s.tag j + 1) }) i2 k
    have hF2 : Fr (two t b) w ((World.setCell wd ⟨b, j * 2, none⟩ (.int .u64 (s.tag j + 1))).setCell ⟨b, j * 2 + 1, none⟩ (.int .i64 k)) := (hFd.trans (Fr.set (two t b) _ (p := ⟨b, j * 2, none⟩) (Or.inr rfl) _)).trans (Fr.set (two t b) _ (p := ⟨b, j * 2 + 1, none⟩) (Or.inr rfl) _)
    clear x0 x1 y0 y1 z0 z1
    generalize (World.setCell wd ⟨b, j * 2, none⟩ (.int .u64 (s.tag j + 1))).setCell ⟨b, j * 2 + 1, none⟩ (.int .i64 k) = w2 at *
    obtain ⟨cp, x0, x1, y0, y1⟩ := TabB.row h2 i2
    have x6 := TabB.whos h2
    have y2 : w2.cell? ⟨b, j * 2, none⟩ = some (.int .u64 (s.tag j + 1)) := y0.trans (congrArg (fun x => some (Value.int .u64 x)) (if_pos rfl))
    clear y0 y1
    have x0' : w2.cell? ⟨t, 7, none⟩ = some (.slice (some ⟨b, 0, none⟩) s.n cp) := x0
    have x6' : w2.cell? ⟨t, 6, none⟩ = some (.int .i64 s.who) := x6
    clear x0 x6
    have x1' : s.n ≤ cp := x1
    clear x1
    have hX := And.intro x0' (And.intro x6' y2)
    have lt := Lib.hid (And.intro h2.lm h2.lb)
    replace h2 := Lib.hid h2
    replace hF2 := Lib.hid hF2
    go_region_held3 (fun w' => w'.cell? ⟨t, 7, none⟩ = some (.slice (some ⟨b, 0, none⟩) s.n cp) ∧ w'.cell? ⟨t, 6, none⟩ = some (.int .i64 s.who) ∧ w'.cell? ⟨b, j * 2, none⟩ = some (.int .u64 (s.tag j + 1))) (assumption) (first
      | (go_at_call 46; refine (handle_c _ _ _ _).mono ?_; rintro e w3 ⟨rfl, hb'⟩; have hb : Below w2.heap.size w2 w3 := below_undrew hb'; clear hb'; have hY := cells3' hb lt.out hX; replace hb := Lib.hid hb))
    all_goals
      go_wp2
      go_ret3
      exact ⟨rfl, h2.out.next hb.out, hF2.out.trans (fr_below hb.out)⟩
  | false =>
    rw [if_neg (by decide), if_neg (by decide), if_neg (by decide)]
    by_cases c1 : s.at_ < s.n
    · rw [freeV_yes c1] at hf
      by_cases c2 : 0 ≤ k
      · have c3 : ¬ k < s.S := fun q => by rw [takeB_iff.2 ⟨c1, c2, q⟩] at c; cases c
        have h' := Lib.hid h
        clear c h
        go_enter Try.func29, Try.ntmps29
        go_wp2_with (go_at_call 45; refine hf.mono ?_; rintro e w1 ⟨rfl, hb1⟩; have h1 := h'.out.next hb1; have x7 := TabB.cfg0 h1; replace h1 := Lib.hid h1; replace hb1 := Lib.hid hb1)
        go_ret3
        exact ⟨rfl, h1.out, fr_below hb1.out⟩
      · have h' := Lib.hid h
        clear c h
        go_enter Try.func29, Try.ntmps29
        go_wp2_with (go_at_call 45; refine hf.mono ?_; rintro e w1 ⟨rfl, hb1⟩; have h1 := h'.out.next hb1; have x7 := TabB.cfg0 h1; replace h1 := Lib.hid h1; replace hb1 := Lib.hid hb1)
        go_ret3
        exact ⟨rfl, h1.out, fr_below hb1.out⟩
    · rw [freeV_no c1] at hf
      have h' := Lib.hid h
      clear c h
      go_enter Try.func29, Try.ntmps29
      go_wp2_with (go_at_call 45; refine hf.mono ?_; rintro e w1 ⟨rfl, hb1⟩; have h1 := h'.out.next hb1; replace h1 := Lib.hid h1; replace hb1 := Lib.hid hb1)
      go_ret3
      exact ⟨rfl, h1.out, fr_below hb1.out⟩
theorem take_nil (w : World) (k : Int) : Calls Try.prog 29 #[.pointer none, .int .i64 k] w fun e w' => e = .returned (.tuple #[.int .i64 0, .int .u64 0, .bool false]) ∧ w = w' := by
  go_enter Try.func29, Try.ntmps29
  go_wp2_with (go_at_call 45; refine (free_nil _).mono ?_; rintro e w' ⟨rfl, rfl⟩)
  go_ret3
  exact ⟨rfl, rfl⟩
end Go.Proofs.Ytljfpkdbooineaa.RootC
