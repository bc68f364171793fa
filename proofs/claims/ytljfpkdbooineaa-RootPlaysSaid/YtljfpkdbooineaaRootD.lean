/-
  The document's example of layer 11, and the law RootNone's walk: of no table all is 0 and false; no condition.
-/
import Derived.Test.YtljfpkdbooineaaRootN
set_option linter.unusedVariables false
namespace Go.Proofs.Ytljfpkdbooineaa.RootD
open Go.RowKit Go.Proofs.Ytljfpkdbooineaa.PRootPlays Go.Proofs.YtljfpkdbooineaaW.PrintWords Go.Proofs.Ytljfpkdbooineaa.Blk Go.Proofs.Ytljfpkdbooineaa.Core Go.Proofs.Ytljfpkdbooineaa.RootP Go.Proofs.Ytljfpkdbooineaa.RootA Go.Proofs.Ytljfpkdbooineaa.RootB Go.Proofs.Ytljfpkdbooineaa.RootC Go.Proofs.Ytljfpkdbooineaa.RootN
theorem below_two {n m b : Nat} {w w1 w2 : World} (h : Below n w w1) (hF : Fr (two m b) w1 w2) (hm : n ≤ m) (hb : n ≤ b) (hn : n ≤ w.heap.size) : Below n w w2 :=
  h.trans (hF.below (fun k hk => ⟨Nat.lt_of_lt_of_le hk (Nat.le_trans hn h.size), fun c => c.elim (fun e => by omega) (fun e => by omega)⟩))
def aw0 : Rt := Rt.new 9 0 1 2 1 0 0 2 0
def aw1 : Rt := takeS aw0 4
theorem aw0_ok : Okr aw0 := ⟨by decide, fun i hi => ⟨Int.le_refl 0, by show (0 : Int) ≤ _; decide⟩, fun i hi => ⟨Int.le_refl _, by show (-1 : Int) < _; decide⟩⟩
theorem aw1_ok : Okr aw1 := by
  refine ⟨by decide, fun i hi => ?_, fun i hi => ?_⟩
  · have : i < 2 := hi
    match i, this with
    | 0, _ => decide
    | 1, _ => decide
  · have : i < 2 := hi
    match i, this with
    | 0, _ => decide
    | 1, _ => decide
theorem awake_c (w : World) : Calls Try.prog 28 #[] w fun e w' => e = .returned (.bool true) ∧ Below w.heap.size w w' := by
  go_enter Try.func28, Try.ntmps28
  go_wp2_with (first
    | (go_at_call 27; refine (new_c 9 0 1 1 0 0 0 2 w (by decide) (by decide) (by decide)).mono ?_; rintro e w1 ⟨t, b, rfl, hT0, ht, hb, hB⟩; replace hT0 := Lib.hid (show TabB w1 t b aw0 from hT0); replace hB := Lib.hid hB)
    | (go_at_call 29; refine (take_c _ t b aw0 _ hT0.out aw0_ok).mono ?_; rintro e w2 ⟨rfl, hT1, hF1⟩; replace hT1 := Lib.hid (show TabB w2 t b aw1 from hT1); replace hF1 := Lib.hid hF1; rw [show takeI aw0 4 = 0 from by decide, show takeH aw0 4 = 72057594037927937 from by decide, show takeB aw0 4 = true from by decide])
    | (go_at_call 38; refine (word_c _ t b aw1 _ hT1.out aw1_ok).mono ?_; rintro e w3 ⟨rfl, hb3⟩; have hT3 := Lib.hid (hT1.out.next hb3); replace hb3 := Lib.hid hb3; rw [show wordV aw1 0 = 4294967301 from by decide])
    | (go_at_call 30; refine (held_c _ t b aw1 hT3.out aw1_ok).mono ?_; rintro e w4 ⟨rfl, hb4⟩; have hT4 := Lib.hid (hT3.out.next hb4); replace hb4 := Lib.hid hb4; rw [show cnt aw1.hd aw1.n = 1 from by decide])
    | (go_at_call 31; refine (room_c _ t b aw1 hT4.out aw1_ok).mono ?_; rintro e w5 ⟨rfl, hb5⟩; replace hb5 := Lib.hid hb5; rw [show decide (aw1.at_ < aw1.n) = true from by decide]))
  go_ret
  have k2 := below_two hB.out hF1.out ht hb (Nat.le_refl _)
  have k3 := k2.trans (hb3.out.mono k2.size)
  have k4 := k3.trans (hb4.out.mono k3.size)
  exact ⟨rfl, k4.trans (hb5.out.mono k4.size)⟩
theorem none_c (n h : Int) (w : World) (h0 : 0 ≤ h) (h1 : h < 18446744073709551616) : Calls Try.prog 12 #[.int .i64 n, .int .u64 h] w fun e w' => e = .returned (.bool true) ∧ Below w.heap.size w w' := by
  go_enter Try.func12, Try.ntmps12
  go_wp2_with (first
    | (go_at_call 29; refine (take_nil _ _).mono ?_; rintro e w' ⟨rfl, rfl⟩)
    | (go_at_call 35; refine (find_nil _ _ h0 h1).mono ?_; rintro e w1 ⟨rfl, hb1⟩; replace hb1 := Lib.hid hb1)
    | (go_at_call 30; refine (held_nil _).mono ?_; rintro e w' ⟨rfl, rfl⟩)
    | (go_at_call 31; refine (room_nil _).mono ?_; rintro e w' ⟨rfl, rfl⟩)
    | (go_at_call 32; refine (drop_nil _ _).mono ?_; rintro e w' ⟨rfl, rfl⟩)
    | (go_at_call 38; refine (word_nil _ _).mono ?_; rintro e w' ⟨rfl, rfl⟩)
    | (go_at_call 28; refine (awake_c _).mono ?_; rintro e w2 ⟨rfl, hb2⟩; replace hb2 := Lib.hid hb2))
  go_ret
  exact ⟨rfl, hb1.out.trans (hb2.out.mono hb1.out.size)⟩
end Go.Proofs.Ytljfpkdbooineaa.RootD
