/-
  Contracts of the helpers of the statements of layer 2: an act, two lists that are the same, the document's example; conditions: as many touches as fit a number.
-/
import Derived.Test.YtljfpkdbooineaaMemD
set_option linter.unusedVariables false
namespace Go.Proofs.Ytljfpkdbooineaa.MemE
open Go.RowKit Go.Proofs.YtljfpkdbooineaaW.PrintWords Go.Proofs.Ytljfpkdbooineaa.Blk Go.Proofs.Ytljfpkdbooineaa.Core Go.Proofs.Ytljfpkdbooineaa.MemC Go.Proofs.Ytljfpkdbooineaa.MemD
/-- What an act answers, and the memory behind it. -/
def doA (s : Ms) (k a x y : Int) : Int := if k = 0 then s.ldV a else if k = 1 then 0 else if k = 2 then 0 else s.adV a x
def doB (s : Ms) (k a x y : Int) : Bool := if k = 0 then false else if k = 1 then s.inn a else if k = 2 then s.swV a x else false
def doS (s : Ms) (k a x y : Int) : Ms := if k = 0 then s.ldS a else if k = 1 then s.stS a x else if k = 2 then s.swS a x y else s.adS a x
theorem below_two {n m b : Nat} {w w1 w2 : World} (h : Below n w w1) (hF : Fr (two m b) w1 w2) (hm : n ≤ m) (hb : n ≤ b) (hn : n ≤ w.heap.size) : Below n w w2 :=
  h.trans (hF.below (fun k hk => ⟨Nat.lt_of_lt_of_le hk (Nat.le_trans hn h.size), fun c => c.elim (fun e => by omega) (fun e => by omega)⟩))
theorem does_c (w : World) (m b : Nat) (s : Ms) (k a x y : Int) (h : MemB w m b s) (ok : Ok s) (x0 : 0 ≤ x) (x1 : x < 18446744073709551616) :
    Calls Try.prog 18 #[.pointer (some ⟨m, 0, none⟩), .agg #[.int .i64 k, .int .i64 a, .int .u64 x, .int .u64 y]] w fun e w' => e = .returned (.tuple #[.int .u64 (doA s k a x y), .bool (doB s k a x y)]) ∧ MemB w' m b (doS s k a x y) ∧ Fr (two m b) w w' := by
  unfold doA doB doS
  by_cases c0 : k = 0
  · subst c0
    rw [if_pos rfl, if_pos rfl, if_pos rfl]
    go_enter Try.func18, Try.ntmps18
    go_wp2_with (go_at_call 17; refine (load_c _ m b s _ (h.alloc _) ok).mono ?_; rintro e w' ⟨rfl, hM, hF⟩; replace hM := Lib.hid hM; replace hF := Lib.hid hF)
    go_ret2
    exact ⟨rfl, hM.out, (Fr.alloc _ w _).trans hF.out⟩
  · rw [if_neg c0, if_neg c0, if_neg c0]
    have d0 : (k == 0) = false := beq_eq_false_iff_ne.2 c0
    by_cases c1 : k = 1
    · subst c1
      rw [if_pos rfl, if_pos rfl, if_pos rfl]
      go_enter Try.func18, Try.ntmps18
      go_wp2_with (go_at_call 41; refine (store_c _ m b s _ (h.alloc _) ok _).mono ?_; rintro e w' ⟨rfl, hM, hF⟩; replace hM := Lib.hid hM; replace hF := Lib.hid hF)
      go_ret2
      exact ⟨rfl, hM.out, (Fr.alloc _ w _).trans hF.out⟩
    · rw [if_neg c1, if_neg c1, if_neg c1]
      have d1 : (k == 1) = false := beq_eq_false_iff_ne.2 c1
      by_cases c2 : k = 2
      · subst c2
        rw [if_pos rfl, if_pos rfl, if_pos rfl]
        go_enter Try.func18, Try.ntmps18
        go_wp2_with (go_at_call 16; refine (swap_c _ m b s _ (h.alloc _) ok _ _).mono ?_; rintro e w' ⟨rfl, hM, hF⟩; replace hM := Lib.hid hM; replace hF := Lib.hid hF)
        go_ret2
        exact ⟨rfl, hM.out, (Fr.alloc _ w _).trans hF.out⟩
      · rw [if_neg c2, if_neg c2, if_neg c2]
        have d2 : (k == 2) = false := beq_eq_false_iff_ne.2 c2
        go_enter Try.func18, Try.ntmps18
        go_wp2_with (go_at_call 15; refine (add_c _ m b s _ (h.alloc _) ok _ x0 x1).mono ?_; rintro e w' ⟨rfl, hM, hF⟩; replace hM := Lib.hid hM; replace hF := Lib.hid hF)
        go_ret2
        exact ⟨rfl, hM.out, (Fr.alloc _ w _).trans hF.out⟩
theorem same_c (w : World) (A B : Option Addr) (c d b1 b2 n : Nat) (f g : Nat → Int) (h1 : RowB w A c b1 n f) (h2 : RowB w B d b2 n g) (hfg : ∀ i, i < n → f i = g i) (hn : n ≤ 65536) :
    Calls Try.prog 21 #[.slice A n c, .slice B n d] w fun e w' => e = .returned (.bool true) ∧ Drawn0 w w' := by
  have hA := Lib.hid h1
  have hB := Lib.hid h2
  have hE := Lib.hid hfg
  clear h1 h2 hfg
  go_enter Try.func21, Try.ntmps21
  go_wp2
  go_loopw [5] (fun z wr => ∃ j : Nat, j ≤ n ∧ z = .int .i64 (j : Int) ∧ Drawn0 w wr) (fun z _ => n - (intOf z).toNat)
  case atStart => exact ⟨0, Nat.zero_le _, rfl, Drawn0.refl _⟩
  case round =>
    obtain ⟨j, hj, rfl, ⟨nd0, rfl⟩⟩ := hrel
    by_cases hlt : j < n
    · obtain ⟨rfl, y1, y2⟩ := hA.out.cell hlt
      obtain ⟨rfl, y3, y4⟩ := hB.out.cell hlt
      rw [← hE.out j hlt] at y3
      go_wp2
      go_quiet (fail)
      go_wp2
      go_roundw
      case rel => exact ⟨j + 1, by omega, by go_num, ⟨_, rfl⟩⟩
      case measure => simp [intOf]; omega
    · have : j = n := by omega
      subst this
      go_wp2
      go_ret
      exact ⟨rfl, ⟨_, rfl⟩⟩
def aw0 : Ms := Ms.new 2
def aw1 : Ms := aw0.adS 1 5
def aw2 : Ms := aw1.swS 1 5 7
def aw3 : Ms := aw2.swS 1 5 9
theorem Ok.of {s : Ms} (h : U s.f) (h0 : 0 ≤ s.t) (h1 : s.t ≤ 1000) (hn : s.n ≤ 65536) : Ok s := ⟨h, h0, by omega, hn⟩
theorem U.upd {f : Nat → Int} (h : U f) (i : Nat) {x : Int} (x0 : 0 ≤ x) (x1 : x < 18446744073709551616) : U (upd f i x) := by
  intro j
  unfold Blk.upd
  split
  · exact ⟨x0, x1⟩
  · exact h j
theorem aw0_ok : Ok aw0 := Ok.of (fun _ => ⟨Int.le_refl 0, by show (0 : Int) < _; decide⟩) (by decide) (by decide) (by decide)
theorem aw1_ok : Ok aw1 := Ok.of (U.upd aw0_ok.f 1 (by decide) (by decide)) (by decide) (by decide) (by decide)
theorem aw2_ok : Ok aw2 := Ok.of (U.upd aw1_ok.f 1 (by decide) (by decide)) (by decide) (by decide) (by decide)
theorem aw3_ok : Ok aw3 := Ok.of (U.upd aw2_ok.f 1 (by decide) (by decide)) (by decide) (by decide) (by decide)
theorem awake_c (w : World) : Calls Try.prog 13 #[] w fun e w' => e = .returned (.bool true) ∧ Below w.heap.size w w' := by
  go_enter Try.func13, Try.ntmps13
  go_wp2_with (first
    | (go_at_call 14; (refine (new_c _ _ (by decide) (by decide)).mono ?_; rintro e w1 ⟨m, b, rfl, hM0, hm, hb, hB⟩; replace hM0 := Lib.hid (show MemB w1 m b aw0 from hM0); replace hB := Lib.hid hB))
    | (go_at_call 15; refine (add_c _ m b aw0 _ hM0.out aw0_ok _ (by decide) (by decide)).mono ?_; rintro e w2 ⟨rfl, hM1, hF1⟩; replace hM1 := Lib.hid (show MemB w2 m b aw1 from hM1); replace hF1 := Lib.hid hF1; rw [show aw0.adV 1 5 = 5 from by decide])
    | (go_at_call 16; refine (swap_c _ m b aw2 _ hM2.out aw2_ok _ 9).mono ?_; rintro e w4 ⟨rfl, hM3, hF3⟩; replace hM3 := Lib.hid (show MemB w4 m b aw3 from hM3); replace hF3 := Lib.hid hF3; rw [show aw2.swV 1 5 = false from by decide])
    | (go_at_call 16; refine (swap_c _ m b aw1 _ hM1.out aw1_ok _ 7).mono ?_; rintro e w3 ⟨rfl, hM2, hF2⟩; replace hM2 := Lib.hid (show MemB w3 m b aw2 from hM2); replace hF2 := Lib.hid hF2; rw [show aw1.swV 1 5 = true from by decide])
    | (go_at_call 19; refine (touches_c _ m b aw3 hM3.out).mono ?_; rintro e w' ⟨rfl, rfl⟩; rw [show aw3.t = 3 from by decide])
    | (go_at_call 20; refine (last_c _ m b aw3 hM3.out).mono ?_; rintro e w5 ⟨rfl, hB5⟩; have hM4 := Lib.hid (hM3.out.below hB5 hM3.out.lm hM3.out.lb); replace hB5 := Lib.hid hB5; rw [show aw3.k = 3 from by decide, show aw3.a = 1 from by decide, show aw3.was = 7 from by decide, show aw3.now = 7 from by decide])
    | (go_at_call 23; refine (size_c _ m b aw3 hM4.out).mono ?_; rintro e w' ⟨rfl, rfl⟩; rw [show aw3.n = 2 from by decide]))
  go_ret
  exact ⟨rfl, (below_two (below_two (below_two hB.out hF1.out hm hb (Nat.le_refl _)) hF2.out hm hb (Nat.le_refl _)) hF3.out hm hb (Nat.le_refl _)).trans (hB5.out.mono (Nat.le_trans (Nat.le_trans (Nat.le_trans hB.out.size hF1.out.size) hF2.out.size) hF3.out.size))⟩
end Go.Proofs.Ytljfpkdbooineaa.MemE
