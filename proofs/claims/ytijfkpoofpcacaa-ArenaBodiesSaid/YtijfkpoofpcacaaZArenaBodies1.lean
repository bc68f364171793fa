/-
  What the law ArenaBodies needs of the seat's texts (PArenaPlaysx3, PArenaPlaysx4, PArenaPlaysx5, Core, PuArenaPlays, Blk): the words and functions that the kit's print.sh printed, and our own; no condition of its own.
-/
import Derived.Laws.Entries
import Derived.RowKit
import Derived.Below
import Derived.RowKit3
import Derived.Deep.Draws
import Derived.Laws.Rows
import Derived.Test.YtijfkpoofpcacaaZArenaBodies0
set_option linter.unusedVariables false
set_option linter.unusedSectionVars false
set_option linter.unusedSimpArgs false
section
namespace Go.Proofs.Ytijfkpoofpcacaa.PArenaPlays
open Go.RowKit Go.Proofs.YtijfkpoofpcacaaW.PrintWords Go.Proofs.YtijfkpoofpcacaaW.PrintLast Go.Proofs.YtijfkpoofpcacaaW.PrintMore
attribute [local go_sem] max2_int min2_int max_two min_two max_three min_three max_four min_four
set_option linter.unusedVariables false
set_option linter.unusedSimpArgs false
def plan_within.j0 : Nat → Int → Int → Bool → Int → Int → Int → Int → Int → Int → Option (Int)
  | 0, _, _, _, _, _, _, _, _, _ => none
  | k + 1, x1, x2, x25, x127000, x127001, x127002, x127003, x127004, x127005 => if x25 = true then (some (-1)) else ((plan_slots.f x127000 x127001 x127002 x127003 x127004 x127005).bind fun t131 => ((plan_room.f x127000 x127001 x127002 x127003 x127004 x127005).bind fun t132 => (some (wrap64 ((wrap64 (t131 + (wrap64 (x1 * t132)))) + x2)))))
def plan_within.f (k : Nat) (a0_0 : Int) (a0_1 : Int) (a0_2 : Int) (a0_3 : Int) (a0_4 : Int) (a0_5 : Int) (a1 : Int) (a2 : Int) : Option (Int) := (plan_Right.f a0_0 a0_1 a0_2 a0_3 a0_4 a0_5).bind fun t127 => (if t127 = true then ((plan_between.f a1 0 (wrap64 (a0_0 - 1))).bind fun t128 => (if t128 = true then ((plan_room.f a0_0 a0_1 a0_2 a0_3 a0_4 a0_5).bind fun t129 => ((plan_between.f a2 0 (wrap64 (t129 - 1))).bind fun t130 => (plan_within.j0 k a1 a2 (!t130) a0_0 a0_1 a0_2 a0_3 a0_4 a0_5))) else (plan_within.j0 k a1 a2 true a0_0 a0_1 a0_2 a0_3 a0_4 a0_5))) else (plan_within.j0 k a1 a2 true a0_0 a0_1 a0_2 a0_3 a0_4 a0_5))
def plan_within.T3 : Bool × List (List Nat × List Nat) := (true, [([], []), ([0], [0]), ([], []), ([], []), ([3, 1], [3]), ([2, 4], [2, 4]), ([1, 5], [1, 5]), ([], []), ([6, 7], [6, 7]), ([8, 4, 0, 1, 2, 3, 4, 5, 6, 7, 8], [8])])
def plan_within.B3 : List Nat := [0, 1, 0, 0, 11, 31, 63, 0, 255, 511]
theorem plan_within.tab3 : rtab .any (opsOf Try.f95 3) = plan_within.T3 := by kernel_rfl
theorem plan_within.bits3 : waitsOk plan_within.T3.2 plan_within.B3 = true := by kernel_rfl
set_option maxHeartbeats 8000000 in
set_option maxRecDepth 100000 in
theorem plan_within.calls (k : Nat) (a0_0 : Int) (a0_1 : Int) (a0_2 : Int) (a0_3 : Int) (a0_4 : Int) (a0_5 : Int) (a1 : Int) (a2 : Int) (r : Int) (w : World) (h : plan_within.f k a0_0 a0_1 a0_2 a0_3 a0_4 a0_5 a1 a2 = some r) :
    Calls Try.prog 95 #[.agg #[.int .i64 a0_0, .int .i64 a0_1, .int .i64 a0_2, .int .i64 a0_3, .int .i64 a0_4, .int .i64 a0_5], .int .i64 a1, .int .i64 a2] w fun e w' => e = .returned (.int .i64 r) ∧ Below w.heap.size w w' := by
  have hu23 := Try.underlying23
  have HB := Aside0.mk (Below.refl w.heap.size w)
  have H : ((plan_Right.f a0_0 a0_1 a0_2 a0_3 a0_4 a0_5).bind fun t127 => (if t127 = true then ((plan_between.f a1 0 (wrap64 (a0_0 - 1))).bind fun t128 => (if t128 = true then ((plan_room.f a0_0 a0_1 a0_2 a0_3 a0_4 a0_5).bind fun t129 => ((plan_between.f a2 0 (wrap64 (t129 - 1))).bind fun t130 => (plan_within.j0 k a1 a2 (!t130) a0_0 a0_1 a0_2 a0_3 a0_4 a0_5))) else (plan_within.j0 k a1 a2 true a0_0 a0_1 a0_2 a0_3 a0_4 a0_5))) else (plan_within.j0 k a1 a2 true a0_0 a0_1 a0_2 a0_3 a0_4 a0_5))) = some r := h
  clear h
  have HC4 := Aside0.mk H
  clear H
  go_enter Try.func95, Try.ntmps95
  go_upto_region 1 with (first | ((with_reducible refine gate_dst (N := 3) rfl ?_); refine box_event ?hg (N := 3) ?hd (cs := #[.int .i64 a0_0, .int .i64 a0_1, .int .i64 a0_2, .int .i64 a0_3, .int .i64 a0_4, .int .i64 a0_5]) (t := 23) ?hr ?_; (case hd => rfl); (case hg => rfl); (case hr => first | (go_simp; done) | (go_simp; rfl)); intro gb126 hg w5 hbox hb; have n0_ := Aside0.mk (below_step (by repeat (first | (with_reducible first | exact HB.out | apply below_alloc | apply pw_below_drewN | apply below_drew1) | exact HB.out)) hb); have n1_ := Aside0.mk (hbox); have n2_ := Aside0.mk ((by rw [hg]; exact (below_size (by repeat (first | (with_reducible first | exact HB.out | apply below_alloc | apply pw_below_drewN | apply below_drew1) | exact HB.out))) : w.heap.size ≤ gb126)); have n3_ := Aside0.mk ((by rw [hg]; exact (below_size (by repeat (first | (with_reducible first | exact HB.out | apply below_alloc | apply pw_below_drewN | apply below_drew1) | exact HB.out))) : w.heap.size ≤ gb126)); clear HB; have HB := n0_; have BK126 := n1_; have GW126 := n2_; have GE126 := n3_; clear n0_ n1_ n2_ n3_; clear hb hbox hg))
  (try simp only [Act.put, List.setIfInBounds_toArray, List.set_cons_zero, List.set_cons_succ])
  go_cut [25] (fun v25 wc => ∃ (kq : Nat) (x25_3 : Bool), v25 = .bool x25_3 ∧ Aside0 (plan_within.j0 kq a1 a2 x25_3 a0_0 a0_1 a0_2 a0_3 a0_4 a0_5 = some r) ∧ Aside0 (kq ≤ k) ∧ Aside0 (wc.heap[gb126]? = some (.cells #[.int .i64 a0_0, .int .i64 a0_1, .int .i64 a0_2, .int .i64 a0_3, .int .i64 a0_4, .int .i64 a0_5] 23 (0, 0))) ∧ Aside0 (Below w.heap.size w wc))
  case first =>
    have H := HC4.out
    clear HC4
    replace H := Option.bind_eq_some_iff.mp H
    obtain ⟨t127, A60, H⟩ := H
    replace H : (if t127 = true then ((plan_between.f a1 0 (wrap64 (a0_0 - 1))).bind fun t128 => (if t128 = true then ((plan_room.f a0_0 a0_1 a0_2 a0_3 a0_4 a0_5).bind fun t129 => ((plan_between.f a2 0 (wrap64 (t129 - 1))).bind fun t130 => (plan_within.j0 k a1 a2 (!t130) a0_0 a0_1 a0_2 a0_3 a0_4 a0_5))) else (plan_within.j0 k a1 a2 true a0_0 a0_1 a0_2 a0_3 a0_4 a0_5))) else (plan_within.j0 k a1 a2 true a0_0 a0_1 a0_2 a0_3 a0_4 a0_5)) = some r := H
    have A6 := Aside0.mk A60
    clear A60
    by_cases c7 : t127 = true
    · subst c7
      have H1 : ((plan_between.f a1 0 (wrap64 (a0_0 - 1))).bind fun t128 => (if t128 = true then ((plan_room.f a0_0 a0_1 a0_2 a0_3 a0_4 a0_5).bind fun t129 => ((plan_between.f a2 0 (wrap64 (t129 - 1))).bind fun t130 => (plan_within.j0 k a1 a2 (!t130) a0_0 a0_1 a0_2 a0_3 a0_4 a0_5))) else (plan_within.j0 k a1 a2 true a0_0 a0_1 a0_2 a0_3 a0_4 a0_5))) = some r := by rw [if_pos rfl] at H; exact H
      clear H
      have H := H1
      clear H1
      replace H := Option.bind_eq_some_iff.mp H
      obtain ⟨t128, A80, H⟩ := H
      replace H : (if t128 = true then ((plan_room.f a0_0 a0_1 a0_2 a0_3 a0_4 a0_5).bind fun t129 => ((plan_between.f a2 0 (wrap64 (t129 - 1))).bind fun t130 => (plan_within.j0 k a1 a2 (!t130) a0_0 a0_1 a0_2 a0_3 a0_4 a0_5))) else (plan_within.j0 k a1 a2 true a0_0 a0_1 a0_2 a0_3 a0_4 a0_5)) = some r := H
      have A8 := Aside0.mk A80
      clear A80
      by_cases c9 : t128 = true
      · subst c9
        have H1 : ((plan_room.f a0_0 a0_1 a0_2 a0_3 a0_4 a0_5).bind fun t129 => ((plan_between.f a2 0 (wrap64 (t129 - 1))).bind fun t130 => (plan_within.j0 k a1 a2 (!t130) a0_0 a0_1 a0_2 a0_3 a0_4 a0_5))) = some r := by rw [if_pos rfl] at H; exact H
        clear H
        have H := H1
        clear H1
        replace H := Option.bind_eq_some_iff.mp H
        obtain ⟨t129, A100, H⟩ := H
        replace H : ((plan_between.f a2 0 (wrap64 (t129 - 1))).bind fun t130 => (plan_within.j0 k a1 a2 (!t130) a0_0 a0_1 a0_2 a0_3 a0_4 a0_5)) = some r := H
        have A10 := Aside0.mk A100
        clear A100
        replace H := Option.bind_eq_some_iff.mp H
        obtain ⟨t130, A110, H⟩ := H
        replace H : (plan_within.j0 k a1 a2 (!t130) a0_0 a0_1 a0_2 a0_3 a0_4 a0_5) = some r := H
        have A11 := Aside0.mk A110
        clear A110
        have H' := Aside0.mk H
        clear H
        have hcz12_0 : w5.cell? ⟨gb126, 0, none⟩ = some (.int .i64 a0_0) := (blk_cell BK126.out 0).trans rfl
        have hcz12_1 : w5.cell? ⟨gb126, 1, none⟩ = some (.int .i64 a0_1) := (blk_cell BK126.out 1).trans rfl
        have hcz12_2 : w5.cell? ⟨gb126, 2, none⟩ = some (.int .i64 a0_2) := (blk_cell BK126.out 2).trans rfl
        have hcz12_3 : w5.cell? ⟨gb126, 3, none⟩ = some (.int .i64 a0_3) := (blk_cell BK126.out 3).trans rfl
        have hcz12_4 : w5.cell? ⟨gb126, 4, none⟩ = some (.int .i64 a0_4) := (blk_cell BK126.out 4).trans rfl
        have hcz12_5 : w5.cell? ⟨gb126, 5, none⟩ = some (.int .i64 a0_5) := (blk_cell BK126.out 5).trans rfl
        have hfz12_0 := blk_frozen BK126.out 0
        have hfz12_1 := blk_frozen BK126.out 1
        have hfz12_2 := blk_frozen BK126.out 2
        have hfz12_3 := blk_frozen BK126.out 3
        have hfz12_4 := blk_frozen BK126.out 4
        have hfz12_5 := blk_frozen BK126.out 5
        go_wp2_with (first | ((with_reducible refine gate_callee (f := 66) rfl ?_); refine goesL_ (some 8) rfl rfl Try.func66 (by kernel_rfl) rfl #[.agg #[.int .i64 a0_0, .int .i64 a0_1, .int .i64 a0_2, .int .i64 a0_3, .int .i64 a0_4, .int .i64 a0_5]] rfl (by (try simp only [List.map_toArray, List.map_cons, List.map_nil]); first | done | rfl | (simp only [List.length_drop, List.length_take]; rfl)) ?_; (with_reducible refine (plan_Right.calls a0_0 a0_1 a0_2 a0_3 a0_4 a0_5 true _ A6.out).mono ?_); rintro e w13 ⟨rfl, hb⟩; refine ⟨_, rfl, ?_⟩; have n0_ := Aside0.mk (blk_below (g := gb126) (o := .cells #[.int .i64 a0_0, .int .i64 a0_1, .int .i64 a0_2, .int .i64 a0_3, .int .i64 a0_4, .int .i64 a0_5] 23 (0, 0)) (by (with_reducible repeat (first | refine blk_drewN ?_ _ | refine blk_drew ?_ | refine blk_alloc ?_ _)); exact BK126.out) hb); have n1_ := Aside0.mk (below_step (by repeat (first | (with_reducible first | exact HB.out | apply below_alloc | apply pw_below_drewN | apply below_drew1 | refine below_set ?_ GE126.out) | exact HB.out)) hb); clear BK126; clear HB; have BK126 := n0_; have HB := n1_; clear n0_ n1_; (try clear hb); (try clear hb2); (try clear hk); (try clear hi); have hcz14_0 : w13.cell? ⟨gb126, 0, none⟩ = some (.int .i64 a0_0) := (blk_cell BK126.out 0).trans rfl; have hcz14_1 : w13.cell? ⟨gb126, 1, none⟩ = some (.int .i64 a0_1) := (blk_cell BK126.out 1).trans rfl; have hcz14_2 : w13.cell? ⟨gb126, 2, none⟩ = some (.int .i64 a0_2) := (blk_cell BK126.out 2).trans rfl; have hcz14_3 : w13.cell? ⟨gb126, 3, none⟩ = some (.int .i64 a0_3) := (blk_cell BK126.out 3).trans rfl; have hcz14_4 : w13.cell? ⟨gb126, 4, none⟩ = some (.int .i64 a0_4) := (blk_cell BK126.out 4).trans rfl; have hcz14_5 : w13.cell? ⟨gb126, 5, none⟩ = some (.int .i64 a0_5) := (blk_cell BK126.out 5).trans rfl; have hfz14_0 := blk_frozen BK126.out 0; have hfz14_1 := blk_frozen BK126.out 1; have hfz14_2 := blk_frozen BK126.out 2; have hfz14_3 := blk_frozen BK126.out 3; have hfz14_4 := blk_frozen BK126.out 4; have hfz14_5 := blk_frozen BK126.out 5) | (go_at_call 91; (with_reducible refine (plan_between.calls a1 0 (wrap64 (a0_0 - 1)) true _ A8.out).mono ?_); rintro e w' ⟨rfl, ⟨nd, rfl⟩⟩) | (go_at_call 93; (with_reducible refine (plan_room.calls a0_0 a0_1 a0_2 a0_3 a0_4 a0_5 t129 _ A10.out).mono ?_); rintro e w15 ⟨rfl, hb⟩; have n0_ := Aside0.mk (blk_below (g := gb126) (o := .cells #[.int .i64 a0_0, .int .i64 a0_1, .int .i64 a0_2, .int .i64 a0_3, .int .i64 a0_4, .int .i64 a0_5] 23 (0, 0)) (by (with_reducible repeat (first | refine blk_drewN ?_ _ | refine blk_drew ?_ | refine blk_alloc ?_ _)); exact BK126.out) hb); have n1_ := Aside0.mk (below_step (by repeat (first | (with_reducible first | exact HB.out | apply below_alloc | apply pw_below_drewN | apply below_drew1 | refine below_set ?_ GE126.out) | exact HB.out)) hb); clear BK126; clear HB; have BK126 := n0_; have HB := n1_; clear n0_ n1_; (try clear hb); (try clear hb2); (try clear hk); (try clear hi)) | (go_at_call 91; (with_reducible refine (plan_between.calls a2 0 (wrap64 (t129 - 1)) t130 _ A11.out).mono ?_); rintro e w' ⟨rfl, ⟨nd, rfl⟩⟩))
        go_meet
        case rel => exact ⟨_, (!t130), (by first | rfl | (simp; done) | (simp [*]; done)), H', ⟨by first | omega | exact Nat.le_refl _⟩, ⟨by (with_reducible repeat (first | refine blk_drewN ?_ _ | refine blk_drew ?_ | refine blk_alloc ?_ _)); exact BK126.out⟩, ⟨by repeat (first | (with_reducible first | exact HB.out | apply below_alloc | apply pw_below_drewN | apply below_drew1 | refine below_set ?_ GE126.out) | exact HB.out)⟩⟩
      · replace c9 := Bool.eq_false_iff.mpr c9
        subst c9
        have H1 : (plan_within.j0 k a1 a2 true a0_0 a0_1 a0_2 a0_3 a0_4 a0_5) = some r := by rw [if_neg (show ¬ (false = true) by decide)] at H; exact H
        clear H
        have H := H1
        clear H1
        have H' := Aside0.mk H
        clear H
        have hcz16_0 : w5.cell? ⟨gb126, 0, none⟩ = some (.int .i64 a0_0) := (blk_cell BK126.out 0).trans rfl
        have hcz16_1 : w5.cell? ⟨gb126, 1, none⟩ = some (.int .i64 a0_1) := (blk_cell BK126.out 1).trans rfl
        have hcz16_2 : w5.cell? ⟨gb126, 2, none⟩ = some (.int .i64 a0_2) := (blk_cell BK126.out 2).trans rfl
        have hcz16_3 : w5.cell? ⟨gb126, 3, none⟩ = some (.int .i64 a0_3) := (blk_cell BK126.out 3).trans rfl
        have hcz16_4 : w5.cell? ⟨gb126, 4, none⟩ = some (.int .i64 a0_4) := (blk_cell BK126.out 4).trans rfl
        have hcz16_5 : w5.cell? ⟨gb126, 5, none⟩ = some (.int .i64 a0_5) := (blk_cell BK126.out 5).trans rfl
        have hfz16_0 := blk_frozen BK126.out 0
        have hfz16_1 := blk_frozen BK126.out 1
        have hfz16_2 := blk_frozen BK126.out 2
        have hfz16_3 := blk_frozen BK126.out 3
        have hfz16_4 := blk_frozen BK126.out 4
        have hfz16_5 := blk_frozen BK126.out 5
        go_wp2_with (first | ((with_reducible refine gate_callee (f := 66) rfl ?_); refine goesL_ (some 8) rfl rfl Try.func66 (by kernel_rfl) rfl #[.agg #[.int .i64 a0_0, .int .i64 a0_1, .int .i64 a0_2, .int .i64 a0_3, .int .i64 a0_4, .int .i64 a0_5]] rfl (by (try simp only [List.map_toArray, List.map_cons, List.map_nil]); first | done | rfl | (simp only [List.length_drop, List.length_take]; rfl)) ?_; (with_reducible refine (plan_Right.calls a0_0 a0_1 a0_2 a0_3 a0_4 a0_5 true _ A6.out).mono ?_); rintro e w17 ⟨rfl, hb⟩; refine ⟨_, rfl, ?_⟩; have n0_ := Aside0.mk (blk_below (g := gb126) (o := .cells #[.int .i64 a0_0, .int .i64 a0_1, .int .i64 a0_2, .int .i64 a0_3, .int .i64 a0_4, .int .i64 a0_5] 23 (0, 0)) (by (with_reducible repeat (first | refine blk_drewN ?_ _ | refine blk_drew ?_ | refine blk_alloc ?_ _)); exact BK126.out) hb); have n1_ := Aside0.mk (below_step (by repeat (first | (with_reducible first | exact HB.out | apply below_alloc | apply pw_below_drewN | apply below_drew1 | refine below_set ?_ GE126.out) | exact HB.out)) hb); clear BK126; clear HB; have BK126 := n0_; have HB := n1_; clear n0_ n1_; (try clear hb); (try clear hb2); (try clear hk); (try clear hi); have hcz18_0 : w17.cell? ⟨gb126, 0, none⟩ = some (.int .i64 a0_0) := (blk_cell BK126.out 0).trans rfl; have hcz18_1 : w17.cell? ⟨gb126, 1, none⟩ = some (.int .i64 a0_1) := (blk_cell BK126.out 1).trans rfl; have hcz18_2 : w17.cell? ⟨gb126, 2, none⟩ = some (.int .i64 a0_2) := (blk_cell BK126.out 2).trans rfl; have hcz18_3 : w17.cell? ⟨gb126, 3, none⟩ = some (.int .i64 a0_3) := (blk_cell BK126.out 3).trans rfl; have hcz18_4 : w17.cell? ⟨gb126, 4, none⟩ = some (.int .i64 a0_4) := (blk_cell BK126.out 4).trans rfl; have hcz18_5 : w17.cell? ⟨gb126, 5, none⟩ = some (.int .i64 a0_5) := (blk_cell BK126.out 5).trans rfl; have hfz18_0 := blk_frozen BK126.out 0; have hfz18_1 := blk_frozen BK126.out 1; have hfz18_2 := blk_frozen BK126.out 2; have hfz18_3 := blk_frozen BK126.out 3; have hfz18_4 := blk_frozen BK126.out 4; have hfz18_5 := blk_frozen BK126.out 5) | (go_at_call 91; (with_reducible refine (plan_between.calls a1 0 (wrap64 (a0_0 - 1)) false _ A8.out).mono ?_); rintro e w' ⟨rfl, ⟨nd, rfl⟩⟩))
        go_meet
        case rel => exact ⟨_, (true), (by first | rfl | (simp; done) | (simp [*]; done)), H', ⟨by first | omega | exact Nat.le_refl _⟩, ⟨by (with_reducible repeat (first | refine blk_drewN ?_ _ | refine blk_drew ?_ | refine blk_alloc ?_ _)); exact BK126.out⟩, ⟨by repeat (first | (with_reducible first | exact HB.out | apply below_alloc | apply pw_below_drewN | apply below_drew1 | refine below_set ?_ GE126.out) | exact HB.out)⟩⟩
    · replace c7 := Bool.eq_false_iff.mpr c7
      subst c7
      have H1 : (plan_within.j0 k a1 a2 true a0_0 a0_1 a0_2 a0_3 a0_4 a0_5) = some r := by rw [if_neg (show ¬ (false = true) by decide)] at H; exact H
      clear H
      have H := H1
      clear H1
      have H' := Aside0.mk H
      clear H
      have hcz19_0 : w5.cell? ⟨gb126, 0, none⟩ = some (.int .i64 a0_0) := (blk_cell BK126.out 0).trans rfl
      have hcz19_1 : w5.cell? ⟨gb126, 1, none⟩ = some (.int .i64 a0_1) := (blk_cell BK126.out 1).trans rfl
      have hcz19_2 : w5.cell? ⟨gb126, 2, none⟩ = some (.int .i64 a0_2) := (blk_cell BK126.out 2).trans rfl
      have hcz19_3 : w5.cell? ⟨gb126, 3, none⟩ = some (.int .i64 a0_3) := (blk_cell BK126.out 3).trans rfl
      have hcz19_4 : w5.cell? ⟨gb126, 4, none⟩ = some (.int .i64 a0_4) := (blk_cell BK126.out 4).trans rfl
      have hcz19_5 : w5.cell? ⟨gb126, 5, none⟩ = some (.int .i64 a0_5) := (blk_cell BK126.out 5).trans rfl
      have hfz19_0 := blk_frozen BK126.out 0
      have hfz19_1 := blk_frozen BK126.out 1
      have hfz19_2 := blk_frozen BK126.out 2
      have hfz19_3 := blk_frozen BK126.out 3
      have hfz19_4 := blk_frozen BK126.out 4
      have hfz19_5 := blk_frozen BK126.out 5
      go_wp2_with (first | ((with_reducible refine gate_callee (f := 66) rfl ?_); refine goesL_ (some 8) rfl rfl Try.func66 (by kernel_rfl) rfl #[.agg #[.int .i64 a0_0, .int .i64 a0_1, .int .i64 a0_2, .int .i64 a0_3, .int .i64 a0_4, .int .i64 a0_5]] rfl (by (try simp only [List.map_toArray, List.map_cons, List.map_nil]); first | done | rfl | (simp only [List.length_drop, List.length_take]; rfl)) ?_; (with_reducible refine (plan_Right.calls a0_0 a0_1 a0_2 a0_3 a0_4 a0_5 false _ A6.out).mono ?_); rintro e w20 ⟨rfl, hb⟩; refine ⟨_, rfl, ?_⟩; have n0_ := Aside0.mk (blk_below (g := gb126) (o := .cells #[.int .i64 a0_0, .int .i64 a0_1, .int .i64 a0_2, .int .i64 a0_3, .int .i64 a0_4, .int .i64 a0_5] 23 (0, 0)) (by (with_reducible repeat (first | refine blk_drewN ?_ _ | refine blk_drew ?_ | refine blk_alloc ?_ _)); exact BK126.out) hb); have n1_ := Aside0.mk (below_step (by repeat (first | (with_reducible first | exact HB.out | apply below_alloc | apply pw_below_drewN | apply below_drew1 | refine below_set ?_ GE126.out) | exact HB.out)) hb); clear BK126; clear HB; have BK126 := n0_; have HB := n1_; clear n0_ n1_; (try clear hb); (try clear hb2); (try clear hk); (try clear hi)))
      go_meet
      case rel => exact ⟨_, (true), (by first | rfl | (simp; done) | (simp [*]; done)), H', ⟨by first | omega | exact Nat.le_refl _⟩, ⟨by (with_reducible repeat (first | refine blk_drewN ?_ _ | refine blk_drew ?_ | refine blk_alloc ?_ _)); exact BK126.out⟩, ⟨by repeat (first | (with_reducible first | exact HB.out | apply below_alloc | apply pw_below_drewN | apply below_drew1 | refine below_set ?_ GE126.out) | exact HB.out)⟩⟩
  case rest =>
    clear HC4
    try clear p2
    try clear c6
    try clear p6
    try clear c7
    try clear c9
    try clear hcz12_0
    try clear hcz12_1
    try clear hcz12_2
    try clear hcz12_3
    try clear hcz12_4
    try clear hcz12_5
    try clear hcz14_0
    try clear hcz14_1
    try clear hcz14_2
    try clear hcz14_3
    try clear hcz14_4
    try clear hcz14_5
    try clear hcz16_0
    try clear hcz16_1
    try clear hcz16_2
    try clear hcz16_3
    try clear hcz16_4
    try clear hcz16_5
    try clear hcz18_0
    try clear hcz18_1
    try clear hcz18_2
    try clear hcz18_3
    try clear hcz18_4
    try clear hcz18_5
    try clear hcz19_0
    try clear hcz19_1
    try clear hcz19_2
    try clear hcz19_3
    try clear hcz19_4
    try clear hcz19_5
    try clear hfz12_0
    try clear hfz12_1
    try clear hfz12_2
    try clear hfz12_3
    try clear hfz12_4
    try clear hfz12_5
    try clear hfz14_0
    try clear hfz14_1
    try clear hfz14_2
    try clear hfz14_3
    try clear hfz14_4
    try clear hfz14_5
    try clear hfz16_0
    try clear hfz16_1
    try clear hfz16_2
    try clear hfz16_3
    try clear hfz16_4
    try clear hfz16_5
    try clear hfz18_0
    try clear hfz18_1
    try clear hfz18_2
    try clear hfz18_3
    try clear hfz18_4
    try clear hfz18_5
    try clear hfz19_0
    try clear hfz19_1
    try clear hfz19_2
    try clear hfz19_3
    try clear hfz19_4
    try clear hfz19_5
    obtain ⟨kq, x25_3, rfl, HA, HJ3, BK126, HB⟩ := hcut
    cases kq with
    | zero => exact absurd HA.out (by simp [plan_within.j0])
    | succ kj3 =>
      have H := HA.out
      clear HA
      simp only [plan_within.j0] at H
      by_cases c21 : x25_3 = true
      · subst c21
        have H1 : (some (-1)) = some r := by rw [if_pos rfl] at H; exact H
        clear H
        have H := H1
        clear H1
        obtain rfl := Option.some.inj H
        go_wp2
        go_ret
        exact ⟨by first | rfl | (simp [errW_none, errW_some] <;> rfl) | (simp [*, errW_none, errW_some] <;> rfl), by repeat (first | (with_reducible first | exact HB.out | apply below_alloc | apply pw_below_drewN | apply below_drew1 | refine below_set ?_ GE126.out) | exact HB.out)⟩
      · replace c21 := Bool.eq_false_iff.mpr c21
        subst c21
        have H1 : ((plan_slots.f a0_0 a0_1 a0_2 a0_3 a0_4 a0_5).bind fun t131 => ((plan_room.f a0_0 a0_1 a0_2 a0_3 a0_4 a0_5).bind fun t132 => (some (wrap64 ((wrap64 (t131 + (wrap64 (a1 * t132)))) + a2))))) = some r := by rw [if_neg (show ¬ (false = true) by decide)] at H; exact H
        clear H
        have H := H1
        clear H1
        replace H := Option.bind_eq_some_iff.mp H
        obtain ⟨t131, A220, H⟩ := H
        replace H : ((plan_room.f a0_0 a0_1 a0_2 a0_3 a0_4 a0_5).bind fun t132 => (some (wrap64 ((wrap64 (t131 + (wrap64 (a1 * t132)))) + a2)))) = some r := H
        have A22 := Aside0.mk A220
        clear A220
        replace H := Option.bind_eq_some_iff.mp H
        obtain ⟨t132, A230, H⟩ := H
        replace H : (some (wrap64 ((wrap64 (t131 + (wrap64 (a1 * t132)))) + a2))) = some r := H
        have A23 := Aside0.mk A230
        clear A230
        obtain rfl := Option.some.inj H
        try go_wp2
        have n0_ := Aside0.mk (blk_drew BK126.out)
        have n1_ := Aside0.mk (below_drew1 HB.out)
        clear BK126
        clear HB
        have BK126 := n0_
        have HB := n1_
        clear n0_ n1_
        refine start_ (n := 10) (S := fun w' => w'.cell? ⟨gb126, 0, none⟩ = some (.int .i64 a0_0) ∧ w'.cell? ⟨gb126, 1, none⟩ = some (.int .i64 a0_1) ∧ w'.cell? ⟨gb126, 2, none⟩ = some (.int .i64 a0_2) ∧ w'.cell? ⟨gb126, 3, none⟩ = some (.int .i64 a0_3) ∧ w'.cell? ⟨gb126, 4, none⟩ = some (.int .i64 a0_4) ∧ w'.cell? ⟨gb126, 5, none⟩ = some (.int .i64 a0_5)) (ds := []) #[false, false, false, false, false, false, false, false, false, false] (by kernel_rfl) rfl rfl ⟨(blk_cell BK126.out 0).trans rfl, (blk_cell BK126.out 1).trans rfl, (blk_cell BK126.out 2).trans rfl, (blk_cell BK126.out 3).trans rfl, (blk_cell BK126.out 4).trans rfl, (blk_cell BK126.out 5).trans rfl⟩ (fun hHeld => ?_); refine with_tabW plan_within.tab3 plan_within.bits3 (fun HT_ HW_ => ?_)
        generalize wc.drew = w24 at BK126 HB hHeld ⊢
        refine pure_ (i := 2) (N := some 28) (v := ?_) (a' := ?_) #[false, false, true, false, false, false, false, false, false, false] rfl rfl (any_of HT_.out (by kernel_rfl)) (fun _ _ _ h => h) (Or.inl ⟨by rfl, ?_⟩) ?_ ?_
        rotate_left
        · intro w'
          go_simp
          with_reducible rfl
        rotate_left
        · simp only [Act.put, List.setIfInBounds_toArray, List.set_cons_zero, List.set_cons_succ, i64_w, i32_w]
          rfl
        refine pure_ (i := 7) (N := some 33) (v := ?_) (a' := ?_) #[false, false, true, false, false, false, false, true, false, false] rfl rfl (any_of HT_.out (by kernel_rfl)) (fun _ _ _ h => h) (Or.inl ⟨by rfl, ?_⟩) ?_ ?_
        rotate_left
        · intro w'
          go_simp
          with_reducible rfl
        rotate_left
        · simp only [Act.put, List.setIfInBounds_toArray, List.set_cons_zero, List.set_cons_succ, i64_w, i32_w]
          rfl
        refine take_ (i := 0) (N := some 26) (v := ?_) (a' := ?_) #[true, false, true, false, false, false, false, true, false, false] rfl rfl (take_ofW HT_.out HW_.out (by kernel_rfl)) (fun _ _ _ h => h) (Or.inl ⟨by rfl, ?_⟩) hHeld ?_ ?_
        rotate_left
        · rintro w' ⟨s0, s1, s2, s3, s4, s5⟩
          go_simp
          with_reducible rfl
        rotate_left
        · simp only [Act.put, List.setIfInBounds_toArray, List.set_cons_zero, List.set_cons_succ, i64_w, i32_w]
          rfl
        refine take_ (i := 3) (N := some 29) (v := ?_) (a' := ?_) #[true, false, true, true, false, false, false, true, false, false] rfl rfl (take_ofW HT_.out HW_.out (by kernel_rfl)) (fun _ _ _ h => h) (Or.inl ⟨by rfl, ?_⟩) hHeld ?_ ?_
        rotate_left
        · rintro w' ⟨s0, s1, s2, s3, s4, s5⟩
          go_simp
          with_reducible rfl
        rotate_left
        · simp only [Act.put, List.setIfInBounds_toArray, List.set_cons_zero, List.set_cons_succ, i64_w, i32_w]
          rfl
        refine one_ (i := 1) (N := some 27) #[true, true, true, true, false, false, false, true, false, false] rfl rfl (one_of HT_.out (by kernel_rfl)) (by decide) (fun K hK => ?_)
        refine goes_ Try.func92 (by kernel_rfl) rfl #[.agg #[.int .i64 a0_0, .int .i64 a0_1, .int .i64 a0_2, .int .i64 a0_3, .int .i64 a0_4, .int .i64 a0_5]] (by rfl) rfl rfl (by (try simp only [List.map_toArray, List.map_cons, List.map_nil]); first | done | rfl | (simp only [List.length_drop, List.length_take]; rfl)) ?_
        with_reducible refine (plan_slots.calls a0_0 a0_1 a0_2 a0_3 a0_4 a0_5 t131 _ A22.out).mono ?_
        rintro e w25 ⟨rfl, hb⟩
        refine ⟨_, rfl, ?_⟩
        have n0_ := Aside0.mk (blk_below (g := gb126) (o := .cells #[.int .i64 a0_0, .int .i64 a0_1, .int .i64 a0_2, .int .i64 a0_3, .int .i64 a0_4, .int .i64 a0_5] 23 (0, 0)) (by (with_reducible repeat (first | refine blk_drewN ?_ _ | refine blk_drew ?_ | refine blk_alloc ?_ _)); exact BK126.out) hb)
        have n1_ := Aside0.mk (below_step (by repeat (first | (with_reducible first | exact HB.out | apply below_alloc | apply pw_below_drewN | apply below_drew1 | refine below_set ?_ GE126.out) | exact HB.out)) hb)
        clear BK126
        clear HB
        have BK126 := n0_
        have HB := n1_
        clear n0_ n1_
        (try clear hb)
        (try clear hb2)
        (try clear hk)
        (try clear hi)
        refine hK.out _ _ ⟨(blk_cell BK126.out 0).trans rfl, (blk_cell BK126.out 1).trans rfl, (blk_cell BK126.out 2).trans rfl, (blk_cell BK126.out 3).trans rfl, (blk_cell BK126.out 4).trans rfl, (blk_cell BK126.out 5).trans rfl⟩ (fun hHeld => ?_)
        clear hK K
        refine norm_ (a' := ?_) ?_ ?_
        rotate_left
        · show Act.put _ (some 27) _ = _
          simp only [Act.put, List.setIfInBounds_toArray, List.set_cons_zero, List.set_cons_succ, i64_w, i32_w]
          rfl
        refine one_ (i := 4) (N := some 30) #[true, true, true, true, true, false, false, true, false, false] rfl rfl (one_of HT_.out (by kernel_rfl)) (by decide) (fun K hK => ?_)
        refine goes_ Try.func93 (by kernel_rfl) rfl #[.agg #[.int .i64 a0_0, .int .i64 a0_1, .int .i64 a0_2, .int .i64 a0_3, .int .i64 a0_4, .int .i64 a0_5]] (by rfl) rfl rfl (by (try simp only [List.map_toArray, List.map_cons, List.map_nil]); first | done | rfl | (simp only [List.length_drop, List.length_take]; rfl)) ?_
        with_reducible refine (plan_room.calls a0_0 a0_1 a0_2 a0_3 a0_4 a0_5 t132 _ A23.out).mono ?_
        rintro e w26 ⟨rfl, hb⟩
        refine ⟨_, rfl, ?_⟩
        have n0_ := Aside0.mk (blk_below (g := gb126) (o := .cells #[.int .i64 a0_0, .int .i64 a0_1, .int .i64 a0_2, .int .i64 a0_3, .int .i64 a0_4, .int .i64 a0_5] 23 (0, 0)) (by (with_reducible repeat (first | refine blk_drewN ?_ _ | refine blk_drew ?_ | refine blk_alloc ?_ _)); exact BK126.out) hb)
        have n1_ := Aside0.mk (below_step (by repeat (first | (with_reducible first | exact HB.out | apply below_alloc | apply pw_below_drewN | apply below_drew1 | refine below_set ?_ GE126.out) | exact HB.out)) hb)
        clear BK126
        clear HB
        have BK126 := n0_
        have HB := n1_
        clear n0_ n1_
        (try clear hb)
        (try clear hb2)
        (try clear hk)
        (try clear hi)
        refine hK.out _ _ ⟨(blk_cell BK126.out 0).trans rfl, (blk_cell BK126.out 1).trans rfl, (blk_cell BK126.out 2).trans rfl, (blk_cell BK126.out 3).trans rfl, (blk_cell BK126.out 4).trans rfl, (blk_cell BK126.out 5).trans rfl⟩ (fun hHeld => ?_)
        clear hK K
        refine norm_ (a' := ?_) ?_ ?_
        rotate_left
        · show Act.put _ (some 30) _ = _
          simp only [Act.put, List.setIfInBounds_toArray, List.set_cons_zero, List.set_cons_succ, i64_w, i32_w]
          rfl
        refine pure_ (i := 5) (N := some 31) (v := ?_) (a' := ?_) #[true, true, true, true, true, true, false, true, false, false] rfl rfl (any_of HT_.out (by kernel_rfl)) (fun _ _ _ h => h) (Or.inl ⟨by rfl, ?_⟩) ?_ ?_
        rotate_left
        · intro w'
          go_simp
          with_reducible rfl
        rotate_left
        · simp only [Act.put, List.setIfInBounds_toArray, List.set_cons_zero, List.set_cons_succ, i64_w, i32_w]
          rfl
        refine pure_ (i := 6) (N := some 32) (v := ?_) (a' := ?_) #[true, true, true, true, true, true, true, true, false, false] rfl rfl (any_of HT_.out (by kernel_rfl)) (fun _ _ _ h => h) (Or.inl ⟨by rfl, ?_⟩) ?_ ?_
        rotate_left
        · intro w'
          go_simp
          with_reducible rfl
        rotate_left
        · simp only [Act.put, List.setIfInBounds_toArray, List.set_cons_zero, List.set_cons_succ, i64_w, i32_w]
          rfl
        refine pure_ (i := 8) (N := some 34) (v := ?_) (a' := ?_) #[true, true, true, true, true, true, true, true, true, false] rfl rfl (any_of HT_.out (by kernel_rfl)) (fun _ _ _ h => h) (Or.inl ⟨by rfl, ?_⟩) ?_ ?_
        rotate_left
        · intro w'
          go_simp
          with_reducible rfl
        rotate_left
        · simp only [Act.put, List.setIfInBounds_toArray, List.set_cons_zero, List.set_cons_succ, i64_w, i32_w]
          rfl
        refine pure_ (i := 9) (N := some 6) (v := ?_) (a' := ?_) #[true, true, true, true, true, true, true, true, true, true] rfl rfl (any_of HT_.out (by kernel_rfl)) (fun _ _ _ h => h) (Or.inl ⟨by rfl, ?_⟩) ?_ ?_
        rotate_left
        · intro w'
          go_simp
          with_reducible rfl
        rotate_left
        · simp only [Act.put, List.setIfInBounds_toArray, List.set_cons_zero, List.set_cons_succ, i64_w, i32_w]
          rfl
        refine done_ (done_of HT_.out (by kernel_rfl)) ?_
        try go_wp2
        go_ret
        exact ⟨by first | rfl | (simp [errW_none, errW_some] <;> rfl) | (simp [*, errW_none, errW_some] <;> rfl), by repeat (first | (with_reducible first | exact HB.out | apply below_alloc | apply pw_below_drewN | apply below_drew1 | refine below_set ?_ GE126.out) | exact HB.out)⟩
def plan_Link.f (k : Nat) (a0_0 : Int) (a0_1 : Int) (a0_2 : Int) (a0_3 : Int) (a0_4 : Int) (a0_5 : Int) (a1 : Int) : Option (Int) := (plan_within.f k a0_0 a0_1 a0_2 a0_3 a0_4 a0_5 a1 1).bind fun t134 => (some t134)
set_option maxHeartbeats 8000000 in
set_option maxRecDepth 100000 in
theorem plan_Link.calls (k : Nat) (a0_0 : Int) (a0_1 : Int) (a0_2 : Int) (a0_3 : Int) (a0_4 : Int) (a0_5 : Int) (a1 : Int) (r : Int) (w : World) (h : plan_Link.f k a0_0 a0_1 a0_2 a0_3 a0_4 a0_5 a1 = some r) :
    Calls Try.prog 69 #[.agg #[.int .i64 a0_0, .int .i64 a0_1, .int .i64 a0_2, .int .i64 a0_3, .int .i64 a0_4, .int .i64 a0_5], .int .i64 a1] w fun e w' => e = .returned (.int .i64 r) ∧ Below w.heap.size w w' := by
  have hu23 := Try.underlying23
  have HB := Aside0.mk (Below.refl w.heap.size w)
  have H : ((plan_within.f k a0_0 a0_1 a0_2 a0_3 a0_4 a0_5 a1 1).bind fun t134 => (some t134)) = some r := h
  clear h
  replace H := Option.bind_eq_some_iff.mp H
  obtain ⟨t134, A30, H⟩ := H
  replace H : (some t134) = some r := H
  have A3 := Aside0.mk A30
  clear A30
  obtain rfl := Option.some.inj H
  go_enter Try.func69, Try.ntmps69
  go_wp2_with (first | ((with_reducible refine gate_dst (N := 2) rfl ?_); refine box_event ?hg (N := 2) ?hd (cs := #[.int .i64 a0_0, .int .i64 a0_1, .int .i64 a0_2, .int .i64 a0_3, .int .i64 a0_4, .int .i64 a0_5]) (t := 23) ?hr ?_; (case hd => rfl); (case hg => rfl); (case hr => first | (go_simp; done) | (go_simp; rfl)); intro gb133 hg w4 hbox hb; have n0_ := Aside0.mk (below_step (by repeat (first | (with_reducible first | exact HB.out | apply below_alloc | apply pw_below_drewN | apply below_drew1) | exact HB.out)) hb); have n1_ := Aside0.mk (hbox); have n2_ := Aside0.mk ((by rw [hg]; exact (below_size (by repeat (first | (with_reducible first | exact HB.out | apply below_alloc | apply pw_below_drewN | apply below_drew1) | exact HB.out))) : w.heap.size ≤ gb133)); have n3_ := Aside0.mk ((by rw [hg]; exact (below_size (by repeat (first | (with_reducible first | exact HB.out | apply below_alloc | apply pw_below_drewN | apply below_drew1) | exact HB.out))) : w.heap.size ≤ gb133)); clear HB; have HB := n0_; have BK133 := n1_; have GW133 := n2_; have GE133 := n3_; clear n0_ n1_ n2_ n3_; clear hb hbox hg; have hcz5_0 : w4.cell? ⟨gb133, 0, none⟩ = some (.int .i64 a0_0) := (blk_cell BK133.out 0).trans rfl; have hcz5_1 : w4.cell? ⟨gb133, 1, none⟩ = some (.int .i64 a0_1) := (blk_cell BK133.out 1).trans rfl; have hcz5_2 : w4.cell? ⟨gb133, 2, none⟩ = some (.int .i64 a0_2) := (blk_cell BK133.out 2).trans rfl; have hcz5_3 : w4.cell? ⟨gb133, 3, none⟩ = some (.int .i64 a0_3) := (blk_cell BK133.out 3).trans rfl; have hcz5_4 : w4.cell? ⟨gb133, 4, none⟩ = some (.int .i64 a0_4) := (blk_cell BK133.out 4).trans rfl; have hcz5_5 : w4.cell? ⟨gb133, 5, none⟩ = some (.int .i64 a0_5) := (blk_cell BK133.out 5).trans rfl; have hfz5_0 := blk_frozen BK133.out 0; have hfz5_1 := blk_frozen BK133.out 1; have hfz5_2 := blk_frozen BK133.out 2; have hfz5_3 := blk_frozen BK133.out 3; have hfz5_4 := blk_frozen BK133.out 4; have hfz5_5 := blk_frozen BK133.out 5) | ((with_reducible refine gate_callee (f := 95) rfl ?_); refine goesL_ (some 7) rfl rfl Try.func95 (by kernel_rfl) rfl #[.agg #[.int .i64 a0_0, .int .i64 a0_1, .int .i64 a0_2, .int .i64 a0_3, .int .i64 a0_4, .int .i64 a0_5], .int .i64 a1, .int .i64 1] rfl (by (try simp only [List.map_toArray, List.map_cons, List.map_nil]); first | done | rfl | (simp only [List.length_drop, List.length_take]; rfl)) ?_; (with_reducible refine (plan_within.calls k a0_0 a0_1 a0_2 a0_3 a0_4 a0_5 a1 1 t134 _ A3.out).mono ?_); rintro e w6 ⟨rfl, hb⟩; refine ⟨_, rfl, ?_⟩; have n0_ := Aside0.mk (blk_below (g := gb133) (o := .cells #[.int .i64 a0_0, .int .i64 a0_1, .int .i64 a0_2, .int .i64 a0_3, .int .i64 a0_4, .int .i64 a0_5] 23 (0, 0)) (by (with_reducible repeat (first | refine blk_drewN ?_ _ | refine blk_drew ?_ | refine blk_alloc ?_ _)); exact BK133.out) hb); have n1_ := Aside0.mk (below_step (by repeat (first | (with_reducible first | exact HB.out | apply below_alloc | apply pw_below_drewN | apply below_drew1 | refine below_set ?_ GE133.out) | exact HB.out)) hb); clear BK133; clear HB; have BK133 := n0_; have HB := n1_; clear n0_ n1_; (try clear hb); (try clear hb2); (try clear hk); (try clear hi)))
  go_ret
  exact ⟨by first | rfl | (simp [errW_none, errW_some] <;> rfl) | (simp [*, errW_none, errW_some] <;> rfl), by repeat (first | (with_reducible first | exact HB.out | apply below_alloc | apply pw_below_drewN | apply below_drew1 | refine below_set ?_ GE133.out) | exact HB.out)⟩
def withyref06_Right.f (a0_0 : Int) (a0_1 : Int) (a0_2 : Int) (a0_3 : Int) (a0_4 : Int) (a0_5 : Int) : Option (Bool) := if a0_0 ≥ 1 then (if a0_0 ≤ 64 then (if a0_1 ≥ 0 then (if a0_1 ≤ 8 then (if a0_2 ≥ 1 then (if a0_2 ≤ 8 then (if a0_3 ≥ 1 then (if a0_3 ≤ 16 then (if a0_4 ≥ 1 then (if a0_4 ≤ 1048576 then (if a0_5 ≥ 0 then (some (decide (a0_5 ≤ 64))) else (some false)) else (some false)) else (some false)) else (some false)) else (some false)) else (some false)) else (some false)) else (some false)) else (some false)) else (some false)) else (some false)
set_option maxHeartbeats 8000000 in
set_option maxRecDepth 100000 in
theorem withyref06_Right.calls (a0_0 : Int) (a0_1 : Int) (a0_2 : Int) (a0_3 : Int) (a0_4 : Int) (a0_5 : Int) (r : Bool) (w : World) (h : withyref06_Right.f a0_0 a0_1 a0_2 a0_3 a0_4 a0_5 = some r) :
    Calls Try.prog 21 #[.agg #[.int .i64 a0_0, .int .i64 a0_1, .int .i64 a0_2, .int .i64 a0_3, .int .i64 a0_4, .int .i64 a0_5]] w fun e w' => e = .returned (.bool r) ∧ Below w.heap.size w w' := by
  have hu23 := Try.underlying23
  have HB := Aside0.mk (Below.refl w.heap.size w)
  have H : (if a0_0 ≥ 1 then (if a0_0 ≤ 64 then (if a0_1 ≥ 0 then (if a0_1 ≤ 8 then (if a0_2 ≥ 1 then (if a0_2 ≤ 8 then (if a0_3 ≥ 1 then (if a0_3 ≤ 16 then (if a0_4 ≥ 1 then (if a0_4 ≤ 1048576 then (if a0_5 ≥ 0 then (some (decide (a0_5 ≤ 64))) else (some false)) else (some false)) else (some false)) else (some false)) else (some false)) else (some false)) else (some false)) else (some false)) else (some false)) else (some false)) else (some false)) = some r := h
  clear h
  by_cases c2 : a0_0 ≥ 1
  · rw [if_pos c2] at H
    have c2b0 : decide (1 ≤ a0_0) = true := decide_eq_true c2
    clear c2
    by_cases c3 : a0_0 ≤ 64
    · rw [if_pos c3] at H
      have c3b0 : decide (a0_0 ≤ 64) = true := decide_eq_true c3
      clear c3
      by_cases c4 : a0_1 ≥ 0
      · rw [if_pos c4] at H
        have c4b0 : decide (0 ≤ a0_1) = true := decide_eq_true c4
        clear c4
        by_cases c5 : a0_1 ≤ 8
        · rw [if_pos c5] at H
          have c5b0 : decide (a0_1 ≤ 8) = true := decide_eq_true c5
          clear c5
          by_cases c6 : a0_2 ≥ 1
          · rw [if_pos c6] at H
            have c6b0 : decide (1 ≤ a0_2) = true := decide_eq_true c6
            clear c6
            by_cases c7 : a0_2 ≤ 8
            · rw [if_pos c7] at H
              have c7b0 : decide (a0_2 ≤ 8) = true := decide_eq_true c7
              clear c7
              by_cases c8 : a0_3 ≥ 1
              · rw [if_pos c8] at H
                have c8b0 : decide (1 ≤ a0_3) = true := decide_eq_true c8
                clear c8
                by_cases c9 : a0_3 ≤ 16
                · rw [if_pos c9] at H
                  have c9b0 : decide (a0_3 ≤ 16) = true := decide_eq_true c9
                  clear c9
                  by_cases c10 : a0_4 ≥ 1
                  · rw [if_pos c10] at H
                    have c10b0 : decide (1 ≤ a0_4) = true := decide_eq_true c10
                    clear c10
                    by_cases c11 : a0_4 ≤ 1048576
                    · rw [if_pos c11] at H
                      have c11b0 : decide (a0_4 ≤ 1048576) = true := decide_eq_true c11
                      clear c11
                      by_cases c12 : a0_5 ≥ 0
                      · rw [if_pos c12] at H
                        have c12b0 : decide (0 ≤ a0_5) = true := decide_eq_true c12
                        clear c12
                        obtain rfl := Option.some.inj H
                        go_enter Try.func21, Try.ntmps21
                        go_wp2_with (first | ((with_reducible refine gate_dst (N := 1) rfl ?_); refine box_event ?hg (N := 1) ?hd (cs := #[.int .i64 a0_0, .int .i64 a0_1, .int .i64 a0_2, .int .i64 a0_3, .int .i64 a0_4, .int .i64 a0_5]) (t := 23) ?hr ?_; (case hd => rfl); (case hg => rfl); (case hr => first | (go_simp; done) | (go_simp; rfl)); intro gb137 hg w13 hbox hb; have n0_ := Aside0.mk (below_step (by repeat (first | (with_reducible first | exact HB.out | apply below_alloc | apply pw_below_drewN | apply below_drew1) | exact HB.out)) hb); have n1_ := Aside0.mk (hbox); have n2_ := Aside0.mk ((by rw [hg]; exact (below_size (by repeat (first | (with_reducible first | exact HB.out | apply below_alloc | apply pw_below_drewN | apply below_drew1) | exact HB.out))) : w.heap.size ≤ gb137)); have n3_ := Aside0.mk ((by rw [hg]; exact (below_size (by repeat (first | (with_reducible first | exact HB.out | apply below_alloc | apply pw_below_drewN | apply below_drew1) | exact HB.out))) : w.heap.size ≤ gb137)); clear HB; have HB := n0_; have BK137 := n1_; have GW137 := n2_; have GE137 := n3_; clear n0_ n1_ n2_ n3_; clear hb hbox hg; have hcz14_0 : w13.cell? ⟨gb137, 0, none⟩ = some (.int .i64 a0_0) := (blk_cell BK137.out 0).trans rfl; have hcz14_1 : w13.cell? ⟨gb137, 1, none⟩ = some (.int .i64 a0_1) := (blk_cell BK137.out 1).trans rfl; have hcz14_2 : w13.cell? ⟨gb137, 2, none⟩ = some (.int .i64 a0_2) := (blk_cell BK137.out 2).trans rfl; have hcz14_3 : w13.cell? ⟨gb137, 3, none⟩ = some (.int .i64 a0_3) := (blk_cell BK137.out 3).trans rfl; have hcz14_4 : w13.cell? ⟨gb137, 4, none⟩ = some (.int .i64 a0_4) := (blk_cell BK137.out 4).trans rfl; have hcz14_5 : w13.cell? ⟨gb137, 5, none⟩ = some (.int .i64 a0_5) := (blk_cell BK137.out 5).trans rfl; have hfz14_0 := blk_frozen BK137.out 0; have hfz14_1 := blk_frozen BK137.out 1; have hfz14_2 := blk_frozen BK137.out 2; have hfz14_3 := blk_frozen BK137.out 3; have hfz14_4 := blk_frozen BK137.out 4; have hfz14_5 := blk_frozen BK137.out 5))
                        go_ret
                        exact ⟨by first | rfl | (simp [errW_none, errW_some] <;> rfl) | (simp [*, errW_none, errW_some] <;> rfl), by repeat (first | (with_reducible first | exact HB.out | apply below_alloc | apply pw_below_drewN | apply below_drew1 | refine below_set ?_ GE137.out) | exact HB.out)⟩
                      · rw [if_neg c12] at H
                        have c12b0 : decide (0 ≤ a0_5) = false := decide_eq_false c12
                        clear c12
                        obtain rfl := Option.some.inj H
                        go_enter Try.func21, Try.ntmps21
                        go_wp2_with (first | ((with_reducible refine gate_dst (N := 1) rfl ?_); refine box_event ?hg (N := 1) ?hd (cs := #[.int .i64 a0_0, .int .i64 a0_1, .int .i64 a0_2, .int .i64 a0_3, .int .i64 a0_4, .int .i64 a0_5]) (t := 23) ?hr ?_; (case hd => rfl); (case hg => rfl); (case hr => first | (go_simp; done) | (go_simp; rfl)); intro gb137 hg w15 hbox hb; have n0_ := Aside0.mk (below_step (by repeat (first | (with_reducible first | exact HB.out | apply below_alloc | apply pw_below_drewN | apply below_drew1) | exact HB.out)) hb); have n1_ := Aside0.mk (hbox); have n2_ := Aside0.mk ((by rw [hg]; exact (below_size (by repeat (first | (with_reducible first | exact HB.out | apply below_alloc | apply pw_below_drewN | apply below_drew1) | exact HB.out))) : w.heap.size ≤ gb137)); have n3_ := Aside0.mk ((by rw [hg]; exact (below_size (by repeat (first | (with_reducible first | exact HB.out | apply below_alloc | apply pw_below_drewN | apply below_drew1) | exact HB.out))) : w.heap.size ≤ gb137)); clear HB; have HB := n0_; have BK137 := n1_; have GW137 := n2_; have GE137 := n3_; clear n0_ n1_ n2_ n3_; clear hb hbox hg; have hcz16_0 : w15.cell? ⟨gb137, 0, none⟩ = some (.int .i64 a0_0) := (blk_cell BK137.out 0).trans rfl; have hcz16_1 : w15.cell? ⟨gb137, 1, none⟩ = some (.int .i64 a0_1) := (blk_cell BK137.out 1).trans rfl; have hcz16_2 : w15.cell? ⟨gb137, 2, none⟩ = some (.int .i64 a0_2) := (blk_cell BK137.out 2).trans rfl; have hcz16_3 : w15.cell? ⟨gb137, 3, none⟩ = some (.int .i64 a0_3) := (blk_cell BK137.out 3).trans rfl; have hcz16_4 : w15.cell? ⟨gb137, 4, none⟩ = some (.int .i64 a0_4) := (blk_cell BK137.out 4).trans rfl; have hcz16_5 : w15.cell? ⟨gb137, 5, none⟩ = some (.int .i64 a0_5) := (blk_cell BK137.out 5).trans rfl; have hfz16_0 := blk_frozen BK137.out 0; have hfz16_1 := blk_frozen BK137.out 1; have hfz16_2 := blk_frozen BK137.out 2; have hfz16_3 := blk_frozen BK137.out 3; have hfz16_4 := blk_frozen BK137.out 4; have hfz16_5 := blk_frozen BK137.out 5))
                        go_ret
                        exact ⟨by first | rfl | (simp [errW_none, errW_some] <;> rfl) | (simp [*, errW_none, errW_some] <;> rfl), by repeat (first | (with_reducible first | exact HB.out | apply below_alloc | apply pw_below_drewN | apply below_drew1 | refine below_set ?_ GE137.out) | exact HB.out)⟩
                    · rw [if_neg c11] at H
                      have c11b0 : decide (a0_4 ≤ 1048576) = false := decide_eq_false c11
                      clear c11
                      obtain rfl := Option.some.inj H
                      go_enter Try.func21, Try.ntmps21
                      go_wp2_with (first | ((with_reducible refine gate_dst (N := 1) rfl ?_); refine box_event ?hg (N := 1) ?hd (cs := #[.int .i64 a0_0, .int .i64 a0_1, .int .i64 a0_2, .int .i64 a0_3, .int .i64 a0_4, .int .i64 a0_5]) (t := 23) ?hr ?_; (case hd => rfl); (case hg => rfl); (case hr => first | (go_simp; done) | (go_simp; rfl)); intro gb137 hg w17 hbox hb; have n0_ := Aside0.mk (below_step (by repeat (first | (with_reducible first | exact HB.out | apply below_alloc | apply pw_below_drewN | apply below_drew1) | exact HB.out)) hb); have n1_ := Aside0.mk (hbox); have n2_ := Aside0.mk ((by rw [hg]; exact (below_size (by repeat (first | (with_reducible first | exact HB.out | apply below_alloc | apply pw_below_drewN | apply below_drew1) | exact HB.out))) : w.heap.size ≤ gb137)); have n3_ := Aside0.mk ((by rw [hg]; exact (below_size (by repeat (first | (with_reducible first | exact HB.out | apply below_alloc | apply pw_below_drewN | apply below_drew1) | exact HB.out))) : w.heap.size ≤ gb137)); clear HB; have HB := n0_; have BK137 := n1_; have GW137 := n2_; have GE137 := n3_; clear n0_ n1_ n2_ n3_; clear hb hbox hg; have hcz18_0 : w17.cell? ⟨gb137, 0, none⟩ = some (.int .i64 a0_0) := (blk_cell BK137.out 0).trans rfl; have hcz18_1 : w17.cell? ⟨gb137, 1, none⟩ = some (.int .i64 a0_1) := (blk_cell BK137.out 1).trans rfl; have hcz18_2 : w17.cell? ⟨gb137, 2, none⟩ = some (.int .i64 a0_2) := (blk_cell BK137.out 2).trans rfl; have hcz18_3 : w17.cell? ⟨gb137, 3, none⟩ = some (.int .i64 a0_3) := (blk_cell BK137.out 3).trans rfl; have hcz18_4 : w17.cell? ⟨gb137, 4, none⟩ = some (.int .i64 a0_4) := (blk_cell BK137.out 4).trans rfl; have hcz18_5 : w17.cell? ⟨gb137, 5, none⟩ = some (.int .i64 a0_5) := (blk_cell BK137.out 5).trans rfl; have hfz18_0 := blk_frozen BK137.out 0; have hfz18_1 := blk_frozen BK137.out 1; have hfz18_2 := blk_frozen BK137.out 2; have hfz18_3 := blk_frozen BK137.out 3; have hfz18_4 := blk_frozen BK137.out 4; have hfz18_5 := blk_frozen BK137.out 5))
                      go_ret
                      exact ⟨by first | rfl | (simp [errW_none, errW_some] <;> rfl) | (simp [*, errW_none, errW_some] <;> rfl), by repeat (first | (with_reducible first | exact HB.out | apply below_alloc | apply pw_below_drewN | apply below_drew1 | refine below_set ?_ GE137.out) | exact HB.out)⟩
                  · rw [if_neg c10] at H
                    have c10b0 : decide (1 ≤ a0_4) = false := decide_eq_false c10
                    clear c10
                    obtain rfl := Option.some.inj H
                    go_enter Try.func21, Try.ntmps21
                    go_wp2_with (first | ((with_reducible refine gate_dst (N := 1) rfl ?_); refine box_event ?hg (N := 1) ?hd (cs := #[.int .i64 a0_0, .int .i64 a0_1, .int .i64 a0_2, .int .i64 a0_3, .int .i64 a0_4, .int .i64 a0_5]) (t := 23) ?hr ?_; (case hd => rfl); (case hg => rfl); (case hr => first | (go_simp; done) | (go_simp; rfl)); intro gb137 hg w19 hbox hb; have n0_ := Aside0.mk (below_step (by repeat (first | (with_reducible first | exact HB.out | apply below_alloc | apply pw_below_drewN | apply below_drew1) | exact HB.out)) hb); have n1_ := Aside0.mk (hbox); have n2_ := Aside0.mk ((by rw [hg]; exact (below_size (by repeat (first | (with_reducible first | exact HB.out | apply below_alloc | apply pw_below_drewN | apply below_drew1) | exact HB.out))) : w.heap.size ≤ gb137)); have n3_ := Aside0.mk ((by rw [hg]; exact (below_size (by repeat (first | (with_reducible first | exact HB.out | apply below_alloc | apply pw_below_drewN | apply below_drew1) | exact HB.out))) : w.heap.size ≤ gb137)); clear HB; have HB := n0_; have BK137 := n1_; have GW137 := n2_; have GE137 := n3_; clear n0_ n1_ n2_ n3_; clear hb hbox hg; have hcz20_0 : w19.cell? ⟨gb137, 0, none⟩ = some (.int .i64 a0_0) := (blk_cell BK137.out 0).trans rfl; have hcz20_1 : w19.cell? ⟨gb137, 1, none⟩ = some (.int .i64 a0_1) := (blk_cell BK137.out 1).trans rfl; have hcz20_2 : w19.cell? ⟨gb137, 2, none⟩ = some (.int .i64 a0_2) := (blk_cell BK137.out 2).trans rfl; have hcz20_3 : w19.cell? ⟨gb137, 3, none⟩ = some (.int .i64 a0_3) := (blk_cell BK137.out 3).trans rfl; have hcz20_4 : w19.cell? ⟨gb137, 4, none⟩ = some (.int .i64 a0_4) := (blk_cell BK137.out 4).trans rfl; have hcz20_5 : w19.cell? ⟨gb137, 5, none⟩ = some (.int .i64 a0_5) := (blk_cell BK137.out 5).trans rfl; have hfz20_0 := blk_frozen BK137.out 0; have hfz20_1 := blk_frozen BK137.out 1; have hfz20_2 := blk_frozen BK137.out 2; have hfz20_3 := blk_frozen BK137.out 3; have hfz20_4 := blk_frozen BK137.out 4; have hfz20_5 := blk_frozen BK137.out 5))
                    go_ret
                    exact ⟨by first | rfl | (simp [errW_none, errW_some] <;> rfl) | (simp [*, errW_none, errW_some] <;> rfl), by repeat (first | (with_reducible first | exact HB.out | apply below_alloc | apply pw_below_drewN | apply below_drew1 | refine below_set ?_ GE137.out) | exact HB.out)⟩
                · rw [if_neg c9] at H
                  have c9b0 : decide (a0_3 ≤ 16) = false := decide_eq_false c9
                  clear c9
                  obtain rfl := Option.some.inj H
                  go_enter Try.func21, Try.ntmps21
                  go_wp2_with (first | ((with_reducible refine gate_dst (N := 1) rfl ?_); refine box_event ?hg (N := 1) ?hd (cs := #[.int .i64 a0_0, .int .i64 a0_1, .int .i64 a0_2, .int .i64 a0_3, .int .i64 a0_4, .int .i64 a0_5]) (t := 23) ?hr ?_; (case hd => rfl); (case hg => rfl); (case hr => first | (go_simp; done) | (go_simp; rfl)); intro gb137 hg w21 hbox hb; have n0_ := Aside0.mk (below_step (by repeat (first | (with_reducible first | exact HB.out | apply below_alloc | apply pw_below_drewN | apply below_drew1) | exact HB.out)) hb); have n1_ := Aside0.mk (hbox); have n2_ := Aside0.mk ((by rw [hg]; exact (below_size (by repeat (first | (with_reducible first | exact HB.out | apply below_alloc | apply pw_below_drewN | apply below_drew1) | exact HB.out))) : w.heap.size ≤ gb137)); have n3_ := Aside0.mk ((by rw [hg]; exact (below_size (by repeat (first | (with_reducible first | exact HB.out | apply below_alloc | apply pw_below_drewN | apply below_drew1) | exact HB.out))) : w.heap.size ≤ gb137)); clear HB; have HB := n0_; have BK137 := n1_; have GW137 := n2_; have GE137 := n3_; clear n0_ n1_ n2_ n3_; clear hb hbox hg; have hcz22_0 : w21.cell? ⟨gb137, 0, none⟩ = some (.int .i64 a0_0) := (blk_cell BK137.out 0).trans rfl; have hcz22_1 : w21.cell? ⟨gb137, 1, none⟩ = some (.int .i64 a0_1) := (blk_cell BK137.out 1).trans rfl; have hcz22_2 : w21.cell? ⟨gb137, 2, none⟩ = some (.int .i64 a0_2) := (blk_cell BK137.out 2).trans rfl; have hcz22_3 : w21.cell? ⟨gb137, 3, none⟩ = some (.int .i64 a0_3) := (blk_cell BK137.out 3).trans rfl; have hcz22_4 : w21.cell? ⟨gb137, 4, none⟩ = some (.int .i64 a0_4) := (blk_cell BK137.out 4).trans rfl; have hcz22_5 : w21.cell? ⟨gb137, 5, none⟩ = some (.int .i64 a0_5) := (blk_cell BK137.out 5).trans rfl; have hfz22_0 := blk_frozen BK137.out 0; have hfz22_1 := blk_frozen BK137.out 1; have hfz22_2 := blk_frozen BK137.out 2; have hfz22_3 := blk_frozen BK137.out 3; have hfz22_4 := blk_frozen BK137.out 4; have hfz22_5 := blk_frozen BK137.out 5))
                  go_ret
                  exact ⟨by first | rfl | (simp [errW_none, errW_some] <;> rfl) | (simp [*, errW_none, errW_some] <;> rfl), by repeat (first | (with_reducible first | exact HB.out | apply below_alloc | apply pw_below_drewN | apply below_drew1 | refine below_set ?_ GE137.out) | exact HB.out)⟩
              · rw [if_neg c8] at H
                have c8b0 : decide (1 ≤ a0_3) = false := decide_eq_false c8
                clear c8
                obtain rfl := Option.some.inj H
                go_enter Try.func21, Try.ntmps21
                go_wp2_with (first | ((with_reducible refine gate_dst (N := 1) rfl ?_); refine box_event ?hg (N := 1) ?hd (cs := #[.int .i64 a0_0, .int .i64 a0_1, .int .i64 a0_2, .int .i64 a0_3, .int .i64 a0_4, .int .i64 a0_5]) (t := 23) ?hr ?_; (case hd => rfl); (case hg => rfl); (case hr => first | (go_simp; done) | (go_simp; rfl)); intro gb137 hg w23 hbox hb; have n0_ := Aside0.mk (below_step (by repeat (first | (with_reducible first | exact HB.out | apply below_alloc | apply pw_below_drewN | apply below_drew1) | exact HB.out)) hb); have n1_ := Aside0.mk (hbox); have n2_ := Aside0.mk ((by rw [hg]; exact (below_size (by repeat (first | (with_reducible first | exact HB.out | apply below_alloc | apply pw_below_drewN | apply below_drew1) | exact HB.out))) : w.heap.size ≤ gb137)); have n3_ := Aside0.mk ((by rw [hg]; exact (below_size (by repeat (first | (with_reducible first | exact HB.out | apply below_alloc | apply pw_below_drewN | apply below_drew1) | exact HB.out))) : w.heap.size ≤ gb137)); clear HB; have HB := n0_; have BK137 := n1_; have GW137 := n2_; have GE137 := n3_; clear n0_ n1_ n2_ n3_; clear hb hbox hg; have hcz24_0 : w23.cell? ⟨gb137, 0, none⟩ = some (.int .i64 a0_0) := (blk_cell BK137.out 0).trans rfl; have hcz24_1 : w23.cell? ⟨gb137, 1, none⟩ = some (.int .i64 a0_1) := (blk_cell BK137.out 1).trans rfl; have hcz24_2 : w23.cell? ⟨gb137, 2, none⟩ = some (.int .i64 a0_2) := (blk_cell BK137.out 2).trans rfl; have hcz24_3 : w23.cell? ⟨gb137, 3, none⟩ = some (.int .i64 a0_3) := (blk_cell BK137.out 3).trans rfl; have hcz24_4 : w23.cell? ⟨gb137, 4, none⟩ = some (.int .i64 a0_4) := (blk_cell BK137.out 4).trans rfl; have hcz24_5 : w23.cell? ⟨gb137, 5, none⟩ = some (.int .i64 a0_5) := (blk_cell BK137.out 5).trans rfl; have hfz24_0 := blk_frozen BK137.out 0; have hfz24_1 := blk_frozen BK137.out 1; have hfz24_2 := blk_frozen BK137.out 2; have hfz24_3 := blk_frozen BK137.out 3; have hfz24_4 := blk_frozen BK137.out 4; have hfz24_5 := blk_frozen BK137.out 5))
                go_ret
                exact ⟨by first | rfl | (simp [errW_none, errW_some] <;> rfl) | (simp [*, errW_none, errW_some] <;> rfl), by repeat (first | (with_reducible first | exact HB.out | apply below_alloc | apply pw_below_drewN | apply below_drew1 | refine below_set ?_ GE137.out) | exact HB.out)⟩
            · rw [if_neg c7] at H
              have c7b0 : decide (a0_2 ≤ 8) = false := decide_eq_false c7
              clear c7
              obtain rfl := Option.some.inj H
              go_enter Try.func21, Try.ntmps21
              go_wp2_with (first | ((with_reducible refine gate_dst (N := 1) rfl ?_); refine box_event ?hg (N := 1) ?hd (cs := #[.int .i64 a0_0, .int .i64 a0_1, .int .i64 a0_2, .int .i64 a0_3, .int .i64 a0_4, .int .i64 a0_5]) (t := 23) ?hr ?_; (case hd => rfl); (case hg => rfl); (case hr => first | (go_simp; done) | (go_simp; rfl)); intro gb137 hg w25 hbox hb; have n0_ := Aside0.mk (below_step (by repeat (first | (with_reducible first | exact HB.out | apply below_alloc | apply pw_below_drewN | apply below_drew1) | exact HB.out)) hb); have n1_ := Aside0.mk (hbox); have n2_ := Aside0.mk ((by rw [hg]; exact (below_size (by repeat (first | (with_reducible first | exact HB.out | apply below_alloc | apply pw_below_drewN | apply below_drew1) | exact HB.out))) : w.heap.size ≤ gb137)); have n3_ := Aside0.mk ((by rw [hg]; exact (below_size (by repeat (first | (with_reducible first | exact HB.out | apply below_alloc | apply pw_below_drewN | apply below_drew1) | exact HB.out))) : w.heap.size ≤ gb137)); clear HB; have HB := n0_; have BK137 := n1_; have GW137 := n2_; have GE137 := n3_; clear n0_ n1_ n2_ n3_; clear hb hbox hg; have hcz26_0 : w25.cell? ⟨gb137, 0, none⟩ = some (.int .i64 a0_0) := (blk_cell BK137.out 0).trans rfl; have hcz26_1 : w25.cell? ⟨gb137, 1, none⟩ = some (.int .i64 a0_1) := (blk_cell BK137.out 1).trans rfl; have hcz26_2 : w25.cell? ⟨gb137, 2, none⟩ = some (.int .i64 a0_2) := (blk_cell BK137.out 2).trans rfl; have hcz26_3 : w25.cell? ⟨gb137, 3, none⟩ = some (.int .i64 a0_3) := (blk_cell BK137.out 3).trans rfl; have hcz26_4 : w25.cell? ⟨gb137, 4, none⟩ = some (.int .i64 a0_4) := (blk_cell BK137.out 4).trans rfl; have hcz26_5 : w25.cell? ⟨gb137, 5, none⟩ = some (.int .i64 a0_5) := (blk_cell BK137.out 5).trans rfl; have hfz26_0 := blk_frozen BK137.out 0; have hfz26_1 := blk_frozen BK137.out 1; have hfz26_2 := blk_frozen BK137.out 2; have hfz26_3 := blk_frozen BK137.out 3; have hfz26_4 := blk_frozen BK137.out 4; have hfz26_5 := blk_frozen BK137.out 5))
              go_ret
              exact ⟨by first | rfl | (simp [errW_none, errW_some] <;> rfl) | (simp [*, errW_none, errW_some] <;> rfl), by repeat (first | (with_reducible first | exact HB.out | apply below_alloc | apply pw_below_drewN | apply below_drew1 | refine below_set ?_ GE137.out) | exact HB.out)⟩
          · rw [if_neg c6] at H
            have c6b0 : decide (1 ≤ a0_2) = false := decide_eq_false c6
            clear c6
            obtain rfl := Option.some.inj H
            go_enter Try.func21, Try.ntmps21
            go_wp2_with (first | ((with_reducible refine gate_dst (N := 1) rfl ?_); refine box_event ?hg (N := 1) ?hd (cs := #[.int .i64 a0_0, .int .i64 a0_1, .int .i64 a0_2, .int .i64 a0_3, .int .i64 a0_4, .int .i64 a0_5]) (t := 23) ?hr ?_; (case hd => rfl); (case hg => rfl); (case hr => first | (go_simp; done) | (go_simp; rfl)); intro gb137 hg w27 hbox hb; have n0_ := Aside0.mk (below_step (by repeat (first | (with_reducible first | exact HB.out | apply below_alloc | apply pw_below_drewN | apply below_drew1) | exact HB.out)) hb); have n1_ := Aside0.mk (hbox); have n2_ := Aside0.mk ((by rw [hg]; exact (below_size (by repeat (first | (with_reducible first | exact HB.out | apply below_alloc | apply pw_below_drewN | apply below_drew1) | exact HB.out))) : w.heap.size ≤ gb137)); have n3_ := Aside0.mk ((by rw [hg]; exact (below_size (by repeat (first | (with_reducible first | exact HB.out | apply below_alloc | apply pw_below_drewN | apply below_drew1) | exact HB.out))) : w.heap.size ≤ gb137)); clear HB; have HB := n0_; have BK137 := n1_; have GW137 := n2_; have GE137 := n3_; clear n0_ n1_ n2_ n3_; clear hb hbox hg; have hcz28_0 : w27.cell? ⟨gb137, 0, none⟩ = some (.int .i64 a0_0) := (blk_cell BK137.out 0).trans rfl; have hcz28_1 : w27.cell? ⟨gb137, 1, none⟩ = some (.int .i64 a0_1) := (blk_cell BK137.out 1).trans rfl; have hcz28_2 : w27.cell? ⟨gb137, 2, none⟩ = some (.int .i64 a0_2) := (blk_cell BK137.out 2).trans rfl; have hcz28_3 : w27.cell? ⟨gb137, 3, none⟩ = some (.int .i64 a0_3) := (blk_cell BK137.out 3).trans rfl; have hcz28_4 : w27.cell? ⟨gb137, 4, none⟩ = some (.int .i64 a0_4) := (blk_cell BK137.out 4).trans rfl; have hcz28_5 : w27.cell? ⟨gb137, 5, none⟩ = some (.int .i64 a0_5) := (blk_cell BK137.out 5).trans rfl; have hfz28_0 := blk_frozen BK137.out 0; have hfz28_1 := blk_frozen BK137.out 1; have hfz28_2 := blk_frozen BK137.out 2; have hfz28_3 := blk_frozen BK137.out 3; have hfz28_4 := blk_frozen BK137.out 4; have hfz28_5 := blk_frozen BK137.out 5))
            go_ret
            exact ⟨by first | rfl | (simp [errW_none, errW_some] <;> rfl) | (simp [*, errW_none, errW_some] <;> rfl), by repeat (first | (with_reducible first | exact HB.out | apply below_alloc | apply pw_below_drewN | apply below_drew1 | refine below_set ?_ GE137.out) | exact HB.out)⟩
        · rw [if_neg c5] at H
          have c5b0 : decide (a0_1 ≤ 8) = false := decide_eq_false c5
          clear c5
          obtain rfl := Option.some.inj H
          go_enter Try.func21, Try.ntmps21
          go_wp2_with (first | ((with_reducible refine gate_dst (N := 1) rfl ?_); refine box_event ?hg (N := 1) ?hd (cs := #[.int .i64 a0_0, .int .i64 a0_1, .int .i64 a0_2, .int .i64 a0_3, .int .i64 a0_4, .int .i64 a0_5]) (t := 23) ?hr ?_; (case hd => rfl); (case hg => rfl); (case hr => first | (go_simp; done) | (go_simp; rfl)); intro gb137 hg w29 hbox hb; have n0_ := Aside0.mk (below_step (by repeat (first | (with_reducible first | exact HB.out | apply below_alloc | apply pw_below_drewN | apply below_drew1) | exact HB.out)) hb); have n1_ := Aside0.mk (hbox); have n2_ := Aside0.mk ((by rw [hg]; exact (below_size (by repeat (first | (with_reducible first | exact HB.out | apply below_alloc | apply pw_below_drewN | apply below_drew1) | exact HB.out))) : w.heap.size ≤ gb137)); have n3_ := Aside0.mk ((by rw [hg]; exact (below_size (by repeat (first | (with_reducible first | exact HB.out | apply below_alloc | apply pw_below_drewN | apply below_drew1) | exact HB.out))) : w.heap.size ≤ gb137)); clear HB; have HB := n0_; have BK137 := n1_; have GW137 := n2_; have GE137 := n3_; clear n0_ n1_ n2_ n3_; clear hb hbox hg; have hcz30_0 : w29.cell? ⟨gb137, 0, none⟩ = some (.int .i64 a0_0) := (blk_cell BK137.out 0).trans rfl; have hcz30_1 : w29.cell? ⟨gb137, 1, none⟩ = some (.int .i64 a0_1) := (blk_cell BK137.out 1).trans rfl; have hcz30_2 : w29.cell? ⟨gb137, 2, none⟩ = some (.int .i64 a0_2) := (blk_cell BK137.out 2).trans rfl; have hcz30_3 : w29.cell? ⟨gb137, 3, none⟩ = some (.int .i64 a0_3) := (blk_cell BK137.out 3).trans rfl; have hcz30_4 : w29.cell? ⟨gb137, 4, none⟩ = some (.int .i64 a0_4) := (blk_cell BK137.out 4).trans rfl; have hcz30_5 : w29.cell? ⟨gb137, 5, none⟩ = some (.int .i64 a0_5) := (blk_cell BK137.out 5).trans rfl; have hfz30_0 := blk_frozen BK137.out 0; have hfz30_1 := blk_frozen BK137.out 1; have hfz30_2 := blk_frozen BK137.out 2; have hfz30_3 := blk_frozen BK137.out 3; have hfz30_4 := blk_frozen BK137.out 4; have hfz30_5 := blk_frozen BK137.out 5))
          go_ret
          exact ⟨by first | rfl | (simp [errW_none, errW_some] <;> rfl) | (simp [*, errW_none, errW_some] <;> rfl), by repeat (first | (with_reducible first | exact HB.out | apply below_alloc | apply pw_below_drewN | apply below_drew1 | refine below_set ?_ GE137.out) | exact HB.out)⟩
      · rw [if_neg c4] at H
        have c4b0 : decide (0 ≤ a0_1) = false := decide_eq_false c4
        clear c4
        obtain rfl := Option.some.inj H
        go_enter Try.func21, Try.ntmps21
        go_wp2_with (first | ((with_reducible refine gate_dst (N := 1) rfl ?_); refine box_event ?hg (N := 1) ?hd (cs := #[.int .i64 a0_0, .int .i64 a0_1, .int .i64 a0_2, .int .i64 a0_3, .int .i64 a0_4, .int .i64 a0_5]) (t := 23) ?hr ?_; (case hd => rfl); (case hg => rfl); (case hr => first | (go_simp; done) | (go_simp; rfl)); intro gb137 hg w31 hbox hb; have n0_ := Aside0.mk (below_step (by repeat (first | (with_reducible first | exact HB.out | apply below_alloc | apply pw_below_drewN | apply below_drew1) | exact HB.out)) hb); have n1_ := Aside0.mk (hbox); have n2_ := Aside0.mk ((by rw [hg]; exact (below_size (by repeat (first | (with_reducible first | exact HB.out | apply below_alloc | apply pw_below_drewN | apply below_drew1) | exact HB.out))) : w.heap.size ≤ gb137)); have n3_ := Aside0.mk ((by rw [hg]; exact (below_size (by repeat (first | (with_reducible first | exact HB.out | apply below_alloc | apply pw_below_drewN | apply below_drew1) | exact HB.out))) : w.heap.size ≤ gb137)); clear HB; have HB := n0_; have BK137 := n1_; have GW137 := n2_; have GE137 := n3_; clear n0_ n1_ n2_ n3_; clear hb hbox hg; have hcz32_0 : w31.cell? ⟨gb137, 0, none⟩ = some (.int .i64 a0_0) := (blk_cell BK137.out 0).trans rfl; have hcz32_1 : w31.cell? ⟨gb137, 1, none⟩ = some (.int .i64 a0_1) := (blk_cell BK137.out 1).trans rfl; have hcz32_2 : w31.cell? ⟨gb137, 2, none⟩ = some (.int .i64 a0_2) := (blk_cell BK137.out 2).trans rfl; have hcz32_3 : w31.cell? ⟨gb137, 3, none⟩ = some (.int .i64 a0_3) := (blk_cell BK137.out 3).trans rfl; have hcz32_4 : w31.cell? ⟨gb137, 4, none⟩ = some (.int .i64 a0_4) := (blk_cell BK137.out 4).trans rfl; have hcz32_5 : w31.cell? ⟨gb137, 5, none⟩ = some (.int .i64 a0_5) := (blk_cell BK137.out 5).trans rfl; have hfz32_0 := blk_frozen BK137.out 0; have hfz32_1 := blk_frozen BK137.out 1; have hfz32_2 := blk_frozen BK137.out 2; have hfz32_3 := blk_frozen BK137.out 3; have hfz32_4 := blk_frozen BK137.out 4; have hfz32_5 := blk_frozen BK137.out 5))
        go_ret
        exact ⟨by first | rfl | (simp [errW_none, errW_some] <;> rfl) | (simp [*, errW_none, errW_some] <;> rfl), by repeat (first | (with_reducible first | exact HB.out | apply below_alloc | apply pw_below_drewN | apply below_drew1 | refine below_set ?_ GE137.out) | exact HB.out)⟩
    · rw [if_neg c3] at H
      have c3b0 : decide (a0_0 ≤ 64) = false := decide_eq_false c3
      clear c3
      obtain rfl := Option.some.inj H
      go_enter Try.func21, Try.ntmps21
      go_wp2_with (first | ((with_reducible refine gate_dst (N := 1) rfl ?_); refine box_event ?hg (N := 1) ?hd (cs := #[.int .i64 a0_0, .int .i64 a0_1, .int .i64 a0_2, .int .i64 a0_3, .int .i64 a0_4, .int .i64 a0_5]) (t := 23) ?hr ?_; (case hd => rfl); (case hg => rfl); (case hr => first | (go_simp; done) | (go_simp; rfl)); intro gb137 hg w33 hbox hb; have n0_ := Aside0.mk (below_step (by repeat (first | (with_reducible first | exact HB.out | apply below_alloc | apply pw_below_drewN | apply below_drew1) | exact HB.out)) hb); have n1_ := Aside0.mk (hbox); have n2_ := Aside0.mk ((by rw [hg]; exact (below_size (by repeat (first | (with_reducible first | exact HB.out | apply below_alloc | apply pw_below_drewN | apply below_drew1) | exact HB.out))) : w.heap.size ≤ gb137)); have n3_ := Aside0.mk ((by rw [hg]; exact (below_size (by repeat (first | (with_reducible first | exact HB.out | apply below_alloc | apply pw_below_drewN | apply below_drew1) | exact HB.out))) : w.heap.size ≤ gb137)); clear HB; have HB := n0_; have BK137 := n1_; have GW137 := n2_; have GE137 := n3_; clear n0_ n1_ n2_ n3_; clear hb hbox hg; have hcz34_0 : w33.cell? ⟨gb137, 0, none⟩ = some (.int .i64 a0_0) := (blk_cell BK137.out 0).trans rfl; have hcz34_1 : w33.cell? ⟨gb137, 1, none⟩ = some (.int .i64 a0_1) := (blk_cell BK137.out 1).trans rfl; have hcz34_2 : w33.cell? ⟨gb137, 2, none⟩ = some (.int .i64 a0_2) := (blk_cell BK137.out 2).trans rfl; have hcz34_3 : w33.cell? ⟨gb137, 3, none⟩ = some (.int .i64 a0_3) := (blk_cell BK137.out 3).trans rfl; have hcz34_4 : w33.cell? ⟨gb137, 4, none⟩ = some (.int .i64 a0_4) := (blk_cell BK137.out 4).trans rfl; have hcz34_5 : w33.cell? ⟨gb137, 5, none⟩ = some (.int .i64 a0_5) := (blk_cell BK137.out 5).trans rfl; have hfz34_0 := blk_frozen BK137.out 0; have hfz34_1 := blk_frozen BK137.out 1; have hfz34_2 := blk_frozen BK137.out 2; have hfz34_3 := blk_frozen BK137.out 3; have hfz34_4 := blk_frozen BK137.out 4; have hfz34_5 := blk_frozen BK137.out 5))
      go_ret
      exact ⟨by first | rfl | (simp [errW_none, errW_some] <;> rfl) | (simp [*, errW_none, errW_some] <;> rfl), by repeat (first | (with_reducible first | exact HB.out | apply below_alloc | apply pw_below_drewN | apply below_drew1 | refine below_set ?_ GE137.out) | exact HB.out)⟩
  · rw [if_neg c2] at H
    have c2b0 : decide (1 ≤ a0_0) = false := decide_eq_false c2
    clear c2
    obtain rfl := Option.some.inj H
    go_enter Try.func21, Try.ntmps21
    go_wp2_with (first | ((with_reducible refine gate_dst (N := 1) rfl ?_); refine box_event ?hg (N := 1) ?hd (cs := #[.int .i64 a0_0, .int .i64 a0_1, .int .i64 a0_2, .int .i64 a0_3, .int .i64 a0_4, .int .i64 a0_5]) (t := 23) ?hr ?_; (case hd => rfl); (case hg => rfl); (case hr => first | (go_simp; done) | (go_simp; rfl)); intro gb137 hg w35 hbox hb; have n0_ := Aside0.mk (below_step (by repeat (first | (with_reducible first | exact HB.out | apply below_alloc | apply pw_below_drewN | apply below_drew1) | exact HB.out)) hb); have n1_ := Aside0.mk (hbox); have n2_ := Aside0.mk ((by rw [hg]; exact (below_size (by repeat (first | (with_reducible first | exact HB.out | apply below_alloc | apply pw_below_drewN | apply below_drew1) | exact HB.out))) : w.heap.size ≤ gb137)); have n3_ := Aside0.mk ((by rw [hg]; exact (below_size (by repeat (first | (with_reducible first | exact HB.out | apply below_alloc | apply pw_below_drewN | apply below_drew1) | exact HB.out))) : w.heap.size ≤ gb137)); clear HB; have HB := n0_; have BK137 := n1_; have GW137 := n2_; have GE137 := n3_; clear n0_ n1_ n2_ n3_; clear hb hbox hg; have hcz36_0 : w35.cell? ⟨gb137, 0, none⟩ = some (.int .i64 a0_0) := (blk_cell BK137.out 0).trans rfl; have hcz36_1 : w35.cell? ⟨gb137, 1, none⟩ = some (.int .i64 a0_1) := (blk_cell BK137.out 1).trans rfl; have hcz36_2 : w35.cell? ⟨gb137, 2, none⟩ = some (.int .i64 a0_2) := (blk_cell BK137.out 2).trans rfl; have hcz36_3 : w35.cell? ⟨gb137, 3, none⟩ = some (.int .i64 a0_3) := (blk_cell BK137.out 3).trans rfl; have hcz36_4 : w35.cell? ⟨gb137, 4, none⟩ = some (.int .i64 a0_4) := (blk_cell BK137.out 4).trans rfl; have hcz36_5 : w35.cell? ⟨gb137, 5, none⟩ = some (.int .i64 a0_5) := (blk_cell BK137.out 5).trans rfl; have hfz36_0 := blk_frozen BK137.out 0; have hfz36_1 := blk_frozen BK137.out 1; have hfz36_2 := blk_frozen BK137.out 2; have hfz36_3 := blk_frozen BK137.out 3; have hfz36_4 := blk_frozen BK137.out 4; have hfz36_5 := blk_frozen BK137.out 5))
    go_ret
    exact ⟨by first | rfl | (simp [errW_none, errW_some] <;> rfl) | (simp [*, errW_none, errW_some] <;> rfl), by repeat (first | (with_reducible first | exact HB.out | apply below_alloc | apply pw_below_drewN | apply below_drew1 | refine below_set ?_ GE137.out) | exact HB.out)⟩
def withyref06_Room.f (a0_0 : Int) (a0_1 : Int) (a0_2 : Int) (a0_3 : Int) (a0_4 : Int) (a0_5 : Int) : Option (Int) := if a0_1 < 3 then (some 3) else (some a0_1)
set_option maxHeartbeats 8000000 in
set_option maxRecDepth 100000 in
theorem withyref06_Room.calls (a0_0 : Int) (a0_1 : Int) (a0_2 : Int) (a0_3 : Int) (a0_4 : Int) (a0_5 : Int) (r : Int) (w : World) (h : withyref06_Room.f a0_0 a0_1 a0_2 a0_3 a0_4 a0_5 = some r) :
    Calls Try.prog 50 #[.agg #[.int .i64 a0_0, .int .i64 a0_1, .int .i64 a0_2, .int .i64 a0_3, .int .i64 a0_4, .int .i64 a0_5]] w fun e w' => e = .returned (.int .i64 r) ∧ Below w.heap.size w w' := by
  have hu23 := Try.underlying23
  have HB := Aside0.mk (Below.refl w.heap.size w)
  have H : (if a0_1 < 3 then (some 3) else (some a0_1)) = some r := h
  clear h
  by_cases c2 : a0_1 < 3
  · rw [if_pos c2] at H
    have c2b0 : decide (a0_1 < 3) = true := decide_eq_true c2
    clear c2
    obtain rfl := Option.some.inj H
    go_enter Try.func50, Try.ntmps50
    go_wp2_with (first | ((with_reducible refine gate_dst (N := 1) rfl ?_); refine box_event ?hg (N := 1) ?hd (cs := #[.int .i64 a0_0, .int .i64 a0_1, .int .i64 a0_2, .int .i64 a0_3, .int .i64 a0_4, .int .i64 a0_5]) (t := 23) ?hr ?_; (case hd => rfl); (case hg => rfl); (case hr => first | (go_simp; done) | (go_simp; rfl)); intro gb138 hg w3 hbox hb; have n0_ := Aside0.mk (below_step (by repeat (first | (with_reducible first | exact HB.out | apply below_alloc | apply pw_below_drewN | apply below_drew1) | exact HB.out)) hb); have n1_ := Aside0.mk (hbox); have n2_ := Aside0.mk ((by rw [hg]; exact (below_size (by repeat (first | (with_reducible first | exact HB.out | apply below_alloc | apply pw_below_drewN | apply below_drew1) | exact HB.out))) : w.heap.size ≤ gb138)); have n3_ := Aside0.mk ((by rw [hg]; exact (below_size (by repeat (first | (with_reducible first | exact HB.out | apply below_alloc | apply pw_below_drewN | apply below_drew1) | exact HB.out))) : w.heap.size ≤ gb138)); clear HB; have HB := n0_; have BK138 := n1_; have GW138 := n2_; have GE138 := n3_; clear n0_ n1_ n2_ n3_; clear hb hbox hg; have hcz4_0 : w3.cell? ⟨gb138, 0, none⟩ = some (.int .i64 a0_0) := (blk_cell BK138.out 0).trans rfl; have hcz4_1 : w3.cell? ⟨gb138, 1, none⟩ = some (.int .i64 a0_1) := (blk_cell BK138.out 1).trans rfl; have hcz4_2 : w3.cell? ⟨gb138, 2, none⟩ = some (.int .i64 a0_2) := (blk_cell BK138.out 2).trans rfl; have hcz4_3 : w3.cell? ⟨gb138, 3, none⟩ = some (.int .i64 a0_3) := (blk_cell BK138.out 3).trans rfl; have hcz4_4 : w3.cell? ⟨gb138, 4, none⟩ = some (.int .i64 a0_4) := (blk_cell BK138.out 4).trans rfl; have hcz4_5 : w3.cell? ⟨gb138, 5, none⟩ = some (.int .i64 a0_5) := (blk_cell BK138.out 5).trans rfl; have hfz4_0 := blk_frozen BK138.out 0; have hfz4_1 := blk_frozen BK138.out 1; have hfz4_2 := blk_frozen BK138.out 2; have hfz4_3 := blk_frozen BK138.out 3; have hfz4_4 := blk_frozen BK138.out 4; have hfz4_5 := blk_frozen BK138.out 5))
    go_ret
    exact ⟨by first | rfl | (simp [errW_none, errW_some] <;> rfl) | (simp [*, errW_none, errW_some] <;> rfl), by repeat (first | (with_reducible first | exact HB.out | apply below_alloc | apply pw_below_drewN | apply below_drew1 | refine below_set ?_ GE138.out) | exact HB.out)⟩
  · rw [if_neg c2] at H
    have c2b0 : decide (a0_1 < 3) = false := decide_eq_false c2
    clear c2
    obtain rfl := Option.some.inj H
    go_enter Try.func50, Try.ntmps50
    go_wp2_with (first | ((with_reducible refine gate_dst (N := 1) rfl ?_); refine box_event ?hg (N := 1) ?hd (cs := #[.int .i64 a0_0, .int .i64 a0_1, .int .i64 a0_2, .int .i64 a0_3, .int .i64 a0_4, .int .i64 a0_5]) (t := 23) ?hr ?_; (case hd => rfl); (case hg => rfl); (case hr => first | (go_simp; done) | (go_simp; rfl)); intro gb138 hg w5 hbox hb; have n0_ := Aside0.mk (below_step (by repeat (first | (with_reducible first | exact HB.out | apply below_alloc | apply pw_below_drewN | apply below_drew1) | exact HB.out)) hb); have n1_ := Aside0.mk (hbox); have n2_ := Aside0.mk ((by rw [hg]; exact (below_size (by repeat (first | (with_reducible first | exact HB.out | apply below_alloc | apply pw_below_drewN | apply below_drew1) | exact HB.out))) : w.heap.size ≤ gb138)); have n3_ := Aside0.mk ((by rw [hg]; exact (below_size (by repeat (first | (with_reducible first | exact HB.out | apply below_alloc | apply pw_below_drewN | apply below_drew1) | exact HB.out))) : w.heap.size ≤ gb138)); clear HB; have HB := n0_; have BK138 := n1_; have GW138 := n2_; have GE138 := n3_; clear n0_ n1_ n2_ n3_; clear hb hbox hg; have hcz6_0 : w5.cell? ⟨gb138, 0, none⟩ = some (.int .i64 a0_0) := (blk_cell BK138.out 0).trans rfl; have hcz6_1 : w5.cell? ⟨gb138, 1, none⟩ = some (.int .i64 a0_1) := (blk_cell BK138.out 1).trans rfl; have hcz6_2 : w5.cell? ⟨gb138, 2, none⟩ = some (.int .i64 a0_2) := (blk_cell BK138.out 2).trans rfl; have hcz6_3 : w5.cell? ⟨gb138, 3, none⟩ = some (.int .i64 a0_3) := (blk_cell BK138.out 3).trans rfl; have hcz6_4 : w5.cell? ⟨gb138, 4, none⟩ = some (.int .i64 a0_4) := (blk_cell BK138.out 4).trans rfl; have hcz6_5 : w5.cell? ⟨gb138, 5, none⟩ = some (.int .i64 a0_5) := (blk_cell BK138.out 5).trans rfl; have hfz6_0 := blk_frozen BK138.out 0; have hfz6_1 := blk_frozen BK138.out 1; have hfz6_2 := blk_frozen BK138.out 2; have hfz6_3 := blk_frozen BK138.out 3; have hfz6_4 := blk_frozen BK138.out 4; have hfz6_5 := blk_frozen BK138.out 5))
    go_ret
    exact ⟨by first | rfl | (simp [errW_none, errW_some] <;> rfl) | (simp [*, errW_none, errW_some] <;> rfl), by repeat (first | (with_reducible first | exact HB.out | apply below_alloc | apply pw_below_drewN | apply below_drew1 | refine below_set ?_ GE138.out) | exact HB.out)⟩
end Go.Proofs.Ytijfkpoofpcacaa.PArenaPlays
end
section
namespace Go.Proofs.Ytijfkpoofpcacaa.PArenaPlays
open Go.RowKit Go.Proofs.YtijfkpoofpcacaaW.PrintWords Go.Proofs.YtijfkpoofpcacaaW.PrintLast Go.Proofs.YtijfkpoofpcacaaW.PrintMore
attribute [local go_sem] max2_int min2_int max_two min_two max_three min_three max_four min_four
set_option linter.unusedVariables false
set_option linter.unusedSimpArgs false
mutual
def withyref06_Words.l0 : Nat → List (S91) → Int → Int → Int → Int → Int → Int → Int → Option ((List (S91)))
  | 0, _, _, _, _, _, _, _, _ => none
  | k + 1, x3, x4, x140000, x140001, x140002, x140003, x140004, x140005 => if x4 < x140002 then (if x3.length < 4398046511104 then (withyref06_Words.l0 k (x3 ++ [(⟨(⟨#[112, 105, 110]⟩ : ByteArray), x4, 0⟩ : S91)]) (wrap64 (x4 + 1)) x140000 x140001 x140002 x140003 x140004 x140005) else (none)) else (withyref06_Words.l1 k x3 0 x140000 x140001 x140002 x140003 x140004 x140005)
def withyref06_Words.l1 : Nat → List (S91) → Int → Int → Int → Int → Int → Int → Int → Option ((List (S91)))
  | 0, _, _, _, _, _, _, _, _ => none
  | k + 1, x3, x5, x140000, x140001, x140002, x140003, x140004, x140005 => if x5 < x140002 then (withyref06_Words.l2 k x3 x5 0 x140000 x140001 x140002 x140003 x140004 x140005) else (withyref06_Words.l3 k x3 0 x140000 x140001 x140002 x140003 x140004 x140005)
def withyref06_Words.l2 : Nat → List (S91) → Int → Int → Int → Int → Int → Int → Int → Int → Option ((List (S91)))
  | 0, _, _, _, _, _, _, _, _, _ => none
  | k + 1, x3, x5, x6, x140000, x140001, x140002, x140003, x140004, x140005 => if x6 < x140003 then (if x3.length < 4398046511104 then (withyref06_Words.l2 k (x3 ++ [(⟨(⟨#[101, 110, 116, 114, 121]⟩ : ByteArray), x5, x6⟩ : S91)]) x5 (wrap64 (x6 + 1)) x140000 x140001 x140002 x140003 x140004 x140005) else (none)) else (withyref06_Words.l1 k x3 (wrap64 (x5 + 1)) x140000 x140001 x140002 x140003 x140004 x140005)
def withyref06_Words.l3 : Nat → List (S91) → Int → Int → Int → Int → Int → Int → Int → Option ((List (S91)))
  | 0, _, _, _, _, _, _, _, _ => none
  | k + 1, x3, x7, x140000, x140001, x140002, x140003, x140004, x140005 => if x7 < x140002 then ((some (([(⟨(⟨#[118, 105, 101, 119]⟩ : ByteArray), x7, 0⟩ : S91), (⟨(⟨#[115, 116, 97, 114, 116]⟩ : ByteArray), x7, 0⟩ : S91)] : List (S91)) : List (S91))).bind fun y149 => (if x3.length + y149.length < 4398046511104 then (withyref06_Words.l3 k (x3 ++ y149) (wrap64 (x7 + 1)) x140000 x140001 x140002 x140003 x140004 x140005) else (none))) else (withyref06_Words.l4 k x3 0 x140000 x140001 x140002 x140003 x140004 x140005)
def withyref06_Words.l4 : Nat → List (S91) → Int → Int → Int → Int → Int → Int → Int → Option ((List (S91)))
  | 0, _, _, _, _, _, _, _, _ => none
  | k + 1, x3, x8, x140000, x140001, x140002, x140003, x140004, x140005 => if x8 < x140000 then ((some (([(⟨(⟨#[104, 101, 97, 100, 101, 114]⟩ : ByteArray), x8, 0⟩ : S91), (⟨(⟨#[108, 105, 110, 107]⟩ : ByteArray), x8, 0⟩ : S91)] : List (S91)) : List (S91))).bind fun y155 => (if x3.length + y155.length < 4398046511104 then (withyref06_Words.l5 k (x3 ++ y155) x8 0 x140000 x140001 x140002 x140003 x140004 x140005) else (none))) else (some x3)
def withyref06_Words.l5 : Nat → List (S91) → Int → Int → Int → Int → Int → Int → Int → Int → Option ((List (S91)))
  | 0, _, _, _, _, _, _, _, _, _ => none
  | k + 1, x3, x8, x9, x140000, x140001, x140002, x140003, x140004, x140005 => (withyref06_Room.f x140000 x140001 x140002 x140003 x140004 x140005).bind fun t161 => (if x9 < t161 then (if x3.length < 4398046511104 then (withyref06_Words.l5 k (x3 ++ [(⟨(⟨#[98, 111, 100, 121]⟩ : ByteArray), x8, x9⟩ : S91)]) x8 (wrap64 (x9 + 1)) x140000 x140001 x140002 x140003 x140004 x140005) else (none)) else (withyref06_Words.l4 k x3 (wrap64 (x8 + 1)) x140000 x140001 x140002 x140003 x140004 x140005))
end
def withyref06_Words.f (k : Nat) (a0_0 : Int) (a0_1 : Int) (a0_2 : Int) (a0_3 : Int) (a0_4 : Int) (a0_5 : Int) : Option ((List (S91))) := withyref06_Words.l0 k (([(⟨(⟨#[99, 108, 111, 99, 107]⟩ : ByteArray), 0, 0⟩ : S91), (⟨(⟨#[101, 112, 111, 99, 104]⟩ : ByteArray), 0, 0⟩ : S91), (⟨(⟨#[103, 114, 97, 121, 115]⟩ : ByteArray), 0, 0⟩ : S91), (⟨(⟨#[116, 111, 112]⟩ : ByteArray), 0, 0⟩ : S91)] : List (S91))) 0 a0_0 a0_1 a0_2 a0_3 a0_4 a0_5
theorem withyref06_Words.mono_l : ∀ k, (∀ y0 y1 y2 y3 y4 y5 y6 y7, LeO (withyref06_Words.l0 k y0 y1 y2 y3 y4 y5 y6 y7) (withyref06_Words.l0 (k + 1) y0 y1 y2 y3 y4 y5 y6 y7)) ∧ (∀ y0 y1 y2 y3 y4 y5 y6 y7, LeO (withyref06_Words.l1 k y0 y1 y2 y3 y4 y5 y6 y7) (withyref06_Words.l1 (k + 1) y0 y1 y2 y3 y4 y5 y6 y7)) ∧ (∀ y0 y1 y2 y3 y4 y5 y6 y7 y8, LeO (withyref06_Words.l2 k y0 y1 y2 y3 y4 y5 y6 y7 y8) (withyref06_Words.l2 (k + 1) y0 y1 y2 y3 y4 y5 y6 y7 y8)) ∧ (∀ y0 y1 y2 y3 y4 y5 y6 y7, LeO (withyref06_Words.l3 k y0 y1 y2 y3 y4 y5 y6 y7) (withyref06_Words.l3 (k + 1) y0 y1 y2 y3 y4 y5 y6 y7)) ∧ (∀ y0 y1 y2 y3 y4 y5 y6 y7, LeO (withyref06_Words.l4 k y0 y1 y2 y3 y4 y5 y6 y7) (withyref06_Words.l4 (k + 1) y0 y1 y2 y3 y4 y5 y6 y7)) ∧ (∀ y0 y1 y2 y3 y4 y5 y6 y7 y8, LeO (withyref06_Words.l5 k y0 y1 y2 y3 y4 y5 y6 y7 y8) (withyref06_Words.l5 (k + 1) y0 y1 y2 y3 y4 y5 y6 y7 y8))
  | 0 => ⟨fun _ _ _ _ _ _ _ _ r h => by simp [withyref06_Words.l0] at h, fun _ _ _ _ _ _ _ _ r h => by simp [withyref06_Words.l1] at h, fun _ _ _ _ _ _ _ _ _ r h => by simp [withyref06_Words.l2] at h, fun _ _ _ _ _ _ _ _ r h => by simp [withyref06_Words.l3] at h, fun _ _ _ _ _ _ _ _ r h => by simp [withyref06_Words.l4] at h, fun _ _ _ _ _ _ _ _ _ r h => by simp [withyref06_Words.l5] at h⟩
  | k + 1 => by
    obtain ⟨ih0, ih1, ih2, ih3, ih4, ih5⟩ := withyref06_Words.mono_l k
    refine ⟨?_, ?_, ?_, ?_, ?_, ?_⟩
    · intro y0 y1 y2 y3 y4 y5 y6 y7
      unfold withyref06_Words.l0
      repeat' first
      | (with_reducible exact ih0 _ _ _ _ _ _ _ _)
      | (with_reducible exact ih1 _ _ _ _ _ _ _ _)
      | (with_reducible exact ih2 _ _ _ _ _ _ _ _ _)
      | (with_reducible exact ih3 _ _ _ _ _ _ _ _)
      | (with_reducible exact ih4 _ _ _ _ _ _ _ _)
      | (with_reducible exact ih5 _ _ _ _ _ _ _ _ _)
      | (with_reducible exact LeO.refl _)
      | (with_reducible exact LeO.none _)
      | (with_reducible refine LeO.ite ?_ ?_)
      | (with_reducible refine LeO.bind ?_ (fun _ => ?_))
      | exact ih0 _ _ _ _ _ _ _ _
      | exact ih1 _ _ _ _ _ _ _ _
      | exact ih2 _ _ _ _ _ _ _ _ _
      | exact ih3 _ _ _ _ _ _ _ _
      | exact ih4 _ _ _ _ _ _ _ _
      | exact ih5 _ _ _ _ _ _ _ _ _
      | exact LeO.none _
      | refine LeO.ite ?_ ?_
      | refine LeO.bind ?_ (fun _ => ?_)
    · intro y0 y1 y2 y3 y4 y5 y6 y7
      unfold withyref06_Words.l1
      repeat' first
      | (with_reducible exact ih0 _ _ _ _ _ _ _ _)
      | (with_reducible exact ih1 _ _ _ _ _ _ _ _)
      | (with_reducible exact ih2 _ _ _ _ _ _ _ _ _)
      | (with_reducible exact ih3 _ _ _ _ _ _ _ _)
      | (with_reducible exact ih4 _ _ _ _ _ _ _ _)
      | (with_reducible exact ih5 _ _ _ _ _ _ _ _ _)
      | (with_reducible exact LeO.refl _)
      | (with_reducible exact LeO.none _)
      | (with_reducible refine LeO.ite ?_ ?_)
      | (with_reducible refine LeO.bind ?_ (fun _ => ?_))
      | exact ih0 _ _ _ _ _ _ _ _
      | exact ih1 _ _ _ _ _ _ _ _
      | exact ih2 _ _ _ _ _ _ _ _ _
      | exact ih3 _ _ _ _ _ _ _ _
      | exact ih4 _ _ _ _ _ _ _ _
      | exact ih5 _ _ _ _ _ _ _ _ _
      | exact LeO.none _
      | refine LeO.ite ?_ ?_
      | refine LeO.bind ?_ (fun _ => ?_)
    · intro y0 y1 y2 y3 y4 y5 y6 y7 y8
      unfold withyref06_Words.l2
      repeat' first
      | (with_reducible exact ih0 _ _ _ _ _ _ _ _)
      | (with_reducible exact ih1 _ _ _ _ _ _ _ _)
      | (with_reducible exact ih2 _ _ _ _ _ _ _ _ _)
      | (with_reducible exact ih3 _ _ _ _ _ _ _ _)
      | (with_reducible exact ih4 _ _ _ _ _ _ _ _)
      | (with_reducible exact ih5 _ _ _ _ _ _ _ _ _)
      | (with_reducible exact LeO.refl _)
      | (with_reducible exact LeO.none _)
      | (with_reducible refine LeO.ite ?_ ?_)
      | (with_reducible refine LeO.bind ?_ (fun _ => ?_))
      | exact ih0 _ _ _ _ _ _ _ _
      | exact ih1 _ _ _ _ _ _ _ _
      | exact ih2 _ _ _ _ _ _ _ _ _
      | exact ih3 _ _ _ _ _ _ _ _
      | exact ih4 _ _ _ _ _ _ _ _
      | exact ih5 _ _ _ _ _ _ _ _ _
      | exact LeO.none _
      | refine LeO.ite ?_ ?_
      | refine LeO.bind ?_ (fun _ => ?_)
    · intro y0 y1 y2 y3 y4 y5 y6 y7
      unfold withyref06_Words.l3
      repeat' first
      | (with_reducible exact ih0 _ _ _ _ _ _ _ _)
      | (with_reducible exact ih1 _ _ _ _ _ _ _ _)
      | (with_reducible exact ih2 _ _ _ _ _ _ _ _ _)
      | (with_reducible exact ih3 _ _ _ _ _ _ _ _)
      | (with_reducible exact ih4 _ _ _ _ _ _ _ _)
      | (with_reducible exact ih5 _ _ _ _ _ _ _ _ _)
      | (with_reducible exact LeO.refl _)
      | (with_reducible exact LeO.none _)
      | (with_reducible refine LeO.ite ?_ ?_)
      | (with_reducible refine LeO.bind ?_ (fun _ => ?_))
      | exact ih0 _ _ _ _ _ _ _ _
      | exact ih1 _ _ _ _ _ _ _ _
      | exact ih2 _ _ _ _ _ _ _ _ _
      | exact ih3 _ _ _ _ _ _ _ _
      | exact ih4 _ _ _ _ _ _ _ _
      | exact ih5 _ _ _ _ _ _ _ _ _
      | exact LeO.none _
      | refine LeO.ite ?_ ?_
      | refine LeO.bind ?_ (fun _ => ?_)
    · intro y0 y1 y2 y3 y4 y5 y6 y7
      unfold withyref06_Words.l4
      repeat' first
      | (with_reducible exact ih0 _ _ _ _ _ _ _ _)
      | (with_reducible exact ih1 _ _ _ _ _ _ _ _)
      | (with_reducible exact ih2 _ _ _ _ _ _ _ _ _)
      | (with_reducible exact ih3 _ _ _ _ _ _ _ _)
      | (with_reducible exact ih4 _ _ _ _ _ _ _ _)
      | (with_reducible exact ih5 _ _ _ _ _ _ _ _ _)
      | (with_reducible exact LeO.refl _)
      | (with_reducible exact LeO.none _)
      | (with_reducible refine LeO.ite ?_ ?_)
      | (with_reducible refine LeO.bind ?_ (fun _ => ?_))
      | exact ih0 _ _ _ _ _ _ _ _
      | exact ih1 _ _ _ _ _ _ _ _
      | exact ih2 _ _ _ _ _ _ _ _ _
      | exact ih3 _ _ _ _ _ _ _ _
      | exact ih4 _ _ _ _ _ _ _ _
      | exact ih5 _ _ _ _ _ _ _ _ _
      | exact LeO.none _
      | refine LeO.ite ?_ ?_
      | refine LeO.bind ?_ (fun _ => ?_)
    · intro y0 y1 y2 y3 y4 y5 y6 y7 y8
      unfold withyref06_Words.l5
      repeat' first
      | (with_reducible exact ih0 _ _ _ _ _ _ _ _)
      | (with_reducible exact ih1 _ _ _ _ _ _ _ _)
      | (with_reducible exact ih2 _ _ _ _ _ _ _ _ _)
      | (with_reducible exact ih3 _ _ _ _ _ _ _ _)
      | (with_reducible exact ih4 _ _ _ _ _ _ _ _)
      | (with_reducible exact ih5 _ _ _ _ _ _ _ _ _)
      | (with_reducible exact LeO.refl _)
      | (with_reducible exact LeO.none _)
      | (with_reducible refine LeO.ite ?_ ?_)
      | (with_reducible refine LeO.bind ?_ (fun _ => ?_))
      | exact ih0 _ _ _ _ _ _ _ _
      | exact ih1 _ _ _ _ _ _ _ _
      | exact ih2 _ _ _ _ _ _ _ _ _
      | exact ih3 _ _ _ _ _ _ _ _
      | exact ih4 _ _ _ _ _ _ _ _
      | exact ih5 _ _ _ _ _ _ _ _ _
      | exact LeO.none _
      | refine LeO.ite ?_ ?_
      | refine LeO.bind ?_ (fun _ => ?_)
theorem withyref06_Words.mono : ∀ a0 a1 a2 a3 a4 a5 k, LeO (withyref06_Words.f k a0 a1 a2 a3 a4 a5) (withyref06_Words.f (k + 1) a0 a1 a2 a3 a4 a5) := by
  intro a0 a1 a2 a3 a4 a5 k
  obtain ⟨ih0, ih1, ih2, ih3, ih4, ih5⟩ := withyref06_Words.mono_l k
  unfold withyref06_Words.f
  repeat' first
      | (with_reducible exact ih0 _ _ _ _ _ _ _ _)
      | (with_reducible exact ih1 _ _ _ _ _ _ _ _)
      | (with_reducible exact ih2 _ _ _ _ _ _ _ _ _)
      | (with_reducible exact ih3 _ _ _ _ _ _ _ _)
      | (with_reducible exact ih4 _ _ _ _ _ _ _ _)
      | (with_reducible exact ih5 _ _ _ _ _ _ _ _ _)
      | (with_reducible exact LeO.refl _)
      | (with_reducible exact LeO.none _)
      | (with_reducible refine LeO.ite ?_ ?_)
      | (with_reducible refine LeO.bind ?_ (fun _ => ?_))
      | exact ih0 _ _ _ _ _ _ _ _
      | exact ih1 _ _ _ _ _ _ _ _
      | exact ih2 _ _ _ _ _ _ _ _ _
      | exact ih3 _ _ _ _ _ _ _ _
      | exact ih4 _ _ _ _ _ _ _ _
      | exact ih5 _ _ _ _ _ _ _ _ _
      | exact LeO.none _
      | refine LeO.ite ?_ ?_
      | refine LeO.bind ?_ (fun _ => ?_)
set_option maxHeartbeats 8000000 in
set_option maxRecDepth 100000 in
theorem withyref06_Words.calls (k : Nat) (a0_0 : Int) (a0_1 : Int) (a0_2 : Int) (a0_3 : Int) (a0_4 : Int) (a0_5 : Int) (r : List (S91)) (w : World) (h : withyref06_Words.f k a0_0 a0_1 a0_2 a0_3 a0_4 a0_5 = some r) :
    Calls Try.prog 65 #[.agg #[.int .i64 a0_0, .int .i64 a0_1, .int .i64 a0_2, .int .i64 a0_3, .int .i64 a0_4, .int .i64 a0_5]] w fun e w' => ∃ v0_ : Value, e = .returned (v0_) ∧ Kd.R k91 91 w' w.heap.size (fun _ => True) v0_ r ∧ Below w.heap.size w w' := by
  have hu23 := Try.underlying23
  have hu91 := Try.underlying91
  have HB := Aside0.mk (Below.refl w.heap.size w)
  have H : (withyref06_Words.l0 k (([(⟨(⟨#[99, 108, 111, 99, 107]⟩ : ByteArray), 0, 0⟩ : S91), (⟨(⟨#[101, 112, 111, 99, 104]⟩ : ByteArray), 0, 0⟩ : S91), (⟨(⟨#[103, 114, 97, 121, 115]⟩ : ByteArray), 0, 0⟩ : S91), (⟨(⟨#[116, 111, 112]⟩ : ByteArray), 0, 0⟩ : S91)] : List (S91))) 0 a0_0 a0_1 a0_2 a0_3 a0_4 a0_5) = some r := h
  clear h
  obtain ⟨y140, hy140⟩ : ∃ y_ : List (S91), y_ = (([(⟨(⟨#[99, 108, 111, 99, 107]⟩ : ByteArray), 0, 0⟩ : S91), (⟨(⟨#[101, 112, 111, 99, 104]⟩ : ByteArray), 0, 0⟩ : S91), (⟨(⟨#[103, 114, 97, 121, 115]⟩ : ByteArray), 0, 0⟩ : S91), (⟨(⟨#[116, 111, 112]⟩ : ByteArray), 0, 0⟩ : S91)] : List (S91))) := ⟨_, rfl⟩
  replace H : (withyref06_Words.l0 k y140 0 a0_0 a0_1 a0_2 a0_3 a0_4 a0_5) = some r := by first | (rw [hy140]; with_reducible exact H) | (have H2_ := (Option.bind_some _ _).symm.trans H; rw [hy140]; with_reducible exact H2_) | (have H2_ := (Option.bind_some _ _).symm.trans H; with_reducible exact H2_) | with_reducible exact H | (rw [hy140]; exact H) | exact H
  have Ny140 := Aside0.mk hy140
  clear hy140
  have H' := Aside0.mk H
  clear H
  go_enter Try.func65, Try.ntmps65
  go_wp2_with (first | ((with_reducible refine gate_dst (N := 1) rfl ?_); refine box_event ?hg (N := 1) ?hd (cs := #[.int .i64 a0_0, .int .i64 a0_1, .int .i64 a0_2, .int .i64 a0_3, .int .i64 a0_4, .int .i64 a0_5]) (t := 23) ?hr ?_; (case hd => rfl); (case hg => rfl); (case hr => first | (go_simp; done) | (go_simp; rfl)); intro gb139 hg w2 hbox hb; have n0_ := Aside0.mk (below_step (by repeat (first | (with_reducible first | exact HB.out | apply below_alloc | apply pw_below_drewN | apply below_drew1) | exact HB.out)) hb); have n1_ := Aside0.mk (hbox); have n2_ := Aside0.mk ((by rw [hg]; exact (below_size (by repeat (first | (with_reducible first | exact HB.out | apply below_alloc | apply pw_below_drewN | apply below_drew1) | exact HB.out))) : w.heap.size ≤ gb139)); have n3_ := Aside0.mk ((by rw [hg]; exact (below_size (by repeat (first | (with_reducible first | exact HB.out | apply below_alloc | apply pw_below_drewN | apply below_drew1) | exact HB.out))) : w.heap.size ≤ gb139)); clear HB; have HB := n0_; have BK139 := n1_; have GW139 := n2_; have GE139 := n3_; clear n0_ n1_ n2_ n3_; clear hb hbox hg) | ((with_reducible refine gate_dst (N := 14) rfl ?_); refine Kd.R_lit k91 _ 91 ?hg (N := 14) ?hd (xs := ([(⟨(⟨#[99, 108, 111, 99, 107]⟩ : ByteArray), 0, 0⟩ : S91), (⟨(⟨#[101, 112, 111, 99, 104]⟩ : ByteArray), 0, 0⟩ : S91), (⟨(⟨#[103, 114, 97, 121, 115]⟩ : ByteArray), 0, 0⟩ : S91), (⟨(⟨#[116, 111, 112]⟩ : ByteArray), 0, 0⟩ : S91)] : List (S91))) (inner := [.string (⟨#[99, 108, 111, 99, 107]⟩ : ByteArray), .int .i64 0, .int .i64 0, .string (⟨#[101, 112, 111, 99, 104]⟩ : ByteArray), .int .i64 0, .int .i64 0, .string (⟨#[103, 114, 97, 121, 115]⟩ : ByteArray), .int .i64 0, .int .i64 0, .string (⟨#[116, 111, 112]⟩ : ByteArray), .int .i64 0, .int .i64 0]) (ok := fun _ => True) (okp := fun _ => True) ?hr ?hp (fun _ hk => hk) trivial (Below.refl _ _) (Nat.le_refl _) (by simp) ?_; (case hd => rfl); (case hg => rfl); (case hr => first | (go_simp; done) | (go_simp; rfl)); (case hp => exact (Reps.c3 (show Kd.M k91 _ _ _ (⟨(⟨#[99, 108, 111, 99, 107]⟩ : ByteArray), 0, 0⟩ : S91) [.string (⟨#[99, 108, 111, 99, 107]⟩ : ByteArray), .int .i64 0, .int .i64 0] from (k91_mkM _ _ _ (⟨(⟨#[99, 108, 111, 99, 107]⟩ : ByteArray), 0, 0⟩ : S91) )) (Reps.c3 (show Kd.M k91 _ _ _ (⟨(⟨#[101, 112, 111, 99, 104]⟩ : ByteArray), 0, 0⟩ : S91) [.string (⟨#[101, 112, 111, 99, 104]⟩ : ByteArray), .int .i64 0, .int .i64 0] from (k91_mkM _ _ _ (⟨(⟨#[101, 112, 111, 99, 104]⟩ : ByteArray), 0, 0⟩ : S91) )) (Reps.c3 (show Kd.M k91 _ _ _ (⟨(⟨#[103, 114, 97, 121, 115]⟩ : ByteArray), 0, 0⟩ : S91) [.string (⟨#[103, 114, 97, 121, 115]⟩ : ByteArray), .int .i64 0, .int .i64 0] from (k91_mkM _ _ _ (⟨(⟨#[103, 114, 97, 121, 115]⟩ : ByteArray), 0, 0⟩ : S91) )) (Reps.c3 (show Kd.M k91 _ _ _ (⟨(⟨#[116, 111, 112]⟩ : ByteArray), 0, 0⟩ : S91) [.string (⟨#[116, 111, 112]⟩ : ByteArray), .int .i64 0, .int .i64 0] from (k91_mkM _ _ _ (⟨(⟨#[116, 111, 112]⟩ : ByteArray), 0, 0⟩ : S91) )) (Reps.none _ _)))))); intro v141 w3 ho4 hb hg_ hnew_; clear hg_ hnew_; (first | rw [← Ny140.out] at ho4 | (simp only [Int.reduceToNat] at ho4; rw [← Ny140.out] at ho4)); have n0_ := Aside0.mk (Kd.R_lower ho4 (below_size (by repeat (first | (with_reducible first | exact HB.out | apply below_alloc | apply pw_below_drewN | apply below_drew1 | refine below_set ?_ GE139.out) | exact HB.out)))); have n1_ := Aside0.mk (blk_below (g := gb139) (o := .cells #[.int .i64 a0_0, .int .i64 a0_1, .int .i64 a0_2, .int .i64 a0_3, .int .i64 a0_4, .int .i64 a0_5] 23 (0, 0)) (by (with_reducible repeat (first | refine blk_drewN ?_ _ | refine blk_drew ?_ | refine blk_alloc ?_ _)); exact BK139.out) hb); have n2_ := Aside0.mk (below_step (by repeat (first | (with_reducible first | exact HB.out | apply below_alloc | apply pw_below_drewN | apply below_drew1 | refine below_set ?_ GE139.out) | exact HB.out)) hb); clear BK139; clear HB; have HO142 := n0_; have BK139 := n1_; have HB := n2_; clear n0_ n1_ n2_; clear hb ho4))
  go_loopg [3, 4] k (fun kq v3 v4 w' => ∃ (x3_1 : List (S91)) (x4_1 : Int), v4 = .int .i64 x4_1 ∧ Aside0 (withyref06_Words.l0 kq x3_1 x4_1 a0_0 a0_1 a0_2 a0_3 a0_4 a0_5 = some r) ∧ Aside0 (kq ≤ k) ∧ Aside0 (Kd.R k91 91 w' w.heap.size (fun _ => True) v3 x3_1) ∧ Aside0 (w'.heap[gb139]? = some (.cells #[.int .i64 a0_0, .int .i64 a0_1, .int .i64 a0_2, .int .i64 a0_3, .int .i64 a0_4, .int .i64 a0_5] 23 (0, 0))) ∧ Aside0 (Below w.heap.size w w'))
  case atStart => exact ⟨(y140), (0), (by first | rfl | (simp; done) | (simp [*]; done)), H', ⟨Nat.le_refl _⟩, ⟨by (with_reducible repeat (first | apply Kd.R_alloc | apply Kd.R_drewN | apply Kd.R_drew)); exact HO142.out⟩, ⟨by (with_reducible repeat (first | refine blk_drewN ?_ _ | refine blk_drew ?_ | refine blk_alloc ?_ _)); exact BK139.out⟩, ⟨by repeat (first | (with_reducible first | exact HB.out | apply below_alloc | apply pw_below_drewN | apply below_drew1 | refine below_set ?_ GE139.out) | exact HB.out)⟩⟩
  case round =>
    clear H'
    try clear p2
    try clear c3
    obtain ⟨x3_1, x4_1, rfl, HA, HK1, HO_3, BK139, HB⟩ := hrel
    cases gk with
    | zero => exact absurd HA.out (by simp [withyref06_Words.l0])
    | succ k1 =>
      have H := HA.out
      clear HA
      simp only [withyref06_Words.l0] at H
      by_cases c5 : x4_1 < a0_2
      · rw [if_pos c5] at H
        have c5b0 : decide (x4_1 < a0_2) = true := decide_eq_true c5
        clear c5
        by_cases c6 : x3_1.length < 4398046511104
        · rw [if_pos c6] at H
          have LMc6 := Aside0.mk c6
          clear c6
          obtain ⟨y143, hy143⟩ : ∃ y_ : List (S91), y_ = (x3_1 ++ [(⟨(⟨#[112, 105, 110]⟩ : ByteArray), x4_1, 0⟩ : S91)]) := ⟨_, rfl⟩
          replace H : (withyref06_Words.l0 k1 y143 (wrap64 (x4_1 + 1)) a0_0 a0_1 a0_2 a0_3 a0_4 a0_5) = some r := by first | (rw [hy143]; with_reducible exact H) | (have H2_ := (Option.bind_some _ _).symm.trans H; rw [hy143]; with_reducible exact H2_) | (have H2_ := (Option.bind_some _ _).symm.trans H; with_reducible exact H2_) | with_reducible exact H | (rw [hy143]; exact H) | exact H
          have Ny143 := Aside0.mk hy143
          clear hy143
          have H' := Aside0.mk H
          clear H
          have hcz7_0 : wr.cell? ⟨gb139, 0, none⟩ = some (.int .i64 a0_0) := (blk_cell BK139.out 0).trans rfl
          have hcz7_1 : wr.cell? ⟨gb139, 1, none⟩ = some (.int .i64 a0_1) := (blk_cell BK139.out 1).trans rfl
          have hcz7_2 : wr.cell? ⟨gb139, 2, none⟩ = some (.int .i64 a0_2) := (blk_cell BK139.out 2).trans rfl
          have hcz7_3 : wr.cell? ⟨gb139, 3, none⟩ = some (.int .i64 a0_3) := (blk_cell BK139.out 3).trans rfl
          have hcz7_4 : wr.cell? ⟨gb139, 4, none⟩ = some (.int .i64 a0_4) := (blk_cell BK139.out 4).trans rfl
          have hcz7_5 : wr.cell? ⟨gb139, 5, none⟩ = some (.int .i64 a0_5) := (blk_cell BK139.out 5).trans rfl
          have hfz7_0 := blk_frozen BK139.out 0
          have hfz7_1 := blk_frozen BK139.out 1
          have hfz7_2 := blk_frozen BK139.out 2
          have hfz7_3 := blk_frozen BK139.out 3
          have hfz7_4 := blk_frozen BK139.out 4
          have hfz7_5 := blk_frozen BK139.out 5
          go_wp2_with (first | ((with_reducible refine gate_builtin (b := .append) (xs := #[.tmp 21, .tmp 24]) rfl ?_); at_builtin; refine Kd.R_append k91 (w0 := w) w.heap.size rfl (.tmp 21) (.tmp 24) 114 91 (.agg #[(.string ⟨#[]⟩), (.int .i64 0), (.int .i64 0)]) 32 rfl Try.underlying114 info91 rfl (by decide) (by omega) u3 x3_1 (⟨(⟨#[112, 105, 110]⟩ : ByteArray), x4_1, 0⟩ : S91) [.string (⟨#[112, 105, 110]⟩ : ByteArray), .int .i64 x4_1, .int .i64 0] (fun _ => True) (fun _ => False) rfl rfl ?aP (fun _ hk => hk.elim) ?aF ?aO ?aB ?aS ?aL ?_; (case aP => exact k91_mkM _ _ _ (⟨(⟨#[112, 105, 110]⟩ : ByteArray), x4_1, 0⟩ : S91)); (case aB => exact (by repeat (first | (with_reducible first | exact HB.out | apply below_alloc | apply pw_below_drewN | apply below_drew1 | refine below_set ?_ GE139.out) | exact HB.out))); (case aF => exact (fun _ _ => trivial)); (case aO => exact (by (with_reducible repeat (first | apply Kd.R_alloc | apply Kd.R_drewN | apply Kd.R_drew)); exact HO_3.out)); (case aS => exact (below_size (by repeat (first | (with_reducible first | exact HB.out | apply below_alloc | apply pw_below_drewN | apply below_drew1 | refine below_set ?_ GE139.out) | exact HB.out)))); (case aL => have := LMc6.out; omega); intro v144 w8 ho hb hg hat; rw [← Ny143.out] at ho; have n0_ := Aside0.mk (blk_grown (g := gb139) (o := .cells #[.int .i64 a0_0, .int .i64 a0_1, .int .i64 a0_2, .int .i64 a0_3, .int .i64 a0_4, .int .i64 a0_5] 23 (0, 0)) (by (with_reducible repeat (first | refine blk_drewN ?_ _ | refine blk_drew ?_ | refine blk_alloc ?_ _)); exact BK139.out) hg (Kd.R_ne HO_3.out BK139.out (by decide))); have n1_ := Aside0.mk (hb); have n2_ := Aside0.mk (ho); clear BK139; clear HB; clear HO_3; have BK139 := n0_; have HB := n1_; have HO145 := n2_; clear n0_ n1_ n2_; clear ho hb hg hat))
          go_roundg k1
          case measure => have := HK1.out; omega
          case rel => exact ⟨(y143), (wrap64 (x4_1 + 1)), (by first | rfl | (simp; done) | (simp [*]; done)), H', ⟨by have := HK1.out; omega⟩, ⟨by (with_reducible repeat (first | apply Kd.R_alloc | apply Kd.R_drewN | apply Kd.R_drew)); exact HO145.out⟩, ⟨by (with_reducible repeat (first | refine blk_drewN ?_ _ | refine blk_drew ?_ | refine blk_alloc ?_ _)); exact BK139.out⟩, ⟨by repeat (first | (with_reducible first | exact HB.out | apply below_alloc | apply pw_below_drewN | apply below_drew1 | refine below_set ?_ GE139.out) | exact HB.out)⟩⟩
        · rw [if_neg c6] at H
          exact absurd H (by simp)
      · rw [if_neg c5] at H
        have c5b0 : decide (x4_1 < a0_2) = false := decide_eq_false c5
        clear c5
        have H' := Aside0.mk H
        clear H
        have hcz9_0 : wr.cell? ⟨gb139, 0, none⟩ = some (.int .i64 a0_0) := (blk_cell BK139.out 0).trans rfl
        have hcz9_1 : wr.cell? ⟨gb139, 1, none⟩ = some (.int .i64 a0_1) := (blk_cell BK139.out 1).trans rfl
        have hcz9_2 : wr.cell? ⟨gb139, 2, none⟩ = some (.int .i64 a0_2) := (blk_cell BK139.out 2).trans rfl
        have hcz9_3 : wr.cell? ⟨gb139, 3, none⟩ = some (.int .i64 a0_3) := (blk_cell BK139.out 3).trans rfl
        have hcz9_4 : wr.cell? ⟨gb139, 4, none⟩ = some (.int .i64 a0_4) := (blk_cell BK139.out 4).trans rfl
        have hcz9_5 : wr.cell? ⟨gb139, 5, none⟩ = some (.int .i64 a0_5) := (blk_cell BK139.out 5).trans rfl
        have hfz9_0 := blk_frozen BK139.out 0
        have hfz9_1 := blk_frozen BK139.out 1
        have hfz9_2 := blk_frozen BK139.out 2
        have hfz9_3 := blk_frozen BK139.out 3
        have hfz9_4 := blk_frozen BK139.out 4
        have hfz9_5 := blk_frozen BK139.out 5
        go_wp2
        go_loopg [3, 5] k1 (fun kq v3 v5 w' => ∃ (x3_2 : List (S91)) (x5_2 : Int), v5 = .int .i64 x5_2 ∧ Aside0 (withyref06_Words.l1 kq x3_2 x5_2 a0_0 a0_1 a0_2 a0_3 a0_4 a0_5 = some r) ∧ Aside0 (kq ≤ k1) ∧ Aside0 (Kd.R k91 91 w' w.heap.size (fun _ => True) v3 x3_2) ∧ Aside0 (w'.heap[gb139]? = some (.cells #[.int .i64 a0_0, .int .i64 a0_1, .int .i64 a0_2, .int .i64 a0_3, .int .i64 a0_4, .int .i64 a0_5] 23 (0, 0))) ∧ Aside0 (Below w.heap.size w w'))
        case atStart => exact ⟨(x3_1), (0), (by first | rfl | (simp; done) | (simp [*]; done)), H', ⟨Nat.le_refl _⟩, ⟨by (with_reducible repeat (first | apply Kd.R_alloc | apply Kd.R_drewN | apply Kd.R_drew)); exact HO_3.out⟩, ⟨by (with_reducible repeat (first | refine blk_drewN ?_ _ | refine blk_drew ?_ | refine blk_alloc ?_ _)); exact BK139.out⟩, ⟨by repeat (first | (with_reducible first | exact HB.out | apply below_alloc | apply pw_below_drewN | apply below_drew1 | refine below_set ?_ GE139.out) | exact HB.out)⟩⟩
        case round =>
          clear H'
          try clear p2
          try clear c3
          try clear c5
          try clear c5b0
          try clear c6
          try clear p6
          try clear hcz7_0
          try clear hcz7_1
          try clear hcz7_2
          try clear hcz7_3
          try clear hcz7_4
          try clear hcz7_5
          try clear hcz9_0
          try clear hcz9_1
          try clear hcz9_2
          try clear hcz9_3
          try clear hcz9_4
          try clear hcz9_5
          try clear hfz7_0
          try clear hfz7_1
          try clear hfz7_2
          try clear hfz7_3
          try clear hfz7_4
          try clear hfz7_5
          try clear hfz9_0
          try clear hfz9_1
          try clear hfz9_2
          try clear hfz9_3
          try clear hfz9_4
          try clear hfz9_5
          try clear p2
          obtain ⟨x3_2, x5_2, rfl, HA, HK2, HO_3, BK139, HB⟩ := hrel
          cases gk with
          | zero => exact absurd HA.out (by simp [withyref06_Words.l1])
          | succ k2 =>
            have H := HA.out
            clear HA
            simp only [withyref06_Words.l1] at H
            by_cases c10 : x5_2 < a0_2
            · rw [if_pos c10] at H
              have c10b0 : decide (x5_2 < a0_2) = true := decide_eq_true c10
              clear c10
              have H' := Aside0.mk H
              clear H
              have hcz11_0 : wr.cell? ⟨gb139, 0, none⟩ = some (.int .i64 a0_0) := (blk_cell BK139.out 0).trans rfl
              have hcz11_1 : wr.cell? ⟨gb139, 1, none⟩ = some (.int .i64 a0_1) := (blk_cell BK139.out 1).trans rfl
              have hcz11_2 : wr.cell? ⟨gb139, 2, none⟩ = some (.int .i64 a0_2) := (blk_cell BK139.out 2).trans rfl
              have hcz11_3 : wr.cell? ⟨gb139, 3, none⟩ = some (.int .i64 a0_3) := (blk_cell BK139.out 3).trans rfl
              have hcz11_4 : wr.cell? ⟨gb139, 4, none⟩ = some (.int .i64 a0_4) := (blk_cell BK139.out 4).trans rfl
              have hcz11_5 : wr.cell? ⟨gb139, 5, none⟩ = some (.int .i64 a0_5) := (blk_cell BK139.out 5).trans rfl
              have hfz11_0 := blk_frozen BK139.out 0
              have hfz11_1 := blk_frozen BK139.out 1
              have hfz11_2 := blk_frozen BK139.out 2
              have hfz11_3 := blk_frozen BK139.out 3
              have hfz11_4 := blk_frozen BK139.out 4
              have hfz11_5 := blk_frozen BK139.out 5
              go_wp2
              go_loopg [3, 6] k2 (fun kq v3 v6 w' => ∃ (x3_3 : List (S91)) (x6_3 : Int), v6 = .int .i64 x6_3 ∧ Aside0 (withyref06_Words.l2 kq x3_3 x5_2 x6_3 a0_0 a0_1 a0_2 a0_3 a0_4 a0_5 = some r) ∧ Aside0 (kq ≤ k2) ∧ Aside0 (Kd.R k91 91 w' w.heap.size (fun _ => True) v3 x3_3) ∧ Aside0 (w'.heap[gb139]? = some (.cells #[.int .i64 a0_0, .int .i64 a0_1, .int .i64 a0_2, .int .i64 a0_3, .int .i64 a0_4, .int .i64 a0_5] 23 (0, 0))) ∧ Aside0 (Below w.heap.size w w'))
              case atStart => exact ⟨(x3_2), (0), (by first | rfl | (simp; done) | (simp [*]; done)), H', ⟨Nat.le_refl _⟩, ⟨by (with_reducible repeat (first | apply Kd.R_alloc | apply Kd.R_drewN | apply Kd.R_drew)); exact HO_3.out⟩, ⟨by (with_reducible repeat (first | refine blk_drewN ?_ _ | refine blk_drew ?_ | refine blk_alloc ?_ _)); exact BK139.out⟩, ⟨by repeat (first | (with_reducible first | exact HB.out | apply below_alloc | apply pw_below_drewN | apply below_drew1 | refine below_set ?_ GE139.out) | exact HB.out)⟩⟩
              case round =>
                clear H'
                try clear c1
                try clear p2
                try clear c3
                try clear c5
                try clear c5b0
                try clear c6
                try clear p6
                try clear c10
                try clear c10b0
                try clear hcz11_0
                try clear hcz11_1
                try clear hcz11_2
                try clear hcz11_3
                try clear hcz11_4
                try clear hcz11_5
                try clear hcz7_0
                try clear hcz7_1
                try clear hcz7_2
                try clear hcz7_3
                try clear hcz7_4
                try clear hcz7_5
                try clear hcz9_0
                try clear hcz9_1
                try clear hcz9_2
                try clear hcz9_3
                try clear hcz9_4
                try clear hcz9_5
                try clear hfz11_0
                try clear hfz11_1
                try clear hfz11_2
                try clear hfz11_3
                try clear hfz11_4
                try clear hfz11_5
                try clear hfz7_0
                try clear hfz7_1
                try clear hfz7_2
                try clear hfz7_3
                try clear hfz7_4
                try clear hfz7_5
                try clear hfz9_0
                try clear hfz9_1
                try clear hfz9_2
                try clear hfz9_3
                try clear hfz9_4
                try clear hfz9_5
                try clear p2
                try clear p6
                obtain ⟨x3_3, x6_3, rfl, HA, HK3, HO_3, BK139, HB⟩ := hrel
                cases gk with
                | zero => exact absurd HA.out (by simp [withyref06_Words.l2])
                | succ k3 =>
                  have H := HA.out
                  clear HA
                  simp only [withyref06_Words.l2] at H
                  by_cases c12 : x6_3 < a0_3
                  · rw [if_pos c12] at H
                    have c12b0 : decide (x6_3 < a0_3) = true := decide_eq_true c12
                    clear c12
                    by_cases c13 : x3_3.length < 4398046511104
                    · rw [if_pos c13] at H
                      have LMc13 := Aside0.mk c13
                      clear c13
                      obtain ⟨y146, hy146⟩ : ∃ y_ : List (S91), y_ = (x3_3 ++ [(⟨(⟨#[101, 110, 116, 114, 121]⟩ : ByteArray), x5_2, x6_3⟩ : S91)]) := ⟨_, rfl⟩
                      replace H : (withyref06_Words.l2 k3 y146 x5_2 (wrap64 (x6_3 + 1)) a0_0 a0_1 a0_2 a0_3 a0_4 a0_5) = some r := by first | (rw [hy146]; with_reducible exact H) | (have H2_ := (Option.bind_some _ _).symm.trans H; rw [hy146]; with_reducible exact H2_) | (have H2_ := (Option.bind_some _ _).symm.trans H; with_reducible exact H2_) | with_reducible exact H | (rw [hy146]; exact H) | exact H
                      have Ny146 := Aside0.mk hy146
                      clear hy146
                      have H' := Aside0.mk H
                      clear H
                      have hcz14_0 : wr.cell? ⟨gb139, 0, none⟩ = some (.int .i64 a0_0) := (blk_cell BK139.out 0).trans rfl
                      have hcz14_1 : wr.cell? ⟨gb139, 1, none⟩ = some (.int .i64 a0_1) := (blk_cell BK139.out 1).trans rfl
                      have hcz14_2 : wr.cell? ⟨gb139, 2, none⟩ = some (.int .i64 a0_2) := (blk_cell BK139.out 2).trans rfl
                      have hcz14_3 : wr.cell? ⟨gb139, 3, none⟩ = some (.int .i64 a0_3) := (blk_cell BK139.out 3).trans rfl
                      have hcz14_4 : wr.cell? ⟨gb139, 4, none⟩ = some (.int .i64 a0_4) := (blk_cell BK139.out 4).trans rfl
                      have hcz14_5 : wr.cell? ⟨gb139, 5, none⟩ = some (.int .i64 a0_5) := (blk_cell BK139.out 5).trans rfl
                      have hfz14_0 := blk_frozen BK139.out 0
                      have hfz14_1 := blk_frozen BK139.out 1
                      have hfz14_2 := blk_frozen BK139.out 2
                      have hfz14_3 := blk_frozen BK139.out 3
                      have hfz14_4 := blk_frozen BK139.out 4
                      have hfz14_5 := blk_frozen BK139.out 5
                      go_wp2_with (first | ((with_reducible refine gate_builtin (b := .append) (xs := #[.tmp 38, .tmp 42]) rfl ?_); at_builtin; refine Kd.R_append k91 (w0 := w) w.heap.size rfl (.tmp 38) (.tmp 42) 114 91 (.agg #[(.string ⟨#[]⟩), (.int .i64 0), (.int .i64 0)]) 32 rfl Try.underlying114 info91 rfl (by decide) (by omega) u3 x3_3 (⟨(⟨#[101, 110, 116, 114, 121]⟩ : ByteArray), x5_2, x6_3⟩ : S91) [.string (⟨#[101, 110, 116, 114, 121]⟩ : ByteArray), .int .i64 x5_2, .int .i64 x6_3] (fun _ => True) (fun _ => False) rfl rfl ?aP (fun _ hk => hk.elim) ?aF ?aO ?aB ?aS ?aL ?_; (case aP => exact k91_mkM _ _ _ (⟨(⟨#[101, 110, 116, 114, 121]⟩ : ByteArray), x5_2, x6_3⟩ : S91)); (case aB => exact (by repeat (first | (with_reducible first | exact HB.out | apply below_alloc | apply pw_below_drewN | apply below_drew1 | refine below_set ?_ GE139.out) | exact HB.out))); (case aF => exact (fun _ _ => trivial)); (case aO => exact (by (with_reducible repeat (first | apply Kd.R_alloc | apply Kd.R_drewN | apply Kd.R_drew)); exact HO_3.out)); (case aS => exact (below_size (by repeat (first | (with_reducible first | exact HB.out | apply below_alloc | apply pw_below_drewN | apply below_drew1 | refine below_set ?_ GE139.out) | exact HB.out)))); (case aL => have := LMc13.out; omega); intro v147 w15 ho hb hg hat; rw [← Ny146.out] at ho; have n0_ := Aside0.mk (blk_grown (g := gb139) (o := .cells #[.int .i64 a0_0, .int .i64 a0_1, .int .i64 a0_2, .int .i64 a0_3, .int .i64 a0_4, .int .i64 a0_5] 23 (0, 0)) (by (with_reducible repeat (first | refine blk_drewN ?_ _ | refine blk_drew ?_ | refine blk_alloc ?_ _)); exact BK139.out) hg (Kd.R_ne HO_3.out BK139.out (by decide))); have n1_ := Aside0.mk (hb); have n2_ := Aside0.mk (ho); clear BK139; clear HB; clear HO_3; have BK139 := n0_; have HB := n1_; have HO148 := n2_; clear n0_ n1_ n2_; clear ho hb hg hat))
                      go_roundg k3
                      case measure => have := HK1.out; have := HK2.out; have := HK3.out; omega
                      case rel => exact ⟨(y146), (wrap64 (x6_3 + 1)), (by first | rfl | (simp; done) | (simp [*]; done)), H', ⟨by have := HK1.out; have := HK2.out; have := HK3.out; omega⟩, ⟨by (with_reducible repeat (first | apply Kd.R_alloc | apply Kd.R_drewN | apply Kd.R_drew)); exact HO148.out⟩, ⟨by (with_reducible repeat (first | refine blk_drewN ?_ _ | refine blk_drew ?_ | refine blk_alloc ?_ _)); exact BK139.out⟩, ⟨by repeat (first | (with_reducible first | exact HB.out | apply below_alloc | apply pw_below_drewN | apply below_drew1 | refine below_set ?_ GE139.out) | exact HB.out)⟩⟩
                    · rw [if_neg c13] at H
                      exact absurd H (by simp)
                  · rw [if_neg c12] at H
                    have c12b0 : decide (x6_3 < a0_3) = false := decide_eq_false c12
                    clear c12
                    have H' := Aside0.mk H
                    clear H
                    have hcz16_0 : wr.cell? ⟨gb139, 0, none⟩ = some (.int .i64 a0_0) := (blk_cell BK139.out 0).trans rfl
                    have hcz16_1 : wr.cell? ⟨gb139, 1, none⟩ = some (.int .i64 a0_1) := (blk_cell BK139.out 1).trans rfl
                    have hcz16_2 : wr.cell? ⟨gb139, 2, none⟩ = some (.int .i64 a0_2) := (blk_cell BK139.out 2).trans rfl
                    have hcz16_3 : wr.cell? ⟨gb139, 3, none⟩ = some (.int .i64 a0_3) := (blk_cell BK139.out 3).trans rfl
                    have hcz16_4 : wr.cell? ⟨gb139, 4, none⟩ = some (.int .i64 a0_4) := (blk_cell BK139.out 4).trans rfl
                    have hcz16_5 : wr.cell? ⟨gb139, 5, none⟩ = some (.int .i64 a0_5) := (blk_cell BK139.out 5).trans rfl
                    have hfz16_0 := blk_frozen BK139.out 0
                    have hfz16_1 := blk_frozen BK139.out 1
                    have hfz16_2 := blk_frozen BK139.out 2
                    have hfz16_3 := blk_frozen BK139.out 3
                    have hfz16_4 := blk_frozen BK139.out 4
                    have hfz16_5 := blk_frozen BK139.out 5
                    go_wp2
                    go_roundg k3
                    case measure => have := HK1.out; have := HK2.out; have := HK3.out; omega
                    case rel => exact ⟨(x3_3), (wrap64 (x5_2 + 1)), (by first | rfl | (simp; done) | (simp [*]; done)), H', ⟨by have := HK1.out; have := HK2.out; have := HK3.out; omega⟩, ⟨by (with_reducible repeat (first | apply Kd.R_alloc | apply Kd.R_drewN | apply Kd.R_drew)); exact HO_3.out⟩, ⟨by (with_reducible repeat (first | refine blk_drewN ?_ _ | refine blk_drew ?_ | refine blk_alloc ?_ _)); exact BK139.out⟩, ⟨by repeat (first | (with_reducible first | exact HB.out | apply below_alloc | apply pw_below_drewN | apply below_drew1 | refine below_set ?_ GE139.out) | exact HB.out)⟩⟩
            · rw [if_neg c10] at H
              have c10b0 : decide (x5_2 < a0_2) = false := decide_eq_false c10
              clear c10
              have H' := Aside0.mk H
              clear H
              have hcz17_0 : wr.cell? ⟨gb139, 0, none⟩ = some (.int .i64 a0_0) := (blk_cell BK139.out 0).trans rfl
              have hcz17_1 : wr.cell? ⟨gb139, 1, none⟩ = some (.int .i64 a0_1) := (blk_cell BK139.out 1).trans rfl
              have hcz17_2 : wr.cell? ⟨gb139, 2, none⟩ = some (.int .i64 a0_2) := (blk_cell BK139.out 2).trans rfl
              have hcz17_3 : wr.cell? ⟨gb139, 3, none⟩ = some (.int .i64 a0_3) := (blk_cell BK139.out 3).trans rfl
              have hcz17_4 : wr.cell? ⟨gb139, 4, none⟩ = some (.int .i64 a0_4) := (blk_cell BK139.out 4).trans rfl
              have hcz17_5 : wr.cell? ⟨gb139, 5, none⟩ = some (.int .i64 a0_5) := (blk_cell BK139.out 5).trans rfl
              have hfz17_0 := blk_frozen BK139.out 0
              have hfz17_1 := blk_frozen BK139.out 1
              have hfz17_2 := blk_frozen BK139.out 2
              have hfz17_3 := blk_frozen BK139.out 3
              have hfz17_4 := blk_frozen BK139.out 4
              have hfz17_5 := blk_frozen BK139.out 5
              go_wp2
              go_loopg [3, 7] k2 (fun kq v3 v7 w' => ∃ (x3_3 : List (S91)) (x7_3 : Int), v7 = .int .i64 x7_3 ∧ Aside0 (withyref06_Words.l3 kq x3_3 x7_3 a0_0 a0_1 a0_2 a0_3 a0_4 a0_5 = some r) ∧ Aside0 (kq ≤ k2) ∧ Aside0 (Kd.R k91 91 w' w.heap.size (fun _ => True) v3 x3_3) ∧ Aside0 (w'.heap[gb139]? = some (.cells #[.int .i64 a0_0, .int .i64 a0_1, .int .i64 a0_2, .int .i64 a0_3, .int .i64 a0_4, .int .i64 a0_5] 23 (0, 0))) ∧ Aside0 (Below w.heap.size w w'))
              case atStart => exact ⟨(x3_2), (0), (by first | rfl | (simp; done) | (simp [*]; done)), H', ⟨Nat.le_refl _⟩, ⟨by (with_reducible repeat (first | apply Kd.R_alloc | apply Kd.R_drewN | apply Kd.R_drew)); exact HO_3.out⟩, ⟨by (with_reducible repeat (first | refine blk_drewN ?_ _ | refine blk_drew ?_ | refine blk_alloc ?_ _)); exact BK139.out⟩, ⟨by repeat (first | (with_reducible first | exact HB.out | apply below_alloc | apply pw_below_drewN | apply below_drew1 | refine below_set ?_ GE139.out) | exact HB.out)⟩⟩
              case round =>
                clear H'
                try clear c1
                try clear p2
                try clear c3
                try clear c5
                try clear c5b0
                try clear c6
                try clear p6
                try clear c10
                try clear c10b0
                try clear c12
                try clear c12b0
                try clear c13
                try clear hcz11_0
                try clear hcz11_1
                try clear hcz11_2
                try clear hcz11_3
                try clear hcz11_4
                try clear hcz11_5
                try clear hcz14_0
                try clear hcz14_1
                try clear hcz14_2
                try clear hcz14_3
                try clear hcz14_4
                try clear hcz14_5
                try clear hcz16_0
                try clear hcz16_1
                try clear hcz16_2
                try clear hcz16_3
                try clear hcz16_4
                try clear hcz16_5
                try clear hcz17_0
                try clear hcz17_1
                try clear hcz17_2
                try clear hcz17_3
                try clear hcz17_4
                try clear hcz17_5
                try clear hcz7_0
                try clear hcz7_1
                try clear hcz7_2
                try clear hcz7_3
                try clear hcz7_4
                try clear hcz7_5
                try clear hcz9_0
                try clear hcz9_1
                try clear hcz9_2
                try clear hcz9_3
                try clear hcz9_4
                try clear hcz9_5
                try clear hfz11_0
                try clear hfz11_1
                try clear hfz11_2
                try clear hfz11_3
                try clear hfz11_4
                try clear hfz11_5
                try clear hfz14_0
                try clear hfz14_1
                try clear hfz14_2
                try clear hfz14_3
                try clear hfz14_4
                try clear hfz14_5
                try clear hfz16_0
                try clear hfz16_1
                try clear hfz16_2
                try clear hfz16_3
                try clear hfz16_4
                try clear hfz16_5
                try clear hfz17_0
                try clear hfz17_1
                try clear hfz17_2
                try clear hfz17_3
                try clear hfz17_4
                try clear hfz17_5
                try clear hfz7_0
                try clear hfz7_1
                try clear hfz7_2
                try clear hfz7_3
                try clear hfz7_4
                try clear hfz7_5
                try clear hfz9_0
                try clear hfz9_1
                try clear hfz9_2
                try clear hfz9_3
                try clear hfz9_4
                try clear hfz9_5
                try clear p2
                try clear p6
                obtain ⟨x3_3, x7_3, rfl, HA, HK3, HO_3, BK139, HB⟩ := hrel
                cases gk with
                | zero => exact absurd HA.out (by simp [withyref06_Words.l3])
                | succ k3 =>
                  have H := HA.out
                  clear HA
                  simp only [withyref06_Words.l3] at H
                  by_cases c18 : x7_3 < a0_2
                  · rw [if_pos c18] at H
                    have c18b0 : decide (x7_3 < a0_2) = true := decide_eq_true c18
                    clear c18
                    obtain ⟨y149, hy149⟩ : ∃ y_ : List (S91), y_ = (([(⟨(⟨#[118, 105, 101, 119]⟩ : ByteArray), x7_3, 0⟩ : S91), (⟨(⟨#[115, 116, 97, 114, 116]⟩ : ByteArray), x7_3, 0⟩ : S91)] : List (S91))) := ⟨_, rfl⟩
                    replace H : (if x3_3.length + y149.length < 4398046511104 then (withyref06_Words.l3 k3 (x3_3 ++ y149) (wrap64 (x7_3 + 1)) a0_0 a0_1 a0_2 a0_3 a0_4 a0_5) else (none)) = some r := by first | (rw [hy149]; with_reducible exact H) | (have H2_ := (Option.bind_some _ _).symm.trans H; rw [hy149]; with_reducible exact H2_) | (have H2_ := (Option.bind_some _ _).symm.trans H; with_reducible exact H2_) | with_reducible exact H | (rw [hy149]; exact H) | exact H
                    have Ny149 := Aside0.mk hy149
                    clear hy149
                    by_cases c19 : x3_3.length + y149.length < 4398046511104
                    · rw [if_pos c19] at H
                      have LMc19 := Aside0.mk c19
                      clear c19
                      obtain ⟨y152, hy152⟩ : ∃ y_ : List (S91), y_ = (x3_3 ++ y149) := ⟨_, rfl⟩
                      replace H : (withyref06_Words.l3 k3 y152 (wrap64 (x7_3 + 1)) a0_0 a0_1 a0_2 a0_3 a0_4 a0_5) = some r := by first | (rw [hy152]; with_reducible exact H) | (have H2_ := (Option.bind_some _ _).symm.trans H; rw [hy152]; with_reducible exact H2_) | (have H2_ := (Option.bind_some _ _).symm.trans H; with_reducible exact H2_) | with_reducible exact H | (rw [hy152]; exact H) | exact H
                      have Ny152 := Aside0.mk hy152
                      clear hy152
                      have H' := Aside0.mk H
                      clear H
                      have hcz20_0 : wr.cell? ⟨gb139, 0, none⟩ = some (.int .i64 a0_0) := (blk_cell BK139.out 0).trans rfl
                      have hcz20_1 : wr.cell? ⟨gb139, 1, none⟩ = some (.int .i64 a0_1) := (blk_cell BK139.out 1).trans rfl
                      have hcz20_2 : wr.cell? ⟨gb139, 2, none⟩ = some (.int .i64 a0_2) := (blk_cell BK139.out 2).trans rfl
                      have hcz20_3 : wr.cell? ⟨gb139, 3, none⟩ = some (.int .i64 a0_3) := (blk_cell BK139.out 3).trans rfl
                      have hcz20_4 : wr.cell? ⟨gb139, 4, none⟩ = some (.int .i64 a0_4) := (blk_cell BK139.out 4).trans rfl
                      have hcz20_5 : wr.cell? ⟨gb139, 5, none⟩ = some (.int .i64 a0_5) := (blk_cell BK139.out 5).trans rfl
                      have hfz20_0 := blk_frozen BK139.out 0
                      have hfz20_1 := blk_frozen BK139.out 1
                      have hfz20_2 := blk_frozen BK139.out 2
                      have hfz20_3 := blk_frozen BK139.out 3
                      have hfz20_4 := blk_frozen BK139.out 4
                      have hfz20_5 := blk_frozen BK139.out 5
                      go_wp2_with (first | ((with_reducible refine gate_dst (N := 55) rfl ?_); refine Kd.R_lit k91 _ 91 ?hg (N := 55) ?hd (xs := ([(⟨(⟨#[118, 105, 101, 119]⟩ : ByteArray), x7_3, 0⟩ : S91), (⟨(⟨#[115, 116, 97, 114, 116]⟩ : ByteArray), x7_3, 0⟩ : S91)] : List (S91))) (inner := [.string (⟨#[118, 105, 101, 119]⟩ : ByteArray), .int .i64 x7_3, .int .i64 0, .string (⟨#[115, 116, 97, 114, 116]⟩ : ByteArray), .int .i64 x7_3, .int .i64 0]) (ok := fun _ => True) (okp := fun _ => True) ?hr ?hp (fun _ hk => hk) trivial (Below.refl _ _) (Nat.le_refl _) (by simp) ?_; (case hd => rfl); (case hg => rfl); (case hr => first | (go_simp; done) | (go_simp; rfl)); (case hp => exact (Reps.c3 (show Kd.M k91 _ _ _ (⟨(⟨#[118, 105, 101, 119]⟩ : ByteArray), x7_3, 0⟩ : S91) [.string (⟨#[118, 105, 101, 119]⟩ : ByteArray), .int .i64 x7_3, .int .i64 0] from (k91_mkM _ _ _ (⟨(⟨#[118, 105, 101, 119]⟩ : ByteArray), x7_3, 0⟩ : S91) )) (Reps.c3 (show Kd.M k91 _ _ _ (⟨(⟨#[115, 116, 97, 114, 116]⟩ : ByteArray), x7_3, 0⟩ : S91) [.string (⟨#[115, 116, 97, 114, 116]⟩ : ByteArray), .int .i64 x7_3, .int .i64 0] from (k91_mkM _ _ _ (⟨(⟨#[115, 116, 97, 114, 116]⟩ : ByteArray), x7_3, 0⟩ : S91) )) (Reps.none _ _)))); intro v150 w21 ho22 hb hg_ hnew_; clear hg_ hnew_; (first | rw [← Ny149.out] at ho22 | (simp only [Int.reduceToNat] at ho22; rw [← Ny149.out] at ho22)); have n0_ := Aside0.mk (Kd.R_elder' (by (with_reducible repeat (first | apply Kd.R_alloc | apply Kd.R_drewN | apply Kd.R_drew)); exact HO_3.out) (Kd.R_base ho22) hb); have n1_ := Aside0.mk (Kd.R_lower (Kd.R_new' ho22 (Kd.R_lt (by (with_reducible repeat (first | apply Kd.R_alloc | apply Kd.R_drewN | apply Kd.R_drew)); exact HO_3.out))) (below_size (by repeat (first | (with_reducible first | exact HB.out | apply below_alloc | apply pw_below_drewN | apply below_drew1 | refine below_set ?_ GE139.out) | exact HB.out)))); have n2_ := Aside0.mk (blk_below (g := gb139) (o := .cells #[.int .i64 a0_0, .int .i64 a0_1, .int .i64 a0_2, .int .i64 a0_3, .int .i64 a0_4, .int .i64 a0_5] 23 (0, 0)) (by (with_reducible repeat (first | refine blk_drewN ?_ _ | refine blk_drew ?_ | refine blk_alloc ?_ _)); exact BK139.out) hb); have n3_ := Aside0.mk (below_step (by repeat (first | (with_reducible first | exact HB.out | apply below_alloc | apply pw_below_drewN | apply below_drew1 | refine below_set ?_ GE139.out) | exact HB.out)) hb); clear HO_3; clear BK139; clear HB; have HO_3 := n0_; have HO151 := n1_; have BK139 := n2_; have HB := n3_; clear n0_ n1_ n2_ n3_; clear hb ho22; obtain ⟨Ao24, co24, eo24⟩ := Kd.R_slice HO151.out; subst eo24) | ((with_reducible refine gate_builtin (b := .append) (xs := #[.tmp 50, .tmp 55]) rfl ?_); at_builtin; refine Kd.R_append_rows k91 (w0 := w) w.heap.size rfl (.tmp 50) (.tmp 55) 114 91 (.agg #[(.string ⟨#[]⟩), (.int .i64 0), (.int .i64 0)]) 32 rfl Try.underlying114 info91 rfl (by decide) (by omega) u3 x3_3 y149 _ _ _ (fun k_ => some k_ ≠ (.slice Ao24 y149.length co24 : Value).ownBlock) (fun _ => False) rfl rfl ?aO ?aR (fun _ _ h => h) (fun _ h => h.elim) ?aF ?aB ?aS ?aL ?_; (case aR => repeat (first | exact (Kd.R_reads' HO151.out).2.2 | (with_reducible refine Kd.C_alloc ?_ _) | (with_reducible refine Kd.C_drewN ?_ _) | (with_reducible refine Kd.C_drew ?_))); (case aB => exact (by repeat (first | (with_reducible first | exact HB.out | apply below_alloc | apply pw_below_drewN | apply below_drew1 | refine below_set ?_ GE139.out) | exact HB.out))); (case aF => exact (fun k_ hk => Kd.fresh' (Kd.R_lt (by (with_reducible repeat (first | apply Kd.R_alloc | apply Kd.R_drewN | apply Kd.R_drew)); exact HO151.out)) k_ hk)); (case aO => exact (by (with_reducible repeat (first | apply Kd.R_alloc | apply Kd.R_drewN | apply Kd.R_drew)); exact Kd.R_mono HO_3.out (fun _ hk => hk.2))); (case aS => exact (below_size (by repeat (first | (with_reducible first | exact HB.out | apply below_alloc | apply pw_below_drewN | apply below_drew1 | refine below_set ?_ GE139.out) | exact HB.out)))); (case aL => have := LMc19.out; omega); intro v153 w23 ho hb hg hat; rw [← Ny152.out] at ho; have n0_ := Aside0.mk (blk_grown (g := gb139) (o := .cells #[.int .i64 a0_0, .int .i64 a0_1, .int .i64 a0_2, .int .i64 a0_3, .int .i64 a0_4, .int .i64 a0_5] 23 (0, 0)) (by (with_reducible repeat (first | refine blk_drewN ?_ _ | refine blk_drew ?_ | refine blk_alloc ?_ _)); exact BK139.out) hg (Kd.R_ne HO_3.out BK139.out (by decide))); have n1_ := Aside0.mk (Kd.R_after (ok := (fun _ => True)) (by (with_reducible repeat (first | apply Kd.R_alloc | apply Kd.R_drewN | apply Kd.R_drew)); exact HO151.out) hg hat); have n2_ := Aside0.mk (hb); have n3_ := Aside0.mk (ho); clear BK139; clear HO151; clear HB; clear HO_3; have BK139 := n0_; have HO151 := n1_; have HB := n2_; have HO154 := n3_; clear n0_ n1_ n2_ n3_; clear ho hb hg hat))
                      go_roundg k3
                      case measure => have := HK1.out; have := HK2.out; have := HK3.out; omega
                      case rel => exact ⟨(y152), (wrap64 (x7_3 + 1)), (by first | rfl | (simp; done) | (simp [*]; done)), H', ⟨by have := HK1.out; have := HK2.out; have := HK3.out; omega⟩, ⟨by (with_reducible repeat (first | apply Kd.R_alloc | apply Kd.R_drewN | apply Kd.R_drew)); exact Kd.R_mono HO154.out (fun _ hk => trivial)⟩, ⟨by (with_reducible repeat (first | refine blk_drewN ?_ _ | refine blk_drew ?_ | refine blk_alloc ?_ _)); exact BK139.out⟩, ⟨by repeat (first | (with_reducible first | exact HB.out | apply below_alloc | apply pw_below_drewN | apply below_drew1 | refine below_set ?_ GE139.out) | exact HB.out)⟩⟩
                    · rw [if_neg c19] at H
                      exact absurd H (by simp)
                  · rw [if_neg c18] at H
                    have c18b0 : decide (x7_3 < a0_2) = false := decide_eq_false c18
                    clear c18
                    have H' := Aside0.mk H
                    clear H
                    have hcz25_0 : wr.cell? ⟨gb139, 0, none⟩ = some (.int .i64 a0_0) := (blk_cell BK139.out 0).trans rfl
                    have hcz25_1 : wr.cell? ⟨gb139, 1, none⟩ = some (.int .i64 a0_1) := (blk_cell BK139.out 1).trans rfl
                    have hcz25_2 : wr.cell? ⟨gb139, 2, none⟩ = some (.int .i64 a0_2) := (blk_cell BK139.out 2).trans rfl
                    have hcz25_3 : wr.cell? ⟨gb139, 3, none⟩ = some (.int .i64 a0_3) := (blk_cell BK139.out 3).trans rfl
                    have hcz25_4 : wr.cell? ⟨gb139, 4, none⟩ = some (.int .i64 a0_4) := (blk_cell BK139.out 4).trans rfl
                    have hcz25_5 : wr.cell? ⟨gb139, 5, none⟩ = some (.int .i64 a0_5) := (blk_cell BK139.out 5).trans rfl
                    have hfz25_0 := blk_frozen BK139.out 0
                    have hfz25_1 := blk_frozen BK139.out 1
                    have hfz25_2 := blk_frozen BK139.out 2
                    have hfz25_3 := blk_frozen BK139.out 3
                    have hfz25_4 := blk_frozen BK139.out 4
                    have hfz25_5 := blk_frozen BK139.out 5
                    go_wp2
                    go_loopg [3, 8] k3 (fun kq v3 v8 w' => ∃ (x3_4 : List (S91)) (x8_4 : Int), v8 = .int .i64 x8_4 ∧ Aside0 (withyref06_Words.l4 kq x3_4 x8_4 a0_0 a0_1 a0_2 a0_3 a0_4 a0_5 = some r) ∧ Aside0 (kq ≤ k3) ∧ Aside0 (Kd.R k91 91 w' w.heap.size (fun _ => True) v3 x3_4) ∧ Aside0 (w'.heap[gb139]? = some (.cells #[.int .i64 a0_0, .int .i64 a0_1, .int .i64 a0_2, .int .i64 a0_3, .int .i64 a0_4, .int .i64 a0_5] 23 (0, 0))) ∧ Aside0 (Below w.heap.size w w'))
                    case atStart => exact ⟨(x3_3), (0), (by first | rfl | (simp; done) | (simp [*]; done)), H', ⟨Nat.le_refl _⟩, ⟨by (with_reducible repeat (first | apply Kd.R_alloc | apply Kd.R_drewN | apply Kd.R_drew)); exact HO_3.out⟩, ⟨by (with_reducible repeat (first | refine blk_drewN ?_ _ | refine blk_drew ?_ | refine blk_alloc ?_ _)); exact BK139.out⟩, ⟨by repeat (first | (with_reducible first | exact HB.out | apply below_alloc | apply pw_below_drewN | apply below_drew1 | refine below_set ?_ GE139.out) | exact HB.out)⟩⟩
                    case round =>
                      clear H'
                      try clear c1
                      try clear p2
                      try clear c3
                      try clear c5
                      try clear c5b0
                      try clear c6
                      try clear p6
                      try clear c10
                      try clear c10b0
                      try clear c12
                      try clear c12b0
                      try clear c13
                      try clear c18
                      try clear c18b0
                      try clear c19
                      try clear hcz11_0
                      try clear hcz11_1
                      try clear hcz11_2
                      try clear hcz11_3
                      try clear hcz11_4
                      try clear hcz11_5
                      try clear hcz14_0
                      try clear hcz14_1
                      try clear hcz14_2
                      try clear hcz14_3
                      try clear hcz14_4
                      try clear hcz14_5
                      try clear hcz16_0
                      try clear hcz16_1
                      try clear hcz16_2
                      try clear hcz16_3
                      try clear hcz16_4
                      try clear hcz16_5
                      try clear hcz17_0
                      try clear hcz17_1
                      try clear hcz17_2
                      try clear hcz17_3
                      try clear hcz17_4
                      try clear hcz17_5
                      try clear hcz20_0
                      try clear hcz20_1
                      try clear hcz20_2
                      try clear hcz20_3
                      try clear hcz20_4
                      try clear hcz20_5
                      try clear hcz25_0
                      try clear hcz25_1
                      try clear hcz25_2
                      try clear hcz25_3
                      try clear hcz25_4
                      try clear hcz25_5
                      try clear hcz7_0
                      try clear hcz7_1
                      try clear hcz7_2
                      try clear hcz7_3
                      try clear hcz7_4
                      try clear hcz7_5
                      try clear hcz9_0
                      try clear hcz9_1
                      try clear hcz9_2
                      try clear hcz9_3
                      try clear hcz9_4
                      try clear hcz9_5
                      try clear hfz11_0
                      try clear hfz11_1
                      try clear hfz11_2
                      try clear hfz11_3
                      try clear hfz11_4
                      try clear hfz11_5
                      try clear hfz14_0
                      try clear hfz14_1
                      try clear hfz14_2
                      try clear hfz14_3
                      try clear hfz14_4
                      try clear hfz14_5
                      try clear hfz16_0
                      try clear hfz16_1
                      try clear hfz16_2
                      try clear hfz16_3
                      try clear hfz16_4
                      try clear hfz16_5
                      try clear hfz17_0
                      try clear hfz17_1
                      try clear hfz17_2
                      try clear hfz17_3
                      try clear hfz17_4
                      try clear hfz17_5
                      try clear hfz20_0
                      try clear hfz20_1
                      try clear hfz20_2
                      try clear hfz20_3
                      try clear hfz20_4
                      try clear hfz20_5
                      try clear hfz25_0
                      try clear hfz25_1
                      try clear hfz25_2
                      try clear hfz25_3
                      try clear hfz25_4
                      try clear hfz25_5
                      try clear hfz7_0
                      try clear hfz7_1
                      try clear hfz7_2
                      try clear hfz7_3
                      try clear hfz7_4
                      try clear hfz7_5
                      try clear hfz9_0
                      try clear hfz9_1
                      try clear hfz9_2
                      try clear hfz9_3
                      try clear hfz9_4
                      try clear hfz9_5
                      try clear p2
                      try clear p6
                      obtain ⟨x3_4, x8_4, rfl, HA, HK4, HO_3, BK139, HB⟩ := hrel
                      cases gk with
                      | zero => exact absurd HA.out (by simp [withyref06_Words.l4])
                      | succ k4 =>
                        have H := HA.out
                        clear HA
                        simp only [withyref06_Words.l4] at H
                        by_cases c26 : x8_4 < a0_0
                        · rw [if_pos c26] at H
                          have c26b0 : decide (x8_4 < a0_0) = true := decide_eq_true c26
                          clear c26
                          obtain ⟨y155, hy155⟩ : ∃ y_ : List (S91), y_ = (([(⟨(⟨#[104, 101, 97, 100, 101, 114]⟩ : ByteArray), x8_4, 0⟩ : S91), (⟨(⟨#[108, 105, 110, 107]⟩ : ByteArray), x8_4, 0⟩ : S91)] : List (S91))) := ⟨_, rfl⟩
                          replace H : (if x3_4.length + y155.length < 4398046511104 then (withyref06_Words.l5 k4 (x3_4 ++ y155) x8_4 0 a0_0 a0_1 a0_2 a0_3 a0_4 a0_5) else (none)) = some r := by first | (rw [hy155]; with_reducible exact H) | (have H2_ := (Option.bind_some _ _).symm.trans H; rw [hy155]; with_reducible exact H2_) | (have H2_ := (Option.bind_some _ _).symm.trans H; with_reducible exact H2_) | with_reducible exact H | (rw [hy155]; exact H) | exact H
                          have Ny155 := Aside0.mk hy155
                          clear hy155
                          by_cases c27 : x3_4.length + y155.length < 4398046511104
                          · rw [if_pos c27] at H
                            have LMc27 := Aside0.mk c27
                            clear c27
                            obtain ⟨y158, hy158⟩ : ∃ y_ : List (S91), y_ = (x3_4 ++ y155) := ⟨_, rfl⟩
                            replace H : (withyref06_Words.l5 k4 y158 x8_4 0 a0_0 a0_1 a0_2 a0_3 a0_4 a0_5) = some r := by first | (rw [hy158]; with_reducible exact H) | (have H2_ := (Option.bind_some _ _).symm.trans H; rw [hy158]; with_reducible exact H2_) | (have H2_ := (Option.bind_some _ _).symm.trans H; with_reducible exact H2_) | with_reducible exact H | (rw [hy158]; exact H) | exact H
                            have Ny158 := Aside0.mk hy158
                            clear hy158
                            have H' := Aside0.mk H
                            clear H
                            have hcz28_0 : wr.cell? ⟨gb139, 0, none⟩ = some (.int .i64 a0_0) := (blk_cell BK139.out 0).trans rfl
                            have hcz28_1 : wr.cell? ⟨gb139, 1, none⟩ = some (.int .i64 a0_1) := (blk_cell BK139.out 1).trans rfl
                            have hcz28_2 : wr.cell? ⟨gb139, 2, none⟩ = some (.int .i64 a0_2) := (blk_cell BK139.out 2).trans rfl
                            have hcz28_3 : wr.cell? ⟨gb139, 3, none⟩ = some (.int .i64 a0_3) := (blk_cell BK139.out 3).trans rfl
                            have hcz28_4 : wr.cell? ⟨gb139, 4, none⟩ = some (.int .i64 a0_4) := (blk_cell BK139.out 4).trans rfl
                            have hcz28_5 : wr.cell? ⟨gb139, 5, none⟩ = some (.int .i64 a0_5) := (blk_cell BK139.out 5).trans rfl
                            have hfz28_0 := blk_frozen BK139.out 0
                            have hfz28_1 := blk_frozen BK139.out 1
                            have hfz28_2 := blk_frozen BK139.out 2
                            have hfz28_3 := blk_frozen BK139.out 3
                            have hfz28_4 := blk_frozen BK139.out 4
                            have hfz28_5 := blk_frozen BK139.out 5
                            go_wp2_with (first | ((with_reducible refine gate_dst (N := 68) rfl ?_); refine Kd.R_lit k91 _ 91 ?hg (N := 68) ?hd (xs := ([(⟨(⟨#[104, 101, 97, 100, 101, 114]⟩ : ByteArray), x8_4, 0⟩ : S91), (⟨(⟨#[108, 105, 110, 107]⟩ : ByteArray), x8_4, 0⟩ : S91)] : List (S91))) (inner := [.string (⟨#[104, 101, 97, 100, 101, 114]⟩ : ByteArray), .int .i64 x8_4, .int .i64 0, .string (⟨#[108, 105, 110, 107]⟩ : ByteArray), .int .i64 x8_4, .int .i64 0]) (ok := fun _ => True) (okp := fun _ => True) ?hr ?hp (fun _ hk => hk) trivial (Below.refl _ _) (Nat.le_refl _) (by simp) ?_; (case hd => rfl); (case hg => rfl); (case hr => first | (go_simp; done) | (go_simp; rfl)); (case hp => exact (Reps.c3 (show Kd.M k91 _ _ _ (⟨(⟨#[104, 101, 97, 100, 101, 114]⟩ : ByteArray), x8_4, 0⟩ : S91) [.string (⟨#[104, 101, 97, 100, 101, 114]⟩ : ByteArray), .int .i64 x8_4, .int .i64 0] from (k91_mkM _ _ _ (⟨(⟨#[104, 101, 97, 100, 101, 114]⟩ : ByteArray), x8_4, 0⟩ : S91) )) (Reps.c3 (show Kd.M k91 _ _ _ (⟨(⟨#[108, 105, 110, 107]⟩ : ByteArray), x8_4, 0⟩ : S91) [.string (⟨#[108, 105, 110, 107]⟩ : ByteArray), .int .i64 x8_4, .int .i64 0] from (k91_mkM _ _ _ (⟨(⟨#[108, 105, 110, 107]⟩ : ByteArray), x8_4, 0⟩ : S91) )) (Reps.none _ _)))); intro v156 w29 ho30 hb hg_ hnew_; clear hg_ hnew_; (first | rw [← Ny155.out] at ho30 | (simp only [Int.reduceToNat] at ho30; rw [← Ny155.out] at ho30)); have n0_ := Aside0.mk (Kd.R_elder' (by (with_reducible repeat (first | apply Kd.R_alloc | apply Kd.R_drewN | apply Kd.R_drew)); exact HO_3.out) (Kd.R_base ho30) hb); have n1_ := Aside0.mk (Kd.R_lower (Kd.R_new' ho30 (Kd.R_lt (by (with_reducible repeat (first | apply Kd.R_alloc | apply Kd.R_drewN | apply Kd.R_drew)); exact HO_3.out))) (below_size (by repeat (first | (with_reducible first | exact HB.out | apply below_alloc | apply pw_below_drewN | apply below_drew1 | refine below_set ?_ GE139.out) | exact HB.out)))); have n2_ := Aside0.mk (blk_below (g := gb139) (o := .cells #[.int .i64 a0_0, .int .i64 a0_1, .int .i64 a0_2, .int .i64 a0_3, .int .i64 a0_4, .int .i64 a0_5] 23 (0, 0)) (by (with_reducible repeat (first | refine blk_drewN ?_ _ | refine blk_drew ?_ | refine blk_alloc ?_ _)); exact BK139.out) hb); have n3_ := Aside0.mk (below_step (by repeat (first | (with_reducible first | exact HB.out | apply below_alloc | apply pw_below_drewN | apply below_drew1 | refine below_set ?_ GE139.out) | exact HB.out)) hb); clear HO_3; clear BK139; clear HB; have HO_3 := n0_; have HO157 := n1_; have BK139 := n2_; have HB := n3_; clear n0_ n1_ n2_ n3_; clear hb ho30; obtain ⟨Ao32, co32, eo32⟩ := Kd.R_slice HO157.out; subst eo32) | ((with_reducible refine gate_builtin (b := .append) (xs := #[.tmp 63, .tmp 68]) rfl ?_); at_builtin; refine Kd.R_append_rows k91 (w0 := w) w.heap.size rfl (.tmp 63) (.tmp 68) 114 91 (.agg #[(.string ⟨#[]⟩), (.int .i64 0), (.int .i64 0)]) 32 rfl Try.underlying114 info91 rfl (by decide) (by omega) u3 x3_4 y155 _ _ _ (fun k_ => some k_ ≠ (.slice Ao32 y155.length co32 : Value).ownBlock) (fun _ => False) rfl rfl ?aO ?aR (fun _ _ h => h) (fun _ h => h.elim) ?aF ?aB ?aS ?aL ?_; (case aR => repeat (first | exact (Kd.R_reads' HO157.out).2.2 | (with_reducible refine Kd.C_alloc ?_ _) | (with_reducible refine Kd.C_drewN ?_ _) | (with_reducible refine Kd.C_drew ?_))); (case aB => exact (by repeat (first | (with_reducible first | exact HB.out | apply below_alloc | apply pw_below_drewN | apply below_drew1 | refine below_set ?_ GE139.out) | exact HB.out))); (case aF => exact (fun k_ hk => Kd.fresh' (Kd.R_lt (by (with_reducible repeat (first | apply Kd.R_alloc | apply Kd.R_drewN | apply Kd.R_drew)); exact HO157.out)) k_ hk)); (case aO => exact (by (with_reducible repeat (first | apply Kd.R_alloc | apply Kd.R_drewN | apply Kd.R_drew)); exact Kd.R_mono HO_3.out (fun _ hk => hk.2))); (case aS => exact (below_size (by repeat (first | (with_reducible first | exact HB.out | apply below_alloc | apply pw_below_drewN | apply below_drew1 | refine below_set ?_ GE139.out) | exact HB.out)))); (case aL => have := LMc27.out; omega); intro v159 w31 ho hb hg hat; rw [← Ny158.out] at ho; have n0_ := Aside0.mk (blk_grown (g := gb139) (o := .cells #[.int .i64 a0_0, .int .i64 a0_1, .int .i64 a0_2, .int .i64 a0_3, .int .i64 a0_4, .int .i64 a0_5] 23 (0, 0)) (by (with_reducible repeat (first | refine blk_drewN ?_ _ | refine blk_drew ?_ | refine blk_alloc ?_ _)); exact BK139.out) hg (Kd.R_ne HO_3.out BK139.out (by decide))); have n1_ := Aside0.mk (Kd.R_after (ok := (fun _ => True)) (by (with_reducible repeat (first | apply Kd.R_alloc | apply Kd.R_drewN | apply Kd.R_drew)); exact HO157.out) hg hat); have n2_ := Aside0.mk (hb); have n3_ := Aside0.mk (ho); clear BK139; clear HO157; clear HB; clear HO_3; have BK139 := n0_; have HO157 := n1_; have HB := n2_; have HO160 := n3_; clear n0_ n1_ n2_ n3_; clear ho hb hg hat))
                            go_loopg [3, 9] k4 (fun kq v3 v9 w' => ∃ (x3_5 : List (S91)) (x9_5 : Int), v9 = .int .i64 x9_5 ∧ Aside0 (withyref06_Words.l5 kq x3_5 x8_4 x9_5 a0_0 a0_1 a0_2 a0_3 a0_4 a0_5 = some r) ∧ Aside0 (kq ≤ k4) ∧ Aside0 (Kd.R k91 91 w' w.heap.size (fun _ => True) v3 x3_5) ∧ Aside0 (w'.heap[gb139]? = some (.cells #[.int .i64 a0_0, .int .i64 a0_1, .int .i64 a0_2, .int .i64 a0_3, .int .i64 a0_4, .int .i64 a0_5] 23 (0, 0))) ∧ Aside0 (Below w.heap.size w w'))
                            case atStart => exact ⟨(y158), (0), (by first | rfl | (simp; done) | (simp [*]; done)), H', ⟨Nat.le_refl _⟩, ⟨by (with_reducible repeat (first | apply Kd.R_alloc | apply Kd.R_drewN | apply Kd.R_drew)); exact Kd.R_mono HO160.out (fun _ hk => trivial)⟩, ⟨by (with_reducible repeat (first | refine blk_drewN ?_ _ | refine blk_drew ?_ | refine blk_alloc ?_ _)); exact BK139.out⟩, ⟨by repeat (first | (with_reducible first | exact HB.out | apply below_alloc | apply pw_below_drewN | apply below_drew1 | refine below_set ?_ GE139.out) | exact HB.out)⟩⟩
                            case round =>
                              clear H'
                              try clear c1
                              try clear c2
                              try clear p2
                              try clear c3
                              try clear c5
                              try clear c5b0
                              try clear c6
                              try clear p6
                              try clear c10
                              try clear c10b0
                              try clear c12
                              try clear c12b0
                              try clear c13
                              try clear c18
                              try clear c18b0
                              try clear c19
                              try clear c26
                              try clear c26b0
                              try clear c27
                              try clear hcz11_0
                              try clear hcz11_1
                              try clear hcz11_2
                              try clear hcz11_3
                              try clear hcz11_4
                              try clear hcz11_5
                              try clear hcz14_0
                              try clear hcz14_1
                              try clear hcz14_2
                              try clear hcz14_3
                              try clear hcz14_4
                              try clear hcz14_5
                              try clear hcz16_0
                              try clear hcz16_1
                              try clear hcz16_2
                              try clear hcz16_3
                              try clear hcz16_4
                              try clear hcz16_5
                              try clear hcz17_0
                              try clear hcz17_1
                              try clear hcz17_2
                              try clear hcz17_3
                              try clear hcz17_4
                              try clear hcz17_5
                              try clear hcz20_0
                              try clear hcz20_1
                              try clear hcz20_2
                              try clear hcz20_3
                              try clear hcz20_4
                              try clear hcz20_5
                              try clear hcz25_0
                              try clear hcz25_1
                              try clear hcz25_2
                              try clear hcz25_3
                              try clear hcz25_4
                              try clear hcz25_5
                              try clear hcz28_0
                              try clear hcz28_1
                              try clear hcz28_2
                              try clear hcz28_3
                              try clear hcz28_4
                              try clear hcz28_5
                              try clear hcz7_0
                              try clear hcz7_1
                              try clear hcz7_2
                              try clear hcz7_3
                              try clear hcz7_4
                              try clear hcz7_5
                              try clear hcz9_0
                              try clear hcz9_1
                              try clear hcz9_2
                              try clear hcz9_3
                              try clear hcz9_4
                              try clear hcz9_5
                              try clear hfz11_0
                              try clear hfz11_1
                              try clear hfz11_2
                              try clear hfz11_3
                              try clear hfz11_4
                              try clear hfz11_5
                              try clear hfz14_0
                              try clear hfz14_1
                              try clear hfz14_2
                              try clear hfz14_3
                              try clear hfz14_4
                              try clear hfz14_5
                              try clear hfz16_0
                              try clear hfz16_1
                              try clear hfz16_2
                              try clear hfz16_3
                              try clear hfz16_4
                              try clear hfz16_5
                              try clear hfz17_0
                              try clear hfz17_1
                              try clear hfz17_2
                              try clear hfz17_3
                              try clear hfz17_4
                              try clear hfz17_5
                              try clear hfz20_0
                              try clear hfz20_1
                              try clear hfz20_2
                              try clear hfz20_3
                              try clear hfz20_4
                              try clear hfz20_5
                              try clear hfz25_0
                              try clear hfz25_1
                              try clear hfz25_2
                              try clear hfz25_3
                              try clear hfz25_4
                              try clear hfz25_5
                              try clear hfz28_0
                              try clear hfz28_1
                              try clear hfz28_2
                              try clear hfz28_3
                              try clear hfz28_4
                              try clear hfz28_5
                              try clear hfz7_0
                              try clear hfz7_1
                              try clear hfz7_2
                              try clear hfz7_3
                              try clear hfz7_4
                              try clear hfz7_5
                              try clear hfz9_0
                              try clear hfz9_1
                              try clear hfz9_2
                              try clear hfz9_3
                              try clear hfz9_4
                              try clear hfz9_5
                              try clear p2
                              try clear p6
                              obtain ⟨x3_5, x9_5, rfl, HA, HK5, HO_3, BK139, HB⟩ := hrel
                              cases gk with
                              | zero => exact absurd HA.out (by simp [withyref06_Words.l5])
                              | succ k5 =>
                                have H := HA.out
                                clear HA
                                simp only [withyref06_Words.l5] at H
                                replace H := Option.bind_eq_some_iff.mp H
                                obtain ⟨t161, A330, H⟩ := H
                                replace H : (if x9_5 < t161 then (if x3_5.length < 4398046511104 then (withyref06_Words.l5 k5 (x3_5 ++ [(⟨(⟨#[98, 111, 100, 121]⟩ : ByteArray), x8_4, x9_5⟩ : S91)]) x8_4 (wrap64 (x9_5 + 1)) a0_0 a0_1 a0_2 a0_3 a0_4 a0_5) else (none)) else (withyref06_Words.l4 k5 x3_5 (wrap64 (x8_4 + 1)) a0_0 a0_1 a0_2 a0_3 a0_4 a0_5)) = some r := H
                                have A33 := Aside0.mk A330
                                clear A330
                                by_cases c34 : x9_5 < t161
                                · rw [if_pos c34] at H
                                  have c34b0 : decide (x9_5 < t161) = true := decide_eq_true c34
                                  clear c34
                                  by_cases c35 : x3_5.length < 4398046511104
                                  · rw [if_pos c35] at H
                                    have LMc35 := Aside0.mk c35
                                    clear c35
                                    obtain ⟨y162, hy162⟩ : ∃ y_ : List (S91), y_ = (x3_5 ++ [(⟨(⟨#[98, 111, 100, 121]⟩ : ByteArray), x8_4, x9_5⟩ : S91)]) := ⟨_, rfl⟩
                                    replace H : (withyref06_Words.l5 k5 y162 x8_4 (wrap64 (x9_5 + 1)) a0_0 a0_1 a0_2 a0_3 a0_4 a0_5) = some r := by first | (rw [hy162]; with_reducible exact H) | (have H2_ := (Option.bind_some _ _).symm.trans H; rw [hy162]; with_reducible exact H2_) | (have H2_ := (Option.bind_some _ _).symm.trans H; with_reducible exact H2_) | with_reducible exact H | (rw [hy162]; exact H) | exact H
                                    have Ny162 := Aside0.mk hy162
                                    clear hy162
                                    have H' := Aside0.mk H
                                    clear H
                                    have hcz36_0 : wr.cell? ⟨gb139, 0, none⟩ = some (.int .i64 a0_0) := (blk_cell BK139.out 0).trans rfl
                                    have hcz36_1 : wr.cell? ⟨gb139, 1, none⟩ = some (.int .i64 a0_1) := (blk_cell BK139.out 1).trans rfl
                                    have hcz36_2 : wr.cell? ⟨gb139, 2, none⟩ = some (.int .i64 a0_2) := (blk_cell BK139.out 2).trans rfl
                                    have hcz36_3 : wr.cell? ⟨gb139, 3, none⟩ = some (.int .i64 a0_3) := (blk_cell BK139.out 3).trans rfl
                                    have hcz36_4 : wr.cell? ⟨gb139, 4, none⟩ = some (.int .i64 a0_4) := (blk_cell BK139.out 4).trans rfl
                                    have hcz36_5 : wr.cell? ⟨gb139, 5, none⟩ = some (.int .i64 a0_5) := (blk_cell BK139.out 5).trans rfl
                                    have hfz36_0 := blk_frozen BK139.out 0
                                    have hfz36_1 := blk_frozen BK139.out 1
                                    have hfz36_2 := blk_frozen BK139.out 2
                                    have hfz36_3 := blk_frozen BK139.out 3
                                    have hfz36_4 := blk_frozen BK139.out 4
                                    have hfz36_5 := blk_frozen BK139.out 5
                                    go_wp2_with (first | ((with_reducible refine gate_callee (f := 50) rfl ?_); refine goesL_ (some 72) rfl rfl Try.func50 (by kernel_rfl) rfl #[.agg #[.int .i64 a0_0, .int .i64 a0_1, .int .i64 a0_2, .int .i64 a0_3, .int .i64 a0_4, .int .i64 a0_5]] rfl (by (try simp only [List.map_toArray, List.map_cons, List.map_nil]); first | done | rfl | (simp only [List.length_drop, List.length_take]; rfl)) ?_; (with_reducible refine (withyref06_Room.calls a0_0 a0_1 a0_2 a0_3 a0_4 a0_5 t161 _ A33.out).mono ?_); rintro e w37 ⟨rfl, hb⟩; refine ⟨_, rfl, ?_⟩; have n0_ := Aside0.mk (Kd.R_below (by (with_reducible repeat (first | apply Kd.R_alloc | apply Kd.R_drewN | apply Kd.R_drew)); exact HO_3.out) hb); have n1_ := Aside0.mk (blk_below (g := gb139) (o := .cells #[.int .i64 a0_0, .int .i64 a0_1, .int .i64 a0_2, .int .i64 a0_3, .int .i64 a0_4, .int .i64 a0_5] 23 (0, 0)) (by (with_reducible repeat (first | refine blk_drewN ?_ _ | refine blk_drew ?_ | refine blk_alloc ?_ _)); exact BK139.out) hb); have n2_ := Aside0.mk (below_step (by repeat (first | (with_reducible first | exact HB.out | apply below_alloc | apply pw_below_drewN | apply below_drew1 | refine below_set ?_ GE139.out) | exact HB.out)) hb); clear HO_3; clear BK139; clear HB; have HO_3 := n0_; have BK139 := n1_; have HB := n2_; clear n0_ n1_ n2_; (try clear hb); (try clear hb2); (try clear hk); (try clear hi)) | ((with_reducible refine gate_builtin (b := .append) (xs := #[.tmp 76, .tmp 80]) rfl ?_); at_builtin; refine Kd.R_append k91 (w0 := w) w.heap.size rfl (.tmp 76) (.tmp 80) 114 91 (.agg #[(.string ⟨#[]⟩), (.int .i64 0), (.int .i64 0)]) 32 rfl Try.underlying114 info91 rfl (by decide) (by omega) u3 x3_5 (⟨(⟨#[98, 111, 100, 121]⟩ : ByteArray), x8_4, x9_5⟩ : S91) [.string (⟨#[98, 111, 100, 121]⟩ : ByteArray), .int .i64 x8_4, .int .i64 x9_5] (fun _ => True) (fun _ => False) rfl rfl ?aP (fun _ hk => hk.elim) ?aF ?aO ?aB ?aS ?aL ?_; (case aP => exact k91_mkM _ _ _ (⟨(⟨#[98, 111, 100, 121]⟩ : ByteArray), x8_4, x9_5⟩ : S91)); (case aB => exact (by repeat (first | (with_reducible first | exact HB.out | apply below_alloc | apply pw_below_drewN | apply below_drew1 | refine below_set ?_ GE139.out) | exact HB.out))); (case aF => exact (fun _ _ => trivial)); (case aO => exact (by (with_reducible repeat (first | apply Kd.R_alloc | apply Kd.R_drewN | apply Kd.R_drew)); exact HO_3.out)); (case aS => exact (below_size (by repeat (first | (with_reducible first | exact HB.out | apply below_alloc | apply pw_below_drewN | apply below_drew1 | refine below_set ?_ GE139.out) | exact HB.out)))); (case aL => have := LMc35.out; omega); intro v163 w38 ho hb hg hat; rw [← Ny162.out] at ho; have n0_ := Aside0.mk (blk_grown (g := gb139) (o := .cells #[.int .i64 a0_0, .int .i64 a0_1, .int .i64 a0_2, .int .i64 a0_3, .int .i64 a0_4, .int .i64 a0_5] 23 (0, 0)) (by (with_reducible repeat (first | refine blk_drewN ?_ _ | refine blk_drew ?_ | refine blk_alloc ?_ _)); exact BK139.out) hg (Kd.R_ne HO_3.out BK139.out (by decide))); have n1_ := Aside0.mk (hb); have n2_ := Aside0.mk (ho); clear BK139; clear HB; clear HO_3; have BK139 := n0_; have HB := n1_; have HO164 := n2_; clear n0_ n1_ n2_; clear ho hb hg hat))
                                    go_roundg k5
                                    case measure => have := HK1.out; have := HK2.out; have := HK3.out; have := HK4.out; have := HK5.out; omega
                                    case rel => exact ⟨(y162), (wrap64 (x9_5 + 1)), (by first | rfl | (simp; done) | (simp [*]; done)), H', ⟨by have := HK1.out; have := HK2.out; have := HK3.out; have := HK4.out; have := HK5.out; omega⟩, ⟨by (with_reducible repeat (first | apply Kd.R_alloc | apply Kd.R_drewN | apply Kd.R_drew)); exact HO164.out⟩, ⟨by (with_reducible repeat (first | refine blk_drewN ?_ _ | refine blk_drew ?_ | refine blk_alloc ?_ _)); exact BK139.out⟩, ⟨by repeat (first | (with_reducible first | exact HB.out | apply below_alloc | apply pw_below_drewN | apply below_drew1 | refine below_set ?_ GE139.out) | exact HB.out)⟩⟩
                                  · rw [if_neg c35] at H
                                    exact absurd H (by simp)
                                · rw [if_neg c34] at H
                                  have c34b0 : decide (x9_5 < t161) = false := decide_eq_false c34
                                  clear c34
                                  have H' := Aside0.mk H
                                  clear H
                                  have hcz39_0 : wr.cell? ⟨gb139, 0, none⟩ = some (.int .i64 a0_0) := (blk_cell BK139.out 0).trans rfl
                                  have hcz39_1 : wr.cell? ⟨gb139, 1, none⟩ = some (.int .i64 a0_1) := (blk_cell BK139.out 1).trans rfl
                                  have hcz39_2 : wr.cell? ⟨gb139, 2, none⟩ = some (.int .i64 a0_2) := (blk_cell BK139.out 2).trans rfl
                                  have hcz39_3 : wr.cell? ⟨gb139, 3, none⟩ = some (.int .i64 a0_3) := (blk_cell BK139.out 3).trans rfl
                                  have hcz39_4 : wr.cell? ⟨gb139, 4, none⟩ = some (.int .i64 a0_4) := (blk_cell BK139.out 4).trans rfl
                                  have hcz39_5 : wr.cell? ⟨gb139, 5, none⟩ = some (.int .i64 a0_5) := (blk_cell BK139.out 5).trans rfl
                                  have hfz39_0 := blk_frozen BK139.out 0
                                  have hfz39_1 := blk_frozen BK139.out 1
                                  have hfz39_2 := blk_frozen BK139.out 2
                                  have hfz39_3 := blk_frozen BK139.out 3
                                  have hfz39_4 := blk_frozen BK139.out 4
                                  have hfz39_5 := blk_frozen BK139.out 5
                                  go_wp2_with (first | ((with_reducible refine gate_callee (f := 50) rfl ?_); refine goesL_ (some 72) rfl rfl Try.func50 (by kernel_rfl) rfl #[.agg #[.int .i64 a0_0, .int .i64 a0_1, .int .i64 a0_2, .int .i64 a0_3, .int .i64 a0_4, .int .i64 a0_5]] rfl (by (try simp only [List.map_toArray, List.map_cons, List.map_nil]); first | done | rfl | (simp only [List.length_drop, List.length_take]; rfl)) ?_; (with_reducible refine (withyref06_Room.calls a0_0 a0_1 a0_2 a0_3 a0_4 a0_5 t161 _ A33.out).mono ?_); rintro e w40 ⟨rfl, hb⟩; refine ⟨_, rfl, ?_⟩; have n0_ := Aside0.mk (Kd.R_below (by (with_reducible repeat (first | apply Kd.R_alloc | apply Kd.R_drewN | apply Kd.R_drew)); exact HO_3.out) hb); have n1_ := Aside0.mk (blk_below (g := gb139) (o := .cells #[.int .i64 a0_0, .int .i64 a0_1, .int .i64 a0_2, .int .i64 a0_3, .int .i64 a0_4, .int .i64 a0_5] 23 (0, 0)) (by (with_reducible repeat (first | refine blk_drewN ?_ _ | refine blk_drew ?_ | refine blk_alloc ?_ _)); exact BK139.out) hb); have n2_ := Aside0.mk (below_step (by repeat (first | (with_reducible first | exact HB.out | apply below_alloc | apply pw_below_drewN | apply below_drew1 | refine below_set ?_ GE139.out) | exact HB.out)) hb); clear HO_3; clear BK139; clear HB; have HO_3 := n0_; have BK139 := n1_; have HB := n2_; clear n0_ n1_ n2_; (try clear hb); (try clear hb2); (try clear hk); (try clear hi)))
                                  go_roundg k5
                                  case measure => have := HK1.out; have := HK2.out; have := HK3.out; have := HK4.out; have := HK5.out; omega
                                  case rel => exact ⟨(x3_5), (wrap64 (x8_4 + 1)), (by first | rfl | (simp; done) | (simp [*]; done)), H', ⟨by have := HK1.out; have := HK2.out; have := HK3.out; have := HK4.out; have := HK5.out; omega⟩, ⟨by (with_reducible repeat (first | apply Kd.R_alloc | apply Kd.R_drewN | apply Kd.R_drew)); exact HO_3.out⟩, ⟨by (with_reducible repeat (first | refine blk_drewN ?_ _ | refine blk_drew ?_ | refine blk_alloc ?_ _)); exact BK139.out⟩, ⟨by repeat (first | (with_reducible first | exact HB.out | apply below_alloc | apply pw_below_drewN | apply below_drew1 | refine below_set ?_ GE139.out) | exact HB.out)⟩⟩
                          · rw [if_neg c27] at H
                            exact absurd H (by simp)
                        · rw [if_neg c26] at H
                          have c26b0 : decide (x8_4 < a0_0) = false := decide_eq_false c26
                          clear c26
                          obtain rfl := Option.some.inj H
                          have hcz41_0 : wr.cell? ⟨gb139, 0, none⟩ = some (.int .i64 a0_0) := (blk_cell BK139.out 0).trans rfl
                          have hcz41_1 : wr.cell? ⟨gb139, 1, none⟩ = some (.int .i64 a0_1) := (blk_cell BK139.out 1).trans rfl
                          have hcz41_2 : wr.cell? ⟨gb139, 2, none⟩ = some (.int .i64 a0_2) := (blk_cell BK139.out 2).trans rfl
                          have hcz41_3 : wr.cell? ⟨gb139, 3, none⟩ = some (.int .i64 a0_3) := (blk_cell BK139.out 3).trans rfl
                          have hcz41_4 : wr.cell? ⟨gb139, 4, none⟩ = some (.int .i64 a0_4) := (blk_cell BK139.out 4).trans rfl
                          have hcz41_5 : wr.cell? ⟨gb139, 5, none⟩ = some (.int .i64 a0_5) := (blk_cell BK139.out 5).trans rfl
                          have hfz41_0 := blk_frozen BK139.out 0
                          have hfz41_1 := blk_frozen BK139.out 1
                          have hfz41_2 := blk_frozen BK139.out 2
                          have hfz41_3 := blk_frozen BK139.out 3
                          have hfz41_4 := blk_frozen BK139.out 4
                          have hfz41_5 := blk_frozen BK139.out 5
                          go_wp2
                          go_ret
                          exact ⟨_, by first | rfl | (simp [errW_none, errW_some] <;> rfl) | (simp [*, errW_none, errW_some] <;> rfl), by (with_reducible repeat (first | apply Kd.R_alloc | apply Kd.R_drewN | apply Kd.R_drew)); exact HO_3.out, by repeat (first | (with_reducible first | exact HB.out | apply below_alloc | apply pw_below_drewN | apply below_drew1 | refine below_set ?_ GE139.out) | exact HB.out)⟩
end Go.Proofs.Ytijfkpoofpcacaa.PArenaPlays
end
section
namespace Go.Proofs.Ytijfkpoofpcacaa.PArenaPlays
open Go.RowKit Go.Proofs.YtijfkpoofpcacaaW.PrintWords Go.Proofs.YtijfkpoofpcacaaW.PrintLast Go.Proofs.YtijfkpoofpcacaaW.PrintMore
attribute [local go_sem] max2_int min2_int max_two min_two max_three min_three max_four min_four
set_option linter.unusedVariables false
set_option linter.unusedSimpArgs false
attribute [local go_sem high] eqA91
def withyref06_At.l0 : Nat → List (S91) → Int → ByteArray → Int → Int → Option (Int)
  | 0, _, _, _, _, _ => none
  | k + 1, x5, x6, x167000, x167001, x167002 => if x6 < (x5.length : Int) then (if 0 ≤ x6 then (if ((((rd_T91 x5 x6).f0).toList) == x167000.toList && (((rd_T91 x5 x6).f1) == x167001 && (((rd_T91 x5 x6).f2) == x167002))) = true then (some x6) else (withyref06_At.l0 k x5 (wrap64 (x6 + 1)) x167000 x167001 x167002)) else (none)) else (some (-1))
def withyref06_At.f (k : Nat) (a0_0 : Int) (a0_1 : Int) (a0_2 : Int) (a0_3 : Int) (a0_4 : Int) (a0_5 : Int) (a1_0 : ByteArray) (a1_1 : Int) (a1_2 : Int) : Option (Int) := (withyref06_Right.f a0_0 a0_1 a0_2 a0_3 a0_4 a0_5).bind fun t167 => (if t167 = true then ((withyref06_Words.f k a0_0 a0_1 a0_2 a0_3 a0_4 a0_5).bind fun t168 => (withyref06_At.l0 k t168 0 a1_0 a1_1 a1_2)) else (some (-1)))
set_option maxHeartbeats 8000000 in
set_option maxRecDepth 100000 in
theorem withyref06_At.calls (k : Nat) (a0_0 : Int) (a0_1 : Int) (a0_2 : Int) (a0_3 : Int) (a0_4 : Int) (a0_5 : Int) (a1_0 : ByteArray) (a1_1 : Int) (a1_2 : Int) (r : Int) (w : World) (h : withyref06_At.f k a0_0 a0_1 a0_2 a0_3 a0_4 a0_5 a1_0 a1_1 a1_2 = some r) :
    Calls Try.prog 56 #[.agg #[.int .i64 a0_0, .int .i64 a0_1, .int .i64 a0_2, .int .i64 a0_3, .int .i64 a0_4, .int .i64 a0_5], .agg #[.string a1_0, .int .i64 a1_1, .int .i64 a1_2]] w fun e w' => e = .returned (.int .i64 r) ∧ Below w.heap.size w w' := by
  have hu23 := Try.underlying23
  have hu91 := Try.underlying91
  have HB := Aside0.mk (Below.refl w.heap.size w)
  have H : ((withyref06_Right.f a0_0 a0_1 a0_2 a0_3 a0_4 a0_5).bind fun t167 => (if t167 = true then ((withyref06_Words.f k a0_0 a0_1 a0_2 a0_3 a0_4 a0_5).bind fun t168 => (withyref06_At.l0 k t168 0 a1_0 a1_1 a1_2)) else (some (-1)))) = some r := h
  clear h
  replace H := Option.bind_eq_some_iff.mp H
  obtain ⟨t167, A30, H⟩ := H
  replace H : (if t167 = true then ((withyref06_Words.f k a0_0 a0_1 a0_2 a0_3 a0_4 a0_5).bind fun t168 => (withyref06_At.l0 k t168 0 a1_0 a1_1 a1_2)) else (some (-1))) = some r := H
  have A3 := Aside0.mk A30
  clear A30
  by_cases c4 : t167 = true
  · subst c4
    have H1 : ((withyref06_Words.f k a0_0 a0_1 a0_2 a0_3 a0_4 a0_5).bind fun t168 => (withyref06_At.l0 k t168 0 a1_0 a1_1 a1_2)) = some r := by rw [if_pos rfl] at H; exact H
    clear H
    have H := H1
    clear H1
    replace H := Option.bind_eq_some_iff.mp H
    obtain ⟨t168, A50, H⟩ := H
    replace H : (withyref06_At.l0 k t168 0 a1_0 a1_1 a1_2) = some r := H
    have A5 := Aside0.mk A50
    clear A50
    have H' := Aside0.mk H
    clear H
    go_enter Try.func56, Try.ntmps56
    go_wp2_with (first | ((with_reducible refine gate_dst (N := 2) rfl ?_); refine box_event ?hg (N := 2) ?hd (cs := #[.int .i64 a0_0, .int .i64 a0_1, .int .i64 a0_2, .int .i64 a0_3, .int .i64 a0_4, .int .i64 a0_5]) (t := 23) ?hr ?_; (case hd => rfl); (case hg => rfl); (case hr => first | (go_simp; done) | (go_simp; rfl)); intro gb165 hg w6 hbox hb; have n0_ := Aside0.mk (below_step (by repeat (first | (with_reducible first | exact HB.out | apply below_alloc | apply pw_below_drewN | apply below_drew1) | exact HB.out)) hb); have n1_ := Aside0.mk (hbox); have n2_ := Aside0.mk ((by rw [hg]; exact (below_size (by repeat (first | (with_reducible first | exact HB.out | apply below_alloc | apply pw_below_drewN | apply below_drew1) | exact HB.out))) : w.heap.size ≤ gb165)); have n3_ := Aside0.mk ((by rw [hg]; exact (below_size (by repeat (first | (with_reducible first | exact HB.out | apply below_alloc | apply pw_below_drewN | apply below_drew1) | exact HB.out))) : w.heap.size ≤ gb165)); clear HB; have HB := n0_; have BK165 := n1_; have GW165 := n2_; have GE165 := n3_; clear n0_ n1_ n2_ n3_; clear hb hbox hg) | ((with_reducible refine gate_dst (N := 3) rfl ?_); refine box_event ?hg (N := 3) ?hd (cs := #[.string a1_0, .int .i64 a1_1, .int .i64 a1_2]) (t := 91) ?hr ?_; (case hd => rfl); (case hg => rfl); (case hr => first | (go_simp; done) | (go_simp; rfl)); intro gb166 hg w7 hbox hb; have n0_ := Aside0.mk (blk_below (g := gb165) (o := .cells #[.int .i64 a0_0, .int .i64 a0_1, .int .i64 a0_2, .int .i64 a0_3, .int .i64 a0_4, .int .i64 a0_5] 23 (0, 0)) (by (with_reducible repeat (first | refine blk_drewN ?_ _ | refine blk_drew ?_ | refine blk_alloc ?_ _)); exact BK165.out) hb); have n1_ := Aside0.mk (below_step (by repeat (first | (with_reducible first | exact HB.out | apply below_alloc | apply pw_below_drewN | apply below_drew1 | refine below_set ?_ GE165.out) | exact HB.out)) hb); have n2_ := Aside0.mk (hbox); have n3_ := Aside0.mk ((by rw [hg]; exact (below_size (by repeat (first | (with_reducible first | exact HB.out | apply below_alloc | apply pw_below_drewN | apply below_drew1 | refine below_set ?_ GE165.out) | exact HB.out))) : w.heap.size ≤ gb166)); have n4_ := Aside0.mk ((by rw [hg]; exact (below_size (by repeat (first | (with_reducible first | exact HB.out | apply below_alloc | apply pw_below_drewN | apply below_drew1 | refine below_set ?_ GE165.out) | exact HB.out))) : w.heap.size ≤ gb166)); have n5_ := Aside0.mk ((by rw [hg]; exact Nat.ne_of_lt (blk_lt (g := gb165) (o := .cells #[.int .i64 a0_0, .int .i64 a0_1, .int .i64 a0_2, .int .i64 a0_3, .int .i64 a0_4, .int .i64 a0_5] 23 (0, 0)) (by (with_reducible repeat (first | refine blk_drewN ?_ _ | refine blk_drew ?_ | refine blk_alloc ?_ _)); exact BK165.out)) : gb165 ≠ gb166)); have n6_ := Aside0.mk ((by rw [hg]; exact Nat.ne_of_gt (blk_lt (g := gb165) (o := .cells #[.int .i64 a0_0, .int .i64 a0_1, .int .i64 a0_2, .int .i64 a0_3, .int .i64 a0_4, .int .i64 a0_5] 23 (0, 0)) (by (with_reducible repeat (first | refine blk_drewN ?_ _ | refine blk_drew ?_ | refine blk_alloc ?_ _)); exact BK165.out)) : gb166 ≠ gb165)); clear BK165; clear HB; have BK165 := n0_; have HB := n1_; have BK166 := n2_; have GW166 := n3_; have GE166 := n4_; have NB165_166 := n5_; have NB166_165 := n6_; clear n0_ n1_ n2_ n3_ n4_ n5_ n6_; clear hb hbox hg; have hnb8 := NB165_166.out; have hnc8 := NB166_165.out; have hcz9_0 : w7.cell? ⟨gb165, 0, none⟩ = some (.int .i64 a0_0) := (blk_cell BK165.out 0).trans rfl; have hcz9_1 : w7.cell? ⟨gb165, 1, none⟩ = some (.int .i64 a0_1) := (blk_cell BK165.out 1).trans rfl; have hcz9_2 : w7.cell? ⟨gb165, 2, none⟩ = some (.int .i64 a0_2) := (blk_cell BK165.out 2).trans rfl; have hcz9_3 : w7.cell? ⟨gb165, 3, none⟩ = some (.int .i64 a0_3) := (blk_cell BK165.out 3).trans rfl; have hcz9_4 : w7.cell? ⟨gb165, 4, none⟩ = some (.int .i64 a0_4) := (blk_cell BK165.out 4).trans rfl; have hcz9_5 : w7.cell? ⟨gb165, 5, none⟩ = some (.int .i64 a0_5) := (blk_cell BK165.out 5).trans rfl; have hfz9_0 := blk_frozen BK165.out 0; have hfz9_1 := blk_frozen BK165.out 1; have hfz9_2 := blk_frozen BK165.out 2; have hfz9_3 := blk_frozen BK165.out 3; have hfz9_4 := blk_frozen BK165.out 4; have hfz9_5 := blk_frozen BK165.out 5) | (go_at_call 21; (with_reducible refine (withyref06_Right.calls a0_0 a0_1 a0_2 a0_3 a0_4 a0_5 true _ A3.out).mono ?_); rintro e w10 ⟨rfl, hb⟩; have n0_ := Aside0.mk (blk_below (g := gb165) (o := .cells #[.int .i64 a0_0, .int .i64 a0_1, .int .i64 a0_2, .int .i64 a0_3, .int .i64 a0_4, .int .i64 a0_5] 23 (0, 0)) (by (with_reducible repeat (first | refine blk_drewN ?_ _ | refine blk_drew ?_ | refine blk_alloc ?_ _)); exact BK165.out) hb); have n1_ := Aside0.mk (blk_below (g := gb166) (o := .cells #[.string a1_0, .int .i64 a1_1, .int .i64 a1_2] 91 (0, 0)) (by (with_reducible repeat (first | refine blk_drewN ?_ _ | refine blk_drew ?_ | refine blk_alloc ?_ _)); exact BK166.out) hb); have n2_ := Aside0.mk (below_step (by repeat (first | (with_reducible first | exact HB.out | apply below_alloc | apply pw_below_drewN | apply below_drew1 | refine below_set ?_ GE165.out | refine below_set ?_ GE166.out) | exact HB.out)) hb); clear BK165; clear BK166; clear HB; have BK165 := n0_; have BK166 := n1_; have HB := n2_; clear n0_ n1_ n2_; (try clear hb); (try clear hb2); (try clear hk); (try clear hi); have hcz11_0 : w10.cell? ⟨gb165, 0, none⟩ = some (.int .i64 a0_0) := (blk_cell BK165.out 0).trans rfl; have hcz11_1 : w10.cell? ⟨gb165, 1, none⟩ = some (.int .i64 a0_1) := (blk_cell BK165.out 1).trans rfl; have hcz11_2 : w10.cell? ⟨gb165, 2, none⟩ = some (.int .i64 a0_2) := (blk_cell BK165.out 2).trans rfl; have hcz11_3 : w10.cell? ⟨gb165, 3, none⟩ = some (.int .i64 a0_3) := (blk_cell BK165.out 3).trans rfl; have hcz11_4 : w10.cell? ⟨gb165, 4, none⟩ = some (.int .i64 a0_4) := (blk_cell BK165.out 4).trans rfl; have hcz11_5 : w10.cell? ⟨gb165, 5, none⟩ = some (.int .i64 a0_5) := (blk_cell BK165.out 5).trans rfl; have hfz11_0 := blk_frozen BK165.out 0; have hfz11_1 := blk_frozen BK165.out 1; have hfz11_2 := blk_frozen BK165.out 2; have hfz11_3 := blk_frozen BK165.out 3; have hfz11_4 := blk_frozen BK165.out 4; have hfz11_5 := blk_frozen BK165.out 5) | (go_at_call 65; (with_reducible refine (withyref06_Words.calls k a0_0 a0_1 a0_2 a0_3 a0_4 a0_5 t168 _ A5.out).mono ?_); rintro e w12 ⟨v169, rfl, ho0, hb⟩; have n0_ := Aside0.mk (Kd.R_lower (Kd.R_newB ho0 (g := gb166) (o := .cells #[.string a1_0, .int .i64 a1_1, .int .i64 a1_2] 91 (0, 0)) (by (with_reducible repeat (first | refine blk_drewN ?_ _ | refine blk_drew ?_ | refine blk_alloc ?_ _)); exact BK166.out)) (below_size (by repeat (first | (with_reducible first | exact HB.out | apply below_alloc | apply pw_below_drewN | apply below_drew1 | refine below_set ?_ GE165.out | refine below_set ?_ GE166.out) | exact HB.out)))); have n1_ := Aside0.mk (blk_below (g := gb165) (o := .cells #[.int .i64 a0_0, .int .i64 a0_1, .int .i64 a0_2, .int .i64 a0_3, .int .i64 a0_4, .int .i64 a0_5] 23 (0, 0)) (by (with_reducible repeat (first | refine blk_drewN ?_ _ | refine blk_drew ?_ | refine blk_alloc ?_ _)); exact BK165.out) hb); have n2_ := Aside0.mk (blk_below (g := gb166) (o := .cells #[.string a1_0, .int .i64 a1_1, .int .i64 a1_2] 91 (0, 0)) (by (with_reducible repeat (first | refine blk_drewN ?_ _ | refine blk_drew ?_ | refine blk_alloc ?_ _)); exact BK166.out) hb); have n3_ := Aside0.mk (below_step (by repeat (first | (with_reducible first | exact HB.out | apply below_alloc | apply pw_below_drewN | apply below_drew1 | refine below_set ?_ GE165.out | refine below_set ?_ GE166.out) | exact HB.out)) hb); clear BK165; clear BK166; clear HB; have HO170 := n0_; have BK165 := n1_; have BK166 := n2_; have HB := n3_; clear n0_ n1_ n2_ n3_; (try clear hb); (try clear hb2); (try clear hk); (try clear hi); (try clear ho0)))
    repeat (go_quiet (first | ((with_reducible refine gate_dst (N := 2) rfl ?_); refine box_event ?hg (N := 2) ?hd (cs := #[.int .i64 a0_0, .int .i64 a0_1, .int .i64 a0_2, .int .i64 a0_3, .int .i64 a0_4, .int .i64 a0_5]) (t := 23) ?hr ?_; (case hd => rfl); (case hg => rfl); (case hr => first | (go_simp; done) | (go_simp; rfl)); intro gb165 hg w6 hbox hb; have n0_ := Aside0.mk (below_step (by repeat (first | (with_reducible first | exact HB.out | apply below_alloc | apply pw_below_drewN | apply below_drew1) | exact HB.out)) hb); have n1_ := Aside0.mk (hbox); have n2_ := Aside0.mk ((by rw [hg]; exact (below_size (by repeat (first | (with_reducible first | exact HB.out | apply below_alloc | apply pw_below_drewN | apply below_drew1) | exact HB.out))) : w.heap.size ≤ gb165)); have n3_ := Aside0.mk ((by rw [hg]; exact (below_size (by repeat (first | (with_reducible first | exact HB.out | apply below_alloc | apply pw_below_drewN | apply below_drew1) | exact HB.out))) : w.heap.size ≤ gb165)); clear HB; have HB := n0_; have BK165 := n1_; have GW165 := n2_; have GE165 := n3_; clear n0_ n1_ n2_ n3_; clear hb hbox hg) | ((with_reducible refine gate_dst (N := 3) rfl ?_); refine box_event ?hg (N := 3) ?hd (cs := #[.string a1_0, .int .i64 a1_1, .int .i64 a1_2]) (t := 91) ?hr ?_; (case hd => rfl); (case hg => rfl); (case hr => first | (go_simp; done) | (go_simp; rfl)); intro gb166 hg w7 hbox hb; have n0_ := Aside0.mk (blk_below (g := gb165) (o := .cells #[.int .i64 a0_0, .int .i64 a0_1, .int .i64 a0_2, .int .i64 a0_3, .int .i64 a0_4, .int .i64 a0_5] 23 (0, 0)) (by (with_reducible repeat (first | refine blk_drewN ?_ _ | refine blk_drew ?_ | refine blk_alloc ?_ _)); exact BK165.out) hb); have n1_ := Aside0.mk (below_step (by repeat (first | (with_reducible first | exact HB.out | apply below_alloc | apply pw_below_drewN | apply below_drew1 | refine below_set ?_ GE165.out) | exact HB.out)) hb); have n2_ := Aside0.mk (hbox); have n3_ := Aside0.mk ((by rw [hg]; exact (below_size (by repeat (first | (with_reducible first | exact HB.out | apply below_alloc | apply pw_below_drewN | apply below_drew1 | refine below_set ?_ GE165.out) | exact HB.out))) : w.heap.size ≤ gb166)); have n4_ := Aside0.mk ((by rw [hg]; exact (below_size (by repeat (first | (with_reducible first | exact HB.out | apply below_alloc | apply pw_below_drewN | apply below_drew1 | refine below_set ?_ GE165.out) | exact HB.out))) : w.heap.size ≤ gb166)); have n5_ := Aside0.mk ((by rw [hg]; exact Nat.ne_of_lt (blk_lt (g := gb165) (o := .cells #[.int .i64 a0_0, .int .i64 a0_1, .int .i64 a0_2, .int .i64 a0_3, .int .i64 a0_4, .int .i64 a0_5] 23 (0, 0)) (by (with_reducible repeat (first | refine blk_drewN ?_ _ | refine blk_drew ?_ | refine blk_alloc ?_ _)); exact BK165.out)) : gb165 ≠ gb166)); have n6_ := Aside0.mk ((by rw [hg]; exact Nat.ne_of_gt (blk_lt (g := gb165) (o := .cells #[.int .i64 a0_0, .int .i64 a0_1, .int .i64 a0_2, .int .i64 a0_3, .int .i64 a0_4, .int .i64 a0_5] 23 (0, 0)) (by (with_reducible repeat (first | refine blk_drewN ?_ _ | refine blk_drew ?_ | refine blk_alloc ?_ _)); exact BK165.out)) : gb166 ≠ gb165)); clear BK165; clear HB; have BK165 := n0_; have HB := n1_; have BK166 := n2_; have GW166 := n3_; have GE166 := n4_; have NB165_166 := n5_; have NB166_165 := n6_; clear n0_ n1_ n2_ n3_ n4_ n5_ n6_; clear hb hbox hg; have hnb8 := NB165_166.out; have hnc8 := NB166_165.out; have hcz9_0 : w7.cell? ⟨gb165, 0, none⟩ = some (.int .i64 a0_0) := (blk_cell BK165.out 0).trans rfl; have hcz9_1 : w7.cell? ⟨gb165, 1, none⟩ = some (.int .i64 a0_1) := (blk_cell BK165.out 1).trans rfl; have hcz9_2 : w7.cell? ⟨gb165, 2, none⟩ = some (.int .i64 a0_2) := (blk_cell BK165.out 2).trans rfl; have hcz9_3 : w7.cell? ⟨gb165, 3, none⟩ = some (.int .i64 a0_3) := (blk_cell BK165.out 3).trans rfl; have hcz9_4 : w7.cell? ⟨gb165, 4, none⟩ = some (.int .i64 a0_4) := (blk_cell BK165.out 4).trans rfl; have hcz9_5 : w7.cell? ⟨gb165, 5, none⟩ = some (.int .i64 a0_5) := (blk_cell BK165.out 5).trans rfl; have hfz9_0 := blk_frozen BK165.out 0; have hfz9_1 := blk_frozen BK165.out 1; have hfz9_2 := blk_frozen BK165.out 2; have hfz9_3 := blk_frozen BK165.out 3; have hfz9_4 := blk_frozen BK165.out 4; have hfz9_5 := blk_frozen BK165.out 5) | (go_at_call 21; (with_reducible refine (withyref06_Right.calls a0_0 a0_1 a0_2 a0_3 a0_4 a0_5 true _ A3.out).mono ?_); rintro e w10 ⟨rfl, hb⟩; have n0_ := Aside0.mk (blk_below (g := gb165) (o := .cells #[.int .i64 a0_0, .int .i64 a0_1, .int .i64 a0_2, .int .i64 a0_3, .int .i64 a0_4, .int .i64 a0_5] 23 (0, 0)) (by (with_reducible repeat (first | refine blk_drewN ?_ _ | refine blk_drew ?_ | refine blk_alloc ?_ _)); exact BK165.out) hb); have n1_ := Aside0.mk (blk_below (g := gb166) (o := .cells #[.string a1_0, .int .i64 a1_1, .int .i64 a1_2] 91 (0, 0)) (by (with_reducible repeat (first | refine blk_drewN ?_ _ | refine blk_drew ?_ | refine blk_alloc ?_ _)); exact BK166.out) hb); have n2_ := Aside0.mk (below_step (by repeat (first | (with_reducible first | exact HB.out | apply below_alloc | apply pw_below_drewN | apply below_drew1 | refine below_set ?_ GE165.out | refine below_set ?_ GE166.out) | exact HB.out)) hb); clear BK165; clear BK166; clear HB; have BK165 := n0_; have BK166 := n1_; have HB := n2_; clear n0_ n1_ n2_; (try clear hb); (try clear hb2); (try clear hk); (try clear hi); have hcz11_0 : w10.cell? ⟨gb165, 0, none⟩ = some (.int .i64 a0_0) := (blk_cell BK165.out 0).trans rfl; have hcz11_1 : w10.cell? ⟨gb165, 1, none⟩ = some (.int .i64 a0_1) := (blk_cell BK165.out 1).trans rfl; have hcz11_2 : w10.cell? ⟨gb165, 2, none⟩ = some (.int .i64 a0_2) := (blk_cell BK165.out 2).trans rfl; have hcz11_3 : w10.cell? ⟨gb165, 3, none⟩ = some (.int .i64 a0_3) := (blk_cell BK165.out 3).trans rfl; have hcz11_4 : w10.cell? ⟨gb165, 4, none⟩ = some (.int .i64 a0_4) := (blk_cell BK165.out 4).trans rfl; have hcz11_5 : w10.cell? ⟨gb165, 5, none⟩ = some (.int .i64 a0_5) := (blk_cell BK165.out 5).trans rfl; have hfz11_0 := blk_frozen BK165.out 0; have hfz11_1 := blk_frozen BK165.out 1; have hfz11_2 := blk_frozen BK165.out 2; have hfz11_3 := blk_frozen BK165.out 3; have hfz11_4 := blk_frozen BK165.out 4; have hfz11_5 := blk_frozen BK165.out 5) | (go_at_call 65; (with_reducible refine (withyref06_Words.calls k a0_0 a0_1 a0_2 a0_3 a0_4 a0_5 t168 _ A5.out).mono ?_); rintro e w12 ⟨v169, rfl, ho0, hb⟩; have n0_ := Aside0.mk (Kd.R_lower (Kd.R_newB ho0 (g := gb166) (o := .cells #[.string a1_0, .int .i64 a1_1, .int .i64 a1_2] 91 (0, 0)) (by (with_reducible repeat (first | refine blk_drewN ?_ _ | refine blk_drew ?_ | refine blk_alloc ?_ _)); exact BK166.out)) (below_size (by repeat (first | (with_reducible first | exact HB.out | apply below_alloc | apply pw_below_drewN | apply below_drew1 | refine below_set ?_ GE165.out | refine below_set ?_ GE166.out) | exact HB.out)))); have n1_ := Aside0.mk (blk_below (g := gb165) (o := .cells #[.int .i64 a0_0, .int .i64 a0_1, .int .i64 a0_2, .int .i64 a0_3, .int .i64 a0_4, .int .i64 a0_5] 23 (0, 0)) (by (with_reducible repeat (first | refine blk_drewN ?_ _ | refine blk_drew ?_ | refine blk_alloc ?_ _)); exact BK165.out) hb); have n2_ := Aside0.mk (blk_below (g := gb166) (o := .cells #[.string a1_0, .int .i64 a1_1, .int .i64 a1_2] 91 (0, 0)) (by (with_reducible repeat (first | refine blk_drewN ?_ _ | refine blk_drew ?_ | refine blk_alloc ?_ _)); exact BK166.out) hb); have n3_ := Aside0.mk (below_step (by repeat (first | (with_reducible first | exact HB.out | apply below_alloc | apply pw_below_drewN | apply below_drew1 | refine below_set ?_ GE165.out | refine below_set ?_ GE166.out) | exact HB.out)) hb); clear BK165; clear BK166; clear HB; have HO170 := n0_; have BK165 := n1_; have BK166 := n2_; have HB := n3_; clear n0_ n1_ n2_ n3_; (try clear hb); (try clear hb2); (try clear hk); (try clear hi); (try clear ho0))); try go_wp2_with (first | ((with_reducible refine gate_dst (N := 2) rfl ?_); refine box_event ?hg (N := 2) ?hd (cs := #[.int .i64 a0_0, .int .i64 a0_1, .int .i64 a0_2, .int .i64 a0_3, .int .i64 a0_4, .int .i64 a0_5]) (t := 23) ?hr ?_; (case hd => rfl); (case hg => rfl); (case hr => first | (go_simp; done) | (go_simp; rfl)); intro gb165 hg w6 hbox hb; have n0_ := Aside0.mk (below_step (by repeat (first | (with_reducible first | exact HB.out | apply below_alloc | apply pw_below_drewN | apply below_drew1) | exact HB.out)) hb); have n1_ := Aside0.mk (hbox); have n2_ := Aside0.mk ((by rw [hg]; exact (below_size (by repeat (first | (with_reducible first | exact HB.out | apply below_alloc | apply pw_below_drewN | apply below_drew1) | exact HB.out))) : w.heap.size ≤ gb165)); have n3_ := Aside0.mk ((by rw [hg]; exact (below_size (by repeat (first | (with_reducible first | exact HB.out | apply below_alloc | apply pw_below_drewN | apply below_drew1) | exact HB.out))) : w.heap.size ≤ gb165)); clear HB; have HB := n0_; have BK165 := n1_; have GW165 := n2_; have GE165 := n3_; clear n0_ n1_ n2_ n3_; clear hb hbox hg) | ((with_reducible refine gate_dst (N := 3) rfl ?_); refine box_event ?hg (N := 3) ?hd (cs := #[.string a1_0, .int .i64 a1_1, .int .i64 a1_2]) (t := 91) ?hr ?_; (case hd => rfl); (case hg => rfl); (case hr => first | (go_simp; done) | (go_simp; rfl)); intro gb166 hg w7 hbox hb; have n0_ := Aside0.mk (blk_below (g := gb165) (o := .cells #[.int .i64 a0_0, .int .i64 a0_1, .int .i64 a0_2, .int .i64 a0_3, .int .i64 a0_4, .int .i64 a0_5] 23 (0, 0)) (by (with_reducible repeat (first | refine blk_drewN ?_ _ | refine blk_drew ?_ | refine blk_alloc ?_ _)); exact BK165.out) hb); have n1_ := Aside0.mk (below_step (by repeat (first | (with_reducible first | exact HB.out | apply below_alloc | apply pw_below_drewN | apply below_drew1 | refine below_set ?_ GE165.out) | exact HB.out)) hb); have n2_ := Aside0.mk (hbox); have n3_ := Aside0.mk ((by rw [hg]; exact (below_size (by repeat (first | (with_reducible first | exact HB.out | apply below_alloc | apply pw_below_drewN | apply below_drew1 | refine below_set ?_ GE165.out) | exact HB.out))) : w.heap.size ≤ gb166)); have n4_ := Aside0.mk ((by rw [hg]; exact (below_size (by repeat (first | (with_reducible first | exact HB.out | apply below_alloc | apply pw_below_drewN | apply below_drew1 | refine below_set ?_ GE165.out) | exact HB.out))) : w.heap.size ≤ gb166)); have n5_ := Aside0.mk ((by rw [hg]; exact Nat.ne_of_lt (blk_lt (g := gb165) (o := .cells #[.int .i64 a0_0, .int .i64 a0_1, .int .i64 a0_2, .int .i64 a0_3, .int .i64 a0_4, .int .i64 a0_5] 23 (0, 0)) (by (with_reducible repeat (first | refine blk_drewN ?_ _ | refine blk_drew ?_ | refine blk_alloc ?_ _)); exact BK165.out)) : gb165 ≠ gb166)); have n6_ := Aside0.mk ((by rw [hg]; exact Nat.ne_of_gt (blk_lt (g := gb165) (o := .cells #[.int .i64 a0_0, .int .i64 a0_1, .int .i64 a0_2, .int .i64 a0_3, .int .i64 a0_4, .int .i64 a0_5] 23 (0, 0)) (by (with_reducible repeat (first | refine blk_drewN ?_ _ | refine blk_drew ?_ | refine blk_alloc ?_ _)); exact BK165.out)) : gb166 ≠ gb165)); clear BK165; clear HB; have BK165 := n0_; have HB := n1_; have BK166 := n2_; have GW166 := n3_; have GE166 := n4_; have NB165_166 := n5_; have NB166_165 := n6_; clear n0_ n1_ n2_ n3_ n4_ n5_ n6_; clear hb hbox hg; have hnb8 := NB165_166.out; have hnc8 := NB166_165.out; have hcz9_0 : w7.cell? ⟨gb165, 0, none⟩ = some (.int .i64 a0_0) := (blk_cell BK165.out 0).trans rfl; have hcz9_1 : w7.cell? ⟨gb165, 1, none⟩ = some (.int .i64 a0_1) := (blk_cell BK165.out 1).trans rfl; have hcz9_2 : w7.cell? ⟨gb165, 2, none⟩ = some (.int .i64 a0_2) := (blk_cell BK165.out 2).trans rfl; have hcz9_3 : w7.cell? ⟨gb165, 3, none⟩ = some (.int .i64 a0_3) := (blk_cell BK165.out 3).trans rfl; have hcz9_4 : w7.cell? ⟨gb165, 4, none⟩ = some (.int .i64 a0_4) := (blk_cell BK165.out 4).trans rfl; have hcz9_5 : w7.cell? ⟨gb165, 5, none⟩ = some (.int .i64 a0_5) := (blk_cell BK165.out 5).trans rfl; have hfz9_0 := blk_frozen BK165.out 0; have hfz9_1 := blk_frozen BK165.out 1; have hfz9_2 := blk_frozen BK165.out 2; have hfz9_3 := blk_frozen BK165.out 3; have hfz9_4 := blk_frozen BK165.out 4; have hfz9_5 := blk_frozen BK165.out 5) | (go_at_call 21; (with_reducible refine (withyref06_Right.calls a0_0 a0_1 a0_2 a0_3 a0_4 a0_5 true _ A3.out).mono ?_); rintro e w10 ⟨rfl, hb⟩; have n0_ := Aside0.mk (blk_below (g := gb165) (o := .cells #[.int .i64 a0_0, .int .i64 a0_1, .int .i64 a0_2, .int .i64 a0_3, .int .i64 a0_4, .int .i64 a0_5] 23 (0, 0)) (by (with_reducible repeat (first | refine blk_drewN ?_ _ | refine blk_drew ?_ | refine blk_alloc ?_ _)); exact BK165.out) hb); have n1_ := Aside0.mk (blk_below (g := gb166) (o := .cells #[.string a1_0, .int .i64 a1_1, .int .i64 a1_2] 91 (0, 0)) (by (with_reducible repeat (first | refine blk_drewN ?_ _ | refine blk_drew ?_ | refine blk_alloc ?_ _)); exact BK166.out) hb); have n2_ := Aside0.mk (below_step (by repeat (first | (with_reducible first | exact HB.out | apply below_alloc | apply pw_below_drewN | apply below_drew1 | refine below_set ?_ GE165.out | refine below_set ?_ GE166.out) | exact HB.out)) hb); clear BK165; clear BK166; clear HB; have BK165 := n0_; have BK166 := n1_; have HB := n2_; clear n0_ n1_ n2_; (try clear hb); (try clear hb2); (try clear hk); (try clear hi); have hcz11_0 : w10.cell? ⟨gb165, 0, none⟩ = some (.int .i64 a0_0) := (blk_cell BK165.out 0).trans rfl; have hcz11_1 : w10.cell? ⟨gb165, 1, none⟩ = some (.int .i64 a0_1) := (blk_cell BK165.out 1).trans rfl; have hcz11_2 : w10.cell? ⟨gb165, 2, none⟩ = some (.int .i64 a0_2) := (blk_cell BK165.out 2).trans rfl; have hcz11_3 : w10.cell? ⟨gb165, 3, none⟩ = some (.int .i64 a0_3) := (blk_cell BK165.out 3).trans rfl; have hcz11_4 : w10.cell? ⟨gb165, 4, none⟩ = some (.int .i64 a0_4) := (blk_cell BK165.out 4).trans rfl; have hcz11_5 : w10.cell? ⟨gb165, 5, none⟩ = some (.int .i64 a0_5) := (blk_cell BK165.out 5).trans rfl; have hfz11_0 := blk_frozen BK165.out 0; have hfz11_1 := blk_frozen BK165.out 1; have hfz11_2 := blk_frozen BK165.out 2; have hfz11_3 := blk_frozen BK165.out 3; have hfz11_4 := blk_frozen BK165.out 4; have hfz11_5 := blk_frozen BK165.out 5) | (go_at_call 65; (with_reducible refine (withyref06_Words.calls k a0_0 a0_1 a0_2 a0_3 a0_4 a0_5 t168 _ A5.out).mono ?_); rintro e w12 ⟨v169, rfl, ho0, hb⟩; have n0_ := Aside0.mk (Kd.R_lower (Kd.R_newB ho0 (g := gb166) (o := .cells #[.string a1_0, .int .i64 a1_1, .int .i64 a1_2] 91 (0, 0)) (by (with_reducible repeat (first | refine blk_drewN ?_ _ | refine blk_drew ?_ | refine blk_alloc ?_ _)); exact BK166.out)) (below_size (by repeat (first | (with_reducible first | exact HB.out | apply below_alloc | apply pw_below_drewN | apply below_drew1 | refine below_set ?_ GE165.out | refine below_set ?_ GE166.out) | exact HB.out)))); have n1_ := Aside0.mk (blk_below (g := gb165) (o := .cells #[.int .i64 a0_0, .int .i64 a0_1, .int .i64 a0_2, .int .i64 a0_3, .int .i64 a0_4, .int .i64 a0_5] 23 (0, 0)) (by (with_reducible repeat (first | refine blk_drewN ?_ _ | refine blk_drew ?_ | refine blk_alloc ?_ _)); exact BK165.out) hb); have n2_ := Aside0.mk (blk_below (g := gb166) (o := .cells #[.string a1_0, .int .i64 a1_1, .int .i64 a1_2] 91 (0, 0)) (by (with_reducible repeat (first | refine blk_drewN ?_ _ | refine blk_drew ?_ | refine blk_alloc ?_ _)); exact BK166.out) hb); have n3_ := Aside0.mk (below_step (by repeat (first | (with_reducible first | exact HB.out | apply below_alloc | apply pw_below_drewN | apply below_drew1 | refine below_set ?_ GE165.out | refine below_set ?_ GE166.out) | exact HB.out)) hb); clear BK165; clear BK166; clear HB; have HO170 := n0_; have BK165 := n1_; have BK166 := n2_; have HB := n3_; clear n0_ n1_ n2_ n3_; (try clear hb); (try clear hb2); (try clear hk); (try clear hi); (try clear ho0))))
    go_loopg [6] k (fun kq v6 w' => ∃ (x6_1 : Int), v6 = .int .i64 x6_1 ∧ Aside0 (withyref06_At.l0 kq t168 x6_1 a1_0 a1_1 a1_2 = some r) ∧ Aside0 (kq ≤ k) ∧ Aside0 (Kd.R k91 91 w' w.heap.size (fun k_ => k_ ≠ gb166) v169 t168) ∧ Aside0 (w'.heap[gb165]? = some (.cells #[.int .i64 a0_0, .int .i64 a0_1, .int .i64 a0_2, .int .i64 a0_3, .int .i64 a0_4, .int .i64 a0_5] 23 (0, 0))) ∧ Aside0 (w'.heap[gb166]? = some (.cells #[.string a1_0, .int .i64 a1_1, .int .i64 a1_2] 91 (0, 0))) ∧ Aside0 (Below w.heap.size w w'))
    case atStart => exact ⟨(0), (by first | rfl | (simp; done) | (simp [*]; done)), H', ⟨Nat.le_refl _⟩, ⟨by (with_reducible repeat (first | apply Kd.R_alloc | apply Kd.R_drewN | apply Kd.R_drew)); exact Kd.R_mono HO170.out (fun _ hk => hk.2)⟩, ⟨by (with_reducible repeat (first | refine blk_drewN ?_ _ | refine blk_drew ?_ | refine blk_alloc ?_ _)); exact BK165.out⟩, ⟨by (with_reducible repeat (first | refine blk_drewN ?_ _ | refine blk_drew ?_ | refine blk_alloc ?_ _)); exact BK166.out⟩, ⟨by repeat (first | (with_reducible first | exact HB.out | apply below_alloc | apply pw_below_drewN | apply below_drew1 | refine below_set ?_ GE165.out | refine below_set ?_ GE166.out) | exact HB.out)⟩⟩
    case round =>
      clear H'
      try clear p2
      try clear c4
      try clear c5
      try clear c8
      try clear hcz11_0
      try clear hcz11_1
      try clear hcz11_2
      try clear hcz11_3
      try clear hcz11_4
      try clear hcz11_5
      try clear hcz9_0
      try clear hcz9_1
      try clear hcz9_2
      try clear hcz9_3
      try clear hcz9_4
      try clear hcz9_5
      try clear hfz11_0
      try clear hfz11_1
      try clear hfz11_2
      try clear hfz11_3
      try clear hfz11_4
      try clear hfz11_5
      try clear hfz9_0
      try clear hfz9_1
      try clear hfz9_2
      try clear hfz9_3
      try clear hfz9_4
      try clear hfz9_5
      obtain ⟨x6_1, rfl, HA, HK1, HO_5, BK165, BK166, HB⟩ := hrel
      cases gk with
      | zero => exact absurd HA.out (by simp [withyref06_At.l0])
      | succ k1 =>
        have H := HA.out
        clear HA
        simp only [withyref06_At.l0] at H
        by_cases c13 : x6_1 < (t168.length : Int)
        · rw [if_pos c13] at H
          have c13b0 : decide (x6_1 < (t168.length : Int)) = true := decide_eq_true c13
          clear c13
          by_cases c14 : 0 ≤ x6_1
          · rw [if_pos c14] at H
            have c14b0 : decide (0 ≤ x6_1) = true := decide_eq_true c14
            clear c14
            by_cases c15 : ((((rd_T91 t168 x6_1).f0).toList) == a1_0.toList && (((rd_T91 t168 x6_1).f1) == a1_1 && (((rd_T91 t168 x6_1).f2) == a1_2))) = true
            · rw [if_pos c15] at H
              have c15b0 : ((((rd_T91 t168 x6_1).f0).toList) == a1_0.toList && (((rd_T91 t168 x6_1).f1) == a1_1 && (((rd_T91 t168 x6_1).f2) == a1_2))) = true := c15
              (try (have c15b1 : decide ((((rd_T91 t168 x6_1).f0).toList) = a1_0.toList && (((rd_T91 t168 x6_1).f1) == a1_1 && (((rd_T91 t168 x6_1).f2) == a1_2))) = true := by simpa using c15))
              (try (have c15b2 : ((((rd_T91 t168 x6_1).f0).toList) == a1_0.toList && (((rd_T91 t168 x6_1).f1) == a1_1 && (((rd_T91 t168 x6_1).f2) == a1_2))) = true := by simpa using c15))
              clear c15
              obtain rfl := Option.some.inj H
              obtain ⟨Ao16, co16, eo16⟩ := Kd.R_slice HO_5.out
              subst eo16
              have p171 : 0 ≤ (x6_1 : Int) := of_decide_eq_true (by first | (with_reducible assumption) | assumption)
              have q171 : x6_1 < (t168.length : Int) := of_decide_eq_true (by first | (with_reducible assumption) | assumption)
              obtain ⟨ad171, e171, hx171_0, hx171_1, hx171_2⟩ := at_T91 (Kd.R_reads' HO_5.out).2.2 x6_1 p171 q171
              cases e171
              replace p171 := eq_true p171
              replace q171 := eq_true q171
              have hnb17 := NB166_165.out
              have hnc17 := NB165_166.out
              have hcz18_0 : wr.cell? ⟨gb166, 0, none⟩ = some (.string a1_0) := (blk_cell BK166.out 0).trans rfl
              have hcz18_1 : wr.cell? ⟨gb166, 1, none⟩ = some (.int .i64 a1_1) := (blk_cell BK166.out 1).trans rfl
              have hcz18_2 : wr.cell? ⟨gb166, 2, none⟩ = some (.int .i64 a1_2) := (blk_cell BK166.out 2).trans rfl
              have hfz18_0 := blk_frozen BK166.out 0
              have hfz18_1 := blk_frozen BK166.out 1
              have hfz18_2 := blk_frozen BK166.out 2
              go_wp2
              repeat (go_quiet (fail); try go_wp2)
              go_ret
              exact ⟨by first | rfl | (simp [errW_none, errW_some] <;> rfl) | (simp [*, errW_none, errW_some] <;> rfl), by repeat (first | (with_reducible first | exact HB.out | apply below_alloc | apply pw_below_drewN | apply below_drew1 | refine below_set ?_ GE165.out | refine below_set ?_ GE166.out) | exact HB.out)⟩
            · rw [if_neg c15] at H
              have c15b0 : ((((rd_T91 t168 x6_1).f0).toList) == a1_0.toList && (((rd_T91 t168 x6_1).f1) == a1_1 && (((rd_T91 t168 x6_1).f2) == a1_2))) = false := by simpa using c15
              (try (have c15b1 : decide ((((rd_T91 t168 x6_1).f0).toList) = a1_0.toList && (((rd_T91 t168 x6_1).f1) == a1_1 && (((rd_T91 t168 x6_1).f2) == a1_2))) = false := by simpa using c15))
              (try (have c15b2 : ((((rd_T91 t168 x6_1).f0).toList) == a1_0.toList && (((rd_T91 t168 x6_1).f1) == a1_1 && (((rd_T91 t168 x6_1).f2) == a1_2))) = false := by simpa using c15))
              (try (have c15b3 : ¬ ((((rd_T91 t168 x6_1).f0).toList) = a1_0.toList && (((rd_T91 t168 x6_1).f1) == a1_1 && (((rd_T91 t168 x6_1).f2) == a1_2))) := by simpa using c15))
              clear c15
              have H' := Aside0.mk H
              clear H
              obtain ⟨Ao19, co19, eo19⟩ := Kd.R_slice HO_5.out
              subst eo19
              have p171 : 0 ≤ (x6_1 : Int) := of_decide_eq_true (by first | (with_reducible assumption) | assumption)
              have q171 : x6_1 < (t168.length : Int) := of_decide_eq_true (by first | (with_reducible assumption) | assumption)
              obtain ⟨ad171, e171, hx171_0, hx171_1, hx171_2⟩ := at_T91 (Kd.R_reads' HO_5.out).2.2 x6_1 p171 q171
              cases e171
              replace p171 := eq_true p171
              replace q171 := eq_true q171
              have hnb20 := NB166_165.out
              have hnc20 := NB165_166.out
              have hcz21_0 : wr.cell? ⟨gb166, 0, none⟩ = some (.string a1_0) := (blk_cell BK166.out 0).trans rfl
              have hcz21_1 : wr.cell? ⟨gb166, 1, none⟩ = some (.int .i64 a1_1) := (blk_cell BK166.out 1).trans rfl
              have hcz21_2 : wr.cell? ⟨gb166, 2, none⟩ = some (.int .i64 a1_2) := (blk_cell BK166.out 2).trans rfl
              have hfz21_0 := blk_frozen BK166.out 0
              have hfz21_1 := blk_frozen BK166.out 1
              have hfz21_2 := blk_frozen BK166.out 2
              go_wp2
              repeat (go_quiet (fail); try go_wp2)
              go_roundg k1
              case measure => have := HK1.out; omega
              case rel => exact ⟨(wrap64 (x6_1 + 1)), (by first | rfl | (simp; done) | (simp [*]; done)), H', ⟨by have := HK1.out; omega⟩, ⟨by (with_reducible repeat (first | apply Kd.R_alloc | apply Kd.R_drewN | apply Kd.R_drew)); exact HO_5.out⟩, ⟨by (with_reducible repeat (first | refine blk_drewN ?_ _ | refine blk_drew ?_ | refine blk_alloc ?_ _)); exact BK165.out⟩, ⟨by (with_reducible repeat (first | refine blk_drewN ?_ _ | refine blk_drew ?_ | refine blk_alloc ?_ _)); exact BK166.out⟩, ⟨by repeat (first | (with_reducible first | exact HB.out | apply below_alloc | apply pw_below_drewN | apply below_drew1 | refine below_set ?_ GE165.out | refine below_set ?_ GE166.out) | exact HB.out)⟩⟩
          · rw [if_neg c14] at H
            exact absurd H (by simp)
        · rw [if_neg c13] at H
          have c13b0 : decide (x6_1 < (t168.length : Int)) = false := decide_eq_false c13
          clear c13
          obtain rfl := Option.some.inj H
          obtain ⟨Ao22, co22, eo22⟩ := Kd.R_slice HO_5.out
          subst eo22
          go_wp2
          repeat (go_quiet (fail); try go_wp2)
          go_ret
          exact ⟨by first | rfl | (simp [errW_none, errW_some] <;> rfl) | (simp [*, errW_none, errW_some] <;> rfl), by repeat (first | (with_reducible first | exact HB.out | apply below_alloc | apply pw_below_drewN | apply below_drew1 | refine below_set ?_ GE165.out | refine below_set ?_ GE166.out) | exact HB.out)⟩
  · replace c4 := Bool.eq_false_iff.mpr c4
    subst c4
    have H1 : (some (-1)) = some r := by rw [if_neg (show ¬ (false = true) by decide)] at H; exact H
    clear H
    have H := H1
    clear H1
    obtain rfl := Option.some.inj H
    go_enter Try.func56, Try.ntmps56
    go_wp2_with (first | ((with_reducible refine gate_dst (N := 2) rfl ?_); refine box_event ?hg (N := 2) ?hd (cs := #[.int .i64 a0_0, .int .i64 a0_1, .int .i64 a0_2, .int .i64 a0_3, .int .i64 a0_4, .int .i64 a0_5]) (t := 23) ?hr ?_; (case hd => rfl); (case hg => rfl); (case hr => first | (go_simp; done) | (go_simp; rfl)); intro gb165 hg w23 hbox hb; have n0_ := Aside0.mk (below_step (by repeat (first | (with_reducible first | exact HB.out | apply below_alloc | apply pw_below_drewN | apply below_drew1) | exact HB.out)) hb); have n1_ := Aside0.mk (hbox); have n2_ := Aside0.mk ((by rw [hg]; exact (below_size (by repeat (first | (with_reducible first | exact HB.out | apply below_alloc | apply pw_below_drewN | apply below_drew1) | exact HB.out))) : w.heap.size ≤ gb165)); have n3_ := Aside0.mk ((by rw [hg]; exact (below_size (by repeat (first | (with_reducible first | exact HB.out | apply below_alloc | apply pw_below_drewN | apply below_drew1) | exact HB.out))) : w.heap.size ≤ gb165)); clear HB; have HB := n0_; have BK165 := n1_; have GW165 := n2_; have GE165 := n3_; clear n0_ n1_ n2_ n3_; clear hb hbox hg) | ((with_reducible refine gate_dst (N := 3) rfl ?_); refine box_event ?hg (N := 3) ?hd (cs := #[.string a1_0, .int .i64 a1_1, .int .i64 a1_2]) (t := 91) ?hr ?_; (case hd => rfl); (case hg => rfl); (case hr => first | (go_simp; done) | (go_simp; rfl)); intro gb166 hg w24 hbox hb; have n0_ := Aside0.mk (blk_below (g := gb165) (o := .cells #[.int .i64 a0_0, .int .i64 a0_1, .int .i64 a0_2, .int .i64 a0_3, .int .i64 a0_4, .int .i64 a0_5] 23 (0, 0)) (by (with_reducible repeat (first | refine blk_drewN ?_ _ | refine blk_drew ?_ | refine blk_alloc ?_ _)); exact BK165.out) hb); have n1_ := Aside0.mk (below_step (by repeat (first | (with_reducible first | exact HB.out | apply below_alloc | apply pw_below_drewN | apply below_drew1 | refine below_set ?_ GE165.out) | exact HB.out)) hb); have n2_ := Aside0.mk (hbox); have n3_ := Aside0.mk ((by rw [hg]; exact (below_size (by repeat (first | (with_reducible first | exact HB.out | apply below_alloc | apply pw_below_drewN | apply below_drew1 | refine below_set ?_ GE165.out) | exact HB.out))) : w.heap.size ≤ gb166)); have n4_ := Aside0.mk ((by rw [hg]; exact (below_size (by repeat (first | (with_reducible first | exact HB.out | apply below_alloc | apply pw_below_drewN | apply below_drew1 | refine below_set ?_ GE165.out) | exact HB.out))) : w.heap.size ≤ gb166)); have n5_ := Aside0.mk ((by rw [hg]; exact Nat.ne_of_lt (blk_lt (g := gb165) (o := .cells #[.int .i64 a0_0, .int .i64 a0_1, .int .i64 a0_2, .int .i64 a0_3, .int .i64 a0_4, .int .i64 a0_5] 23 (0, 0)) (by (with_reducible repeat (first | refine blk_drewN ?_ _ | refine blk_drew ?_ | refine blk_alloc ?_ _)); exact BK165.out)) : gb165 ≠ gb166)); have n6_ := Aside0.mk ((by rw [hg]; exact Nat.ne_of_gt (blk_lt (g := gb165) (o := .cells #[.int .i64 a0_0, .int .i64 a0_1, .int .i64 a0_2, .int .i64 a0_3, .int .i64 a0_4, .int .i64 a0_5] 23 (0, 0)) (by (with_reducible repeat (first | refine blk_drewN ?_ _ | refine blk_drew ?_ | refine blk_alloc ?_ _)); exact BK165.out)) : gb166 ≠ gb165)); clear BK165; clear HB; have BK165 := n0_; have HB := n1_; have BK166 := n2_; have GW166 := n3_; have GE166 := n4_; have NB165_166 := n5_; have NB166_165 := n6_; clear n0_ n1_ n2_ n3_ n4_ n5_ n6_; clear hb hbox hg; have hnb25 := NB165_166.out; have hnc25 := NB166_165.out; have hcz26_0 : w24.cell? ⟨gb165, 0, none⟩ = some (.int .i64 a0_0) := (blk_cell BK165.out 0).trans rfl; have hcz26_1 : w24.cell? ⟨gb165, 1, none⟩ = some (.int .i64 a0_1) := (blk_cell BK165.out 1).trans rfl; have hcz26_2 : w24.cell? ⟨gb165, 2, none⟩ = some (.int .i64 a0_2) := (blk_cell BK165.out 2).trans rfl; have hcz26_3 : w24.cell? ⟨gb165, 3, none⟩ = some (.int .i64 a0_3) := (blk_cell BK165.out 3).trans rfl; have hcz26_4 : w24.cell? ⟨gb165, 4, none⟩ = some (.int .i64 a0_4) := (blk_cell BK165.out 4).trans rfl; have hcz26_5 : w24.cell? ⟨gb165, 5, none⟩ = some (.int .i64 a0_5) := (blk_cell BK165.out 5).trans rfl; have hfz26_0 := blk_frozen BK165.out 0; have hfz26_1 := blk_frozen BK165.out 1; have hfz26_2 := blk_frozen BK165.out 2; have hfz26_3 := blk_frozen BK165.out 3; have hfz26_4 := blk_frozen BK165.out 4; have hfz26_5 := blk_frozen BK165.out 5) | (go_at_call 21; (with_reducible refine (withyref06_Right.calls a0_0 a0_1 a0_2 a0_3 a0_4 a0_5 false _ A3.out).mono ?_); rintro e w27 ⟨rfl, hb⟩; have n0_ := Aside0.mk (blk_below (g := gb165) (o := .cells #[.int .i64 a0_0, .int .i64 a0_1, .int .i64 a0_2, .int .i64 a0_3, .int .i64 a0_4, .int .i64 a0_5] 23 (0, 0)) (by (with_reducible repeat (first | refine blk_drewN ?_ _ | refine blk_drew ?_ | refine blk_alloc ?_ _)); exact BK165.out) hb); have n1_ := Aside0.mk (blk_below (g := gb166) (o := .cells #[.string a1_0, .int .i64 a1_1, .int .i64 a1_2] 91 (0, 0)) (by (with_reducible repeat (first | refine blk_drewN ?_ _ | refine blk_drew ?_ | refine blk_alloc ?_ _)); exact BK166.out) hb); have n2_ := Aside0.mk (below_step (by repeat (first | (with_reducible first | exact HB.out | apply below_alloc | apply pw_below_drewN | apply below_drew1 | refine below_set ?_ GE165.out | refine below_set ?_ GE166.out) | exact HB.out)) hb); clear BK165; clear BK166; clear HB; have BK165 := n0_; have BK166 := n1_; have HB := n2_; clear n0_ n1_ n2_; (try clear hb); (try clear hb2); (try clear hk); (try clear hi)))
    repeat (go_quiet (first | ((with_reducible refine gate_dst (N := 2) rfl ?_); refine box_event ?hg (N := 2) ?hd (cs := #[.int .i64 a0_0, .int .i64 a0_1, .int .i64 a0_2, .int .i64 a0_3, .int .i64 a0_4, .int .i64 a0_5]) (t := 23) ?hr ?_; (case hd => rfl); (case hg => rfl); (case hr => first | (go_simp; done) | (go_simp; rfl)); intro gb165 hg w23 hbox hb; have n0_ := Aside0.mk (below_step (by repeat (first | (with_reducible first | exact HB.out | apply below_alloc | apply pw_below_drewN | apply below_drew1) | exact HB.out)) hb); have n1_ := Aside0.mk (hbox); have n2_ := Aside0.mk ((by rw [hg]; exact (below_size (by repeat (first | (with_reducible first | exact HB.out | apply below_alloc | apply pw_below_drewN | apply below_drew1) | exact HB.out))) : w.heap.size ≤ gb165)); have n3_ := Aside0.mk ((by rw [hg]; exact (below_size (by repeat (first | (with_reducible first | exact HB.out | apply below_alloc | apply pw_below_drewN | apply below_drew1) | exact HB.out))) : w.heap.size ≤ gb165)); clear HB; have HB := n0_; have BK165 := n1_; have GW165 := n2_; have GE165 := n3_; clear n0_ n1_ n2_ n3_; clear hb hbox hg) | ((with_reducible refine gate_dst (N := 3) rfl ?_); refine box_event ?hg (N := 3) ?hd (cs := #[.string a1_0, .int .i64 a1_1, .int .i64 a1_2]) (t := 91) ?hr ?_; (case hd => rfl); (case hg => rfl); (case hr => first | (go_simp; done) | (go_simp; rfl)); intro gb166 hg w24 hbox hb; have n0_ := Aside0.mk (blk_below (g := gb165) (o := .cells #[.int .i64 a0_0, .int .i64 a0_1, .int .i64 a0_2, .int .i64 a0_3, .int .i64 a0_4, .int .i64 a0_5] 23 (0, 0)) (by (with_reducible repeat (first | refine blk_drewN ?_ _ | refine blk_drew ?_ | refine blk_alloc ?_ _)); exact BK165.out) hb); have n1_ := Aside0.mk (below_step (by repeat (first | (with_reducible first | exact HB.out | apply below_alloc | apply pw_below_drewN | apply below_drew1 | refine below_set ?_ GE165.out) | exact HB.out)) hb); have n2_ := Aside0.mk (hbox); have n3_ := Aside0.mk ((by rw [hg]; exact (below_size (by repeat (first | (with_reducible first | exact HB.out | apply below_alloc | apply pw_below_drewN | apply below_drew1 | refine below_set ?_ GE165.out) | exact HB.out))) : w.heap.size ≤ gb166)); have n4_ := Aside0.mk ((by rw [hg]; exact (below_size (by repeat (first | (with_reducible first | exact HB.out | apply below_alloc | apply pw_below_drewN | apply below_drew1 | refine below_set ?_ GE165.out) | exact HB.out))) : w.heap.size ≤ gb166)); have n5_ := Aside0.mk ((by rw [hg]; exact Nat.ne_of_lt (blk_lt (g := gb165) (o := .cells #[.int .i64 a0_0, .int .i64 a0_1, .int .i64 a0_2, .int .i64 a0_3, .int .i64 a0_4, .int .i64 a0_5] 23 (0, 0)) (by (with_reducible repeat (first | refine blk_drewN ?_ _ | refine blk_drew ?_ | refine blk_alloc ?_ _)); exact BK165.out)) : gb165 ≠ gb166)); have n6_ := Aside0.mk ((by rw [hg]; exact Nat.ne_of_gt (blk_lt (g := gb165) (o := .cells #[.int .i64 a0_0, .int .i64 a0_1, .int .i64 a0_2, .int .i64 a0_3, .int .i64 a0_4, .int .i64 a0_5] 23 (0, 0)) (by (with_reducible repeat (first | refine blk_drewN ?_ _ | refine blk_drew ?_ | refine blk_alloc ?_ _)); exact BK165.out)) : gb166 ≠ gb165)); clear BK165; clear HB; have BK165 := n0_; have HB := n1_; have BK166 := n2_; have GW166 := n3_; have GE166 := n4_; have NB165_166 := n5_; have NB166_165 := n6_; clear n0_ n1_ n2_ n3_ n4_ n5_ n6_; clear hb hbox hg; have hnb25 := NB165_166.out; have hnc25 := NB166_165.out; have hcz26_0 : w24.cell? ⟨gb165, 0, none⟩ = some (.int .i64 a0_0) := (blk_cell BK165.out 0).trans rfl; have hcz26_1 : w24.cell? ⟨gb165, 1, none⟩ = some (.int .i64 a0_1) := (blk_cell BK165.out 1).trans rfl; have hcz26_2 : w24.cell? ⟨gb165, 2, none⟩ = some (.int .i64 a0_2) := (blk_cell BK165.out 2).trans rfl; have hcz26_3 : w24.cell? ⟨gb165, 3, none⟩ = some (.int .i64 a0_3) := (blk_cell BK165.out 3).trans rfl; have hcz26_4 : w24.cell? ⟨gb165, 4, none⟩ = some (.int .i64 a0_4) := (blk_cell BK165.out 4).trans rfl; have hcz26_5 : w24.cell? ⟨gb165, 5, none⟩ = some (.int .i64 a0_5) := (blk_cell BK165.out 5).trans rfl; have hfz26_0 := blk_frozen BK165.out 0; have hfz26_1 := blk_frozen BK165.out 1; have hfz26_2 := blk_frozen BK165.out 2; have hfz26_3 := blk_frozen BK165.out 3; have hfz26_4 := blk_frozen BK165.out 4; have hfz26_5 := blk_frozen BK165.out 5) | (go_at_call 21; (with_reducible refine (withyref06_Right.calls a0_0 a0_1 a0_2 a0_3 a0_4 a0_5 false _ A3.out).mono ?_); rintro e w27 ⟨rfl, hb⟩; have n0_ := Aside0.mk (blk_below (g := gb165) (o := .cells #[.int .i64 a0_0, .int .i64 a0_1, .int .i64 a0_2, .int .i64 a0_3, .int .i64 a0_4, .int .i64 a0_5] 23 (0, 0)) (by (with_reducible repeat (first | refine blk_drewN ?_ _ | refine blk_drew ?_ | refine blk_alloc ?_ _)); exact BK165.out) hb); have n1_ := Aside0.mk (blk_below (g := gb166) (o := .cells #[.string a1_0, .int .i64 a1_1, .int .i64 a1_2] 91 (0, 0)) (by (with_reducible repeat (first | refine blk_drewN ?_ _ | refine blk_drew ?_ | refine blk_alloc ?_ _)); exact BK166.out) hb); have n2_ := Aside0.mk (below_step (by repeat (first | (with_reducible first | exact HB.out | apply below_alloc | apply pw_below_drewN | apply below_drew1 | refine below_set ?_ GE165.out | refine below_set ?_ GE166.out) | exact HB.out)) hb); clear BK165; clear BK166; clear HB; have BK165 := n0_; have BK166 := n1_; have HB := n2_; clear n0_ n1_ n2_; (try clear hb); (try clear hb2); (try clear hk); (try clear hi))); try go_wp2_with (first | ((with_reducible refine gate_dst (N := 2) rfl ?_); refine box_event ?hg (N := 2) ?hd (cs := #[.int .i64 a0_0, .int .i64 a0_1, .int .i64 a0_2, .int .i64 a0_3, .int .i64 a0_4, .int .i64 a0_5]) (t := 23) ?hr ?_; (case hd => rfl); (case hg => rfl); (case hr => first | (go_simp; done) | (go_simp; rfl)); intro gb165 hg w23 hbox hb; have n0_ := Aside0.mk (below_step (by repeat (first | (with_reducible first | exact HB.out | apply below_alloc | apply pw_below_drewN | apply below_drew1) | exact HB.out)) hb); have n1_ := Aside0.mk (hbox); have n2_ := Aside0.mk ((by rw [hg]; exact (below_size (by repeat (first | (with_reducible first | exact HB.out | apply below_alloc | apply pw_below_drewN | apply below_drew1) | exact HB.out))) : w.heap.size ≤ gb165)); have n3_ := Aside0.mk ((by rw [hg]; exact (below_size (by repeat (first | (with_reducible first | exact HB.out | apply below_alloc | apply pw_below_drewN | apply below_drew1) | exact HB.out))) : w.heap.size ≤ gb165)); clear HB; have HB := n0_; have BK165 := n1_; have GW165 := n2_; have GE165 := n3_; clear n0_ n1_ n2_ n3_; clear hb hbox hg) | ((with_reducible refine gate_dst (N := 3) rfl ?_); refine box_event ?hg (N := 3) ?hd (cs := #[.string a1_0, .int .i64 a1_1, .int .i64 a1_2]) (t := 91) ?hr ?_; (case hd => rfl); (case hg => rfl); (case hr => first | (go_simp; done) | (go_simp; rfl)); intro gb166 hg w24 hbox hb; have n0_ := Aside0.mk (blk_below (g := gb165) (o := .cells #[.int .i64 a0_0, .int .i64 a0_1, .int .i64 a0_2, .int .i64 a0_3, .int .i64 a0_4, .int .i64 a0_5] 23 (0, 0)) (by (with_reducible repeat (first | refine blk_drewN ?_ _ | refine blk_drew ?_ | refine blk_alloc ?_ _)); exact BK165.out) hb); have n1_ := Aside0.mk (below_step (by repeat (first | (with_reducible first | exact HB.out | apply below_alloc | apply pw_below_drewN | apply below_drew1 | refine below_set ?_ GE165.out) | exact HB.out)) hb); have n2_ := Aside0.mk (hbox); have n3_ := Aside0.mk ((by rw [hg]; exact (below_size (by repeat (first | (with_reducible first | exact HB.out | apply below_alloc | apply pw_below_drewN | apply below_drew1 | refine below_set ?_ GE165.out) | exact HB.out))) : w.heap.size ≤ gb166)); have n4_ := Aside0.mk ((by rw [hg]; exact (below_size (by repeat (first | (with_reducible first | exact HB.out | apply below_alloc | apply pw_below_drewN | apply below_drew1 | refine below_set ?_ GE165.out) | exact HB.out))) : w.heap.size ≤ gb166)); have n5_ := Aside0.mk ((by rw [hg]; exact Nat.ne_of_lt (blk_lt (g := gb165) (o := .cells #[.int .i64 a0_0, .int .i64 a0_1, .int .i64 a0_2, .int .i64 a0_3, .int .i64 a0_4, .int .i64 a0_5] 23 (0, 0)) (by (with_reducible repeat (first | refine blk_drewN ?_ _ | refine blk_drew ?_ | refine blk_alloc ?_ _)); exact BK165.out)) : gb165 ≠ gb166)); have n6_ := Aside0.mk ((by rw [hg]; exact Nat.ne_of_gt (blk_lt (g := gb165) (o := .cells #[.int .i64 a0_0, .int .i64 a0_1, .int .i64 a0_2, .int .i64 a0_3, .int .i64 a0_4, .int .i64 a0_5] 23 (0, 0)) (by (with_reducible repeat (first | refine blk_drewN ?_ _ | refine blk_drew ?_ | refine blk_alloc ?_ _)); exact BK165.out)) : gb166 ≠ gb165)); clear BK165; clear HB; have BK165 := n0_; have HB := n1_; have BK166 := n2_; have GW166 := n3_; have GE166 := n4_; have NB165_166 := n5_; have NB166_165 := n6_; clear n0_ n1_ n2_ n3_ n4_ n5_ n6_; clear hb hbox hg; have hnb25 := NB165_166.out; have hnc25 := NB166_165.out; have hcz26_0 : w24.cell? ⟨gb165, 0, none⟩ = some (.int .i64 a0_0) := (blk_cell BK165.out 0).trans rfl; have hcz26_1 : w24.cell? ⟨gb165, 1, none⟩ = some (.int .i64 a0_1) := (blk_cell BK165.out 1).trans rfl; have hcz26_2 : w24.cell? ⟨gb165, 2, none⟩ = some (.int .i64 a0_2) := (blk_cell BK165.out 2).trans rfl; have hcz26_3 : w24.cell? ⟨gb165, 3, none⟩ = some (.int .i64 a0_3) := (blk_cell BK165.out 3).trans rfl; have hcz26_4 : w24.cell? ⟨gb165, 4, none⟩ = some (.int .i64 a0_4) := (blk_cell BK165.out 4).trans rfl; have hcz26_5 : w24.cell? ⟨gb165, 5, none⟩ = some (.int .i64 a0_5) := (blk_cell BK165.out 5).trans rfl; have hfz26_0 := blk_frozen BK165.out 0; have hfz26_1 := blk_frozen BK165.out 1; have hfz26_2 := blk_frozen BK165.out 2; have hfz26_3 := blk_frozen BK165.out 3; have hfz26_4 := blk_frozen BK165.out 4; have hfz26_5 := blk_frozen BK165.out 5) | (go_at_call 21; (with_reducible refine (withyref06_Right.calls a0_0 a0_1 a0_2 a0_3 a0_4 a0_5 false _ A3.out).mono ?_); rintro e w27 ⟨rfl, hb⟩; have n0_ := Aside0.mk (blk_below (g := gb165) (o := .cells #[.int .i64 a0_0, .int .i64 a0_1, .int .i64 a0_2, .int .i64 a0_3, .int .i64 a0_4, .int .i64 a0_5] 23 (0, 0)) (by (with_reducible repeat (first | refine blk_drewN ?_ _ | refine blk_drew ?_ | refine blk_alloc ?_ _)); exact BK165.out) hb); have n1_ := Aside0.mk (blk_below (g := gb166) (o := .cells #[.string a1_0, .int .i64 a1_1, .int .i64 a1_2] 91 (0, 0)) (by (with_reducible repeat (first | refine blk_drewN ?_ _ | refine blk_drew ?_ | refine blk_alloc ?_ _)); exact BK166.out) hb); have n2_ := Aside0.mk (below_step (by repeat (first | (with_reducible first | exact HB.out | apply below_alloc | apply pw_below_drewN | apply below_drew1 | refine below_set ?_ GE165.out | refine below_set ?_ GE166.out) | exact HB.out)) hb); clear BK165; clear BK166; clear HB; have BK165 := n0_; have BK166 := n1_; have HB := n2_; clear n0_ n1_ n2_; (try clear hb); (try clear hb2); (try clear hk); (try clear hi))))
    go_ret
    exact ⟨by first | rfl | (simp [errW_none, errW_some] <;> rfl) | (simp [*, errW_none, errW_some] <;> rfl), by repeat (first | (with_reducible first | exact HB.out | apply below_alloc | apply pw_below_drewN | apply below_drew1 | refine below_set ?_ GE165.out | refine below_set ?_ GE166.out) | exact HB.out)⟩
end Go.Proofs.Ytijfkpoofpcacaa.PArenaPlays
end
section
namespace Go.Proofs.Ytijfkpoofpcacaa.Core
open Go.RowKit Go.Proofs.YtijfkpoofpcacaaW.PrintWords
theorem wrap_u64 (n : Int) : IntKind.u64.wrap n = n % 18446744073709551616 := by simp [IntKind.wrap, IntKind.bits, IntKind.signed]
theorem wrap_u64_id (n : Int) (h0 : 0 ≤ n) (h1 : n < 18446744073709551616) : IntKind.u64.wrap n = n := by rw [wrap_u64]; omega
theorem wrap64_id (n : Int) (h0 : -9223372036854775808 ≤ n) (h1 : n < 9223372036854775808) : wrap64 n = n := by unfold wrap64; omega
theorem p64 : (2 : Nat) ^ 64 = 18446744073709551616 := rfl
theorem bits_and (a b : Nat) (ha : a < 2 ^ 64) (hb : b < 2 ^ 64) : bits .and .u64 (a : Int) (b : Int) = ((a &&& b : Nat) : Int) := by
  have h1 : (BitVec.ofInt 64 (a : Int)).toNat = a := by rw [BitVec.ofInt_natCast, BitVec.toNat_ofNat]; exact Nat.mod_eq_of_lt ha
  have h2 : (BitVec.ofInt 64 (b : Int)).toNat = b := by rw [BitVec.ofInt_natCast, BitVec.toNat_ofNat]; exact Nat.mod_eq_of_lt hb
  have h3 : a &&& b < 2 ^ 64 := Nat.and_lt_two_pow _ hb
  show IntKind.u64.wrap ((BitVec.ofInt 64 (a : Int) &&& BitVec.ofInt 64 (b : Int)).toNat : Int) = _
  rw [BitVec.toNat_and, h1, h2, wrap_u64]
  rw [p64] at h3
  omega
theorem bits_or (a b : Nat) (ha : a < 2 ^ 64) (hb : b < 2 ^ 64) : bits .or .u64 (a : Int) (b : Int) = ((a ||| b : Nat) : Int) := by
  have h1 : (BitVec.ofInt 64 (a : Int)).toNat = a := by rw [BitVec.ofInt_natCast, BitVec.toNat_ofNat]; exact Nat.mod_eq_of_lt ha
  have h2 : (BitVec.ofInt 64 (b : Int)).toNat = b := by rw [BitVec.ofInt_natCast, BitVec.toNat_ofNat]; exact Nat.mod_eq_of_lt hb
  have h3 : a ||| b < 2 ^ 64 := Nat.or_lt_two_pow ha hb
  show IntKind.u64.wrap ((BitVec.ofInt 64 (a : Int) ||| BitVec.ofInt 64 (b : Int)).toNat : Int) = _
  rw [BitVec.toNat_or, h1, h2, wrap_u64]
  rw [p64] at h3
  omega
def okB (at_ n : Int) : Bool := decide (1 ≤ n) && decide (n ≤ 64) && decide (0 ≤ at_) && decide (at_ ≤ 64 - n)
theorem okB_iff {a n : Int} : okB a n = true ↔ 1 ≤ n ∧ n ≤ 64 ∧ 0 ≤ a ∧ a ≤ 64 - n := by simp [okB, and_assoc]
def getV (w a n : Int) : Int := if okB a n = true then w / 2 ^ a.toNat % 2 ^ n.toNat else 0
def fitsB (v n : Int) : Bool := decide (0 ≤ n) && (decide (63 < n) || decide (v < 2 ^ n.toNat))
theorem shl_nat (x a : Nat) (r : Nat) (ha : a ≤ 64) (hr : x * 2 ^ a < 2 ^ 64) (e : r = x * 2 ^ a := by rfl) : shl .u64 (x : Int) (a : Int) = (r : Int) := by
  subst e
  unfold shl
  rw [Int.toNat_natCast, show IntKind.bits .u64 = 64 from rfl, Nat.min_eq_left ha]
  rw [p64] at hr
  have e : (x : Int) * 2 ^ a = ((x * 2 ^ a : Nat) : Int) := by simp
  rw [e]
  exact wrap_u64_id _ (by omega) (by omega)
def topV (t s : Int) : Int × Bool := if -1 ≤ s ∧ s < 64 ∧ t < 281474976710656 then (65536 * t + (s + 1), true) else (0, false)
def movedV (w s : Int) : Int := 65536 * ((w / 65536 + 1) % 281474976710656) + ((if -1 ≤ s ∧ s < 64 then s else -1) + 1)
def rightB (S A C H G K : Int) : Bool := decide (1 ≤ S ∧ S ≤ 64 ∧ 0 ≤ A ∧ A ≤ 8 ∧ 1 ≤ C ∧ C ≤ 8 ∧ 1 ≤ H ∧ H ≤ 16 ∧ 1 ≤ G ∧ G ≤ 1048576 ∧ 0 ≤ K ∧ K ≤ 64)
theorem right_iff {S A C H G K : Int} : rightB S A C H G K = true ↔ (1 ≤ S ∧ S ≤ 64 ∧ 0 ≤ A ∧ A ≤ 8 ∧ 1 ≤ C ∧ C ≤ 8 ∧ 1 ≤ H ∧ H ≤ 16 ∧ 1 ≤ G ∧ G ≤ 1048576 ∧ 0 ≤ K ∧ K ≤ 64) := by simp [rightB]
theorem mul_le2 {a b m n : Int} (a0 : 0 ≤ a) (am : a ≤ m) (b0 : 0 ≤ b) (bn : b ≤ n) : 0 ≤ a * b ∧ a * b ≤ m * n :=
  ⟨Int.mul_nonneg a0 b0, Int.mul_le_mul am bn b0 (by omega)⟩
def slotsV (C H : Int) : Int := 4 + C * (1 + H + 2)
def roomV (A : Int) : Int := 2 + (if A < 3 then 3 else A)
def sizeV (S A C H : Int) : Int := slotsV C H + S * roomV A
theorem roomV_bd {A : Int} (h0 : 0 ≤ A) (h1 : A ≤ 8) : 5 ≤ roomV A ∧ roomV A ≤ 10 := by unfold roomV; split <;> omega
theorem slotsV_bd {C H : Int} (h0 : 0 ≤ C) (h1 : C ≤ 8) (h2 : 0 ≤ H) (h3 : H ≤ 16) : 4 ≤ slotsV C H ∧ slotsV C H ≤ 156 := by
  unfold slotsV
  have := mul_le2 (a := C) (b := 1 + H + 2) (m := 8) (n := 19) (by omega) (by omega) (by omega) (by omega)
  omega
theorem toList_loop (s : ByteArray) (d : Nat) : ∀ (i : Nat) (r : List UInt8), i + d = s.size → ByteArray.toList.loop s i r = r.reverse ++ s.data.toList.drop i := by
  induction d with
  | zero =>
    intro i r h
    rw [ByteArray.toList.loop, if_neg (by omega), List.drop_eq_nil_of_le (by show s.data.size ≤ i; have : s.data.size = s.size := rfl; omega)]; simp
  | succ d ih =>
    intro i r h
    have hlt : i < s.data.toList.length := by show i < s.data.size; have : s.data.size = s.size := rfl; omega
    rw [ByteArray.toList.loop, if_pos (by omega), ih (i + 1) _ (by omega), List.drop_eq_getElem_cons hlt]
    have : s.get! i = s.data.toList[i] := by
      show s.data[i]! = _
      rw [getElem!_pos s.data i (by simpa using hlt)]; simp
    rw [this]; simp
theorem toList_data (s : ByteArray) : s.toList = s.data.toList := by
  have := toList_loop s s.size 0 [] (by omega)
  simpa [ByteArray.toList] using this
end Go.Proofs.Ytijfkpoofpcacaa.Core
end
section
namespace Go.Proofs.Ytijfkpoofpcacaa.PuArenaPlays
open Go.RowKit Go.Proofs.Ytijfkpoofpcacaa.PArenaPlays Go.Proofs.YtijfkpoofpcacaaW.PrintWords Go.Proofs.YtijfkpoofpcacaaW.PrintLast Go.Proofs.Ytijfkpoofpcacaa.Core
theorem p_between (x lo hi : Int) : plan_between.f x lo hi = some (decide (lo ≤ x ∧ x ≤ hi)) := by
  unfold plan_between.f
  by_cases h : x ≥ lo
  · rw [if_pos h]; simp [show lo ≤ x from h]
  · rw [if_neg h]; simp [show ¬ lo ≤ x from h]
theorem p_pRight (S A C H G K : Int) : plan_Right.f S A C H G K = some (rightB S A C H G K) := by
  unfold plan_Right.f rightB
  simp only [p_between, Option.bind_some]
  by_cases h1 : 1 ≤ S ∧ S ≤ 64
  · rw [if_pos (decide_eq_true h1)]
    by_cases h2 : 0 ≤ A ∧ A ≤ 8
    · rw [if_pos (decide_eq_true h2)]
      by_cases h3 : 1 ≤ C ∧ C ≤ 8
      · rw [if_pos (decide_eq_true h3)]
        by_cases h4 : 1 ≤ H ∧ H ≤ 16
        · rw [if_pos (decide_eq_true h4)]
          by_cases h5 : 1 ≤ G ∧ G ≤ 1048576
          · rw [if_pos (decide_eq_true h5)]
            congr 1; rw [Bool.eq_iff_iff]; simp only [decide_eq_true_eq]; omega
          · rw [if_neg (by simpa using h5), decide_eq_false (by omega)]
        · rw [if_neg (by simpa using h4), decide_eq_false (by omega)]
      · rw [if_neg (by simpa using h3), decide_eq_false (by omega)]
    · rw [if_neg (by simpa using h2), decide_eq_false (by omega)]
  · rw [if_neg (by simpa using h1), decide_eq_false (by omega)]
theorem p_pSlots (S A C H G K : Int) (h : rightB S A C H G K = true) : plan_slots.f S A C H G K = some (slotsV C H) := by
  rw [right_iff] at h
  unfold plan_slots.f slotsV
  have := mul_le2 (a := C) (b := 1 + H + 2) (m := 8) (n := 19) (by omega) (by omega) (by omega) (by omega)
  rw [wrap64_id (1 + H) (by omega) (by omega), wrap64_id (1 + H + 2) (by omega) (by omega), wrap64_id (C * (1 + H + 2)) (by omega) (by omega), wrap64_id _ (by omega) (by omega)]
theorem p_pRoom (S A C H G K : Int) (h0 : -100 ≤ A) (h1 : A ≤ 100) : plan_room.f S A C H G K = some (roomV A) := by
  unfold plan_room.f roomV mx
  rw [wrap64_id _ (by split <;> omega) (by split <;> omega)]
theorem p_pSize (S A C H G K : Int) : plan_Size.f S A C H G K = some (if rightB S A C H G K = true then sizeV S A C H else 0) := by
  unfold plan_Size.f
  rw [p_pRight, Option.bind_some]
  by_cases h : rightB S A C H G K = true
  · have h' := right_iff.1 h
    have r := roomV_bd (A := A) (by omega) (by omega)
    have s := slotsV_bd (C := C) (H := H) (by omega) (by omega) (by omega) (by omega)
    have m := mul_le2 (a := S) (b := roomV A) (m := 64) (n := 10) (by omega) (by omega) (by omega) (by omega)
    rw [if_pos h, if_pos h, p_pSlots S A C H G K h, Option.bind_some, p_pRoom S A C H G K (by omega) (by omega), Option.bind_some, wrap64_id (S * roomV A) (by omega) (by omega), wrap64_id _ (by omega) (by omega)]; rfl
  · rw [if_neg h, if_neg h]
theorem p_slots (s : Int) : tag_slots.f s = some (decide (-1 ≤ s ∧ s < 64)) := by
  unfold tag_slots.f
  by_cases h : s ≥ -1
  · rw [if_pos h]; simp [show -1 ≤ s from h]
  · rw [if_neg h]; simp [show ¬ -1 ≤ s from h]
theorem p_some (a n : Int) : word_some.f a n = some (okB a n) := by
  unfold word_some.f okB
  by_cases h1 : n ≥ 1
  · by_cases h2 : n ≤ 64
    · by_cases h3 : a ≥ 0
      · rw [if_pos h1, if_pos h2, if_pos h3, wrap64_id _ (by omega) (by omega)]
        simp [show 1 ≤ n from h1, h2, show 0 ≤ a from h3]
      · rw [if_pos h1, if_pos h2, if_neg h3]; simp [show ¬ 0 ≤ a from h3]
    · rw [if_pos h1, if_neg h2]; simp [h2]
  · rw [if_neg h1]; simp [show ¬ 1 ≤ n from h1]
theorem p_Fits (v n : Int) (h0 : 0 ≤ v) (h1 : v < 18446744073709551616) : word_Fits.f v n = some (fitsB v n) := by
  unfold word_Fits.f fitsB
  by_cases ha : n ≥ 0
  · by_cases hb : n > 63
    · rw [if_pos ha, if_pos hb]; simp [show 0 ≤ n from ha, show 63 < n from hb]
    · rw [if_pos ha, if_neg hb, if_pos ha]
      unfold shr
      rw [show IntKind.bits .u64 = 64 from rfl, Nat.min_eq_left (by omega)]
      obtain ⟨n, rfl⟩ := Int.eq_ofNat_of_zero_le (show 0 ≤ n from ha)
      obtain ⟨v, rfl⟩ := Int.eq_ofNat_of_zero_le h0
      rw [Int.toNat_natCast]
      congr 1
      have e1 : (v : Int) / 2 ^ n = ((v / 2 ^ n : Nat) : Int) := by simp
      have e2 : (2 : Int) ^ n = ((2 ^ n : Nat) : Int) := by simp
      rw [e1, e2, Bool.eq_iff_iff]
      have h3 := Nat.div_eq_zero_iff (a := v) (b := 2 ^ n)
      have h4 := Nat.two_pow_pos n
      simp only [beq_iff_eq, Bool.and_eq_true, Bool.or_eq_true, decide_eq_true_eq]
      constructor
      · intro h
        have := h3.1 (by omega)
        omega
      · intro h
        have := h3.2 (by omega)
        omega
  · rw [if_neg ha]; simp [show ¬ 0 ≤ n from ha]
def packF : List S153 → Int → Int → Int × Bool
  | [], w, _ => (w, true)
  | b :: l, w, a => if okB a b.f0 = true ∧ fitsB b.f1 b.f0 = true then packF l (w + b.f1 * 2 ^ a.toNat) (a + b.f0) else (0, false)
theorem pack_step {w a v n : Int} (h : okB a n = true) (hv : fitsB v n = true) (hw0 : 0 ≤ w) (hw : w < 2 ^ a.toNat) (hv0 : 0 ≤ v) (hv1 : v < 18446744073709551616) :
    Go.bits .or .u64 w (shl .u64 v a) = w + v * 2 ^ a.toNat ∧ w + v * 2 ^ a.toNat < 2 ^ (a + n).toNat ∧ 0 ≤ w + v * 2 ^ a.toNat := by
  rw [okB_iff] at h
  obtain ⟨w, rfl⟩ := Int.eq_ofNat_of_zero_le hw0
  obtain ⟨v, rfl⟩ := Int.eq_ofNat_of_zero_le hv0
  obtain ⟨a, rfl⟩ := Int.eq_ofNat_of_zero_le h.2.2.1
  obtain ⟨n, rfl⟩ := Int.eq_ofNat_of_zero_le (show 0 ≤ n by omega)
  rw [show ((a : Int) + (n : Int)).toNat = a + n from by omega]
  simp only [Int.toNat_natCast] at hw ⊢
  have hv2 : v < 2 ^ n := by
    simp only [fitsB, Bool.and_eq_true, Bool.or_eq_true, decide_eq_true_eq, Int.toNat_natCast] at hv
    have e : ((2 ^ n : Nat) : Int) = (2 : Int) ^ n := by simp
    rcases hv.2 with h1 | h1
    · rw [show n = 64 from by omega, p64]; omega
    · omega
  have hw2 : w < 2 ^ a := by
    have e : ((2 ^ a : Nat) : Int) = (2 : Int) ^ a := by simp
    omega
  have hsum : w + v * 2 ^ a < 2 ^ (a + n) := by
    have h3 : (v + 1) * 2 ^ a ≤ 2 ^ n * 2 ^ a := Nat.mul_le_mul_right _ hv2
    rw [Nat.add_mul, Nat.one_mul, ← Nat.pow_add, Nat.add_comm n a] at h3
    omega
  have hle := Nat.pow_le_pow_right (show 0 < 2 by decide) (show a + n ≤ 64 by omega)
  have e3 : (w : Int) + (v : Int) * 2 ^ a = ((w + v * 2 ^ a : Nat) : Int) := by simp
  rw [p64] at hle
  rw [shl_nat v a (v * 2 ^ a) (by omega) (by rw [p64]; omega), bits_or _ _ (by rw [p64]; omega) (by rw [p64]; omega), e3]
  refine ⟨?_, ?_, by omega⟩
  · have := Nat.two_pow_add_eq_or_of_lt hw2 v
    rw [Nat.or_comm, Nat.mul_comm v, ← this, Nat.add_comm]
  · have e4 : ((2 ^ (a + n) : Nat) : Int) = (2 : Int) ^ (a + n) := by simp
    omega
theorem p_Pack_l (l : List S153) : ∀ (pre : List S153) (k : Nat) (w a : Int), l.length < k → (pre ++ l).length < 2 ^ 60 → 0 ≤ w → w < 2 ^ a.toNat → 0 ≤ a → a ≤ 64 → (∀ b ∈ l, 0 ≤ b.f1 ∧ b.f1 < 18446744073709551616) →
    word_Pack.l0 k w a (pre ++ l) ((pre ++ l).length : Int) (pre.length : Int) = some (packF l w a) := by
  induction l with
  | nil =>
    intro pre k w a hk hl h0 h1 h2 h3 hb
    obtain ⟨k, rfl⟩ : ∃ m, k = m + 1 := ⟨k - 1, by omega⟩
    simp only [word_Pack.l0]
    rw [if_neg (by simp)]; rfl
  | cons b l ih =>
    intro pre k w a hk hl h0 h1 h2 h3 hb
    obtain ⟨k, rfl⟩ : ∃ m, k = m + 1 := ⟨k - 1, by omega⟩
    have hlen : (pre ++ b :: l).length = pre.length + 1 + l.length := by simp; omega
    have hrd : rd_T153 (pre ++ b :: l) (pre.length : Int) = b := by simp [rd_T153]
    have hb1 := hb b (by simp)
    simp only [word_Pack.l0]
    rw [if_pos (by omega), if_pos (by omega), if_pos (by omega), hrd, p_some, Option.bind_some]
    simp only [packF]
    by_cases c1 : okB a b.f0 = true
    · rw [if_pos c1, p_Fits b.f1 b.f0 hb1.1 hb1.2, Option.bind_some]
      by_cases c2 : fitsB b.f1 b.f0 = true
      · obtain ⟨e1, e2, e3⟩ := pack_step c1 c2 h0 h1 hb1.1 hb1.2
        have c1' := okB_iff.1 c1
        rw [if_pos c2, if_pos h2, if_pos ⟨c1, c2⟩, e1, wrap64_id _ (by omega) (by omega), wrap64_id _ (by omega) (by omega)]
        have := ih (pre ++ [b]) k (w + b.f1 * 2 ^ a.toNat) (a + b.f0) (by simpa using hk) (by simpa using hl) e3 e2 (by omega) (by omega) (fun x hx => hb x (by simp [hx]))
        simp only [List.append_assoc, List.cons_append, List.nil_append, List.length_append, List.length_cons, List.length_nil] at this
        rw [← this]
        simp
      · rw [if_neg c2, if_neg (fun h => c2 h.2)]
    · rw [if_neg c1, if_neg (fun h => c1 h.1)]
theorem p_Pack (k : Nat) (l : List S153) (hk : l.length < k) (hl : l.length < 2 ^ 60) (hb : ∀ b ∈ l, 0 ≤ b.f1 ∧ b.f1 < 18446744073709551616) : word_Pack.f k l = some (packF l 0 0) :=
  p_Pack_l l [] k 0 0 hk hl (by decide) (by decide) (by decide) (by decide) hb
theorem packF_yes {n v : Int} {l : List S153} {w a : Int} (h1 : okB a n = true) (h2 : fitsB v n = true) : packF (⟨n, v⟩ :: l) w a = packF l (w + v * 2 ^ a.toNat) (a + n) := by
  simp only [packF]; rw [if_pos ⟨h1, h2⟩]
theorem packF_no {n v : Int} {l : List S153} {w a : Int} (h2 : fitsB v n = false) : packF (⟨n, v⟩ :: l) w a = (0, false) := by
  simp only [packF]; rw [if_neg (by rw [h2]; simp)]
theorem p_tagged16 (k : Nat) (t s : Int) (hk : 3 ≤ k) (h0 : 0 ≤ t) (h1 : t < 18446744073709551616) : tag_tagged.f k t s 16 = some (topV t s) := by
  unfold tag_tagged.f topV
  rw [p_slots, Option.bind_some]
  by_cases h : -1 ≤ s ∧ s < 64
  · rw [if_pos (by simpa using h), wrap64_id (s + 1) (by omega) (by omega), wrap_u64_id _ (by omega) (by omega), p_Pack k _ (by simp; omega) (by simp) (by
      intro b hb
      simp at hb
      rcases hb with rfl | rfl <;> simp <;> omega)]
    rw [wrap64_id (64 - _) (by decide) (by decide), packF_yes (by decide) (by simp [fitsB]; omega)]
    by_cases h2 : t < 281474976710656
    · rw [packF_yes (by decide) (by simp [fitsB]; omega), if_pos (by omega)]
      simp [packF]; omega
    · rw [packF_no (by simp [fitsB]; omega), if_neg (by omega)]; rfl
  · rw [if_neg (by simpa using h), if_neg (by omega)]
theorem p_Top (k : Nat) (t s : Int) (hk : 3 ≤ k) (h0 : 0 ≤ t) (h1 : t < 18446744073709551616) : tag_Top.f k t s = some (topV t s) := by
  unfold tag_Top.f
  rw [p_tagged16 k t s hk h0 h1]; rfl
theorem p_pWithin (k : Nat) (S A C H G K s i : Int) (hk : 1 ≤ k) :
    plan_within.f k S A C H G K s i = some (if rightB S A C H G K = true ∧ 0 ≤ s ∧ s < S ∧ 0 ≤ i ∧ i < roomV A then slotsV C H + s * roomV A + i else -1) := by
  obtain ⟨k, rfl⟩ : ∃ m, k = m + 1 := ⟨k - 1, by omega⟩
  unfold plan_within.f
  rw [p_pRight, Option.bind_some]
  by_cases h : rightB S A C H G K = true
  · have h' := right_iff.1 h
    have r := roomV_bd (A := A) (by omega) (by omega)
    have sl := slotsV_bd (C := C) (H := H) (by omega) (by omega) (by omega) (by omega)
    rw [if_pos h, p_between, Option.bind_some, wrap64_id (S - 1) (by omega) (by omega)]
    by_cases h2 : 0 ≤ s ∧ s ≤ S - 1
    · have m := mul_le2 (a := s) (b := roomV A) (m := 64) (n := 10) (by omega) (by omega) (by omega) (by omega)
      rw [if_pos (decide_eq_true h2), p_pRoom S A C H G K (by omega) (by omega), Option.bind_some, p_between, Option.bind_some, wrap64_id (roomV A - 1) (by omega) (by omega)]
      simp only [plan_within.j0]
      by_cases h3 : 0 ≤ i ∧ i ≤ roomV A - 1
      · rw [if_neg (by simp [h3]), p_pSlots S A C H G K h, Option.bind_some, p_pRoom S A C H G K (by omega) (by omega), Option.bind_some, if_pos ⟨h, by omega, by omega, by omega, by omega⟩, wrap64_id (s * roomV A) (by omega) (by omega), wrap64_id (slotsV C H + s * roomV A) (by omega) (by omega), wrap64_id _ (by omega) (by omega)]
      · rw [if_pos (by rw [decide_eq_false h3]; rfl), if_neg (by omega)]
    · rw [if_neg (by simpa using h2)]
      simp only [plan_within.j0]
      rw [if_pos trivial, if_neg (by omega)]
  · rw [if_neg h, if_neg (fun c => h c.1)]
    simp only [plan_within.j0]
    rw [if_pos trivial]
theorem p_pLink (k : Nat) (S A C H G K s : Int) (hk : 1 ≤ k) : plan_Link.f k S A C H G K s = some (if rightB S A C H G K = true ∧ 0 ≤ s ∧ s < S then slotsV C H + s * roomV A + 1 else -1) := by
  unfold plan_Link.f
  rw [p_pWithin k S A C H G K s 1 hk, Option.bind_some]
  have r : 2 ≤ roomV A := by unfold roomV; split <;> omega
  by_cases h : rightB S A C H G K = true ∧ 0 ≤ s ∧ s < S
  · rw [if_pos h, if_pos ⟨h.1, h.2.1, h.2.2, by decide, by omega⟩]
  · rw [if_neg h, if_neg (fun c => h ⟨c.1, c.2.1, c.2.2.1⟩)]
theorem p_rRight (S A C H G K : Int) : withyref06_Right.f S A C H G K = some (rightB S A C H G K) := by
  unfold withyref06_Right.f rightB
  by_cases h1 : S ≥ 1
  · rw [if_pos h1]
    by_cases h2 : S ≤ 64
    · rw [if_pos h2]
      by_cases h3 : A ≥ 0
      · rw [if_pos h3]
        by_cases h4 : A ≤ 8
        · rw [if_pos h4]
          by_cases h5 : C ≥ 1
          · rw [if_pos h5]
            by_cases h6 : C ≤ 8
            · rw [if_pos h6]
              by_cases h7 : H ≥ 1
              · rw [if_pos h7]
                by_cases h8 : H ≤ 16
                · rw [if_pos h8]
                  by_cases h9 : G ≥ 1
                  · rw [if_pos h9]
                    by_cases h10 : G ≤ 1048576
                    · rw [if_pos h10]
                      by_cases h11 : K ≥ 0
                      · rw [if_pos h11]; congr 1; rw [Bool.eq_iff_iff]; simp only [decide_eq_true_eq]; omega
                      · rw [if_neg h11, decide_eq_false (by omega)]
                    · rw [if_neg h10, decide_eq_false (by omega)]
                  · rw [if_neg h9, decide_eq_false (by omega)]
                · rw [if_neg h8, decide_eq_false (by omega)]
              · rw [if_neg h7, decide_eq_false (by omega)]
            · rw [if_neg h6, decide_eq_false (by omega)]
          · rw [if_neg h5, decide_eq_false (by omega)]
        · rw [if_neg h4, decide_eq_false (by omega)]
      · rw [if_neg h3, decide_eq_false (by omega)]
    · rw [if_neg h2, decide_eq_false (by omega)]
  · rw [if_neg h1, decide_eq_false (by omega)]
theorem p_rRoom (S A C H G K : Int) : withyref06_Room.f S A C H G K = some (if A < 3 then 3 else A) := by
  unfold withyref06_Room.f
  split <;> rfl
def pinW (c : Nat) : S91 := ⟨⟨#[112, 105, 110]⟩, (c : Int), 0⟩
def entW (c i : Nat) : S91 := ⟨⟨#[101, 110, 116, 114, 121]⟩, (c : Int), (i : Int)⟩
def vsW (c : Nat) : List S91 := [⟨⟨#[118, 105, 101, 119]⟩, (c : Int), 0⟩, ⟨⟨#[115, 116, 97, 114, 116]⟩, (c : Int), 0⟩]
def hlW (s : Nat) : List S91 := [⟨⟨#[104, 101, 97, 100, 101, 114]⟩, (s : Int), 0⟩, ⟨⟨#[108, 105, 110, 107]⟩, (s : Int), 0⟩]
def bodyW (s i : Nat) : S91 := ⟨⟨#[98, 111, 100, 121]⟩, (s : Int), (i : Int)⟩
def headsW : List S91 := [⟨⟨#[99, 108, 111, 99, 107]⟩, 0, 0⟩, ⟨⟨#[101, 112, 111, 99, 104]⟩, 0, 0⟩, ⟨⟨#[103, 114, 97, 121, 115]⟩, 0, 0⟩, ⟨⟨#[116, 111, 112]⟩, 0, 0⟩]
def roomN (A : Int) : Nat := (if A < 3 then 3 else A).toNat
def slotW (R s : Nat) : List S91 := hlW s ++ (List.range' 0 R).map (bodyW s)
def wordsL (S C H R : Nat) : List S91 :=
  headsW ++ (List.range' 0 C).map pinW ++ (List.range' 0 C).flatMap (fun c => (List.range' 0 H).map (entW c)) ++ (List.range' 0 C).flatMap vsW ++ (List.range' 0 S).flatMap (slotW R)
theorem words_l0 (S A H G K : Int) (d : Nat) : ∀ (k i : Nat) (x : List S91), x.length + d < 4398046511104 → i + d ≤ 100 →
    withyref06_Words.l0 (k + d + 1) x (i : Int) S A ((i + d : Nat) : Int) H G K = withyref06_Words.l1 k (x ++ (List.range' i d).map pinW) 0 S A ((i + d : Nat) : Int) H G K := by
  induction d with
  | zero =>
    intro k i x hx hi
    simp only [withyref06_Words.l0]
    rw [if_neg (by omega)]; simp
  | succ d ih =>
    intro k i x hx hi
    rw [show k + (d + 1) + 1 = (k + d + 1) + 1 from by omega]
    rw [withyref06_Words.l0]
    rw [if_pos (by omega), if_pos (by omega), wrap64_id _ (by omega) (by omega), show (i : Int) + 1 = ((i + 1 : Nat) : Int) from by omega, show i + (d + 1) = (i + 1) + d from by omega, ih k (i + 1) _ (by simp; omega) (by omega)]
    rw [List.range'_succ, List.map_cons]
    simp [pinW]
theorem words_l2 (S A C G K : Int) (c : Nat) (d : Nat) : ∀ (k i : Nat) (x : List S91), x.length + d < 4398046511104 → i + d ≤ 100 → c ≤ 100 →
    withyref06_Words.l2 (k + d + 1) x (c : Int) (i : Int) S A C ((i + d : Nat) : Int) G K = withyref06_Words.l1 k (x ++ (List.range' i d).map (entW c)) ((c + 1 : Nat) : Int) S A C ((i + d : Nat) : Int) G K := by
  induction d with
  | zero =>
    intro k i x hx hi hc
    simp only [withyref06_Words.l2]
    rw [if_neg (by omega), wrap64_id _ (by omega) (by omega)]; simp
  | succ d ih =>
    intro k i x hx hi hc
    rw [show k + (d + 1) + 1 = (k + d + 1) + 1 from by omega]
    rw [withyref06_Words.l2]
    rw [if_pos (by omega), if_pos (by omega), wrap64_id _ (by omega) (by omega), show (i : Int) + 1 = ((i + 1 : Nat) : Int) from by omega, show i + (d + 1) = (i + 1) + d from by omega, ih k (i + 1) _ (by simp; omega) (by omega) hc]
    rw [List.range'_succ, List.map_cons]
    simp [entW]
theorem words_l1 (S A G K : Int) (H : Nat) (hH : H ≤ 100) (d : Nat) : ∀ (k i : Nat) (x : List S91), x.length + d * H < 4398046511104 → i + d ≤ 100 →
    withyref06_Words.l1 (k + d * (H + 2) + 1) x (i : Int) S A ((i + d : Nat) : Int) (H : Int) G K = withyref06_Words.l3 k (x ++ (List.range' i d).flatMap fun c => (List.range' 0 H).map (entW c)) 0 S A ((i + d : Nat) : Int) (H : Int) G K := by
  induction d with
  | zero =>
    intro k i x hx hi
    simp only [withyref06_Words.l1]
    rw [if_neg (by omega)]; simp
  | succ d ih =>
    intro k i x hx hi
    have e : (d + 1) * H = d * H + H := by rw [Nat.add_mul, Nat.one_mul]
    rw [show k + (d + 1) * (H + 2) + 1 = ((k + d * (H + 2) + 1) + H + 1) + 1 from by rw [Nat.add_mul]; omega]
    rw [withyref06_Words.l1]
    rw [if_pos (by omega)]
    have h2 := words_l2 S A ((i + (d + 1) : Nat) : Int) G K i H (k + d * (H + 2) + 1) 0 x (by omega) (by omega) (by omega)
    rw [Nat.zero_add] at h2
    rw [show (0 : Int) = ((0 : Nat) : Int) from rfl, h2, show i + (d + 1) = (i + 1) + d from by omega, ih k (i + 1) _ (by simp; omega) (by omega)]
    rw [List.range'_succ, List.flatMap_cons]
    simp
theorem words_l3 (S A H G K : Int) (d : Nat) : ∀ (k i : Nat) (x : List S91), x.length + 2 * d < 4398046511104 → i + d ≤ 100 →
    withyref06_Words.l3 (k + d + 1) x (i : Int) S A ((i + d : Nat) : Int) H G K = withyref06_Words.l4 k (x ++ (List.range' i d).flatMap vsW) 0 S A ((i + d : Nat) : Int) H G K := by
  induction d with
  | zero =>
    intro k i x hx hi
    simp only [withyref06_Words.l3]
    rw [if_neg (by omega)]; simp
  | succ d ih =>
    intro k i x hx hi
    rw [show k + (d + 1) + 1 = (k + d + 1) + 1 from by omega]
    rw [withyref06_Words.l3]
    rw [if_pos (by omega), Option.bind_some, if_pos (by simp; omega), wrap64_id _ (by omega) (by omega), show (i : Int) + 1 = ((i + 1 : Nat) : Int) from by omega, show i + (d + 1) = (i + 1) + d from by omega, ih k (i + 1) _ (by simp; omega) (by omega)]
    rw [List.range'_succ, List.flatMap_cons]
    simp [vsW]
theorem words_l5 (S A C H G K : Int) (s : Nat) (d : Nat) : ∀ (k i : Nat) (x : List S91), x.length + d < 4398046511104 → i + d = roomN A → A ≤ 100 → s ≤ 100 →
    withyref06_Words.l5 (k + d + 1) x (s : Int) (i : Int) S A C H G K = withyref06_Words.l4 k (x ++ (List.range' i d).map (bodyW s)) ((s + 1 : Nat) : Int) S A C H G K := by
  have hr : (if A < 3 then 3 else A) = ((roomN A : Nat) : Int) := by unfold roomN; split <;> omega
  have hb : A ≤ 100 → roomN A ≤ 100 := by intro h; unfold roomN; split <;> omega
  induction d with
  | zero =>
    intro k i x hx hi hA hs
    simp only [withyref06_Words.l5]
    rw [p_rRoom, Option.bind_some, hr, if_neg (by omega), wrap64_id _ (by omega) (by omega)]; simp
  | succ d ih =>
    intro k i x hx hi hA hs
    have := hb hA
    rw [show k + (d + 1) + 1 = (k + d + 1) + 1 from by omega]
    rw [withyref06_Words.l5]
    rw [p_rRoom, Option.bind_some, hr, if_pos (by omega), if_pos (by omega), wrap64_id _ (by omega) (by omega), show (i : Int) + 1 = ((i + 1 : Nat) : Int) from by omega, ih k (i + 1) _ (by simp; omega) (by omega) hA hs]
    rw [List.range'_succ, List.map_cons]
    simp [bodyW]
theorem words_l4 (A C H G K : Int) (hA : A ≤ 100) (d : Nat) : ∀ (k i : Nat) (x : List S91), x.length + d * (roomN A + 2) < 4398046511104 → i + d ≤ 100 →
    withyref06_Words.l4 (k + d * (roomN A + 2) + 1) x (i : Int) ((i + d : Nat) : Int) A C H G K = some (x ++ (List.range' i d).flatMap (slotW (roomN A))) := by
  induction d with
  | zero =>
    intro k i x hx hi
    simp only [withyref06_Words.l4]
    rw [if_neg (by omega)]; simp
  | succ d ih =>
    intro k i x hx hi
    have e : (d + 1) * (roomN A + 2) = d * (roomN A + 2) + (roomN A + 2) := by rw [Nat.add_mul, Nat.one_mul]
    rw [show k + (d + 1) * (roomN A + 2) + 1 = ((k + d * (roomN A + 2) + 1) + roomN A + 1) + 1 from by omega]
    rw [withyref06_Words.l4]
    rw [if_pos (by omega), Option.bind_some, if_pos (by simp; omega)]
    rw [show (0 : Int) = ((0 : Nat) : Int) from rfl, words_l5 _ A C H G K i (roomN A) (k + d * (roomN A + 2) + 1) 0 _ (by simp; omega) (by omega) hA (by omega), show i + (d + 1) = (i + 1) + d from by omega, ih k (i + 1) _ (by simp; omega) (by omega)]
    rw [List.range'_succ, List.flatMap_cons]
    simp [slotW, hlW]
theorem sum_const (m : Nat) : ∀ (l : List Nat), (l.map fun _ => m).sum = l.length * m := by
  intro l
  induction l with
  | nil => simp
  | cons a l ih => rw [List.map_cons, List.sum_cons, ih, List.length_cons, Nat.add_mul]; omega
theorem ents_len (C H : Nat) : ((List.range' 0 C).flatMap (fun c => (List.range' 0 H).map (entW c))).length = C * H := by
  rw [List.length_flatMap]
  have := sum_const H (List.range' 0 C)
  simpa using this
theorem vs_len (C : Nat) : ((List.range' 0 C).flatMap vsW).length = C * 2 := by
  rw [List.length_flatMap]
  have := sum_const 2 (List.range' 0 C)
  simpa [vsW] using this
theorem p_rWords (k : Nat) (S C H : Nat) (A G K : Int) (hk : 2000 ≤ k) (hS : S ≤ 64) (hC : C ≤ 8) (hH : H ≤ 16) (hA : A ≤ 8) : withyref06_Words.f k (S : Int) A (C : Int) (H : Int) G K = some (wordsL S C H (roomN A)) := by
  have hR : roomN A ≤ 8 := by unfold roomN; split <;> omega
  have b1 : S * (roomN A + 2) ≤ 64 * 10 := Nat.mul_le_mul hS (by omega)
  have b2 : C * (H + 2) ≤ 8 * 18 := Nat.mul_le_mul hC (by omega)
  have b3 : C * H ≤ 8 * 16 := Nat.mul_le_mul hC hH
  refine at_rounds (k := (((0 + S * (roomN A + 2) + 1) + C + 1) + C * (H + 2) + 1) + C + 1) (withyref06_Words.mono _ _ _ _ _ _) (by omega) ?_
  have h0 := words_l0 S A H G K C (((0 + S * (roomN A + 2) + 1) + C + 1) + C * (H + 2) + 1) 0 headsW (by simp [headsW]; omega) (by omega)
  have h1 := words_l1 S A G K H (by omega) C ((0 + S * (roomN A + 2) + 1) + C + 1) 0 (headsW ++ (List.range' 0 C).map pinW) (by simp [headsW]; omega) (by omega)
  have l2 := ents_len C H
  have h3 := words_l3 S A H G K C (0 + S * (roomN A + 2) + 1) 0 (headsW ++ (List.range' 0 C).map pinW ++ (List.range' 0 C).flatMap (fun c => (List.range' 0 H).map (entW c))) (by rw [List.length_append, l2]; simp [headsW]; omega) (by omega)
  have l3 := vs_len C
  have h4 := words_l4 A C H G K (by omega) S 0 0 (headsW ++ (List.range' 0 C).map pinW ++ (List.range' 0 C).flatMap (fun c => (List.range' 0 H).map (entW c)) ++ (List.range' 0 C).flatMap vsW) (by rw [List.length_append, List.length_append, l2, l3]; simp [headsW]; omega) (by omega)
  simp only [Nat.zero_add] at h0 h1 h3 h4
  unfold withyref06_Words.f
  simp only [Nat.zero_add]
  exact (h0.trans (h1.trans (h3.trans h4)))
theorem wordsL_length (S C H R : Nat) : (wordsL S C H R).length = 4 + C + C * H + C * 2 + S * (R + 2) := by
  unfold wordsL
  simp only [List.length_append, List.length_flatMap, List.length_map, List.length_range']
  have e1 : ((List.range' 0 C).map fun _ => H).sum = C * H := by rw [sum_const]; simp
  have e2 : ((List.range' 0 C).map fun a => (vsW a).length).sum = C * 2 := by
    have := sum_const 2 (List.range' 0 C)
    simpa [vsW] using this
  have e3 : ((List.range' 0 S).map fun a => (slotW R a).length).sum = S * (R + 2) := by
    have := sum_const (R + 2) (List.range' 0 S)
    simp only [List.length_range'] at this
    rw [← this]
    congr 1
    apply List.map_congr_left
    intro a _
    simp [slotW, hlW]
  rw [e1, e2, e3]
  rfl
theorem sizes_eq (S C H : Nat) (A : Int) : ((wordsL S C H (roomN A)).length : Int) = sizeV (S : Int) A (C : Int) (H : Int) := by
  have e : ((roomN A : Nat) : Int) = (if A < 3 then 3 else A) := by unfold roomN; split <;> omega
  rw [wordsL_length]
  unfold sizeV slotsV roomV
  rw [← e]
  simp only [Int.natCast_add, Int.natCast_mul, Int.mul_add]
  omega
def posW (C H R : Int) (x : S91) : Int :=
  if x.f0.data.toList = [99, 108, 111, 99, 107] then 0 else if x.f0.data.toList = [101, 112, 111, 99, 104] then 1 else if x.f0.data.toList = [103, 114, 97, 121, 115] then 2 else if x.f0.data.toList = [116, 111, 112] then 3
  else if x.f0.data.toList = [112, 105, 110] then 4 + x.f1 else if x.f0.data.toList = [101, 110, 116, 114, 121] then 4 + C + x.f1 * H + x.f2
  else if x.f0.data.toList = [118, 105, 101, 119] then 4 + (1 + H) * C + x.f1 * 2 else if x.f0.data.toList = [115, 116, 97, 114, 116] then 4 + (1 + H) * C + x.f1 * 2 + 1
  else if x.f0.data.toList = [104, 101, 97, 100, 101, 114] then 4 + C * (1 + H + 2) + x.f1 * (2 + R) else if x.f0.data.toList = [108, 105, 110, 107] then 4 + C * (1 + H + 2) + x.f1 * (2 + R) + 1
  else 4 + C * (1 + H + 2) + x.f1 * (2 + R) + (2 + x.f2)
def Idx (pos : S91 → Int) (b : Int) (l : List S91) : Prop := ∀ (j : Nat) (p : S91), l[j]? = some p → pos p = b + j
theorem Idx.append {pos : S91 → Int} {b : Int} {l m : List S91} (hl : Idx pos b l) (hm : Idx pos (b + l.length) m) : Idx pos b (l ++ m) := by
  intro j p h
  by_cases hj : j < l.length
  · rw [List.getElem?_append_left hj] at h; exact hl j p h
  · rw [List.getElem?_append_right (by omega)] at h
    have := hm _ p h
    omega
theorem Idx.map {pos : S91 → Int} {f : Nat → S91} {b : Int} (n : Nat) (h : ∀ k : Nat, pos (f k) = b + k) : ∀ i : Nat, Idx pos (b + i) ((List.range' i n).map f) := by
  induction n with
  | zero => intro i j p hp; simp at hp
  | succ n ih =>
    intro i j p hp
    rw [List.range'_succ, List.map_cons] at hp
    match j, hp with
    | 0, hp => simp at hp; subst hp; rw [h]; omega
    | j + 1, hp =>
      rw [List.getElem?_cons_succ] at hp
      have := ih (i + 1) j p hp
      omega
theorem Idx.flat {pos : S91 → Int} {f : Nat → List S91} {b : Int} {m : Nat} (n : Nat) (hm : ∀ k, (f k).length = m) (h : ∀ k : Nat, Idx pos (b + k * m) (f k)) : ∀ i : Nat, Idx pos (b + i * m) ((List.range' i n).flatMap f) := by
  induction n with
  | zero => intro i j p hp; simp at hp
  | succ n ih =>
    intro i
    rw [List.range'_succ, List.flatMap_cons]
    refine (h i).append ?_
    have := ih (i + 1)
    rw [hm i, show b + (i : Int) * (m : Int) + (m : Int) = b + ((i + 1 : Nat) : Int) * (m : Int) from by rw [Int.natCast_add, Int.add_mul]; omega]
    exact this
theorem pos_pin (C H R : Int) (k : Nat) : posW C H R (pinW k) = 4 + k := by simp [posW, pinW]
theorem pos_ent (C H R : Int) (c i : Nat) : posW C H R (entW c i) = 4 + C + c * H + i := by simp [posW, entW]
theorem pos_body (C H R : Int) (s i : Nat) : posW C H R (bodyW s i) = 4 + C * (1 + H + 2) + s * (2 + R) + (2 + i) := by simp [posW, bodyW]
theorem idx_words (S C H R : Nat) : Idx (posW C H R) 0 (wordsL S C H R) := by
  unfold wordsL
  have l1 := ents_len C H
  have l2 := vs_len C
  refine (((Idx.append ?_ ?_).append ?_).append ?_).append ?_
  · intro j p hp
    match j, hp with
    | 0, hp => simp [headsW] at hp; subst hp; simp [posW]
    | 1, hp => simp [headsW] at hp; subst hp; simp [posW]
    | 2, hp => simp [headsW] at hp; subst hp; simp [posW]
    | 3, hp => simp [headsW] at hp; subst hp; simp [posW]
    | j + 4, hp => simp [headsW] at hp
  · have := Idx.map (pos := posW C H R) (f := pinW) (b := 4) C (fun k => pos_pin _ _ _ k) 0
    exact this
  · have := Idx.flat (pos := posW C H R) (f := fun c => (List.range' 0 H).map (entW c)) (b := 4 + C) (m := H) C (fun k => by simp) (fun k => by
      have := Idx.map (pos := posW C H R) (f := entW k) (b := 4 + C + k * H) H (fun i => by rw [pos_ent]) 0
      simpa using this) 0
    simp only [List.length_append, List.length_map, List.length_range'] at this ⊢
    rw [show (0 : Int) + ((headsW.length + C : Nat) : Int) = 4 + C + ((0 : Nat) : Int) * H from by simp [headsW]]
    exact this
  · have := Idx.flat (pos := posW C H R) (f := vsW) (b := 4 + (1 + H) * C) (m := 2) C (fun k => rfl) (fun k => by
      intro j p hp
      match j, hp with
      | 0, hp => simp [vsW] at hp; subst hp; simp [posW]
      | 1, hp => simp [vsW] at hp; subst hp; simp [posW]
      | j + 2, hp => simp [vsW] at hp) 0
    simp only [List.length_append, l1, List.length_map, List.length_range'] at this ⊢
    rw [show (0 : Int) + ((headsW.length + C + C * H : Nat) : Int) = 4 + (1 + (H : Int)) * C + ((0 : Nat) : Int) * ((2 : Nat) : Int) from by
      simp [headsW]
      have e : (1 + (H : Int)) * C = C + C * H := by rw [Int.add_mul, Int.one_mul, Int.mul_comm (H : Int)]
      omega]
    exact this
  · have := Idx.flat (pos := posW C H R) (f := slotW R) (b := 4 + C * (1 + H + 2)) (m := 2 + R) S (fun k => by simp [slotW, hlW]; omega) (fun k => by
      unfold slotW
      refine Idx.append ?_ ?_
      · intro j p hp
        match j, hp with
        | 0, hp => simp [hlW] at hp; subst hp; simp [posW]
        | 1, hp => simp [hlW] at hp; subst hp; simp [posW]
        | j + 2, hp => simp [hlW] at hp
      · have := Idx.map (pos := posW C H R) (f := bodyW k) (b := 4 + C * (1 + H + 2) + k * (2 + R) + 2) R (fun i => by rw [pos_body]; omega) 0
        simpa [hlW] using this) 0
    simp only [List.length_append, l1, l2, List.length_map, List.length_range'] at this ⊢
    rw [show (0 : Int) + ((headsW.length + C + C * H + C * 2 : Nat) : Int) = 4 + (C : Int) * (1 + H + 2) + ((0 : Nat) : Int) * ((2 + R : Nat) : Int) from by simp [headsW, Int.mul_add]; omega]
    exact this
theorem same_word {x : S91} {t0 : ByteArray} {t1 t2 : Int} : (x.f0.toList == t0.toList && (x.f1 == t1 && x.f2 == t2)) = true ↔ x = ⟨t0, t1, t2⟩ := by
  constructor
  · intro h
    simp only [Bool.and_eq_true, beq_iff_eq] at h
    obtain ⟨h1, h2, h3⟩ := h
    have : x.f0 = t0 := by
      rw [toList_data, toList_data] at h1
      cases hx : x.f0
      cases ht : t0
      rw [hx, ht] at h1
      simpa using h1
    cases x
    simp_all
  · rintro rfl; simp
theorem at_l (pos : S91 → Int) (l : List S91) (hx : Idx pos 0 l) (hl : l.length < 100000) (t0 : ByteArray) (t1 t2 : Int) (d : Nat) : ∀ (k i : Nat), i + d = l.length → d < k →
    ((⟨t0, t1, t2⟩ : S91) ∈ l.drop i → withyref06_At.l0 k l (i : Int) t0 t1 t2 = some (pos ⟨t0, t1, t2⟩)) ∧ ((⟨t0, t1, t2⟩ : S91) ∉ l.drop i → withyref06_At.l0 k l (i : Int) t0 t1 t2 = some (-1)) := by
  induction d with
  | zero =>
    intro k i hi hk
    obtain ⟨k, rfl⟩ : ∃ m, k = m + 1 := ⟨k - 1, by omega⟩
    rw [withyref06_At.l0, if_neg (by omega), List.drop_eq_nil_of_le (by omega)]
    exact ⟨fun h => absurd h (by simp), fun _ => rfl⟩
  | succ d ih =>
    intro k i hi hk
    obtain ⟨k, rfl⟩ : ∃ m, k = m + 1 := ⟨k - 1, by omega⟩
    have hlt : i < l.length := by omega
    have hr : rd_T91 l (i : Int) = l[i] := by simp [rd_T91, List.getD, List.getElem?_eq_getElem hlt]
    rw [withyref06_At.l0, if_pos (by omega), if_pos (by omega), hr, List.drop_eq_getElem_cons hlt]
    by_cases c : l[i] = (⟨t0, t1, t2⟩ : S91)
    · have := hx i _ (List.getElem?_eq_getElem hlt)
      rw [if_pos (same_word.2 c), ← c, this]
      exact ⟨fun _ => by simp, fun h => absurd List.mem_cons_self h⟩
    · rw [if_neg (fun h => c (same_word.1 h)), wrap64_id _ (by omega) (by omega), show (i : Int) + 1 = ((i + 1 : Nat) : Int) from by omega]
      obtain ⟨h1, h2⟩ := ih k (i + 1) (by omega) (by omega)
      refine ⟨fun h => h1 ?_, fun h => h2 (fun m => h (List.mem_cons_of_mem _ m))⟩
      rcases List.mem_cons.1 h with h | h
      · exact absurd h.symm c
      · exact h
theorem words_len_lt {S C H R : Nat} (hS : S ≤ 64) (hC : C ≤ 8) (hH : H ≤ 16) (hR : R ≤ 8) : (wordsL S C H R).length < 1200 := by
  rw [wordsL_length]
  have b1 : S * (R + 2) ≤ 64 * 10 := Nat.mul_le_mul hS (by omega)
  have b3 : C * H ≤ 8 * 16 := Nat.mul_le_mul hC hH
  omega
theorem roomN_le {A : Int} (h : A ≤ 8) : roomN A ≤ 8 := by unfold roomN; split <;> omega
theorem p_rAt (k : Nat) (S C H : Nat) (A G K : Int) (t0 : ByteArray) (t1 t2 : Int) (hk : 2000 ≤ k) (h : rightB S A C H G K = true) (p : Prop) [Decidable p] (hp : (⟨t0, t1, t2⟩ : S91) ∈ wordsL S C H (roomN A) ↔ p) :
    withyref06_At.f k S A C H G K t0 t1 t2 = some (if p then posW C H (roomN A) ⟨t0, t1, t2⟩ else -1) := by
  unfold withyref06_At.f
  have h' := right_iff.1 h
  have hl := words_len_lt (S := S) (C := C) (H := H) (R := roomN A) (by omega) (by omega) (by omega) (roomN_le (by omega))
  rw [p_rRight, Option.bind_some, if_pos h, p_rWords k S C H A G K hk (by omega) (by omega) (by omega) (by omega), Option.bind_some]
  obtain ⟨h1, h2⟩ := at_l (posW C H (roomN A)) (wordsL S C H (roomN A)) (idx_words S C H (roomN A)) (by omega) t0 t1 t2 (wordsL S C H (roomN A)).length k 0 (by omega) (by omega)
  rw [List.drop_zero, hp] at h1 h2
  by_cases c : p
  · rw [if_pos c]; exact h1 c
  · rw [if_neg c]; exact h2 c
theorem p_rAt_no (k : Nat) (S C H : Int) (A G K : Int) (t0 : ByteArray) (t1 t2 : Int) (h : ¬ rightB S A C H G K = true) : withyref06_At.f k S A C H G K t0 t1 t2 = some (-1) := by
  unfold withyref06_At.f
  rw [p_rRight, Option.bind_some, if_neg h]
theorem mem_words {S C H R : Nat} {x : S91} : x ∈ wordsL S C H R ↔ x ∈ headsW ∨ (∃ c, c < C ∧ x = pinW c) ∨ (∃ c i, c < C ∧ i < H ∧ x = entW c i) ∨ (∃ c, c < C ∧ x ∈ vsW c) ∨ ∃ s, s < S ∧ (x ∈ hlW s ∨ ∃ i, i < R ∧ x = bodyW s i) := by
  unfold wordsL slotW
  simp only [List.mem_append, List.mem_map, List.mem_flatMap, List.mem_range'_1, Nat.zero_le, Nat.zero_add, true_and]
  constructor
  · rintro ((((h | ⟨c, hc, rfl⟩) | ⟨c, hc, i, hi, rfl⟩) | ⟨c, hc, h⟩) | ⟨s, hs, h | ⟨i, hi, rfl⟩⟩)
    · exact .inl h
    · exact .inr (.inl ⟨c, hc, rfl⟩)
    · exact .inr (.inr (.inl ⟨c, i, hc, hi, rfl⟩))
    · exact .inr (.inr (.inr (.inl ⟨c, hc, h⟩)))
    · exact .inr (.inr (.inr (.inr ⟨s, hs, .inl h⟩)))
    · exact .inr (.inr (.inr (.inr ⟨s, hs, .inr ⟨i, hi, rfl⟩⟩)))
  · rintro (h | ⟨c, hc, rfl⟩ | ⟨c, i, hc, hi, rfl⟩ | ⟨c, hc, h⟩ | ⟨s, hs, h | ⟨i, hi, rfl⟩⟩)
    · exact .inl (.inl (.inl (.inl h)))
    · exact .inl (.inl (.inl (.inr ⟨c, hc, rfl⟩)))
    · exact .inl (.inl (.inr ⟨c, hc, i, hi, rfl⟩))
    · exact .inl (.inr ⟨c, hc, h⟩)
    · exact .inr ⟨s, hs, .inl h⟩
    · exact .inr ⟨s, hs, .inr ⟨i, hi, rfl⟩⟩
theorem mem_link {S C H R : Nat} {a : Int} : (⟨⟨#[108, 105, 110, 107]⟩, a, 0⟩ : S91) ∈ wordsL S C H R ↔ 0 ≤ a ∧ a < S := by
  rw [mem_words]
  simp only [headsW, pinW, entW, vsW, hlW, bodyW, List.mem_cons, List.not_mem_nil, S91.mk.injEq, ByteArray.mk.injEq]
  simp
  constructor
  · rintro ⟨c, hc, rfl⟩; omega
  · intro h; exact ⟨a.toNat, by omega, by omega⟩
theorem mem_body {S C H R : Nat} {a b : Int} : (⟨⟨#[98, 111, 100, 121]⟩, a, b⟩ : S91) ∈ wordsL S C H R ↔ 0 ≤ a ∧ a < S ∧ 0 ≤ b ∧ b < R := by
  rw [mem_words]
  simp only [headsW, pinW, entW, vsW, hlW, bodyW, List.mem_cons, List.not_mem_nil, S91.mk.injEq, ByteArray.mk.injEq]
  simp
  constructor
  · rintro ⟨c, hc, i, hi, rfl, rfl⟩; omega
  · intro h; exact ⟨a.toNat, by omega, b.toNat, by omega, by omega, by omega⟩
end Go.Proofs.Ytijfkpoofpcacaa.PuArenaPlays
end
section
namespace Go.Proofs.Ytijfkpoofpcacaa.Blk
open Go.RowKit
def Blk (w : World) (b : Nat) (t : TypeId) (cs : Array Value) : Prop := w.heap[b]? = some (.cells cs t (0, 0))
theorem Blk.lt {w : World} {b t cs} (h : Blk w b t cs) : b < w.heap.size := by
  unfold Blk at h
  rcases Nat.lt_or_ge b w.heap.size with hl | hl
  · exact hl
  · rw [Array.getElem?_eq_none hl] at h; cases h
theorem Blk.cell {w : World} {b t cs} (h : Blk w b t cs) {i : Nat} {v : Value} (hv : cs[i]? = some v) : w.cell? ⟨b, i, none⟩ = some v := by
  unfold Blk at h
  simp [World.cell?, h, hv]
theorem Blk.frozen {w : World} {b t cs} (h : Blk w b t cs) (i : Nat) : w.frozen? ⟨b, i, none⟩ = false := by
  unfold Blk at h
  simp [World.frozen?, h]
theorem Blk.set {w : World} {b t cs} (h : Blk w b t cs) (i : Nat) (v : Value) : Blk (w.setCell ⟨b, i, none⟩ v) b t (cs.setIfInBounds i v) := by
  have hl := h.lt
  unfold Blk at h ⊢
  rw [Array.getElem?_eq_getElem hl] at h
  have h' := Option.some.inj h
  have hl' : b < (w.setCell ⟨b, i, none⟩ v).heap.size := by simpa [World.setCell] using hl
  rw [Array.getElem?_eq_getElem hl']
  congr 1
  simp only [World.setCell]
  rw [Array.getElem_modify_self, h']
  rfl
theorem Blk.other {w : World} {b t cs} (h : Blk w b t cs) (p : Addr) (hp : b ≠ p.block) (v : Value) : Blk (w.setCell p v) b t cs := by
  unfold Blk at h ⊢
  rw [Below.heap_setCell w p v b hp, h]
theorem Blk.below {w w' : World} {b t cs} {n : Nat} (h : Blk w b t cs) (hb : Below n w w') (hn : b < n) : Blk w' b t cs := by
  unfold Blk at h ⊢
  rw [hb.block b hn, h]
theorem Blk.drewN {w : World} {b t cs} (h : Blk w b t cs) (n : Nat) : Blk (w.drewN n) b t cs := h
theorem Blk.drew {w : World} {b t cs} (h : Blk w b t cs) : Blk w.drew b t cs := h
theorem Blk.alloc {w : World} {b t cs} (h : Blk w b t cs) (o : Obj) : Blk (w.alloc o) b t cs := by
  have hl := h.lt
  unfold Blk at h ⊢
  rw [Below.heap_alloc w o b hl, h]
theorem Blk.new (w : World) (t : TypeId) (cs : Array Value) : Blk (w.alloc (.cells cs t)) w.heap.size t cs := by
  unfold Blk
  rw [heap_alloc_new]
def rowF (k : IntKind) (n : Nat) (f : Nat → Int) : Array Value := (Array.range n).map (fun i => Value.int k (f i))
def upd (f : Nat → Int) (i : Nat) (x : Int) : Nat → Int := fun j => if j = i then x else f j
theorem rowF_get {k : IntKind} {n : Nat} {f : Nat → Int} {i : Nat} (h : i < n) : (rowF k n f)[i]? = some (.int k (f i)) := by
  simp [rowF, h]
theorem rowF_size (k : IntKind) (n : Nat) (f : Nat → Int) : (rowF k n f).size = n := by simp [rowF]
theorem rowF_none {k : IntKind} {n : Nat} {f : Nat → Int} {i : Nat} (h : ¬ i < n) : (rowF k n f)[i]? = none := by
  rw [Array.getElem?_eq_none]; rw [rowF_size]; omega
theorem rowF_set {k : IntKind} {n : Nat} {f : Nat → Int} {i : Nat} {x : Int} : (rowF k n f).setIfInBounds i (.int k x) = rowF k n (upd f i x) := by
  refine Array.ext_getElem? fun j => ?_
  rw [Array.getElem?_setIfInBounds, rowF_size]
  by_cases hj : j < n
  · rw [rowF_get (f := upd f i x) hj]
    by_cases c : i = j
    · subst c; rw [if_pos rfl, if_pos hj]; simp [upd]
    · rw [if_neg c, rowF_get hj]; unfold upd; rw [if_neg (fun h => c h.symm)]
  · rw [rowF_none (f := upd f i x) hj]
    by_cases c : i = j
    · subst c; rw [if_pos rfl, if_neg hj]
    · rw [if_neg c, rowF_none hj]
structure Fr (S : Nat → Prop) (w w' : World) : Prop where
  os : w'.os = w.os
  tape : w'.tape = w.tape
  output : w'.output = w.output
  size : w.heap.size ≤ w'.heap.size
  keep : ∀ k, k < w.heap.size → ¬ S k → w'.heap[k]? = w.heap[k]?
theorem Fr.refl (S : Nat → Prop) (w : World) : Fr S w w := ⟨rfl, rfl, rfl, Nat.le_refl _, fun _ _ _ => rfl⟩
theorem Fr.trans {S : Nat → Prop} {a b c : World} (h : Fr S a b) (k : Fr S b c) : Fr S a c :=
  ⟨k.os.trans h.os, k.tape.trans h.tape, k.output.trans h.output, Nat.le_trans h.size k.size, fun i hi hs => (k.keep i (Nat.lt_of_lt_of_le hi h.size) hs).trans (h.keep i hi hs)⟩
theorem Fr.mono {S S' : Nat → Prop} {w w' : World} (h : Fr S w w') (hS : ∀ k, S k → S' k) : Fr S' w w' := ⟨h.os, h.tape, h.output, h.size, fun i hi hs => h.keep i hi (fun c => hs (hS i c))⟩
theorem Fr.set (S : Nat → Prop) (w : World) {p : Addr} (hp : S p.block) (v : Value) : Fr S w (w.setCell p v) := by
  refine ⟨rfl, rfl, rfl, ?_, fun k hk hs => ?_⟩
  · simp [World.setCell]
  · exact Below.heap_setCell w p v k (fun c => hs (by rw [c]; exact hp))
theorem Fr.alloc (S : Nat → Prop) (w : World) (o : Obj) : Fr S w (w.alloc o) := by
  refine ⟨rfl, rfl, rfl, ?_, fun k hk _ => Below.heap_alloc w o k hk⟩
  simp
theorem Fr.drewN (S : Nat → Prop) (w : World) (n : Nat) : Fr S w (w.drewN n) := ⟨rfl, rfl, rfl, Nat.le_refl _, fun _ _ _ => rfl⟩
theorem Fr.drew (S : Nat → Prop) (w : World) : Fr S w w.drew := ⟨rfl, rfl, rfl, Nat.le_refl _, fun _ _ _ => rfl⟩
theorem Fr.of_below {S : Nat → Prop} {w w' : World} {n : Nat} (h : Below n w w') (hn : ∀ k, k < w.heap.size → ¬ S k → k < n) : Fr S w w' := ⟨h.os, h.tape, h.output, h.size, fun k hk hs => h.block k (hn k hk hs)⟩
theorem Fr.below {S : Nat → Prop} {w w' : World} {n : Nat} (h : Fr S w w') (hn : ∀ k, k < n → k < w.heap.size ∧ ¬ S k) : Below n w w' := ⟨h.os, h.tape, h.output, h.size, fun k hk => h.keep k (hn k hk).1 (hn k hk).2⟩
theorem Blk.fr {S : Nat → Prop} {w w' : World} {b t cs} (h : Blk w b t cs) (hf : Fr S w w') (hb : ¬ S b) : Blk w' b t cs := by
  have hl := h.lt
  unfold Blk at h ⊢
  rw [hf.keep b hl hb, h]
end Go.Proofs.Ytijfkpoofpcacaa.Blk
end
