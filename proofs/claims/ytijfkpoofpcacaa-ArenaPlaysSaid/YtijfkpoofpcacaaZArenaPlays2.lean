/-
  What the law ArenaPlays needs of the seat's texts (PArenaPlaysx5, Core, PuArenaPlays, Blk, MemC, MemD, MemT, MemF, PlanC, PArenaPlaysx6, PvArenaPlays, PlanD): the words and functions that the kit's print.sh printed, and our own; no condition of its own.
-/
import Derived.Laws.Entries
import Derived.RowKit
import Derived.Below
import Derived.RowKit3
import Derived.Deep.Draws
import Derived.Laws.Rows
import Derived.Test.YtijfkpoofpcacaaRows
import Derived.WalkKit
import Derived.WalkSpells
import Derived.WalkLawsBesides
import Derived.Laws.MakeOwn
import Derived.KernelRfl
import Derived.Lib.Hide
import Derived.Outline
import Derived.Lib.SliceRun
import Derived.Lib.Walk
import Derived.Laws.AppendOwn
import Derived.Test.YtijfkpoofpcacaaZArenaPlays1
set_option linter.unusedVariables false
set_option linter.unusedSectionVars false
set_option linter.unusedSimpArgs false
section
namespace Go.Proofs.Ytijfkpoofpcacaa.PArenaPlays
open Go.RowKit Go.Proofs.YtijfkpoofpcacaaW.PrintWords Go.Proofs.YtijfkpoofpcacaaW.PrintLast Go.Proofs.YtijfkpoofpcacaaW.PrintMore
attribute [local go_sem] max2_int max_two
attribute [local go_sem high] eqA91
def withyref06_At.l0 : Nat → List (S91) → Int → ByteArray → Int → Int → Option (Int)
  | 0, _, _, _, _, _ => none
  | k + 1, x5, x6, x167000, x167001, x167002 => if x6 < (x5.length : Int) then (if 0 ≤ x6 then (if ((((rd_T91 x5 x6).f0).toList) == x167000.toList && (((rd_T91 x5 x6).f1) == x167001 && (((rd_T91 x5 x6).f2) == x167002))) = true then (some x6) else (withyref06_At.l0 k x5 (wrap64 (x6 + 1)) x167000 x167001 x167002)) else (none)) else (some (-1))
def withyref06_At.f (k : Nat) (a0_0 : Int) (a0_1 : Int) (a0_2 : Int) (a0_3 : Int) (a0_4 : Int) (a0_5 : Int) (a1_0 : ByteArray) (a1_1 : Int) (a1_2 : Int) : Option (Int) := (withyref06_Right.f a0_0 a0_1 a0_2 a0_3 a0_4 a0_5).bind fun t167 => (if t167 = true then ((withyref06_Words.f k a0_0 a0_1 a0_2 a0_3 a0_4 a0_5).bind fun t168 => (withyref06_At.l0 k t168 0 a1_0 a1_1 a1_2)) else (some (-1)))
set_option maxHeartbeats 8000000 in
set_option maxRecDepth 100000 in
theorem withyref06_At.calls (k : Nat) (a0_0 : Int) (a0_1 : Int) (a0_2 : Int) (a0_3 : Int) (a0_4 : Int) (a0_5 : Int) (a1_0 : ByteArray) (a1_1 : Int) (a1_2 : Int) (r : Int) (w : World) (h : withyref06_At.f k a0_0 a0_1 a0_2 a0_3 a0_4 a0_5 a1_0 a1_1 a1_2 = some r) :
    Calls Try.prog 56 #[.agg #[.int .i64 a0_0, .int .i64 a0_1, .int .i64 a0_2, .int .i64 a0_3, .int .i64 a0_4, .int .i64 a0_5], .agg #[.string a1_0, .int .i64 a1_1, .int .i64 a1_2]] w fun e w' => e = .returned (.int .i64 r) ∧ Below w.heap.size w w' := by
  have hu23 := Try.underlying23
  have hu91 := Try.underlying91
  have HB := Aside0.mk (Below.refl w.heap.size w)
  have H : ((withyref06_Right.f a0_0 a0_1 a0_2 a0_3 a0_4 a0_5).bind fun t167 => (if t167 = true then ((withyref06_Words.f k a0_0 a0_1 a0_2 a0_3 a0_4 a0_5).bind fun t168 => (withyref06_At.l0 k t168 0 a1_0 a1_1 a1_2)) else (some (-1)))) = some r := h
  clear h
  replace H := Option.bind_eq_some_iff.mp H
  obtain ⟨t167, A30, H⟩ := H
  replace H : (if t167 = true then ((withyref06_Words.f k a0_0 a0_1 a0_2 a0_3 a0_4 a0_5).bind fun t168 => (withyref06_At.l0 k t168 0 a1_0 a1_1 a1_2)) else (some (-1))) = some r := H
  have A3 := Aside0.mk A30
  clear A30
  by_cases c4 : t167 = true
  · subst c4
    have H1 : ((withyref06_Words.f k a0_0 a0_1 a0_2 a0_3 a0_4 a0_5).bind fun t168 => (withyref06_At.l0 k t168 0 a1_0 a1_1 a1_2)) = some r := by rw [if_pos rfl] at H; exact H
    clear H
    have H := H1
    clear H1
    replace H := Option.bind_eq_some_iff.mp H
    obtain ⟨t168, A50, H⟩ := H
    replace H : (withyref06_At.l0 k t168 0 a1_0 a1_1 a1_2) = some r := H
    have A5 := Aside0.mk A50
    clear A50
    have H' := Aside0.mk H
    clear H
    go_enter Try.func56, Try.ntmps56
    go_wp2_with (first | ((with_reducible refine gate_dst (N := 2) rfl ?_); refine box_event ?hg (N := 2) ?hd (cs := #[.int .i64 a0_0, .int .i64 a0_1, .int .i64 a0_2, .int .i64 a0_3, .int .i64 a0_4, .int .i64 a0_5]) (t := 23) ?hr ?_; (case hd => rfl); (case hg => rfl); (case hr => first | (go_simp; done) | (go_simp; rfl)); intro gb165 hg w6 hbox hb; have n0_ := Aside0.mk (below_step (by repeat (first | (with_reducible first | exact HB.out | apply below_alloc | apply pw_below_drewN | apply below_drew1) | exact HB.out)) hb); have n1_ := Aside0.mk (hbox); have n2_ := Aside0.mk ((by rw [hg]; exact (below_size (by repeat (first | (with_reducible first | exact HB.out | apply below_alloc | apply pw_below_drewN | apply below_drew1) | exact HB.out))) : w.heap.size ≤ gb165)); have n3_ := Aside0.mk ((by rw [hg]; exact (below_size (by repeat (first | (with_reducible first | exact HB.out | apply below_alloc | apply pw_below_drewN | apply below_drew1) | exact HB.out))) : w.heap.size ≤ gb165)); clear HB; have HB := n0_; have BK165 := n1_; have GW165 := n2_; have GE165 := n3_; clear n0_ n1_ n2_ n3_; clear hb hbox hg) | ((with_reducible refine gate_dst (N := 3) rfl ?_); refine box_event ?hg (N := 3) ?hd (cs := #[.string a1_0, .int .i64 a1_1, .int .i64 a1_2]) (t := 91) ?hr ?_; (case hd => rfl); (case hg => rfl); (case hr => first | (go_simp; done) | (go_simp; rfl)); intro gb166 hg w7 hbox hb; have n0_ := Aside0.mk (blk_below (g := gb165) (o := .cells #[.int .i64 a0_0, .int .i64 a0_1, .int .i64 a0_2, .int .i64 a0_3, .int .i64 a0_4, .int .i64 a0_5] 23 (0, 0)) (by (with_reducible repeat (first | refine blk_drewN ?_ _ | refine blk_drew ?_ | refine blk_alloc ?_ _)); exact BK165.out) hb); have n1_ := Aside0.mk (below_step (by repeat (first | (with_reducible first | exact HB.out | apply below_alloc | apply pw_below_drewN | apply below_drew1 | refine below_set ?_ GE165.out) | exact HB.out)) hb); have n2_ := Aside0.mk (hbox); have n3_ := Aside0.mk ((by rw [hg]; exact (below_size (by repeat (first | (with_reducible first | exact HB.out | apply below_alloc | apply pw_below_drewN | apply below_drew1 | refine below_set ?_ GE165.out) | exact HB.out))) : w.heap.size ≤ gb166)); have n4_ := Aside0.mk ((by rw [hg]; exact (below_size (by repeat (first | (with_reducible first | exact HB.out | apply below_alloc | apply pw_below_drewN | apply below_drew1 | refine below_set ?_ GE165.out) | exact HB.out))) : w.heap.size ≤ gb166)); have n5_ := Aside0.mk ((by rw [hg]; exact Nat.ne_of_lt (blk_lt (g := gb165) (o := .cells #[.int .i64 a0_0, .int .i64 a0_1, .int .i64 a0_2, .int .i64 a0_3, .int .i64 a0_4, .int .i64 a0_5] 23 (0, 0)) (by (with_reducible repeat (first | refine blk_drewN ?_ _ | refine blk_drew ?_ | refine blk_alloc ?_ _)); exact BK165.out)) : gb165 ≠ gb166)); have n6_ := Aside0.mk ((by rw [hg]; exact Nat.ne_of_gt (blk_lt (g := gb165) (o := .cells #[.int .i64 a0_0, .int .i64 a0_1, .int .i64 a0_2, .int .i64 a0_3, .int .i64 a0_4, .int .i64 a0_5] 23 (0, 0)) (by (with_reducible repeat (first | refine blk_drewN ?_ _ | refine blk_drew ?_ | refine blk_alloc ?_ _)); exact BK165.out)) : gb166 ≠ gb165)); clear BK165; clear HB; have BK165 := n0_; have HB := n1_; have BK166 := n2_; have GW166 := n3_; have GE166 := n4_; have NB165_166 := n5_; have NB166_165 := n6_; clear n0_ n1_ n2_ n3_ n4_ n5_ n6_; clear hb hbox hg; have hnb8 := NB165_166.out; have hnc8 := NB166_165.out; have hcz9_0 : w7.cell? ⟨gb165, 0, none⟩ = some (.int .i64 a0_0) := (blk_cell BK165.out 0).trans rfl; have hcz9_1 : w7.cell? ⟨gb165, 1, none⟩ = some (.int .i64 a0_1) := (blk_cell BK165.out 1).trans rfl; have hcz9_2 : w7.cell? ⟨gb165, 2, none⟩ = some (.int .i64 a0_2) := (blk_cell BK165.out 2).trans rfl; have hcz9_3 : w7.cell? ⟨gb165, 3, none⟩ = some (.int .i64 a0_3) := (blk_cell BK165.out 3).trans rfl; have hcz9_4 : w7.cell? ⟨gb165, 4, none⟩ = some (.int .i64 a0_4) := (blk_cell BK165.out 4).trans rfl; have hcz9_5 : w7.cell? ⟨gb165, 5, none⟩ = some (.int .i64 a0_5) := (blk_cell BK165.out 5).trans rfl; have hfz9_0 := blk_frozen BK165.out 0; have hfz9_1 := blk_frozen BK165.out 1; have hfz9_2 := blk_frozen BK165.out 2; have hfz9_3 := blk_frozen BK165.out 3; have hfz9_4 := blk_frozen BK165.out 4; have hfz9_5 := blk_frozen BK165.out 5) | (go_at_call 21; (with_reducible refine (withyref06_Right.calls a0_0 a0_1 a0_2 a0_3 a0_4 a0_5 true _ A3.out).mono ?_); rintro e w10 ⟨rfl, hb⟩; have n0_ := Aside0.mk (blk_below (g := gb165) (o := .cells #[.int .i64 a0_0, .int .i64 a0_1, .int .i64 a0_2, .int .i64 a0_3, .int .i64 a0_4, .int .i64 a0_5] 23 (0, 0)) (by (with_reducible repeat (first | refine blk_drewN ?_ _ | refine blk_drew ?_ | refine blk_alloc ?_ _)); exact BK165.out) hb); have n1_ := Aside0.mk (blk_below (g := gb166) (o := .cells #[.string a1_0, .int .i64 a1_1, .int .i64 a1_2] 91 (0, 0)) (by (with_reducible repeat (first | refine blk_drewN ?_ _ | refine blk_drew ?_ | refine blk_alloc ?_ _)); exact BK166.out) hb); have n2_ := Aside0.mk (below_step (by repeat (first | (with_reducible first | exact HB.out | apply below_alloc | apply pw_below_drewN | apply below_drew1 | refine below_set ?_ GE165.out | refine below_set ?_ GE166.out) | exact HB.out)) hb); clear BK165; clear BK166; clear HB; have BK165 := n0_; have BK166 := n1_; have HB := n2_; clear n0_ n1_ n2_; (try clear hb); (try clear hb2); (try clear hk); (try clear hi); have hcz11_0 : w10.cell? ⟨gb165, 0, none⟩ = some (.int .i64 a0_0) := (blk_cell BK165.out 0).trans rfl; have hcz11_1 : w10.cell? ⟨gb165, 1, none⟩ = some (.int .i64 a0_1) := (blk_cell BK165.out 1).trans rfl; have hcz11_2 : w10.cell? ⟨gb165, 2, none⟩ = some (.int .i64 a0_2) := (blk_cell BK165.out 2).trans rfl; have hcz11_3 : w10.cell? ⟨gb165, 3, none⟩ = some (.int .i64 a0_3) := (blk_cell BK165.out 3).trans rfl; have hcz11_4 : w10.cell? ⟨gb165, 4, none⟩ = some (.int .i64 a0_4) := (blk_cell BK165.out 4).trans rfl; have hcz11_5 : w10.cell? ⟨gb165, 5, none⟩ = some (.int .i64 a0_5) := (blk_cell BK165.out 5).trans rfl; have hfz11_0 := blk_frozen BK165.out 0; have hfz11_1 := blk_frozen BK165.out 1; have hfz11_2 := blk_frozen BK165.out 2; have hfz11_3 := blk_frozen BK165.out 3; have hfz11_4 := blk_frozen BK165.out 4; have hfz11_5 := blk_frozen BK165.out 5) | (go_at_call 65; (with_reducible refine (withyref06_Words.calls k a0_0 a0_1 a0_2 a0_3 a0_4 a0_5 t168 _ A5.out).mono ?_); rintro e w12 ⟨v169, rfl, ho0, hb⟩; have n0_ := Aside0.mk (Kd.R_lower (Kd.R_newB ho0 (g := gb166) (o := .cells #[.string a1_0, .int .i64 a1_1, .int .i64 a1_2] 91 (0, 0)) (by (with_reducible repeat (first | refine blk_drewN ?_ _ | refine blk_drew ?_ | refine blk_alloc ?_ _)); exact BK166.out)) (below_size (by repeat (first | (with_reducible first | exact HB.out | apply below_alloc | apply pw_below_drewN | apply below_drew1 | refine below_set ?_ GE165.out | refine below_set ?_ GE166.out) | exact HB.out)))); have n1_ := Aside0.mk (blk_below (g := gb165) (o := .cells #[.int .i64 a0_0, .int .i64 a0_1, .int .i64 a0_2, .int .i64 a0_3, .int .i64 a0_4, .int .i64 a0_5] 23 (0, 0)) (by (with_reducible repeat (first | refine blk_drewN ?_ _ | refine blk_drew ?_ | refine blk_alloc ?_ _)); exact BK165.out) hb); have n2_ := Aside0.mk (blk_below (g := gb166) (o := .cells #[.string a1_0, .int .i64 a1_1, .int .i64 a1_2] 91 (0, 0)) (by (with_reducible repeat (first | refine blk_drewN ?_ _ | refine blk_drew ?_ | refine blk_alloc ?_ _)); exact BK166.out) hb); have n3_ := Aside0.mk (below_step (by repeat (first | (with_reducible first | exact HB.out | apply below_alloc | apply pw_below_drewN | apply below_drew1 | refine below_set ?_ GE165.out | refine below_set ?_ GE166.out) | exact HB.out)) hb); clear BK165; clear BK166; clear HB; have HO170 := n0_; have BK165 := n1_; have BK166 := n2_; have HB := n3_; clear n0_ n1_ n2_ n3_; (try clear hb); (try clear hb2); (try clear hk); (try clear hi); (try clear ho0)))
    repeat (go_quiet (first | ((with_reducible refine gate_dst (N := 2) rfl ?_); refine box_event ?hg (N := 2) ?hd (cs := #[.int .i64 a0_0, .int .i64 a0_1, .int .i64 a0_2, .int .i64 a0_3, .int .i64 a0_4, .int .i64 a0_5]) (t := 23) ?hr ?_; (case hd => rfl); (case hg => rfl); (case hr => first | (go_simp; done) | (go_simp; rfl)); intro gb165 hg w6 hbox hb; have n0_ := Aside0.mk (below_step (by repeat (first | (with_reducible first | exact HB.out | apply below_alloc | apply pw_below_drewN | apply below_drew1) | exact HB.out)) hb); have n1_ := Aside0.mk (hbox); have n2_ := Aside0.mk ((by rw [hg]; exact (below_size (by repeat (first | (with_reducible first | exact HB.out | apply below_alloc | apply pw_below_drewN | apply below_drew1) | exact HB.out))) : w.heap.size ≤ gb165)); have n3_ := Aside0.mk ((by rw [hg]; exact (below_size (by repeat (first | (with_reducible first | exact HB.out | apply below_alloc | apply pw_below_drewN | apply below_drew1) | exact HB.out))) : w.heap.size ≤ gb165)); clear HB; have HB := n0_; have BK165 := n1_; have GW165 := n2_; have GE165 := n3_; clear n0_ n1_ n2_ n3_; clear hb hbox hg) | ((with_reducible refine gate_dst (N := 3) rfl ?_); refine box_event ?hg (N := 3) ?hd (cs := #[.string a1_0, .int .i64 a1_1, .int .i64 a1_2]) (t := 91) ?hr ?_; (case hd => rfl); (case hg => rfl); (case hr => first | (go_simp; done) | (go_simp; rfl)); intro gb166 hg w7 hbox hb; have n0_ := Aside0.mk (blk_below (g := gb165) (o := .cells #[.int .i64 a0_0, .int .i64 a0_1, .int .i64 a0_2, .int .i64 a0_3, .int .i64 a0_4, .int .i64 a0_5] 23 (0, 0)) (by (with_reducible repeat (first | refine blk_drewN ?_ _ | refine blk_drew ?_ | refine blk_alloc ?_ _)); exact BK165.out) hb); have n1_ := Aside0.mk (below_step (by repeat (first | (with_reducible first | exact HB.out | apply below_alloc | apply pw_below_drewN | apply below_drew1 | refine below_set ?_ GE165.out) | exact HB.out)) hb); have n2_ := Aside0.mk (hbox); have n3_ := Aside0.mk ((by rw [hg]; exact (below_size (by repeat (first | (with_reducible first | exact HB.out | apply below_alloc | apply pw_below_drewN | apply below_drew1 | refine below_set ?_ GE165.out) | exact HB.out))) : w.heap.size ≤ gb166)); have n4_ := Aside0.mk ((by rw [hg]; exact (below_size (by repeat (first | (with_reducible first | exact HB.out | apply below_alloc | apply pw_below_drewN | apply below_drew1 | refine below_set ?_ GE165.out) | exact HB.out))) : w.heap.size ≤ gb166)); have n5_ := Aside0.mk ((by rw [hg]; exact Nat.ne_of_lt (blk_lt (g := gb165) (o := .cells #[.int .i64 a0_0, .int .i64 a0_1, .int .i64 a0_2, .int .i64 a0_3, .int .i64 a0_4, .int .i64 a0_5] 23 (0, 0)) (by (with_reducible repeat (first | refine blk_drewN ?_ _ | refine blk_drew ?_ | refine blk_alloc ?_ _)); exact BK165.out)) : gb165 ≠ gb166)); have n6_ := Aside0.mk ((by rw [hg]; exact Nat.ne_of_gt (blk_lt (g := gb165) (o := .cells #[.int .i64 a0_0, .int .i64 a0_1, .int .i64 a0_2, .int .i64 a0_3, .int .i64 a0_4, .int .i64 a0_5] 23 (0, 0)) (by (with_reducible repeat (first | refine blk_drewN ?_ _ | refine blk_drew ?_ | refine blk_alloc ?_ _)); exact BK165.out)) : gb166 ≠ gb165)); clear BK165; clear HB; have BK165 := n0_; have HB := n1_; have BK166 := n2_; have GW166 := n3_; have GE166 := n4_; have NB165_166 := n5_; have NB166_165 := n6_; clear n0_ n1_ n2_ n3_ n4_ n5_ n6_; clear hb hbox hg; have hnb8 := NB165_166.out; have hnc8 := NB166_165.out; have hcz9_0 : w7.cell? ⟨gb165, 0, none⟩ = some (.int .i64 a0_0) := (blk_cell BK165.out 0).trans rfl; have hcz9_1 : w7.cell? ⟨gb165, 1, none⟩ = some (.int .i64 a0_1) := (blk_cell BK165.out 1).trans rfl; have hcz9_2 : w7.cell? ⟨gb165, 2, none⟩ = some (.int .i64 a0_2) := (blk_cell BK165.out 2).trans rfl; have hcz9_3 : w7.cell? ⟨gb165, 3, none⟩ = some (.int .i64 a0_3) := (blk_cell BK165.out 3).trans rfl; have hcz9_4 : w7.cell? ⟨gb165, 4, none⟩ = some (.int .i64 a0_4) := (blk_cell BK165.out 4).trans rfl; have hcz9_5 : w7.cell? ⟨gb165, 5, none⟩ = some (.int .i64 a0_5) := (blk_cell BK165.out 5).trans rfl; have hfz9_0 := blk_frozen BK165.out 0; have hfz9_1 := blk_frozen BK165.out 1; have hfz9_2 := blk_frozen BK165.out 2; have hfz9_3 := blk_frozen BK165.out 3; have hfz9_4 := blk_frozen BK165.out 4; have hfz9_5 := blk_frozen BK165.out 5) | (go_at_call 21; (with_reducible refine (withyref06_Right.calls a0_0 a0_1 a0_2 a0_3 a0_4 a0_5 true _ A3.out).mono ?_); rintro e w10 ⟨rfl, hb⟩; have n0_ := Aside0.mk (blk_below (g := gb165) (o := .cells #[.int .i64 a0_0, .int .i64 a0_1, .int .i64 a0_2, .int .i64 a0_3, .int .i64 a0_4, .int .i64 a0_5] 23 (0, 0)) (by (with_reducible repeat (first | refine blk_drewN ?_ _ | refine blk_drew ?_ | refine blk_alloc ?_ _)); exact BK165.out) hb); have n1_ := Aside0.mk (blk_below (g := gb166) (o := .cells #[.string a1_0, .int .i64 a1_1, .int .i64 a1_2] 91 (0, 0)) (by (with_reducible repeat (first | refine blk_drewN ?_ _ | refine blk_drew ?_ | refine blk_alloc ?_ _)); exact BK166.out) hb); have n2_ := Aside0.mk (below_step (by repeat (first | (with_reducible first | exact HB.out | apply below_alloc | apply pw_below_drewN | apply below_drew1 | refine below_set ?_ GE165.out | refine below_set ?_ GE166.out) | exact HB.out)) hb); clear BK165; clear BK166; clear HB; have BK165 := n0_; have BK166 := n1_; have HB := n2_; clear n0_ n1_ n2_; (try clear hb); (try clear hb2); (try clear hk); (try clear hi); have hcz11_0 : w10.cell? ⟨gb165, 0, none⟩ = some (.int .i64 a0_0) := (blk_cell BK165.out 0).trans rfl; have hcz11_1 : w10.cell? ⟨gb165, 1, none⟩ = some (.int .i64 a0_1) := (blk_cell BK165.out 1).trans rfl; have hcz11_2 : w10.cell? ⟨gb165, 2, none⟩ = some (.int .i64 a0_2) := (blk_cell BK165.out 2).trans rfl; have hcz11_3 : w10.cell? ⟨gb165, 3, none⟩ = some (.int .i64 a0_3) := (blk_cell BK165.out 3).trans rfl; have hcz11_4 : w10.cell? ⟨gb165, 4, none⟩ = some (.int .i64 a0_4) := (blk_cell BK165.out 4).trans rfl; have hcz11_5 : w10.cell? ⟨gb165, 5, none⟩ = some (.int .i64 a0_5) := (blk_cell BK165.out 5).trans rfl; have hfz11_0 := blk_frozen BK165.out 0; have hfz11_1 := blk_frozen BK165.out 1; have hfz11_2 := blk_frozen BK165.out 2; have hfz11_3 := blk_frozen BK165.out 3; have hfz11_4 := blk_frozen BK165.out 4; have hfz11_5 := blk_frozen BK165.out 5) | (go_at_call 65; (with_reducible refine (withyref06_Words.calls k a0_0 a0_1 a0_2 a0_3 a0_4 a0_5 t168 _ A5.out).mono ?_); rintro e w12 ⟨v169, rfl, ho0, hb⟩; have n0_ := Aside0.mk (Kd.R_lower (Kd.R_newB ho0 (g := gb166) (o := .cells #[.string a1_0, .int .i64 a1_1, .int .i64 a1_2] 91 (0, 0)) (by (with_reducible repeat (first | refine blk_drewN ?_ _ | refine blk_drew ?_ | refine blk_alloc ?_ _)); exact BK166.out)) (below_size (by repeat (first | (with_reducible first | exact HB.out | apply below_alloc | apply pw_below_drewN | apply below_drew1 | refine below_set ?_ GE165.out | refine below_set ?_ GE166.out) | exact HB.out)))); have n1_ := Aside0.mk (blk_below (g := gb165) (o := .cells #[.int .i64 a0_0, .int .i64 a0_1, .int .i64 a0_2, .int .i64 a0_3, .int .i64 a0_4, .int .i64 a0_5] 23 (0, 0)) (by (with_reducible repeat (first | refine blk_drewN ?_ _ | refine blk_drew ?_ | refine blk_alloc ?_ _)); exact BK165.out) hb); have n2_ := Aside0.mk (blk_below (g := gb166) (o := .cells #[.string a1_0, .int .i64 a1_1, .int .i64 a1_2] 91 (0, 0)) (by (with_reducible repeat (first | refine blk_drewN ?_ _ | refine blk_drew ?_ | refine blk_alloc ?_ _)); exact BK166.out) hb); have n3_ := Aside0.mk (below_step (by repeat (first | (with_reducible first | exact HB.out | apply below_alloc | apply pw_below_drewN | apply below_drew1 | refine below_set ?_ GE165.out | refine below_set ?_ GE166.out) | exact HB.out)) hb); clear BK165; clear BK166; clear HB; have HO170 := n0_; have BK165 := n1_; have BK166 := n2_; have HB := n3_; clear n0_ n1_ n2_ n3_; (try clear hb); (try clear hb2); (try clear hk); (try clear hi); (try clear ho0))); try go_wp2_with (first | ((with_reducible refine gate_dst (N := 2) rfl ?_); refine box_event ?hg (N := 2) ?hd (cs := #[.int .i64 a0_0, .int .i64 a0_1, .int .i64 a0_2, .int .i64 a0_3, .int .i64 a0_4, .int .i64 a0_5]) (t := 23) ?hr ?_; (case hd => rfl); (case hg => rfl); (case hr => first | (go_simp; done) | (go_simp; rfl)); intro gb165 hg w6 hbox hb; have n0_ := Aside0.mk (below_step (by repeat (first | (with_reducible first | exact HB.out | apply below_alloc | apply pw_below_drewN | apply below_drew1) | exact HB.out)) hb); have n1_ := Aside0.mk (hbox); have n2_ := Aside0.mk ((by rw [hg]; exact (below_size (by repeat (first | (with_reducible first | exact HB.out | apply below_alloc | apply pw_below_drewN | apply below_drew1) | exact HB.out))) : w.heap.size ≤ gb165)); have n3_ := Aside0.mk ((by rw [hg]; exact (below_size (by repeat (first | (with_reducible first | exact HB.out | apply below_alloc | apply pw_below_drewN | apply below_drew1) | exact HB.out))) : w.heap.size ≤ gb165)); clear HB; have HB := n0_; have BK165 := n1_; have GW165 := n2_; have GE165 := n3_; clear n0_ n1_ n2_ n3_; clear hb hbox hg) | ((with_reducible refine gate_dst (N := 3) rfl ?_); refine box_event ?hg (N := 3) ?hd (cs := #[.string a1_0, .int .i64 a1_1, .int .i64 a1_2]) (t := 91) ?hr ?_; (case hd => rfl); (case hg => rfl); (case hr => first | (go_simp; done) | (go_simp; rfl)); intro gb166 hg w7 hbox hb; have n0_ := Aside0.mk (blk_below (g := gb165) (o := .cells #[.int .i64 a0_0, .int .i64 a0_1, .int .i64 a0_2, .int .i64 a0_3, .int .i64 a0_4, .int .i64 a0_5] 23 (0, 0)) (by (with_reducible repeat (first | refine blk_drewN ?_ _ | refine blk_drew ?_ | refine blk_alloc ?_ _)); exact BK165.out) hb); have n1_ := Aside0.mk (below_step (by repeat (first | (with_reducible first | exact HB.out | apply below_alloc | apply pw_below_drewN | apply below_drew1 | refine below_set ?_ GE165.out) | exact HB.out)) hb); have n2_ := Aside0.mk (hbox); have n3_ := Aside0.mk ((by rw [hg]; exact (below_size (by repeat (first | (with_reducible first | exact HB.out | apply below_alloc | apply pw_below_drewN | apply below_drew1 | refine below_set ?_ GE165.out) | exact HB.out))) : w.heap.size ≤ gb166)); have n4_ := Aside0.mk ((by rw [hg]; exact (below_size (by repeat (first | (with_reducible first | exact HB.out | apply below_alloc | apply pw_below_drewN | apply below_drew1 | refine below_set ?_ GE165.out) | exact HB.out))) : w.heap.size ≤ gb166)); have n5_ := Aside0.mk ((by rw [hg]; exact Nat.ne_of_lt (blk_lt (g := gb165) (o := .cells #[.int .i64 a0_0, .int .i64 a0_1, .int .i64 a0_2, .int .i64 a0_3, .int .i64 a0_4, .int .i64 a0_5] 23 (0, 0)) (by (with_reducible repeat (first | refine blk_drewN ?_ _ | refine blk_drew ?_ | refine blk_alloc ?_ _)); exact BK165.out)) : gb165 ≠ gb166)); have n6_ := Aside0.mk ((by rw [hg]; exact Nat.ne_of_gt (blk_lt (g := gb165) (o := .cells #[.int .i64 a0_0, .int .i64 a0_1, .int .i64 a0_2, .int .i64 a0_3, .int .i64 a0_4, .int .i64 a0_5] 23 (0, 0)) (by (with_reducible repeat (first | refine blk_drewN ?_ _ | refine blk_drew ?_ | refine blk_alloc ?_ _)); exact BK165.out)) : gb166 ≠ gb165)); clear BK165; clear HB; have BK165 := n0_; have HB := n1_; have BK166 := n2_; have GW166 := n3_; have GE166 := n4_; have NB165_166 := n5_; have NB166_165 := n6_; clear n0_ n1_ n2_ n3_ n4_ n5_ n6_; clear hb hbox hg; have hnb8 := NB165_166.out; have hnc8 := NB166_165.out; have hcz9_0 : w7.cell? ⟨gb165, 0, none⟩ = some (.int .i64 a0_0) := (blk_cell BK165.out 0).trans rfl; have hcz9_1 : w7.cell? ⟨gb165, 1, none⟩ = some (.int .i64 a0_1) := (blk_cell BK165.out 1).trans rfl; have hcz9_2 : w7.cell? ⟨gb165, 2, none⟩ = some (.int .i64 a0_2) := (blk_cell BK165.out 2).trans rfl; have hcz9_3 : w7.cell? ⟨gb165, 3, none⟩ = some (.int .i64 a0_3) := (blk_cell BK165.out 3).trans rfl; have hcz9_4 : w7.cell? ⟨gb165, 4, none⟩ = some (.int .i64 a0_4) := (blk_cell BK165.out 4).trans rfl; have hcz9_5 : w7.cell? ⟨gb165, 5, none⟩ = some (.int .i64 a0_5) := (blk_cell BK165.out 5).trans rfl; have hfz9_0 := blk_frozen BK165.out 0; have hfz9_1 := blk_frozen BK165.out 1; have hfz9_2 := blk_frozen BK165.out 2; have hfz9_3 := blk_frozen BK165.out 3; have hfz9_4 := blk_frozen BK165.out 4; have hfz9_5 := blk_frozen BK165.out 5) | (go_at_call 21; (with_reducible refine (withyref06_Right.calls a0_0 a0_1 a0_2 a0_3 a0_4 a0_5 true _ A3.out).mono ?_); rintro e w10 ⟨rfl, hb⟩; have n0_ := Aside0.mk (blk_below (g := gb165) (o := .cells #[.int .i64 a0_0, .int .i64 a0_1, .int .i64 a0_2, .int .i64 a0_3, .int .i64 a0_4, .int .i64 a0_5] 23 (0, 0)) (by (with_reducible repeat (first | refine blk_drewN ?_ _ | refine blk_drew ?_ | refine blk_alloc ?_ _)); exact BK165.out) hb); have n1_ := Aside0.mk (blk_below (g := gb166) (o := .cells #[.string a1_0, .int .i64 a1_1, .int .i64 a1_2] 91 (0, 0)) (by (with_reducible repeat (first | refine blk_drewN ?_ _ | refine blk_drew ?_ | refine blk_alloc ?_ _)); exact BK166.out) hb); have n2_ := Aside0.mk (below_step (by repeat (first | (with_reducible first | exact HB.out | apply below_alloc | apply pw_below_drewN | apply below_drew1 | refine below_set ?_ GE165.out | refine below_set ?_ GE166.out) | exact HB.out)) hb); clear BK165; clear BK166; clear HB; have BK165 := n0_; have BK166 := n1_; have HB := n2_; clear n0_ n1_ n2_; (try clear hb); (try clear hb2); (try clear hk); (try clear hi); have hcz11_0 : w10.cell? ⟨gb165, 0, none⟩ = some (.int .i64 a0_0) := (blk_cell BK165.out 0).trans rfl; have hcz11_1 : w10.cell? ⟨gb165, 1, none⟩ = some (.int .i64 a0_1) := (blk_cell BK165.out 1).trans rfl; have hcz11_2 : w10.cell? ⟨gb165, 2, none⟩ = some (.int .i64 a0_2) := (blk_cell BK165.out 2).trans rfl; have hcz11_3 : w10.cell? ⟨gb165, 3, none⟩ = some (.int .i64 a0_3) := (blk_cell BK165.out 3).trans rfl; have hcz11_4 : w10.cell? ⟨gb165, 4, none⟩ = some (.int .i64 a0_4) := (blk_cell BK165.out 4).trans rfl; have hcz11_5 : w10.cell? ⟨gb165, 5, none⟩ = some (.int .i64 a0_5) := (blk_cell BK165.out 5).trans rfl; have hfz11_0 := blk_frozen BK165.out 0; have hfz11_1 := blk_frozen BK165.out 1; have hfz11_2 := blk_frozen BK165.out 2; have hfz11_3 := blk_frozen BK165.out 3; have hfz11_4 := blk_frozen BK165.out 4; have hfz11_5 := blk_frozen BK165.out 5) | (go_at_call 65; (with_reducible refine (withyref06_Words.calls k a0_0 a0_1 a0_2 a0_3 a0_4 a0_5 t168 _ A5.out).mono ?_); rintro e w12 ⟨v169, rfl, ho0, hb⟩; have n0_ := Aside0.mk (Kd.R_lower (Kd.R_newB ho0 (g := gb166) (o := .cells #[.string a1_0, .int .i64 a1_1, .int .i64 a1_2] 91 (0, 0)) (by (with_reducible repeat (first | refine blk_drewN ?_ _ | refine blk_drew ?_ | refine blk_alloc ?_ _)); exact BK166.out)) (below_size (by repeat (first | (with_reducible first | exact HB.out | apply below_alloc | apply pw_below_drewN | apply below_drew1 | refine below_set ?_ GE165.out | refine below_set ?_ GE166.out) | exact HB.out)))); have n1_ := Aside0.mk (blk_below (g := gb165) (o := .cells #[.int .i64 a0_0, .int .i64 a0_1, .int .i64 a0_2, .int .i64 a0_3, .int .i64 a0_4, .int .i64 a0_5] 23 (0, 0)) (by (with_reducible repeat (first | refine blk_drewN ?_ _ | refine blk_drew ?_ | refine blk_alloc ?_ _)); exact BK165.out) hb); have n2_ := Aside0.mk (blk_below (g := gb166) (o := .cells #[.string a1_0, .int .i64 a1_1, .int .i64 a1_2] 91 (0, 0)) (by (with_reducible repeat (first | refine blk_drewN ?_ _ | refine blk_drew ?_ | refine blk_alloc ?_ _)); exact BK166.out) hb); have n3_ := Aside0.mk (below_step (by repeat (first | (with_reducible first | exact HB.out | apply below_alloc | apply pw_below_drewN | apply below_drew1 | refine below_set ?_ GE165.out | refine below_set ?_ GE166.out) | exact HB.out)) hb); clear BK165; clear BK166; clear HB; have HO170 := n0_; have BK165 := n1_; have BK166 := n2_; have HB := n3_; clear n0_ n1_ n2_ n3_; (try clear hb); (try clear hb2); (try clear hk); (try clear hi); (try clear ho0))))
    go_loopg [6] k (fun kq v6 w' => ∃ (x6_1 : Int), v6 = .int .i64 x6_1 ∧ Aside0 (withyref06_At.l0 kq t168 x6_1 a1_0 a1_1 a1_2 = some r) ∧ Aside0 (kq ≤ k) ∧ Aside0 (Kd.R k91 91 w' w.heap.size (fun k_ => k_ ≠ gb166) v169 t168) ∧ Aside0 (w'.heap[gb165]? = some (.cells #[.int .i64 a0_0, .int .i64 a0_1, .int .i64 a0_2, .int .i64 a0_3, .int .i64 a0_4, .int .i64 a0_5] 23 (0, 0))) ∧ Aside0 (w'.heap[gb166]? = some (.cells #[.string a1_0, .int .i64 a1_1, .int .i64 a1_2] 91 (0, 0))) ∧ Aside0 (Below w.heap.size w w'))
    case atStart => exact ⟨(0), (by first | rfl | (simp; done) | (simp [*]; done)), H', ⟨Nat.le_refl _⟩, ⟨by (with_reducible repeat (first | apply Kd.R_alloc | apply Kd.R_drewN | apply Kd.R_drew)); exact Kd.R_mono HO170.out (fun _ hk => hk.2)⟩, ⟨by (with_reducible repeat (first | refine blk_drewN ?_ _ | refine blk_drew ?_ | refine blk_alloc ?_ _)); exact BK165.out⟩, ⟨by (with_reducible repeat (first | refine blk_drewN ?_ _ | refine blk_drew ?_ | refine blk_alloc ?_ _)); exact BK166.out⟩, ⟨by repeat (first | (with_reducible first | exact HB.out | apply below_alloc | apply pw_below_drewN | apply below_drew1 | refine below_set ?_ GE165.out | refine below_set ?_ GE166.out) | exact HB.out)⟩⟩
    case round =>
      clear H'
      try clear p2
      try clear c4
      try clear c5
      try clear c8
      try clear hcz11_0
      try clear hcz11_1
      try clear hcz11_2
      try clear hcz11_3
      try clear hcz11_4
      try clear hcz11_5
      try clear hcz9_0
      try clear hcz9_1
      try clear hcz9_2
      try clear hcz9_3
      try clear hcz9_4
      try clear hcz9_5
      try clear hfz11_0
      try clear hfz11_1
      try clear hfz11_2
      try clear hfz11_3
      try clear hfz11_4
      try clear hfz11_5
      try clear hfz9_0
      try clear hfz9_1
      try clear hfz9_2
      try clear hfz9_3
      try clear hfz9_4
      try clear hfz9_5
      obtain ⟨x6_1, rfl, HA, HK1, HO_5, BK165, BK166, HB⟩ := hrel
      cases gk with
      | zero => exact absurd HA.out (by simp [withyref06_At.l0])
      | succ k1 =>
        have H := HA.out
        clear HA
        simp only [withyref06_At.l0] at H
        by_cases c13 : x6_1 < (t168.length : Int)
        · rw [if_pos c13] at H
          have c13b0 : decide (x6_1 < (t168.length : Int)) = true := decide_eq_true c13
          clear c13
          by_cases c14 : 0 ≤ x6_1
          · rw [if_pos c14] at H
            have c14b0 : decide (0 ≤ x6_1) = true := decide_eq_true c14
            clear c14
            by_cases c15 : ((((rd_T91 t168 x6_1).f0).toList) == a1_0.toList && (((rd_T91 t168 x6_1).f1) == a1_1 && (((rd_T91 t168 x6_1).f2) == a1_2))) = true
            · rw [if_pos c15] at H
              have c15b0 : ((((rd_T91 t168 x6_1).f0).toList) == a1_0.toList && (((rd_T91 t168 x6_1).f1) == a1_1 && (((rd_T91 t168 x6_1).f2) == a1_2))) = true := c15
              (try (have c15b1 : decide ((((rd_T91 t168 x6_1).f0).toList) = a1_0.toList && (((rd_T91 t168 x6_1).f1) == a1_1 && (((rd_T91 t168 x6_1).f2) == a1_2))) = true := by simpa using c15))
              (try (have c15b2 : ((((rd_T91 t168 x6_1).f0).toList) == a1_0.toList && (((rd_T91 t168 x6_1).f1) == a1_1 && (((rd_T91 t168 x6_1).f2) == a1_2))) = true := by simpa using c15))
              clear c15
              obtain rfl := Option.some.inj H
              obtain ⟨Ao16, co16, eo16⟩ := Kd.R_slice HO_5.out
              subst eo16
              have p171 : 0 ≤ (x6_1 : Int) := of_decide_eq_true (by first | (with_reducible assumption) | assumption)
              have q171 : x6_1 < (t168.length : Int) := of_decide_eq_true (by first | (with_reducible assumption) | assumption)
              obtain ⟨ad171, e171, hx171_0, hx171_1, hx171_2⟩ := at_T91 (Kd.R_reads' HO_5.out).2.2 x6_1 p171 q171
              cases e171
              replace p171 := eq_true p171
              replace q171 := eq_true q171
              have hnb17 := NB166_165.out
              have hnc17 := NB165_166.out
              have hcz18_0 : wr.cell? ⟨gb166, 0, none⟩ = some (.string a1_0) := (blk_cell BK166.out 0).trans rfl
              have hcz18_1 : wr.cell? ⟨gb166, 1, none⟩ = some (.int .i64 a1_1) := (blk_cell BK166.out 1).trans rfl
              have hcz18_2 : wr.cell? ⟨gb166, 2, none⟩ = some (.int .i64 a1_2) := (blk_cell BK166.out 2).trans rfl
              have hfz18_0 := blk_frozen BK166.out 0
              have hfz18_1 := blk_frozen BK166.out 1
              have hfz18_2 := blk_frozen BK166.out 2
              go_wp2
              repeat (go_quiet (fail); try go_wp2)
              go_ret
              exact ⟨by first | rfl | (simp [errW_none, errW_some] <;> rfl) | (simp [*, errW_none, errW_some] <;> rfl), by repeat (first | (with_reducible first | exact HB.out | apply below_alloc | apply pw_below_drewN | apply below_drew1 | refine below_set ?_ GE165.out | refine below_set ?_ GE166.out) | exact HB.out)⟩
            · rw [if_neg c15] at H
              have c15b0 : ((((rd_T91 t168 x6_1).f0).toList) == a1_0.toList && (((rd_T91 t168 x6_1).f1) == a1_1 && (((rd_T91 t168 x6_1).f2) == a1_2))) = false := by simpa using c15
              (try (have c15b1 : decide ((((rd_T91 t168 x6_1).f0).toList) = a1_0.toList && (((rd_T91 t168 x6_1).f1) == a1_1 && (((rd_T91 t168 x6_1).f2) == a1_2))) = false := by simpa using c15))
              (try (have c15b2 : ((((rd_T91 t168 x6_1).f0).toList) == a1_0.toList && (((rd_T91 t168 x6_1).f1) == a1_1 && (((rd_T91 t168 x6_1).f2) == a1_2))) = false := by simpa using c15))
              (try (have c15b3 : ¬ ((((rd_T91 t168 x6_1).f0).toList) = a1_0.toList && (((rd_T91 t168 x6_1).f1) == a1_1 && (((rd_T91 t168 x6_1).f2) == a1_2))) := by simpa using c15))
              clear c15
              have H' := Aside0.mk H
              clear H
              obtain ⟨Ao19, co19, eo19⟩ := Kd.R_slice HO_5.out
              subst eo19
              have p171 : 0 ≤ (x6_1 : Int) := of_decide_eq_true (by first | (with_reducible assumption) | assumption)
              have q171 : x6_1 < (t168.length : Int) := of_decide_eq_true (by first | (with_reducible assumption) | assumption)
              obtain ⟨ad171, e171, hx171_0, hx171_1, hx171_2⟩ := at_T91 (Kd.R_reads' HO_5.out).2.2 x6_1 p171 q171
              cases e171
              replace p171 := eq_true p171
              replace q171 := eq_true q171
              have hnb20 := NB166_165.out
              have hnc20 := NB165_166.out
              have hcz21_0 : wr.cell? ⟨gb166, 0, none⟩ = some (.string a1_0) := (blk_cell BK166.out 0).trans rfl
              have hcz21_1 : wr.cell? ⟨gb166, 1, none⟩ = some (.int .i64 a1_1) := (blk_cell BK166.out 1).trans rfl
              have hcz21_2 : wr.cell? ⟨gb166, 2, none⟩ = some (.int .i64 a1_2) := (blk_cell BK166.out 2).trans rfl
              have hfz21_0 := blk_frozen BK166.out 0
              have hfz21_1 := blk_frozen BK166.out 1
              have hfz21_2 := blk_frozen BK166.out 2
              go_wp2
              repeat (go_quiet (fail); try go_wp2)
              go_roundg k1
              case measure => have := HK1.out; omega
              case rel => exact ⟨(wrap64 (x6_1 + 1)), (by first | rfl | (simp; done) | (simp [*]; done)), H', ⟨by have := HK1.out; omega⟩, ⟨by (with_reducible repeat (first | apply Kd.R_alloc | apply Kd.R_drewN | apply Kd.R_drew)); exact HO_5.out⟩, ⟨by (with_reducible repeat (first | refine blk_drewN ?_ _ | refine blk_drew ?_ | refine blk_alloc ?_ _)); exact BK165.out⟩, ⟨by (with_reducible repeat (first | refine blk_drewN ?_ _ | refine blk_drew ?_ | refine blk_alloc ?_ _)); exact BK166.out⟩, ⟨by repeat (first | (with_reducible first | exact HB.out | apply below_alloc | apply pw_below_drewN | apply below_drew1 | refine below_set ?_ GE165.out | refine below_set ?_ GE166.out) | exact HB.out)⟩⟩
          · rw [if_neg c14] at H
            exact absurd H (by simp)
        · rw [if_neg c13] at H
          have c13b0 : decide (x6_1 < (t168.length : Int)) = false := decide_eq_false c13
          clear c13
          obtain rfl := Option.some.inj H
          obtain ⟨Ao22, co22, eo22⟩ := Kd.R_slice HO_5.out
          subst eo22
          go_wp2
          repeat (go_quiet (fail); try go_wp2)
          go_ret
          exact ⟨by first | rfl | (simp [errW_none, errW_some] <;> rfl) | (simp [*, errW_none, errW_some] <;> rfl), by repeat (first | (with_reducible first | exact HB.out | apply below_alloc | apply pw_below_drewN | apply below_drew1 | refine below_set ?_ GE165.out | refine below_set ?_ GE166.out) | exact HB.out)⟩
  · replace c4 := Bool.eq_false_iff.mpr c4
    subst c4
    have H1 : (some (-1)) = some r := by rw [if_neg (show ¬ (false = true) by decide)] at H; exact H
    clear H
    have H := H1
    clear H1
    obtain rfl := Option.some.inj H
    go_enter Try.func56, Try.ntmps56
    go_wp2_with (first | ((with_reducible refine gate_dst (N := 2) rfl ?_); refine box_event ?hg (N := 2) ?hd (cs := #[.int .i64 a0_0, .int .i64 a0_1, .int .i64 a0_2, .int .i64 a0_3, .int .i64 a0_4, .int .i64 a0_5]) (t := 23) ?hr ?_; (case hd => rfl); (case hg => rfl); (case hr => first | (go_simp; done) | (go_simp; rfl)); intro gb165 hg w23 hbox hb; have n0_ := Aside0.mk (below_step (by repeat (first | (with_reducible first | exact HB.out | apply below_alloc | apply pw_below_drewN | apply below_drew1) | exact HB.out)) hb); have n1_ := Aside0.mk (hbox); have n2_ := Aside0.mk ((by rw [hg]; exact (below_size (by repeat (first | (with_reducible first | exact HB.out | apply below_alloc | apply pw_below_drewN | apply below_drew1) | exact HB.out))) : w.heap.size ≤ gb165)); have n3_ := Aside0.mk ((by rw [hg]; exact (below_size (by repeat (first | (with_reducible first | exact HB.out | apply below_alloc | apply pw_below_drewN | apply below_drew1) | exact HB.out))) : w.heap.size ≤ gb165)); clear HB; have HB := n0_; have BK165 := n1_; have GW165 := n2_; have GE165 := n3_; clear n0_ n1_ n2_ n3_; clear hb hbox hg) | ((with_reducible refine gate_dst (N := 3) rfl ?_); refine box_event ?hg (N := 3) ?hd (cs := #[.string a1_0, .int .i64 a1_1, .int .i64 a1_2]) (t := 91) ?hr ?_; (case hd => rfl); (case hg => rfl); (case hr => first | (go_simp; done) | (go_simp; rfl)); intro gb166 hg w24 hbox hb; have n0_ := Aside0.mk (blk_below (g := gb165) (o := .cells #[.int .i64 a0_0, .int .i64 a0_1, .int .i64 a0_2, .int .i64 a0_3, .int .i64 a0_4, .int .i64 a0_5] 23 (0, 0)) (by (with_reducible repeat (first | refine blk_drewN ?_ _ | refine blk_drew ?_ | refine blk_alloc ?_ _)); exact BK165.out) hb); have n1_ := Aside0.mk (below_step (by repeat (first | (with_reducible first | exact HB.out | apply below_alloc | apply pw_below_drewN | apply below_drew1 | refine below_set ?_ GE165.out) | exact HB.out)) hb); have n2_ := Aside0.mk (hbox); have n3_ := Aside0.mk ((by rw [hg]; exact (below_size (by repeat (first | (with_reducible first | exact HB.out | apply below_alloc | apply pw_below_drewN | apply below_drew1 | refine below_set ?_ GE165.out) | exact HB.out))) : w.heap.size ≤ gb166)); have n4_ := Aside0.mk ((by rw [hg]; exact (below_size (by repeat (first | (with_reducible first | exact HB.out | apply below_alloc | apply pw_below_drewN | apply below_drew1 | refine below_set ?_ GE165.out) | exact HB.out))) : w.heap.size ≤ gb166)); have n5_ := Aside0.mk ((by rw [hg]; exact Nat.ne_of_lt (blk_lt (g := gb165) (o := .cells #[.int .i64 a0_0, .int .i64 a0_1, .int .i64 a0_2, .int .i64 a0_3, .int .i64 a0_4, .int .i64 a0_5] 23 (0, 0)) (by (with_reducible repeat (first | refine blk_drewN ?_ _ | refine blk_drew ?_ | refine blk_alloc ?_ _)); exact BK165.out)) : gb165 ≠ gb166)); have n6_ := Aside0.mk ((by rw [hg]; exact Nat.ne_of_gt (blk_lt (g := gb165) (o := .cells #[.int .i64 a0_0, .int .i64 a0_1, .int .i64 a0_2, .int .i64 a0_3, .int .i64 a0_4, .int .i64 a0_5] 23 (0, 0)) (by (with_reducible repeat (first | refine blk_drewN ?_ _ | refine blk_drew ?_ | refine blk_alloc ?_ _)); exact BK165.out)) : gb166 ≠ gb165)); clear BK165; clear HB; have BK165 := n0_; have HB := n1_; have BK166 := n2_; have GW166 := n3_; have GE166 := n4_; have NB165_166 := n5_; have NB166_165 := n6_; clear n0_ n1_ n2_ n3_ n4_ n5_ n6_; clear hb hbox hg; have hnb25 := NB165_166.out; have hnc25 := NB166_165.out; have hcz26_0 : w24.cell? ⟨gb165, 0, none⟩ = some (.int .i64 a0_0) := (blk_cell BK165.out 0).trans rfl; have hcz26_1 : w24.cell? ⟨gb165, 1, none⟩ = some (.int .i64 a0_1) := (blk_cell BK165.out 1).trans rfl; have hcz26_2 : w24.cell? ⟨gb165, 2, none⟩ = some (.int .i64 a0_2) := (blk_cell BK165.out 2).trans rfl; have hcz26_3 : w24.cell? ⟨gb165, 3, none⟩ = some (.int .i64 a0_3) := (blk_cell BK165.out 3).trans rfl; have hcz26_4 : w24.cell? ⟨gb165, 4, none⟩ = some (.int .i64 a0_4) := (blk_cell BK165.out 4).trans rfl; have hcz26_5 : w24.cell? ⟨gb165, 5, none⟩ = some (.int .i64 a0_5) := (blk_cell BK165.out 5).trans rfl; have hfz26_0 := blk_frozen BK165.out 0; have hfz26_1 := blk_frozen BK165.out 1; have hfz26_2 := blk_frozen BK165.out 2; have hfz26_3 := blk_frozen BK165.out 3; have hfz26_4 := blk_frozen BK165.out 4; have hfz26_5 := blk_frozen BK165.out 5) | (go_at_call 21; (with_reducible refine (withyref06_Right.calls a0_0 a0_1 a0_2 a0_3 a0_4 a0_5 false _ A3.out).mono ?_); rintro e w27 ⟨rfl, hb⟩; have n0_ := Aside0.mk (blk_below (g := gb165) (o := .cells #[.int .i64 a0_0, .int .i64 a0_1, .int .i64 a0_2, .int .i64 a0_3, .int .i64 a0_4, .int .i64 a0_5] 23 (0, 0)) (by (with_reducible repeat (first | refine blk_drewN ?_ _ | refine blk_drew ?_ | refine blk_alloc ?_ _)); exact BK165.out) hb); have n1_ := Aside0.mk (blk_below (g := gb166) (o := .cells #[.string a1_0, .int .i64 a1_1, .int .i64 a1_2] 91 (0, 0)) (by (with_reducible repeat (first | refine blk_drewN ?_ _ | refine blk_drew ?_ | refine blk_alloc ?_ _)); exact BK166.out) hb); have n2_ := Aside0.mk (below_step (by repeat (first | (with_reducible first | exact HB.out | apply below_alloc | apply pw_below_drewN | apply below_drew1 | refine below_set ?_ GE165.out | refine below_set ?_ GE166.out) | exact HB.out)) hb); clear BK165; clear BK166; clear HB; have BK165 := n0_; have BK166 := n1_; have HB := n2_; clear n0_ n1_ n2_; (try clear hb); (try clear hb2); (try clear hk); (try clear hi)))
    repeat (go_quiet (first | ((with_reducible refine gate_dst (N := 2) rfl ?_); refine box_event ?hg (N := 2) ?hd (cs := #[.int .i64 a0_0, .int .i64 a0_1, .int .i64 a0_2, .int .i64 a0_3, .int .i64 a0_4, .int .i64 a0_5]) (t := 23) ?hr ?_; (case hd => rfl); (case hg => rfl); (case hr => first | (go_simp; done) | (go_simp; rfl)); intro gb165 hg w23 hbox hb; have n0_ := Aside0.mk (below_step (by repeat (first | (with_reducible first | exact HB.out | apply below_alloc | apply pw_below_drewN | apply below_drew1) | exact HB.out)) hb); have n1_ := Aside0.mk (hbox); have n2_ := Aside0.mk ((by rw [hg]; exact (below_size (by repeat (first | (with_reducible first | exact HB.out | apply below_alloc | apply pw_below_drewN | apply below_drew1) | exact HB.out))) : w.heap.size ≤ gb165)); have n3_ := Aside0.mk ((by rw [hg]; exact (below_size (by repeat (first | (with_reducible first | exact HB.out | apply below_alloc | apply pw_below_drewN | apply below_drew1) | exact HB.out))) : w.heap.size ≤ gb165)); clear HB; have HB := n0_; have BK165 := n1_; have GW165 := n2_; have GE165 := n3_; clear n0_ n1_ n2_ n3_; clear hb hbox hg) | ((with_reducible refine gate_dst (N := 3) rfl ?_); refine box_event ?hg (N := 3) ?hd (cs := #[.string a1_0, .int .i64 a1_1, .int .i64 a1_2]) (t := 91) ?hr ?_; (case hd => rfl); (case hg => rfl); (case hr => first | (go_simp; done) | (go_simp; rfl)); intro gb166 hg w24 hbox hb; have n0_ := Aside0.mk (blk_below (g := gb165) (o := .cells #[.int .i64 a0_0, .int .i64 a0_1, .int .i64 a0_2, .int .i64 a0_3, .int .i64 a0_4, .int .i64 a0_5] 23 (0, 0)) (by (with_reducible repeat (first | refine blk_drewN ?_ _ | refine blk_drew ?_ | refine blk_alloc ?_ _)); exact BK165.out) hb); have n1_ := Aside0.mk (below_step (by repeat (first | (with_reducible first | exact HB.out | apply below_alloc | apply pw_below_drewN | apply below_drew1 | refine below_set ?_ GE165.out) | exact HB.out)) hb); have n2_ := Aside0.mk (hbox); have n3_ := Aside0.mk ((by rw [hg]; exact (below_size (by repeat (first | (with_reducible first | exact HB.out | apply below_alloc | apply pw_below_drewN | apply below_drew1 | refine below_set ?_ GE165.out) | exact HB.out))) : w.heap.size ≤ gb166)); have n4_ := Aside0.mk ((by rw [hg]; exact (below_size (by repeat (first | (with_reducible first | exact HB.out | apply below_alloc | apply pw_below_drewN | apply below_drew1 | refine below_set ?_ GE165.out) | exact HB.out))) : w.heap.size ≤ gb166)); have n5_ := Aside0.mk ((by rw [hg]; exact Nat.ne_of_lt (blk_lt (g := gb165) (o := .cells #[.int .i64 a0_0, .int .i64 a0_1, .int .i64 a0_2, .int .i64 a0_3, .int .i64 a0_4, .int .i64 a0_5] 23 (0, 0)) (by (with_reducible repeat (first | refine blk_drewN ?_ _ | refine blk_drew ?_ | refine blk_alloc ?_ _)); exact BK165.out)) : gb165 ≠ gb166)); have n6_ := Aside0.mk ((by rw [hg]; exact Nat.ne_of_gt (blk_lt (g := gb165) (o := .cells #[.int .i64 a0_0, .int .i64 a0_1, .int .i64 a0_2, .int .i64 a0_3, .int .i64 a0_4, .int .i64 a0_5] 23 (0, 0)) (by (with_reducible repeat (first | refine blk_drewN ?_ _ | refine blk_drew ?_ | refine blk_alloc ?_ _)); exact BK165.out)) : gb166 ≠ gb165)); clear BK165; clear HB; have BK165 := n0_; have HB := n1_; have BK166 := n2_; have GW166 := n3_; have GE166 := n4_; have NB165_166 := n5_; have NB166_165 := n6_; clear n0_ n1_ n2_ n3_ n4_ n5_ n6_; clear hb hbox hg; have hnb25 := NB165_166.out; have hnc25 := NB166_165.out; have hcz26_0 : w24.cell? ⟨gb165, 0, none⟩ = some (.int .i64 a0_0) := (blk_cell BK165.out 0).trans rfl; have hcz26_1 : w24.cell? ⟨gb165, 1, none⟩ = some (.int .i64 a0_1) := (blk_cell BK165.out 1).trans rfl; have hcz26_2 : w24.cell? ⟨gb165, 2, none⟩ = some (.int .i64 a0_2) := (blk_cell BK165.out 2).trans rfl; have hcz26_3 : w24.cell? ⟨gb165, 3, none⟩ = some (.int .i64 a0_3) := (blk_cell BK165.out 3).trans rfl; have hcz26_4 : w24.cell? ⟨gb165, 4, none⟩ = some (.int .i64 a0_4) := (blk_cell BK165.out 4).trans rfl; have hcz26_5 : w24.cell? ⟨gb165, 5, none⟩ = some (.int .i64 a0_5) := (blk_cell BK165.out 5).trans rfl; have hfz26_0 := blk_frozen BK165.out 0; have hfz26_1 := blk_frozen BK165.out 1; have hfz26_2 := blk_frozen BK165.out 2; have hfz26_3 := blk_frozen BK165.out 3; have hfz26_4 := blk_frozen BK165.out 4; have hfz26_5 := blk_frozen BK165.out 5) | (go_at_call 21; (with_reducible refine (withyref06_Right.calls a0_0 a0_1 a0_2 a0_3 a0_4 a0_5 false _ A3.out).mono ?_); rintro e w27 ⟨rfl, hb⟩; have n0_ := Aside0.mk (blk_below (g := gb165) (o := .cells #[.int .i64 a0_0, .int .i64 a0_1, .int .i64 a0_2, .int .i64 a0_3, .int .i64 a0_4, .int .i64 a0_5] 23 (0, 0)) (by (with_reducible repeat (first | refine blk_drewN ?_ _ | refine blk_drew ?_ | refine blk_alloc ?_ _)); exact BK165.out) hb); have n1_ := Aside0.mk (blk_below (g := gb166) (o := .cells #[.string a1_0, .int .i64 a1_1, .int .i64 a1_2] 91 (0, 0)) (by (with_reducible repeat (first | refine blk_drewN ?_ _ | refine blk_drew ?_ | refine blk_alloc ?_ _)); exact BK166.out) hb); have n2_ := Aside0.mk (below_step (by repeat (first | (with_reducible first | exact HB.out | apply below_alloc | apply pw_below_drewN | apply below_drew1 | refine below_set ?_ GE165.out | refine below_set ?_ GE166.out) | exact HB.out)) hb); clear BK165; clear BK166; clear HB; have BK165 := n0_; have BK166 := n1_; have HB := n2_; clear n0_ n1_ n2_; (try clear hb); (try clear hb2); (try clear hk); (try clear hi))); try go_wp2_with (first | ((with_reducible refine gate_dst (N := 2) rfl ?_); refine box_event ?hg (N := 2) ?hd (cs := #[.int .i64 a0_0, .int .i64 a0_1, .int .i64 a0_2, .int .i64 a0_3, .int .i64 a0_4, .int .i64 a0_5]) (t := 23) ?hr ?_; (case hd => rfl); (case hg => rfl); (case hr => first | (go_simp; done) | (go_simp; rfl)); intro gb165 hg w23 hbox hb; have n0_ := Aside0.mk (below_step (by repeat (first | (with_reducible first | exact HB.out | apply below_alloc | apply pw_below_drewN | apply below_drew1) | exact HB.out)) hb); have n1_ := Aside0.mk (hbox); have n2_ := Aside0.mk ((by rw [hg]; exact (below_size (by repeat (first | (with_reducible first | exact HB.out | apply below_alloc | apply pw_below_drewN | apply below_drew1) | exact HB.out))) : w.heap.size ≤ gb165)); have n3_ := Aside0.mk ((by rw [hg]; exact (below_size (by repeat (first | (with_reducible first | exact HB.out | apply below_alloc | apply pw_below_drewN | apply below_drew1) | exact HB.out))) : w.heap.size ≤ gb165)); clear HB; have HB := n0_; have BK165 := n1_; have GW165 := n2_; have GE165 := n3_; clear n0_ n1_ n2_ n3_; clear hb hbox hg) | ((with_reducible refine gate_dst (N := 3) rfl ?_); refine box_event ?hg (N := 3) ?hd (cs := #[.string a1_0, .int .i64 a1_1, .int .i64 a1_2]) (t := 91) ?hr ?_; (case hd => rfl); (case hg => rfl); (case hr => first | (go_simp; done) | (go_simp; rfl)); intro gb166 hg w24 hbox hb; have n0_ := Aside0.mk (blk_below (g := gb165) (o := .cells #[.int .i64 a0_0, .int .i64 a0_1, .int .i64 a0_2, .int .i64 a0_3, .int .i64 a0_4, .int .i64 a0_5] 23 (0, 0)) (by (with_reducible repeat (first | refine blk_drewN ?_ _ | refine blk_drew ?_ | refine blk_alloc ?_ _)); exact BK165.out) hb); have n1_ := Aside0.mk (below_step (by repeat (first | (with_reducible first | exact HB.out | apply below_alloc | apply pw_below_drewN | apply below_drew1 | refine below_set ?_ GE165.out) | exact HB.out)) hb); have n2_ := Aside0.mk (hbox); have n3_ := Aside0.mk ((by rw [hg]; exact (below_size (by repeat (first | (with_reducible first | exact HB.out | apply below_alloc | apply pw_below_drewN | apply below_drew1 | refine below_set ?_ GE165.out) | exact HB.out))) : w.heap.size ≤ gb166)); have n4_ := Aside0.mk ((by rw [hg]; exact (below_size (by repeat (first | (with_reducible first | exact HB.out | apply below_alloc | apply pw_below_drewN | apply below_drew1 | refine below_set ?_ GE165.out) | exact HB.out))) : w.heap.size ≤ gb166)); have n5_ := Aside0.mk ((by rw [hg]; exact Nat.ne_of_lt (blk_lt (g := gb165) (o := .cells #[.int .i64 a0_0, .int .i64 a0_1, .int .i64 a0_2, .int .i64 a0_3, .int .i64 a0_4, .int .i64 a0_5] 23 (0, 0)) (by (with_reducible repeat (first | refine blk_drewN ?_ _ | refine blk_drew ?_ | refine blk_alloc ?_ _)); exact BK165.out)) : gb165 ≠ gb166)); have n6_ := Aside0.mk ((by rw [hg]; exact Nat.ne_of_gt (blk_lt (g := gb165) (o := .cells #[.int .i64 a0_0, .int .i64 a0_1, .int .i64 a0_2, .int .i64 a0_3, .int .i64 a0_4, .int .i64 a0_5] 23 (0, 0)) (by (with_reducible repeat (first | refine blk_drewN ?_ _ | refine blk_drew ?_ | refine blk_alloc ?_ _)); exact BK165.out)) : gb166 ≠ gb165)); clear BK165; clear HB; have BK165 := n0_; have HB := n1_; have BK166 := n2_; have GW166 := n3_; have GE166 := n4_; have NB165_166 := n5_; have NB166_165 := n6_; clear n0_ n1_ n2_ n3_ n4_ n5_ n6_; clear hb hbox hg; have hnb25 := NB165_166.out; have hnc25 := NB166_165.out; have hcz26_0 : w24.cell? ⟨gb165, 0, none⟩ = some (.int .i64 a0_0) := (blk_cell BK165.out 0).trans rfl; have hcz26_1 : w24.cell? ⟨gb165, 1, none⟩ = some (.int .i64 a0_1) := (blk_cell BK165.out 1).trans rfl; have hcz26_2 : w24.cell? ⟨gb165, 2, none⟩ = some (.int .i64 a0_2) := (blk_cell BK165.out 2).trans rfl; have hcz26_3 : w24.cell? ⟨gb165, 3, none⟩ = some (.int .i64 a0_3) := (blk_cell BK165.out 3).trans rfl; have hcz26_4 : w24.cell? ⟨gb165, 4, none⟩ = some (.int .i64 a0_4) := (blk_cell BK165.out 4).trans rfl; have hcz26_5 : w24.cell? ⟨gb165, 5, none⟩ = some (.int .i64 a0_5) := (blk_cell BK165.out 5).trans rfl; have hfz26_0 := blk_frozen BK165.out 0; have hfz26_1 := blk_frozen BK165.out 1; have hfz26_2 := blk_frozen BK165.out 2; have hfz26_3 := blk_frozen BK165.out 3; have hfz26_4 := blk_frozen BK165.out 4; have hfz26_5 := blk_frozen BK165.out 5) | (go_at_call 21; (with_reducible refine (withyref06_Right.calls a0_0 a0_1 a0_2 a0_3 a0_4 a0_5 false _ A3.out).mono ?_); rintro e w27 ⟨rfl, hb⟩; have n0_ := Aside0.mk (blk_below (g := gb165) (o := .cells #[.int .i64 a0_0, .int .i64 a0_1, .int .i64 a0_2, .int .i64 a0_3, .int .i64 a0_4, .int .i64 a0_5] 23 (0, 0)) (by (with_reducible repeat (first | refine blk_drewN ?_ _ | refine blk_drew ?_ | refine blk_alloc ?_ _)); exact BK165.out) hb); have n1_ := Aside0.mk (blk_below (g := gb166) (o := .cells #[.string a1_0, .int .i64 a1_1, .int .i64 a1_2] 91 (0, 0)) (by (with_reducible repeat (first | refine blk_drewN ?_ _ | refine blk_drew ?_ | refine blk_alloc ?_ _)); exact BK166.out) hb); have n2_ := Aside0.mk (below_step (by repeat (first | (with_reducible first | exact HB.out | apply below_alloc | apply pw_below_drewN | apply below_drew1 | refine below_set ?_ GE165.out | refine below_set ?_ GE166.out) | exact HB.out)) hb); clear BK165; clear BK166; clear HB; have BK165 := n0_; have BK166 := n1_; have HB := n2_; clear n0_ n1_ n2_; (try clear hb); (try clear hb2); (try clear hk); (try clear hi))))
    go_ret
    exact ⟨by first | rfl | (simp [errW_none, errW_some] <;> rfl) | (simp [*, errW_none, errW_some] <;> rfl), by repeat (first | (with_reducible first | exact HB.out | apply below_alloc | apply pw_below_drewN | apply below_drew1 | refine below_set ?_ GE165.out | refine below_set ?_ GE166.out) | exact HB.out)⟩
mutual
def withyref07_List.j0 : Nat → List Int → Bool → Int → Int → Int → Int → Int → Int → Option (List Int)
  | 0, _, _, _, _, _, _, _, _ => none
  | k + 1, x1, x17, x173000, x173001, x173002, x173003, x173004, x173005 => if x17 = true then (some ([] : List Int)) else (if 3 < (x1.length : Int) then (withyref07_List.l0 k x1 ([] : List Int) (Int.tmod (rd x1 3) 65536) x173000 x173001 x173002 x173003 x173004 x173005) else (none))
def withyref07_List.l0 : Nat → List Int → List Int → Int → Int → Int → Int → Int → Int → Int → Option (List Int)
  | 0, _, _, _, _, _, _, _, _, _ => none
  | k + 1, x1, x5, x6, x173000, x173001, x173002, x173003, x173004, x173005 => if x6 ≥ 1 then (if x6 ≤ (IntKind.u64.wrap (x173000)) then (if (x5.length : Int) < x173000 then (if x5.length < 17592186044416 then ((withyref06_At.f k x173000 x173001 x173002 x173003 x173004 x173005 (⟨#[108, 105, 110, 107]⟩ : ByteArray) (wrap64 ((wrap64 (x6)) - 1)) 0).bind fun t181 => (if 0 ≤ t181 then (if t181 < (x1.length : Int) then (withyref07_List.l0 k x1 (x5 ++ [wrap64 ((wrap64 (x6)) - 1)]) (rd x1 t181) x173000 x173001 x173002 x173003 x173004 x173005) else (none)) else (none))) else (none)) else (some x5)) else (some x5)) else (some x5)
end
def withyref07_List.f (k : Nat) (a0_0 : Int) (a0_1 : Int) (a0_2 : Int) (a0_3 : Int) (a0_4 : Int) (a0_5 : Int) (l1 : List Int) : Option (List Int) := (withyref06_Right.f a0_0 a0_1 a0_2 a0_3 a0_4 a0_5).bind fun t173 => (if t173 = true then ((withyref06_Words.f k a0_0 a0_1 a0_2 a0_3 a0_4 a0_5).bind fun t174 => (withyref07_List.j0 k l1 ((l1.length : Int) != (t174.length : Int)) a0_0 a0_1 a0_2 a0_3 a0_4 a0_5)) else (withyref07_List.j0 k l1 true a0_0 a0_1 a0_2 a0_3 a0_4 a0_5))
set_option maxHeartbeats 8000000 in
set_option maxRecDepth 100000 in
theorem withyref07_List.calls (k : Nat) (a0_0 : Int) (a0_1 : Int) (a0_2 : Int) (a0_3 : Int) (a0_4 : Int) (a0_5 : Int) (A1 : Option Addr) (c1 : Nat) (l1 : List Int) (r : List Int) (w : World) (hr1 : Kd.C (Kd.int .u64) w A1 l1.length l1) (hc1 : l1.length ≤ c1) (h : withyref07_List.f k a0_0 a0_1 a0_2 a0_3 a0_4 a0_5 l1 = some r) :
    Calls Try.prog 30 #[.agg #[.int .i64 a0_0, .int .i64 a0_1, .int .i64 a0_2, .int .i64 a0_3, .int .i64 a0_4, .int .i64 a0_5], .slice A1 l1.length c1] w fun e w' => ∃ v0_ : Value, e = .returned (v0_) ∧ Kd.R (Kd.int .i64) 3 w' w.heap.size (fun _ => True) v0_ r ∧ Below w.heap.size w w' := by
  have hu23 := Try.underlying23
  have hu91 := Try.underlying91
  have HR1 := Aside0.mk hr1
  have HC1 := Aside0.mk hc1
  clear hr1 hc1
  have HB := Aside0.mk (Below.refl w.heap.size w)
  have H : ((withyref06_Right.f a0_0 a0_1 a0_2 a0_3 a0_4 a0_5).bind fun t173 => (if t173 = true then ((withyref06_Words.f k a0_0 a0_1 a0_2 a0_3 a0_4 a0_5).bind fun t174 => (withyref07_List.j0 k l1 ((l1.length : Int) != (t174.length : Int)) a0_0 a0_1 a0_2 a0_3 a0_4 a0_5)) else (withyref07_List.j0 k l1 true a0_0 a0_1 a0_2 a0_3 a0_4 a0_5))) = some r := h
  clear h
  have HC3 := Aside0.mk H
  clear H
  go_enter Try.func30, Try.ntmps30
  go_upto_region 1 with (first | ((with_reducible refine gate_dst (N := 2) rfl ?_); (try (refine gate_guard (by rfl) ?_; dsimp only)); refine box_event ?hg (N := 2) ?hd (cs := #[.int .i64 a0_0, .int .i64 a0_1, .int .i64 a0_2, .int .i64 a0_3, .int .i64 a0_4, .int .i64 a0_5]) (t := 23) ?hr ?_; (case hd => rfl); (case hg => rfl); (case hr => first | (go_simp; done) | (go_simp; rfl)); intro gb172 hg w4 hbox hb; have n0_ := Aside0.mk (below_step (by repeat (first | (with_reducible first | exact HB.out | apply below_alloc | apply pw_below_drewN | apply below_drew1) | exact HB.out)) hb); have n1_ := Aside0.mk (hbox); have n2_ := Aside0.mk ((by rw [hg]; exact (below_size (by repeat (first | (with_reducible first | exact HB.out | apply below_alloc | apply pw_below_drewN | apply below_drew1) | exact HB.out))) : w.heap.size ≤ gb172)); have n3_ := Aside0.mk ((by rw [hg]; exact (below_size (by repeat (first | (with_reducible first | exact HB.out | apply below_alloc | apply pw_below_drewN | apply below_drew1) | exact HB.out))) : w.heap.size ≤ gb172)); clear HB; have HB := n0_; have BK172 := n1_; have GW172 := n2_; have GE172 := n3_; clear n0_ n1_ n2_ n3_; clear hb hbox hg))
  (try simp only [Act.put, pA, pB, pC])
  go_cut [17] (fun v17 wc => ∃ (kq : Nat) (x17_2 : Bool), v17 = .bool x17_2 ∧ Aside0 (withyref07_List.j0 kq l1 x17_2 a0_0 a0_1 a0_2 a0_3 a0_4 a0_5 = some r) ∧ Aside0 (kq ≤ k) ∧ Aside0 (wc.heap[gb172]? = some (.cells #[.int .i64 a0_0, .int .i64 a0_1, .int .i64 a0_2, .int .i64 a0_3, .int .i64 a0_4, .int .i64 a0_5] 23 (0, 0))) ∧ Aside0 (Below w.heap.size w wc))
  case first =>
    have H := HC3.out
    clear HC3
    replace H := Option.bind_eq_some_iff.mp H
    obtain ⟨t173, A50, H⟩ := H
    replace H : (if t173 = true then ((withyref06_Words.f k a0_0 a0_1 a0_2 a0_3 a0_4 a0_5).bind fun t174 => (withyref07_List.j0 k l1 ((l1.length : Int) != (t174.length : Int)) a0_0 a0_1 a0_2 a0_3 a0_4 a0_5)) else (withyref07_List.j0 k l1 true a0_0 a0_1 a0_2 a0_3 a0_4 a0_5)) = some r := H
    have A5 := Aside0.mk A50
    clear A50
    by_cases c6 : t173 = true
    · subst c6
      have H1 : ((withyref06_Words.f k a0_0 a0_1 a0_2 a0_3 a0_4 a0_5).bind fun t174 => (withyref07_List.j0 k l1 ((l1.length : Int) != (t174.length : Int)) a0_0 a0_1 a0_2 a0_3 a0_4 a0_5)) = some r := by rw [if_pos rfl] at H; exact H
      clear H
      have H := H1
      clear H1
      replace H := Option.bind_eq_some_iff.mp H
      obtain ⟨t174, A70, H⟩ := H
      replace H : (withyref07_List.j0 k l1 ((l1.length : Int) != (t174.length : Int)) a0_0 a0_1 a0_2 a0_3 a0_4 a0_5) = some r := H
      have A7 := Aside0.mk A70
      clear A70
      have H' := Aside0.mk H
      clear H
      have hcz8_0 : w4.cell? ⟨gb172, 0, none⟩ = some (.int .i64 a0_0) := (blk_cell BK172.out 0).trans rfl
      have hcz8_1 : w4.cell? ⟨gb172, 1, none⟩ = some (.int .i64 a0_1) := (blk_cell BK172.out 1).trans rfl
      have hcz8_2 : w4.cell? ⟨gb172, 2, none⟩ = some (.int .i64 a0_2) := (blk_cell BK172.out 2).trans rfl
      have hcz8_3 : w4.cell? ⟨gb172, 3, none⟩ = some (.int .i64 a0_3) := (blk_cell BK172.out 3).trans rfl
      have hcz8_4 : w4.cell? ⟨gb172, 4, none⟩ = some (.int .i64 a0_4) := (blk_cell BK172.out 4).trans rfl
      have hcz8_5 : w4.cell? ⟨gb172, 5, none⟩ = some (.int .i64 a0_5) := (blk_cell BK172.out 5).trans rfl
      have hfz8_0 := blk_frozen BK172.out 0
      have hfz8_1 := blk_frozen BK172.out 1
      have hfz8_2 := blk_frozen BK172.out 2
      have hfz8_3 := blk_frozen BK172.out 3
      have hfz8_4 := blk_frozen BK172.out 4
      have hfz8_5 := blk_frozen BK172.out 5
      go_wp2_with (first | ((with_reducible refine gate_callee (f := 21) rfl ?_); refine goesL_ (some 8) rfl rfl Try.func21 (by kernel_rfl) rfl #[.agg #[.int .i64 a0_0, .int .i64 a0_1, .int .i64 a0_2, .int .i64 a0_3, .int .i64 a0_4, .int .i64 a0_5]] rfl (by (try simp only [List.map_toArray, List.map_cons, List.map_nil]); first | done | rfl | (simp only [List.length_drop, List.length_take]; rfl)) ?_; (with_reducible refine (withyref06_Right.calls a0_0 a0_1 a0_2 a0_3 a0_4 a0_5 true _ A5.out).mono ?_); rintro e w9 ⟨rfl, hb⟩; refine ⟨_, rfl, ?_⟩; have n0_ := Aside0.mk (blk_below (g := gb172) (o := .cells #[.int .i64 a0_0, .int .i64 a0_1, .int .i64 a0_2, .int .i64 a0_3, .int .i64 a0_4, .int .i64 a0_5] 23 (0, 0)) (by (with_reducible repeat (first | refine blk_drewN ?_ _ | refine blk_drew ?_ | refine blk_alloc ?_ _)); exact BK172.out) hb); have n1_ := Aside0.mk (below_step (by repeat (first | (with_reducible first | exact HB.out | apply below_alloc | apply pw_below_drewN | apply below_drew1 | refine below_set ?_ GE172.out) | exact HB.out)) hb); clear BK172; clear HB; have BK172 := n0_; have HB := n1_; clear n0_ n1_; (try clear hb); (try clear hb2); (try clear hk); (try clear hi); have hcz10_0 : w9.cell? ⟨gb172, 0, none⟩ = some (.int .i64 a0_0) := (blk_cell BK172.out 0).trans rfl; have hcz10_1 : w9.cell? ⟨gb172, 1, none⟩ = some (.int .i64 a0_1) := (blk_cell BK172.out 1).trans rfl; have hcz10_2 : w9.cell? ⟨gb172, 2, none⟩ = some (.int .i64 a0_2) := (blk_cell BK172.out 2).trans rfl; have hcz10_3 : w9.cell? ⟨gb172, 3, none⟩ = some (.int .i64 a0_3) := (blk_cell BK172.out 3).trans rfl; have hcz10_4 : w9.cell? ⟨gb172, 4, none⟩ = some (.int .i64 a0_4) := (blk_cell BK172.out 4).trans rfl; have hcz10_5 : w9.cell? ⟨gb172, 5, none⟩ = some (.int .i64 a0_5) := (blk_cell BK172.out 5).trans rfl; have hfz10_0 := blk_frozen BK172.out 0; have hfz10_1 := blk_frozen BK172.out 1; have hfz10_2 := blk_frozen BK172.out 2; have hfz10_3 := blk_frozen BK172.out 3; have hfz10_4 := blk_frozen BK172.out 4; have hfz10_5 := blk_frozen BK172.out 5) | (go_at_call 65; (with_reducible refine (withyref06_Words.calls k a0_0 a0_1 a0_2 a0_3 a0_4 a0_5 t174 _ A7.out).mono ?_); rintro e w11 ⟨v175, rfl, ho0, hb⟩; have n0_ := Aside0.mk (Kd.R_lower ho0 (below_size (by repeat (first | (with_reducible first | exact HB.out | apply below_alloc | apply pw_below_drewN | apply below_drew1 | refine below_set ?_ GE172.out) | exact HB.out)))); have n1_ := Aside0.mk (blk_below (g := gb172) (o := .cells #[.int .i64 a0_0, .int .i64 a0_1, .int .i64 a0_2, .int .i64 a0_3, .int .i64 a0_4, .int .i64 a0_5] 23 (0, 0)) (by (with_reducible repeat (first | refine blk_drewN ?_ _ | refine blk_drew ?_ | refine blk_alloc ?_ _)); exact BK172.out) hb); have n2_ := Aside0.mk (below_step (by repeat (first | (with_reducible first | exact HB.out | apply below_alloc | apply pw_below_drewN | apply below_drew1 | refine below_set ?_ GE172.out) | exact HB.out)) hb); clear BK172; clear HB; have HO176 := n0_; have BK172 := n1_; have HB := n2_; clear n0_ n1_ n2_; (try clear hb); (try clear hb2); (try clear hk); (try clear hi); (try clear ho0); obtain ⟨Ao12, co12, eo12⟩ := Kd.R_slice HO176.out; subst eo12))
      go_meet
      case rel => exact ⟨_, (((l1.length : Int) != (t174.length : Int))), (by first | rfl | (simp; done) | (simp [*]; done)), H', ⟨by first | omega | exact Nat.le_refl _⟩, ⟨by (with_reducible repeat (first | refine blk_drewN ?_ _ | refine blk_drew ?_ | refine blk_alloc ?_ _)); exact BK172.out⟩, ⟨by repeat (first | (with_reducible first | exact HB.out | apply below_alloc | apply pw_below_drewN | apply below_drew1 | refine below_set ?_ GE172.out) | exact HB.out)⟩⟩
    · replace c6 := Bool.eq_false_iff.mpr c6
      subst c6
      have H1 : (withyref07_List.j0 k l1 true a0_0 a0_1 a0_2 a0_3 a0_4 a0_5) = some r := by rw [if_neg (show ¬ (false = true) by decide)] at H; exact H
      clear H
      have H := H1
      clear H1
      have H' := Aside0.mk H
      clear H
      have hcz13_0 : w4.cell? ⟨gb172, 0, none⟩ = some (.int .i64 a0_0) := (blk_cell BK172.out 0).trans rfl
      have hcz13_1 : w4.cell? ⟨gb172, 1, none⟩ = some (.int .i64 a0_1) := (blk_cell BK172.out 1).trans rfl
      have hcz13_2 : w4.cell? ⟨gb172, 2, none⟩ = some (.int .i64 a0_2) := (blk_cell BK172.out 2).trans rfl
      have hcz13_3 : w4.cell? ⟨gb172, 3, none⟩ = some (.int .i64 a0_3) := (blk_cell BK172.out 3).trans rfl
      have hcz13_4 : w4.cell? ⟨gb172, 4, none⟩ = some (.int .i64 a0_4) := (blk_cell BK172.out 4).trans rfl
      have hcz13_5 : w4.cell? ⟨gb172, 5, none⟩ = some (.int .i64 a0_5) := (blk_cell BK172.out 5).trans rfl
      have hfz13_0 := blk_frozen BK172.out 0
      have hfz13_1 := blk_frozen BK172.out 1
      have hfz13_2 := blk_frozen BK172.out 2
      have hfz13_3 := blk_frozen BK172.out 3
      have hfz13_4 := blk_frozen BK172.out 4
      have hfz13_5 := blk_frozen BK172.out 5
      go_wp2_with (first | ((with_reducible refine gate_callee (f := 21) rfl ?_); refine goesL_ (some 8) rfl rfl Try.func21 (by kernel_rfl) rfl #[.agg #[.int .i64 a0_0, .int .i64 a0_1, .int .i64 a0_2, .int .i64 a0_3, .int .i64 a0_4, .int .i64 a0_5]] rfl (by (try simp only [List.map_toArray, List.map_cons, List.map_nil]); first | done | rfl | (simp only [List.length_drop, List.length_take]; rfl)) ?_; (with_reducible refine (withyref06_Right.calls a0_0 a0_1 a0_2 a0_3 a0_4 a0_5 false _ A5.out).mono ?_); rintro e w14 ⟨rfl, hb⟩; refine ⟨_, rfl, ?_⟩; have n0_ := Aside0.mk (blk_below (g := gb172) (o := .cells #[.int .i64 a0_0, .int .i64 a0_1, .int .i64 a0_2, .int .i64 a0_3, .int .i64 a0_4, .int .i64 a0_5] 23 (0, 0)) (by (with_reducible repeat (first | refine blk_drewN ?_ _ | refine blk_drew ?_ | refine blk_alloc ?_ _)); exact BK172.out) hb); have n1_ := Aside0.mk (below_step (by repeat (first | (with_reducible first | exact HB.out | apply below_alloc | apply pw_below_drewN | apply below_drew1 | refine below_set ?_ GE172.out) | exact HB.out)) hb); clear BK172; clear HB; have BK172 := n0_; have HB := n1_; clear n0_ n1_; (try clear hb); (try clear hb2); (try clear hk); (try clear hi)))
      go_meet
      case rel => exact ⟨_, (true), (by first | rfl | (simp; done) | (simp [*]; done)), H', ⟨by first | omega | exact Nat.le_refl _⟩, ⟨by (with_reducible repeat (first | refine blk_drewN ?_ _ | refine blk_drew ?_ | refine blk_alloc ?_ _)); exact BK172.out⟩, ⟨by repeat (first | (with_reducible first | exact HB.out | apply below_alloc | apply pw_below_drewN | apply below_drew1 | refine below_set ?_ GE172.out) | exact HB.out)⟩⟩
  case rest =>
    clear HC3
    try clear c1
    try clear c2
    try clear p2
    try clear c3
    try clear c6
    try clear hcz10_0
    try clear hcz10_1
    try clear hcz10_2
    try clear hcz10_3
    try clear hcz10_4
    try clear hcz10_5
    try clear hcz13_0
    try clear hcz13_1
    try clear hcz13_2
    try clear hcz13_3
    try clear hcz13_4
    try clear hcz13_5
    try clear hcz8_0
    try clear hcz8_1
    try clear hcz8_2
    try clear hcz8_3
    try clear hcz8_4
    try clear hcz8_5
    try clear hfz10_0
    try clear hfz10_1
    try clear hfz10_2
    try clear hfz10_3
    try clear hfz10_4
    try clear hfz10_5
    try clear hfz13_0
    try clear hfz13_1
    try clear hfz13_2
    try clear hfz13_3
    try clear hfz13_4
    try clear hfz13_5
    try clear hfz8_0
    try clear hfz8_1
    try clear hfz8_2
    try clear hfz8_3
    try clear hfz8_4
    try clear hfz8_5
    obtain ⟨kq, x17_2, rfl, HA, HJ2, BK172, HB⟩ := hcut
    cases kq with
    | zero => exact absurd HA.out (by simp [withyref07_List.j0])
    | succ kj2 =>
      have H := HA.out
      clear HA
      simp only [withyref07_List.j0] at H
      by_cases c15 : x17_2 = true
      · subst c15
        have H1 : (some ([] : List Int)) = some r := by rw [if_pos rfl] at H; exact H
        clear H
        have H := H1
        clear H1
        obtain rfl := Option.some.inj H
        go_wp2
        go_ret
        exact ⟨_, by first | rfl | (simp [errW_none, errW_some] <;> rfl) | (simp [*, errW_none, errW_some] <;> rfl), by first | exact Kd.R_nil _ _ _ _ _ | exact Kd.N_nil _ _ _ _ _ | exact Kd.V_nil _ _ _ _ _ | exact Kd.Q_nil _ _ _ _ _ | exact Kd.S_nil _ _ _ _ _, by repeat (first | (with_reducible first | exact HB.out | apply below_alloc | apply pw_below_drewN | apply below_drew1 | refine below_set ?_ GE172.out) | exact HB.out)⟩
      · replace c15 := Bool.eq_false_iff.mpr c15
        subst c15
        have H1 : (if 3 < (l1.length : Int) then (withyref07_List.l0 kj2 l1 ([] : List Int) (Int.tmod (rd l1 3) 65536) a0_0 a0_1 a0_2 a0_3 a0_4 a0_5) else (none)) = some r := by rw [if_neg (show ¬ (false = true) by decide)] at H; exact H
        clear H
        have H := H1
        clear H1
        by_cases c16 : 3 < (l1.length : Int)
        · rw [if_pos c16] at H
          have c16b0 : decide (3 < (l1.length : Int)) = true := decide_eq_true c16
          have c16b1 : decide (3 < l1.length) = true := decide_eq_true (by omega)
          clear c16
          have H' := Aside0.mk H
          clear H
          have p177 : 0 ≤ (3 : Int) := (by omega)
          have q177 : 3 < (l1.length : Int) := of_decide_eq_true (by first | (with_reducible assumption) | assumption)
          obtain ⟨ad177, e177, hx177_0⟩ := Kd.at_int HR1.out 3 p177 q177
          cases e177
          (try simp only [show (3 : Int).toNat = 3 from rfl, Nat.reduceMul, Nat.reduceEqDiff, Go.Addr.add, ↓reduceIte] at hx177_0)
          have qi177 : (3 < l1.length) = True := eq_true (by omega)
          (try rw [show ((3 : Int)).toNat = 3 from rfl] at hx177_0)
          replace hx177_0 := (HB.out.cell (World.block_lt_of_cell? w _ hx177_0)).trans hx177_0
          replace p177 := eq_true p177
          replace q177 := eq_true q177
          go_wp2
          go_loopg [5, 6] kj2 (fun kq v5 v6 w' => ∃ (x5_2 : List Int) (x6_2 : Int), v6 = .int .u64 x6_2 ∧ Aside0 (withyref07_List.l0 kq l1 x5_2 x6_2 a0_0 a0_1 a0_2 a0_3 a0_4 a0_5 = some r) ∧ Aside0 (kq ≤ kj2) ∧ Aside0 (Kd.R (Kd.int .i64) 3 w' w.heap.size (fun _ => True) v5 x5_2) ∧ Aside0 (w'.heap[gb172]? = some (.cells #[.int .i64 a0_0, .int .i64 a0_1, .int .i64 a0_2, .int .i64 a0_3, .int .i64 a0_4, .int .i64 a0_5] 23 (0, 0))) ∧ Aside0 (Below w.heap.size w w'))
          case atStart => exact ⟨(([] : List Int)), (Int.tmod (rd l1 3) 65536), (by first | rfl | (simp; done) | (simp [*]; done)), H', ⟨Nat.le_refl _⟩, ⟨by first | exact Kd.R_nil _ _ _ _ _ | exact Kd.N_nil _ _ _ _ _ | exact Kd.V_nil _ _ _ _ _ | exact Kd.Q_nil _ _ _ _ _ | exact Kd.S_nil _ _ _ _ _⟩, ⟨by (with_reducible repeat (first | refine blk_drewN ?_ _ | refine blk_drew ?_ | refine blk_alloc ?_ _)); exact BK172.out⟩, ⟨by repeat (first | (with_reducible first | exact HB.out | apply below_alloc | apply pw_below_drewN | apply below_drew1 | refine below_set ?_ GE172.out) | exact HB.out)⟩⟩
          case round =>
            clear H'
            try clear c1
            try clear p1
            try clear q1
            try clear hx1
            try clear qi1
            try clear c2
            try clear p2
            try clear c3
            try clear c6
            try clear c15
            try clear c16
            try clear c16b0
            try clear c16b1
            try clear hcz10_0
            try clear hcz10_1
            try clear hcz10_2
            try clear hcz10_3
            try clear hcz10_4
            try clear hcz10_5
            try clear hcz13_0
            try clear hcz13_1
            try clear hcz13_2
            try clear hcz13_3
            try clear hcz13_4
            try clear hcz13_5
            try clear hcz8_0
            try clear hcz8_1
            try clear hcz8_2
            try clear hcz8_3
            try clear hcz8_4
            try clear hcz8_5
            try clear hfz10_0
            try clear hfz10_1
            try clear hfz10_2
            try clear hfz10_3
            try clear hfz10_4
            try clear hfz10_5
            try clear hfz13_0
            try clear hfz13_1
            try clear hfz13_2
            try clear hfz13_3
            try clear hfz13_4
            try clear hfz13_5
            try clear hfz8_0
            try clear hfz8_1
            try clear hfz8_2
            try clear hfz8_3
            try clear hfz8_4
            try clear hfz8_5
            try clear hx177_0
            try clear p177
            try clear p2
            try clear q177
            obtain ⟨x5_2, x6_2, rfl, HA, HK2, HO_5, BK172, HB⟩ := hrel
            cases gk with
            | zero => exact absurd HA.out (by simp [withyref07_List.l0])
            | succ k2 =>
              have H := HA.out
              clear HA
              simp only [withyref07_List.l0] at H
              by_cases c17 : x6_2 ≥ 1
              · rw [if_pos c17] at H
                have c17b0 : decide (1 ≤ x6_2) = true := decide_eq_true c17
                clear c17
                by_cases c18 : x6_2 ≤ (IntKind.u64.wrap (a0_0))
                · rw [if_pos c18] at H
                  have c18b0 : decide (x6_2 ≤ (IntKind.u64.wrap (a0_0))) = true := decide_eq_true c18
                  clear c18
                  by_cases c19 : (x5_2.length : Int) < a0_0
                  · rw [if_pos c19] at H
                    have c19b0 : decide ((x5_2.length : Int) < a0_0) = true := decide_eq_true c19
                    clear c19
                    by_cases c20 : x5_2.length < 17592186044416
                    · rw [if_pos c20] at H
                      have LMc20 := Aside0.mk c20
                      clear c20
                      obtain ⟨y178, hy178⟩ : ∃ y_ : List Int, y_ = (x5_2 ++ [wrap64 ((wrap64 (x6_2)) - 1)]) := ⟨_, rfl⟩
                      replace H : ((withyref06_At.f k2 a0_0 a0_1 a0_2 a0_3 a0_4 a0_5 (⟨#[108, 105, 110, 107]⟩ : ByteArray) (wrap64 ((wrap64 (x6_2)) - 1)) 0).bind fun t181 => (if 0 ≤ t181 then (if t181 < (l1.length : Int) then (withyref07_List.l0 k2 l1 y178 (rd l1 t181) a0_0 a0_1 a0_2 a0_3 a0_4 a0_5) else (none)) else (none))) = some r := by first | (rw [hy178]; with_reducible exact H) | (have H2_ := (Option.bind_some _ _).symm.trans H; rw [hy178]; with_reducible exact H2_) | (have H2_ := (Option.bind_some _ _).symm.trans H; with_reducible exact H2_) | with_reducible exact H | (rw [hy178]; exact H) | exact H
                      have Ny178 := Aside0.mk hy178
                      clear hy178
                      replace H := Option.bind_eq_some_iff.mp H
                      obtain ⟨t181, A210, H⟩ := H
                      replace H : (if 0 ≤ t181 then (if t181 < (l1.length : Int) then (withyref07_List.l0 k2 l1 y178 (rd l1 t181) a0_0 a0_1 a0_2 a0_3 a0_4 a0_5) else (none)) else (none)) = some r := H
                      have A21 := Aside0.mk A210
                      clear A210
                      by_cases c22 : 0 ≤ t181
                      · rw [if_pos c22] at H
                        have c22b0 : decide (0 ≤ t181) = true := decide_eq_true c22
                        clear c22
                        by_cases c23 : t181 < (l1.length : Int)
                        · rw [if_pos c23] at H
                          have c23b0 : decide (t181 < (l1.length : Int)) = true := decide_eq_true c23
                          clear c23
                          have H' := Aside0.mk H
                          clear H
                          have hcz24_0 : wr.cell? ⟨gb172, 0, none⟩ = some (.int .i64 a0_0) := (blk_cell BK172.out 0).trans rfl
                          have hcz24_1 : wr.cell? ⟨gb172, 1, none⟩ = some (.int .i64 a0_1) := (blk_cell BK172.out 1).trans rfl
                          have hcz24_2 : wr.cell? ⟨gb172, 2, none⟩ = some (.int .i64 a0_2) := (blk_cell BK172.out 2).trans rfl
                          have hcz24_3 : wr.cell? ⟨gb172, 3, none⟩ = some (.int .i64 a0_3) := (blk_cell BK172.out 3).trans rfl
                          have hcz24_4 : wr.cell? ⟨gb172, 4, none⟩ = some (.int .i64 a0_4) := (blk_cell BK172.out 4).trans rfl
                          have hcz24_5 : wr.cell? ⟨gb172, 5, none⟩ = some (.int .i64 a0_5) := (blk_cell BK172.out 5).trans rfl
                          have hfz24_0 := blk_frozen BK172.out 0
                          have hfz24_1 := blk_frozen BK172.out 1
                          have hfz24_2 := blk_frozen BK172.out 2
                          have hfz24_3 := blk_frozen BK172.out 3
                          have hfz24_4 := blk_frozen BK172.out 4
                          have hfz24_5 := blk_frozen BK172.out 5
                          obtain ⟨Ao25, co25, eo25⟩ := Kd.R_slice HO_5.out
                          subst eo25
                          go_wp2_with (first | ((with_reducible refine gate_builtin (b := .append) (xs := #[.tmp 38, .tmp 42]) rfl ?_); (try (refine gate_guard (by rfl) ?_; dsimp only)); at_builtin; refine Kd.R_append (Kd.int .i64) (w0 := w) w.heap.size rfl (.tmp 38) (.tmp 42) 35 3 (.int .i64 0) 8 rfl Try.underlying35 info3 rfl (by decide) (by omega) (.slice Ao25 x5_2.length co25) x5_2 (wrap64 ((wrap64 (x6_2)) - 1)) [.int .i64 (wrap64 ((wrap64 (x6_2)) - 1))] (fun _ => True) (fun _ => False) rfl rfl ?aP (fun _ hk => hk.elim) ?aF ?aO ?aB ?aS ?aL ?_; (case aP => exact rfl); (case aB => exact (by repeat (first | (with_reducible first | exact HB.out | apply below_alloc | apply pw_below_drewN | apply below_drew1 | refine below_set ?_ GE172.out) | exact HB.out))); (case aF => exact (fun _ _ => trivial)); (case aO => exact (by (with_reducible repeat (first | apply Kd.R_alloc | apply Kd.R_drewN | apply Kd.R_drew)); exact HO_5.out)); (case aS => exact (below_size (by repeat (first | (with_reducible first | exact HB.out | apply below_alloc | apply pw_below_drewN | apply below_drew1 | refine below_set ?_ GE172.out) | exact HB.out)))); (case aL => have := LMc20.out; omega); intro v179 w26 ho hb hg hat; rw [← Ny178.out] at ho; have n0_ := Aside0.mk (blk_grown (g := gb172) (o := .cells #[.int .i64 a0_0, .int .i64 a0_1, .int .i64 a0_2, .int .i64 a0_3, .int .i64 a0_4, .int .i64 a0_5] 23 (0, 0)) (by (with_reducible repeat (first | refine blk_drewN ?_ _ | refine blk_drew ?_ | refine blk_alloc ?_ _)); exact BK172.out) hg (Kd.R_ne HO_5.out BK172.out (by decide))); have n1_ := Aside0.mk (hb); have n2_ := Aside0.mk (ho); clear BK172; clear HB; clear HO_5; have BK172 := n0_; have HB := n1_; have HO180 := n2_; clear n0_ n1_ n2_; clear ho hb hg hat; have hcz27_0 : w26.cell? ⟨gb172, 0, none⟩ = some (.int .i64 a0_0) := (blk_cell BK172.out 0).trans rfl; have hcz27_1 : w26.cell? ⟨gb172, 1, none⟩ = some (.int .i64 a0_1) := (blk_cell BK172.out 1).trans rfl; have hcz27_2 : w26.cell? ⟨gb172, 2, none⟩ = some (.int .i64 a0_2) := (blk_cell BK172.out 2).trans rfl; have hcz27_3 : w26.cell? ⟨gb172, 3, none⟩ = some (.int .i64 a0_3) := (blk_cell BK172.out 3).trans rfl; have hcz27_4 : w26.cell? ⟨gb172, 4, none⟩ = some (.int .i64 a0_4) := (blk_cell BK172.out 4).trans rfl; have hcz27_5 : w26.cell? ⟨gb172, 5, none⟩ = some (.int .i64 a0_5) := (blk_cell BK172.out 5).trans rfl; have hfz27_0 := blk_frozen BK172.out 0; have hfz27_1 := blk_frozen BK172.out 1; have hfz27_2 := blk_frozen BK172.out 2; have hfz27_3 := blk_frozen BK172.out 3; have hfz27_4 := blk_frozen BK172.out 4; have hfz27_5 := blk_frozen BK172.out 5) | ((with_reducible refine gate_callee (f := 56) rfl ?_); refine goesL_ (some 50) rfl rfl Try.func56 (by kernel_rfl) rfl #[.agg #[.int .i64 a0_0, .int .i64 a0_1, .int .i64 a0_2, .int .i64 a0_3, .int .i64 a0_4, .int .i64 a0_5], .agg #[.string (⟨#[108, 105, 110, 107]⟩ : ByteArray), .int .i64 (wrap64 ((wrap64 (x6_2)) - 1)), .int .i64 0]] rfl (by (try simp only [List.map_toArray, List.map_cons, List.map_nil]); first | done | rfl | (simp only [List.length_drop, List.length_take]; rfl)) ?_; (with_reducible refine (withyref06_At.calls k2 a0_0 a0_1 a0_2 a0_3 a0_4 a0_5 (⟨#[108, 105, 110, 107]⟩ : ByteArray) (wrap64 ((wrap64 (x6_2)) - 1)) 0 t181 _ A21.out).mono ?_); rintro e w28 ⟨rfl, hb⟩; refine ⟨_, rfl, ?_⟩; have n0_ := Aside0.mk (Kd.R_below (by (with_reducible repeat (first | apply Kd.R_alloc | apply Kd.R_drewN | apply Kd.R_drew)); exact HO180.out) hb); have n1_ := Aside0.mk (blk_below (g := gb172) (o := .cells #[.int .i64 a0_0, .int .i64 a0_1, .int .i64 a0_2, .int .i64 a0_3, .int .i64 a0_4, .int .i64 a0_5] 23 (0, 0)) (by (with_reducible repeat (first | refine blk_drewN ?_ _ | refine blk_drew ?_ | refine blk_alloc ?_ _)); exact BK172.out) hb); have n2_ := Aside0.mk (below_step (by repeat (first | (with_reducible first | exact HB.out | apply below_alloc | apply pw_below_drewN | apply below_drew1 | refine below_set ?_ GE172.out) | exact HB.out)) hb); clear HO180; clear BK172; clear HB; have HO180 := n0_; have BK172 := n1_; have HB := n2_; clear n0_ n1_ n2_; (try clear hb); (try clear hb2); (try clear hk); (try clear hi); have p182 : 0 ≤ (t181 : Int) := of_decide_eq_true (by first | (with_reducible assumption) | assumption); have q182 : t181 < (l1.length : Int) := of_decide_eq_true (by first | (with_reducible assumption) | assumption); obtain ⟨ad182, e182, hx182_0⟩ := Kd.at_int HR1.out t181 p182 q182; obtain rfl : ad177 = ad182 := (by injection e182); replace hx182_0 := (HB.out.cell (World.block_lt_of_cell? w _ hx182_0)).trans hx182_0; replace p182 := eq_true p182; replace q182 := eq_true q182))
                          go_roundg k2
                          case measure => have := HJ2.out; have := HK2.out; omega
                          case rel => exact ⟨(y178), (rd l1 t181), (by first | rfl | (simp; done) | (simp [*]; done)), H', ⟨by have := HJ2.out; have := HK2.out; omega⟩, ⟨by (with_reducible repeat (first | apply Kd.R_alloc | apply Kd.R_drewN | apply Kd.R_drew)); exact HO180.out⟩, ⟨by (with_reducible repeat (first | refine blk_drewN ?_ _ | refine blk_drew ?_ | refine blk_alloc ?_ _)); exact BK172.out⟩, ⟨by repeat (first | (with_reducible first | exact HB.out | apply below_alloc | apply pw_below_drewN | apply below_drew1 | refine below_set ?_ GE172.out) | exact HB.out)⟩⟩
                        · rw [if_neg c23] at H
                          exact absurd H (by simp)
                      · rw [if_neg c22] at H
                        exact absurd H (by simp)
                    · rw [if_neg c20] at H
                      exact absurd H (by simp)
                  · rw [if_neg c19] at H
                    have c19b0 : decide ((x5_2.length : Int) < a0_0) = false := decide_eq_false c19
                    clear c19
                    obtain rfl := Option.some.inj H
                    have hcz29_0 : wr.cell? ⟨gb172, 0, none⟩ = some (.int .i64 a0_0) := (blk_cell BK172.out 0).trans rfl
                    have hcz29_1 : wr.cell? ⟨gb172, 1, none⟩ = some (.int .i64 a0_1) := (blk_cell BK172.out 1).trans rfl
                    have hcz29_2 : wr.cell? ⟨gb172, 2, none⟩ = some (.int .i64 a0_2) := (blk_cell BK172.out 2).trans rfl
                    have hcz29_3 : wr.cell? ⟨gb172, 3, none⟩ = some (.int .i64 a0_3) := (blk_cell BK172.out 3).trans rfl
                    have hcz29_4 : wr.cell? ⟨gb172, 4, none⟩ = some (.int .i64 a0_4) := (blk_cell BK172.out 4).trans rfl
                    have hcz29_5 : wr.cell? ⟨gb172, 5, none⟩ = some (.int .i64 a0_5) := (blk_cell BK172.out 5).trans rfl
                    have hfz29_0 := blk_frozen BK172.out 0
                    have hfz29_1 := blk_frozen BK172.out 1
                    have hfz29_2 := blk_frozen BK172.out 2
                    have hfz29_3 := blk_frozen BK172.out 3
                    have hfz29_4 := blk_frozen BK172.out 4
                    have hfz29_5 := blk_frozen BK172.out 5
                    obtain ⟨Ao30, co30, eo30⟩ := Kd.R_slice HO_5.out
                    subst eo30
                    go_wp2
                    go_ret
                    exact ⟨_, by first | rfl | (simp [errW_none, errW_some] <;> rfl) | (simp [*, errW_none, errW_some] <;> rfl), by (with_reducible repeat (first | apply Kd.R_alloc | apply Kd.R_drewN | apply Kd.R_drew)); exact HO_5.out, by repeat (first | (with_reducible first | exact HB.out | apply below_alloc | apply pw_below_drewN | apply below_drew1 | refine below_set ?_ GE172.out) | exact HB.out)⟩
                · rw [if_neg c18] at H
                  have c18b0 : decide (x6_2 ≤ (IntKind.u64.wrap (a0_0))) = false := decide_eq_false c18
                  clear c18
                  obtain rfl := Option.some.inj H
                  have hcz31_0 : wr.cell? ⟨gb172, 0, none⟩ = some (.int .i64 a0_0) := (blk_cell BK172.out 0).trans rfl
                  have hcz31_1 : wr.cell? ⟨gb172, 1, none⟩ = some (.int .i64 a0_1) := (blk_cell BK172.out 1).trans rfl
                  have hcz31_2 : wr.cell? ⟨gb172, 2, none⟩ = some (.int .i64 a0_2) := (blk_cell BK172.out 2).trans rfl
                  have hcz31_3 : wr.cell? ⟨gb172, 3, none⟩ = some (.int .i64 a0_3) := (blk_cell BK172.out 3).trans rfl
                  have hcz31_4 : wr.cell? ⟨gb172, 4, none⟩ = some (.int .i64 a0_4) := (blk_cell BK172.out 4).trans rfl
                  have hcz31_5 : wr.cell? ⟨gb172, 5, none⟩ = some (.int .i64 a0_5) := (blk_cell BK172.out 5).trans rfl
                  have hfz31_0 := blk_frozen BK172.out 0
                  have hfz31_1 := blk_frozen BK172.out 1
                  have hfz31_2 := blk_frozen BK172.out 2
                  have hfz31_3 := blk_frozen BK172.out 3
                  have hfz31_4 := blk_frozen BK172.out 4
                  have hfz31_5 := blk_frozen BK172.out 5
                  go_wp2
                  go_ret
                  exact ⟨_, by first | rfl | (simp [errW_none, errW_some] <;> rfl) | (simp [*, errW_none, errW_some] <;> rfl), by (with_reducible repeat (first | apply Kd.R_alloc | apply Kd.R_drewN | apply Kd.R_drew)); exact HO_5.out, by repeat (first | (with_reducible first | exact HB.out | apply below_alloc | apply pw_below_drewN | apply below_drew1 | refine below_set ?_ GE172.out) | exact HB.out)⟩
              · rw [if_neg c17] at H
                have c17b0 : decide (1 ≤ x6_2) = false := decide_eq_false c17
                clear c17
                obtain rfl := Option.some.inj H
                go_wp2
                go_ret
                exact ⟨_, by first | rfl | (simp [errW_none, errW_some] <;> rfl) | (simp [*, errW_none, errW_some] <;> rfl), by (with_reducible repeat (first | apply Kd.R_alloc | apply Kd.R_drewN | apply Kd.R_drew)); exact HO_5.out, by repeat (first | (with_reducible first | exact HB.out | apply below_alloc | apply pw_below_drewN | apply below_drew1 | refine below_set ?_ GE172.out) | exact HB.out)⟩
        · rw [if_neg c16] at H
          exact absurd H (by simp)
def withyref06_fit.f (a0 : Int) (a1 : Int) (a2 : Int) : Option (Int) := if (IntKind.u64.wrap (wrap64 ((wrap64 (a2 - a1)) + 1))) = 0 then (none) else (some (wrap64 (a1 + (wrap64 (Int.tmod (IntKind.u64.wrap (a0)) (IntKind.u64.wrap (wrap64 ((wrap64 (a2 - a1)) + 1))))))))
set_option maxHeartbeats 8000000 in
set_option maxRecDepth 100000 in
theorem withyref06_fit.calls (a0 : Int) (a1 : Int) (a2 : Int) (r : Int) (w : World) (h : withyref06_fit.f a0 a1 a2 = some r) :
    Calls Try.prog 77 #[.int .i64 a0, .int .i64 a1, .int .i64 a2] w fun e w' => e = .returned (.int .i64 r) ∧ Drawn0 w w' := by
  have H : (if (IntKind.u64.wrap (wrap64 ((wrap64 (a2 - a1)) + 1))) = 0 then (none) else (some (wrap64 (a1 + (wrap64 (Int.tmod (IntKind.u64.wrap (a0)) (IntKind.u64.wrap (wrap64 ((wrap64 (a2 - a1)) + 1))))))))) = some r := h
  clear h
  by_cases c4 : (IntKind.u64.wrap (wrap64 ((wrap64 (a2 - a1)) + 1))) = 0
  · rw [if_pos c4] at H
    exact absurd H (by simp)
  · rw [if_neg c4] at H
    have c4b0 : ((IntKind.u64.wrap (wrap64 ((wrap64 (a2 - a1)) + 1))) == 0) = false := beq_eq_false_iff_ne.mpr c4
    have c4b1 : ((IntKind.u64.wrap (wrap64 ((wrap64 (a2 - a1)) + 1))) != 0) = true := bne_iff_ne.mpr c4
    obtain rfl := Option.some.inj H
    go_enter Try.func77, Try.ntmps77
    go_wp2
    go_ret
    exact ⟨by first | rfl | (simp; done) | (simp [*]; done), by repeat (first | exact Drawn0.refl _ | apply Drawn0.step)⟩
def withyref06_Fit.f (a0_0 : Int) (a0_1 : Int) (a0_2 : Int) (a0_3 : Int) (a0_4 : Int) (a0_5 : Int) : Option (Int × Int × Int × Int × Int × Int) := (withyref06_fit.f a0_0 1 12).bind fun t185 => ((withyref06_fit.f a0_1 0 4).bind fun t186 => ((withyref06_fit.f a0_2 1 4).bind fun t187 => ((withyref06_fit.f a0_3 1 4).bind fun t188 => ((withyref06_fit.f a0_4 1 40).bind fun t189 => ((withyref06_fit.f a0_5 0 6).bind fun t190 => (some (t185, t186, t187, t188, t189, t190)))))))
def withyref06_Fit.T1 : Bool × List (List Nat × List Nat) := (true, [([], []), ([0], [0]), ([1], [1]), ([], []), ([3], [3]), ([4, 2], [4]), ([], []), ([6], [6]), ([7, 5], [7]), ([], []), ([9], [9]), ([10, 8], [10]), ([], []), ([12], [12]), ([13, 11], [13]), ([], []), ([15], [15]), ([16, 14], [16]), ([2, 5, 8, 11, 14, 17], [2, 5, 8, 11, 14, 17]), ([18, 17, 0, 1, 2, 3, 4, 5, 6, 7, 8, 9, 10, 11, 12, 13, 14, 15, 16, 17, 18], [18])])
def withyref06_Fit.B1 : List Nat := [0, 1, 3, 0, 8, 31, 0, 64, 255, 0, 512, 2047, 0, 4096, 16383, 0, 32768, 131071, 262143, 524287]
theorem withyref06_Fit.tab1 : rtab .any (opsOf Try.f31 1) = withyref06_Fit.T1 := by kernel_rfl
theorem withyref06_Fit.bits1 : waitsOk withyref06_Fit.T1.2 withyref06_Fit.B1 = true := by kernel_rfl
set_option maxHeartbeats 8000000 in
set_option maxRecDepth 100000 in
theorem withyref06_Fit.calls (a0_0 : Int) (a0_1 : Int) (a0_2 : Int) (a0_3 : Int) (a0_4 : Int) (a0_5 : Int) (r1 : Int) (r2 : Int) (r3 : Int) (r4 : Int) (r5 : Int) (r6 : Int) (w : World) (h : withyref06_Fit.f a0_0 a0_1 a0_2 a0_3 a0_4 a0_5 = some (r1, r2, r3, r4, r5, r6)) :
    Calls Try.prog 31 #[.agg #[.int .i64 a0_0, .int .i64 a0_1, .int .i64 a0_2, .int .i64 a0_3, .int .i64 a0_4, .int .i64 a0_5]] w fun e w' => e = .returned (.agg #[.int .i64 r1, .int .i64 r2, .int .i64 r3, .int .i64 r4, .int .i64 r5, .int .i64 r6]) ∧ Below w.heap.size w w' := by
  have hu23 := Try.underlying23
  have HB := Aside0.mk (Below.refl w.heap.size w)
  have H : ((withyref06_fit.f a0_0 1 12).bind fun t185 => ((withyref06_fit.f a0_1 0 4).bind fun t186 => ((withyref06_fit.f a0_2 1 4).bind fun t187 => ((withyref06_fit.f a0_3 1 4).bind fun t188 => ((withyref06_fit.f a0_4 1 40).bind fun t189 => ((withyref06_fit.f a0_5 0 6).bind fun t190 => (some (t185, t186, t187, t188, t189, t190)))))))) = some (r1, r2, r3, r4, r5, r6) := h
  clear h
  replace H := Option.bind_eq_some_iff.mp H
  obtain ⟨t185, A20, H⟩ := H
  replace H : ((withyref06_fit.f a0_1 0 4).bind fun t186 => ((withyref06_fit.f a0_2 1 4).bind fun t187 => ((withyref06_fit.f a0_3 1 4).bind fun t188 => ((withyref06_fit.f a0_4 1 40).bind fun t189 => ((withyref06_fit.f a0_5 0 6).bind fun t190 => (some (t185, t186, t187, t188, t189, t190))))))) = some (r1, r2, r3, r4, r5, r6) := H
  have A2 := Aside0.mk A20
  clear A20
  replace H := Option.bind_eq_some_iff.mp H
  obtain ⟨t186, A30, H⟩ := H
  replace H : ((withyref06_fit.f a0_2 1 4).bind fun t187 => ((withyref06_fit.f a0_3 1 4).bind fun t188 => ((withyref06_fit.f a0_4 1 40).bind fun t189 => ((withyref06_fit.f a0_5 0 6).bind fun t190 => (some (t185, t186, t187, t188, t189, t190)))))) = some (r1, r2, r3, r4, r5, r6) := H
  have A3 := Aside0.mk A30
  clear A30
  replace H := Option.bind_eq_some_iff.mp H
  obtain ⟨t187, A40, H⟩ := H
  replace H : ((withyref06_fit.f a0_3 1 4).bind fun t188 => ((withyref06_fit.f a0_4 1 40).bind fun t189 => ((withyref06_fit.f a0_5 0 6).bind fun t190 => (some (t185, t186, t187, t188, t189, t190))))) = some (r1, r2, r3, r4, r5, r6) := H
  have A4 := Aside0.mk A40
  clear A40
  replace H := Option.bind_eq_some_iff.mp H
  obtain ⟨t188, A50, H⟩ := H
  replace H : ((withyref06_fit.f a0_4 1 40).bind fun t189 => ((withyref06_fit.f a0_5 0 6).bind fun t190 => (some (t185, t186, t187, t188, t189, t190)))) = some (r1, r2, r3, r4, r5, r6) := H
  have A5 := Aside0.mk A50
  clear A50
  replace H := Option.bind_eq_some_iff.mp H
  obtain ⟨t189, A60, H⟩ := H
  replace H : ((withyref06_fit.f a0_5 0 6).bind fun t190 => (some (t185, t186, t187, t188, t189, t190))) = some (r1, r2, r3, r4, r5, r6) := H
  have A6 := Aside0.mk A60
  clear A60
  replace H := Option.bind_eq_some_iff.mp H
  obtain ⟨t190, A70, H⟩ := H
  replace H : (some (t185, t186, t187, t188, t189, t190)) = some (r1, r2, r3, r4, r5, r6) := H
  have A7 := Aside0.mk A70
  clear A70
  simp only [Option.some.injEq, Prod.mk.injEq] at H
  obtain ⟨rfl, rfl, rfl, rfl, rfl, rfl⟩ := H
  go_enter Try.func31, Try.ntmps31
  try go_wp2_with (first | ((with_reducible refine gate_dst (N := 1) rfl ?_); refine box_event ?hg (N := 1) ?hd (cs := #[.int .i64 a0_0, .int .i64 a0_1, .int .i64 a0_2, .int .i64 a0_3, .int .i64 a0_4, .int .i64 a0_5]) (t := 23) ?hr ?_; (case hd => rfl); (case hg => rfl); (case hr => first | (go_simp; done) | (go_simp; rfl)); intro gb183 hg w8 hbox hb; have n0_ := Aside0.mk (below_step (by repeat (first | (with_reducible first | exact HB.out | apply below_alloc | apply pw_below_drewN | apply below_drew1) | exact HB.out)) hb); have n1_ := Aside0.mk (hbox); have n2_ := Aside0.mk ((by rw [hg]; exact (below_size (by repeat (first | (with_reducible first | exact HB.out | apply below_alloc | apply pw_below_drewN | apply below_drew1) | exact HB.out))) : w.heap.size ≤ gb183)); have n3_ := Aside0.mk ((by rw [hg]; exact (below_size (by repeat (first | (with_reducible first | exact HB.out | apply below_alloc | apply pw_below_drewN | apply below_drew1) | exact HB.out))) : w.heap.size ≤ gb183)); clear HB; have HB := n0_; have BK183 := n1_; have GW183 := n2_; have GE183 := n3_; clear n0_ n1_ n2_ n3_; clear hb hbox hg) | ((with_reducible refine gate_dst (N := 2) rfl ?_); refine box_event ?hg (N := 2) ?hd (cs := #[.int .i64 0, .int .i64 0, .int .i64 0, .int .i64 0, .int .i64 0, .int .i64 0]) (t := 23) ?hr ?_; (case hd => rfl); (case hg => rfl); (case hr => first | (go_simp; done) | (go_simp; rfl)); intro gb184 hg w9 hbox hb; have n0_ := Aside0.mk (blk_below (g := gb183) (o := .cells #[.int .i64 a0_0, .int .i64 a0_1, .int .i64 a0_2, .int .i64 a0_3, .int .i64 a0_4, .int .i64 a0_5] 23 (0, 0)) (by (with_reducible repeat (first | refine blk_drewN ?_ _ | refine blk_drew ?_ | refine blk_alloc ?_ _)); exact BK183.out) hb); have n1_ := Aside0.mk (below_step (by repeat (first | (with_reducible first | exact HB.out | apply below_alloc | apply pw_below_drewN | apply below_drew1 | refine below_set ?_ GE183.out) | exact HB.out)) hb); have n2_ := Aside0.mk (hbox); have n3_ := Aside0.mk ((by rw [hg]; exact (below_size (by repeat (first | (with_reducible first | exact HB.out | apply below_alloc | apply pw_below_drewN | apply below_drew1 | refine below_set ?_ GE183.out) | exact HB.out))) : w.heap.size ≤ gb184)); have n4_ := Aside0.mk ((by rw [hg]; exact (below_size (by repeat (first | (with_reducible first | exact HB.out | apply below_alloc | apply pw_below_drewN | apply below_drew1 | refine below_set ?_ GE183.out) | exact HB.out))) : w.heap.size ≤ gb184)); have n5_ := Aside0.mk ((by rw [hg]; exact Nat.ne_of_lt (blk_lt (g := gb183) (o := .cells #[.int .i64 a0_0, .int .i64 a0_1, .int .i64 a0_2, .int .i64 a0_3, .int .i64 a0_4, .int .i64 a0_5] 23 (0, 0)) (by (with_reducible repeat (first | refine blk_drewN ?_ _ | refine blk_drew ?_ | refine blk_alloc ?_ _)); exact BK183.out)) : gb183 ≠ gb184)); have n6_ := Aside0.mk ((by rw [hg]; exact Nat.ne_of_gt (blk_lt (g := gb183) (o := .cells #[.int .i64 a0_0, .int .i64 a0_1, .int .i64 a0_2, .int .i64 a0_3, .int .i64 a0_4, .int .i64 a0_5] 23 (0, 0)) (by (with_reducible repeat (first | refine blk_drewN ?_ _ | refine blk_drew ?_ | refine blk_alloc ?_ _)); exact BK183.out)) : gb184 ≠ gb183)); clear BK183; clear HB; have BK183 := n0_; have HB := n1_; have BK184 := n2_; have GW184 := n3_; have GE184 := n4_; have NB183_184 := n5_; have NB184_183 := n6_; clear n0_ n1_ n2_ n3_ n4_ n5_ n6_; clear hb hbox hg))
  have n0_ := Aside0.mk (blk_drew BK183.out)
  have n1_ := Aside0.mk (blk_drew BK184.out)
  have n2_ := Aside0.mk (below_drew1 HB.out)
  clear BK183
  clear BK184
  clear HB
  have BK183 := n0_
  have BK184 := n1_
  have HB := n2_
  clear n0_ n1_ n2_
  refine start_ (n := 20) (S := fun w' => w'.cell? ⟨gb183, 0, none⟩ = some (.int .i64 a0_0) ∧ w'.cell? ⟨gb183, 1, none⟩ = some (.int .i64 a0_1) ∧ w'.cell? ⟨gb183, 2, none⟩ = some (.int .i64 a0_2) ∧ w'.cell? ⟨gb183, 3, none⟩ = some (.int .i64 a0_3) ∧ w'.cell? ⟨gb183, 4, none⟩ = some (.int .i64 a0_4) ∧ w'.cell? ⟨gb183, 5, none⟩ = some (.int .i64 a0_5)) (ds := []) #[false, false, false, false, false, false, false, false, false, false, false, false, false, false, false, false, false, false, false, false] (by kernel_rfl) rfl rfl ⟨(blk_cell BK183.out 0).trans rfl, (blk_cell BK183.out 1).trans rfl, (blk_cell BK183.out 2).trans rfl, (blk_cell BK183.out 3).trans rfl, (blk_cell BK183.out 4).trans rfl, (blk_cell BK183.out 5).trans rfl⟩ (fun hHeld => ?_); refine with_tabW withyref06_Fit.tab1 withyref06_Fit.bits1 (fun HT_ HW_ => ?_)
  generalize w9.drew = w10 at BK183 BK184 HB hHeld ⊢
  refine pure_ (i := 0) (N := some 3) (v := ?_) (a' := ?_) #[true, false, false, false, false, false, false, false, false, false, false, false, false, false, false, false, false, false, false, false] rfl rfl (any_of HT_.out (by kernel_rfl)) (fun _ _ _ h => h) (Or.inl ⟨by rfl, ?_⟩) ?_ ?_
  rotate_left
  · intro w'
    go_simp
    with_reducible rfl
  rotate_left
  · simp only [Act.put, pA, pB, pC, i64_w, i32_w]
    rfl
  refine pure_ (i := 3) (N := some 6) (v := ?_) (a' := ?_) #[true, false, false, true, false, false, false, false, false, false, false, false, false, false, false, false, false, false, false, false] rfl rfl (any_of HT_.out (by kernel_rfl)) (fun _ _ _ h => h) (Or.inl ⟨by rfl, ?_⟩) ?_ ?_
  rotate_left
  · intro w'
    go_simp
    with_reducible rfl
  rotate_left
  · simp only [Act.put, pA, pB, pC, i64_w, i32_w]
    rfl
  refine pure_ (i := 6) (N := some 9) (v := ?_) (a' := ?_) #[true, false, false, true, false, false, true, false, false, false, false, false, false, false, false, false, false, false, false, false] rfl rfl (any_of HT_.out (by kernel_rfl)) (fun _ _ _ h => h) (Or.inl ⟨by rfl, ?_⟩) ?_ ?_
  rotate_left
  · intro w'
    go_simp
    with_reducible rfl
  rotate_left
  · simp only [Act.put, pA, pB, pC, i64_w, i32_w]
    rfl
  refine pure_ (i := 9) (N := some 12) (v := ?_) (a' := ?_) #[true, false, false, true, false, false, true, false, false, true, false, false, false, false, false, false, false, false, false, false] rfl rfl (any_of HT_.out (by kernel_rfl)) (fun _ _ _ h => h) (Or.inl ⟨by rfl, ?_⟩) ?_ ?_
  rotate_left
  · intro w'
    go_simp
    with_reducible rfl
  rotate_left
  · simp only [Act.put, pA, pB, pC, i64_w, i32_w]
    rfl
  refine pure_ (i := 12) (N := some 15) (v := ?_) (a' := ?_) #[true, false, false, true, false, false, true, false, false, true, false, false, true, false, false, false, false, false, false, false] rfl rfl (any_of HT_.out (by kernel_rfl)) (fun _ _ _ h => h) (Or.inl ⟨by rfl, ?_⟩) ?_ ?_
  rotate_left
  · intro w'
    go_simp
    with_reducible rfl
  rotate_left
  · simp only [Act.put, pA, pB, pC, i64_w, i32_w]
    rfl
  refine pure_ (i := 15) (N := some 18) (v := ?_) (a' := ?_) #[true, false, false, true, false, false, true, false, false, true, false, false, true, false, false, true, false, false, false, false] rfl rfl (any_of HT_.out (by kernel_rfl)) (fun _ _ _ h => h) (Or.inl ⟨by rfl, ?_⟩) ?_ ?_
  rotate_left
  · intro w'
    go_simp
    with_reducible rfl
  rotate_left
  · simp only [Act.put, pA, pB, pC, i64_w, i32_w]
    rfl
  refine take_ (i := 1) (N := some 4) (v := ?_) (a' := ?_) #[true, true, false, true, false, false, true, false, false, true, false, false, true, false, false, true, false, false, false, false] rfl rfl (take_ofW HT_.out HW_.out (by kernel_rfl)) (fun _ _ _ h => h) (Or.inl ⟨by rfl, ?_⟩) hHeld ?_ ?_
  rotate_left
  · rintro w' ⟨s0, s1, s2, s3, s4, s5⟩
    go_simp
    with_reducible rfl
  rotate_left
  · simp only [Act.put, pA, pB, pC, i64_w, i32_w]
    rfl
  refine take_ (i := 4) (N := some 7) (v := ?_) (a' := ?_) #[true, true, false, true, true, false, true, false, false, true, false, false, true, false, false, true, false, false, false, false] rfl rfl (take_ofW HT_.out HW_.out (by kernel_rfl)) (fun _ _ _ h => h) (Or.inl ⟨by rfl, ?_⟩) hHeld ?_ ?_
  rotate_left
  · rintro w' ⟨s0, s1, s2, s3, s4, s5⟩
    go_simp
    with_reducible rfl
  rotate_left
  · simp only [Act.put, pA, pB, pC, i64_w, i32_w]
    rfl
  refine take_ (i := 7) (N := some 10) (v := ?_) (a' := ?_) #[true, true, false, true, true, false, true, true, false, true, false, false, true, false, false, true, false, false, false, false] rfl rfl (take_ofW HT_.out HW_.out (by kernel_rfl)) (fun _ _ _ h => h) (Or.inl ⟨by rfl, ?_⟩) hHeld ?_ ?_
  rotate_left
  · rintro w' ⟨s0, s1, s2, s3, s4, s5⟩
    go_simp
    with_reducible rfl
  rotate_left
  · simp only [Act.put, pA, pB, pC, i64_w, i32_w]
    rfl
  refine take_ (i := 10) (N := some 13) (v := ?_) (a' := ?_) #[true, true, false, true, true, false, true, true, false, true, true, false, true, false, false, true, false, false, false, false] rfl rfl (take_ofW HT_.out HW_.out (by kernel_rfl)) (fun _ _ _ h => h) (Or.inl ⟨by rfl, ?_⟩) hHeld ?_ ?_
  rotate_left
  · rintro w' ⟨s0, s1, s2, s3, s4, s5⟩
    go_simp
    with_reducible rfl
  rotate_left
  · simp only [Act.put, pA, pB, pC, i64_w, i32_w]
    rfl
  refine take_ (i := 13) (N := some 16) (v := ?_) (a' := ?_) #[true, true, false, true, true, false, true, true, false, true, true, false, true, true, false, true, false, false, false, false] rfl rfl (take_ofW HT_.out HW_.out (by kernel_rfl)) (fun _ _ _ h => h) (Or.inl ⟨by rfl, ?_⟩) hHeld ?_ ?_
  rotate_left
  · rintro w' ⟨s0, s1, s2, s3, s4, s5⟩
    go_simp
    with_reducible rfl
  rotate_left
  · simp only [Act.put, pA, pB, pC, i64_w, i32_w]
    rfl
  refine take_ (i := 16) (N := some 19) (v := ?_) (a' := ?_) #[true, true, false, true, true, false, true, true, false, true, true, false, true, true, false, true, true, false, false, false] rfl rfl (take_ofW HT_.out HW_.out (by kernel_rfl)) (fun _ _ _ h => h) (Or.inl ⟨by rfl, ?_⟩) hHeld ?_ ?_
  rotate_left
  · rintro w' ⟨s0, s1, s2, s3, s4, s5⟩
    go_simp
    with_reducible rfl
  rotate_left
  · simp only [Act.put, pA, pB, pC, i64_w, i32_w]
    rfl
  refine one_ (i := 2) (N := some 5) #[true, true, true, true, true, false, true, true, false, true, true, false, true, true, false, true, true, false, false, false] rfl rfl (one_of HT_.out (by kernel_rfl)) (by decide) (fun K hK => ?_)
  refine goes_ Try.func77 (by kernel_rfl) rfl #[.int .i64 a0_0, .int .i64 1, .int .i64 12] (by rfl) rfl rfl (by (try simp only [List.map_toArray, List.map_cons, List.map_nil]); first | done | rfl | (simp only [List.length_drop, List.length_take]; rfl)) ?_
  with_reducible refine (withyref06_fit.calls a0_0 1 12 t185 _ A2.out).mono ?_
  rintro e w' ⟨rfl, ⟨nd, rfl⟩⟩
  refine ⟨_, rfl, ?_⟩
  refine hK.out _ _ ⟨(blk_cell BK183.out 0).trans rfl, (blk_cell BK183.out 1).trans rfl, (blk_cell BK183.out 2).trans rfl, (blk_cell BK183.out 3).trans rfl, (blk_cell BK183.out 4).trans rfl, (blk_cell BK183.out 5).trans rfl⟩ (fun hHeld => ?_)
  clear hK K
  refine norm_ (a' := ?_) ?_ ?_
  rotate_left
  · show Act.put _ (some 5) _ = _
    simp only [Act.put, pA, pB, pC, i64_w, i32_w]
    rfl
  refine one_ (i := 5) (N := some 8) #[true, true, true, true, true, true, true, true, false, true, true, false, true, true, false, true, true, false, false, false] rfl rfl (one_of HT_.out (by kernel_rfl)) (by decide) (fun K hK => ?_)
  refine goes_ Try.func77 (by kernel_rfl) rfl #[.int .i64 a0_1, .int .i64 0, .int .i64 4] (by rfl) rfl rfl (by (try simp only [List.map_toArray, List.map_cons, List.map_nil]); first | done | rfl | (simp only [List.length_drop, List.length_take]; rfl)) ?_
  with_reducible refine (withyref06_fit.calls a0_1 0 4 t186 _ A3.out).mono ?_
  rintro e w' ⟨rfl, ⟨nd, rfl⟩⟩
  refine ⟨_, rfl, ?_⟩
  refine hK.out _ _ ⟨(blk_cell BK183.out 0).trans rfl, (blk_cell BK183.out 1).trans rfl, (blk_cell BK183.out 2).trans rfl, (blk_cell BK183.out 3).trans rfl, (blk_cell BK183.out 4).trans rfl, (blk_cell BK183.out 5).trans rfl⟩ (fun hHeld => ?_)
  clear hK K
  refine norm_ (a' := ?_) ?_ ?_
  rotate_left
  · show Act.put _ (some 8) _ = _
    simp only [Act.put, pA, pB, pC, i64_w, i32_w]
    rfl
  refine one_ (i := 8) (N := some 11) #[true, true, true, true, true, true, true, true, true, true, true, false, true, true, false, true, true, false, false, false] rfl rfl (one_of HT_.out (by kernel_rfl)) (by decide) (fun K hK => ?_)
  refine goes_ Try.func77 (by kernel_rfl) rfl #[.int .i64 a0_2, .int .i64 1, .int .i64 4] (by rfl) rfl rfl (by (try simp only [List.map_toArray, List.map_cons, List.map_nil]); first | done | rfl | (simp only [List.length_drop, List.length_take]; rfl)) ?_
  with_reducible refine (withyref06_fit.calls a0_2 1 4 t187 _ A4.out).mono ?_
  rintro e w' ⟨rfl, ⟨nd, rfl⟩⟩
  refine ⟨_, rfl, ?_⟩
  refine hK.out _ _ ⟨(blk_cell BK183.out 0).trans rfl, (blk_cell BK183.out 1).trans rfl, (blk_cell BK183.out 2).trans rfl, (blk_cell BK183.out 3).trans rfl, (blk_cell BK183.out 4).trans rfl, (blk_cell BK183.out 5).trans rfl⟩ (fun hHeld => ?_)
  clear hK K
  refine norm_ (a' := ?_) ?_ ?_
  rotate_left
  · show Act.put _ (some 11) _ = _
    simp only [Act.put, pA, pB, pC, i64_w, i32_w]
    rfl
  refine one_ (i := 11) (N := some 14) #[true, true, true, true, true, true, true, true, true, true, true, true, true, true, false, true, true, false, false, false] rfl rfl (one_of HT_.out (by kernel_rfl)) (by decide) (fun K hK => ?_)
  refine goes_ Try.func77 (by kernel_rfl) rfl #[.int .i64 a0_3, .int .i64 1, .int .i64 4] (by rfl) rfl rfl (by (try simp only [List.map_toArray, List.map_cons, List.map_nil]); first | done | rfl | (simp only [List.length_drop, List.length_take]; rfl)) ?_
  with_reducible refine (withyref06_fit.calls a0_3 1 4 t188 _ A5.out).mono ?_
  rintro e w' ⟨rfl, ⟨nd, rfl⟩⟩
  refine ⟨_, rfl, ?_⟩
  refine hK.out _ _ ⟨(blk_cell BK183.out 0).trans rfl, (blk_cell BK183.out 1).trans rfl, (blk_cell BK183.out 2).trans rfl, (blk_cell BK183.out 3).trans rfl, (blk_cell BK183.out 4).trans rfl, (blk_cell BK183.out 5).trans rfl⟩ (fun hHeld => ?_)
  clear hK K
  refine norm_ (a' := ?_) ?_ ?_
  rotate_left
  · show Act.put _ (some 14) _ = _
    simp only [Act.put, pA, pB, pC, i64_w, i32_w]
    rfl
  refine one_ (i := 14) (N := some 17) #[true, true, true, true, true, true, true, true, true, true, true, true, true, true, true, true, true, false, false, false] rfl rfl (one_of HT_.out (by kernel_rfl)) (by decide) (fun K hK => ?_)
  refine goes_ Try.func77 (by kernel_rfl) rfl #[.int .i64 a0_4, .int .i64 1, .int .i64 40] (by rfl) rfl rfl (by (try simp only [List.map_toArray, List.map_cons, List.map_nil]); first | done | rfl | (simp only [List.length_drop, List.length_take]; rfl)) ?_
  with_reducible refine (withyref06_fit.calls a0_4 1 40 t189 _ A6.out).mono ?_
  rintro e w' ⟨rfl, ⟨nd, rfl⟩⟩
  refine ⟨_, rfl, ?_⟩
  refine hK.out _ _ ⟨(blk_cell BK183.out 0).trans rfl, (blk_cell BK183.out 1).trans rfl, (blk_cell BK183.out 2).trans rfl, (blk_cell BK183.out 3).trans rfl, (blk_cell BK183.out 4).trans rfl, (blk_cell BK183.out 5).trans rfl⟩ (fun hHeld => ?_)
  clear hK K
  refine norm_ (a' := ?_) ?_ ?_
  rotate_left
  · show Act.put _ (some 17) _ = _
    simp only [Act.put, pA, pB, pC, i64_w, i32_w]
    rfl
  refine one_ (i := 17) (N := some 20) #[true, true, true, true, true, true, true, true, true, true, true, true, true, true, true, true, true, true, false, false] rfl rfl (one_of HT_.out (by kernel_rfl)) (by decide) (fun K hK => ?_)
  refine goes_ Try.func77 (by kernel_rfl) rfl #[.int .i64 a0_5, .int .i64 0, .int .i64 6] (by rfl) rfl rfl (by (try simp only [List.map_toArray, List.map_cons, List.map_nil]); first | done | rfl | (simp only [List.length_drop, List.length_take]; rfl)) ?_
  with_reducible refine (withyref06_fit.calls a0_5 0 6 t190 _ A7.out).mono ?_
  rintro e w' ⟨rfl, ⟨nd, rfl⟩⟩
  refine ⟨_, rfl, ?_⟩
  refine hK.out _ _ ⟨(blk_cell BK183.out 0).trans rfl, (blk_cell BK183.out 1).trans rfl, (blk_cell BK183.out 2).trans rfl, (blk_cell BK183.out 3).trans rfl, (blk_cell BK183.out 4).trans rfl, (blk_cell BK183.out 5).trans rfl⟩ (fun hHeld => ?_)
  clear hK K
  refine norm_ (a' := ?_) ?_ ?_
  rotate_left
  · show Act.put _ (some 20) _ = _
    simp only [Act.put, pA, pB, pC, i64_w, i32_w]
    rfl
  refine pure_ (i := 18) (N := some 21) (v := ?_) (a' := ?_) #[true, true, true, true, true, true, true, true, true, true, true, true, true, true, true, true, true, true, true, false] rfl rfl (any_of HT_.out (by kernel_rfl)) (fun _ _ _ h => h) (Or.inl ⟨by rfl, ?_⟩) ?_ ?_
  rotate_left
  · intro w'
    go_simp
    with_reducible rfl
  rotate_left
  · simp only [Act.put, pA, pB, pC, i64_w, i32_w]
    rfl
  refine one_ (i := 19) (N := none) #[true, true, true, true, true, true, true, true, true, true, true, true, true, true, true, true, true, true, true, true] rfl rfl (one_of HT_.out (by kernel_rfl)) (by decide) (fun K hK => ?_)
  have hs11 : w10.cell? ⟨gb184, 0, none⟩ = some (.int .i64 0) := (blk_cell BK184.out 0).trans rfl
  have hfs11 := blk_frozen BK184.out 0
  have hns11_0 := NB183_184.out
  have hms11_0 := NB184_183.out
  have hs12 : w10.cell? ⟨gb184, 1, none⟩ = some (.int .i64 0) := (blk_cell BK184.out 1).trans rfl
  have hfs12 := blk_frozen BK184.out 1
  have hns12_0 := NB183_184.out
  have hms12_0 := NB184_183.out
  have hs13 : w10.cell? ⟨gb184, 2, none⟩ = some (.int .i64 0) := (blk_cell BK184.out 2).trans rfl
  have hfs13 := blk_frozen BK184.out 2
  have hns13_0 := NB183_184.out
  have hms13_0 := NB184_183.out
  have hs14 : w10.cell? ⟨gb184, 3, none⟩ = some (.int .i64 0) := (blk_cell BK184.out 3).trans rfl
  have hfs14 := blk_frozen BK184.out 3
  have hns14_0 := NB183_184.out
  have hms14_0 := NB184_183.out
  have hs15 : w10.cell? ⟨gb184, 4, none⟩ = some (.int .i64 0) := (blk_cell BK184.out 4).trans rfl
  have hfs15 := blk_frozen BK184.out 4
  have hns15_0 := NB183_184.out
  have hms15_0 := NB184_183.out
  have hs16 : w10.cell? ⟨gb184, 5, none⟩ = some (.int .i64 0) := (blk_cell BK184.out 5).trans rfl
  have hfs16 := blk_frozen BK184.out 5
  have hns16_0 := NB183_184.out
  have hms16_0 := NB184_183.out
  refine skip_ (w1 := ?_) (by rfl) rfl ?_ ?_
  rotate_left
  · go_simp
    rfl
  refine hK.out _ _ ⟨((cell_far (p := ⟨gb184, _, none⟩) NB183_184.out _).trans (((cell_far (p := ⟨gb184, _, none⟩) NB183_184.out _).trans (((cell_far (p := ⟨gb184, _, none⟩) NB183_184.out _).trans (((cell_far (p := ⟨gb184, _, none⟩) NB183_184.out _).trans (((cell_far (p := ⟨gb184, _, none⟩) NB183_184.out _).trans (((cell_far (p := ⟨gb184, _, none⟩) NB183_184.out _).trans (hHeld.1)))))))))))), ((cell_far (p := ⟨gb184, _, none⟩) NB183_184.out _).trans (((cell_far (p := ⟨gb184, _, none⟩) NB183_184.out _).trans (((cell_far (p := ⟨gb184, _, none⟩) NB183_184.out _).trans (((cell_far (p := ⟨gb184, _, none⟩) NB183_184.out _).trans (((cell_far (p := ⟨gb184, _, none⟩) NB183_184.out _).trans (((cell_far (p := ⟨gb184, _, none⟩) NB183_184.out _).trans (hHeld.2.1)))))))))))), ((cell_far (p := ⟨gb184, _, none⟩) NB183_184.out _).trans (((cell_far (p := ⟨gb184, _, none⟩) NB183_184.out _).trans (((cell_far (p := ⟨gb184, _, none⟩) NB183_184.out _).trans (((cell_far (p := ⟨gb184, _, none⟩) NB183_184.out _).trans (((cell_far (p := ⟨gb184, _, none⟩) NB183_184.out _).trans (((cell_far (p := ⟨gb184, _, none⟩) NB183_184.out _).trans (hHeld.2.2.1)))))))))))), ((cell_far (p := ⟨gb184, _, none⟩) NB183_184.out _).trans (((cell_far (p := ⟨gb184, _, none⟩) NB183_184.out _).trans (((cell_far (p := ⟨gb184, _, none⟩) NB183_184.out _).trans (((cell_far (p := ⟨gb184, _, none⟩) NB183_184.out _).trans (((cell_far (p := ⟨gb184, _, none⟩) NB183_184.out _).trans (((cell_far (p := ⟨gb184, _, none⟩) NB183_184.out _).trans (hHeld.2.2.2.1)))))))))))), ((cell_far (p := ⟨gb184, _, none⟩) NB183_184.out _).trans (((cell_far (p := ⟨gb184, _, none⟩) NB183_184.out _).trans (((cell_far (p := ⟨gb184, _, none⟩) NB183_184.out _).trans (((cell_far (p := ⟨gb184, _, none⟩) NB183_184.out _).trans (((cell_far (p := ⟨gb184, _, none⟩) NB183_184.out _).trans (((cell_far (p := ⟨gb184, _, none⟩) NB183_184.out _).trans (hHeld.2.2.2.2.1)))))))))))), ((cell_far (p := ⟨gb184, _, none⟩) NB183_184.out _).trans (((cell_far (p := ⟨gb184, _, none⟩) NB183_184.out _).trans (((cell_far (p := ⟨gb184, _, none⟩) NB183_184.out _).trans (((cell_far (p := ⟨gb184, _, none⟩) NB183_184.out _).trans (((cell_far (p := ⟨gb184, _, none⟩) NB183_184.out _).trans (((cell_far (p := ⟨gb184, _, none⟩) NB183_184.out _).trans (hHeld.2.2.2.2.2))))))))))))⟩ (fun hHeld => ?_)
  clear hK K
  refine done_ (done_of HT_.out (by kernel_rfl)) ?_
  try go_wp2
  refine bodyPost_ret (results_cell_row rfl _ _ gb184 23 #[.int .i64 t185, .int .i64 t186, .int .i64 t187, .int .i64 t188, .int .i64 t189, .int .i64 t190] (0, 0) _ rfl (by (with_reducible repeat (first | refine blk_drewN ?_ _ | refine blk_drew ?_ | refine blk_alloc ?_ _)); refine blk_put (cs := #[.int .i64 t185, .int .i64 t186, .int .i64 t187, .int .i64 t188, .int .i64 t189, .int .i64 0]) ?_ 5 _ rfl; (with_reducible repeat (first | refine blk_drewN ?_ _ | refine blk_drew ?_ | refine blk_alloc ?_ _)); refine blk_put (cs := #[.int .i64 t185, .int .i64 t186, .int .i64 t187, .int .i64 t188, .int .i64 0, .int .i64 0]) ?_ 4 _ rfl; (with_reducible repeat (first | refine blk_drewN ?_ _ | refine blk_drew ?_ | refine blk_alloc ?_ _)); refine blk_put (cs := #[.int .i64 t185, .int .i64 t186, .int .i64 t187, .int .i64 0, .int .i64 0, .int .i64 0]) ?_ 3 _ rfl; (with_reducible repeat (first | refine blk_drewN ?_ _ | refine blk_drew ?_ | refine blk_alloc ?_ _)); refine blk_put (cs := #[.int .i64 t185, .int .i64 t186, .int .i64 0, .int .i64 0, .int .i64 0, .int .i64 0]) ?_ 2 _ rfl; (with_reducible repeat (first | refine blk_drewN ?_ _ | refine blk_drew ?_ | refine blk_alloc ?_ _)); refine blk_put (cs := #[.int .i64 t185, .int .i64 0, .int .i64 0, .int .i64 0, .int .i64 0, .int .i64 0]) ?_ 1 _ rfl; (with_reducible repeat (first | refine blk_drewN ?_ _ | refine blk_drew ?_ | refine blk_alloc ?_ _)); refine blk_put (cs := #[.int .i64 0, .int .i64 0, .int .i64 0, .int .i64 0, .int .i64 0, .int .i64 0]) ?_ 0 _ rfl; (with_reducible repeat (first | refine blk_drewN ?_ _ | refine blk_drew ?_ | refine blk_alloc ?_ _)); exact BK184.out) Try.underlying23 rfl (by kernel_rfl)) rfl ?_
  exact ⟨by first | rfl | (simp [errW_none, errW_some] <;> rfl) | (simp [*, errW_none, errW_some] <;> rfl), by repeat (first | (with_reducible first | exact HB.out | apply below_alloc | apply pw_below_drewN | apply below_drew1 | refine below_set ?_ GE183.out | refine below_set ?_ GE184.out) | exact HB.out)⟩
end Go.Proofs.Ytijfkpoofpcacaa.PArenaPlays
end
section
namespace Go.Proofs.Ytijfkpoofpcacaa.Core
open Go.RowKit Go.Proofs.YtijfkpoofpcacaaW.PrintWords
theorem wrap_u64 (n : Int) : IntKind.u64.wrap n = n % 18446744073709551616 := by simp [IntKind.wrap, IntKind.bits, IntKind.signed]
theorem wrap_u64_id (n : Int) (h0 : 0 ≤ n) (h1 : n < 18446744073709551616) : IntKind.u64.wrap n = n := by rw [wrap_u64]; omega
theorem wrap64_id (n : Int) (h0 : -9223372036854775808 ≤ n) (h1 : n < 9223372036854775808) : wrap64 n = n := by unfold wrap64; omega
theorem p64 : (2 : Nat) ^ 64 = 18446744073709551616 := rfl
theorem bits_and (a b : Nat) (ha : a < 2 ^ 64) (hb : b < 2 ^ 64) : bits .and .u64 (a : Int) (b : Int) = ((a &&& b : Nat) : Int) := by
  have h1 : (BitVec.ofInt 64 (a : Int)).toNat = a := by rw [BitVec.ofInt_natCast, BitVec.toNat_ofNat]; exact Nat.mod_eq_of_lt ha
  have h2 : (BitVec.ofInt 64 (b : Int)).toNat = b := by rw [BitVec.ofInt_natCast, BitVec.toNat_ofNat]; exact Nat.mod_eq_of_lt hb
  have h3 : a &&& b < 2 ^ 64 := Nat.and_lt_two_pow _ hb
  show IntKind.u64.wrap ((BitVec.ofInt 64 (a : Int) &&& BitVec.ofInt 64 (b : Int)).toNat : Int) = _
  rw [BitVec.toNat_and, h1, h2, wrap_u64]
  rw [p64] at h3
  omega
theorem bits_or (a b : Nat) (ha : a < 2 ^ 64) (hb : b < 2 ^ 64) : bits .or .u64 (a : Int) (b : Int) = ((a ||| b : Nat) : Int) := by
  have h1 : (BitVec.ofInt 64 (a : Int)).toNat = a := by rw [BitVec.ofInt_natCast, BitVec.toNat_ofNat]; exact Nat.mod_eq_of_lt ha
  have h2 : (BitVec.ofInt 64 (b : Int)).toNat = b := by rw [BitVec.ofInt_natCast, BitVec.toNat_ofNat]; exact Nat.mod_eq_of_lt hb
  have h3 : a ||| b < 2 ^ 64 := Nat.or_lt_two_pow ha hb
  show IntKind.u64.wrap ((BitVec.ofInt 64 (a : Int) ||| BitVec.ofInt 64 (b : Int)).toNat : Int) = _
  rw [BitVec.toNat_or, h1, h2, wrap_u64]
  rw [p64] at h3
  omega
def okB (at_ n : Int) : Bool := decide (1 ≤ n) && decide (n ≤ 64) && decide (0 ≤ at_) && decide (at_ ≤ 64 - n)
theorem okB_iff {a n : Int} : okB a n = true ↔ 1 ≤ n ∧ n ≤ 64 ∧ 0 ≤ a ∧ a ≤ 64 - n := by simp [okB, and_assoc]
def getV (w a n : Int) : Int := if okB a n = true then w / 2 ^ a.toNat % 2 ^ n.toNat else 0
def fitsB (v n : Int) : Bool := decide (0 ≤ n) && (decide (63 < n) || decide (v < 2 ^ n.toNat))
theorem wf_u64 {x : Int} (h : (Lit.int .u64 x).wf = true) : 0 ≤ x ∧ x < 18446744073709551616 := by
  simp [Lit.wf, IntKind.min, IntKind.max, IntKind.signed, IntKind.bits] at h
  omega
theorem shl_nat (x a : Nat) (r : Nat) (ha : a ≤ 64) (hr : x * 2 ^ a < 2 ^ 64) (e : r = x * 2 ^ a := by rfl) : shl .u64 (x : Int) (a : Int) = (r : Int) := by
  subst e
  unfold shl
  rw [Int.toNat_natCast, show IntKind.bits .u64 = 64 from rfl, Nat.min_eq_left ha]
  rw [p64] at hr
  have e : (x : Int) * 2 ^ a = ((x * 2 ^ a : Nat) : Int) := by simp
  rw [e]
  exact wrap_u64_id _ (by omega) (by omega)
def topV (t s : Int) : Int × Bool := if -1 ≤ s ∧ s < 64 ∧ t < 281474976710656 then (65536 * t + (s + 1), true) else (0, false)
def movedV (w s : Int) : Int := 65536 * ((w / 65536 + 1) % 281474976710656) + ((if -1 ≤ s ∧ s < 64 then s else -1) + 1)
def rightB (S A C H G K : Int) : Bool := decide (1 ≤ S ∧ S ≤ 64 ∧ 0 ≤ A ∧ A ≤ 8 ∧ 1 ≤ C ∧ C ≤ 8 ∧ 1 ≤ H ∧ H ≤ 16 ∧ 1 ≤ G ∧ G ≤ 1048576 ∧ 0 ≤ K ∧ K ≤ 64)
theorem right_iff {S A C H G K : Int} : rightB S A C H G K = true ↔ (1 ≤ S ∧ S ≤ 64 ∧ 0 ≤ A ∧ A ≤ 8 ∧ 1 ≤ C ∧ C ≤ 8 ∧ 1 ≤ H ∧ H ≤ 16 ∧ 1 ≤ G ∧ G ≤ 1048576 ∧ 0 ≤ K ∧ K ≤ 64) := by simp [rightB]
theorem mul_le2 {a b m n : Int} (a0 : 0 ≤ a) (am : a ≤ m) (b0 : 0 ≤ b) (bn : b ≤ n) : 0 ≤ a * b ∧ a * b ≤ m * n :=
  ⟨Int.mul_nonneg a0 b0, Int.mul_le_mul am bn b0 (by omega)⟩
def slotsV (C H : Int) : Int := 4 + C * (1 + H + 2)
def roomV (A : Int) : Int := 2 + (if A < 3 then 3 else A)
def sizeV (S A C H : Int) : Int := slotsV C H + S * roomV A
theorem roomV_bd {A : Int} (h0 : 0 ≤ A) (h1 : A ≤ 8) : 5 ≤ roomV A ∧ roomV A ≤ 10 := by unfold roomV; split <;> omega
theorem slotsV_bd {C H : Int} (h0 : 0 ≤ C) (h1 : C ≤ 8) (h2 : 0 ≤ H) (h3 : H ≤ 16) : 4 ≤ slotsV C H ∧ slotsV C H ≤ 156 := by
  unfold slotsV
  have := mul_le2 (a := C) (b := 1 + H + 2) (m := 8) (n := 19) (by omega) (by omega) (by omega) (by omega)
  omega
theorem toList_loop (s : ByteArray) (d : Nat) : ∀ (i : Nat) (r : List UInt8), i + d = s.size → ByteArray.toList.loop s i r = r.reverse ++ s.data.toList.drop i := by
  induction d with
  | zero =>
    intro i r h
    rw [ByteArray.toList.loop, if_neg (by omega), List.drop_eq_nil_of_le (by show s.data.size ≤ i; have : s.data.size = s.size := rfl; omega)]; simp
  | succ d ih =>
    intro i r h
    have hlt : i < s.data.toList.length := by show i < s.data.size; have : s.data.size = s.size := rfl; omega
    rw [ByteArray.toList.loop, if_pos (by omega), ih (i + 1) _ (by omega), List.drop_eq_getElem_cons hlt]
    have : s.get! i = s.data.toList[i] := by
      show s.data[i]! = _
      rw [getElem!_pos s.data i (by simpa using hlt)]; simp
    rw [this]; simp
theorem toList_data (s : ByteArray) : s.toList = s.data.toList := by
  have := toList_loop s s.size 0 [] (by omega)
  simpa [ByteArray.toList] using this
end Go.Proofs.Ytijfkpoofpcacaa.Core
end
section
namespace Go.Proofs.Ytijfkpoofpcacaa.PuArenaPlays
open Go.RowKit Go.Proofs.Ytijfkpoofpcacaa.PArenaPlays Go.Proofs.YtijfkpoofpcacaaW.PrintWords Go.Proofs.YtijfkpoofpcacaaW.PrintLast Go.Proofs.Ytijfkpoofpcacaa.Core
theorem p_between (x lo hi : Int) : plan_between.f x lo hi = some (decide (lo ≤ x ∧ x ≤ hi)) := by
  unfold plan_between.f
  by_cases h : x ≥ lo
  · rw [if_pos h]; simp [show lo ≤ x from h]
  · rw [if_neg h]; simp [show ¬ lo ≤ x from h]
theorem p_pRight (S A C H G K : Int) : plan_Right.f S A C H G K = some (rightB S A C H G K) := by
  unfold plan_Right.f rightB
  simp only [p_between, Option.bind_some]
  by_cases h1 : 1 ≤ S ∧ S ≤ 64
  · rw [if_pos (decide_eq_true h1)]
    by_cases h2 : 0 ≤ A ∧ A ≤ 8
    · rw [if_pos (decide_eq_true h2)]
      by_cases h3 : 1 ≤ C ∧ C ≤ 8
      · rw [if_pos (decide_eq_true h3)]
        by_cases h4 : 1 ≤ H ∧ H ≤ 16
        · rw [if_pos (decide_eq_true h4)]
          by_cases h5 : 1 ≤ G ∧ G ≤ 1048576
          · rw [if_pos (decide_eq_true h5)]
            congr 1; rw [Bool.eq_iff_iff]; simp only [decide_eq_true_eq]; omega
          · rw [if_neg (by simpa using h5), decide_eq_false (by omega)]
        · rw [if_neg (by simpa using h4), decide_eq_false (by omega)]
      · rw [if_neg (by simpa using h3), decide_eq_false (by omega)]
    · rw [if_neg (by simpa using h2), decide_eq_false (by omega)]
  · rw [if_neg (by simpa using h1), decide_eq_false (by omega)]
theorem p_pSlots (S A C H G K : Int) (h : rightB S A C H G K = true) : plan_slots.f S A C H G K = some (slotsV C H) := by
  rw [right_iff] at h
  unfold plan_slots.f slotsV
  have := mul_le2 (a := C) (b := 1 + H + 2) (m := 8) (n := 19) (by omega) (by omega) (by omega) (by omega)
  rw [wrap64_id (1 + H) (by omega) (by omega), wrap64_id (1 + H + 2) (by omega) (by omega), wrap64_id (C * (1 + H + 2)) (by omega) (by omega), wrap64_id _ (by omega) (by omega)]
theorem p_pRoom (S A C H G K : Int) (h0 : -100 ≤ A) (h1 : A ≤ 100) : plan_room.f S A C H G K = some (roomV A) := by
  unfold plan_room.f roomV mx
  rw [wrap64_id _ (by split <;> omega) (by split <;> omega)]
theorem p_pSize (S A C H G K : Int) : plan_Size.f S A C H G K = some (if rightB S A C H G K = true then sizeV S A C H else 0) := by
  unfold plan_Size.f
  rw [p_pRight, Option.bind_some]
  by_cases h : rightB S A C H G K = true
  · have h' := right_iff.1 h
    have r := roomV_bd (A := A) (by omega) (by omega)
    have s := slotsV_bd (C := C) (H := H) (by omega) (by omega) (by omega) (by omega)
    have m := mul_le2 (a := S) (b := roomV A) (m := 64) (n := 10) (by omega) (by omega) (by omega) (by omega)
    rw [if_pos h, if_pos h, p_pSlots S A C H G K h, Option.bind_some, p_pRoom S A C H G K (by omega) (by omega), Option.bind_some, wrap64_id (S * roomV A) (by omega) (by omega), wrap64_id _ (by omega) (by omega)]; rfl
  · rw [if_neg h, if_neg h]
theorem p_slots (s : Int) : tag_slots.f s = some (decide (-1 ≤ s ∧ s < 64)) := by
  unfold tag_slots.f
  by_cases h : s ≥ -1
  · rw [if_pos h]; simp [show -1 ≤ s from h]
  · rw [if_neg h]; simp [show ¬ -1 ≤ s from h]
theorem p_some (a n : Int) : word_some.f a n = some (okB a n) := by
  unfold word_some.f okB
  by_cases h1 : n ≥ 1
  · by_cases h2 : n ≤ 64
    · by_cases h3 : a ≥ 0
      · rw [if_pos h1, if_pos h2, if_pos h3, wrap64_id _ (by omega) (by omega)]
        simp [show 1 ≤ n from h1, h2, show 0 ≤ a from h3]
      · rw [if_pos h1, if_pos h2, if_neg h3]; simp [show ¬ 0 ≤ a from h3]
    · rw [if_pos h1, if_neg h2]; simp [h2]
  · rw [if_neg h1]; simp [show ¬ 1 ≤ n from h1]
theorem p_Fits (v n : Int) (h0 : 0 ≤ v) (h1 : v < 18446744073709551616) : word_Fits.f v n = some (fitsB v n) := by
  unfold word_Fits.f fitsB
  by_cases ha : n ≥ 0
  · by_cases hb : n > 63
    · rw [if_pos ha, if_pos hb]; simp [show 0 ≤ n from ha, show 63 < n from hb]
    · rw [if_pos ha, if_neg hb, if_pos ha]
      unfold shr
      rw [show IntKind.bits .u64 = 64 from rfl, Nat.min_eq_left (by omega)]
      obtain ⟨n, rfl⟩ := Int.eq_ofNat_of_zero_le (show 0 ≤ n from ha)
      obtain ⟨v, rfl⟩ := Int.eq_ofNat_of_zero_le h0
      rw [Int.toNat_natCast]
      congr 1
      have e1 : (v : Int) / 2 ^ n = ((v / 2 ^ n : Nat) : Int) := by simp
      have e2 : (2 : Int) ^ n = ((2 ^ n : Nat) : Int) := by simp
      rw [e1, e2, Bool.eq_iff_iff]
      have h3 := Nat.div_eq_zero_iff (a := v) (b := 2 ^ n)
      have h4 := Nat.two_pow_pos n
      simp only [beq_iff_eq, Bool.and_eq_true, Bool.or_eq_true, decide_eq_true_eq]
      constructor
      · intro h
        have := h3.1 (by omega)
        omega
      · intro h
        have := h3.2 (by omega)
        omega
  · rw [if_neg ha]; simp [show ¬ 0 ≤ n from ha]
def packF : List S153 → Int → Int → Int × Bool
  | [], w, _ => (w, true)
  | b :: l, w, a => if okB a b.f0 = true ∧ fitsB b.f1 b.f0 = true then packF l (w + b.f1 * 2 ^ a.toNat) (a + b.f0) else (0, false)
theorem pack_step {w a v n : Int} (h : okB a n = true) (hv : fitsB v n = true) (hw0 : 0 ≤ w) (hw : w < 2 ^ a.toNat) (hv0 : 0 ≤ v) (hv1 : v < 18446744073709551616) :
    Go.bits .or .u64 w (shl .u64 v a) = w + v * 2 ^ a.toNat ∧ w + v * 2 ^ a.toNat < 2 ^ (a + n).toNat ∧ 0 ≤ w + v * 2 ^ a.toNat := by
  rw [okB_iff] at h
  obtain ⟨w, rfl⟩ := Int.eq_ofNat_of_zero_le hw0
  obtain ⟨v, rfl⟩ := Int.eq_ofNat_of_zero_le hv0
  obtain ⟨a, rfl⟩ := Int.eq_ofNat_of_zero_le h.2.2.1
  obtain ⟨n, rfl⟩ := Int.eq_ofNat_of_zero_le (show 0 ≤ n by omega)
  rw [show ((a : Int) + (n : Int)).toNat = a + n from by omega]
  simp only [Int.toNat_natCast] at hw ⊢
  have hv2 : v < 2 ^ n := by
    simp only [fitsB, Bool.and_eq_true, Bool.or_eq_true, decide_eq_true_eq, Int.toNat_natCast] at hv
    have e : ((2 ^ n : Nat) : Int) = (2 : Int) ^ n := by simp
    rcases hv.2 with h1 | h1
    · rw [show n = 64 from by omega, p64]; omega
    · omega
  have hw2 : w < 2 ^ a := by
    have e : ((2 ^ a : Nat) : Int) = (2 : Int) ^ a := by simp
    omega
  have hsum : w + v * 2 ^ a < 2 ^ (a + n) := by
    have h3 : (v + 1) * 2 ^ a ≤ 2 ^ n * 2 ^ a := Nat.mul_le_mul_right _ hv2
    rw [Nat.add_mul, Nat.one_mul, ← Nat.pow_add, Nat.add_comm n a] at h3
    omega
  have hle := Nat.pow_le_pow_right (show 0 < 2 by decide) (show a + n ≤ 64 by omega)
  have e3 : (w : Int) + (v : Int) * 2 ^ a = ((w + v * 2 ^ a : Nat) : Int) := by simp
  rw [p64] at hle
  rw [shl_nat v a (v * 2 ^ a) (by omega) (by rw [p64]; omega), bits_or _ _ (by rw [p64]; omega) (by rw [p64]; omega), e3]
  refine ⟨?_, ?_, by omega⟩
  · have := Nat.two_pow_add_eq_or_of_lt hw2 v
    rw [Nat.or_comm, Nat.mul_comm v, ← this, Nat.add_comm]
  · have e4 : ((2 ^ (a + n) : Nat) : Int) = (2 : Int) ^ (a + n) := by simp
    omega
theorem p_Pack_l (l : List S153) : ∀ (pre : List S153) (k : Nat) (w a : Int), l.length < k → (pre ++ l).length < 2 ^ 60 → 0 ≤ w → w < 2 ^ a.toNat → 0 ≤ a → a ≤ 64 → (∀ b ∈ l, 0 ≤ b.f1 ∧ b.f1 < 18446744073709551616) →
    word_Pack.l0 k w a (pre ++ l) ((pre ++ l).length : Int) (pre.length : Int) = some (packF l w a) := by
  induction l with
  | nil =>
    intro pre k w a hk hl h0 h1 h2 h3 hb
    obtain ⟨k, rfl⟩ : ∃ m, k = m + 1 := ⟨k - 1, by omega⟩
    simp only [word_Pack.l0]
    rw [if_neg (by simp)]; rfl
  | cons b l ih =>
    intro pre k w a hk hl h0 h1 h2 h3 hb
    obtain ⟨k, rfl⟩ : ∃ m, k = m + 1 := ⟨k - 1, by omega⟩
    have hlen : (pre ++ b :: l).length = pre.length + 1 + l.length := by simp; omega
    have hrd : rd_T153 (pre ++ b :: l) (pre.length : Int) = b := by simp [rd_T153]
    have hb1 := hb b (by simp)
    simp only [word_Pack.l0]
    rw [if_pos (by omega), if_pos (by omega), if_pos (by omega), hrd, p_some, Option.bind_some]
    simp only [packF]
    by_cases c1 : okB a b.f0 = true
    · rw [if_pos c1, p_Fits b.f1 b.f0 hb1.1 hb1.2, Option.bind_some]
      by_cases c2 : fitsB b.f1 b.f0 = true
      · obtain ⟨e1, e2, e3⟩ := pack_step c1 c2 h0 h1 hb1.1 hb1.2
        have c1' := okB_iff.1 c1
        rw [if_pos c2, if_pos h2, if_pos ⟨c1, c2⟩, e1, wrap64_id _ (by omega) (by omega), wrap64_id _ (by omega) (by omega)]
        have := ih (pre ++ [b]) k (w + b.f1 * 2 ^ a.toNat) (a + b.f0) (by simpa using hk) (by simpa using hl) e3 e2 (by omega) (by omega) (fun x hx => hb x (by simp [hx]))
        simp only [List.append_assoc, List.cons_append, List.nil_append, List.length_append, List.length_cons, List.length_nil] at this
        rw [← this]
        simp
      · rw [if_neg c2, if_neg (fun h => c2 h.2)]
    · rw [if_neg c1, if_neg (fun h => c1 h.1)]
theorem p_Pack (k : Nat) (l : List S153) (hk : l.length < k) (hl : l.length < 2 ^ 60) (hb : ∀ b ∈ l, 0 ≤ b.f1 ∧ b.f1 < 18446744073709551616) : word_Pack.f k l = some (packF l 0 0) :=
  p_Pack_l l [] k 0 0 hk hl (by decide) (by decide) (by decide) (by decide) hb
theorem packF_yes {n v : Int} {l : List S153} {w a : Int} (h1 : okB a n = true) (h2 : fitsB v n = true) : packF (⟨n, v⟩ :: l) w a = packF l (w + v * 2 ^ a.toNat) (a + n) := by
  simp only [packF]; rw [if_pos ⟨h1, h2⟩]
theorem packF_no {n v : Int} {l : List S153} {w a : Int} (h2 : fitsB v n = false) : packF (⟨n, v⟩ :: l) w a = (0, false) := by
  simp only [packF]; rw [if_neg (by rw [h2]; simp)]
theorem p_tagged16 (k : Nat) (t s : Int) (hk : 3 ≤ k) (h0 : 0 ≤ t) (h1 : t < 18446744073709551616) : tag_tagged.f k t s 16 = some (topV t s) := by
  unfold tag_tagged.f topV
  rw [p_slots, Option.bind_some]
  by_cases h : -1 ≤ s ∧ s < 64
  · rw [if_pos (by simpa using h), wrap64_id (s + 1) (by omega) (by omega), wrap_u64_id _ (by omega) (by omega), p_Pack k _ (by simp; omega) (by simp) (by
      intro b hb
      simp at hb
      rcases hb with rfl | rfl <;> simp <;> omega)]
    rw [wrap64_id (64 - _) (by decide) (by decide), packF_yes (by decide) (by simp [fitsB]; omega)]
    by_cases h2 : t < 281474976710656
    · rw [packF_yes (by decide) (by simp [fitsB]; omega), if_pos (by omega)]
      simp [packF]; omega
    · rw [packF_no (by simp [fitsB]; omega), if_neg (by omega)]; rfl
  · rw [if_neg (by simpa using h), if_neg (by omega)]
theorem p_Top (k : Nat) (t s : Int) (hk : 3 ≤ k) (h0 : 0 ≤ t) (h1 : t < 18446744073709551616) : tag_Top.f k t s = some (topV t s) := by
  unfold tag_Top.f
  rw [p_tagged16 k t s hk h0 h1]; rfl
theorem p_pWithin (k : Nat) (S A C H G K s i : Int) (hk : 1 ≤ k) :
    plan_within.f k S A C H G K s i = some (if rightB S A C H G K = true ∧ 0 ≤ s ∧ s < S ∧ 0 ≤ i ∧ i < roomV A then slotsV C H + s * roomV A + i else -1) := by
  obtain ⟨k, rfl⟩ : ∃ m, k = m + 1 := ⟨k - 1, by omega⟩
  unfold plan_within.f
  rw [p_pRight, Option.bind_some]
  by_cases h : rightB S A C H G K = true
  · have h' := right_iff.1 h
    have r := roomV_bd (A := A) (by omega) (by omega)
    have sl := slotsV_bd (C := C) (H := H) (by omega) (by omega) (by omega) (by omega)
    rw [if_pos h, p_between, Option.bind_some, wrap64_id (S - 1) (by omega) (by omega)]
    by_cases h2 : 0 ≤ s ∧ s ≤ S - 1
    · have m := mul_le2 (a := s) (b := roomV A) (m := 64) (n := 10) (by omega) (by omega) (by omega) (by omega)
      rw [if_pos (decide_eq_true h2), p_pRoom S A C H G K (by omega) (by omega), Option.bind_some, p_between, Option.bind_some, wrap64_id (roomV A - 1) (by omega) (by omega)]
      simp only [plan_within.j0]
      by_cases h3 : 0 ≤ i ∧ i ≤ roomV A - 1
      · rw [if_neg (by simp [h3]), p_pSlots S A C H G K h, Option.bind_some, p_pRoom S A C H G K (by omega) (by omega), Option.bind_some, if_pos ⟨h, by omega, by omega, by omega, by omega⟩, wrap64_id (s * roomV A) (by omega) (by omega), wrap64_id (slotsV C H + s * roomV A) (by omega) (by omega), wrap64_id _ (by omega) (by omega)]
      · rw [if_pos (by rw [decide_eq_false h3]; rfl), if_neg (by omega)]
    · rw [if_neg (by simpa using h2)]
      simp only [plan_within.j0]
      rw [if_pos trivial, if_neg (by omega)]
  · rw [if_neg h, if_neg (fun c => h c.1)]
    simp only [plan_within.j0]
    rw [if_pos trivial]
theorem p_pLink (k : Nat) (S A C H G K s : Int) (hk : 1 ≤ k) : plan_Link.f k S A C H G K s = some (if rightB S A C H G K = true ∧ 0 ≤ s ∧ s < S then slotsV C H + s * roomV A + 1 else -1) := by
  unfold plan_Link.f
  rw [p_pWithin k S A C H G K s 1 hk, Option.bind_some]
  have r : 2 ≤ roomV A := by unfold roomV; split <;> omega
  by_cases h : rightB S A C H G K = true ∧ 0 ≤ s ∧ s < S
  · rw [if_pos h, if_pos ⟨h.1, h.2.1, h.2.2, by decide, by omega⟩]
  · rw [if_neg h, if_neg (fun c => h ⟨c.1, c.2.1, c.2.2.1⟩)]
theorem p_rRight (S A C H G K : Int) : withyref06_Right.f S A C H G K = some (rightB S A C H G K) := by
  unfold withyref06_Right.f rightB
  by_cases h1 : S ≥ 1
  · rw [if_pos h1]
    by_cases h2 : S ≤ 64
    · rw [if_pos h2]
      by_cases h3 : A ≥ 0
      · rw [if_pos h3]
        by_cases h4 : A ≤ 8
        · rw [if_pos h4]
          by_cases h5 : C ≥ 1
          · rw [if_pos h5]
            by_cases h6 : C ≤ 8
            · rw [if_pos h6]
              by_cases h7 : H ≥ 1
              · rw [if_pos h7]
                by_cases h8 : H ≤ 16
                · rw [if_pos h8]
                  by_cases h9 : G ≥ 1
                  · rw [if_pos h9]
                    by_cases h10 : G ≤ 1048576
                    · rw [if_pos h10]
                      by_cases h11 : K ≥ 0
                      · rw [if_pos h11]; congr 1; rw [Bool.eq_iff_iff]; simp only [decide_eq_true_eq]; omega
                      · rw [if_neg h11, decide_eq_false (by omega)]
                    · rw [if_neg h10, decide_eq_false (by omega)]
                  · rw [if_neg h9, decide_eq_false (by omega)]
                · rw [if_neg h8, decide_eq_false (by omega)]
              · rw [if_neg h7, decide_eq_false (by omega)]
            · rw [if_neg h6, decide_eq_false (by omega)]
          · rw [if_neg h5, decide_eq_false (by omega)]
        · rw [if_neg h4, decide_eq_false (by omega)]
      · rw [if_neg h3, decide_eq_false (by omega)]
    · rw [if_neg h2, decide_eq_false (by omega)]
  · rw [if_neg h1, decide_eq_false (by omega)]
theorem p_rRoom (S A C H G K : Int) : withyref06_Room.f S A C H G K = some (if A < 3 then 3 else A) := by
  unfold withyref06_Room.f
  split <;> rfl
def pinW (c : Nat) : S91 := ⟨⟨#[112, 105, 110]⟩, (c : Int), 0⟩
def entW (c i : Nat) : S91 := ⟨⟨#[101, 110, 116, 114, 121]⟩, (c : Int), (i : Int)⟩
def vsW (c : Nat) : List S91 := [⟨⟨#[118, 105, 101, 119]⟩, (c : Int), 0⟩, ⟨⟨#[115, 116, 97, 114, 116]⟩, (c : Int), 0⟩]
def hlW (s : Nat) : List S91 := [⟨⟨#[104, 101, 97, 100, 101, 114]⟩, (s : Int), 0⟩, ⟨⟨#[108, 105, 110, 107]⟩, (s : Int), 0⟩]
def bodyW (s i : Nat) : S91 := ⟨⟨#[98, 111, 100, 121]⟩, (s : Int), (i : Int)⟩
def headsW : List S91 := [⟨⟨#[99, 108, 111, 99, 107]⟩, 0, 0⟩, ⟨⟨#[101, 112, 111, 99, 104]⟩, 0, 0⟩, ⟨⟨#[103, 114, 97, 121, 115]⟩, 0, 0⟩, ⟨⟨#[116, 111, 112]⟩, 0, 0⟩]
def roomN (A : Int) : Nat := (if A < 3 then 3 else A).toNat
def slotW (R s : Nat) : List S91 := hlW s ++ (List.range' 0 R).map (bodyW s)
def wordsL (S C H R : Nat) : List S91 :=
  headsW ++ (List.range' 0 C).map pinW ++ (List.range' 0 C).flatMap (fun c => (List.range' 0 H).map (entW c)) ++ (List.range' 0 C).flatMap vsW ++ (List.range' 0 S).flatMap (slotW R)
theorem words_l0 (S A H G K : Int) (d : Nat) : ∀ (k i : Nat) (x : List S91), x.length + d < 4398046511104 → i + d ≤ 100 →
    withyref06_Words.l0 (k + d + 1) x (i : Int) S A ((i + d : Nat) : Int) H G K = withyref06_Words.l1 k (x ++ (List.range' i d).map pinW) 0 S A ((i + d : Nat) : Int) H G K := by
  induction d with
  | zero =>
    intro k i x hx hi
    simp only [withyref06_Words.l0]
    rw [if_neg (by omega)]; simp
  | succ d ih =>
    intro k i x hx hi
    rw [show k + (d + 1) + 1 = (k + d + 1) + 1 from by omega]
    rw [withyref06_Words.l0]
    rw [if_pos (by omega), if_pos (by omega), wrap64_id _ (by omega) (by omega), show (i : Int) + 1 = ((i + 1 : Nat) : Int) from by omega, show i + (d + 1) = (i + 1) + d from by omega, ih k (i + 1) _ (by simp; omega) (by omega)]
    rw [List.range'_succ, List.map_cons]
    simp [pinW]
theorem words_l2 (S A C G K : Int) (c : Nat) (d : Nat) : ∀ (k i : Nat) (x : List S91), x.length + d < 4398046511104 → i + d ≤ 100 → c ≤ 100 →
    withyref06_Words.l2 (k + d + 1) x (c : Int) (i : Int) S A C ((i + d : Nat) : Int) G K = withyref06_Words.l1 k (x ++ (List.range' i d).map (entW c)) ((c + 1 : Nat) : Int) S A C ((i + d : Nat) : Int) G K := by
  induction d with
  | zero =>
    intro k i x hx hi hc
    simp only [withyref06_Words.l2]
    rw [if_neg (by omega), wrap64_id _ (by omega) (by omega)]; simp
  | succ d ih =>
    intro k i x hx hi hc
    rw [show k + (d + 1) + 1 = (k + d + 1) + 1 from by omega]
    rw [withyref06_Words.l2]
    rw [if_pos (by omega), if_pos (by omega), wrap64_id _ (by omega) (by omega), show (i : Int) + 1 = ((i + 1 : Nat) : Int) from by omega, show i + (d + 1) = (i + 1) + d from by omega, ih k (i + 1) _ (by simp; omega) (by omega) hc]
    rw [List.range'_succ, List.map_cons]
    simp [entW]
theorem words_l1 (S A G K : Int) (H : Nat) (hH : H ≤ 100) (d : Nat) : ∀ (k i : Nat) (x : List S91), x.length + d * H < 4398046511104 → i + d ≤ 100 →
    withyref06_Words.l1 (k + d * (H + 2) + 1) x (i : Int) S A ((i + d : Nat) : Int) (H : Int) G K = withyref06_Words.l3 k (x ++ (List.range' i d).flatMap fun c => (List.range' 0 H).map (entW c)) 0 S A ((i + d : Nat) : Int) (H : Int) G K := by
  induction d with
  | zero =>
    intro k i x hx hi
    simp only [withyref06_Words.l1]
    rw [if_neg (by omega)]; simp
  | succ d ih =>
    intro k i x hx hi
    have e : (d + 1) * H = d * H + H := by rw [Nat.add_mul, Nat.one_mul]
    rw [show k + (d + 1) * (H + 2) + 1 = ((k + d * (H + 2) + 1) + H + 1) + 1 from by rw [Nat.add_mul]; omega]
    rw [withyref06_Words.l1]
    rw [if_pos (by omega)]
    have h2 := words_l2 S A ((i + (d + 1) : Nat) : Int) G K i H (k + d * (H + 2) + 1) 0 x (by omega) (by omega) (by omega)
    rw [Nat.zero_add] at h2
    rw [show (0 : Int) = ((0 : Nat) : Int) from rfl, h2, show i + (d + 1) = (i + 1) + d from by omega, ih k (i + 1) _ (by simp; omega) (by omega)]
    rw [List.range'_succ, List.flatMap_cons]
    simp
theorem words_l3 (S A H G K : Int) (d : Nat) : ∀ (k i : Nat) (x : List S91), x.length + 2 * d < 4398046511104 → i + d ≤ 100 →
    withyref06_Words.l3 (k + d + 1) x (i : Int) S A ((i + d : Nat) : Int) H G K = withyref06_Words.l4 k (x ++ (List.range' i d).flatMap vsW) 0 S A ((i + d : Nat) : Int) H G K := by
  induction d with
  | zero =>
    intro k i x hx hi
    simp only [withyref06_Words.l3]
    rw [if_neg (by omega)]; simp
  | succ d ih =>
    intro k i x hx hi
    rw [show k + (d + 1) + 1 = (k + d + 1) + 1 from by omega]
    rw [withyref06_Words.l3]
    rw [if_pos (by omega), Option.bind_some, if_pos (by simp; omega), wrap64_id _ (by omega) (by omega), show (i : Int) + 1 = ((i + 1 : Nat) : Int) from by omega, show i + (d + 1) = (i + 1) + d from by omega, ih k (i + 1) _ (by simp; omega) (by omega)]
    rw [List.range'_succ, List.flatMap_cons]
    simp [vsW]
theorem words_l5 (S A C H G K : Int) (s : Nat) (d : Nat) : ∀ (k i : Nat) (x : List S91), x.length + d < 4398046511104 → i + d = roomN A → A ≤ 100 → s ≤ 100 →
    withyref06_Words.l5 (k + d + 1) x (s : Int) (i : Int) S A C H G K = withyref06_Words.l4 k (x ++ (List.range' i d).map (bodyW s)) ((s + 1 : Nat) : Int) S A C H G K := by
  have hr : (if A < 3 then 3 else A) = ((roomN A : Nat) : Int) := by unfold roomN; split <;> omega
  have hb : A ≤ 100 → roomN A ≤ 100 := by intro h; unfold roomN; split <;> omega
  induction d with
  | zero =>
    intro k i x hx hi hA hs
    simp only [withyref06_Words.l5]
    rw [p_rRoom, Option.bind_some, hr, if_neg (by omega), wrap64_id _ (by omega) (by omega)]; simp
  | succ d ih =>
    intro k i x hx hi hA hs
    have := hb hA
    rw [show k + (d + 1) + 1 = (k + d + 1) + 1 from by omega]
    rw [withyref06_Words.l5]
    rw [p_rRoom, Option.bind_some, hr, if_pos (by omega), if_pos (by omega), wrap64_id _ (by omega) (by omega), show (i : Int) + 1 = ((i + 1 : Nat) : Int) from by omega, ih k (i + 1) _ (by simp; omega) (by omega) hA hs]
    rw [List.range'_succ, List.map_cons]
    simp [bodyW]
theorem words_l4 (A C H G K : Int) (hA : A ≤ 100) (d : Nat) : ∀ (k i : Nat) (x : List S91), x.length + d * (roomN A + 2) < 4398046511104 → i + d ≤ 100 →
    withyref06_Words.l4 (k + d * (roomN A + 2) + 1) x (i : Int) ((i + d : Nat) : Int) A C H G K = some (x ++ (List.range' i d).flatMap (slotW (roomN A))) := by
  induction d with
  | zero =>
    intro k i x hx hi
    simp only [withyref06_Words.l4]
    rw [if_neg (by omega)]; simp
  | succ d ih =>
    intro k i x hx hi
    have e : (d + 1) * (roomN A + 2) = d * (roomN A + 2) + (roomN A + 2) := by rw [Nat.add_mul, Nat.one_mul]
    rw [show k + (d + 1) * (roomN A + 2) + 1 = ((k + d * (roomN A + 2) + 1) + roomN A + 1) + 1 from by omega]
    rw [withyref06_Words.l4]
    rw [if_pos (by omega), Option.bind_some, if_pos (by simp; omega)]
    rw [show (0 : Int) = ((0 : Nat) : Int) from rfl, words_l5 _ A C H G K i (roomN A) (k + d * (roomN A + 2) + 1) 0 _ (by simp; omega) (by omega) hA (by omega), show i + (d + 1) = (i + 1) + d from by omega, ih k (i + 1) _ (by simp; omega) (by omega)]
    rw [List.range'_succ, List.flatMap_cons]
    simp [slotW, hlW]
theorem sum_const (m : Nat) : ∀ (l : List Nat), (l.map fun _ => m).sum = l.length * m := by
  intro l
  induction l with
  | nil => simp
  | cons a l ih => rw [List.map_cons, List.sum_cons, ih, List.length_cons, Nat.add_mul]; omega
theorem ents_len (C H : Nat) : ((List.range' 0 C).flatMap (fun c => (List.range' 0 H).map (entW c))).length = C * H := by
  rw [List.length_flatMap]
  have := sum_const H (List.range' 0 C)
  simpa using this
theorem vs_len (C : Nat) : ((List.range' 0 C).flatMap vsW).length = C * 2 := by
  rw [List.length_flatMap]
  have := sum_const 2 (List.range' 0 C)
  simpa [vsW] using this
theorem p_rWords (k : Nat) (S C H : Nat) (A G K : Int) (hk : 2000 ≤ k) (hS : S ≤ 64) (hC : C ≤ 8) (hH : H ≤ 16) (hA : A ≤ 8) : withyref06_Words.f k (S : Int) A (C : Int) (H : Int) G K = some (wordsL S C H (roomN A)) := by
  have hR : roomN A ≤ 8 := by unfold roomN; split <;> omega
  have b1 : S * (roomN A + 2) ≤ 64 * 10 := Nat.mul_le_mul hS (by omega)
  have b2 : C * (H + 2) ≤ 8 * 18 := Nat.mul_le_mul hC (by omega)
  have b3 : C * H ≤ 8 * 16 := Nat.mul_le_mul hC hH
  refine at_rounds (k := (((0 + S * (roomN A + 2) + 1) + C + 1) + C * (H + 2) + 1) + C + 1) (withyref06_Words.mono _ _ _ _ _ _) (by omega) ?_
  have h0 := words_l0 S A H G K C (((0 + S * (roomN A + 2) + 1) + C + 1) + C * (H + 2) + 1) 0 headsW (by simp [headsW]; omega) (by omega)
  have h1 := words_l1 S A G K H (by omega) C ((0 + S * (roomN A + 2) + 1) + C + 1) 0 (headsW ++ (List.range' 0 C).map pinW) (by simp [headsW]; omega) (by omega)
  have l2 := ents_len C H
  have h3 := words_l3 S A H G K C (0 + S * (roomN A + 2) + 1) 0 (headsW ++ (List.range' 0 C).map pinW ++ (List.range' 0 C).flatMap (fun c => (List.range' 0 H).map (entW c))) (by rw [List.length_append, l2]; simp [headsW]; omega) (by omega)
  have l3 := vs_len C
  have h4 := words_l4 A C H G K (by omega) S 0 0 (headsW ++ (List.range' 0 C).map pinW ++ (List.range' 0 C).flatMap (fun c => (List.range' 0 H).map (entW c)) ++ (List.range' 0 C).flatMap vsW) (by rw [List.length_append, List.length_append, l2, l3]; simp [headsW]; omega) (by omega)
  simp only [Nat.zero_add] at h0 h1 h3 h4
  unfold withyref06_Words.f
  simp only [Nat.zero_add]
  exact (h0.trans (h1.trans (h3.trans h4)))
theorem wordsL_length (S C H R : Nat) : (wordsL S C H R).length = 4 + C + C * H + C * 2 + S * (R + 2) := by
  unfold wordsL
  simp only [List.length_append, List.length_flatMap, List.length_map, List.length_range']
  have e1 : ((List.range' 0 C).map fun _ => H).sum = C * H := by rw [sum_const]; simp
  have e2 : ((List.range' 0 C).map fun a => (vsW a).length).sum = C * 2 := by
    have := sum_const 2 (List.range' 0 C)
    simpa [vsW] using this
  have e3 : ((List.range' 0 S).map fun a => (slotW R a).length).sum = S * (R + 2) := by
    have := sum_const (R + 2) (List.range' 0 S)
    simp only [List.length_range'] at this
    rw [← this]
    congr 1
    apply List.map_congr_left
    intro a _
    simp [slotW, hlW]
  rw [e1, e2, e3]
  rfl
theorem sizes_eq (S C H : Nat) (A : Int) : ((wordsL S C H (roomN A)).length : Int) = sizeV (S : Int) A (C : Int) (H : Int) := by
  have e : ((roomN A : Nat) : Int) = (if A < 3 then 3 else A) := by unfold roomN; split <;> omega
  rw [wordsL_length]
  unfold sizeV slotsV roomV
  rw [← e]
  simp only [Int.natCast_add, Int.natCast_mul, Int.mul_add]
  omega
def posW (C H R : Int) (x : S91) : Int :=
  if x.f0.data.toList = [99, 108, 111, 99, 107] then 0 else if x.f0.data.toList = [101, 112, 111, 99, 104] then 1 else if x.f0.data.toList = [103, 114, 97, 121, 115] then 2 else if x.f0.data.toList = [116, 111, 112] then 3
  else if x.f0.data.toList = [112, 105, 110] then 4 + x.f1 else if x.f0.data.toList = [101, 110, 116, 114, 121] then 4 + C + x.f1 * H + x.f2
  else if x.f0.data.toList = [118, 105, 101, 119] then 4 + (1 + H) * C + x.f1 * 2 else if x.f0.data.toList = [115, 116, 97, 114, 116] then 4 + (1 + H) * C + x.f1 * 2 + 1
  else if x.f0.data.toList = [104, 101, 97, 100, 101, 114] then 4 + C * (1 + H + 2) + x.f1 * (2 + R) else if x.f0.data.toList = [108, 105, 110, 107] then 4 + C * (1 + H + 2) + x.f1 * (2 + R) + 1
  else 4 + C * (1 + H + 2) + x.f1 * (2 + R) + (2 + x.f2)
def Idx (pos : S91 → Int) (b : Int) (l : List S91) : Prop := ∀ (j : Nat) (p : S91), l[j]? = some p → pos p = b + j
theorem Idx.append {pos : S91 → Int} {b : Int} {l m : List S91} (hl : Idx pos b l) (hm : Idx pos (b + l.length) m) : Idx pos b (l ++ m) := by
  intro j p h
  by_cases hj : j < l.length
  · rw [List.getElem?_append_left hj] at h; exact hl j p h
  · rw [List.getElem?_append_right (by omega)] at h
    have := hm _ p h
    omega
theorem Idx.map {pos : S91 → Int} {f : Nat → S91} {b : Int} (n : Nat) (h : ∀ k : Nat, pos (f k) = b + k) : ∀ i : Nat, Idx pos (b + i) ((List.range' i n).map f) := by
  induction n with
  | zero => intro i j p hp; simp at hp
  | succ n ih =>
    intro i j p hp
    rw [List.range'_succ, List.map_cons] at hp
    match j, hp with
    | 0, hp => simp at hp; subst hp; rw [h]; omega
    | j + 1, hp =>
      rw [List.getElem?_cons_succ] at hp
      have := ih (i + 1) j p hp
      omega
theorem Idx.flat {pos : S91 → Int} {f : Nat → List S91} {b : Int} {m : Nat} (n : Nat) (hm : ∀ k, (f k).length = m) (h : ∀ k : Nat, Idx pos (b + k * m) (f k)) : ∀ i : Nat, Idx pos (b + i * m) ((List.range' i n).flatMap f) := by
  induction n with
  | zero => intro i j p hp; simp at hp
  | succ n ih =>
    intro i
    rw [List.range'_succ, List.flatMap_cons]
    refine (h i).append ?_
    have := ih (i + 1)
    rw [hm i, show b + (i : Int) * (m : Int) + (m : Int) = b + ((i + 1 : Nat) : Int) * (m : Int) from by rw [Int.natCast_add, Int.add_mul]; omega]
    exact this
theorem pos_pin (C H R : Int) (k : Nat) : posW C H R (pinW k) = 4 + k := by simp [posW, pinW]
theorem pos_ent (C H R : Int) (c i : Nat) : posW C H R (entW c i) = 4 + C + c * H + i := by simp [posW, entW]
theorem pos_body (C H R : Int) (s i : Nat) : posW C H R (bodyW s i) = 4 + C * (1 + H + 2) + s * (2 + R) + (2 + i) := by simp [posW, bodyW]
theorem idx_words (S C H R : Nat) : Idx (posW C H R) 0 (wordsL S C H R) := by
  unfold wordsL
  have l1 := ents_len C H
  have l2 := vs_len C
  refine (((Idx.append ?_ ?_).append ?_).append ?_).append ?_
  · intro j p hp
    match j, hp with
    | 0, hp => simp [headsW] at hp; subst hp; simp [posW]
    | 1, hp => simp [headsW] at hp; subst hp; simp [posW]
    | 2, hp => simp [headsW] at hp; subst hp; simp [posW]
    | 3, hp => simp [headsW] at hp; subst hp; simp [posW]
    | j + 4, hp => simp [headsW] at hp
  · have := Idx.map (pos := posW C H R) (f := pinW) (b := 4) C (fun k => pos_pin _ _ _ k) 0
    exact this
  · have := Idx.flat (pos := posW C H R) (f := fun c => (List.range' 0 H).map (entW c)) (b := 4 + C) (m := H) C (fun k => by simp) (fun k => by
      have := Idx.map (pos := posW C H R) (f := entW k) (b := 4 + C + k * H) H (fun i => by rw [pos_ent]) 0
      simpa using this) 0
    simp only [List.length_append, List.length_map, List.length_range'] at this ⊢
    rw [show (0 : Int) + ((headsW.length + C : Nat) : Int) = 4 + C + ((0 : Nat) : Int) * H from by simp [headsW]]
    exact this
  · have := Idx.flat (pos := posW C H R) (f := vsW) (b := 4 + (1 + H) * C) (m := 2) C (fun k => rfl) (fun k => by
      intro j p hp
      match j, hp with
      | 0, hp => simp [vsW] at hp; subst hp; simp [posW]
      | 1, hp => simp [vsW] at hp; subst hp; simp [posW]
      | j + 2, hp => simp [vsW] at hp) 0
    simp only [List.length_append, l1, List.length_map, List.length_range'] at this ⊢
    rw [show (0 : Int) + ((headsW.length + C + C * H : Nat) : Int) = 4 + (1 + (H : Int)) * C + ((0 : Nat) : Int) * ((2 : Nat) : Int) from by
      simp [headsW]
      have e : (1 + (H : Int)) * C = C + C * H := by rw [Int.add_mul, Int.one_mul, Int.mul_comm (H : Int)]
      omega]
    exact this
  · have := Idx.flat (pos := posW C H R) (f := slotW R) (b := 4 + C * (1 + H + 2)) (m := 2 + R) S (fun k => by simp [slotW, hlW]; omega) (fun k => by
      unfold slotW
      refine Idx.append ?_ ?_
      · intro j p hp
        match j, hp with
        | 0, hp => simp [hlW] at hp; subst hp; simp [posW]
        | 1, hp => simp [hlW] at hp; subst hp; simp [posW]
        | j + 2, hp => simp [hlW] at hp
      · have := Idx.map (pos := posW C H R) (f := bodyW k) (b := 4 + C * (1 + H + 2) + k * (2 + R) + 2) R (fun i => by rw [pos_body]; omega) 0
        simpa [hlW] using this) 0
    simp only [List.length_append, l1, l2, List.length_map, List.length_range'] at this ⊢
    rw [show (0 : Int) + ((headsW.length + C + C * H + C * 2 : Nat) : Int) = 4 + (C : Int) * (1 + H + 2) + ((0 : Nat) : Int) * ((2 + R : Nat) : Int) from by simp [headsW, Int.mul_add]; omega]
    exact this
theorem same_word {x : S91} {t0 : ByteArray} {t1 t2 : Int} : (x.f0.toList == t0.toList && (x.f1 == t1 && x.f2 == t2)) = true ↔ x = ⟨t0, t1, t2⟩ := by
  constructor
  · intro h
    simp only [Bool.and_eq_true, beq_iff_eq] at h
    obtain ⟨h1, h2, h3⟩ := h
    have : x.f0 = t0 := by
      rw [toList_data, toList_data] at h1
      cases hx : x.f0
      cases ht : t0
      rw [hx, ht] at h1
      simpa using h1
    cases x
    simp_all
  · rintro rfl; simp
theorem at_l (pos : S91 → Int) (l : List S91) (hx : Idx pos 0 l) (hl : l.length < 100000) (t0 : ByteArray) (t1 t2 : Int) (d : Nat) : ∀ (k i : Nat), i + d = l.length → d < k →
    ((⟨t0, t1, t2⟩ : S91) ∈ l.drop i → withyref06_At.l0 k l (i : Int) t0 t1 t2 = some (pos ⟨t0, t1, t2⟩)) ∧ ((⟨t0, t1, t2⟩ : S91) ∉ l.drop i → withyref06_At.l0 k l (i : Int) t0 t1 t2 = some (-1)) := by
  induction d with
  | zero =>
    intro k i hi hk
    obtain ⟨k, rfl⟩ : ∃ m, k = m + 1 := ⟨k - 1, by omega⟩
    rw [withyref06_At.l0, if_neg (by omega), List.drop_eq_nil_of_le (by omega)]
    exact ⟨fun h => absurd h (by simp), fun _ => rfl⟩
  | succ d ih =>
    intro k i hi hk
    obtain ⟨k, rfl⟩ : ∃ m, k = m + 1 := ⟨k - 1, by omega⟩
    have hlt : i < l.length := by omega
    have hr : rd_T91 l (i : Int) = l[i] := by simp [rd_T91, List.getD, List.getElem?_eq_getElem hlt]
    rw [withyref06_At.l0, if_pos (by omega), if_pos (by omega), hr, List.drop_eq_getElem_cons hlt]
    by_cases c : l[i] = (⟨t0, t1, t2⟩ : S91)
    · have := hx i _ (List.getElem?_eq_getElem hlt)
      rw [if_pos (same_word.2 c), ← c, this]
      exact ⟨fun _ => by simp, fun h => absurd List.mem_cons_self h⟩
    · rw [if_neg (fun h => c (same_word.1 h)), wrap64_id _ (by omega) (by omega), show (i : Int) + 1 = ((i + 1 : Nat) : Int) from by omega]
      obtain ⟨h1, h2⟩ := ih k (i + 1) (by omega) (by omega)
      refine ⟨fun h => h1 ?_, fun h => h2 (fun m => h (List.mem_cons_of_mem _ m))⟩
      rcases List.mem_cons.1 h with h | h
      · exact absurd h.symm c
      · exact h
theorem words_len_lt {S C H R : Nat} (hS : S ≤ 64) (hC : C ≤ 8) (hH : H ≤ 16) (hR : R ≤ 8) : (wordsL S C H R).length < 1200 := by
  rw [wordsL_length]
  have b1 : S * (R + 2) ≤ 64 * 10 := Nat.mul_le_mul hS (by omega)
  have b3 : C * H ≤ 8 * 16 := Nat.mul_le_mul hC hH
  omega
theorem roomN_le {A : Int} (h : A ≤ 8) : roomN A ≤ 8 := by unfold roomN; split <;> omega
theorem p_rAt (k : Nat) (S C H : Nat) (A G K : Int) (t0 : ByteArray) (t1 t2 : Int) (hk : 2000 ≤ k) (h : rightB S A C H G K = true) (p : Prop) [Decidable p] (hp : (⟨t0, t1, t2⟩ : S91) ∈ wordsL S C H (roomN A) ↔ p) :
    withyref06_At.f k S A C H G K t0 t1 t2 = some (if p then posW C H (roomN A) ⟨t0, t1, t2⟩ else -1) := by
  unfold withyref06_At.f
  have h' := right_iff.1 h
  have hl := words_len_lt (S := S) (C := C) (H := H) (R := roomN A) (by omega) (by omega) (by omega) (roomN_le (by omega))
  rw [p_rRight, Option.bind_some, if_pos h, p_rWords k S C H A G K hk (by omega) (by omega) (by omega) (by omega), Option.bind_some]
  obtain ⟨h1, h2⟩ := at_l (posW C H (roomN A)) (wordsL S C H (roomN A)) (idx_words S C H (roomN A)) (by omega) t0 t1 t2 (wordsL S C H (roomN A)).length k 0 (by omega) (by omega)
  rw [List.drop_zero, hp] at h1 h2
  by_cases c : p
  · rw [if_pos c]; exact h1 c
  · rw [if_neg c]; exact h2 c
theorem p_rAt_no (k : Nat) (S C H : Int) (A G K : Int) (t0 : ByteArray) (t1 t2 : Int) (h : ¬ rightB S A C H G K = true) : withyref06_At.f k S A C H G K t0 t1 t2 = some (-1) := by
  unfold withyref06_At.f
  rw [p_rRight, Option.bind_some, if_neg h]
theorem mem_words {S C H R : Nat} {x : S91} : x ∈ wordsL S C H R ↔ x ∈ headsW ∨ (∃ c, c < C ∧ x = pinW c) ∨ (∃ c i, c < C ∧ i < H ∧ x = entW c i) ∨ (∃ c, c < C ∧ x ∈ vsW c) ∨ ∃ s, s < S ∧ (x ∈ hlW s ∨ ∃ i, i < R ∧ x = bodyW s i) := by
  unfold wordsL slotW
  simp only [List.mem_append, List.mem_map, List.mem_flatMap, List.mem_range'_1, Nat.zero_le, Nat.zero_add, true_and]
  constructor
  · rintro ((((h | ⟨c, hc, rfl⟩) | ⟨c, hc, i, hi, rfl⟩) | ⟨c, hc, h⟩) | ⟨s, hs, h | ⟨i, hi, rfl⟩⟩)
    · exact .inl h
    · exact .inr (.inl ⟨c, hc, rfl⟩)
    · exact .inr (.inr (.inl ⟨c, i, hc, hi, rfl⟩))
    · exact .inr (.inr (.inr (.inl ⟨c, hc, h⟩)))
    · exact .inr (.inr (.inr (.inr ⟨s, hs, .inl h⟩)))
    · exact .inr (.inr (.inr (.inr ⟨s, hs, .inr ⟨i, hi, rfl⟩⟩)))
  · rintro (h | ⟨c, hc, rfl⟩ | ⟨c, i, hc, hi, rfl⟩ | ⟨c, hc, h⟩ | ⟨s, hs, h | ⟨i, hi, rfl⟩⟩)
    · exact .inl (.inl (.inl (.inl h)))
    · exact .inl (.inl (.inl (.inr ⟨c, hc, rfl⟩)))
    · exact .inl (.inl (.inr ⟨c, hc, i, hi, rfl⟩))
    · exact .inl (.inr ⟨c, hc, h⟩)
    · exact .inr ⟨s, hs, .inl h⟩
    · exact .inr ⟨s, hs, .inr ⟨i, hi, rfl⟩⟩
theorem mem_header {S C H R : Nat} {a : Int} : (⟨⟨#[104, 101, 97, 100, 101, 114]⟩, a, 0⟩ : S91) ∈ wordsL S C H R ↔ 0 ≤ a ∧ a < S := by
  rw [mem_words]
  simp only [headsW, pinW, entW, vsW, hlW, bodyW, List.mem_cons, List.not_mem_nil, S91.mk.injEq, ByteArray.mk.injEq]
  simp
  constructor
  · rintro ⟨c, hc, rfl⟩; omega
  · intro h; exact ⟨a.toNat, by omega, by omega⟩
theorem mem_link {S C H R : Nat} {a : Int} : (⟨⟨#[108, 105, 110, 107]⟩, a, 0⟩ : S91) ∈ wordsL S C H R ↔ 0 ≤ a ∧ a < S := by
  rw [mem_words]
  simp only [headsW, pinW, entW, vsW, hlW, bodyW, List.mem_cons, List.not_mem_nil, S91.mk.injEq, ByteArray.mk.injEq]
  simp
  constructor
  · rintro ⟨c, hc, rfl⟩; omega
  · intro h; exact ⟨a.toNat, by omega, by omega⟩
theorem mem_body {S C H R : Nat} {a b : Int} : (⟨⟨#[98, 111, 100, 121]⟩, a, b⟩ : S91) ∈ wordsL S C H R ↔ 0 ≤ a ∧ a < S ∧ 0 ≤ b ∧ b < R := by
  rw [mem_words]
  simp only [headsW, pinW, entW, vsW, hlW, bodyW, List.mem_cons, List.not_mem_nil, S91.mk.injEq, ByteArray.mk.injEq]
  simp
  constructor
  · rintro ⟨c, hc, i, hi, rfl, rfl⟩; omega
  · intro h; exact ⟨a.toNat, by omega, b.toNat, by omega, by omega, by omega⟩
end Go.Proofs.Ytijfkpoofpcacaa.PuArenaPlays
end
section
namespace Go.Proofs.Ytijfkpoofpcacaa.Blk
open Go.RowKit
def Blk (w : World) (b : Nat) (t : TypeId) (cs : Array Value) : Prop := w.heap[b]? = some (.cells cs t (0, 0))
theorem Blk.lt {w : World} {b t cs} (h : Blk w b t cs) : b < w.heap.size := by
  unfold Blk at h
  rcases Nat.lt_or_ge b w.heap.size with hl | hl
  · exact hl
  · rw [Array.getElem?_eq_none hl] at h; cases h
theorem Blk.cell {w : World} {b t cs} (h : Blk w b t cs) {i : Nat} {v : Value} (hv : cs[i]? = some v) : w.cell? ⟨b, i, none⟩ = some v := by
  unfold Blk at h
  simp [World.cell?, h, hv]
theorem Blk.frozen {w : World} {b t cs} (h : Blk w b t cs) (i : Nat) : w.frozen? ⟨b, i, none⟩ = false := by
  unfold Blk at h
  simp [World.frozen?, h]
theorem Blk.set {w : World} {b t cs} (h : Blk w b t cs) (i : Nat) (v : Value) : Blk (w.setCell ⟨b, i, none⟩ v) b t (cs.setIfInBounds i v) := by
  have hl := h.lt
  unfold Blk at h ⊢
  rw [Array.getElem?_eq_getElem hl] at h
  have h' := Option.some.inj h
  have hl' : b < (w.setCell ⟨b, i, none⟩ v).heap.size := by simpa [World.setCell] using hl
  rw [Array.getElem?_eq_getElem hl']
  congr 1
  simp only [World.setCell]
  rw [Array.getElem_modify_self, h']
  rfl
theorem Blk.other {w : World} {b t cs} (h : Blk w b t cs) (p : Addr) (hp : b ≠ p.block) (v : Value) : Blk (w.setCell p v) b t cs := by
  unfold Blk at h ⊢
  rw [Below.heap_setCell w p v b hp, h]
theorem Blk.below {w w' : World} {b t cs} {n : Nat} (h : Blk w b t cs) (hb : Below n w w') (hn : b < n) : Blk w' b t cs := by
  unfold Blk at h ⊢
  rw [hb.block b hn, h]
theorem Blk.drewN {w : World} {b t cs} (h : Blk w b t cs) (n : Nat) : Blk (w.drewN n) b t cs := h
theorem Blk.drew {w : World} {b t cs} (h : Blk w b t cs) : Blk w.drew b t cs := h
theorem Blk.alloc {w : World} {b t cs} (h : Blk w b t cs) (o : Obj) : Blk (w.alloc o) b t cs := by
  have hl := h.lt
  unfold Blk at h ⊢
  rw [Below.heap_alloc w o b hl, h]
theorem Blk.new (w : World) (t : TypeId) (cs : Array Value) : Blk (w.alloc (.cells cs t)) w.heap.size t cs := by
  unfold Blk
  rw [heap_alloc_new]
def rowF (k : IntKind) (n : Nat) (f : Nat → Int) : Array Value := (Array.range n).map (fun i => Value.int k (f i))
def upd (f : Nat → Int) (i : Nat) (x : Int) : Nat → Int := fun j => if j = i then x else f j
theorem rowF_get {k : IntKind} {n : Nat} {f : Nat → Int} {i : Nat} (h : i < n) : (rowF k n f)[i]? = some (.int k (f i)) := by
  simp [rowF, h]
theorem rowF_size (k : IntKind) (n : Nat) (f : Nat → Int) : (rowF k n f).size = n := by simp [rowF]
theorem rowF_none {k : IntKind} {n : Nat} {f : Nat → Int} {i : Nat} (h : ¬ i < n) : (rowF k n f)[i]? = none := by
  rw [Array.getElem?_eq_none]; rw [rowF_size]; omega
theorem rowF_set {k : IntKind} {n : Nat} {f : Nat → Int} {i : Nat} {x : Int} : (rowF k n f).setIfInBounds i (.int k x) = rowF k n (upd f i x) := by
  refine Array.ext_getElem? fun j => ?_
  rw [Array.getElem?_setIfInBounds, rowF_size]
  by_cases hj : j < n
  · rw [rowF_get (f := upd f i x) hj]
    by_cases c : i = j
    · subst c; rw [if_pos rfl, if_pos hj]; simp [upd]
    · rw [if_neg c, rowF_get hj]; unfold upd; rw [if_neg (fun h => c h.symm)]
  · rw [rowF_none (f := upd f i x) hj]
    by_cases c : i = j
    · subst c; rw [if_pos rfl, if_neg hj]
    · rw [if_neg c, rowF_none hj]
theorem rowF_congr {k : IntKind} {n : Nat} {f g : Nat → Int} (h : ∀ i, i < n → f i = g i) : rowF k n f = rowF k n g := by
  refine Array.ext (by simp [rowF]) fun j h1 h2 => ?_
  have hj : j < n := by simpa [rowF] using h1
  simp [rowF, h j hj]
structure Fr (S : Nat → Prop) (w w' : World) : Prop where
  os : w'.os = w.os
  tape : w'.tape = w.tape
  output : w'.output = w.output
  size : w.heap.size ≤ w'.heap.size
  keep : ∀ k, k < w.heap.size → ¬ S k → w'.heap[k]? = w.heap[k]?
theorem Fr.refl (S : Nat → Prop) (w : World) : Fr S w w := ⟨rfl, rfl, rfl, Nat.le_refl _, fun _ _ _ => rfl⟩
theorem Fr.trans {S : Nat → Prop} {a b c : World} (h : Fr S a b) (k : Fr S b c) : Fr S a c :=
  ⟨k.os.trans h.os, k.tape.trans h.tape, k.output.trans h.output, Nat.le_trans h.size k.size, fun i hi hs => (k.keep i (Nat.lt_of_lt_of_le hi h.size) hs).trans (h.keep i hi hs)⟩
theorem Fr.mono {S S' : Nat → Prop} {w w' : World} (h : Fr S w w') (hS : ∀ k, S k → S' k) : Fr S' w w' := ⟨h.os, h.tape, h.output, h.size, fun i hi hs => h.keep i hi (fun c => hs (hS i c))⟩
theorem Fr.set (S : Nat → Prop) (w : World) {p : Addr} (hp : S p.block) (v : Value) : Fr S w (w.setCell p v) := by
  refine ⟨rfl, rfl, rfl, ?_, fun k hk hs => ?_⟩
  · simp [World.setCell]
  · exact Below.heap_setCell w p v k (fun c => hs (by rw [c]; exact hp))
theorem Fr.alloc (S : Nat → Prop) (w : World) (o : Obj) : Fr S w (w.alloc o) := by
  refine ⟨rfl, rfl, rfl, ?_, fun k hk _ => Below.heap_alloc w o k hk⟩
  simp
theorem Fr.drewN (S : Nat → Prop) (w : World) (n : Nat) : Fr S w (w.drewN n) := ⟨rfl, rfl, rfl, Nat.le_refl _, fun _ _ _ => rfl⟩
theorem Fr.drew (S : Nat → Prop) (w : World) : Fr S w w.drew := ⟨rfl, rfl, rfl, Nat.le_refl _, fun _ _ _ => rfl⟩
theorem Fr.of_below {S : Nat → Prop} {w w' : World} {n : Nat} (h : Below n w w') (hn : ∀ k, k < w.heap.size → ¬ S k → k < n) : Fr S w w' := ⟨h.os, h.tape, h.output, h.size, fun k hk hs => h.block k (hn k hk hs)⟩
theorem Fr.below {S : Nat → Prop} {w w' : World} {n : Nat} (h : Fr S w w') (hn : ∀ k, k < n → k < w.heap.size ∧ ¬ S k) : Below n w w' := ⟨h.os, h.tape, h.output, h.size, fun k hk => h.keep k (hn k hk).1 (hn k hk).2⟩
theorem Blk.fr {S : Nat → Prop} {w w' : World} {b t cs} (h : Blk w b t cs) (hf : Fr S w w') (hb : ¬ S b) : Blk w' b t cs := by
  have hl := h.lt
  unfold Blk at h ⊢
  rw [hf.keep b hl hb, h]
end Go.Proofs.Ytijfkpoofpcacaa.Blk
end
section
namespace Go.Proofs.Ytijfkpoofpcacaa.MemC
open Go.RowKit Go.Proofs.Ytijfkpoofpcacaa.Blk Go.Proofs.Ytijfkpoofpcacaa.Core
structure Ms where
  n : Nat
  f : Nat → Int
  t : Int
  k : Int
  a : Int
  was : Int
  now : Int
def U (f : Nat → Int) : Prop := ∀ i, 0 ≤ f i ∧ f i < 18446744073709551616
structure Ok (s : Ms) : Prop where
  f : U s.f
  t0 : 0 ≤ s.t
  t1 : s.t < 1152921504606846976
  n : s.n ≤ 65536
structure MemB (w : World) (m b : Nat) (s : Ms) : Prop where
  ne : 0 < s.n → m ≠ b
  lb : b < w.heap.size
  blk : ∃ A c, Blk w m 124 #[.slice A s.n c, .int .i64 s.t, .int .i64 s.k, .int .i64 s.a, .int .u64 s.was, .int .u64 s.now] ∧ s.n ≤ c ∧ (0 < s.n → A = some ⟨b, 0, none⟩ ∧ ∃ cs, Blk w b 33 cs ∧ ∀ i, i < s.n → cs[i]? = some (.int .u64 (s.f i)))
def two (m b : Nat) : Nat → Prop := fun k => k = m ∨ k = b
theorem MemB.fr {S : Nat → Prop} {w w' : World} {m b : Nat} {s : Ms} (h : MemB w m b s) (hf : Fr S w w') (hm : ¬ S m) (hb : ¬ S b) : MemB w' m b s := by
  obtain ⟨A, c, h1, h2, h3⟩ := h.blk
  refine ⟨h.ne, Nat.lt_of_lt_of_le h.lb hf.size, A, c, h1.fr hf hm, h2, fun hn => ?_⟩
  obtain ⟨e, cs, h4, h5⟩ := h3 hn
  exact ⟨e, cs, h4.fr hf hb, h5⟩
theorem MemB.lm {w : World} {m b : Nat} {s : Ms} (h : MemB w m b s) : m < w.heap.size := by
  obtain ⟨A, c, h1, h2, h3⟩ := h.blk
  exact h1.lt
theorem MemB.alloc {w : World} {m b : Nat} {s : Ms} (h : MemB w m b s) (o : Obj) : MemB (w.alloc o) m b s := h.fr (S := fun _ => False) (Fr.alloc _ w o) id id
theorem MemB.below {w w' : World} {m b : Nat} {s : Ms} {n : Nat} (h : MemB w m b s) (hb : Below n w w') (h1 : m < n) (h2 : b < n) : MemB w' m b s := h.fr (S := fun k => ¬ k < n) (Fr.of_below hb (fun k _ hs => Classical.byContradiction hs)) (fun c => c h1) (fun c => c h2)
theorem MemB.drewN {w : World} {m b : Nat} {s : Ms} (h : MemB w m b s) (n : Nat) : MemB (w.drewN n) m b s := h.fr (S := fun _ => False) (Fr.drewN _ w n) id id
theorem MemB.drew {w : World} {m b : Nat} {s : Ms} (h : MemB w m b s) : MemB w.drew m b s := h.fr (S := fun _ => False) (Fr.drew _ w) id id
def Ms.touch (s : Ms) (kind at_ now : Int) : Ms := ⟨s.n, upd s.f at_.toNat now, s.t + 1, kind, at_, s.f at_.toNat, now⟩
theorem size_c (w : World) (m b : Nat) (s : Ms) (h : MemB w m b s) : Calls Try.prog 97 #[.pointer (some ⟨m, 0, none⟩)] w fun e w' => e = .returned (.int .i64 s.n) ∧ w = w' := by
  obtain ⟨A, c, h1, h2, h3⟩ := h.blk
  have x0 := h1.cell (i := 0) rfl
  go_enter Try.func97, Try.ntmps97
  go_wp2
  go_ret
  exact ⟨rfl, rfl⟩
theorem there_c (w : World) (m b : Nat) (s : Ms) (a : Int) (h : MemB w m b s) : Calls Try.prog 79 #[.pointer (some ⟨m, 0, none⟩), .int .i64 a] w fun e w' => e = .returned (.bool (decide (0 ≤ a) && decide (a < s.n))) ∧ w = w' := by
  by_cases c : 0 ≤ a
  · rw [decide_eq_true c, Bool.true_and]
    go_enter Try.func79, Try.ntmps79
    go_wp2_with (go_at_call 97; refine (size_c _ m b s h).mono ?_; rintro e w' ⟨rfl, rfl⟩)
    go_ret
    exact ⟨rfl, rfl⟩
  · rw [decide_eq_false c, Bool.false_and]
    go_enter Try.func79, Try.ntmps79
    go_wp2
    go_ret
    exact ⟨rfl, rfl⟩
theorem touch_world (w : World) (m b : Nat) (s : Ms) (kind a now : Int) (c : Nat) (cs : Array Value)
    (h2 : Blk w m 124 #[.slice (some ⟨b, 0, none⟩) s.n c, .int .i64 s.t, .int .i64 s.k, .int .i64 s.a, .int .u64 s.was, .int .u64 s.now]) (h3 : s.n ≤ c)
    (h5 : Blk w b 33 cs) (h6 : ∀ i, i < s.n → cs[i]? = some (.int .u64 (s.f i))) (ne : m ≠ b) (h0 : 0 ≤ a) (h1 : a < s.n) :
    MemB ((((((w.setCell ⟨m, 1, none⟩ (.int .i64 (s.t + 1))).setCell ⟨m, 2, none⟩ (.int .i64 kind)).setCell ⟨m, 3, none⟩ (.int .i64 a)).setCell ⟨m, 4, none⟩ (.int .u64 (s.f a.toNat))).setCell ⟨m, 5, none⟩ (.int .u64 now)).setCell ⟨b, a.toNat, none⟩ (.int .u64 now)) m b (s.touch kind a now) ∧
    Fr (two m b) w ((((((w.setCell ⟨m, 1, none⟩ (.int .i64 (s.t + 1))).setCell ⟨m, 2, none⟩ (.int .i64 kind)).setCell ⟨m, 3, none⟩ (.int .i64 a)).setCell ⟨m, 4, none⟩ (.int .u64 (s.f a.toNat))).setCell ⟨m, 5, none⟩ (.int .u64 now)).setCell ⟨b, a.toNat, none⟩ (.int .u64 now)) := by
  have hm : two m b m := Or.inl rfl
  have hb : two m b b := Or.inr rfl
  refine ⟨⟨fun _ => ne, by simpa [World.setCell] using h5.lt, some ⟨b, 0, none⟩, c, ?_, h3, fun _ => ⟨rfl, cs.setIfInBounds a.toNat (.int .u64 now), ?_, fun i hi => ?_⟩⟩, ?_⟩
  · exact (((((h2.set 1 _).set 2 _).set 3 _).set 4 _).set 5 _).other ⟨b, a.toNat, none⟩ ne _
  · exact (((((h5.other ⟨m, 1, none⟩ ne.symm _).other ⟨m, 2, none⟩ ne.symm _).other ⟨m, 3, none⟩ ne.symm _).other ⟨m, 4, none⟩ ne.symm _).other ⟨m, 5, none⟩ ne.symm _).set _ _
  · rw [Array.getElem?_setIfInBounds]
    have hl : a.toNat < cs.size := by
      have := h6 a.toNat (by omega)
      rcases Nat.lt_or_ge a.toNat cs.size with h | h
      · exact h
      · rw [Array.getElem?_eq_none h] at this; cases this
    show _ = some (Value.int .u64 (upd s.f a.toNat now i))
    unfold upd
    by_cases c : a.toNat = i
    · rw [if_pos c, if_pos hl, if_pos c.symm]
    · rw [if_neg c, if_neg (fun h => c h.symm)]; exact h6 i hi
  · exact (((((Fr.set _ w (p := ⟨m, 1, none⟩) hm _).trans (Fr.set _ _ (p := ⟨m, 2, none⟩) hm _)).trans (Fr.set _ _ (p := ⟨m, 3, none⟩) hm _)).trans (Fr.set _ _ (p := ⟨m, 4, none⟩) hm _)).trans (Fr.set _ _ (p := ⟨m, 5, none⟩) hm _)).trans (Fr.set _ _ (p := ⟨b, a.toNat, none⟩) hb _)
theorem touch_c (w : World) (m b : Nat) (s : Ms) (kind a now : Int) (h : MemB w m b s) (ok : Ok s) (h0 : 0 ≤ a) (h1 : a < s.n) :
    Calls Try.prog 80 #[.pointer (some ⟨m, 0, none⟩), .int .i64 kind, .int .i64 a, .int .u64 now] w fun e w' => e = .returned (.tuple #[]) ∧ MemB w' m b (s.touch kind a now) ∧ Fr (two m b) w w' := by
  obtain ⟨A, c, h2, h3, h4⟩ := h.blk
  obtain ⟨rfl, cs, h5, h6⟩ := h4 (by omega)
  have x0 := h2.cell (i := 0) rfl
  have x1 := h2.cell (i := 1) rfl
  have x2 := h2.cell (i := 2) rfl
  have x3 := h2.cell (i := 3) rfl
  have x4 := h2.cell (i := 4) rfl
  have x5 := h2.cell (i := 5) rfl
  have y := h5.cell (h6 a.toNat (by omega))
  have z0 := h2.frozen 0
  have z1 := h2.frozen 1
  have z2 := h2.frozen 2
  have z3 := h2.frozen 3
  have z4 := h2.frozen 4
  have z5 := h2.frozen 5
  have z6 := h5.frozen a.toNat
  have t0 := ok.t0
  have t1 := ok.t1
  have ne := h.ne (by omega)
  go_enter Try.func80, Try.ntmps80
  go_wp2
  go_end0
  exact ⟨rfl, touch_world w m b s kind a now c cs h2 h3 h5 h6 ne h0 h1⟩
theorem upd_at (f : Nat → Int) (i : Nat) (x : Int) : upd f i x i = x := if_pos rfl
theorem MemB.words {w : World} {m b : Nat} {s : Ms} (h : MemB w m b s) {a : Int} (h0 : 0 ≤ a) (h1 : a < s.n) : ∃ c, w.cell? ⟨m, 0, none⟩ = some (.slice (some ⟨b, 0, none⟩) s.n c) ∧ s.n ≤ c ∧ w.cell? ⟨b, a.toNat, none⟩ = some (.int .u64 (s.f a.toNat)) := by
  obtain ⟨A, c, h2, h3, h4⟩ := h.blk
  obtain ⟨rfl, cs, h5, h6⟩ := h4 (by omega)
  exact ⟨c, h2.cell (i := 0) rfl, h3, h5.cell (h6 a.toNat (by omega))⟩
def Ms.inn (s : Ms) (a : Int) : Bool := decide (0 ≤ a) && decide (a < s.n)
theorem inn_iff {s : Ms} {a : Int} : s.inn a = true ↔ 0 ≤ a ∧ a < s.n := by simp [Ms.inn]
def Ms.ldV (s : Ms) (a : Int) : Int := if s.inn a = true then s.f a.toNat else 0
def Ms.ldS (s : Ms) (a : Int) : Ms := if s.inn a = true then s.touch 1 a (s.f a.toNat) else s
def Ms.stS (s : Ms) (a v : Int) : Ms := if s.inn a = true then s.touch 2 a v else s
def Ms.swV (s : Ms) (a old : Int) : Bool := s.inn a && decide (s.f a.toNat = old)
def Ms.swS (s : Ms) (a old now : Int) : Ms := if s.inn a = true then s.touch 3 a (if s.f a.toNat = old then now else s.f a.toNat) else s
def Ms.adS (s : Ms) (a by_ : Int) : Ms := if s.inn a = true then s.touch 4 a ((s.f a.toNat + by_) % 18446744073709551616) else s
section
variable (w : World) (m b : Nat) (s : Ms) (a : Int) (h : MemB w m b s) (ok : Ok s)
include h ok
theorem load_c : Calls Try.prog 35 #[.pointer (some ⟨m, 0, none⟩), .int .i64 a] w fun e w' => e = .returned (.int .u64 (s.ldV a)) ∧ MemB w' m b (s.ldS a) ∧ Fr (two m b) w w' := by
  unfold Ms.ldV Ms.ldS
  cases c : s.inn a with
  | false =>
    rw [if_neg (by decide), if_neg (by decide)]
    replace c := Lib.hid c
    go_enter Try.func35, Try.ntmps35
    go_wp2_with (go_at_call 79; refine (there_c _ m b s a h).mono ?_; rintro e w' ⟨rfl, rfl⟩; rw [show (decide (0 ≤ a) && decide (a < s.n)) = false from c.out])
    go_ret
    exact ⟨rfl, h, Fr.refl _ _⟩
  | true =>
    rw [if_pos rfl, if_pos rfl]
    have c' := inn_iff.1 c
    obtain ⟨h0, h1⟩ := c'
    obtain ⟨cp, x0, x1, y⟩ := h.words h0 h1
    replace c := Lib.hid c
    go_enter Try.func35, Try.ntmps35
    go_wp2_with (first | (go_at_call 79; refine (there_c _ m b s a h).mono ?_; rintro e w' ⟨rfl, rfl⟩; rw [show (decide (0 ≤ a) && decide (a < s.n)) = true from c.out]) | (go_at_call 80; refine (touch_c _ m b s _ _ _ h ok h0 h1).mono ?_; rintro e w' ⟨rfl, hM, hF⟩; obtain ⟨cp', z0, z1, z2⟩ := hM.words (a := a) h0 h1; replace hM := Lib.hid hM; replace hF := Lib.hid hF; replace z2 := z2.trans (by rw [show (s.touch 1 a (s.f a.toNat)).f a.toNat = s.f a.toNat from upd_at _ _ _]); replace z0 : w'.cell? ⟨m, 0, none⟩ = some (.slice (some ⟨b, 0, none⟩) s.n cp') := z0))
    go_ret
    exact ⟨rfl, hM.out, hF.out⟩
theorem store_c (v : Int) : Calls Try.prog 57 #[.pointer (some ⟨m, 0, none⟩), .int .i64 a, .int .u64 v] w fun e w' => e = .returned (.bool (s.inn a)) ∧ MemB w' m b (s.stS a v) ∧ Fr (two m b) w w' := by
  unfold Ms.stS
  cases c : s.inn a with
  | false =>
    rw [if_neg (by decide)]
    replace c := Lib.hid c
    go_enter Try.func57, Try.ntmps57
    go_wp2_with (go_at_call 79; refine (there_c _ m b s a h).mono ?_; rintro e w' ⟨rfl, rfl⟩; rw [show (decide (0 ≤ a) && decide (a < s.n)) = false from c.out])
    go_ret
    exact ⟨rfl, h, Fr.refl _ _⟩
  | true =>
    rw [if_pos rfl]
    have c' := inn_iff.1 c
    obtain ⟨h0, h1⟩ := c'
    replace c := Lib.hid c
    go_enter Try.func57, Try.ntmps57
    go_wp2_with (first | (go_at_call 79; refine (there_c _ m b s a h).mono ?_; rintro e w' ⟨rfl, rfl⟩; rw [show (decide (0 ≤ a) && decide (a < s.n)) = true from c.out]) | (go_at_call 80; refine (touch_c _ m b s _ _ _ h ok h0 h1).mono ?_; rintro e w' ⟨rfl, hM, hF⟩; replace hM := Lib.hid hM; replace hF := Lib.hid hF))
    go_ret
    exact ⟨rfl, hM.out, hF.out⟩
theorem swap_c (old now : Int) : Calls Try.prog 82 #[.pointer (some ⟨m, 0, none⟩), .int .i64 a, .int .u64 old, .int .u64 now] w fun e w' => e = .returned (.bool (s.swV a old)) ∧ MemB w' m b (s.swS a old now) ∧ Fr (two m b) w w' := by
  unfold Ms.swS Ms.swV
  cases c : s.inn a with
  | false =>
    rw [if_neg (by decide), Bool.false_and]
    replace c := Lib.hid c
    go_enter Try.func82, Try.ntmps82
    go_wp2_with (go_at_call 79; refine (there_c _ m b s a h).mono ?_; rintro e w' ⟨rfl, rfl⟩; rw [show (decide (0 ≤ a) && decide (a < s.n)) = false from c.out])
    go_ret
    exact ⟨rfl, h, Fr.refl _ _⟩
  | true =>
    rw [if_pos rfl, Bool.true_and]
    have c' := inn_iff.1 c
    obtain ⟨h0, h1⟩ := c'
    obtain ⟨cp, x0, x1, y⟩ := h.words h0 h1
    replace c := Lib.hid c
    by_cases hc : s.f a.toNat = old
    · rw [if_pos hc, decide_eq_true hc]
      have e1 : (s.f a.toNat == old) = true := beq_iff_eq.2 hc
      replace hc := Lib.hid hc
      go_enter Try.func82, Try.ntmps82
      go_wp2_with (first | (go_at_call 79; refine (there_c _ m b s a h).mono ?_; rintro e w' ⟨rfl, rfl⟩; rw [show (decide (0 ≤ a) && decide (a < s.n)) = true from c.out]) | (go_at_call 80; refine (touch_c _ m b s _ _ _ h ok h0 h1).mono ?_; rintro e w' ⟨rfl, hM, hF⟩; replace hM := Lib.hid hM; replace hF := Lib.hid hF))
      go_ret
      exact ⟨rfl, hM.out, hF.out⟩
    · rw [if_neg hc, decide_eq_false hc]
      have e1 : (s.f a.toNat == old) = false := beq_eq_false_iff_ne.2 hc
      go_enter Try.func82, Try.ntmps82
      go_wp2_with (first | (go_at_call 79; refine (there_c _ m b s a h).mono ?_; rintro e w' ⟨rfl, rfl⟩; rw [show (decide (0 ≤ a) && decide (a < s.n)) = true from c.out]) | (go_at_call 80; refine (touch_c _ m b s _ _ _ h ok h0 h1).mono ?_; rintro e w' ⟨rfl, hM, hF⟩; replace hM := Lib.hid hM; replace hF := Lib.hid hF))
      go_ret
      exact ⟨rfl, hM.out, hF.out⟩
end
theorem touches_c (w : World) (m b : Nat) (s : Ms) (h : MemB w m b s) : Calls Try.prog 26 #[.pointer (some ⟨m, 0, none⟩)] w fun e w' => e = .returned (.int .i64 s.t) ∧ w = w' := by
  obtain ⟨A, c, h1, h2, h3⟩ := h.blk
  have x1 := h1.cell (i := 1) rfl
  go_enter Try.func26, Try.ntmps26
  go_wp2
  go_ret
  exact ⟨rfl, rfl⟩
def Ms.new (n : Nat) : Ms := ⟨n, fun _ => 0, 0, 0, 0, 0, 0⟩
theorem infoW : (Try.prog.info? 33).map (fun i => (i.zero, i.size, i.bytes)) = some (some (.int .u64 0), 1, 8) := by kernel_rfl
theorem made_row (n : Nat) : madeCells (Value.int .u64 0).cells (n * 1) = rowF .u64 n (fun _ => 0) := by
  refine Array.ext_getElem? fun j => ?_
  rw [Nat.mul_one]
  by_cases hj : j < n
  · rw [rowF_get hj]
    have : j < (madeCells (Value.int .u64 0).cells n).size := by rw [size_madeCells]; exact hj
    rw [Array.getElem?_eq_getElem this]
    simp [madeCells, Value.cells, Nat.mod_one]
  · rw [rowF_none hj, Array.getElem?_eq_none]
    rw [size_madeCells]; omega
theorem make_run (n : Int) (h0 : 0 ≤ n) (h1 : n ≤ 100000) (w : World) : (Instr.makeSlice 29 (.int .i64 n) (.int .i64 n)).run Try.prog w = .ok (.slice (some ⟨w.heap.size, 0, none⟩) n.toNat n.toNat) (w.alloc (.cells (rowF .u64 n.toNat (fun _ => 0)) 33)) := by
  obtain ⟨i, hi, e⟩ := Option.map_eq_some_iff.1 infoW
  simp only [Prod.mk.injEq] at e
  obtain ⟨e0, e1, e2⟩ := e
  have := run_make w 29 33 i (.int .u64 0) Try.underlying29 hi e0 .i64 .i64 n n h0 (Int.le_refl _) (by rw [e2]; omega) (by omega)
  rw [e1, made_row] at this
  exact this
end Go.Proofs.Ytijfkpoofpcacaa.MemC
end
section
namespace Go.Proofs.Ytijfkpoofpcacaa.MemD
open Go.RowKit Go.Lib Go.Proofs.Ytijfkpoofpcacaa.Blk Go.Proofs.Ytijfkpoofpcacaa.Core Go.Proofs.Ytijfkpoofpcacaa.MemC
structure RowB (w : World) (A : Option Addr) (c b n : Nat) (f : Nat → Int) : Prop where
  cap : n ≤ c
  row : 0 < n → A = some ⟨b, 0, none⟩ ∧ ∃ cs, Blk w b 33 cs ∧ ∀ i, i < n → cs[i]? = some (.int .u64 (f i))
theorem RowB.fr {S : Nat → Prop} {w w' : World} {A c b n f} (h : RowB w A c b n f) (hf : Fr S w w') (hb : ¬ S b) : RowB w' A c b n f := by
  refine ⟨h.cap, fun hn => ?_⟩
  obtain ⟨e, cs, h4, h5⟩ := h.row hn
  exact ⟨e, cs, h4.fr hf hb, h5⟩
theorem RowB.cell {w : World} {A c b n f} (h : RowB w A c b n f) {i : Nat} (hi : i < n) : A = some ⟨b, 0, none⟩ ∧ w.cell? ⟨b, i, none⟩ = some (.int .u64 (f i)) ∧ w.frozen? ⟨b, i, none⟩ = false := by
  obtain ⟨e, cs, h4, h5⟩ := h.row (by omega)
  exact ⟨e, h4.cell (h5 i hi), h4.frozen i⟩
theorem RowB.alloc {w : World} {A c b n f} (h : RowB w A c b n f) (o : Obj) : RowB (w.alloc o) A c b n f := by
  refine ⟨h.cap, fun hn => ?_⟩
  obtain ⟨e, cs, h4, h5⟩ := h.row hn
  exact ⟨e, cs, h4.alloc _, h5⟩
theorem RowB.of_owns {w : World} {base : Nat} {v : Value} {n : Nat} {f : Nat → Int} (h : w.ownsRow base 33 1 v n ((List.range n).map (fun i => Value.int .u64 (f i)))) : ∃ A c b, v = .slice A n c ∧ base ≤ b ∧ RowB w A c b n f := by
  rcases h.2 with ⟨rfl, rfl⟩ | ⟨g, cap, cur, rfl, hb, hg, hn, hc, hs, ht⟩
  · exact ⟨none, 0, base, rfl, Nat.le_refl _, Nat.le_refl _, fun h => absurd h (by decide)⟩
  · refine ⟨_, cap, g, rfl, hb, hn, fun _ => ⟨rfl, cur, hg, fun i hi => ?_⟩⟩
    have := congrArg (fun l => l[i]?) ht
    simp only [List.getElem?_take, Nat.mul_one, hi, if_true] at this
    simpa [hi] using this
set_option maxHeartbeats 2000000 in
set_option maxRecDepth 100000 in
theorem clone_c (w : World) (A : Option Addr) (c b n : Nat) (f : Nat → Int) (h : RowB w A c b n f) (hn : n ≤ 65536) : Calls Try.prog 74 #[.slice A n c] w fun e w' => ∃ A' c' b', e = .returned (.slice A' n c') ∧ w.heap.size ≤ b' ∧ RowB w' A' c' b' n f ∧ Below w.heap.size w w' := by
  obtain ⟨i0, hi, e0⟩ := Option.map_eq_some_iff.1 infoW
  simp only [Prod.mk.injEq] at e0
  obtain ⟨hz0, hz1, hz2⟩ := e0
  have q22 : ∀ (w : World) (a : Option Addr) (n c n' c' : Nat), (binOp .eql 29 (.slice a n c) (.slice none n' c')).run Try.prog w = .ok (.bool a.isNone) w := fun w a n c n' c' => Lib.run_eql_slice_nil w _ _ a n c n' c' Try.underlying29
  cases A with
  | none =>
    have n0 : n = 0 := by
      rcases Nat.eq_zero_or_pos n with e | e
      · exact e
      · exact absurd (h.row e).1 (by simp)
    subst n0
    go_enter Try.func74, Try.ntmps74
    go_wp2
    go_ret
    exact ⟨none, 0, w.heap.size, rfl, Nat.le_refl _, ⟨Nat.le_refl _, fun h => absurd h (by decide)⟩, Below.refl _ _⟩
  | some a =>
    have hA := Lib.hid h
    clear h
    go_enter Try.func74, Try.ntmps74
    go_wp2_with (at_builtin; refine wpList_append_own _ rfl _ _ 29 rfl w.heap.size 33 i0 (.int .u64 0) 1 8 Try.underlying29 hi hz0 hz1 hz2 rfl (by decide) _ _ _ rfl (World.ownsRow_made w #[] 0 (Nat.le_refl _) (Nat.zero_le _) rfl) a n c ((List.range n).map (fun i => Value.int .u64 (f i))) rfl ?qc1 ?qc2 ?qc3 ?qc4 ?qc5 ?qc6 ?_)
    case qc1 => simp
    case qc2 =>
      intro j u hj
      have hjn : j < n := by
        have := (List.getElem?_eq_some_iff.1 hj).1
        simpa using this
      obtain ⟨e, cs, h4, h5⟩ := hA.out.row (by omega)
      cases e
      rw [Addr.add_lit]
      refine Lib.cell?_alloc_some _ ?_
      rw [Nat.zero_add, h4.cell (h5 j hjn)]
      simpa [hjn] using hj
    case qc3 => intro u hu; obtain ⟨x, _, rfl⟩ := List.mem_map.1 hu; rfl
    case qc4 => unfold maxLen; omega
    case qc5 => omega
    case qc6 => simp
    intro v' w1 hown hgrow hnil
    go_wp2
    go_ret
    obtain ⟨A', c', b', rfl, h1, h2⟩ := RowB.of_owns (by simpa using hown)
    exact ⟨A', c', b', rfl, h1, h2, ((Below.refl _ w).alloc (Nat.le_refl _) _).grown hgrow (by simp) (by intro k hk; simp [Value.ownBlock] at hk; omega)⟩
theorem MemB.rowB {w : World} {m b : Nat} {s : Ms} (h : MemB w m b s) : ∃ A c, Blk w m 124 #[.slice A s.n c, .int .i64 s.t, .int .i64 s.k, .int .i64 s.a, .int .u64 s.was, .int .u64 s.now] ∧ RowB w A c b s.n s.f := by
  obtain ⟨A, c, h1, h2, h3⟩ := h.blk
  exact ⟨A, c, h1, h2, h3⟩
theorem RowB.drew {w : World} {A c b n f} (h : RowB w A c b n f) : RowB w.drew A c b n f := ⟨h.cap, h.row⟩
theorem words_c (w : World) (m b : Nat) (s : Ms) (h : MemB w m b s) (hn : s.n ≤ 65536) : Calls Try.prog 24 #[.pointer (some ⟨m, 0, none⟩)] w fun e w' => ∃ A c b', e = .returned (.slice A s.n c) ∧ w.heap.size ≤ b' ∧ RowB w' A c b' s.n s.f ∧ Below w.heap.size w w' := by
  obtain ⟨A, c, h1, h2⟩ := MemB.rowB h
  have x0 := h1.cell (i := 0) rfl
  replace h2 := Lib.hid h2
  go_enter Try.func24, Try.ntmps24
  go_wp2_with (go_at_call 74; refine (clone_c _ _ _ _ _ _ h2.out hn).mono ?_; rintro e w' ⟨A', c', b', rfl, g1, g2, g3⟩; replace g2 := Lib.hid g2; replace g3 := Lib.hid g3)
  go_ret
  exact ⟨A', c', b', rfl, g1, g2.out, g3.out⟩
def Ms.of (n : Nat) (f : Nat → Int) : Ms := ⟨n, f, 0, 0, 0, 0, 0⟩
theorem RowB.lt {w : World} {A c b n f} (h : RowB w A c b n f) (hn : 0 < n) : b < w.heap.size := by
  obtain ⟨e, cs, h4, h5⟩ := h.row hn
  exact h4.lt
theorem mk_mem (w0 w : World) (A : Option Addr) (c b n : Nat) (f : Nat → Int) (t k a was now : Int) (h : RowB w A c b n f) (hb : w0.heap.size ≤ b) (hw : Below w0.heap.size w0 w) :
    ∃ m' b', (⟨w.heap.size, 0, none⟩ : Addr) = ⟨m', 0, none⟩ ∧ MemB (w.alloc (.cells #[.slice A n c, .int .i64 t, .int .i64 k, .int .i64 a, .int .u64 was, .int .u64 now] 124)) m' b' ⟨n, f, t, k, a, was, now⟩ ∧ w0.heap.size ≤ m' ∧ w0.heap.size ≤ b' ∧ Below w0.heap.size w0 (w.alloc (.cells #[.slice A n c, .int .i64 t, .int .i64 k, .int .i64 a, .int .u64 was, .int .u64 now] 124)) := by
  have lt := hw.size
  rcases Nat.eq_zero_or_pos n with e | e
  · subst e
    exact ⟨w.heap.size, w.heap.size, rfl, ⟨fun h => absurd h (Nat.lt_irrefl 0), by simp, A, c, Blk.new w 124 _, h.cap, fun h => absurd h (Nat.lt_irrefl 0)⟩, lt, lt, hw.alloc lt _⟩
  · have := h.lt e
    refine ⟨w.heap.size, b, rfl, ⟨fun _ => by omega, by simp; omega, A, c, Blk.new w 124 _, h.cap, (h.alloc _).row⟩, lt, hb, hw.alloc lt _⟩
theorem of_c (w : World) (A : Option Addr) (c b n : Nat) (f : Nat → Int) (h : RowB w A c b n f) (hn : n ≤ 65536) : Calls Try.prog 70 #[.slice A n c] w fun e w' => ∃ m b', e = .returned (.pointer (some ⟨m, 0, none⟩)) ∧ MemB w' m b' (Ms.of n f) ∧ w.heap.size ≤ m ∧ w.heap.size ≤ b' ∧ Below w.heap.size w w' := by
  replace h := Lib.hid h
  go_enter Try.func70, Try.ntmps70
  go_wp2_with (go_at_call 74; refine (clone_c _ _ _ _ _ _ h.out hn).mono ?_; rintro e w' ⟨A', c', b', rfl, g1, g2, g3⟩; replace g2 := Lib.hid g2; replace g3 := Lib.hid g3)
  go_ret
  obtain ⟨m', b'', e, r⟩ := mk_mem w w' A' c' b' n f 0 0 0 0 0 g2.out g1 g3.out
  exact ⟨m', b'', by rw [← e]; rfl, r⟩
end Go.Proofs.Ytijfkpoofpcacaa.MemD
end
section
namespace Go.Proofs.Ytijfkpoofpcacaa.MemT
open Go.RowKit Go.Proofs.Ytijfkpoofpcacaa.Blk Go.Proofs.Ytijfkpoofpcacaa.Core Go.Proofs.Ytijfkpoofpcacaa.MemC Go.Proofs.Ytijfkpoofpcacaa.MemD
theorem U.upd {f : Nat → Int} (h : U f) (i : Nat) {x : Int} (x0 : 0 ≤ x) (x1 : x < 18446744073709551616) : U (upd f i x) := by
  intro j
  unfold Blk.upd
  split
  · exact ⟨x0, x1⟩
  · exact h j
structure Fine (s : Ms) (n t : Nat) : Prop where
  u : U s.f
  n : s.n = n
  t0 : 0 ≤ s.t
  t : s.t ≤ t
theorem Fine.ok {s : Ms} {n t : Nat} (h : Fine s n t) (hn : n ≤ 65536) (ht : t ≤ 100000000) : Ok s := ⟨h.u, h.t0, by have := h.t; omega, by rw [h.n]; exact hn⟩
theorem Fine.mono {s : Ms} {n t t' : Nat} (h : Fine s n t) (ht : t ≤ t') : Fine s n t' := ⟨h.u, h.n, h.t0, by have := h.t; omega⟩
theorem Fine.touch {s : Ms} {n t : Nat} (h : Fine s n t) (k a : Int) {v : Int} (v0 : 0 ≤ v) (v1 : v < 18446744073709551616) : Fine (s.touch k a v) n (t + 1) := by
  have h0 := h.t0
  have h1 := h.t
  exact ⟨U.upd h.u _ v0 v1, h.n, by show 0 ≤ s.t + 1; omega, by show s.t + 1 ≤ _; omega⟩
theorem Fine.ld {s : Ms} {n t : Nat} (h : Fine s n t) (a : Int) : Fine (s.ldS a) n (t + 1) := by
  unfold Ms.ldS
  split
  · exact h.touch _ _ (h.u _).1 (h.u _).2
  · exact h.mono (Nat.le_succ _)
theorem Fine.st {s : Ms} {n t : Nat} (h : Fine s n t) (a : Int) {v : Int} (v0 : 0 ≤ v) (v1 : v < 18446744073709551616) : Fine (s.stS a v) n (t + 1) := by
  unfold Ms.stS
  split
  · exact h.touch _ _ v0 v1
  · exact h.mono (Nat.le_succ _)
theorem Fine.sw {s : Ms} {n t : Nat} (h : Fine s n t) (a o : Int) {v : Int} (v0 : 0 ≤ v) (v1 : v < 18446744073709551616) : Fine (s.swS a o v) n (t + 1) := by
  unfold Ms.swS
  split
  · split
    · exact h.touch _ _ v0 v1
    · exact h.touch _ _ (h.u _).1 (h.u _).2
  · exact h.mono (Nat.le_succ _)
theorem below_drewN' {n k : Nat} {w w' : World} (h : Below n w w') : Below n w (w'.drewN k) := ⟨h.os, h.tape, h.output, h.size, h.block⟩
theorem words_n (w : World) (m b n : Nat) (s : Ms) (h : MemB w m b s) (e : s.n = n) (hn : n ≤ 65536) : Calls Try.prog 24 #[.pointer (some ⟨m, 0, none⟩)] w fun e w' => ∃ A c b', e = .returned (.slice A n c) ∧ w.heap.size ≤ b' ∧ RowB w' A c b' n s.f ∧ Below w.heap.size w w' := by
  subst e
  exact words_c w m b s h hn
theorem _root_.Go.Proofs.Ytijfkpoofpcacaa.MemD.RowB.set {w : World} {A c b n f} (h : RowB w A c b n f) (i : Nat) (hi : i < n) (x : Int) : RowB (w.setCell ⟨b, i, none⟩ (.int .u64 x)) A c b n (upd f i x) := by
  obtain ⟨e, cs, h4, h5⟩ := h.row (by omega)
  refine ⟨h.cap, fun _ => ⟨e, cs.setIfInBounds i (.int .u64 x), h4.set i _, fun j hj => ?_⟩⟩
  have hl : i < cs.size := by
    have := h5 i hi
    rcases Nat.lt_or_ge i cs.size with h | h
    · exact h
    · rw [Array.getElem?_eq_none h] at this; cases this
  rw [Array.getElem?_setIfInBounds]
  unfold upd
  by_cases c : i = j
  · rw [if_pos c, if_pos hl, if_pos c.symm]
  · rw [if_neg c, if_neg (fun h => c h.symm)]; exact h5 j hj
theorem _root_.Go.Proofs.Ytijfkpoofpcacaa.MemD.RowB.below {w w' : World} {A c b n f N} (h : RowB w A c b n f) (hb : Below N w w') (hN : w.heap.size ≤ N) : RowB w' A c b n f := by
  refine ⟨h.cap, fun hn => ?_⟩
  obtain ⟨e, cs, h4, h5⟩ := h.row hn
  exact ⟨e, cs, h4.below hb (Nat.lt_of_lt_of_le h4.lt hN), h5⟩
theorem _root_.Go.Proofs.Ytijfkpoofpcacaa.MemC.MemB.next {w w' : World} {m b : Nat} {s : Ms} (h : MemB w m b s) (hb : Below w.heap.size w w') : MemB w' m b s := h.below hb h.lm h.lb
theorem below_pre {w w' : World} {o : Obj} (h : Below (w.alloc o).heap.size (w.alloc o) w') : Below w.heap.size w w' := ((Below.refl w.heap.size w).alloc (Nat.le_refl _) o).trans (h.mono (by simp))
theorem fr_below {S : Nat → Prop} {w w' : World} (h : Below w.heap.size w w') : Fr S w w' := Fr.of_below h (fun k hk _ => hk)
theorem bT {w w1 w2 : World} (h : Below w.heap.size w w1) (k : Below w1.heap.size w1 w2) : Below w.heap.size w w2 := h.trans (k.mono h.size)
theorem cfgs {w : World} {b t : Nat} {S A C H G K : Int} (h : Blk w b t #[.int .i64 S, .int .i64 A, .int .i64 C, .int .i64 H, .int .i64 G, .int .i64 K]) : w.cell? ⟨b, 0, none⟩ = some (.int .i64 S) ∧ w.cell? ⟨b, 1, none⟩ = some (.int .i64 A) ∧ w.cell? ⟨b, 2, none⟩ = some (.int .i64 C) ∧ w.cell? ⟨b, 3, none⟩ = some (.int .i64 H) ∧ w.cell? ⟨b, 4, none⟩ = some (.int .i64 G) ∧ w.cell? ⟨b, 5, none⟩ = some (.int .i64 K) :=
  ⟨h.cell (i := 0) rfl, h.cell (i := 1) rfl, h.cell (i := 2) rfl, h.cell (i := 3) rfl, h.cell (i := 4) rfl, h.cell (i := 5) rfl⟩
end Go.Proofs.Ytijfkpoofpcacaa.MemT
end
section
namespace Go.Proofs.Ytijfkpoofpcacaa.Memory
open Go.RowKit Go.Proofs.Ytijfkpoofpcacaa.Blk Go.Proofs.Ytijfkpoofpcacaa.Core
def memF (A C H : Int) (j : Nat) : Nat → Int := fun k => if k = 0 then 1 else if k = 3 then 1 else
  if 0 ≤ (k : Int) - slotsV C H ∧ ((k : Int) - slotsV C H) % roomV A = 1 ∧ ((k : Int) - slotsV C H) / roomV A < (j : Int) then ((k : Int) - slotsV C H) / roomV A + 2 else 0
theorem memF_link {A C H : Int} {j s : Nat} (h4 : 4 ≤ slotsV C H) (hr : 5 ≤ roomV A) (hs : s < j) : memF A C H j (slotsV C H + s * roomV A + 1).toNat = s + 2 := by
  have hm : 0 ≤ (s : Int) * roomV A := Int.mul_nonneg (by omega) (by omega)
  unfold memF
  have e : (((slotsV C H + s * roomV A + 1).toNat : Nat) : Int) - slotsV C H = 1 + s * roomV A := by omega
  rw [if_neg (by omega), if_neg (by omega), e]
  have e1 : (1 + (s : Int) * roomV A) % roomV A = 1 := by rw [Int.add_mul_emod_self_right, Int.emod_eq_of_lt (by omega) (by omega)]
  have e2 : (1 + (s : Int) * roomV A) / roomV A = s := by rw [Int.add_mul_ediv_right _ _ (by omega), Int.ediv_eq_zero_of_lt (by omega) (by omega)]; omega
  rw [e1, e2, if_pos ⟨by omega, rfl, by omega⟩]
theorem memF_succ {A C H : Int} {j : Nat} (h4 : 4 ≤ slotsV C H) (hr : 5 ≤ roomV A) : upd (memF A C H j) (slotsV C H + j * roomV A + 1).toNat ((j : Int) + 2) = memF A C H (j + 1) := by
  have hm : 0 ≤ (j : Int) * roomV A := Int.mul_nonneg (by omega) (by omega)
  funext k
  unfold upd
  by_cases c : k = (slotsV C H + j * roomV A + 1).toNat
  · rw [if_pos c, c, memF_link h4 hr (Nat.lt_succ_self j)]
  · rw [if_neg c]
    unfold memF
    by_cases k0 : k = 0
    · rw [if_pos k0, if_pos k0]
    · rw [if_neg k0, if_neg k0]
      by_cases k3 : k = 3
      · rw [if_pos k3, if_pos k3]
      · rw [if_neg k3, if_neg k3]
        by_cases d : 0 ≤ (k : Int) - slotsV C H ∧ ((k : Int) - slotsV C H) % roomV A = 1 ∧ ((k : Int) - slotsV C H) / roomV A < (j : Int)
        · rw [if_pos d, if_pos ⟨d.1, d.2.1, by have := d.2.2; omega⟩]
        · rw [if_neg d, if_neg (fun x => d ⟨x.1, x.2.1, by
            have h1 := x.2.2
            rcases Int.lt_or_le (((k : Int) - slotsV C H) / roomV A) (j : Int) with g | g
            · exact g
            · exfalso
              have e : ((k : Int) - slotsV C H) / roomV A = j := by omega
              have := Int.mul_ediv_add_emod ((k : Int) - slotsV C H) (roomV A)
              rw [e, x.2.1, Int.mul_comm] at this
              exact c (by omega)⟩)]
end Go.Proofs.Ytijfkpoofpcacaa.Memory
end
section
namespace Go.Proofs.Ytijfkpoofpcacaa.PlanC
open Go.RowKit Go.Proofs.Ytijfkpoofpcacaa.PArenaPlays Go.Proofs.YtijfkpoofpcacaaW.PrintWords Go.Proofs.Ytijfkpoofpcacaa.Blk Go.Proofs.Ytijfkpoofpcacaa.Core Go.Proofs.Ytijfkpoofpcacaa.PuArenaPlays Go.Proofs.Ytijfkpoofpcacaa.MemC Go.Proofs.Ytijfkpoofpcacaa.MemD Go.Proofs.Ytijfkpoofpcacaa.MemT Go.Proofs.Ytijfkpoofpcacaa.Memory
section
variable (S A C H G K : Int) (w : World)
theorem right_c : Calls Try.prog 66 #[.agg #[.int .i64 S, .int .i64 A, .int .i64 C, .int .i64 H, .int .i64 G, .int .i64 K]] w fun e w' => e = .returned (.bool (rightB S A C H G K)) ∧ Below w.heap.size w w' :=
  plan_Right.calls S A C H G K _ w (p_pRight S A C H G K)
theorem size_yes (h : rightB S A C H G K = true) : Calls Try.prog 67 #[.agg #[.int .i64 S, .int .i64 A, .int .i64 C, .int .i64 H, .int .i64 G, .int .i64 K]] w fun e w' => e = .returned (.int .i64 (sizeV S A C H)) ∧ Below w.heap.size w w' :=
  plan_Size.calls S A C H G K _ w (by have := p_pSize S A C H G K; rw [if_pos h] at this; exact this)
theorem link_c (h : rightB S A C H G K = true) (s : Int) (s0 : 0 ≤ s) (s1 : s < S) : Calls Try.prog 69 #[.agg #[.int .i64 S, .int .i64 A, .int .i64 C, .int .i64 H, .int .i64 G, .int .i64 K], .int .i64 s] w fun e w' => e = .returned (.int .i64 (slotsV C H + s * roomV A + 1)) ∧ Below w.heap.size w w' :=
  plan_Link.calls 1 S A C H G K s _ w (by rw [p_pLink 1 S A C H G K s (by decide), if_pos ⟨h, s0, s1⟩])
end
theorem top_c (w : World) : Calls Try.prog 68 #[.int .u64 0, .int .i64 0] w fun e w' => e = .returned (.tuple #[.int .u64 1, .bool true]) ∧ Below w.heap.size w w' :=
  tag_Top.calls 5 0 0 _ _ w (by rw [p_Top 5 0 0 (by decide) (by decide) (by decide)]; rfl)
theorem size_bd {S A C H G K : Int} (h : rightB S A C H G K = true) : 4 ≤ slotsV C H ∧ slotsV C H ≤ 156 ∧ 5 ≤ roomV A ∧ roomV A ≤ 10 ∧ slotsV C H + 5 ≤ sizeV S A C H ∧ sizeV S A C H ≤ 800 := by
  have hr := right_iff.1 h
  have h1 := slotsV_bd (C := C) (H := H) (by omega) (by omega) (by omega) (by omega)
  have h2 := roomV_bd (A := A) (by omega) (by omega)
  have h3 := mul_le2 (a := S) (b := roomV A) (m := 64) (n := 10) (by omega) (by omega) (by omega) (by omega)
  have h4 : 1 * roomV A ≤ S * roomV A := Int.mul_le_mul_of_nonneg_right (by omega) (by omega)
  unfold sizeV
  omega
theorem at_bd {S A C H G K : Int} (h : rightB S A C H G K = true) {s i : Int} (s0 : 0 ≤ s) (s1 : s < S) (i0 : 0 ≤ i) (i1 : i < roomV A) : 0 ≤ s * roomV A ∧ slotsV C H + s * roomV A + i < sizeV S A C H := by
  have hb := size_bd h
  have h4 : (s + 1) * roomV A ≤ S * roomV A := Int.mul_le_mul_of_nonneg_right (by omega) (by omega)
  rw [Int.add_mul] at h4
  unfold sizeV
  exact ⟨Int.mul_nonneg s0 (by omega), by omega⟩
theorem f0_upd (A C H : Int) : upd (upd (fun _ => 0) 0 1) 3 1 = memF A C H 0 := by
  funext k
  unfold memF upd
  by_cases k3 : k = 3
  · subst k3; rfl
  · rw [if_neg k3]
    by_cases k0 : k = 0
    · rw [if_pos k0, if_pos k0]
    · rw [if_neg k0, if_neg k0, if_neg k3, if_neg]
      intro d
      have h1 := d.1
      have h2 := d.2.2
      rcases Int.lt_trichotomy (roomV A) 0 with g | g | g
      · unfold roomV at g; split at g <;> omega
      · unfold roomV at g; split at g <;> omega
      · have := Int.ediv_nonneg h1 (Int.le_of_lt g)
        omega
theorem rowB_new (w : World) (n : Nat) (f : Nat → Int) : RowB (w.alloc (.cells (rowF .u64 n f) 33)) (some ⟨w.heap.size, 0, none⟩) n w.heap.size n f :=
  ⟨Nat.le_refl _, fun _ => ⟨rfl, _, Blk.new w _ _, fun i hi => rowF_get hi⟩⟩
theorem rowB_put (w : World) (n i : Nat) (f : Nat → Int) (x : Int) : RowB (w.alloc (.cells ((rowF .u64 n f).setIfInBounds i (.int .u64 x)) 33)) (some ⟨w.heap.size, 0, none⟩) n w.heap.size n (upd f i x) := by
  rw [rowF_set]; exact rowB_new w n _
set_option maxHeartbeats 4000000 in
set_option maxRecDepth 100000 in
theorem memory_c (S A C H G K : Int) (w : World) (h : rightB S A C H G K = true) : Calls Try.prog 20 #[.agg #[.int .i64 S, .int .i64 A, .int .i64 C, .int .i64 H, .int .i64 G, .int .i64 K]] w fun e w' =>
    ∃ m b, e = .returned (.pointer (some ⟨m, 0, none⟩)) ∧ MemB w' m b (Ms.of (sizeV S A C H).toNat (memF A C H (S - 1).toNat)) ∧ w.heap.size ≤ m ∧ w.heap.size ≤ b ∧ Below w.heap.size w w' := by
  have hbd := size_bd h
  have hr := right_iff.1 h
  obtain ⟨n, hn⟩ := Int.eq_ofNat_of_zero_le (show 0 ≤ sizeV S A C H by omega)
  have hsz := Lib.hid hn
  have hat := fun (s : Int) (s0 : 0 ≤ s) (s1 : s < S) => at_bd h s0 s1 (i := 1) (by decide) (by omega)
  have hlk := fun (s : Int) (s0 : 0 ≤ s) (s1 : s < S) (w : World) => link_c S A C H G K w h s s0 s1
  obtain ⟨s4, s5, r4, r5, n4, n5⟩ := hbd
  rw [hn] at n4 n5
  rw [hn] at hat
  have m1 : ∀ w : World, (Instr.makeSlice 29 (.int .i64 (n : Int)) (.int .i64 (n : Int))).run Try.prog w = .ok (.slice (some ⟨w.heap.size, 0, none⟩) n n) (w.alloc (.cells (rowF .u64 n (fun _ => 0)) 33)) := fun w => make_run (n : Int) (by omega) (by omega) w
  have hf := Lib.hid (Blk.new w 23 #[.int .i64 S, .int .i64 A, .int .i64 C, .int .i64 H, .int .i64 G, .int .i64 K])
  replace hat := Lib.hid hat
  replace hlk := Lib.hid hlk
  replace h := Lib.hid h
  clear hn
  rw [hsz.out]
  obtain ⟨q1, q2, q3, q4⟩ : 1 ≤ S ∧ S ≤ 64 ∧ 0 ≤ A ∧ A ≤ 8 := by omega
  clear hr
  go_enter Try.func20, Try.ntmps20
  generalize hCFe : w.heap.size = CF at *
  go_wp2_with (first
    | (go_at_call 66; refine (right_c _ _ _ _ _ _ _).mono ?_; rintro e w1 ⟨rfl, hb1⟩; rw [h.out]; have hf1 := hf.out.below hb1 hf.out.lt; have k0 := hf1.cell (i := 0) rfl; have k1 := hf1.cell (i := 1) rfl; have k2 := hf1.cell (i := 2) rfl; have k3 := hf1.cell (i := 3) rfl; have k4 := hf1.cell (i := 4) rfl; have k5 := hf1.cell (i := 5) rfl; replace hf1 := Lib.hid hf1; replace hb1 := Lib.hid hb1)
    | (go_at_call 67; refine (size_yes _ _ _ _ _ _ _ h.out).mono ?_; rintro e w2 ⟨rfl, hb2⟩; rw [hsz.out]; have hf2 := hf1.out.below hb2 hf1.out.lt; replace hf2 := Lib.hid hf2; replace hb2 := Lib.hid hb2; have hR2 := rowB_new w2 n (fun _ => 0); obtain ⟨_, x0, y0⟩ := hR2.cell (show 0 < n by omega); replace hR2 := Lib.hid hR2)
    | (go_at_call 68; refine (top_c _).mono ?_; rintro e w4 ⟨rfl, hb4⟩; have hR4 := (rowB_put w2 n 0 (fun _ => 0) 1).below hb4 (Nat.le_refl _); have hf4 := (hf2.out.alloc _).below hb4 (hf2.out.alloc _).lt; obtain ⟨_, x3, y3⟩ := hR4.cell (show 3 < n by omega); have k4' := hf4.cell (i := 0) rfl; have ne1 : ¬ CF = w2.heap.size := fun c => absurd hf2.out.lt (by rw [c]; exact Nat.lt_irrefl _); replace hR4 := Lib.hid hR4; replace hf4 := Lib.hid hf4; replace hb4 := Lib.hid hb4))
  have hR5 := hR4.out.set 3 (by omega) 1
  rw [f0_upd A C H] at hR5
  have hf5 := hf4.out.other ⟨w2.heap.size, 3, none⟩ ne1 (.int .u64 1)
  have z1 := hb1.out.size
  have z2 := hb2.out.size
  have z4 := hb4.out.size
  have sza : ∀ o : Obj, (w2.alloc o).heap.size = w2.heap.size + 1 := fun o => by simp
  have szb : ∀ o : Obj, (w.alloc o).heap.size = CF + 1 := fun o => by rw [← hCFe]; simp
  rw [sza] at z4
  rw [szb] at z1
  have hW : Below CF w (w4.setCell ⟨w2.heap.size, 3, none⟩ (.int .u64 1)) := by
    have g1 : Below CF w w1 := hCFe ▸ below_pre hb1.out
    have g2 := g1.trans (hb2.out.mono (by omega))
    have g3 := (g2.alloc (by omega) (.cells ((rowF .u64 n (fun _ => 0)).setIfInBounds 0 (.int .u64 1)) 33)).trans (hb4.out.mono (by rw [sza]; omega))
    exact g3.setCell (p := ⟨w2.heap.size, 3, none⟩) (by show CF ≤ w2.heap.size; omega) _
  have hB0 : CF < w2.heap.size := by omega
  have hs5 : w2.heap.size < (w4.setCell ⟨w2.heap.size, 3, none⟩ (.int .u64 1)).heap.size := hR5.lt (by omega)
  clear hR4 hf4 hR2 hf2 hf1 hf hb4 hb2 hb1 x0 y0 x3 y3 k4' k0 k1 k2 k3 k4 k5 z1 z2 z4 m1 ne1 sza szb
  generalize w2.heap.size = B at *
  generalize w4.setCell ⟨B, 3, none⟩ (.int .u64 1) = w5 at *
  replace hR5 := Lib.hid hR5
  replace hf5 := Lib.hid hf5
  replace hW := Lib.hid hW
  go_loopw [22] (fun z wr => ∃ i : Nat, (i : Int) ≤ S - 1 ∧ z = .int .i64 (i : Int) ∧ RowB wr (some ⟨B, 0, none⟩) n B n (memF A C H i) ∧ Blk wr CF 23 #[.int .i64 S, .int .i64 A, .int .i64 C, .int .i64 H, .int .i64 G, .int .i64 K] ∧ Below CF w wr) (fun z _ => S.toNat - (intOf z).toNat)
  case atStart => exact ⟨0, by omega, rfl, hR5.out, hf5.out, hW.out⟩
  case round =>
    obtain ⟨i, hi, rfl, hRi, hCi, hWi⟩ := hrel
    have hlt' := hRi.lt (by omega)
    by_cases hlt : (i : Int) < S - 1
    · obtain ⟨p1, p2⟩ := hat.out i (by omega) (by omega)
      obtain ⟨ix, hix⟩ := Int.eq_ofNat_of_zero_le (show 0 ≤ slotsV C H + i * roomV A + 1 by omega)
      have hl := hlk.out i (by omega) (by omega)
      rw [hix] at hl p2
      have hix' := Lib.hid hix
      clear hix p1
      have k0 := hCi.cell (i := 0) rfl
      have k1 := hCi.cell (i := 1) rfl
      have k2 := hCi.cell (i := 2) rfl
      have k3 := hCi.cell (i := 3) rfl
      have k4 := hCi.cell (i := 4) rfl
      have k5 := hCi.cell (i := 5) rfl
      have p3 : ix < n := by omega
      replace hRi := Lib.hid hRi
      replace hCi := Lib.hid hCi
      replace hWi := Lib.hid hWi
      have ew : IntKind.u64.wrap ((i : Int) + 2) = (i : Int) + 2 := Core.wrap_u64_id _ (by omega) (by omega)
      go_wp2_with (go_at_call 69; refine (hl _).mono ?_; rintro e w7 ⟨rfl, hb7⟩; have hR7 := hRi.out.below hb7 (Nat.le_refl _); have hC7 := hCi.out.below hb7 hCi.out.lt; obtain ⟨_, x7, y7⟩ := hR7.cell p3; replace hR7 := Lib.hid hR7; replace hC7 := Lib.hid hC7; replace hb7 := Lib.hid hb7)
      go_roundw
      case rel =>
        have hR8 := hR7.out.set ix p3 ((i : Int) + 2)
        have e : ix = (slotsV C H + (i : Int) * roomV A + 1).toNat := by have := hix'.out; omega
        rw [e, memF_succ s4 r4, ← e] at hR8
        have sz := hb7.out.size
        exact ⟨i + 1, by omega, by go_num, hR8, hC7.out.other ⟨B, ix, none⟩ (by show ¬ CF = B; omega) _, (hWi.out.trans (hb7.out.mono (by omega))).setCell (p := ⟨B, ix, none⟩) (by show CF ≤ B; omega) _⟩
      case measure => simp [intOf]; omega
    · have hj : i = (S - 1).toNat := by omega
      replace hRi := Lib.hid hRi
      replace hCi := Lib.hid hCi
      replace hWi := Lib.hid hWi
      go_wp2_with (go_at_call 70; refine (of_c _ _ _ _ _ _ hRi.out (by omega)).mono ?_; rintro e w8 ⟨m, b, rfl, hM, hm, hb, hb8⟩; replace hM := Lib.hid hM; replace hb8 := Lib.hid hb8)
      go_ret
      rw [← hj]
      exact ⟨m, b, rfl, hM.out, by omega, by omega, hWi.out.trans (hb8.out.mono (by omega))⟩
end Go.Proofs.Ytijfkpoofpcacaa.PlanC
end
section
namespace Go.Proofs.Ytijfkpoofpcacaa.PArenaPlays
open Go.RowKit Go.Proofs.YtijfkpoofpcacaaW.PrintWords Go.Proofs.YtijfkpoofpcacaaW.PrintLast Go.Proofs.YtijfkpoofpcacaaW.PrintMore
attribute [local go_sem] max2_int max_two
def plan_Body.f (k : Nat) (a0_0 : Int) (a0_1 : Int) (a0_2 : Int) (a0_3 : Int) (a0_4 : Int) (a0_5 : Int) (a1 : Int) (a2 : Int) : Option (Int) := if a2 < 0 then (some (-1)) else (if a2 > 8 then (some (-1)) else ((plan_within.f k a0_0 a0_1 a0_2 a0_3 a0_4 a0_5 a1 (wrap64 (2 + a2))).bind fun t196 => (some t196)))
set_option maxHeartbeats 8000000 in
set_option maxRecDepth 100000 in
theorem plan_Body.calls (k : Nat) (a0_0 : Int) (a0_1 : Int) (a0_2 : Int) (a0_3 : Int) (a0_4 : Int) (a0_5 : Int) (a1 : Int) (a2 : Int) (r : Int) (w : World) (h : plan_Body.f k a0_0 a0_1 a0_2 a0_3 a0_4 a0_5 a1 a2 = some r) :
    Calls Try.prog 85 #[.agg #[.int .i64 a0_0, .int .i64 a0_1, .int .i64 a0_2, .int .i64 a0_3, .int .i64 a0_4, .int .i64 a0_5], .int .i64 a1, .int .i64 a2] w fun e w' => e = .returned (.int .i64 r) ∧ Below w.heap.size w w' := by
  have hu23 := Try.underlying23
  have HB := Aside0.mk (Below.refl w.heap.size w)
  have H : (if a2 < 0 then (some (-1)) else (if a2 > 8 then (some (-1)) else ((plan_within.f k a0_0 a0_1 a0_2 a0_3 a0_4 a0_5 a1 (wrap64 (2 + a2))).bind fun t196 => (some t196)))) = some r := h
  clear h
  by_cases c4 : a2 < 0
  · rw [if_pos c4] at H
    have c4b0 : decide (a2 < 0) = true := decide_eq_true c4
    clear c4
    obtain rfl := Option.some.inj H
    go_enter Try.func85, Try.ntmps85
    go_wp2_with (first | ((with_reducible refine gate_dst (N := 3) rfl ?_); refine box_event ?hg (N := 3) ?hd (cs := #[.int .i64 a0_0, .int .i64 a0_1, .int .i64 a0_2, .int .i64 a0_3, .int .i64 a0_4, .int .i64 a0_5]) (t := 23) ?hr ?_; (case hd => rfl); (case hg => rfl); (case hr => first | (go_simp; done) | (go_simp; rfl)); intro gb195 hg w5 hbox hb; have n0_ := Aside0.mk (below_step (by repeat (first | (with_reducible first | exact HB.out | apply below_alloc | apply pw_below_drewN | apply below_drew1) | exact HB.out)) hb); have n1_ := Aside0.mk (hbox); have n2_ := Aside0.mk ((by rw [hg]; exact (below_size (by repeat (first | (with_reducible first | exact HB.out | apply below_alloc | apply pw_below_drewN | apply below_drew1) | exact HB.out))) : w.heap.size ≤ gb195)); have n3_ := Aside0.mk ((by rw [hg]; exact (below_size (by repeat (first | (with_reducible first | exact HB.out | apply below_alloc | apply pw_below_drewN | apply below_drew1) | exact HB.out))) : w.heap.size ≤ gb195)); clear HB; have HB := n0_; have BK195 := n1_; have GW195 := n2_; have GE195 := n3_; clear n0_ n1_ n2_ n3_; clear hb hbox hg))
    go_ret
    exact ⟨by first | rfl | (simp [errW_none, errW_some] <;> rfl) | (simp [*, errW_none, errW_some] <;> rfl), by repeat (first | (with_reducible first | exact HB.out | apply below_alloc | apply pw_below_drewN | apply below_drew1 | refine below_set ?_ GE195.out) | exact HB.out)⟩
  · rw [if_neg c4] at H
    have c4b0 : decide (a2 < 0) = false := decide_eq_false c4
    clear c4
    by_cases c6 : a2 > 8
    · rw [if_pos c6] at H
      have c6b0 : decide (8 < a2) = true := decide_eq_true c6
      clear c6
      obtain rfl := Option.some.inj H
      go_enter Try.func85, Try.ntmps85
      go_wp2_with (first | ((with_reducible refine gate_dst (N := 3) rfl ?_); refine box_event ?hg (N := 3) ?hd (cs := #[.int .i64 a0_0, .int .i64 a0_1, .int .i64 a0_2, .int .i64 a0_3, .int .i64 a0_4, .int .i64 a0_5]) (t := 23) ?hr ?_; (case hd => rfl); (case hg => rfl); (case hr => first | (go_simp; done) | (go_simp; rfl)); intro gb195 hg w7 hbox hb; have n0_ := Aside0.mk (below_step (by repeat (first | (with_reducible first | exact HB.out | apply below_alloc | apply pw_below_drewN | apply below_drew1) | exact HB.out)) hb); have n1_ := Aside0.mk (hbox); have n2_ := Aside0.mk ((by rw [hg]; exact (below_size (by repeat (first | (with_reducible first | exact HB.out | apply below_alloc | apply pw_below_drewN | apply below_drew1) | exact HB.out))) : w.heap.size ≤ gb195)); have n3_ := Aside0.mk ((by rw [hg]; exact (below_size (by repeat (first | (with_reducible first | exact HB.out | apply below_alloc | apply pw_below_drewN | apply below_drew1) | exact HB.out))) : w.heap.size ≤ gb195)); clear HB; have HB := n0_; have BK195 := n1_; have GW195 := n2_; have GE195 := n3_; clear n0_ n1_ n2_ n3_; clear hb hbox hg))
      go_ret
      exact ⟨by first | rfl | (simp [errW_none, errW_some] <;> rfl) | (simp [*, errW_none, errW_some] <;> rfl), by repeat (first | (with_reducible first | exact HB.out | apply below_alloc | apply pw_below_drewN | apply below_drew1 | refine below_set ?_ GE195.out) | exact HB.out)⟩
    · rw [if_neg c6] at H
      have c6b0 : decide (8 < a2) = false := decide_eq_false c6
      clear c6
      replace H := Option.bind_eq_some_iff.mp H
      obtain ⟨t196, A80, H⟩ := H
      replace H : (some t196) = some r := H
      have A8 := Aside0.mk A80
      clear A80
      obtain rfl := Option.some.inj H
      go_enter Try.func85, Try.ntmps85
      go_wp2_with (first | ((with_reducible refine gate_dst (N := 3) rfl ?_); refine box_event ?hg (N := 3) ?hd (cs := #[.int .i64 a0_0, .int .i64 a0_1, .int .i64 a0_2, .int .i64 a0_3, .int .i64 a0_4, .int .i64 a0_5]) (t := 23) ?hr ?_; (case hd => rfl); (case hg => rfl); (case hr => first | (go_simp; done) | (go_simp; rfl)); intro gb195 hg w9 hbox hb; have n0_ := Aside0.mk (below_step (by repeat (first | (with_reducible first | exact HB.out | apply below_alloc | apply pw_below_drewN | apply below_drew1) | exact HB.out)) hb); have n1_ := Aside0.mk (hbox); have n2_ := Aside0.mk ((by rw [hg]; exact (below_size (by repeat (first | (with_reducible first | exact HB.out | apply below_alloc | apply pw_below_drewN | apply below_drew1) | exact HB.out))) : w.heap.size ≤ gb195)); have n3_ := Aside0.mk ((by rw [hg]; exact (below_size (by repeat (first | (with_reducible first | exact HB.out | apply below_alloc | apply pw_below_drewN | apply below_drew1) | exact HB.out))) : w.heap.size ≤ gb195)); clear HB; have HB := n0_; have BK195 := n1_; have GW195 := n2_; have GE195 := n3_; clear n0_ n1_ n2_ n3_; clear hb hbox hg; have hcz10_0 : w9.cell? ⟨gb195, 0, none⟩ = some (.int .i64 a0_0) := (blk_cell BK195.out 0).trans rfl; have hcz10_1 : w9.cell? ⟨gb195, 1, none⟩ = some (.int .i64 a0_1) := (blk_cell BK195.out 1).trans rfl; have hcz10_2 : w9.cell? ⟨gb195, 2, none⟩ = some (.int .i64 a0_2) := (blk_cell BK195.out 2).trans rfl; have hcz10_3 : w9.cell? ⟨gb195, 3, none⟩ = some (.int .i64 a0_3) := (blk_cell BK195.out 3).trans rfl; have hcz10_4 : w9.cell? ⟨gb195, 4, none⟩ = some (.int .i64 a0_4) := (blk_cell BK195.out 4).trans rfl; have hcz10_5 : w9.cell? ⟨gb195, 5, none⟩ = some (.int .i64 a0_5) := (blk_cell BK195.out 5).trans rfl; have hfz10_0 := blk_frozen BK195.out 0; have hfz10_1 := blk_frozen BK195.out 1; have hfz10_2 := blk_frozen BK195.out 2; have hfz10_3 := blk_frozen BK195.out 3; have hfz10_4 := blk_frozen BK195.out 4; have hfz10_5 := blk_frozen BK195.out 5) | ((with_reducible refine gate_callee (f := 95) rfl ?_); refine goesL_ (some 17) rfl rfl Try.func95 (by kernel_rfl) rfl #[.agg #[.int .i64 a0_0, .int .i64 a0_1, .int .i64 a0_2, .int .i64 a0_3, .int .i64 a0_4, .int .i64 a0_5], .int .i64 a1, .int .i64 (wrap64 (2 + a2))] rfl (by (try simp only [List.map_toArray, List.map_cons, List.map_nil]); first | done | rfl | (simp only [List.length_drop, List.length_take]; rfl)) ?_; (with_reducible refine (plan_within.calls k a0_0 a0_1 a0_2 a0_3 a0_4 a0_5 a1 (wrap64 (2 + a2)) t196 _ A8.out).mono ?_); rintro e w11 ⟨rfl, hb⟩; refine ⟨_, rfl, ?_⟩; have n0_ := Aside0.mk (blk_below (g := gb195) (o := .cells #[.int .i64 a0_0, .int .i64 a0_1, .int .i64 a0_2, .int .i64 a0_3, .int .i64 a0_4, .int .i64 a0_5] 23 (0, 0)) (by (with_reducible repeat (first | refine blk_drewN ?_ _ | refine blk_drew ?_ | refine blk_alloc ?_ _)); exact BK195.out) hb); have n1_ := Aside0.mk (below_step (by repeat (first | (with_reducible first | exact HB.out | apply below_alloc | apply pw_below_drewN | apply below_drew1 | refine below_set ?_ GE195.out) | exact HB.out)) hb); clear BK195; clear HB; have BK195 := n0_; have HB := n1_; clear n0_ n1_; (try clear hb); (try clear hb2); (try clear hk); (try clear hi)))
      go_ret
      exact ⟨by first | rfl | (simp [errW_none, errW_some] <;> rfl) | (simp [*, errW_none, errW_some] <;> rfl), by repeat (first | (with_reducible first | exact HB.out | apply below_alloc | apply pw_below_drewN | apply below_drew1 | refine below_set ?_ GE195.out) | exact HB.out)⟩
def word_mask.f (a0 : Int) : Option (Int) := if 0 ≤ a0 then (some (IntKind.u64.wrap ((shl .u64 1 a0) - 1))) else (none)
set_option maxHeartbeats 8000000 in
set_option maxRecDepth 100000 in
theorem word_mask.calls (a0 : Int) (r : Int) (w : World) (h : word_mask.f a0 = some r) :
    Calls Try.prog 111 #[.int .i64 a0] w fun e w' => e = .returned (.int .u64 r) ∧ Drawn0 w w' := by
  have H : (if 0 ≤ a0 then (some (IntKind.u64.wrap ((shl .u64 1 a0) - 1))) else (none)) = some r := h
  clear h
  by_cases c2 : 0 ≤ a0
  · rw [if_pos c2] at H
    have c2b0 := eq_true c2
    have c2b1 : decide (0 ≤ a0) = true := decide_eq_true c2
    clear c2
    obtain ⟨ji3, hji3⟩ : ∃ j_ : Int, (shl .u64 1 a0) = j_ := ⟨_, rfl⟩
    replace H : (some (IntKind.u64.wrap ((ji3) - 1))) = some r := by first | (rw [hji3] at H; exact H) | (simp only [hji3] at H ⊢; exact H)
    have hji3_ : (IntKind.u64.wrap (1 * 2 ^ min a0.toNat 64)) = ji3 := hji3
    have hji3z : a0 ≤ 64 → (IntKind.u64.wrap (1 * 2 ^ a0.toNat)) = ji3 := shl_small hji3
    have hji3u : (IntKind.u64.wrap (2 ^ min a0.toNat 64)) = ji3 := by have h_ := hji3_; rw [Int.one_mul] at h_; exact h_
    have hji3v : a0 ≤ 64 → (IntKind.u64.wrap (2 ^ a0.toNat)) = ji3 := fun hle_ => by have h_ := hji3z hle_; rw [Int.one_mul] at h_; exact h_
    obtain rfl := Option.some.inj H
    go_enter Try.func111, Try.ntmps111
    go_wp2
    go_ret
    exact ⟨by first | rfl | (simp; done) | (simp only [← hji3] <;> (first | rfl | simp)) | (simp [*]; done), by repeat (first | exact Drawn0.refl _ | apply Drawn0.step)⟩
  · rw [if_neg c2] at H
    exact absurd H (by simp)
def word_Get.f (a0 : Int) (a1 : Int) (a2 : Int) : Option (Int) := (word_some.f a1 a2).bind fun t198 => (if t198 = true then (if 0 ≤ a1 then ((word_mask.f a2).bind fun t199 => (some (Go.bits .and .u64 (shr .u64 a0 a1) t199))) else (none)) else (some 0))
set_option maxHeartbeats 8000000 in
set_option maxRecDepth 100000 in
theorem word_Get.calls (a0 : Int) (a1 : Int) (a2 : Int) (r : Int) (w : World) (h : word_Get.f a0 a1 a2 = some r) :
    Calls Try.prog 104 #[.int .u64 a0, .int .i64 a1, .int .i64 a2] w fun e w' => e = .returned (.int .u64 r) ∧ Drawn0 w w' := by
  have H : ((word_some.f a1 a2).bind fun t198 => (if t198 = true then (if 0 ≤ a1 then ((word_mask.f a2).bind fun t199 => (some (Go.bits .and .u64 (shr .u64 a0 a1) t199))) else (none)) else (some 0))) = some r := h
  clear h
  replace H := Option.bind_eq_some_iff.mp H
  obtain ⟨t198, A40, H⟩ := H
  replace H : (if t198 = true then (if 0 ≤ a1 then ((word_mask.f a2).bind fun t199 => (some (Go.bits .and .u64 (shr .u64 a0 a1) t199))) else (none)) else (some 0)) = some r := H
  have A4 := Aside0.mk A40
  clear A40
  by_cases c5 : t198 = true
  · subst c5
    have H1 : (if 0 ≤ a1 then ((word_mask.f a2).bind fun t199 => (some (Go.bits .and .u64 (shr .u64 a0 a1) t199))) else (none)) = some r := by rw [if_pos rfl] at H; exact H
    clear H
    have H := H1
    clear H1
    by_cases c6 : 0 ≤ a1
    · rw [if_pos c6] at H
      have c6b0 := eq_true c6
      have c6b1 : decide (0 ≤ a1) = true := decide_eq_true c6
      clear c6
      obtain ⟨ji7, hji7⟩ : ∃ j_ : Int, (shr .u64 a0 a1) = j_ := ⟨_, rfl⟩
      replace H : ((word_mask.f a2).bind fun t199 => (some (Go.bits .and .u64 (ji7) t199))) = some r := by first | (rw [hji7] at H; exact H) | (simp only [hji7] at H ⊢; exact H)
      (try rw [hji7] at A4)
      have hji7_ : (a0 / 2 ^ min a1.toNat 64) = ji7 := hji7
      have hji7z : a1 ≤ 64 → (a0 / 2 ^ a1.toNat) = ji7 := shr_small hji7
      replace H := Option.bind_eq_some_iff.mp H
      obtain ⟨t199, A80, H⟩ := H
      replace H : (some (Go.bits .and .u64 (ji7) t199)) = some r := H
      have A8 := Aside0.mk A80
      clear A80
      obtain rfl := Option.some.inj H
      go_enter Try.func104, Try.ntmps104
      go_wp2_with (first | (go_at_call 105; (with_reducible refine (word_some.calls a1 a2 true _ A4.out).mono ?_); rintro e w' ⟨rfl, ⟨nd, rfl⟩⟩; (try first | exact ⟨rfl, _, World.drewN_drewN _ _ _⟩ | exact ⟨rfl, _, Eq.trans (World.drewN_drewN _ _ _) (congrArg (World.drewN _) (Nat.add_assoc _ _ _))⟩)) | (go_at_call 111; (with_reducible refine (word_mask.calls a2 t199 _ A8.out).mono ?_); rintro e w' ⟨rfl, ⟨nd, rfl⟩⟩; (try first | exact ⟨rfl, _, World.drewN_drewN _ _ _⟩ | exact ⟨rfl, _, Eq.trans (World.drewN_drewN _ _ _) (congrArg (World.drewN _) (Nat.add_assoc _ _ _))⟩)))
      repeat (go_quiet (first | (go_at_call 105; (with_reducible refine (word_some.calls a1 a2 true _ A4.out).mono ?_); rintro e w' ⟨rfl, ⟨nd, rfl⟩⟩; (try first | exact ⟨rfl, _, World.drewN_drewN _ _ _⟩ | exact ⟨rfl, _, Eq.trans (World.drewN_drewN _ _ _) (congrArg (World.drewN _) (Nat.add_assoc _ _ _))⟩)) | (go_at_call 111; (with_reducible refine (word_mask.calls a2 t199 _ A8.out).mono ?_); rintro e w' ⟨rfl, ⟨nd, rfl⟩⟩; (try first | exact ⟨rfl, _, World.drewN_drewN _ _ _⟩ | exact ⟨rfl, _, Eq.trans (World.drewN_drewN _ _ _) (congrArg (World.drewN _) (Nat.add_assoc _ _ _))⟩))); try go_wp2_with (first | (go_at_call 105; (with_reducible refine (word_some.calls a1 a2 true _ A4.out).mono ?_); rintro e w' ⟨rfl, ⟨nd, rfl⟩⟩; (try first | exact ⟨rfl, _, World.drewN_drewN _ _ _⟩ | exact ⟨rfl, _, Eq.trans (World.drewN_drewN _ _ _) (congrArg (World.drewN _) (Nat.add_assoc _ _ _))⟩)) | (go_at_call 111; (with_reducible refine (word_mask.calls a2 t199 _ A8.out).mono ?_); rintro e w' ⟨rfl, ⟨nd, rfl⟩⟩; (try first | exact ⟨rfl, _, World.drewN_drewN _ _ _⟩ | exact ⟨rfl, _, Eq.trans (World.drewN_drewN _ _ _) (congrArg (World.drewN _) (Nat.add_assoc _ _ _))⟩))))
      go_ret
      exact ⟨by first | rfl | (simp; done) | (simp only [← hji7] <;> (first | rfl | simp)) | (simp [*]; done), by repeat (first | exact Drawn0.refl _ | apply Drawn0.step)⟩
    · rw [if_neg c6] at H
      exact absurd H (by simp)
  · replace c5 := Bool.eq_false_iff.mpr c5
    subst c5
    have H1 : (some 0) = some r := by rw [if_neg (show ¬ (false = true) by decide)] at H; exact H
    clear H
    have H := H1
    clear H1
    obtain rfl := Option.some.inj H
    go_enter Try.func104, Try.ntmps104
    go_wp2_with (first | (go_at_call 105; (with_reducible refine (word_some.calls a1 a2 false _ A4.out).mono ?_); rintro e w' ⟨rfl, ⟨nd, rfl⟩⟩; (try first | exact ⟨rfl, _, World.drewN_drewN _ _ _⟩ | exact ⟨rfl, _, Eq.trans (World.drewN_drewN _ _ _) (congrArg (World.drewN _) (Nat.add_assoc _ _ _))⟩)))
    repeat (go_quiet (first | (go_at_call 105; (with_reducible refine (word_some.calls a1 a2 false _ A4.out).mono ?_); rintro e w' ⟨rfl, ⟨nd, rfl⟩⟩; (try first | exact ⟨rfl, _, World.drewN_drewN _ _ _⟩ | exact ⟨rfl, _, Eq.trans (World.drewN_drewN _ _ _) (congrArg (World.drewN _) (Nat.add_assoc _ _ _))⟩))); try go_wp2_with (first | (go_at_call 105; (with_reducible refine (word_some.calls a1 a2 false _ A4.out).mono ?_); rintro e w' ⟨rfl, ⟨nd, rfl⟩⟩; (try first | exact ⟨rfl, _, World.drewN_drewN _ _ _⟩ | exact ⟨rfl, _, Eq.trans (World.drewN_drewN _ _ _) (congrArg (World.drewN _) (Nat.add_assoc _ _ _))⟩))))
    go_ret
    exact ⟨by first | rfl | (simp; done) | (simp [*]; done), by repeat (first | exact Drawn0.refl _ | apply Drawn0.step)⟩
def tag_TopParts.f (a0 : Int) : Option (Int × Int) := (word_Get.f a0 16 48).bind fun t200 => ((word_Get.f a0 0 16).bind fun t201 => (some (t200, wrap64 ((wrap64 (t201)) - 1))))
set_option maxHeartbeats 8000000 in
set_option maxRecDepth 100000 in
theorem tag_TopParts.calls (a0 : Int) (r1 : Int) (r2 : Int) (w : World) (h : tag_TopParts.f a0 = some (r1, r2)) :
    Calls Try.prog 96 #[.int .u64 a0] w fun e w' => e = .returned (.tuple #[.int .u64 r1, .int .i64 r2]) ∧ Drawn0 w w' := by
  have H : ((word_Get.f a0 16 48).bind fun t200 => ((word_Get.f a0 0 16).bind fun t201 => (some (t200, wrap64 ((wrap64 (t201)) - 1))))) = some (r1, r2) := h
  clear h
  replace H := Option.bind_eq_some_iff.mp H
  obtain ⟨t200, A20, H⟩ := H
  replace H : ((word_Get.f a0 0 16).bind fun t201 => (some (t200, wrap64 ((wrap64 (t201)) - 1)))) = some (r1, r2) := H
  have A2 := Aside0.mk A20
  clear A20
  replace H := Option.bind_eq_some_iff.mp H
  obtain ⟨t201, A30, H⟩ := H
  replace H : (some (t200, wrap64 ((wrap64 (t201)) - 1))) = some (r1, r2) := H
  have A3 := Aside0.mk A30
  clear A30
  simp only [Option.some.injEq, Prod.mk.injEq] at H
  obtain ⟨rfl, rfl⟩ := H
  go_enter Try.func96, Try.ntmps96
  go_wp2_with (first | ((with_reducible refine gate_callee (f := 104) rfl ?_); refine goesL_ (some 5) rfl rfl Try.func104 (by kernel_rfl) rfl #[.int .u64 a0, .int .i64 16, .int .i64 48] rfl (by (try simp only [List.map_toArray, List.map_cons, List.map_nil]); first | done | rfl | (simp only [List.length_drop, List.length_take]; rfl)) ?_; (with_reducible refine (word_Get.calls a0 16 48 t200 _ A2.out).mono ?_); rintro e w' ⟨rfl, ⟨nd, rfl⟩⟩; refine ⟨_, rfl, ?_⟩) | ((with_reducible refine gate_callee (f := 104) rfl ?_); refine goesL_ (some 7) rfl rfl Try.func104 (by kernel_rfl) rfl #[.int .u64 a0, .int .i64 0, .int .i64 16] rfl (by (try simp only [List.map_toArray, List.map_cons, List.map_nil]); first | done | rfl | (simp only [List.length_drop, List.length_take]; rfl)) ?_; (with_reducible refine (word_Get.calls a0 0 16 t201 _ A3.out).mono ?_); rintro e w' ⟨rfl, ⟨nd, rfl⟩⟩; refine ⟨_, rfl, ?_⟩))
  go_ret2
  exact ⟨by first | rfl | (simp; done) | (simp [*]; done), by repeat (first | exact Drawn0.refl _ | apply Drawn0.step)⟩
def stack_first.f (a0_0 : Int) (a0_1 : Int) (a0_2 : Int) (a0_3 : Int) (a0_4 : Int) (a0_5 : Int) (a1 : Int) : Option (Int) := (tag_TopParts.f a1).bind fun bt203 => (if bt203.2 ≥ a0_0 then (some (-1)) else (some bt203.2))
set_option maxHeartbeats 8000000 in
set_option maxRecDepth 100000 in
theorem stack_first.calls (a0_0 : Int) (a0_1 : Int) (a0_2 : Int) (a0_3 : Int) (a0_4 : Int) (a0_5 : Int) (a1 : Int) (r : Int) (w : World) (h : stack_first.f a0_0 a0_1 a0_2 a0_3 a0_4 a0_5 a1 = some r) :
    Calls Try.prog 75 #[.agg #[.int .i64 a0_0, .int .i64 a0_1, .int .i64 a0_2, .int .i64 a0_3, .int .i64 a0_4, .int .i64 a0_5], .int .u64 a1] w fun e w' => e = .returned (.int .i64 r) ∧ Below w.heap.size w w' := by
  have hu23 := Try.underlying23
  have HB := Aside0.mk (Below.refl w.heap.size w)
  have H : ((tag_TopParts.f a1).bind fun bt203 => (if bt203.2 ≥ a0_0 then (some (-1)) else (some bt203.2))) = some r := h
  clear h
  replace H := Option.bind_eq_some_iff.mp H
  obtain ⟨⟨t203, t204⟩, A30, H⟩ := H
  replace H : (if t204 ≥ a0_0 then (some (-1)) else (some t204)) = some r := H
  have A3 := Aside0.mk A30
  clear A30
  by_cases c4 : t204 ≥ a0_0
  · rw [if_pos c4] at H
    have c4b0 : decide (a0_0 ≤ t204) = true := decide_eq_true c4
    clear c4
    obtain rfl := Option.some.inj H
    go_enter Try.func75, Try.ntmps75
    go_wp2_with (first | ((with_reducible refine gate_dst (N := 2) rfl ?_); refine box_event ?hg (N := 2) ?hd (cs := #[.int .i64 a0_0, .int .i64 a0_1, .int .i64 a0_2, .int .i64 a0_3, .int .i64 a0_4, .int .i64 a0_5]) (t := 23) ?hr ?_; (case hd => rfl); (case hg => rfl); (case hr => first | (go_simp; done) | (go_simp; rfl)); intro gb202 hg w5 hbox hb; have n0_ := Aside0.mk (below_step (by repeat (first | (with_reducible first | exact HB.out | apply below_alloc | apply pw_below_drewN | apply below_drew1) | exact HB.out)) hb); have n1_ := Aside0.mk (hbox); have n2_ := Aside0.mk ((by rw [hg]; exact (below_size (by repeat (first | (with_reducible first | exact HB.out | apply below_alloc | apply pw_below_drewN | apply below_drew1) | exact HB.out))) : w.heap.size ≤ gb202)); have n3_ := Aside0.mk ((by rw [hg]; exact (below_size (by repeat (first | (with_reducible first | exact HB.out | apply below_alloc | apply pw_below_drewN | apply below_drew1) | exact HB.out))) : w.heap.size ≤ gb202)); clear HB; have HB := n0_; have BK202 := n1_; have GW202 := n2_; have GE202 := n3_; clear n0_ n1_ n2_ n3_; clear hb hbox hg) | ((with_reducible refine gate_callee (f := 96) rfl ?_); refine goesL_ (some 9) rfl rfl Try.func96 (by kernel_rfl) rfl #[.int .u64 a1] rfl (by (try simp only [List.map_toArray, List.map_cons, List.map_nil]); first | done | rfl | (simp only [List.length_drop, List.length_take]; rfl)) ?_; (with_reducible refine (tag_TopParts.calls a1 t203 t204 _ A3.out).mono ?_); rintro e w' ⟨rfl, ⟨nd, rfl⟩⟩; refine ⟨_, rfl, ?_⟩; have hcz6_0 : w5.cell? ⟨gb202, 0, none⟩ = some (.int .i64 a0_0) := (blk_cell BK202.out 0).trans rfl; have hcz6_1 : w5.cell? ⟨gb202, 1, none⟩ = some (.int .i64 a0_1) := (blk_cell BK202.out 1).trans rfl; have hcz6_2 : w5.cell? ⟨gb202, 2, none⟩ = some (.int .i64 a0_2) := (blk_cell BK202.out 2).trans rfl; have hcz6_3 : w5.cell? ⟨gb202, 3, none⟩ = some (.int .i64 a0_3) := (blk_cell BK202.out 3).trans rfl; have hcz6_4 : w5.cell? ⟨gb202, 4, none⟩ = some (.int .i64 a0_4) := (blk_cell BK202.out 4).trans rfl; have hcz6_5 : w5.cell? ⟨gb202, 5, none⟩ = some (.int .i64 a0_5) := (blk_cell BK202.out 5).trans rfl; have hfz6_0 := blk_frozen BK202.out 0; have hfz6_1 := blk_frozen BK202.out 1; have hfz6_2 := blk_frozen BK202.out 2; have hfz6_3 := blk_frozen BK202.out 3; have hfz6_4 := blk_frozen BK202.out 4; have hfz6_5 := blk_frozen BK202.out 5))
    go_ret
    exact ⟨by first | rfl | (simp [errW_none, errW_some] <;> rfl) | (simp [*, errW_none, errW_some] <;> rfl), by repeat (first | (with_reducible first | exact HB.out | apply below_alloc | apply pw_below_drewN | apply below_drew1 | refine below_set ?_ GE202.out) | exact HB.out)⟩
  · rw [if_neg c4] at H
    have c4b0 : decide (a0_0 ≤ t204) = false := decide_eq_false c4
    clear c4
    obtain rfl := Option.some.inj H
    go_enter Try.func75, Try.ntmps75
    go_wp2_with (first | ((with_reducible refine gate_dst (N := 2) rfl ?_); refine box_event ?hg (N := 2) ?hd (cs := #[.int .i64 a0_0, .int .i64 a0_1, .int .i64 a0_2, .int .i64 a0_3, .int .i64 a0_4, .int .i64 a0_5]) (t := 23) ?hr ?_; (case hd => rfl); (case hg => rfl); (case hr => first | (go_simp; done) | (go_simp; rfl)); intro gb202 hg w7 hbox hb; have n0_ := Aside0.mk (below_step (by repeat (first | (with_reducible first | exact HB.out | apply below_alloc | apply pw_below_drewN | apply below_drew1) | exact HB.out)) hb); have n1_ := Aside0.mk (hbox); have n2_ := Aside0.mk ((by rw [hg]; exact (below_size (by repeat (first | (with_reducible first | exact HB.out | apply below_alloc | apply pw_below_drewN | apply below_drew1) | exact HB.out))) : w.heap.size ≤ gb202)); have n3_ := Aside0.mk ((by rw [hg]; exact (below_size (by repeat (first | (with_reducible first | exact HB.out | apply below_alloc | apply pw_below_drewN | apply below_drew1) | exact HB.out))) : w.heap.size ≤ gb202)); clear HB; have HB := n0_; have BK202 := n1_; have GW202 := n2_; have GE202 := n3_; clear n0_ n1_ n2_ n3_; clear hb hbox hg) | ((with_reducible refine gate_callee (f := 96) rfl ?_); refine goesL_ (some 9) rfl rfl Try.func96 (by kernel_rfl) rfl #[.int .u64 a1] rfl (by (try simp only [List.map_toArray, List.map_cons, List.map_nil]); first | done | rfl | (simp only [List.length_drop, List.length_take]; rfl)) ?_; (with_reducible refine (tag_TopParts.calls a1 t203 t204 _ A3.out).mono ?_); rintro e w' ⟨rfl, ⟨nd, rfl⟩⟩; refine ⟨_, rfl, ?_⟩; have hcz8_0 : w7.cell? ⟨gb202, 0, none⟩ = some (.int .i64 a0_0) := (blk_cell BK202.out 0).trans rfl; have hcz8_1 : w7.cell? ⟨gb202, 1, none⟩ = some (.int .i64 a0_1) := (blk_cell BK202.out 1).trans rfl; have hcz8_2 : w7.cell? ⟨gb202, 2, none⟩ = some (.int .i64 a0_2) := (blk_cell BK202.out 2).trans rfl; have hcz8_3 : w7.cell? ⟨gb202, 3, none⟩ = some (.int .i64 a0_3) := (blk_cell BK202.out 3).trans rfl; have hcz8_4 : w7.cell? ⟨gb202, 4, none⟩ = some (.int .i64 a0_4) := (blk_cell BK202.out 4).trans rfl; have hcz8_5 : w7.cell? ⟨gb202, 5, none⟩ = some (.int .i64 a0_5) := (blk_cell BK202.out 5).trans rfl; have hfz8_0 := blk_frozen BK202.out 0; have hfz8_1 := blk_frozen BK202.out 1; have hfz8_2 := blk_frozen BK202.out 2; have hfz8_3 := blk_frozen BK202.out 3; have hfz8_4 := blk_frozen BK202.out 4; have hfz8_5 := blk_frozen BK202.out 5))
    go_ret
    exact ⟨by first | rfl | (simp [errW_none, errW_some] <;> rfl) | (simp [*, errW_none, errW_some] <;> rfl), by repeat (first | (with_reducible first | exact HB.out | apply below_alloc | apply pw_below_drewN | apply below_drew1 | refine below_set ?_ GE202.out) | exact HB.out)⟩
def stack_linked.f (a0_0 : Int) (a0_1 : Int) (a0_2 : Int) (a0_3 : Int) (a0_4 : Int) (a0_5 : Int) (a1 : Int) : Option (Int) := if a1 > (IntKind.u64.wrap (a0_0)) then (some (-1)) else (some (wrap64 ((wrap64 (a1)) - 1)))
set_option maxHeartbeats 8000000 in
set_option maxRecDepth 100000 in
theorem stack_linked.calls (a0_0 : Int) (a0_1 : Int) (a0_2 : Int) (a0_3 : Int) (a0_4 : Int) (a0_5 : Int) (a1 : Int) (r : Int) (w : World) (h : stack_linked.f a0_0 a0_1 a0_2 a0_3 a0_4 a0_5 a1 = some r) :
    Calls Try.prog 76 #[.agg #[.int .i64 a0_0, .int .i64 a0_1, .int .i64 a0_2, .int .i64 a0_3, .int .i64 a0_4, .int .i64 a0_5], .int .u64 a1] w fun e w' => e = .returned (.int .i64 r) ∧ Below w.heap.size w w' := by
  have hu23 := Try.underlying23
  have HB := Aside0.mk (Below.refl w.heap.size w)
  have H : (if a1 > (IntKind.u64.wrap (a0_0)) then (some (-1)) else (some (wrap64 ((wrap64 (a1)) - 1)))) = some r := h
  clear h
  by_cases c3 : a1 > (IntKind.u64.wrap (a0_0))
  · rw [if_pos c3] at H
    have c3b0 : decide ((IntKind.u64.wrap (a0_0)) < a1) = true := decide_eq_true c3
    clear c3
    obtain rfl := Option.some.inj H
    go_enter Try.func76, Try.ntmps76
    go_wp2_with (first | ((with_reducible refine gate_dst (N := 2) rfl ?_); refine box_event ?hg (N := 2) ?hd (cs := #[.int .i64 a0_0, .int .i64 a0_1, .int .i64 a0_2, .int .i64 a0_3, .int .i64 a0_4, .int .i64 a0_5]) (t := 23) ?hr ?_; (case hd => rfl); (case hg => rfl); (case hr => first | (go_simp; done) | (go_simp; rfl)); intro gb205 hg w4 hbox hb; have n0_ := Aside0.mk (below_step (by repeat (first | (with_reducible first | exact HB.out | apply below_alloc | apply pw_below_drewN | apply below_drew1) | exact HB.out)) hb); have n1_ := Aside0.mk (hbox); have n2_ := Aside0.mk ((by rw [hg]; exact (below_size (by repeat (first | (with_reducible first | exact HB.out | apply below_alloc | apply pw_below_drewN | apply below_drew1) | exact HB.out))) : w.heap.size ≤ gb205)); have n3_ := Aside0.mk ((by rw [hg]; exact (below_size (by repeat (first | (with_reducible first | exact HB.out | apply below_alloc | apply pw_below_drewN | apply below_drew1) | exact HB.out))) : w.heap.size ≤ gb205)); clear HB; have HB := n0_; have BK205 := n1_; have GW205 := n2_; have GE205 := n3_; clear n0_ n1_ n2_ n3_; clear hb hbox hg; have hcz5_0 : w4.cell? ⟨gb205, 0, none⟩ = some (.int .i64 a0_0) := (blk_cell BK205.out 0).trans rfl; have hcz5_1 : w4.cell? ⟨gb205, 1, none⟩ = some (.int .i64 a0_1) := (blk_cell BK205.out 1).trans rfl; have hcz5_2 : w4.cell? ⟨gb205, 2, none⟩ = some (.int .i64 a0_2) := (blk_cell BK205.out 2).trans rfl; have hcz5_3 : w4.cell? ⟨gb205, 3, none⟩ = some (.int .i64 a0_3) := (blk_cell BK205.out 3).trans rfl; have hcz5_4 : w4.cell? ⟨gb205, 4, none⟩ = some (.int .i64 a0_4) := (blk_cell BK205.out 4).trans rfl; have hcz5_5 : w4.cell? ⟨gb205, 5, none⟩ = some (.int .i64 a0_5) := (blk_cell BK205.out 5).trans rfl; have hfz5_0 := blk_frozen BK205.out 0; have hfz5_1 := blk_frozen BK205.out 1; have hfz5_2 := blk_frozen BK205.out 2; have hfz5_3 := blk_frozen BK205.out 3; have hfz5_4 := blk_frozen BK205.out 4; have hfz5_5 := blk_frozen BK205.out 5))
    go_ret
    exact ⟨by first | rfl | (simp [errW_none, errW_some] <;> rfl) | (simp [*, errW_none, errW_some] <;> rfl), by repeat (first | (with_reducible first | exact HB.out | apply below_alloc | apply pw_below_drewN | apply below_drew1 | refine below_set ?_ GE205.out) | exact HB.out)⟩
  · rw [if_neg c3] at H
    have c3b0 : decide ((IntKind.u64.wrap (a0_0)) < a1) = false := decide_eq_false c3
    clear c3
    obtain rfl := Option.some.inj H
    go_enter Try.func76, Try.ntmps76
    go_wp2_with (first | ((with_reducible refine gate_dst (N := 2) rfl ?_); refine box_event ?hg (N := 2) ?hd (cs := #[.int .i64 a0_0, .int .i64 a0_1, .int .i64 a0_2, .int .i64 a0_3, .int .i64 a0_4, .int .i64 a0_5]) (t := 23) ?hr ?_; (case hd => rfl); (case hg => rfl); (case hr => first | (go_simp; done) | (go_simp; rfl)); intro gb205 hg w6 hbox hb; have n0_ := Aside0.mk (below_step (by repeat (first | (with_reducible first | exact HB.out | apply below_alloc | apply pw_below_drewN | apply below_drew1) | exact HB.out)) hb); have n1_ := Aside0.mk (hbox); have n2_ := Aside0.mk ((by rw [hg]; exact (below_size (by repeat (first | (with_reducible first | exact HB.out | apply below_alloc | apply pw_below_drewN | apply below_drew1) | exact HB.out))) : w.heap.size ≤ gb205)); have n3_ := Aside0.mk ((by rw [hg]; exact (below_size (by repeat (first | (with_reducible first | exact HB.out | apply below_alloc | apply pw_below_drewN | apply below_drew1) | exact HB.out))) : w.heap.size ≤ gb205)); clear HB; have HB := n0_; have BK205 := n1_; have GW205 := n2_; have GE205 := n3_; clear n0_ n1_ n2_ n3_; clear hb hbox hg; have hcz7_0 : w6.cell? ⟨gb205, 0, none⟩ = some (.int .i64 a0_0) := (blk_cell BK205.out 0).trans rfl; have hcz7_1 : w6.cell? ⟨gb205, 1, none⟩ = some (.int .i64 a0_1) := (blk_cell BK205.out 1).trans rfl; have hcz7_2 : w6.cell? ⟨gb205, 2, none⟩ = some (.int .i64 a0_2) := (blk_cell BK205.out 2).trans rfl; have hcz7_3 : w6.cell? ⟨gb205, 3, none⟩ = some (.int .i64 a0_3) := (blk_cell BK205.out 3).trans rfl; have hcz7_4 : w6.cell? ⟨gb205, 4, none⟩ = some (.int .i64 a0_4) := (blk_cell BK205.out 4).trans rfl; have hcz7_5 : w6.cell? ⟨gb205, 5, none⟩ = some (.int .i64 a0_5) := (blk_cell BK205.out 5).trans rfl; have hfz7_0 := blk_frozen BK205.out 0; have hfz7_1 := blk_frozen BK205.out 1; have hfz7_2 := blk_frozen BK205.out 2; have hfz7_3 := blk_frozen BK205.out 3; have hfz7_4 := blk_frozen BK205.out 4; have hfz7_5 := blk_frozen BK205.out 5))
    go_ret
    exact ⟨by first | rfl | (simp [errW_none, errW_some] <;> rfl) | (simp [*, errW_none, errW_some] <;> rfl), by repeat (first | (with_reducible first | exact HB.out | apply below_alloc | apply pw_below_drewN | apply below_drew1 | refine below_set ?_ GE205.out) | exact HB.out)⟩
def tag_Moved.f (k : Nat) (a0 : Int) (a1 : Int) : Option (Int) := (tag_slots.f a1).bind fun t206 => (if t206 = true then ((tag_TopParts.f a0).bind fun bt207 => ((tag_Top.f k (Go.bits .and .u64 (IntKind.u64.wrap (bt207.1 + 1)) 281474976710655) a1).bind fun bt209 => (some bt209.1))) else ((tag_TopParts.f a0).bind fun bt211 => ((tag_Top.f k (Go.bits .and .u64 (IntKind.u64.wrap (bt211.1 + 1)) 281474976710655) (-1)).bind fun bt213 => (some bt213.1))))
set_option maxHeartbeats 8000000 in
set_option maxRecDepth 100000 in
theorem tag_Moved.calls (k : Nat) (a0 : Int) (a1 : Int) (r : Int) (w : World) (h : tag_Moved.f k a0 a1 = some r) :
    Calls Try.prog 83 #[.int .u64 a0, .int .i64 a1] w fun e w' => e = .returned (.int .u64 r) ∧ Below w.heap.size w w' := by
  have HB := Aside0.mk (Below.refl w.heap.size w)
  have H : ((tag_slots.f a1).bind fun t206 => (if t206 = true then ((tag_TopParts.f a0).bind fun bt207 => ((tag_Top.f k (Go.bits .and .u64 (IntKind.u64.wrap (bt207.1 + 1)) 281474976710655) a1).bind fun bt209 => (some bt209.1))) else ((tag_TopParts.f a0).bind fun bt211 => ((tag_Top.f k (Go.bits .and .u64 (IntKind.u64.wrap (bt211.1 + 1)) 281474976710655) (-1)).bind fun bt213 => (some bt213.1))))) = some r := h
  clear h
  replace H := Option.bind_eq_some_iff.mp H
  obtain ⟨t206, A30, H⟩ := H
  replace H : (if t206 = true then ((tag_TopParts.f a0).bind fun bt207 => ((tag_Top.f k (Go.bits .and .u64 (IntKind.u64.wrap (bt207.1 + 1)) 281474976710655) a1).bind fun bt209 => (some bt209.1))) else ((tag_TopParts.f a0).bind fun bt211 => ((tag_Top.f k (Go.bits .and .u64 (IntKind.u64.wrap (bt211.1 + 1)) 281474976710655) (-1)).bind fun bt213 => (some bt213.1)))) = some r := H
  have A3 := Aside0.mk A30
  clear A30
  by_cases c4 : t206 = true
  · subst c4
    have H1 : ((tag_TopParts.f a0).bind fun bt207 => ((tag_Top.f k (Go.bits .and .u64 (IntKind.u64.wrap (bt207.1 + 1)) 281474976710655) a1).bind fun bt209 => (some bt209.1))) = some r := by rw [if_pos rfl] at H; exact H
    clear H
    have H := H1
    clear H1
    replace H := Option.bind_eq_some_iff.mp H
    obtain ⟨⟨t207, t208⟩, A50, H⟩ := H
    replace H : ((tag_Top.f k (Go.bits .and .u64 (IntKind.u64.wrap (t207 + 1)) 281474976710655) a1).bind fun bt209 => (some bt209.1)) = some r := H
    have A5 := Aside0.mk A50
    clear A50
    replace H := Option.bind_eq_some_iff.mp H
    obtain ⟨⟨t209, t210⟩, A60, H⟩ := H
    replace H : (some t209) = some r := H
    have A6 := Aside0.mk A60
    clear A60
    obtain rfl := Option.some.inj H
    go_enter Try.func83, Try.ntmps83
    go_wp2_with (first | ((with_reducible refine gate_callee (f := 98) rfl ?_); refine goesL_ (some 10) rfl rfl Try.func98 (by kernel_rfl) rfl #[.int .i64 a1] rfl (by (try simp only [List.map_toArray, List.map_cons, List.map_nil]); first | done | rfl | (simp only [List.length_drop, List.length_take]; rfl)) ?_; (with_reducible refine (tag_slots.calls a1 true _ A3.out).mono ?_); rintro e w' ⟨rfl, ⟨nd, rfl⟩⟩; refine ⟨_, rfl, ?_⟩) | ((with_reducible refine gate_callee (f := 96) rfl ?_); refine goesL_ (some 14) rfl rfl Try.func96 (by kernel_rfl) rfl #[.int .u64 a0] rfl (by (try simp only [List.map_toArray, List.map_cons, List.map_nil]); first | done | rfl | (simp only [List.length_drop, List.length_take]; rfl)) ?_; (with_reducible refine (tag_TopParts.calls a0 t207 t208 _ A5.out).mono ?_); rintro e w' ⟨rfl, ⟨nd, rfl⟩⟩; refine ⟨_, rfl, ?_⟩) | ((with_reducible refine gate_callee (f := 68) rfl ?_); refine goesL_ (some 22) rfl rfl Try.func68 (by kernel_rfl) rfl #[.int .u64 (Go.bits .and .u64 (IntKind.u64.wrap (t207 + 1)) 281474976710655), .int .i64 a1] rfl (by (try simp only [List.map_toArray, List.map_cons, List.map_nil]); first | done | rfl | (simp only [List.length_drop, List.length_take]; rfl)) ?_; (with_reducible refine (tag_Top.calls k (Go.bits .and .u64 (IntKind.u64.wrap (t207 + 1)) 281474976710655) a1 t209 t210 _ A6.out).mono ?_); rintro e w7 ⟨rfl, hb⟩; refine ⟨_, rfl, ?_⟩; have n0_ := Aside0.mk (below_step (by repeat (first | (with_reducible first | exact HB.out | apply below_alloc | apply pw_below_drewN | apply below_drew1) | exact HB.out)) hb); clear HB; have HB := n0_; clear n0_; (try clear hb); (try clear hb2); (try clear hk); (try clear hi)))
    go_ret
    exact ⟨by first | rfl | (simp [errW_none, errW_some] <;> rfl) | (simp [*, errW_none, errW_some] <;> rfl), by repeat (first | (with_reducible first | exact HB.out | apply below_alloc | apply pw_below_drewN | apply below_drew1) | exact HB.out)⟩
  · replace c4 := Bool.eq_false_iff.mpr c4
    subst c4
    have H1 : ((tag_TopParts.f a0).bind fun bt211 => ((tag_Top.f k (Go.bits .and .u64 (IntKind.u64.wrap (bt211.1 + 1)) 281474976710655) (-1)).bind fun bt213 => (some bt213.1))) = some r := by rw [if_neg (show ¬ (false = true) by decide)] at H; exact H
    clear H
    have H := H1
    clear H1
    replace H := Option.bind_eq_some_iff.mp H
    obtain ⟨⟨t211, t212⟩, A80, H⟩ := H
    replace H : ((tag_Top.f k (Go.bits .and .u64 (IntKind.u64.wrap (t211 + 1)) 281474976710655) (-1)).bind fun bt213 => (some bt213.1)) = some r := H
    have A8 := Aside0.mk A80
    clear A80
    replace H := Option.bind_eq_some_iff.mp H
    obtain ⟨⟨t213, t214⟩, A90, H⟩ := H
    replace H : (some t213) = some r := H
    have A9 := Aside0.mk A90
    clear A90
    obtain rfl := Option.some.inj H
    go_enter Try.func83, Try.ntmps83
    go_wp2_with (first | ((with_reducible refine gate_callee (f := 98) rfl ?_); refine goesL_ (some 10) rfl rfl Try.func98 (by kernel_rfl) rfl #[.int .i64 a1] rfl (by (try simp only [List.map_toArray, List.map_cons, List.map_nil]); first | done | rfl | (simp only [List.length_drop, List.length_take]; rfl)) ?_; (with_reducible refine (tag_slots.calls a1 false _ A3.out).mono ?_); rintro e w' ⟨rfl, ⟨nd, rfl⟩⟩; refine ⟨_, rfl, ?_⟩) | ((with_reducible refine gate_callee (f := 96) rfl ?_); refine goesL_ (some 14) rfl rfl Try.func96 (by kernel_rfl) rfl #[.int .u64 a0] rfl (by (try simp only [List.map_toArray, List.map_cons, List.map_nil]); first | done | rfl | (simp only [List.length_drop, List.length_take]; rfl)) ?_; (with_reducible refine (tag_TopParts.calls a0 t211 t212 _ A8.out).mono ?_); rintro e w' ⟨rfl, ⟨nd, rfl⟩⟩; refine ⟨_, rfl, ?_⟩) | ((with_reducible refine gate_callee (f := 68) rfl ?_); refine goesL_ (some 22) rfl rfl Try.func68 (by kernel_rfl) rfl #[.int .u64 (Go.bits .and .u64 (IntKind.u64.wrap (t211 + 1)) 281474976710655), .int .i64 (-1)] rfl (by (try simp only [List.map_toArray, List.map_cons, List.map_nil]); first | done | rfl | (simp only [List.length_drop, List.length_take]; rfl)) ?_; (with_reducible refine (tag_Top.calls k (Go.bits .and .u64 (IntKind.u64.wrap (t211 + 1)) 281474976710655) (-1) t213 t214 _ A9.out).mono ?_); rintro e w10 ⟨rfl, hb⟩; refine ⟨_, rfl, ?_⟩; have n0_ := Aside0.mk (below_step (by repeat (first | (with_reducible first | exact HB.out | apply below_alloc | apply pw_below_drewN | apply below_drew1) | exact HB.out)) hb); clear HB; have HB := n0_; clear n0_; (try clear hb); (try clear hb2); (try clear hk); (try clear hi)))
    go_ret
    exact ⟨by first | rfl | (simp [errW_none, errW_some] <;> rfl) | (simp [*, errW_none, errW_some] <;> rfl), by repeat (first | (with_reducible first | exact HB.out | apply below_alloc | apply pw_below_drewN | apply below_drew1) | exact HB.out)⟩
def plan_Header.f (k : Nat) (a0_0 : Int) (a0_1 : Int) (a0_2 : Int) (a0_3 : Int) (a0_4 : Int) (a0_5 : Int) (a1 : Int) : Option (Int) := (plan_within.f k a0_0 a0_1 a0_2 a0_3 a0_4 a0_5 a1 0).bind fun t216 => (some t216)
set_option maxHeartbeats 8000000 in
set_option maxRecDepth 100000 in
theorem plan_Header.calls (k : Nat) (a0_0 : Int) (a0_1 : Int) (a0_2 : Int) (a0_3 : Int) (a0_4 : Int) (a0_5 : Int) (a1 : Int) (r : Int) (w : World) (h : plan_Header.f k a0_0 a0_1 a0_2 a0_3 a0_4 a0_5 a1 = some r) :
    Calls Try.prog 72 #[.agg #[.int .i64 a0_0, .int .i64 a0_1, .int .i64 a0_2, .int .i64 a0_3, .int .i64 a0_4, .int .i64 a0_5], .int .i64 a1] w fun e w' => e = .returned (.int .i64 r) ∧ Below w.heap.size w w' := by
  have hu23 := Try.underlying23
  have HB := Aside0.mk (Below.refl w.heap.size w)
  have H : ((plan_within.f k a0_0 a0_1 a0_2 a0_3 a0_4 a0_5 a1 0).bind fun t216 => (some t216)) = some r := h
  clear h
  replace H := Option.bind_eq_some_iff.mp H
  obtain ⟨t216, A30, H⟩ := H
  replace H : (some t216) = some r := H
  have A3 := Aside0.mk A30
  clear A30
  obtain rfl := Option.some.inj H
  go_enter Try.func72, Try.ntmps72
  go_wp2_with (first | ((with_reducible refine gate_dst (N := 2) rfl ?_); refine box_event ?hg (N := 2) ?hd (cs := #[.int .i64 a0_0, .int .i64 a0_1, .int .i64 a0_2, .int .i64 a0_3, .int .i64 a0_4, .int .i64 a0_5]) (t := 23) ?hr ?_; (case hd => rfl); (case hg => rfl); (case hr => first | (go_simp; done) | (go_simp; rfl)); intro gb215 hg w4 hbox hb; have n0_ := Aside0.mk (below_step (by repeat (first | (with_reducible first | exact HB.out | apply below_alloc | apply pw_below_drewN | apply below_drew1) | exact HB.out)) hb); have n1_ := Aside0.mk (hbox); have n2_ := Aside0.mk ((by rw [hg]; exact (below_size (by repeat (first | (with_reducible first | exact HB.out | apply below_alloc | apply pw_below_drewN | apply below_drew1) | exact HB.out))) : w.heap.size ≤ gb215)); have n3_ := Aside0.mk ((by rw [hg]; exact (below_size (by repeat (first | (with_reducible first | exact HB.out | apply below_alloc | apply pw_below_drewN | apply below_drew1) | exact HB.out))) : w.heap.size ≤ gb215)); clear HB; have HB := n0_; have BK215 := n1_; have GW215 := n2_; have GE215 := n3_; clear n0_ n1_ n2_ n3_; clear hb hbox hg; have hcz5_0 : w4.cell? ⟨gb215, 0, none⟩ = some (.int .i64 a0_0) := (blk_cell BK215.out 0).trans rfl; have hcz5_1 : w4.cell? ⟨gb215, 1, none⟩ = some (.int .i64 a0_1) := (blk_cell BK215.out 1).trans rfl; have hcz5_2 : w4.cell? ⟨gb215, 2, none⟩ = some (.int .i64 a0_2) := (blk_cell BK215.out 2).trans rfl; have hcz5_3 : w4.cell? ⟨gb215, 3, none⟩ = some (.int .i64 a0_3) := (blk_cell BK215.out 3).trans rfl; have hcz5_4 : w4.cell? ⟨gb215, 4, none⟩ = some (.int .i64 a0_4) := (blk_cell BK215.out 4).trans rfl; have hcz5_5 : w4.cell? ⟨gb215, 5, none⟩ = some (.int .i64 a0_5) := (blk_cell BK215.out 5).trans rfl; have hfz5_0 := blk_frozen BK215.out 0; have hfz5_1 := blk_frozen BK215.out 1; have hfz5_2 := blk_frozen BK215.out 2; have hfz5_3 := blk_frozen BK215.out 3; have hfz5_4 := blk_frozen BK215.out 4; have hfz5_5 := blk_frozen BK215.out 5) | ((with_reducible refine gate_callee (f := 95) rfl ?_); refine goesL_ (some 7) rfl rfl Try.func95 (by kernel_rfl) rfl #[.agg #[.int .i64 a0_0, .int .i64 a0_1, .int .i64 a0_2, .int .i64 a0_3, .int .i64 a0_4, .int .i64 a0_5], .int .i64 a1, .int .i64 0] rfl (by (try simp only [List.map_toArray, List.map_cons, List.map_nil]); first | done | rfl | (simp only [List.length_drop, List.length_take]; rfl)) ?_; (with_reducible refine (plan_within.calls k a0_0 a0_1 a0_2 a0_3 a0_4 a0_5 a1 0 t216 _ A3.out).mono ?_); rintro e w6 ⟨rfl, hb⟩; refine ⟨_, rfl, ?_⟩; have n0_ := Aside0.mk (blk_below (g := gb215) (o := .cells #[.int .i64 a0_0, .int .i64 a0_1, .int .i64 a0_2, .int .i64 a0_3, .int .i64 a0_4, .int .i64 a0_5] 23 (0, 0)) (by (with_reducible repeat (first | refine blk_drewN ?_ _ | refine blk_drew ?_ | refine blk_alloc ?_ _)); exact BK215.out) hb); have n1_ := Aside0.mk (below_step (by repeat (first | (with_reducible first | exact HB.out | apply below_alloc | apply pw_below_drewN | apply below_drew1 | refine below_set ?_ GE215.out) | exact HB.out)) hb); clear BK215; clear HB; have BK215 := n0_; have HB := n1_; clear n0_ n1_; (try clear hb); (try clear hb2); (try clear hk); (try clear hi)))
  go_ret
  exact ⟨by first | rfl | (simp [errW_none, errW_some] <;> rfl) | (simp [*, errW_none, errW_some] <;> rfl), by repeat (first | (with_reducible first | exact HB.out | apply below_alloc | apply pw_below_drewN | apply below_drew1 | refine below_set ?_ GE215.out) | exact HB.out)⟩
def word_Unpack.l0 : Nat → Int → List Int → Int → List Int → Int → Int → Option (List Int × Bool)
  | 0, _, _, _, _, _, _ => none
  | k + 1, x0, x6, x7, x10, x11, x12 => if x12 < x11 then (if 0 ≤ x12 then (if x12 < (x10.length : Int) then ((word_some.f x7 (rd x10 x12)).bind fun t218 => (if t218 = true then ((word_Get.f x0 x7 (rd x10 x12)).bind fun t219 => (if x6.length < 17592186044416 then (word_Unpack.l0 k x0 (x6 ++ [t219]) (wrap64 (x7 + (rd x10 x12))) x10 x11 (wrap64 (x12 + 1))) else (none))) else (some (([] : List Int), false)))) else (none)) else (none)) else (some (x6, true))
def word_Unpack.f (k : Nat) (a0 : Int) (l1 : List Int) : Option (List Int × Bool) := word_Unpack.l0 k a0 ([] : List Int) 0 l1 (l1.length : Int) 0
set_option maxHeartbeats 8000000 in
set_option maxRecDepth 100000 in
theorem word_Unpack.calls (k : Nat) (a0 : Int) (A1 : Option Addr) (c1 : Nat) (l1 : List Int) (r1 : List Int) (r2 : Bool) (w : World) (hr1 : Kd.C (Kd.int .i64) w A1 l1.length l1) (hc1 : l1.length ≤ c1) (h : word_Unpack.f k a0 l1 = some (r1, r2)) :
    Calls Try.prog 99 #[.int .u64 a0, .slice A1 l1.length c1] w fun e w' => ∃ v0_ : Value, e = .returned (.tuple #[v0_, .bool r2]) ∧ Kd.R (Kd.int .u64) 33 w' w.heap.size (fun _ => True) v0_ r1 ∧ Below w.heap.size w w' := by
  have HR1 := Aside0.mk hr1
  have HC1 := Aside0.mk hc1
  clear hr1 hc1
  have HB := Aside0.mk (Below.refl w.heap.size w)
  have H : (word_Unpack.l0 k a0 ([] : List Int) 0 l1 (l1.length : Int) 0) = some (r1, r2) := h
  clear h
  have H' := Aside0.mk H
  clear H
  go_enter Try.func99, Try.ntmps99
  go_wp2
  go_loopg [6, 7, 12] k (fun kq v6 v7 v12 w' => ∃ (x6_1 : List Int) (x7_1 : Int) (x12_1 : Int), v7 = .int .i64 x7_1 ∧ v12 = .int .i64 x12_1 ∧ Aside0 (word_Unpack.l0 kq a0 x6_1 x7_1 l1 (l1.length : Int) x12_1 = some (r1, r2)) ∧ Aside0 (kq ≤ k) ∧ Aside0 (Kd.R (Kd.int .u64) 33 w' w.heap.size (fun _ => True) v6 x6_1) ∧ Aside0 (Below w.heap.size w w'))
  case atStart => exact ⟨(([] : List Int)), (0), (0), (by first | rfl | (simp; done) | (simp [*]; done)), (by first | rfl | (simp; done) | (simp [*]; done)), H', ⟨Nat.le_refl _⟩, ⟨by first | exact Kd.R_nil _ _ _ _ _ | exact Kd.N_nil _ _ _ _ _ | exact Kd.V_nil _ _ _ _ _ | exact Kd.Q_nil _ _ _ _ _ | exact Kd.S_nil _ _ _ _ _⟩, ⟨by repeat (first | (with_reducible first | exact HB.out | apply below_alloc | apply pw_below_drewN | apply below_drew1) | exact HB.out)⟩⟩
  case round =>
    clear H'
    try clear c1
    try clear p2
    obtain ⟨x6_1, x7_1, x12_1, rfl, rfl, HA, HK1, HO_6, HB⟩ := hrel
    cases gk with
    | zero => exact absurd HA.out (by simp [word_Unpack.l0])
    | succ k1 =>
      have H := HA.out
      clear HA
      simp only [word_Unpack.l0] at H
      by_cases c3 : x12_1 < (l1.length : Int)
      · rw [if_pos c3] at H
        have c3b0 : decide (x12_1 < (l1.length : Int)) = true := decide_eq_true c3
        clear c3
        by_cases c4 : 0 ≤ x12_1
        · rw [if_pos c4] at H
          have c4b0 : decide (0 ≤ x12_1) = true := decide_eq_true c4
          clear c4
          by_cases c5 : x12_1 < (l1.length : Int)
          · rw [if_pos c5] at H
            have c5b0 : decide (x12_1 < (l1.length : Int)) = true := decide_eq_true c5
            clear c5
            replace H := Option.bind_eq_some_iff.mp H
            obtain ⟨t218, A60, H⟩ := H
            replace H : (if t218 = true then ((word_Get.f a0 x7_1 (rd l1 x12_1)).bind fun t219 => (if x6_1.length < 17592186044416 then (word_Unpack.l0 k1 a0 (x6_1 ++ [t219]) (wrap64 (x7_1 + (rd l1 x12_1))) l1 (l1.length : Int) (wrap64 (x12_1 + 1))) else (none))) else (some (([] : List Int), false))) = some (r1, r2) := H
            have A6 := Aside0.mk A60
            clear A60
            by_cases c7 : t218 = true
            · subst c7
              have H1 : ((word_Get.f a0 x7_1 (rd l1 x12_1)).bind fun t219 => (if x6_1.length < 17592186044416 then (word_Unpack.l0 k1 a0 (x6_1 ++ [t219]) (wrap64 (x7_1 + (rd l1 x12_1))) l1 (l1.length : Int) (wrap64 (x12_1 + 1))) else (none))) = some (r1, r2) := by rw [if_pos rfl] at H; exact H
              clear H
              have H := H1
              clear H1
              replace H := Option.bind_eq_some_iff.mp H
              obtain ⟨t219, A80, H⟩ := H
              replace H : (if x6_1.length < 17592186044416 then (word_Unpack.l0 k1 a0 (x6_1 ++ [t219]) (wrap64 (x7_1 + (rd l1 x12_1))) l1 (l1.length : Int) (wrap64 (x12_1 + 1))) else (none)) = some (r1, r2) := H
              have A8 := Aside0.mk A80
              clear A80
              by_cases c9 : x6_1.length < 17592186044416
              · rw [if_pos c9] at H
                have LMc9 := Aside0.mk c9
                clear c9
                obtain ⟨y220, hy220⟩ : ∃ y_ : List Int, y_ = (x6_1 ++ [t219]) := ⟨_, rfl⟩
                replace H : (word_Unpack.l0 k1 a0 y220 (wrap64 (x7_1 + (rd l1 x12_1))) l1 (l1.length : Int) (wrap64 (x12_1 + 1))) = some (r1, r2) := by first | (rw [hy220]; with_reducible exact H) | (have H2_ := (Option.bind_some _ _).symm.trans H; rw [hy220]; with_reducible exact H2_) | (have H2_ := (Option.bind_some _ _).symm.trans H; with_reducible exact H2_) | with_reducible exact H | (rw [hy220]; exact H) | exact H
                have Ny220 := Aside0.mk hy220
                clear hy220
                have H' := Aside0.mk H
                clear H
                have p217 : 0 ≤ (x12_1 : Int) := of_decide_eq_true (by first | (with_reducible assumption) | assumption)
                have q217 : x12_1 < (l1.length : Int) := of_decide_eq_true (by first | (with_reducible assumption) | assumption)
                obtain ⟨ad217, e217, hx217_0⟩ := Kd.at_int HR1.out x12_1 p217 q217
                cases e217
                replace hx217_0 := (HB.out.cell (World.block_lt_of_cell? w _ hx217_0)).trans hx217_0
                replace p217 := eq_true p217
                replace q217 := eq_true q217
                go_wp2_with (first | ((with_reducible refine gate_callee (f := 105) rfl ?_); refine goesL_ (some 18) rfl rfl Try.func105 (by kernel_rfl) rfl #[.int .i64 x7_1, .int .i64 (rd l1 x12_1)] rfl (by (try simp only [List.map_toArray, List.map_cons, List.map_nil]); first | done | rfl | (simp only [List.length_drop, List.length_take]; rfl)) ?_; (with_reducible refine (word_some.calls x7_1 (rd l1 x12_1) true _ A6.out).mono ?_); rintro e w' ⟨rfl, ⟨nd, rfl⟩⟩; refine ⟨_, rfl, ?_⟩) | ((with_reducible refine gate_callee (f := 104) rfl ?_); refine goesL_ (some 24) rfl rfl Try.func104 (by kernel_rfl) rfl #[.int .u64 a0, .int .i64 x7_1, .int .i64 (rd l1 x12_1)] rfl (by (try simp only [List.map_toArray, List.map_cons, List.map_nil]); first | done | rfl | (simp only [List.length_drop, List.length_take]; rfl)) ?_; (with_reducible refine (word_Get.calls a0 x7_1 (rd l1 x12_1) t219 _ A8.out).mono ?_); rintro e w' ⟨rfl, ⟨nd, rfl⟩⟩; refine ⟨_, rfl, ?_⟩) | ((with_reducible refine gate_builtin (b := .append) (xs := #[.tmp 20, .tmp 25]) rfl ?_); at_builtin; refine Kd.R_append (Kd.int .u64) (w0 := w) w.heap.size rfl (.tmp 20) (.tmp 25) 29 33 (.int .u64 0) 8 rfl Try.underlying29 info33 rfl (by decide) (by omega) u6 x6_1 t219 [.int .u64 t219] (fun _ => True) (fun _ => False) rfl rfl ?aP (fun _ hk => hk.elim) ?aF ?aO ?aB ?aS ?aL ?_; (case aP => exact rfl); (case aB => exact (by repeat (first | (with_reducible first | exact HB.out | apply below_alloc | apply pw_below_drewN | apply below_drew1) | exact HB.out))); (case aF => exact (fun _ _ => trivial)); (case aO => exact (by (with_reducible repeat (first | apply Kd.R_alloc | apply Kd.R_drewN | apply Kd.R_drew)); exact HO_6.out)); (case aS => exact (below_size (by repeat (first | (with_reducible first | exact HB.out | apply below_alloc | apply pw_below_drewN | apply below_drew1) | exact HB.out)))); (case aL => have := LMc9.out; omega); intro v221 w10 ho hb hg hat; rw [← Ny220.out] at ho; have n0_ := Aside0.mk (hb); have n1_ := Aside0.mk (ho); clear HB; clear HO_6; have HB := n0_; have HO222 := n1_; clear n0_ n1_; clear ho hb hg hat))
                go_roundg k1
                case measure => have := HK1.out; omega
                case rel => exact ⟨(y220), (wrap64 (x7_1 + (rd l1 x12_1))), (wrap64 (x12_1 + 1)), (by first | rfl | (simp; done) | (simp [*]; done)), (by first | rfl | (simp; done) | (simp [*]; done)), H', ⟨by have := HK1.out; omega⟩, ⟨by (with_reducible repeat (first | apply Kd.R_alloc | apply Kd.R_drewN | apply Kd.R_drew)); exact HO222.out⟩, ⟨by repeat (first | (with_reducible first | exact HB.out | apply below_alloc | apply pw_below_drewN | apply below_drew1) | exact HB.out)⟩⟩
              · rw [if_neg c9] at H
                exact absurd H (by simp)
            · replace c7 := Bool.eq_false_iff.mpr c7
              subst c7
              have H1 : (some (([] : List Int), false)) = some (r1, r2) := by rw [if_neg (show ¬ (false = true) by decide)] at H; exact H
              clear H
              have H := H1
              clear H1
              simp only [Option.some.injEq, Prod.mk.injEq] at H
              obtain ⟨rfl, rfl⟩ := H
              have p217 : 0 ≤ (x12_1 : Int) := of_decide_eq_true (by first | (with_reducible assumption) | assumption)
              have q217 : x12_1 < (l1.length : Int) := of_decide_eq_true (by first | (with_reducible assumption) | assumption)
              obtain ⟨ad217, e217, hx217_0⟩ := Kd.at_int HR1.out x12_1 p217 q217
              cases e217
              replace hx217_0 := (HB.out.cell (World.block_lt_of_cell? w _ hx217_0)).trans hx217_0
              replace p217 := eq_true p217
              replace q217 := eq_true q217
              go_wp2_with (first | ((with_reducible refine gate_callee (f := 105) rfl ?_); refine goesL_ (some 18) rfl rfl Try.func105 (by kernel_rfl) rfl #[.int .i64 x7_1, .int .i64 (rd l1 x12_1)] rfl (by (try simp only [List.map_toArray, List.map_cons, List.map_nil]); first | done | rfl | (simp only [List.length_drop, List.length_take]; rfl)) ?_; (with_reducible refine (word_some.calls x7_1 (rd l1 x12_1) false _ A6.out).mono ?_); rintro e w' ⟨rfl, ⟨nd, rfl⟩⟩; refine ⟨_, rfl, ?_⟩))
              go_ret2
              exact ⟨_, by first | rfl | (simp [errW_none, errW_some] <;> rfl) | (simp [*, errW_none, errW_some] <;> rfl), by first | exact Kd.R_nil _ _ _ _ _ | exact Kd.N_nil _ _ _ _ _ | exact Kd.V_nil _ _ _ _ _ | exact Kd.Q_nil _ _ _ _ _ | exact Kd.S_nil _ _ _ _ _, by repeat (first | (with_reducible first | exact HB.out | apply below_alloc | apply pw_below_drewN | apply below_drew1) | exact HB.out)⟩
          · rw [if_neg c5] at H
            exact absurd H (by simp)
        · rw [if_neg c4] at H
          exact absurd H (by simp)
      · rw [if_neg c3] at H
        have c3b0 : decide (x12_1 < (l1.length : Int)) = false := decide_eq_false c3
        clear c3
        simp only [Option.some.injEq, Prod.mk.injEq] at H
        obtain ⟨rfl, rfl⟩ := H
        go_wp2
        go_ret2
        exact ⟨_, by first | rfl | (simp [errW_none, errW_some] <;> rfl) | (simp [*, errW_none, errW_some] <;> rfl), by (with_reducible repeat (first | apply Kd.R_alloc | apply Kd.R_drewN | apply Kd.R_drew)); exact HO_6.out, by repeat (first | (with_reducible first | exact HB.out | apply below_alloc | apply pw_below_drewN | apply below_drew1) | exact HB.out)⟩
end Go.Proofs.Ytijfkpoofpcacaa.PArenaPlays
end
section
namespace Go.Proofs.Ytijfkpoofpcacaa.PvArenaPlays
open Go.RowKit Go.Proofs.Ytijfkpoofpcacaa.PArenaPlays Go.Proofs.YtijfkpoofpcacaaW.PrintWords Go.Proofs.YtijfkpoofpcacaaW.PrintLast Go.Proofs.Ytijfkpoofpcacaa.Core Go.Proofs.Ytijfkpoofpcacaa.PuArenaPlays
theorem p_pBody (k : Nat) (S A C H G K s i : Int) (hk : 1 ≤ k) : plan_Body.f k S A C H G K s i = some (if rightB S A C H G K = true ∧ 0 ≤ s ∧ s < S ∧ 0 ≤ i ∧ 2 + i < roomV A then slotsV C H + s * roomV A + (2 + i) else -1) := by
  unfold plan_Body.f
  have r : A ≤ 8 → roomV A ≤ 10 := by intro h; unfold roomV; split <;> omega
  by_cases h1 : i < 0
  · rw [if_pos h1, if_neg (by omega)]
  · rw [if_neg h1]
    by_cases h2 : i > 8
    · rw [if_pos h2, if_neg (by
        intro c
        have := right_iff.1 c.1
        have := r (by omega)
        omega)]
    · rw [if_neg h2, wrap64_id _ (by omega) (by omega), p_pWithin k S A C H G K s (2 + i) hk, Option.bind_some]
      by_cases h : rightB S A C H G K = true ∧ 0 ≤ s ∧ s < S ∧ 0 ≤ i ∧ 2 + i < roomV A
      · rw [if_pos h, if_pos ⟨h.1, h.2.1, h.2.2.1, by omega, h.2.2.2.2⟩]
      · rw [if_neg h, if_neg (fun c => h ⟨c.1, c.2.1, c.2.2.1, by omega, c.2.2.2.2⟩)]
theorem p_mask (n : Nat) (h : n ≤ 64) : word_mask.f (n : Int) = some ((2 ^ n - 1 : Nat) : Int) := by
  unfold word_mask.f shl
  rw [if_pos (by omega), Int.toNat_natCast, show IntKind.bits .u64 = 64 from rfl, Nat.min_eq_left h]
  have h1 := Nat.pow_le_pow_right (show 0 < 2 by decide) h
  rw [p64] at h1
  have h2 : ((2 ^ n : Nat) : Int) = (2 : Int) ^ n := by simp
  have h3 := Nat.two_pow_pos n
  rw [wrap_u64, wrap_u64, ← h2]
  congr 1
  omega
theorem p_Get (w a n : Int) (h0 : 0 ≤ w) (h1 : w < 18446744073709551616) : word_Get.f w a n = some (getV w a n) := by
  unfold word_Get.f getV
  rw [p_some, Option.bind_some]
  by_cases h : okB a n = true
  · rw [if_pos h, if_pos h]
    rw [okB_iff] at h
    obtain ⟨w, rfl⟩ := Int.eq_ofNat_of_zero_le h0
    obtain ⟨a, rfl⟩ := Int.eq_ofNat_of_zero_le h.2.2.1
    obtain ⟨n, rfl⟩ := Int.eq_ofNat_of_zero_le (show 0 ≤ n by omega)
    rw [if_pos (by omega), p_mask n (by omega), Option.bind_some]
    unfold shr
    rw [Int.toNat_natCast, Int.toNat_natCast, show IntKind.bits .u64 = 64 from rfl, Nat.min_eq_left (by omega)]
    have e1 : (w : Int) / 2 ^ a = ((w / 2 ^ a : Nat) : Int) := by simp
    have e2 : (w : Int) / 2 ^ a % 2 ^ n = ((w / 2 ^ a % 2 ^ n : Nat) : Int) := by simp
    have h2 := Nat.pow_le_pow_right (show 0 < 2 by decide) (show n ≤ 64 by omega)
    have h3 : w / 2 ^ a ≤ w := Nat.div_le_self _ _
    have h4 := Nat.two_pow_pos n
    rw [p64] at h2
    rw [e2, e1, bits_and _ _ (by rw [p64]; omega) (by rw [p64]; omega), Nat.and_two_pow_sub_one_eq_mod]
  · rw [if_neg h, if_neg h]
theorem p_TopParts (w : Int) (h0 : 0 ≤ w) (h1 : w < 18446744073709551616) : tag_TopParts.f w = some (w / 65536, w % 65536 - 1) := by
  unfold tag_TopParts.f
  rw [p_Get w 16 48 h0 h1, Option.bind_some, p_Get w 0 16 h0 h1, Option.bind_some]
  simp [getV, okB]
  rw [wrap64_id (w % 65536) (by omega) (by omega), wrap64_id _ (by omega) (by omega)]
  exact ⟨by omega, rfl⟩
theorem and48 (x : Int) (h0 : 0 ≤ x) (h1 : x < 18446744073709551616) : Go.bits .and .u64 x 281474976710655 = x % 281474976710656 := by
  obtain ⟨x, rfl⟩ := Int.eq_ofNat_of_zero_le h0
  have := bits_and x 281474976710655 (by rw [p64]; omega) (by rw [p64]; omega)
  rw [show (281474976710655 : Nat) = 2 ^ 48 - 1 from rfl, Nat.and_two_pow_sub_one_eq_mod] at this
  exact this
theorem p_Moved (k : Nat) (w s : Int) (hk : 3 ≤ k) (h0 : 0 ≤ w) (h1 : w < 18446744073709551616) : tag_Moved.f k w s = some (movedV w s) := by
  unfold tag_Moved.f movedV
  rw [p_slots, Option.bind_some, p_TopParts w h0 h1]
  simp only [Option.bind_some]
  rw [wrap_u64_id _ (by omega) (by omega), and48 _ (by omega) (by omega), p_Top k _ _ hk (by omega) (by omega), p_Top k _ _ hk (by omega) (by omega)]
  simp only [Option.bind_some]
  unfold topV
  by_cases h : -1 ≤ s ∧ s < 64
  · rw [if_pos (by simpa using h), if_pos h, if_pos (by omega)]
  · rw [if_neg (by simpa using h), if_neg h, if_pos (by omega)]
theorem p_pHeader (k : Nat) (S A C H G K s : Int) (hk : 1 ≤ k) : plan_Header.f k S A C H G K s = some (if rightB S A C H G K = true ∧ 0 ≤ s ∧ s < S then slotsV C H + s * roomV A else -1) := by
  unfold plan_Header.f
  rw [p_pWithin k S A C H G K s 0 hk, Option.bind_some]
  have r : 2 ≤ roomV A := by unfold roomV; split <;> omega
  by_cases h : rightB S A C H G K = true ∧ 0 ≤ s ∧ s < S
  · rw [if_pos h, if_pos ⟨h.1, h.2.1, h.2.2, by decide, by omega⟩]; simp
  · rw [if_neg h, if_neg (fun c => h ⟨c.1, c.2.1, c.2.2.1⟩)]
def unpF (w : Int) : List Int → Int → List Int → List Int × Bool
  | [], _, acc => (acc, true)
  | n :: l, a, acc => if okB a n = true then unpF w l (a + n) (acc ++ [getV w a n]) else ([], false)
theorem p_Unpack_l (w : Int) (h0 : 0 ≤ w) (h1 : w < 18446744073709551616) (l : List Int) : ∀ (pre : List Int) (k : Nat) (a : Int) (acc : List Int), l.length < k → (pre ++ l).length < 17592186044416 → acc.length ≤ pre.length →
    word_Unpack.l0 k w acc a (pre ++ l) ((pre ++ l).length : Int) (pre.length : Int) = some (unpF w l a acc) := by
  induction l with
  | nil =>
    intro pre k a acc hk hl ha
    obtain ⟨k, rfl⟩ : ∃ m, k = m + 1 := ⟨k - 1, by omega⟩
    simp only [word_Unpack.l0]
    rw [if_neg (by simp)]; rfl
  | cons n l ih =>
    intro pre k a acc hk hl ha
    obtain ⟨k, rfl⟩ : ∃ m, k = m + 1 := ⟨k - 1, by omega⟩
    have hlen : (pre ++ n :: l).length = pre.length + 1 + l.length := by simp; omega
    have hrd : rd (pre ++ n :: l) (pre.length : Int) = n := by simp [rd]
    simp only [word_Unpack.l0]
    rw [if_pos (by omega), if_pos (by omega), if_pos (by omega), hrd, p_some, Option.bind_some]
    simp only [unpF]
    by_cases c1 : okB a n = true
    · have c1' := okB_iff.1 c1
      rw [if_pos c1, if_pos c1, p_Get w a n h0 h1, Option.bind_some, if_pos (by omega), wrap64_id _ (by omega) (by omega), wrap64_id _ (by omega) (by omega)]
      have := ih (pre ++ [n]) k (a + n) (acc ++ [getV w a n]) (by simpa using hk) (by simpa using hl) (by simp; omega)
      simp only [List.append_assoc, List.cons_append, List.nil_append, List.length_append, List.length_cons, List.length_nil] at this
      rw [← this]
      simp
    · rw [if_neg c1, if_neg c1]
theorem p_Unpack (k : Nat) (w : Int) (l : List Int) (hk : l.length < k) (hl : l.length < 17592186044416) (h0 : 0 ≤ w) (h1 : w < 18446744073709551616) : word_Unpack.f k w l = some (unpF w l 0 []) :=
  p_Unpack_l w h0 h1 l [] k 0 [] hk hl (by decide)
end Go.Proofs.Ytijfkpoofpcacaa.PvArenaPlays
end
section
namespace Go.Proofs.Ytijfkpoofpcacaa.PlanD
open Go.RowKit Go.Proofs.Ytijfkpoofpcacaa.PArenaPlays Go.Proofs.YtijfkpoofpcacaaW.PrintWords Go.Proofs.Ytijfkpoofpcacaa.Blk Go.Proofs.Ytijfkpoofpcacaa.Core Go.Proofs.Ytijfkpoofpcacaa.PuArenaPlays Go.Proofs.Ytijfkpoofpcacaa.PvArenaPlays Go.Proofs.Ytijfkpoofpcacaa.MemC Go.Proofs.Ytijfkpoofpcacaa.MemT Go.Proofs.Ytijfkpoofpcacaa.PlanC
structure Cf where
  S : Int
  A : Int
  C : Int
  H : Int
  G : Int
  K : Int
def Cf.right (c : Cf) : Bool := rightB c.S c.A c.C c.H c.G c.K
def Cf.link (c : Cf) (s : Int) : Int := if c.right = true ∧ 0 ≤ s ∧ s < c.S then slotsV c.C c.H + s * roomV c.A + 1 else -1
def Cf.header (c : Cf) (s : Int) : Int := if c.right = true ∧ 0 ≤ s ∧ s < c.S then slotsV c.C c.H + s * roomV c.A else -1
def Cf.body (c : Cf) (s i : Int) : Int := if c.right = true ∧ 0 ≤ s ∧ s < c.S ∧ 0 ≤ i ∧ 2 + i < roomV c.A then slotsV c.C c.H + s * roomV c.A + (2 + i) else -1
def Cf.size (c : Cf) : Int := sizeV c.S c.A c.C c.H
def firstI (S x : Int) : Int := if S ≤ x % 65536 - 1 then -1 else x % 65536 - 1
def linkedI (S x : Int) : Int := if S < x then -1 else x - 1
section
variable (c : Cf) (w : World)
theorem rightC : Calls Try.prog 66 #[.agg #[.int .i64 c.S, .int .i64 c.A, .int .i64 c.C, .int .i64 c.H, .int .i64 c.G, .int .i64 c.K]] w fun e w' => e = .returned (.bool c.right) ∧ Below w.heap.size w w' := right_c _ _ _ _ _ _ w
theorem linkC (s : Int) : Calls Try.prog 69 #[.agg #[.int .i64 c.S, .int .i64 c.A, .int .i64 c.C, .int .i64 c.H, .int .i64 c.G, .int .i64 c.K], .int .i64 s] w fun e w' => e = .returned (.int .i64 (c.link s)) ∧ Below w.heap.size w w' :=
  plan_Link.calls 1 _ _ _ _ _ _ s _ w (p_pLink 1 c.S c.A c.C c.H c.G c.K s (by decide))
theorem headerC (s : Int) : Calls Try.prog 72 #[.agg #[.int .i64 c.S, .int .i64 c.A, .int .i64 c.C, .int .i64 c.H, .int .i64 c.G, .int .i64 c.K], .int .i64 s] w fun e w' => e = .returned (.int .i64 (c.header s)) ∧ Below w.heap.size w w' :=
  plan_Header.calls 1 _ _ _ _ _ _ s _ w (p_pHeader 1 c.S c.A c.C c.H c.G c.K s (by decide))
theorem bodyC (s i : Int) : Calls Try.prog 85 #[.agg #[.int .i64 c.S, .int .i64 c.A, .int .i64 c.C, .int .i64 c.H, .int .i64 c.G, .int .i64 c.K], .int .i64 s, .int .i64 i] w fun e w' => e = .returned (.int .i64 (c.body s i)) ∧ Below w.heap.size w w' :=
  plan_Body.calls 1 _ _ _ _ _ _ s i _ w (p_pBody 1 c.S c.A c.C c.H c.G c.K s i (by decide))
theorem firstC (x : Int) (x0 : 0 ≤ x) (x1 : x < 18446744073709551616) : Calls Try.prog 75 #[.agg #[.int .i64 c.S, .int .i64 c.A, .int .i64 c.C, .int .i64 c.H, .int .i64 c.G, .int .i64 c.K], .int .u64 x] w fun e w' => e = .returned (.int .i64 (firstI c.S x)) ∧ Below w.heap.size w w' :=
  stack_first.calls _ _ _ _ _ _ x _ w (by
    unfold stack_first.f firstI
    rw [p_TopParts x x0 x1, Option.bind_some]
    show (if x % 65536 - 1 ≥ c.S then some (-1) else some (x % 65536 - 1)) = _
    by_cases h : c.S ≤ x % 65536 - 1
    · rw [if_pos h, if_pos h]
    · rw [if_neg h, if_neg h])
theorem linkedC (h : c.right = true) (x : Int) (x0 : 0 ≤ x) (x1 : x < 18446744073709551616) : Calls Try.prog 76 #[.agg #[.int .i64 c.S, .int .i64 c.A, .int .i64 c.C, .int .i64 c.H, .int .i64 c.G, .int .i64 c.K], .int .u64 x] w fun e w' => e = .returned (.int .i64 (linkedI c.S x)) ∧ Below w.heap.size w w' :=
  stack_linked.calls _ _ _ _ _ _ x _ w (by
    have hr := right_iff.1 h
    unfold stack_linked.f linkedI
    rw [wrap_u64_id c.S (by omega) (by omega)]
    by_cases h : c.S < x
    · rw [if_pos h, if_pos h]
    · rw [if_neg h, if_neg h, wrap64_id x (by omega) (by omega), wrap64_id _ (by omega) (by omega)])
theorem movedC (x s : Int) (x0 : 0 ≤ x) (x1 : x < 18446744073709551616) : Calls Try.prog 83 #[.int .u64 x, .int .i64 s] w fun e w' => e = .returned (.int .u64 (movedV x s)) ∧ Below w.heap.size w w' :=
  tag_Moved.calls 5 x s _ w (p_Moved 5 x s (by decide) x0 x1)
end
theorem movedV_bd (x s : Int) (x0 : 0 ≤ x) : 0 ≤ movedV x s ∧ movedV x s < 18446744073709551616 := by
  unfold movedV
  split <;> omega
theorem firstI_bd (S x : Int) : -1 ≤ firstI S x ∧ (0 ≤ S → firstI S x < S) := by
  unfold firstI
  split <;> omega
def Cf.small (c : Cf) : Prop := (1 ≤ c.S ∧ c.S ≤ 12) ∧ (0 ≤ c.A ∧ c.A ≤ 4) ∧ (1 ≤ c.C ∧ c.C ≤ 4) ∧ (1 ≤ c.H ∧ c.H ≤ 4) ∧ (1 ≤ c.G ∧ c.G ≤ 40) ∧ (0 ≤ c.K ∧ c.K ≤ 6)
theorem small_right {c : Cf} (h : c.small) : c.right = true := by
  unfold Cf.small at h
  unfold Cf.right
  rw [right_iff]; omega
theorem fit_f (a lo hi : Int) (h0 : 0 ≤ lo) (h1 : lo ≤ hi) (h2 : hi ≤ 100) : ∃ v, withyref06_fit.f a lo hi = some v ∧ lo ≤ v ∧ v ≤ hi := by
  unfold withyref06_fit.f
  have e1 : wrap64 (hi - lo) = hi - lo := wrap64_id _ (by omega) (by omega)
  have e2 : wrap64 (hi - lo + 1) = hi - lo + 1 := wrap64_id _ (by omega) (by omega)
  have e3 : IntKind.u64.wrap (hi - lo + 1) = hi - lo + 1 := wrap_u64_id _ (by omega) (by omega)
  have e4 : 0 ≤ IntKind.u64.wrap a := by rw [Core.wrap_u64]; omega
  rw [e1, e2, e3, if_neg (by omega), Int.tmod_eq_emod_of_nonneg e4]
  have h3 := Int.emod_nonneg (IntKind.u64.wrap a) (show hi - lo + 1 ≠ 0 by omega)
  have h4 := Int.emod_lt_of_pos (IntKind.u64.wrap a) (show 0 < hi - lo + 1 by omega)
  generalize IntKind.u64.wrap a % (hi - lo + 1) = r at *
  rw [wrap64_id r (by omega) (by omega), wrap64_id _ (by omega) (by omega)]
  exact ⟨_, rfl, by omega, by omega⟩
theorem fitC (a : Cf) (w : World) : Calls Try.prog 31 #[.agg #[.int .i64 a.S, .int .i64 a.A, .int .i64 a.C, .int .i64 a.H, .int .i64 a.G, .int .i64 a.K]] w fun e w' => ∃ c : Cf, e = .returned (.agg #[.int .i64 c.S, .int .i64 c.A, .int .i64 c.C, .int .i64 c.H, .int .i64 c.G, .int .i64 c.K]) ∧ c.small ∧ Below w.heap.size w w' := by
  obtain ⟨v0, e0, h0⟩ := fit_f a.S 1 12 (by omega) (by omega) (by omega)
  obtain ⟨v1, e1, h1⟩ := fit_f a.A 0 4 (by omega) (by omega) (by omega)
  obtain ⟨v2, e2, h2⟩ := fit_f a.C 1 4 (by omega) (by omega) (by omega)
  obtain ⟨v3, e3, h3⟩ := fit_f a.H 1 4 (by omega) (by omega) (by omega)
  obtain ⟨v4, e4, h4⟩ := fit_f a.G 1 40 (by omega) (by omega) (by omega)
  obtain ⟨v5, e5, h5⟩ := fit_f a.K 0 6 (by omega) (by omega) (by omega)
  refine (withyref06_Fit.calls a.S a.A a.C a.H a.G a.K v0 v1 v2 v3 v4 v5 w (by unfold withyref06_Fit.f; simp [e0, e1, e2, e3, e4, e5])).mono ?_
  rintro e w' ⟨rfl, hb⟩
  exact ⟨⟨v0, v1, v2, v3, v4, v5⟩, rfl, ⟨h0, h1, h2, h3, h4, h5⟩, hb⟩
end Go.Proofs.Ytijfkpoofpcacaa.PlanD
end
