/-
  What the law ArenaAlone needs of the seat's texts (PArenaPlaysx7, PwArenaPlays, HeadP, HeadC, HeadD, ArenaC, ArenaM, ArenaN, ArenaP, StackT, StackF, StackP, StackQ, TakerL, ArenaL): the words and functions that the kit's print.sh printed, and our own; no condition of its own.
-/
import Derived.Deep.RegionHeld3
import Derived.Lib.Hide
import Derived.Outline
import Derived.WalkLawsBesides
import Derived.StillTailTactics
import Derived.Laws.CopyRow
import Derived.Laws.IdiomCopy
import Derived.Lib.SlBuf
import Derived.Deep.DeepCutAuto
import Derived.Deep.CutBlock
import Derived.Deep.CutRange
import Derived.Test.YtijfkpoofpcacaaZArenaAlone1
set_option linter.unusedVariables false
set_option linter.unusedSectionVars false
set_option linter.unusedSimpArgs false
section
namespace Go.Proofs.Ytijfkpoofpcacaa.PArenaPlays
open Go.RowKit Go.Proofs.YtijfkpoofpcacaaW.PrintWords Go.Proofs.YtijfkpoofpcacaaW.PrintLast Go.Proofs.YtijfkpoofpcacaaW.PrintMore
set_option linter.unusedVariables false
set_option linter.unusedSimpArgs false
def head_Unpack.f (k : Nat) (a0 : Int) : Option (Int × Int × Bool × Int × Int × Int × Bool) := (word_Unpack.f k a0 (([3, 1, 1, 4, 7, 32, 16] : List Int))).bind fun bt227 => (if (bt227.1.length : Int) < 7 then (some (0, 0, false, 0, 0, 0, false)) else (if 0 < (bt227.1.length : Int) then (if (rd bt227.1 0) > 4 then (some (0, 0, false, 0, 0, 0, false)) else (if 4 < (bt227.1.length : Int) then (if (rd bt227.1 4) = 0 then (if 1 < (bt227.1.length : Int) then (if 2 < (bt227.1.length : Int) then (if 3 < (bt227.1.length : Int) then (if 5 < (bt227.1.length : Int) then (if 6 < (bt227.1.length : Int) then (some (wrap64 (rd bt227.1 0), wrap64 (rd bt227.1 1), ((rd bt227.1 2) == 1), wrap64 (rd bt227.1 3), wrap64 (rd bt227.1 5), wrap64 (rd bt227.1 6), true)) else (none)) else (none)) else (none)) else (none)) else (none)) else (some (0, 0, false, 0, 0, 0, false))) else (none))) else (none)))
def head_Unpack.T4 : Bool × List (List Nat × List Nat) := (true, [([], []), ([0], [0]), ([1], [1]), ([2], [2]), ([], []), ([4], [4]), ([5], [5]), ([6], [6]), ([], []), ([8], [8]), ([9], [9]), ([10], [10]), ([], []), ([12], [12]), ([13], [13]), ([14], [14]), ([], []), ([16], [16]), ([17], [17]), ([18], [18]), ([], []), ([20], [20]), ([21], [21]), ([22], [22]), ([3, 7, 11, 15, 19, 23], [3, 7, 11, 15, 19, 23]), ([24, 0, 1, 2, 3, 4, 5, 6, 7, 8, 9, 10, 11, 12, 13, 14, 15, 16, 17, 18, 19, 20, 21, 22, 23, 24], [24]), ([25, 0, 1, 2, 3, 4, 5, 6, 7, 8, 9, 10, 11, 12, 13, 14, 15, 16, 17, 18, 19, 20, 21, 22, 23, 24, 25], [])])
def head_Unpack.B4 : List Nat := [0, 1, 3, 7, 0, 16, 48, 112, 0, 256, 768, 1792, 0, 4096, 12288, 28672, 0, 65536, 196608, 458752, 0, 1048576, 3145728, 7340032, 16777215, 33554431, 67108863]
theorem head_Unpack.tab4 : rtab .any (opsOf Try.f86 4) = head_Unpack.T4 := by kernel_rfl
theorem head_Unpack.bits4 : waitsOk head_Unpack.T4.2 head_Unpack.B4 = true := by kernel_rfl
set_option maxHeartbeats 8000000 in
set_option maxRecDepth 100000 in
theorem head_Unpack.calls (k : Nat) (a0 : Int) (r1 : Int) (r2 : Int) (r3 : Bool) (r4 : Int) (r5 : Int) (r6 : Int) (r7 : Bool) (w : World) (h : head_Unpack.f k a0 = some (r1, r2, r3, r4, r5, r6, r7)) :
    Calls Try.prog 86 #[.int .u64 a0] w fun e w' => e = .returned (.tuple #[.agg #[.int .i64 r1, .int .i64 r2, .bool r3, .int .i64 r4, .int .i64 r5, .int .i64 r6], .bool r7]) ∧ Below w.heap.size w w' := by
  have hu85 := Try.underlying85
  have HB := Aside0.mk (Below.refl w.heap.size w)
  have H : ((word_Unpack.f k a0 (([3, 1, 1, 4, 7, 32, 16] : List Int))).bind fun bt227 => (if (bt227.1.length : Int) < 7 then (some (0, 0, false, 0, 0, 0, false)) else (if 0 < (bt227.1.length : Int) then (if (rd bt227.1 0) > 4 then (some (0, 0, false, 0, 0, 0, false)) else (if 4 < (bt227.1.length : Int) then (if (rd bt227.1 4) = 0 then (if 1 < (bt227.1.length : Int) then (if 2 < (bt227.1.length : Int) then (if 3 < (bt227.1.length : Int) then (if 5 < (bt227.1.length : Int) then (if 6 < (bt227.1.length : Int) then (some (wrap64 (rd bt227.1 0), wrap64 (rd bt227.1 1), ((rd bt227.1 2) == 1), wrap64 (rd bt227.1 3), wrap64 (rd bt227.1 5), wrap64 (rd bt227.1 6), true)) else (none)) else (none)) else (none)) else (none)) else (none)) else (some (0, 0, false, 0, 0, 0, false))) else (none))) else (none)))) = some (r1, r2, r3, r4, r5, r6, r7) := h
  clear h
  obtain ⟨y224, hy224⟩ : ∃ y_ : List Int, y_ = (([3, 1, 1, 4, 7, 32, 16] : List Int)) := ⟨_, rfl⟩
  replace H : ((word_Unpack.f k a0 y224).bind fun bt227 => (if (bt227.1.length : Int) < 7 then (some (0, 0, false, 0, 0, 0, false)) else (if 0 < (bt227.1.length : Int) then (if (rd bt227.1 0) > 4 then (some (0, 0, false, 0, 0, 0, false)) else (if 4 < (bt227.1.length : Int) then (if (rd bt227.1 4) = 0 then (if 1 < (bt227.1.length : Int) then (if 2 < (bt227.1.length : Int) then (if 3 < (bt227.1.length : Int) then (if 5 < (bt227.1.length : Int) then (if 6 < (bt227.1.length : Int) then (some (wrap64 (rd bt227.1 0), wrap64 (rd bt227.1 1), ((rd bt227.1 2) == 1), wrap64 (rd bt227.1 3), wrap64 (rd bt227.1 5), wrap64 (rd bt227.1 6), true)) else (none)) else (none)) else (none)) else (none)) else (none)) else (some (0, 0, false, 0, 0, 0, false))) else (none))) else (none)))) = some (r1, r2, r3, r4, r5, r6, r7) := by first | (rw [hy224]; with_reducible exact H) | (have H2_ := (Option.bind_some _ _).symm.trans H; rw [hy224]; with_reducible exact H2_) | (have H2_ := (Option.bind_some _ _).symm.trans H; with_reducible exact H2_) | with_reducible exact H | (rw [hy224]; exact H) | exact H
  have Ny224 := Aside0.mk hy224
  clear hy224
  replace H := Option.bind_eq_some_iff.mp H
  obtain ⟨⟨t227, t228⟩, A20, H⟩ := H
  replace H : (if (t227.length : Int) < 7 then (some (0, 0, false, 0, 0, 0, false)) else (if 0 < (t227.length : Int) then (if (rd t227 0) > 4 then (some (0, 0, false, 0, 0, 0, false)) else (if 4 < (t227.length : Int) then (if (rd t227 4) = 0 then (if 1 < (t227.length : Int) then (if 2 < (t227.length : Int) then (if 3 < (t227.length : Int) then (if 5 < (t227.length : Int) then (if 6 < (t227.length : Int) then (some (wrap64 (rd t227 0), wrap64 (rd t227 1), ((rd t227 2) == 1), wrap64 (rd t227 3), wrap64 (rd t227 5), wrap64 (rd t227 6), true)) else (none)) else (none)) else (none)) else (none)) else (none)) else (some (0, 0, false, 0, 0, 0, false))) else (none))) else (none))) = some (r1, r2, r3, r4, r5, r6, r7) := H
  have A2 := Aside0.mk A20
  clear A20
  by_cases c3 : (t227.length : Int) < 7
  · rw [if_pos c3] at H
    have c3b0 : decide ((t227.length : Int) < 7) = true := decide_eq_true c3
    have c3b1 : decide (t227.length < 7) = true := decide_eq_true (by omega)
    clear c3
    simp only [Option.some.injEq, Prod.mk.injEq] at H
    obtain ⟨rfl, rfl, rfl, rfl, rfl, rfl, rfl⟩ := H
    go_enter Try.func86, Try.ntmps86
    go_wp2_with (first | ((with_reducible refine gate_dst (N := 2) rfl ?_); refine box_event ?hg (N := 2) ?hd (cs := #[.int .i64 0, .int .i64 0, .bool false, .int .i64 0, .int .i64 0, .int .i64 0]) (t := 85) ?hr ?_; (case hd => rfl); (case hg => rfl); (case hr => first | (go_simp; done) | (go_simp; rfl)); intro gb223 hg w4 hbox hb; have n0_ := Aside0.mk (below_step (by repeat (first | (with_reducible first | exact HB.out | apply below_alloc | apply pw_below_drewN | apply below_drew1) | exact HB.out)) hb); have n1_ := Aside0.mk (hbox); have n2_ := Aside0.mk ((by rw [hg]; exact (below_size (by repeat (first | (with_reducible first | exact HB.out | apply below_alloc | apply pw_below_drewN | apply below_drew1) | exact HB.out))) : w.heap.size ≤ gb223)); have n3_ := Aside0.mk ((by rw [hg]; exact (below_size (by repeat (first | (with_reducible first | exact HB.out | apply below_alloc | apply pw_below_drewN | apply below_drew1) | exact HB.out))) : w.heap.size ≤ gb223)); clear HB; have HB := n0_; have BK223 := n1_; have GW223 := n2_; have GE223 := n3_; clear n0_ n1_ n2_ n3_; clear hb hbox hg) | ((with_reducible refine gate_dst (N := 8) rfl ?_); refine Kd.R_lit (Kd.int .i64) _ 3 ?hg (N := 8) ?hd (xs := ([3, 1, 1, 4, 7, 32, 16] : List Int)) (inner := [.int .i64 3, .int .i64 1, .int .i64 1, .int .i64 4, .int .i64 7, .int .i64 32, .int .i64 16]) (ok := fun _ => True) (okp := fun _ => True) ?hr ?hp (fun _ hk => hk) trivial (Below.refl _ _) (Nat.le_refl _) (by simp) ?_; (case hd => rfl); (case hg => rfl); (case hr => first | (go_simp; done) | (go_simp; rfl)); (case hp => exact (Reps.one (show Kd.M (Kd.int .i64) _ _ _ 3 [.int .i64 3] from rfl) (Reps.one (show Kd.M (Kd.int .i64) _ _ _ 1 [.int .i64 1] from rfl) (Reps.one (show Kd.M (Kd.int .i64) _ _ _ 1 [.int .i64 1] from rfl) (Reps.one (show Kd.M (Kd.int .i64) _ _ _ 4 [.int .i64 4] from rfl) (Reps.one (show Kd.M (Kd.int .i64) _ _ _ 7 [.int .i64 7] from rfl) (Reps.one (show Kd.M (Kd.int .i64) _ _ _ 32 [.int .i64 32] from rfl) (Reps.one (show Kd.M (Kd.int .i64) _ _ _ 16 [.int .i64 16] from rfl) (Reps.none _ _))))))))); intro v225 w5 ho6 hb hg_ hnew_; clear hg_ hnew_; (first | rw [← Ny224.out] at ho6 | (simp only [Int.reduceToNat] at ho6; rw [← Ny224.out] at ho6)); have n0_ := Aside0.mk (Kd.R_lower ho6 (below_size (by repeat (first | (with_reducible first | exact HB.out | apply below_alloc | apply pw_below_drewN | apply below_drew1 | refine below_set ?_ GE223.out) | exact HB.out)))); have n1_ := Aside0.mk (blk_below (g := gb223) (o := .cells #[.int .i64 0, .int .i64 0, .bool false, .int .i64 0, .int .i64 0, .int .i64 0] 85 (0, 0)) (by (with_reducible repeat (first | refine blk_drewN ?_ _ | refine blk_drew ?_ | refine blk_alloc ?_ _)); exact BK223.out) hb); have n2_ := Aside0.mk (below_step (by repeat (first | (with_reducible first | exact HB.out | apply below_alloc | apply pw_below_drewN | apply below_drew1 | refine below_set ?_ GE223.out) | exact HB.out)) hb); clear BK223; clear HB; have HO226 := n0_; have BK223 := n1_; have HB := n2_; clear n0_ n1_ n2_; clear hb ho6; obtain ⟨Ao7, co7, eo7⟩ := Kd.R_slice HO226.out; subst eo7) | ((with_reducible refine gate_callee (f := 99) rfl ?_); refine goesL_ (some 9) rfl rfl Try.func99 (by kernel_rfl) rfl #[.int .u64 a0, .slice Ao7 y224.length co7] rfl (by (try simp only [List.map_toArray, List.map_cons, List.map_nil]); first | done | rfl | (simp only [List.length_drop, List.length_take]; rfl)) ?_; (with_reducible refine (word_Unpack.calls k a0 _ _ y224 t227 t228 _ ?side1 ?side2 A2.out).mono ?_); (case side1 => repeat (first | exact (Kd.R_reads' HO226.out).2.2 | (with_reducible refine Kd.C_alloc ?_ _) | (with_reducible refine Kd.C_drewN ?_ _) | (with_reducible refine Kd.C_drew ?_))); (case side2 => exact (Kd.R_reads' HO226.out).2.1); rintro e w8 ⟨v229, rfl, ho0, hb⟩; refine ⟨_, rfl, ?_⟩; have n0_ := Aside0.mk (Kd.R_below (by (with_reducible repeat (first | apply Kd.R_alloc | apply Kd.R_drewN | apply Kd.R_drew)); exact HO226.out) hb); have n1_ := Aside0.mk (Kd.R_lower ho0 (below_size (by repeat (first | (with_reducible first | exact HB.out | apply below_alloc | apply pw_below_drewN | apply below_drew1 | refine below_set ?_ GE223.out) | exact HB.out)))); have n2_ := Aside0.mk (blk_below (g := gb223) (o := .cells #[.int .i64 0, .int .i64 0, .bool false, .int .i64 0, .int .i64 0, .int .i64 0] 85 (0, 0)) (by (with_reducible repeat (first | refine blk_drewN ?_ _ | refine blk_drew ?_ | refine blk_alloc ?_ _)); exact BK223.out) hb); have n3_ := Aside0.mk (below_step (by repeat (first | (with_reducible first | exact HB.out | apply below_alloc | apply pw_below_drewN | apply below_drew1 | refine below_set ?_ GE223.out) | exact HB.out)) hb); clear HO226; clear BK223; clear HB; have HO226 := n0_; have HO230 := n1_; have BK223 := n2_; have HB := n3_; clear n0_ n1_ n2_ n3_; (try clear hb); (try clear hb2); (try clear hk); (try clear hi); (try clear ho0); obtain ⟨Ao9, co9, eo9⟩ := Kd.R_slice HO230.out; subst eo9; have hcz10_0 : w8.cell? ⟨gb223, 0, none⟩ = some (.int .i64 0) := (blk_cell BK223.out 0).trans rfl; have hcz10_1 : w8.cell? ⟨gb223, 1, none⟩ = some (.int .i64 0) := (blk_cell BK223.out 1).trans rfl; have hcz10_2 : w8.cell? ⟨gb223, 2, none⟩ = some (.bool false) := (blk_cell BK223.out 2).trans rfl; have hcz10_3 : w8.cell? ⟨gb223, 3, none⟩ = some (.int .i64 0) := (blk_cell BK223.out 3).trans rfl; have hcz10_4 : w8.cell? ⟨gb223, 4, none⟩ = some (.int .i64 0) := (blk_cell BK223.out 4).trans rfl; have hcz10_5 : w8.cell? ⟨gb223, 5, none⟩ = some (.int .i64 0) := (blk_cell BK223.out 5).trans rfl; have hfz10_0 := blk_frozen BK223.out 0; have hfz10_1 := blk_frozen BK223.out 1; have hfz10_2 := blk_frozen BK223.out 2; have hfz10_3 := blk_frozen BK223.out 3; have hfz10_4 := blk_frozen BK223.out 4; have hfz10_5 := blk_frozen BK223.out 5))
    refine bodyPost_ret (results_ct rfl _ _ gb223 85 #[.int .i64 0, .int .i64 0, .bool false, .int .i64 0, .int .i64 0, .int .i64 0] (0, 0) _ rfl (by (with_reducible repeat (first | refine blk_drewN ?_ _ | refine blk_drew ?_ | refine blk_alloc ?_ _)); refine blk_put (cs := #[.int .i64 0, .int .i64 0, .bool false, .int .i64 0, .int .i64 0, .int .i64 0]) ?_ 5 _ rfl; (with_reducible repeat (first | refine blk_drewN ?_ _ | refine blk_drew ?_ | refine blk_alloc ?_ _)); refine blk_put (cs := #[.int .i64 0, .int .i64 0, .bool false, .int .i64 0, .int .i64 0, .int .i64 0]) ?_ 4 _ rfl; (with_reducible repeat (first | refine blk_drewN ?_ _ | refine blk_drew ?_ | refine blk_alloc ?_ _)); refine blk_put (cs := #[.int .i64 0, .int .i64 0, .bool false, .int .i64 0, .int .i64 0, .int .i64 0]) ?_ 3 _ rfl; (with_reducible repeat (first | refine blk_drewN ?_ _ | refine blk_drew ?_ | refine blk_alloc ?_ _)); refine blk_put (cs := #[.int .i64 0, .int .i64 0, .bool false, .int .i64 0, .int .i64 0, .int .i64 0]) ?_ 2 _ rfl; (with_reducible repeat (first | refine blk_drewN ?_ _ | refine blk_drew ?_ | refine blk_alloc ?_ _)); refine blk_put (cs := #[.int .i64 0, .int .i64 0, .bool false, .int .i64 0, .int .i64 0, .int .i64 0]) ?_ 1 _ rfl; (with_reducible repeat (first | refine blk_drewN ?_ _ | refine blk_drew ?_ | refine blk_alloc ?_ _)); refine blk_put (cs := #[.int .i64 0, .int .i64 0, .bool false, .int .i64 0, .int .i64 0, .int .i64 0]) ?_ 0 _ rfl; (with_reducible repeat (first | refine blk_drewN ?_ _ | refine blk_drew ?_ | refine blk_alloc ?_ _)); exact BK223.out) Try.underlying85 rfl (by kernel_rfl)) rfl ?_
    exact ⟨by first | rfl | (simp [errW_none, errW_some] <;> rfl) | (simp [*, errW_none, errW_some] <;> rfl), by repeat (first | (with_reducible first | exact HB.out | apply below_alloc | apply pw_below_drewN | apply below_drew1 | refine below_set ?_ GE223.out) | exact HB.out)⟩
  · rw [if_neg c3] at H
    have c3b0 : decide ((t227.length : Int) < 7) = false := decide_eq_false c3
    have c3b1 : decide (t227.length < 7) = false := decide_eq_false (by omega)
    clear c3
    by_cases c11 : 0 < (t227.length : Int)
    · rw [if_pos c11] at H
      have c11b0 : decide (0 < (t227.length : Int)) = true := decide_eq_true c11
      have c11b1 : decide (0 < t227.length) = true := decide_eq_true (by omega)
      clear c11
      by_cases c12 : (rd t227 0) > 4
      · rw [if_pos c12] at H
        have c12b0 : decide (4 < (rd t227 0)) = true := decide_eq_true c12
        clear c12
        simp only [Option.some.injEq, Prod.mk.injEq] at H
        obtain ⟨rfl, rfl, rfl, rfl, rfl, rfl, rfl⟩ := H
        go_enter Try.func86, Try.ntmps86
        go_wp2_with (first | ((with_reducible refine gate_dst (N := 2) rfl ?_); refine box_event ?hg (N := 2) ?hd (cs := #[.int .i64 0, .int .i64 0, .bool false, .int .i64 0, .int .i64 0, .int .i64 0]) (t := 85) ?hr ?_; (case hd => rfl); (case hg => rfl); (case hr => first | (go_simp; done) | (go_simp; rfl)); intro gb223 hg w13 hbox hb; have n0_ := Aside0.mk (below_step (by repeat (first | (with_reducible first | exact HB.out | apply below_alloc | apply pw_below_drewN | apply below_drew1) | exact HB.out)) hb); have n1_ := Aside0.mk (hbox); have n2_ := Aside0.mk ((by rw [hg]; exact (below_size (by repeat (first | (with_reducible first | exact HB.out | apply below_alloc | apply pw_below_drewN | apply below_drew1) | exact HB.out))) : w.heap.size ≤ gb223)); have n3_ := Aside0.mk ((by rw [hg]; exact (below_size (by repeat (first | (with_reducible first | exact HB.out | apply below_alloc | apply pw_below_drewN | apply below_drew1) | exact HB.out))) : w.heap.size ≤ gb223)); clear HB; have HB := n0_; have BK223 := n1_; have GW223 := n2_; have GE223 := n3_; clear n0_ n1_ n2_ n3_; clear hb hbox hg) | ((with_reducible refine gate_dst (N := 8) rfl ?_); refine Kd.R_lit (Kd.int .i64) _ 3 ?hg (N := 8) ?hd (xs := ([3, 1, 1, 4, 7, 32, 16] : List Int)) (inner := [.int .i64 3, .int .i64 1, .int .i64 1, .int .i64 4, .int .i64 7, .int .i64 32, .int .i64 16]) (ok := fun _ => True) (okp := fun _ => True) ?hr ?hp (fun _ hk => hk) trivial (Below.refl _ _) (Nat.le_refl _) (by simp) ?_; (case hd => rfl); (case hg => rfl); (case hr => first | (go_simp; done) | (go_simp; rfl)); (case hp => exact (Reps.one (show Kd.M (Kd.int .i64) _ _ _ 3 [.int .i64 3] from rfl) (Reps.one (show Kd.M (Kd.int .i64) _ _ _ 1 [.int .i64 1] from rfl) (Reps.one (show Kd.M (Kd.int .i64) _ _ _ 1 [.int .i64 1] from rfl) (Reps.one (show Kd.M (Kd.int .i64) _ _ _ 4 [.int .i64 4] from rfl) (Reps.one (show Kd.M (Kd.int .i64) _ _ _ 7 [.int .i64 7] from rfl) (Reps.one (show Kd.M (Kd.int .i64) _ _ _ 32 [.int .i64 32] from rfl) (Reps.one (show Kd.M (Kd.int .i64) _ _ _ 16 [.int .i64 16] from rfl) (Reps.none _ _))))))))); intro v225 w14 ho15 hb hg_ hnew_; clear hg_ hnew_; (first | rw [← Ny224.out] at ho15 | (simp only [Int.reduceToNat] at ho15; rw [← Ny224.out] at ho15)); have n0_ := Aside0.mk (Kd.R_lower ho15 (below_size (by repeat (first | (with_reducible first | exact HB.out | apply below_alloc | apply pw_below_drewN | apply below_drew1 | refine below_set ?_ GE223.out) | exact HB.out)))); have n1_ := Aside0.mk (blk_below (g := gb223) (o := .cells #[.int .i64 0, .int .i64 0, .bool false, .int .i64 0, .int .i64 0, .int .i64 0] 85 (0, 0)) (by (with_reducible repeat (first | refine blk_drewN ?_ _ | refine blk_drew ?_ | refine blk_alloc ?_ _)); exact BK223.out) hb); have n2_ := Aside0.mk (below_step (by repeat (first | (with_reducible first | exact HB.out | apply below_alloc | apply pw_below_drewN | apply below_drew1 | refine below_set ?_ GE223.out) | exact HB.out)) hb); clear BK223; clear HB; have HO226 := n0_; have BK223 := n1_; have HB := n2_; clear n0_ n1_ n2_; clear hb ho15; obtain ⟨Ao16, co16, eo16⟩ := Kd.R_slice HO226.out; subst eo16) | ((with_reducible refine gate_callee (f := 99) rfl ?_); refine goesL_ (some 9) rfl rfl Try.func99 (by kernel_rfl) rfl #[.int .u64 a0, .slice Ao16 y224.length co16] rfl (by (try simp only [List.map_toArray, List.map_cons, List.map_nil]); first | done | rfl | (simp only [List.length_drop, List.length_take]; rfl)) ?_; (with_reducible refine (word_Unpack.calls k a0 _ _ y224 t227 t228 _ ?side1 ?side2 A2.out).mono ?_); (case side1 => repeat (first | exact (Kd.R_reads' HO226.out).2.2 | (with_reducible refine Kd.C_alloc ?_ _) | (with_reducible refine Kd.C_drewN ?_ _) | (with_reducible refine Kd.C_drew ?_))); (case side2 => exact (Kd.R_reads' HO226.out).2.1); rintro e w17 ⟨v229, rfl, ho0, hb⟩; refine ⟨_, rfl, ?_⟩; have n0_ := Aside0.mk (Kd.R_below (by (with_reducible repeat (first | apply Kd.R_alloc | apply Kd.R_drewN | apply Kd.R_drew)); exact HO226.out) hb); have n1_ := Aside0.mk (Kd.R_lower ho0 (below_size (by repeat (first | (with_reducible first | exact HB.out | apply below_alloc | apply pw_below_drewN | apply below_drew1 | refine below_set ?_ GE223.out) | exact HB.out)))); have n2_ := Aside0.mk (blk_below (g := gb223) (o := .cells #[.int .i64 0, .int .i64 0, .bool false, .int .i64 0, .int .i64 0, .int .i64 0] 85 (0, 0)) (by (with_reducible repeat (first | refine blk_drewN ?_ _ | refine blk_drew ?_ | refine blk_alloc ?_ _)); exact BK223.out) hb); have n3_ := Aside0.mk (below_step (by repeat (first | (with_reducible first | exact HB.out | apply below_alloc | apply pw_below_drewN | apply below_drew1 | refine below_set ?_ GE223.out) | exact HB.out)) hb); clear HO226; clear BK223; clear HB; have HO226 := n0_; have HO230 := n1_; have BK223 := n2_; have HB := n3_; clear n0_ n1_ n2_ n3_; (try clear hb); (try clear hb2); (try clear hk); (try clear hi); (try clear ho0); obtain ⟨Ao18, co18, eo18⟩ := Kd.R_slice HO230.out; subst eo18; have p231 : 0 ≤ (0 : Int) := (by omega); have q231 : 0 < (t227.length : Int) := of_decide_eq_true (by first | (with_reducible assumption) | assumption); obtain ⟨ad231, e231, hx231_0⟩ := Kd.at_int (Kd.R_reads' HO230.out).2.2 0 p231 q231; cases e231; have qi231 : (0 < t227.length) = True := eq_true (by omega); (try rw [show ((0 : Int)).toNat = 0 from rfl] at hx231_0); (try rw [Addr.add_zero'] at hx231_0); replace p231 := eq_true p231; replace q231 := eq_true q231; have hcz19_0 : w17.cell? ⟨gb223, 0, none⟩ = some (.int .i64 0) := (blk_cell BK223.out 0).trans rfl; have hcz19_1 : w17.cell? ⟨gb223, 1, none⟩ = some (.int .i64 0) := (blk_cell BK223.out 1).trans rfl; have hcz19_2 : w17.cell? ⟨gb223, 2, none⟩ = some (.bool false) := (blk_cell BK223.out 2).trans rfl; have hcz19_3 : w17.cell? ⟨gb223, 3, none⟩ = some (.int .i64 0) := (blk_cell BK223.out 3).trans rfl; have hcz19_4 : w17.cell? ⟨gb223, 4, none⟩ = some (.int .i64 0) := (blk_cell BK223.out 4).trans rfl; have hcz19_5 : w17.cell? ⟨gb223, 5, none⟩ = some (.int .i64 0) := (blk_cell BK223.out 5).trans rfl; have hfz19_0 := blk_frozen BK223.out 0; have hfz19_1 := blk_frozen BK223.out 1; have hfz19_2 := blk_frozen BK223.out 2; have hfz19_3 := blk_frozen BK223.out 3; have hfz19_4 := blk_frozen BK223.out 4; have hfz19_5 := blk_frozen BK223.out 5))
        refine bodyPost_ret (results_ct rfl _ _ gb223 85 #[.int .i64 0, .int .i64 0, .bool false, .int .i64 0, .int .i64 0, .int .i64 0] (0, 0) _ rfl (by (with_reducible repeat (first | refine blk_drewN ?_ _ | refine blk_drew ?_ | refine blk_alloc ?_ _)); refine blk_put (cs := #[.int .i64 0, .int .i64 0, .bool false, .int .i64 0, .int .i64 0, .int .i64 0]) ?_ 5 _ rfl; (with_reducible repeat (first | refine blk_drewN ?_ _ | refine blk_drew ?_ | refine blk_alloc ?_ _)); refine blk_put (cs := #[.int .i64 0, .int .i64 0, .bool false, .int .i64 0, .int .i64 0, .int .i64 0]) ?_ 4 _ rfl; (with_reducible repeat (first | refine blk_drewN ?_ _ | refine blk_drew ?_ | refine blk_alloc ?_ _)); refine blk_put (cs := #[.int .i64 0, .int .i64 0, .bool false, .int .i64 0, .int .i64 0, .int .i64 0]) ?_ 3 _ rfl; (with_reducible repeat (first | refine blk_drewN ?_ _ | refine blk_drew ?_ | refine blk_alloc ?_ _)); refine blk_put (cs := #[.int .i64 0, .int .i64 0, .bool false, .int .i64 0, .int .i64 0, .int .i64 0]) ?_ 2 _ rfl; (with_reducible repeat (first | refine blk_drewN ?_ _ | refine blk_drew ?_ | refine blk_alloc ?_ _)); refine blk_put (cs := #[.int .i64 0, .int .i64 0, .bool false, .int .i64 0, .int .i64 0, .int .i64 0]) ?_ 1 _ rfl; (with_reducible repeat (first | refine blk_drewN ?_ _ | refine blk_drew ?_ | refine blk_alloc ?_ _)); refine blk_put (cs := #[.int .i64 0, .int .i64 0, .bool false, .int .i64 0, .int .i64 0, .int .i64 0]) ?_ 0 _ rfl; (with_reducible repeat (first | refine blk_drewN ?_ _ | refine blk_drew ?_ | refine blk_alloc ?_ _)); exact BK223.out) Try.underlying85 rfl (by kernel_rfl)) rfl ?_
        exact ⟨by first | rfl | (simp [errW_none, errW_some] <;> rfl) | (simp [*, errW_none, errW_some] <;> rfl), by repeat (first | (with_reducible first | exact HB.out | apply below_alloc | apply pw_below_drewN | apply below_drew1 | refine below_set ?_ GE223.out) | exact HB.out)⟩
      · rw [if_neg c12] at H
        have c12b0 : decide (4 < (rd t227 0)) = false := decide_eq_false c12
        clear c12
        by_cases c20 : 4 < (t227.length : Int)
        · rw [if_pos c20] at H
          have c20b0 : decide (4 < (t227.length : Int)) = true := decide_eq_true c20
          have c20b1 : decide (4 < t227.length) = true := decide_eq_true (by omega)
          clear c20
          by_cases c21 : (rd t227 4) = 0
          · rw [if_pos c21] at H
            have c21b0 : ((rd t227 4) == 0) = true := beq_iff_eq.mpr c21
            have c21b1 : ((rd t227 4) != 0) = false := bne_eq_false_iff_eq.mpr c21
            clear c21
            by_cases c22 : 1 < (t227.length : Int)
            · rw [if_pos c22] at H
              have c22b0 : decide (1 < (t227.length : Int)) = true := decide_eq_true c22
              have c22b1 : decide (1 < t227.length) = true := decide_eq_true (by omega)
              clear c22
              by_cases c23 : 2 < (t227.length : Int)
              · rw [if_pos c23] at H
                have c23b0 : decide (2 < (t227.length : Int)) = true := decide_eq_true c23
                have c23b1 : decide (2 < t227.length) = true := decide_eq_true (by omega)
                clear c23
                by_cases c24 : 3 < (t227.length : Int)
                · rw [if_pos c24] at H
                  have c24b0 : decide (3 < (t227.length : Int)) = true := decide_eq_true c24
                  have c24b1 : decide (3 < t227.length) = true := decide_eq_true (by omega)
                  clear c24
                  by_cases c25 : 5 < (t227.length : Int)
                  · rw [if_pos c25] at H
                    have c25b0 : decide (5 < (t227.length : Int)) = true := decide_eq_true c25
                    have c25b1 : decide (5 < t227.length) = true := decide_eq_true (by omega)
                    clear c25
                    by_cases c26 : 6 < (t227.length : Int)
                    · rw [if_pos c26] at H
                      have c26b0 : decide (6 < (t227.length : Int)) = true := decide_eq_true c26
                      have c26b1 : decide (6 < t227.length) = true := decide_eq_true (by omega)
                      clear c26
                      simp only [Option.some.injEq, Prod.mk.injEq] at H
                      obtain ⟨rfl, rfl, rfl, rfl, rfl, rfl, rfl⟩ := H
                      go_enter Try.func86, Try.ntmps86
                      try go_wp2_with (first | ((with_reducible refine gate_dst (N := 2) rfl ?_); refine box_event ?hg (N := 2) ?hd (cs := #[.int .i64 0, .int .i64 0, .bool false, .int .i64 0, .int .i64 0, .int .i64 0]) (t := 85) ?hr ?_; (case hd => rfl); (case hg => rfl); (case hr => first | (go_simp; done) | (go_simp; rfl)); intro gb223 hg w27 hbox hb; have n0_ := Aside0.mk (below_step (by repeat (first | (with_reducible first | exact HB.out | apply below_alloc | apply pw_below_drewN | apply below_drew1) | exact HB.out)) hb); have n1_ := Aside0.mk (hbox); have n2_ := Aside0.mk ((by rw [hg]; exact (below_size (by repeat (first | (with_reducible first | exact HB.out | apply below_alloc | apply pw_below_drewN | apply below_drew1) | exact HB.out))) : w.heap.size ≤ gb223)); have n3_ := Aside0.mk ((by rw [hg]; exact (below_size (by repeat (first | (with_reducible first | exact HB.out | apply below_alloc | apply pw_below_drewN | apply below_drew1) | exact HB.out))) : w.heap.size ≤ gb223)); clear HB; have HB := n0_; have BK223 := n1_; have GW223 := n2_; have GE223 := n3_; clear n0_ n1_ n2_ n3_; clear hb hbox hg) | ((with_reducible refine gate_dst (N := 8) rfl ?_); refine Kd.R_lit (Kd.int .i64) _ 3 ?hg (N := 8) ?hd (xs := ([3, 1, 1, 4, 7, 32, 16] : List Int)) (inner := [.int .i64 3, .int .i64 1, .int .i64 1, .int .i64 4, .int .i64 7, .int .i64 32, .int .i64 16]) (ok := fun _ => True) (okp := fun _ => True) ?hr ?hp (fun _ hk => hk) trivial (Below.refl _ _) (Nat.le_refl _) (by simp) ?_; (case hd => rfl); (case hg => rfl); (case hr => first | (go_simp; done) | (go_simp; rfl)); (case hp => exact (Reps.one (show Kd.M (Kd.int .i64) _ _ _ 3 [.int .i64 3] from rfl) (Reps.one (show Kd.M (Kd.int .i64) _ _ _ 1 [.int .i64 1] from rfl) (Reps.one (show Kd.M (Kd.int .i64) _ _ _ 1 [.int .i64 1] from rfl) (Reps.one (show Kd.M (Kd.int .i64) _ _ _ 4 [.int .i64 4] from rfl) (Reps.one (show Kd.M (Kd.int .i64) _ _ _ 7 [.int .i64 7] from rfl) (Reps.one (show Kd.M (Kd.int .i64) _ _ _ 32 [.int .i64 32] from rfl) (Reps.one (show Kd.M (Kd.int .i64) _ _ _ 16 [.int .i64 16] from rfl) (Reps.none _ _))))))))); intro v225 w28 ho29 hb hg_ hnew_; clear hg_ hnew_; (first | rw [← Ny224.out] at ho29 | (simp only [Int.reduceToNat] at ho29; rw [← Ny224.out] at ho29)); have n0_ := Aside0.mk (Kd.R_lower ho29 (below_size (by repeat (first | (with_reducible first | exact HB.out | apply below_alloc | apply pw_below_drewN | apply below_drew1 | refine below_set ?_ GE223.out) | exact HB.out)))); have n1_ := Aside0.mk (blk_below (g := gb223) (o := .cells #[.int .i64 0, .int .i64 0, .bool false, .int .i64 0, .int .i64 0, .int .i64 0] 85 (0, 0)) (by (with_reducible repeat (first | refine blk_drewN ?_ _ | refine blk_drew ?_ | refine blk_alloc ?_ _)); exact BK223.out) hb); have n2_ := Aside0.mk (below_step (by repeat (first | (with_reducible first | exact HB.out | apply below_alloc | apply pw_below_drewN | apply below_drew1 | refine below_set ?_ GE223.out) | exact HB.out)) hb); clear BK223; clear HB; have HO226 := n0_; have BK223 := n1_; have HB := n2_; clear n0_ n1_ n2_; clear hb ho29; obtain ⟨Ao30, co30, eo30⟩ := Kd.R_slice HO226.out; subst eo30) | ((with_reducible refine gate_callee (f := 99) rfl ?_); refine goesL_ (some 9) rfl rfl Try.func99 (by kernel_rfl) rfl #[.int .u64 a0, .slice Ao30 y224.length co30] rfl (by (try simp only [List.map_toArray, List.map_cons, List.map_nil]); first | done | rfl | (simp only [List.length_drop, List.length_take]; rfl)) ?_; (with_reducible refine (word_Unpack.calls k a0 _ _ y224 t227 t228 _ ?side1 ?side2 A2.out).mono ?_); (case side1 => repeat (first | exact (Kd.R_reads' HO226.out).2.2 | (with_reducible refine Kd.C_alloc ?_ _) | (with_reducible refine Kd.C_drewN ?_ _) | (with_reducible refine Kd.C_drew ?_))); (case side2 => exact (Kd.R_reads' HO226.out).2.1); rintro e w31 ⟨v229, rfl, ho0, hb⟩; refine ⟨_, rfl, ?_⟩; have n0_ := Aside0.mk (Kd.R_below (by (with_reducible repeat (first | apply Kd.R_alloc | apply Kd.R_drewN | apply Kd.R_drew)); exact HO226.out) hb); have n1_ := Aside0.mk (Kd.R_lower ho0 (below_size (by repeat (first | (with_reducible first | exact HB.out | apply below_alloc | apply pw_below_drewN | apply below_drew1 | refine below_set ?_ GE223.out) | exact HB.out)))); have n2_ := Aside0.mk (blk_below (g := gb223) (o := .cells #[.int .i64 0, .int .i64 0, .bool false, .int .i64 0, .int .i64 0, .int .i64 0] 85 (0, 0)) (by (with_reducible repeat (first | refine blk_drewN ?_ _ | refine blk_drew ?_ | refine blk_alloc ?_ _)); exact BK223.out) hb); have n3_ := Aside0.mk (below_step (by repeat (first | (with_reducible first | exact HB.out | apply below_alloc | apply pw_below_drewN | apply below_drew1 | refine below_set ?_ GE223.out) | exact HB.out)) hb); clear HO226; clear BK223; clear HB; have HO226 := n0_; have HO230 := n1_; have BK223 := n2_; have HB := n3_; clear n0_ n1_ n2_ n3_; (try clear hb); (try clear hb2); (try clear hk); (try clear hi); (try clear ho0); obtain ⟨Ao32, co32, eo32⟩ := Kd.R_slice HO230.out; subst eo32; have p231 : 0 ≤ (0 : Int) := (by omega); have q231 : 0 < (t227.length : Int) := of_decide_eq_true (by first | (with_reducible assumption) | assumption); obtain ⟨ad231, e231, hx231_0⟩ := Kd.at_int (Kd.R_reads' HO230.out).2.2 0 p231 q231; cases e231; have qi231 : (0 < t227.length) = True := eq_true (by omega); (try rw [show ((0 : Int)).toNat = 0 from rfl] at hx231_0); (try rw [Addr.add_zero'] at hx231_0); replace p231 := eq_true p231; replace q231 := eq_true q231; have p232 : 0 ≤ (4 : Int) := (by omega); have q232 : 4 < (t227.length : Int) := of_decide_eq_true (by first | (with_reducible assumption) | assumption); obtain ⟨ad232, e232, hx232_0⟩ := Kd.at_int (Kd.R_reads' HO230.out).2.2 4 p232 q232; obtain rfl : ad231 = ad232 := (by injection e232); (try simp only [show (4 : Int).toNat = 4 from rfl, Nat.reduceMul, Nat.reduceEqDiff, Go.Addr.add, ↓reduceIte] at hx232_0); have qi232 : (4 < t227.length) = True := eq_true (by omega); (try rw [show ((4 : Int)).toNat = 4 from rfl] at hx232_0); replace p232 := eq_true p232; replace q232 := eq_true q232))
                      have n0_ := Aside0.mk (Kd.R_drew HO226.out)
                      have n1_ := Aside0.mk (Kd.R_drew HO230.out)
                      have n2_ := Aside0.mk (blk_drew BK223.out)
                      have n3_ := Aside0.mk (below_drew1 HB.out)
                      clear HO226
                      clear HO230
                      clear BK223
                      clear HB
                      have HO226 := n0_
                      have HO230 := n1_
                      have BK223 := n2_
                      have HB := n3_
                      clear n0_ n1_ n2_ n3_
                      have p233 : 0 ≤ (0 : Int) := (by omega)
                      have q233 : 0 < (t227.length : Int) := of_decide_eq_true (by first | (with_reducible assumption) | assumption)
                      obtain ⟨ad233, e233, hx233_0⟩ := Kd.at_int (Kd.R_reads' HO230.out).2.2 0 p233 q233
                      obtain rfl : ad231 = ad233 := (by injection e233)
                      have qi233 : (0 < t227.length) = True := eq_true (by omega)
                      (try rw [show ((0 : Int)).toNat = 0 from rfl] at hx233_0)
                      (try rw [Addr.add_zero'] at hx233_0)
                      replace p233 := eq_true p233
                      replace q233 := eq_true q233
                      have p234 : 0 ≤ (1 : Int) := (by omega)
                      have q234 : 1 < (t227.length : Int) := of_decide_eq_true (by first | (with_reducible assumption) | assumption)
                      obtain ⟨ad234, e234, hx234_0⟩ := Kd.at_int (Kd.R_reads' HO230.out).2.2 1 p234 q234
                      obtain rfl : ad231 = ad234 := (by injection e234)
                      (try simp only [show (1 : Int).toNat = 1 from rfl, Nat.reduceMul, Nat.reduceEqDiff, Go.Addr.add, ↓reduceIte] at hx234_0)
                      have qi234 : (1 < t227.length) = True := eq_true (by omega)
                      (try rw [show ((1 : Int)).toNat = 1 from rfl] at hx234_0)
                      replace p234 := eq_true p234
                      replace q234 := eq_true q234
                      have p235 : 0 ≤ (2 : Int) := (by omega)
                      have q235 : 2 < (t227.length : Int) := of_decide_eq_true (by first | (with_reducible assumption) | assumption)
                      obtain ⟨ad235, e235, hx235_0⟩ := Kd.at_int (Kd.R_reads' HO230.out).2.2 2 p235 q235
                      obtain rfl : ad231 = ad235 := (by injection e235)
                      (try simp only [show (2 : Int).toNat = 2 from rfl, Nat.reduceMul, Nat.reduceEqDiff, Go.Addr.add, ↓reduceIte] at hx235_0)
                      have qi235 : (2 < t227.length) = True := eq_true (by omega)
                      (try rw [show ((2 : Int)).toNat = 2 from rfl] at hx235_0)
                      replace p235 := eq_true p235
                      replace q235 := eq_true q235
                      have p236 : 0 ≤ (3 : Int) := (by omega)
                      have q236 : 3 < (t227.length : Int) := of_decide_eq_true (by first | (with_reducible assumption) | assumption)
                      obtain ⟨ad236, e236, hx236_0⟩ := Kd.at_int (Kd.R_reads' HO230.out).2.2 3 p236 q236
                      obtain rfl : ad231 = ad236 := (by injection e236)
                      (try simp only [show (3 : Int).toNat = 3 from rfl, Nat.reduceMul, Nat.reduceEqDiff, Go.Addr.add, ↓reduceIte] at hx236_0)
                      have qi236 : (3 < t227.length) = True := eq_true (by omega)
                      (try rw [show ((3 : Int)).toNat = 3 from rfl] at hx236_0)
                      replace p236 := eq_true p236
                      replace q236 := eq_true q236
                      have p237 : 0 ≤ (5 : Int) := (by omega)
                      have q237 : 5 < (t227.length : Int) := of_decide_eq_true (by first | (with_reducible assumption) | assumption)
                      obtain ⟨ad237, e237, hx237_0⟩ := Kd.at_int (Kd.R_reads' HO230.out).2.2 5 p237 q237
                      obtain rfl : ad231 = ad237 := (by injection e237)
                      (try simp only [show (5 : Int).toNat = 5 from rfl, Nat.reduceMul, Nat.reduceEqDiff, Go.Addr.add, ↓reduceIte] at hx237_0)
                      have qi237 : (5 < t227.length) = True := eq_true (by omega)
                      (try rw [show ((5 : Int)).toNat = 5 from rfl] at hx237_0)
                      replace p237 := eq_true p237
                      replace q237 := eq_true q237
                      have p238 : 0 ≤ (6 : Int) := (by omega)
                      have q238 : 6 < (t227.length : Int) := of_decide_eq_true (by first | (with_reducible assumption) | assumption)
                      obtain ⟨ad238, e238, hx238_0⟩ := Kd.at_int (Kd.R_reads' HO230.out).2.2 6 p238 q238
                      obtain rfl : ad231 = ad238 := (by injection e238)
                      (try simp only [show (6 : Int).toNat = 6 from rfl, Nat.reduceMul, Nat.reduceEqDiff, Go.Addr.add, ↓reduceIte] at hx238_0)
                      have qi238 : (6 < t227.length) = True := eq_true (by omega)
                      (try rw [show ((6 : Int)).toNat = 6 from rfl] at hx238_0)
                      replace p238 := eq_true p238
                      replace q238 := eq_true q238
                      refine start_ (n := 27) (S := fun w' => w'.cell? ad231 = some (.int .u64 (rd t227 0)) ∧ w'.cell? ⟨ad231.block, ad231.off + 1, none⟩ = some (.int .u64 (rd t227 1)) ∧ w'.cell? ⟨ad231.block, ad231.off + 2, none⟩ = some (.int .u64 (rd t227 2)) ∧ w'.cell? ⟨ad231.block, ad231.off + 3, none⟩ = some (.int .u64 (rd t227 3)) ∧ w'.cell? ⟨ad231.block, ad231.off + 5, none⟩ = some (.int .u64 (rd t227 5)) ∧ w'.cell? ⟨ad231.block, ad231.off + 6, none⟩ = some (.int .u64 (rd t227 6))) (ds := []) #[false, false, false, false, false, false, false, false, false, false, false, false, false, false, false, false, false, false, false, false, false, false, false, false, false, false, false] (by kernel_rfl) rfl rfl ⟨hx233_0, hx234_0, hx235_0, hx236_0, hx237_0, hx238_0⟩ (fun hHeld => ?_); refine with_tabW head_Unpack.tab4 head_Unpack.bits4 (fun HT_ HW_ => ?_)
                      generalize w31.drew = w33 at HO226 HO230 BK223 HB hx233_0 hx234_0 hx235_0 hx236_0 hx237_0 hx238_0 hHeld ⊢
                      refine pure_ (i := 0) (N := some 28) (v := ?_) (a' := ?_) #[true, false, false, false, false, false, false, false, false, false, false, false, false, false, false, false, false, false, false, false, false, false, false, false, false, false, false] rfl rfl (any_of HT_.out (by kernel_rfl)) (fun _ _ _ h => h) (Or.inl ⟨by rfl, ?_⟩) ?_ ?_
                      rotate_left
                      · intro w'
                        go_simp
                        with_reducible rfl
                      rotate_left
                      · simp only [Act.put, List.setIfInBounds_toArray, List.set_cons_zero, List.set_cons_succ, i64_w, i32_w]
                        rfl
                      refine pure_ (i := 1) (N := some 29) (v := ?_) (a' := ?_) #[true, true, false, false, false, false, false, false, false, false, false, false, false, false, false, false, false, false, false, false, false, false, false, false, false, false, false] rfl rfl (any_of HT_.out (by kernel_rfl)) (fun _ _ _ h => h) (Or.inl ⟨by rfl, ?_⟩) ?_ ?_
                      rotate_left
                      · intro w'
                        go_simp
                        with_reducible rfl
                      rotate_left
                      · simp only [Act.put, List.setIfInBounds_toArray, List.set_cons_zero, List.set_cons_succ, i64_w, i32_w]
                        rfl
                      refine pure_ (i := 4) (N := some 32) (v := ?_) (a' := ?_) #[true, true, false, false, true, false, false, false, false, false, false, false, false, false, false, false, false, false, false, false, false, false, false, false, false, false, false] rfl rfl (any_of HT_.out (by kernel_rfl)) (fun _ _ _ h => h) (Or.inl ⟨by rfl, ?_⟩) ?_ ?_
                      rotate_left
                      · intro w'
                        go_simp
                        with_reducible rfl
                      rotate_left
                      · simp only [Act.put, List.setIfInBounds_toArray, List.set_cons_zero, List.set_cons_succ, i64_w, i32_w]
                        rfl
                      refine pure_ (i := 5) (N := some 33) (v := ?_) (a' := ?_) #[true, true, false, false, true, true, false, false, false, false, false, false, false, false, false, false, false, false, false, false, false, false, false, false, false, false, false] rfl rfl (any_of HT_.out (by kernel_rfl)) (fun _ _ _ h => h) (Or.inl ⟨by rfl, ?_⟩) ?_ ?_
                      rotate_left
                      · intro w'
                        go_simp
                        with_reducible rfl
                      rotate_left
                      · simp only [Act.put, List.setIfInBounds_toArray, List.set_cons_zero, List.set_cons_succ, i64_w, i32_w]
                        rfl
                      refine pure_ (i := 8) (N := some 36) (v := ?_) (a' := ?_) #[true, true, false, false, true, true, false, false, true, false, false, false, false, false, false, false, false, false, false, false, false, false, false, false, false, false, false] rfl rfl (any_of HT_.out (by kernel_rfl)) (fun _ _ _ h => h) (Or.inl ⟨by rfl, ?_⟩) ?_ ?_
                      rotate_left
                      · intro w'
                        go_simp
                        with_reducible rfl
                      rotate_left
                      · simp only [Act.put, List.setIfInBounds_toArray, List.set_cons_zero, List.set_cons_succ, i64_w, i32_w]
                        rfl
                      refine pure_ (i := 9) (N := some 37) (v := ?_) (a' := ?_) #[true, true, false, false, true, true, false, false, true, true, false, false, false, false, false, false, false, false, false, false, false, false, false, false, false, false, false] rfl rfl (any_of HT_.out (by kernel_rfl)) (fun _ _ _ h => h) (Or.inl ⟨by rfl, ?_⟩) ?_ ?_
                      rotate_left
                      · intro w'
                        go_simp
                        with_reducible rfl
                      rotate_left
                      · simp only [Act.put, List.setIfInBounds_toArray, List.set_cons_zero, List.set_cons_succ, i64_w, i32_w]
                        rfl
                      refine pure_ (i := 12) (N := some 40) (v := ?_) (a' := ?_) #[true, true, false, false, true, true, false, false, true, true, false, false, true, false, false, false, false, false, false, false, false, false, false, false, false, false, false] rfl rfl (any_of HT_.out (by kernel_rfl)) (fun _ _ _ h => h) (Or.inl ⟨by rfl, ?_⟩) ?_ ?_
                      rotate_left
                      · intro w'
                        go_simp
                        with_reducible rfl
                      rotate_left
                      · simp only [Act.put, List.setIfInBounds_toArray, List.set_cons_zero, List.set_cons_succ, i64_w, i32_w]
                        rfl
                      refine pure_ (i := 13) (N := some 41) (v := ?_) (a' := ?_) #[true, true, false, false, true, true, false, false, true, true, false, false, true, true, false, false, false, false, false, false, false, false, false, false, false, false, false] rfl rfl (any_of HT_.out (by kernel_rfl)) (fun _ _ _ h => h) (Or.inl ⟨by rfl, ?_⟩) ?_ ?_
                      rotate_left
                      · intro w'
                        go_simp
                        with_reducible rfl
                      rotate_left
                      · simp only [Act.put, List.setIfInBounds_toArray, List.set_cons_zero, List.set_cons_succ, i64_w, i32_w]
                        rfl
                      refine pure_ (i := 16) (N := some 44) (v := ?_) (a' := ?_) #[true, true, false, false, true, true, false, false, true, true, false, false, true, true, false, false, true, false, false, false, false, false, false, false, false, false, false] rfl rfl (any_of HT_.out (by kernel_rfl)) (fun _ _ _ h => h) (Or.inl ⟨by rfl, ?_⟩) ?_ ?_
                      rotate_left
                      · intro w'
                        go_simp
                        with_reducible rfl
                      rotate_left
                      · simp only [Act.put, List.setIfInBounds_toArray, List.set_cons_zero, List.set_cons_succ, i64_w, i32_w]
                        rfl
                      refine pure_ (i := 17) (N := some 45) (v := ?_) (a' := ?_) #[true, true, false, false, true, true, false, false, true, true, false, false, true, true, false, false, true, true, false, false, false, false, false, false, false, false, false] rfl rfl (any_of HT_.out (by kernel_rfl)) (fun _ _ _ h => h) (Or.inl ⟨by rfl, ?_⟩) ?_ ?_
                      rotate_left
                      · intro w'
                        go_simp
                        with_reducible rfl
                      rotate_left
                      · simp only [Act.put, List.setIfInBounds_toArray, List.set_cons_zero, List.set_cons_succ, i64_w, i32_w]
                        rfl
                      refine pure_ (i := 20) (N := some 48) (v := ?_) (a' := ?_) #[true, true, false, false, true, true, false, false, true, true, false, false, true, true, false, false, true, true, false, false, true, false, false, false, false, false, false] rfl rfl (any_of HT_.out (by kernel_rfl)) (fun _ _ _ h => h) (Or.inl ⟨by rfl, ?_⟩) ?_ ?_
                      rotate_left
                      · intro w'
                        go_simp
                        with_reducible rfl
                      rotate_left
                      · simp only [Act.put, List.setIfInBounds_toArray, List.set_cons_zero, List.set_cons_succ, i64_w, i32_w]
                        rfl
                      refine pure_ (i := 21) (N := some 49) (v := ?_) (a' := ?_) #[true, true, false, false, true, true, false, false, true, true, false, false, true, true, false, false, true, true, false, false, true, true, false, false, false, false, false] rfl rfl (any_of HT_.out (by kernel_rfl)) (fun _ _ _ h => h) (Or.inl ⟨by rfl, ?_⟩) ?_ ?_
                      rotate_left
                      · intro w'
                        go_simp
                        with_reducible rfl
                      rotate_left
                      · simp only [Act.put, List.setIfInBounds_toArray, List.set_cons_zero, List.set_cons_succ, i64_w, i32_w]
                        rfl
                      refine take_ (i := 2) (N := some 30) (v := ?_) (a' := ?_) #[true, true, true, false, true, true, false, false, true, true, false, false, true, true, false, false, true, true, false, false, true, true, false, false, false, false, false] rfl rfl (take_ofW HT_.out HW_.out (by kernel_rfl)) (fun _ _ _ h => h) (Or.inl ⟨by rfl, ?_⟩) hHeld ?_ ?_
                      rotate_left
                      · rintro w' ⟨s0, s1, s2, s3, s4, s5⟩
                        go_simp
                        with_reducible rfl
                      rotate_left
                      · simp only [Act.put, List.setIfInBounds_toArray, List.set_cons_zero, List.set_cons_succ, i64_w, i32_w]
                        rfl
                      refine pure_ (i := 3) (N := some 31) (v := ?_) (a' := ?_) #[true, true, true, true, true, true, false, false, true, true, false, false, true, true, false, false, true, true, false, false, true, true, false, false, false, false, false] rfl rfl (any_of HT_.out (by kernel_rfl)) (fun _ _ _ h => h) (Or.inl ⟨by rfl, ?_⟩) ?_ ?_
                      rotate_left
                      · intro w'
                        go_simp
                        with_reducible rfl
                      rotate_left
                      · simp only [Act.put, List.setIfInBounds_toArray, List.set_cons_zero, List.set_cons_succ, i64_w, i32_w]
                        rfl
                      refine take_ (i := 6) (N := some 34) (v := ?_) (a' := ?_) #[true, true, true, true, true, true, true, false, true, true, false, false, true, true, false, false, true, true, false, false, true, true, false, false, false, false, false] rfl rfl (take_ofW HT_.out HW_.out (by kernel_rfl)) (fun _ _ _ h => h) (Or.inl ⟨by rfl, ?_⟩) hHeld ?_ ?_
                      rotate_left
                      · rintro w' ⟨s0, s1, s2, s3, s4, s5⟩
                        go_simp
                        with_reducible rfl
                      rotate_left
                      · simp only [Act.put, List.setIfInBounds_toArray, List.set_cons_zero, List.set_cons_succ, i64_w, i32_w]
                        rfl
                      refine pure_ (i := 7) (N := some 35) (v := ?_) (a' := ?_) #[true, true, true, true, true, true, true, true, true, true, false, false, true, true, false, false, true, true, false, false, true, true, false, false, false, false, false] rfl rfl (any_of HT_.out (by kernel_rfl)) (fun _ _ _ h => h) (Or.inl ⟨by rfl, ?_⟩) ?_ ?_
                      rotate_left
                      · intro w'
                        go_simp
                        with_reducible rfl
                      rotate_left
                      · simp only [Act.put, List.setIfInBounds_toArray, List.set_cons_zero, List.set_cons_succ, i64_w, i32_w]
                        rfl
                      refine take_ (i := 10) (N := some 38) (v := ?_) (a' := ?_) #[true, true, true, true, true, true, true, true, true, true, true, false, true, true, false, false, true, true, false, false, true, true, false, false, false, false, false] rfl rfl (take_ofW HT_.out HW_.out (by kernel_rfl)) (fun _ _ _ h => h) (Or.inl ⟨by rfl, ?_⟩) hHeld ?_ ?_
                      rotate_left
                      · rintro w' ⟨s0, s1, s2, s3, s4, s5⟩
                        go_simp
                        with_reducible rfl
                      rotate_left
                      · simp only [Act.put, List.setIfInBounds_toArray, List.set_cons_zero, List.set_cons_succ, i64_w, i32_w]
                        rfl
                      refine pure_ (i := 11) (N := some 39) (v := ?_) (a' := ?_) #[true, true, true, true, true, true, true, true, true, true, true, true, true, true, false, false, true, true, false, false, true, true, false, false, false, false, false] rfl rfl (any_of HT_.out (by kernel_rfl)) (fun _ _ _ h => h) (Or.inl ⟨by rfl, ?_⟩) ?_ ?_
                      rotate_left
                      · intro w'
                        go_simp
                        with_reducible rfl
                      rotate_left
                      · simp only [Act.put, List.setIfInBounds_toArray, List.set_cons_zero, List.set_cons_succ, i64_w, i32_w]
                        rfl
                      refine take_ (i := 14) (N := some 42) (v := ?_) (a' := ?_) #[true, true, true, true, true, true, true, true, true, true, true, true, true, true, true, false, true, true, false, false, true, true, false, false, false, false, false] rfl rfl (take_ofW HT_.out HW_.out (by kernel_rfl)) (fun _ _ _ h => h) (Or.inl ⟨by rfl, ?_⟩) hHeld ?_ ?_
                      rotate_left
                      · rintro w' ⟨s0, s1, s2, s3, s4, s5⟩
                        go_simp
                        with_reducible rfl
                      rotate_left
                      · simp only [Act.put, List.setIfInBounds_toArray, List.set_cons_zero, List.set_cons_succ, i64_w, i32_w]
                        rfl
                      refine pure_ (i := 15) (N := some 43) (v := ?_) (a' := ?_) #[true, true, true, true, true, true, true, true, true, true, true, true, true, true, true, true, true, true, false, false, true, true, false, false, false, false, false] rfl rfl (any_of HT_.out (by kernel_rfl)) (fun _ _ _ h => h) (Or.inl ⟨by rfl, ?_⟩) ?_ ?_
                      rotate_left
                      · intro w'
                        go_simp
                        with_reducible rfl
                      rotate_left
                      · simp only [Act.put, List.setIfInBounds_toArray, List.set_cons_zero, List.set_cons_succ, i64_w, i32_w]
                        rfl
                      refine take_ (i := 18) (N := some 46) (v := ?_) (a' := ?_) #[true, true, true, true, true, true, true, true, true, true, true, true, true, true, true, true, true, true, true, false, true, true, false, false, false, false, false] rfl rfl (take_ofW HT_.out HW_.out (by kernel_rfl)) (fun _ _ _ h => h) (Or.inl ⟨by rfl, ?_⟩) hHeld ?_ ?_
                      rotate_left
                      · rintro w' ⟨s0, s1, s2, s3, s4, s5⟩
                        go_simp
                        with_reducible rfl
                      rotate_left
                      · simp only [Act.put, List.setIfInBounds_toArray, List.set_cons_zero, List.set_cons_succ, i64_w, i32_w]
                        rfl
                      refine pure_ (i := 19) (N := some 47) (v := ?_) (a' := ?_) #[true, true, true, true, true, true, true, true, true, true, true, true, true, true, true, true, true, true, true, true, true, true, false, false, false, false, false] rfl rfl (any_of HT_.out (by kernel_rfl)) (fun _ _ _ h => h) (Or.inl ⟨by rfl, ?_⟩) ?_ ?_
                      rotate_left
                      · intro w'
                        go_simp
                        with_reducible rfl
                      rotate_left
                      · simp only [Act.put, List.setIfInBounds_toArray, List.set_cons_zero, List.set_cons_succ, i64_w, i32_w]
                        rfl
                      refine take_ (i := 22) (N := some 50) (v := ?_) (a' := ?_) #[true, true, true, true, true, true, true, true, true, true, true, true, true, true, true, true, true, true, true, true, true, true, true, false, false, false, false] rfl rfl (take_ofW HT_.out HW_.out (by kernel_rfl)) (fun _ _ _ h => h) (Or.inl ⟨by rfl, ?_⟩) hHeld ?_ ?_
                      rotate_left
                      · rintro w' ⟨s0, s1, s2, s3, s4, s5⟩
                        go_simp
                        with_reducible rfl
                      rotate_left
                      · simp only [Act.put, List.setIfInBounds_toArray, List.set_cons_zero, List.set_cons_succ, i64_w, i32_w]
                        rfl
                      refine pure_ (i := 23) (N := some 51) (v := ?_) (a' := ?_) #[true, true, true, true, true, true, true, true, true, true, true, true, true, true, true, true, true, true, true, true, true, true, true, true, false, false, false] rfl rfl (any_of HT_.out (by kernel_rfl)) (fun _ _ _ h => h) (Or.inl ⟨by rfl, ?_⟩) ?_ ?_
                      rotate_left
                      · intro w'
                        go_simp
                        with_reducible rfl
                      rotate_left
                      · simp only [Act.put, List.setIfInBounds_toArray, List.set_cons_zero, List.set_cons_succ, i64_w, i32_w]
                        rfl
                      refine pure_ (i := 24) (N := some 52) (v := ?_) (a' := ?_) #[true, true, true, true, true, true, true, true, true, true, true, true, true, true, true, true, true, true, true, true, true, true, true, true, true, false, false] rfl rfl (any_of HT_.out (by kernel_rfl)) (fun _ _ _ h => h) (Or.inl ⟨by rfl, ?_⟩) ?_ ?_
                      rotate_left
                      · intro w'
                        go_simp
                        with_reducible rfl
                      rotate_left
                      · simp only [Act.put, List.setIfInBounds_toArray, List.set_cons_zero, List.set_cons_succ, i64_w, i32_w]
                        rfl
                      refine one_ (i := 25) (N := none) #[true, true, true, true, true, true, true, true, true, true, true, true, true, true, true, true, true, true, true, true, true, true, true, true, true, true, false] rfl rfl (one_of HT_.out (by kernel_rfl)) (by decide) (fun K hK => ?_)
                      have hs34 : w33.cell? ⟨gb223, 0, none⟩ = some (.int .i64 0) := (blk_cell BK223.out 0).trans rfl
                      have hfs34 := blk_frozen BK223.out 0
                      have hs35 : w33.cell? ⟨gb223, 1, none⟩ = some (.int .i64 0) := (blk_cell BK223.out 1).trans rfl
                      have hfs35 := blk_frozen BK223.out 1
                      have hs36 : w33.cell? ⟨gb223, 2, none⟩ = some (.bool false) := (blk_cell BK223.out 2).trans rfl
                      have hfs36 := blk_frozen BK223.out 2
                      have hs37 : w33.cell? ⟨gb223, 3, none⟩ = some (.int .i64 0) := (blk_cell BK223.out 3).trans rfl
                      have hfs37 := blk_frozen BK223.out 3
                      have hs38 : w33.cell? ⟨gb223, 4, none⟩ = some (.int .i64 0) := (blk_cell BK223.out 4).trans rfl
                      have hfs38 := blk_frozen BK223.out 4
                      have hs39 : w33.cell? ⟨gb223, 5, none⟩ = some (.int .i64 0) := (blk_cell BK223.out 5).trans rfl
                      have hfs39 := blk_frozen BK223.out 5
                      refine skip_ (w1 := ?_) (by rfl) rfl ?_ ?_
                      rotate_left
                      · go_simp
                        rfl
                      refine hK.out _ _ ⟨((cell_far (p := ⟨gb223, _, none⟩) (by first | exact Kd.own_blk (Kd.R_ne HO230.out BK223.out (by decide)) | (rw [add_block]; exact Kd.own_blk (Kd.R_ne HO230.out BK223.out (by decide))) | (show (Addr.add _ _).block ≠ _; rw [add_block]; exact Kd.own_blk (Kd.R_ne HO230.out BK223.out (by decide))) | (dsimp only; exact Kd.own_blk (Kd.R_ne HO230.out BK223.out (by decide)))) _).trans (((cell_far (p := ⟨gb223, _, none⟩) (by first | exact Kd.own_blk (Kd.R_ne HO230.out BK223.out (by decide)) | (rw [add_block]; exact Kd.own_blk (Kd.R_ne HO230.out BK223.out (by decide))) | (show (Addr.add _ _).block ≠ _; rw [add_block]; exact Kd.own_blk (Kd.R_ne HO230.out BK223.out (by decide))) | (dsimp only; exact Kd.own_blk (Kd.R_ne HO230.out BK223.out (by decide)))) _).trans (((cell_far (p := ⟨gb223, _, none⟩) (by first | exact Kd.own_blk (Kd.R_ne HO230.out BK223.out (by decide)) | (rw [add_block]; exact Kd.own_blk (Kd.R_ne HO230.out BK223.out (by decide))) | (show (Addr.add _ _).block ≠ _; rw [add_block]; exact Kd.own_blk (Kd.R_ne HO230.out BK223.out (by decide))) | (dsimp only; exact Kd.own_blk (Kd.R_ne HO230.out BK223.out (by decide)))) _).trans (((cell_far (p := ⟨gb223, _, none⟩) (by first | exact Kd.own_blk (Kd.R_ne HO230.out BK223.out (by decide)) | (rw [add_block]; exact Kd.own_blk (Kd.R_ne HO230.out BK223.out (by decide))) | (show (Addr.add _ _).block ≠ _; rw [add_block]; exact Kd.own_blk (Kd.R_ne HO230.out BK223.out (by decide))) | (dsimp only; exact Kd.own_blk (Kd.R_ne HO230.out BK223.out (by decide)))) _).trans (((cell_far (p := ⟨gb223, _, none⟩) (by first | exact Kd.own_blk (Kd.R_ne HO230.out BK223.out (by decide)) | (rw [add_block]; exact Kd.own_blk (Kd.R_ne HO230.out BK223.out (by decide))) | (show (Addr.add _ _).block ≠ _; rw [add_block]; exact Kd.own_blk (Kd.R_ne HO230.out BK223.out (by decide))) | (dsimp only; exact Kd.own_blk (Kd.R_ne HO230.out BK223.out (by decide)))) _).trans (((cell_far (p := ⟨gb223, _, none⟩) (by first | exact Kd.own_blk (Kd.R_ne HO230.out BK223.out (by decide)) | (rw [add_block]; exact Kd.own_blk (Kd.R_ne HO230.out BK223.out (by decide))) | (show (Addr.add _ _).block ≠ _; rw [add_block]; exact Kd.own_blk (Kd.R_ne HO230.out BK223.out (by decide))) | (dsimp only; exact Kd.own_blk (Kd.R_ne HO230.out BK223.out (by decide)))) _).trans (hHeld.1)))))))))))), ((cell_far (p := ⟨gb223, _, none⟩) (by first | exact Kd.own_blk (Kd.R_ne HO230.out BK223.out (by decide)) | (rw [add_block]; exact Kd.own_blk (Kd.R_ne HO230.out BK223.out (by decide))) | (show (Addr.add _ _).block ≠ _; rw [add_block]; exact Kd.own_blk (Kd.R_ne HO230.out BK223.out (by decide))) | (dsimp only; exact Kd.own_blk (Kd.R_ne HO230.out BK223.out (by decide)))) _).trans (((cell_far (p := ⟨gb223, _, none⟩) (by first | exact Kd.own_blk (Kd.R_ne HO230.out BK223.out (by decide)) | (rw [add_block]; exact Kd.own_blk (Kd.R_ne HO230.out BK223.out (by decide))) | (show (Addr.add _ _).block ≠ _; rw [add_block]; exact Kd.own_blk (Kd.R_ne HO230.out BK223.out (by decide))) | (dsimp only; exact Kd.own_blk (Kd.R_ne HO230.out BK223.out (by decide)))) _).trans (((cell_far (p := ⟨gb223, _, none⟩) (by first | exact Kd.own_blk (Kd.R_ne HO230.out BK223.out (by decide)) | (rw [add_block]; exact Kd.own_blk (Kd.R_ne HO230.out BK223.out (by decide))) | (show (Addr.add _ _).block ≠ _; rw [add_block]; exact Kd.own_blk (Kd.R_ne HO230.out BK223.out (by decide))) | (dsimp only; exact Kd.own_blk (Kd.R_ne HO230.out BK223.out (by decide)))) _).trans (((cell_far (p := ⟨gb223, _, none⟩) (by first | exact Kd.own_blk (Kd.R_ne HO230.out BK223.out (by decide)) | (rw [add_block]; exact Kd.own_blk (Kd.R_ne HO230.out BK223.out (by decide))) | (show (Addr.add _ _).block ≠ _; rw [add_block]; exact Kd.own_blk (Kd.R_ne HO230.out BK223.out (by decide))) | (dsimp only; exact Kd.own_blk (Kd.R_ne HO230.out BK223.out (by decide)))) _).trans (((cell_far (p := ⟨gb223, _, none⟩) (by first | exact Kd.own_blk (Kd.R_ne HO230.out BK223.out (by decide)) | (rw [add_block]; exact Kd.own_blk (Kd.R_ne HO230.out BK223.out (by decide))) | (show (Addr.add _ _).block ≠ _; rw [add_block]; exact Kd.own_blk (Kd.R_ne HO230.out BK223.out (by decide))) | (dsimp only; exact Kd.own_blk (Kd.R_ne HO230.out BK223.out (by decide)))) _).trans (((cell_far (p := ⟨gb223, _, none⟩) (by first | exact Kd.own_blk (Kd.R_ne HO230.out BK223.out (by decide)) | (rw [add_block]; exact Kd.own_blk (Kd.R_ne HO230.out BK223.out (by decide))) | (show (Addr.add _ _).block ≠ _; rw [add_block]; exact Kd.own_blk (Kd.R_ne HO230.out BK223.out (by decide))) | (dsimp only; exact Kd.own_blk (Kd.R_ne HO230.out BK223.out (by decide)))) _).trans (hHeld.2.1)))))))))))), ((cell_far (p := ⟨gb223, _, none⟩) (by first | exact Kd.own_blk (Kd.R_ne HO230.out BK223.out (by decide)) | (rw [add_block]; exact Kd.own_blk (Kd.R_ne HO230.out BK223.out (by decide))) | (show (Addr.add _ _).block ≠ _; rw [add_block]; exact Kd.own_blk (Kd.R_ne HO230.out BK223.out (by decide))) | (dsimp only; exact Kd.own_blk (Kd.R_ne HO230.out BK223.out (by decide)))) _).trans (((cell_far (p := ⟨gb223, _, none⟩) (by first | exact Kd.own_blk (Kd.R_ne HO230.out BK223.out (by decide)) | (rw [add_block]; exact Kd.own_blk (Kd.R_ne HO230.out BK223.out (by decide))) | (show (Addr.add _ _).block ≠ _; rw [add_block]; exact Kd.own_blk (Kd.R_ne HO230.out BK223.out (by decide))) | (dsimp only; exact Kd.own_blk (Kd.R_ne HO230.out BK223.out (by decide)))) _).trans (((cell_far (p := ⟨gb223, _, none⟩) (by first | exact Kd.own_blk (Kd.R_ne HO230.out BK223.out (by decide)) | (rw [add_block]; exact Kd.own_blk (Kd.R_ne HO230.out BK223.out (by decide))) | (show (Addr.add _ _).block ≠ _; rw [add_block]; exact Kd.own_blk (Kd.R_ne HO230.out BK223.out (by decide))) | (dsimp only; exact Kd.own_blk (Kd.R_ne HO230.out BK223.out (by decide)))) _).trans (((cell_far (p := ⟨gb223, _, none⟩) (by first | exact Kd.own_blk (Kd.R_ne HO230.out BK223.out (by decide)) | (rw [add_block]; exact Kd.own_blk (Kd.R_ne HO230.out BK223.out (by decide))) | (show (Addr.add _ _).block ≠ _; rw [add_block]; exact Kd.own_blk (Kd.R_ne HO230.out BK223.out (by decide))) | (dsimp only; exact Kd.own_blk (Kd.R_ne HO230.out BK223.out (by decide)))) _).trans (((cell_far (p := ⟨gb223, _, none⟩) (by first | exact Kd.own_blk (Kd.R_ne HO230.out BK223.out (by decide)) | (rw [add_block]; exact Kd.own_blk (Kd.R_ne HO230.out BK223.out (by decide))) | (show (Addr.add _ _).block ≠ _; rw [add_block]; exact Kd.own_blk (Kd.R_ne HO230.out BK223.out (by decide))) | (dsimp only; exact Kd.own_blk (Kd.R_ne HO230.out BK223.out (by decide)))) _).trans (((cell_far (p := ⟨gb223, _, none⟩) (by first | exact Kd.own_blk (Kd.R_ne HO230.out BK223.out (by decide)) | (rw [add_block]; exact Kd.own_blk (Kd.R_ne HO230.out BK223.out (by decide))) | (show (Addr.add _ _).block ≠ _; rw [add_block]; exact Kd.own_blk (Kd.R_ne HO230.out BK223.out (by decide))) | (dsimp only; exact Kd.own_blk (Kd.R_ne HO230.out BK223.out (by decide)))) _).trans (hHeld.2.2.1)))))))))))), ((cell_far (p := ⟨gb223, _, none⟩) (by first | exact Kd.own_blk (Kd.R_ne HO230.out BK223.out (by decide)) | (rw [add_block]; exact Kd.own_blk (Kd.R_ne HO230.out BK223.out (by decide))) | (show (Addr.add _ _).block ≠ _; rw [add_block]; exact Kd.own_blk (Kd.R_ne HO230.out BK223.out (by decide))) | (dsimp only; exact Kd.own_blk (Kd.R_ne HO230.out BK223.out (by decide)))) _).trans (((cell_far (p := ⟨gb223, _, none⟩) (by first | exact Kd.own_blk (Kd.R_ne HO230.out BK223.out (by decide)) | (rw [add_block]; exact Kd.own_blk (Kd.R_ne HO230.out BK223.out (by decide))) | (show (Addr.add _ _).block ≠ _; rw [add_block]; exact Kd.own_blk (Kd.R_ne HO230.out BK223.out (by decide))) | (dsimp only; exact Kd.own_blk (Kd.R_ne HO230.out BK223.out (by decide)))) _).trans (((cell_far (p := ⟨gb223, _, none⟩) (by first | exact Kd.own_blk (Kd.R_ne HO230.out BK223.out (by decide)) | (rw [add_block]; exact Kd.own_blk (Kd.R_ne HO230.out BK223.out (by decide))) | (show (Addr.add _ _).block ≠ _; rw [add_block]; exact Kd.own_blk (Kd.R_ne HO230.out BK223.out (by decide))) | (dsimp only; exact Kd.own_blk (Kd.R_ne HO230.out BK223.out (by decide)))) _).trans (((cell_far (p := ⟨gb223, _, none⟩) (by first | exact Kd.own_blk (Kd.R_ne HO230.out BK223.out (by decide)) | (rw [add_block]; exact Kd.own_blk (Kd.R_ne HO230.out BK223.out (by decide))) | (show (Addr.add _ _).block ≠ _; rw [add_block]; exact Kd.own_blk (Kd.R_ne HO230.out BK223.out (by decide))) | (dsimp only; exact Kd.own_blk (Kd.R_ne HO230.out BK223.out (by decide)))) _).trans (((cell_far (p := ⟨gb223, _, none⟩) (by first | exact Kd.own_blk (Kd.R_ne HO230.out BK223.out (by decide)) | (rw [add_block]; exact Kd.own_blk (Kd.R_ne HO230.out BK223.out (by decide))) | (show (Addr.add _ _).block ≠ _; rw [add_block]; exact Kd.own_blk (Kd.R_ne HO230.out BK223.out (by decide))) | (dsimp only; exact Kd.own_blk (Kd.R_ne HO230.out BK223.out (by decide)))) _).trans (((cell_far (p := ⟨gb223, _, none⟩) (by first | exact Kd.own_blk (Kd.R_ne HO230.out BK223.out (by decide)) | (rw [add_block]; exact Kd.own_blk (Kd.R_ne HO230.out BK223.out (by decide))) | (show (Addr.add _ _).block ≠ _; rw [add_block]; exact Kd.own_blk (Kd.R_ne HO230.out BK223.out (by decide))) | (dsimp only; exact Kd.own_blk (Kd.R_ne HO230.out BK223.out (by decide)))) _).trans (hHeld.2.2.2.1)))))))))))), ((cell_far (p := ⟨gb223, _, none⟩) (by first | exact Kd.own_blk (Kd.R_ne HO230.out BK223.out (by decide)) | (rw [add_block]; exact Kd.own_blk (Kd.R_ne HO230.out BK223.out (by decide))) | (show (Addr.add _ _).block ≠ _; rw [add_block]; exact Kd.own_blk (Kd.R_ne HO230.out BK223.out (by decide))) | (dsimp only; exact Kd.own_blk (Kd.R_ne HO230.out BK223.out (by decide)))) _).trans (((cell_far (p := ⟨gb223, _, none⟩) (by first | exact Kd.own_blk (Kd.R_ne HO230.out BK223.out (by decide)) | (rw [add_block]; exact Kd.own_blk (Kd.R_ne HO230.out BK223.out (by decide))) | (show (Addr.add _ _).block ≠ _; rw [add_block]; exact Kd.own_blk (Kd.R_ne HO230.out BK223.out (by decide))) | (dsimp only; exact Kd.own_blk (Kd.R_ne HO230.out BK223.out (by decide)))) _).trans (((cell_far (p := ⟨gb223, _, none⟩) (by first | exact Kd.own_blk (Kd.R_ne HO230.out BK223.out (by decide)) | (rw [add_block]; exact Kd.own_blk (Kd.R_ne HO230.out BK223.out (by decide))) | (show (Addr.add _ _).block ≠ _; rw [add_block]; exact Kd.own_blk (Kd.R_ne HO230.out BK223.out (by decide))) | (dsimp only; exact Kd.own_blk (Kd.R_ne HO230.out BK223.out (by decide)))) _).trans (((cell_far (p := ⟨gb223, _, none⟩) (by first | exact Kd.own_blk (Kd.R_ne HO230.out BK223.out (by decide)) | (rw [add_block]; exact Kd.own_blk (Kd.R_ne HO230.out BK223.out (by decide))) | (show (Addr.add _ _).block ≠ _; rw [add_block]; exact Kd.own_blk (Kd.R_ne HO230.out BK223.out (by decide))) | (dsimp only; exact Kd.own_blk (Kd.R_ne HO230.out BK223.out (by decide)))) _).trans (((cell_far (p := ⟨gb223, _, none⟩) (by first | exact Kd.own_blk (Kd.R_ne HO230.out BK223.out (by decide)) | (rw [add_block]; exact Kd.own_blk (Kd.R_ne HO230.out BK223.out (by decide))) | (show (Addr.add _ _).block ≠ _; rw [add_block]; exact Kd.own_blk (Kd.R_ne HO230.out BK223.out (by decide))) | (dsimp only; exact Kd.own_blk (Kd.R_ne HO230.out BK223.out (by decide)))) _).trans (((cell_far (p := ⟨gb223, _, none⟩) (by first | exact Kd.own_blk (Kd.R_ne HO230.out BK223.out (by decide)) | (rw [add_block]; exact Kd.own_blk (Kd.R_ne HO230.out BK223.out (by decide))) | (show (Addr.add _ _).block ≠ _; rw [add_block]; exact Kd.own_blk (Kd.R_ne HO230.out BK223.out (by decide))) | (dsimp only; exact Kd.own_blk (Kd.R_ne HO230.out BK223.out (by decide)))) _).trans (hHeld.2.2.2.2.1)))))))))))), ((cell_far (p := ⟨gb223, _, none⟩) (by first | exact Kd.own_blk (Kd.R_ne HO230.out BK223.out (by decide)) | (rw [add_block]; exact Kd.own_blk (Kd.R_ne HO230.out BK223.out (by decide))) | (show (Addr.add _ _).block ≠ _; rw [add_block]; exact Kd.own_blk (Kd.R_ne HO230.out BK223.out (by decide))) | (dsimp only; exact Kd.own_blk (Kd.R_ne HO230.out BK223.out (by decide)))) _).trans (((cell_far (p := ⟨gb223, _, none⟩) (by first | exact Kd.own_blk (Kd.R_ne HO230.out BK223.out (by decide)) | (rw [add_block]; exact Kd.own_blk (Kd.R_ne HO230.out BK223.out (by decide))) | (show (Addr.add _ _).block ≠ _; rw [add_block]; exact Kd.own_blk (Kd.R_ne HO230.out BK223.out (by decide))) | (dsimp only; exact Kd.own_blk (Kd.R_ne HO230.out BK223.out (by decide)))) _).trans (((cell_far (p := ⟨gb223, _, none⟩) (by first | exact Kd.own_blk (Kd.R_ne HO230.out BK223.out (by decide)) | (rw [add_block]; exact Kd.own_blk (Kd.R_ne HO230.out BK223.out (by decide))) | (show (Addr.add _ _).block ≠ _; rw [add_block]; exact Kd.own_blk (Kd.R_ne HO230.out BK223.out (by decide))) | (dsimp only; exact Kd.own_blk (Kd.R_ne HO230.out BK223.out (by decide)))) _).trans (((cell_far (p := ⟨gb223, _, none⟩) (by first | exact Kd.own_blk (Kd.R_ne HO230.out BK223.out (by decide)) | (rw [add_block]; exact Kd.own_blk (Kd.R_ne HO230.out BK223.out (by decide))) | (show (Addr.add _ _).block ≠ _; rw [add_block]; exact Kd.own_blk (Kd.R_ne HO230.out BK223.out (by decide))) | (dsimp only; exact Kd.own_blk (Kd.R_ne HO230.out BK223.out (by decide)))) _).trans (((cell_far (p := ⟨gb223, _, none⟩) (by first | exact Kd.own_blk (Kd.R_ne HO230.out BK223.out (by decide)) | (rw [add_block]; exact Kd.own_blk (Kd.R_ne HO230.out BK223.out (by decide))) | (show (Addr.add _ _).block ≠ _; rw [add_block]; exact Kd.own_blk (Kd.R_ne HO230.out BK223.out (by decide))) | (dsimp only; exact Kd.own_blk (Kd.R_ne HO230.out BK223.out (by decide)))) _).trans (((cell_far (p := ⟨gb223, _, none⟩) (by first | exact Kd.own_blk (Kd.R_ne HO230.out BK223.out (by decide)) | (rw [add_block]; exact Kd.own_blk (Kd.R_ne HO230.out BK223.out (by decide))) | (show (Addr.add _ _).block ≠ _; rw [add_block]; exact Kd.own_blk (Kd.R_ne HO230.out BK223.out (by decide))) | (dsimp only; exact Kd.own_blk (Kd.R_ne HO230.out BK223.out (by decide)))) _).trans (hHeld.2.2.2.2.2))))))))))))⟩ (fun hHeld => ?_)
                      clear hK K
                      refine pure_ (i := 26) (N := some 3) (v := ?_) (a' := ?_) #[true, true, true, true, true, true, true, true, true, true, true, true, true, true, true, true, true, true, true, true, true, true, true, true, true, true, true] rfl rfl (any_of HT_.out (by kernel_rfl)) (fun _ _ _ h => h) (Or.inl ⟨by rfl, ?_⟩) ?_ ?_
                      rotate_left
                      · intro w'
                        go_simp
                        with_reducible rfl
                      rotate_left
                      · simp only [Act.put, List.setIfInBounds_toArray, List.set_cons_zero, List.set_cons_succ, i64_w, i32_w]
                        rfl
                      refine done_ (done_of HT_.out (by kernel_rfl)) ?_
                      try go_wp2
                      refine bodyPost_ret (results_ct rfl _ _ gb223 85 #[.int .i64 (wrap64 (rd t227 0)), .int .i64 (wrap64 (rd t227 1)), .bool ((rd t227 2) == 1), .int .i64 (wrap64 (rd t227 3)), .int .i64 (wrap64 (rd t227 5)), .int .i64 (wrap64 (rd t227 6))] (0, 0) _ rfl (by (with_reducible repeat (first | refine blk_drewN ?_ _ | refine blk_drew ?_ | refine blk_alloc ?_ _)); refine blk_put (cs := #[.int .i64 (wrap64 (rd t227 0)), .int .i64 (wrap64 (rd t227 1)), .bool ((rd t227 2) == 1), .int .i64 (wrap64 (rd t227 3)), .int .i64 (wrap64 (rd t227 5)), .int .i64 0]) ?_ 5 _ rfl; (with_reducible repeat (first | refine blk_drewN ?_ _ | refine blk_drew ?_ | refine blk_alloc ?_ _)); refine blk_put (cs := #[.int .i64 (wrap64 (rd t227 0)), .int .i64 (wrap64 (rd t227 1)), .bool ((rd t227 2) == 1), .int .i64 (wrap64 (rd t227 3)), .int .i64 0, .int .i64 0]) ?_ 4 _ rfl; (with_reducible repeat (first | refine blk_drewN ?_ _ | refine blk_drew ?_ | refine blk_alloc ?_ _)); refine blk_put (cs := #[.int .i64 (wrap64 (rd t227 0)), .int .i64 (wrap64 (rd t227 1)), .bool ((rd t227 2) == 1), .int .i64 0, .int .i64 0, .int .i64 0]) ?_ 3 _ rfl; (with_reducible repeat (first | refine blk_drewN ?_ _ | refine blk_drew ?_ | refine blk_alloc ?_ _)); refine blk_put (cs := #[.int .i64 (wrap64 (rd t227 0)), .int .i64 (wrap64 (rd t227 1)), .bool false, .int .i64 0, .int .i64 0, .int .i64 0]) ?_ 2 _ rfl; (with_reducible repeat (first | refine blk_drewN ?_ _ | refine blk_drew ?_ | refine blk_alloc ?_ _)); refine blk_put (cs := #[.int .i64 (wrap64 (rd t227 0)), .int .i64 0, .bool false, .int .i64 0, .int .i64 0, .int .i64 0]) ?_ 1 _ rfl; (with_reducible repeat (first | refine blk_drewN ?_ _ | refine blk_drew ?_ | refine blk_alloc ?_ _)); refine blk_put (cs := #[.int .i64 0, .int .i64 0, .bool false, .int .i64 0, .int .i64 0, .int .i64 0]) ?_ 0 _ rfl; (with_reducible repeat (first | refine blk_drewN ?_ _ | refine blk_drew ?_ | refine blk_alloc ?_ _)); exact BK223.out) Try.underlying85 rfl (by kernel_rfl)) rfl ?_
                      exact ⟨by first | rfl | (simp [errW_none, errW_some] <;> rfl) | (simp [*, errW_none, errW_some] <;> rfl), by repeat (first | (with_reducible first | exact HB.out | apply below_alloc | apply pw_below_drewN | apply below_drew1 | refine below_set ?_ GE223.out) | exact HB.out)⟩
                    · rw [if_neg c26] at H
                      exact absurd H (by simp)
                  · rw [if_neg c25] at H
                    exact absurd H (by simp)
                · rw [if_neg c24] at H
                  exact absurd H (by simp)
              · rw [if_neg c23] at H
                exact absurd H (by simp)
            · rw [if_neg c22] at H
              exact absurd H (by simp)
          · rw [if_neg c21] at H
            have c21b0 : ((rd t227 4) == 0) = false := beq_eq_false_iff_ne.mpr c21
            have c21b1 : ((rd t227 4) != 0) = true := bne_iff_ne.mpr c21
            simp only [Option.some.injEq, Prod.mk.injEq] at H
            obtain ⟨rfl, rfl, rfl, rfl, rfl, rfl, rfl⟩ := H
            go_enter Try.func86, Try.ntmps86
            go_wp2_with (first | ((with_reducible refine gate_dst (N := 2) rfl ?_); refine box_event ?hg (N := 2) ?hd (cs := #[.int .i64 0, .int .i64 0, .bool false, .int .i64 0, .int .i64 0, .int .i64 0]) (t := 85) ?hr ?_; (case hd => rfl); (case hg => rfl); (case hr => first | (go_simp; done) | (go_simp; rfl)); intro gb223 hg w40 hbox hb; have n0_ := Aside0.mk (below_step (by repeat (first | (with_reducible first | exact HB.out | apply below_alloc | apply pw_below_drewN | apply below_drew1) | exact HB.out)) hb); have n1_ := Aside0.mk (hbox); have n2_ := Aside0.mk ((by rw [hg]; exact (below_size (by repeat (first | (with_reducible first | exact HB.out | apply below_alloc | apply pw_below_drewN | apply below_drew1) | exact HB.out))) : w.heap.size ≤ gb223)); have n3_ := Aside0.mk ((by rw [hg]; exact (below_size (by repeat (first | (with_reducible first | exact HB.out | apply below_alloc | apply pw_below_drewN | apply below_drew1) | exact HB.out))) : w.heap.size ≤ gb223)); clear HB; have HB := n0_; have BK223 := n1_; have GW223 := n2_; have GE223 := n3_; clear n0_ n1_ n2_ n3_; clear hb hbox hg) | ((with_reducible refine gate_dst (N := 8) rfl ?_); refine Kd.R_lit (Kd.int .i64) _ 3 ?hg (N := 8) ?hd (xs := ([3, 1, 1, 4, 7, 32, 16] : List Int)) (inner := [.int .i64 3, .int .i64 1, .int .i64 1, .int .i64 4, .int .i64 7, .int .i64 32, .int .i64 16]) (ok := fun _ => True) (okp := fun _ => True) ?hr ?hp (fun _ hk => hk) trivial (Below.refl _ _) (Nat.le_refl _) (by simp) ?_; (case hd => rfl); (case hg => rfl); (case hr => first | (go_simp; done) | (go_simp; rfl)); (case hp => exact (Reps.one (show Kd.M (Kd.int .i64) _ _ _ 3 [.int .i64 3] from rfl) (Reps.one (show Kd.M (Kd.int .i64) _ _ _ 1 [.int .i64 1] from rfl) (Reps.one (show Kd.M (Kd.int .i64) _ _ _ 1 [.int .i64 1] from rfl) (Reps.one (show Kd.M (Kd.int .i64) _ _ _ 4 [.int .i64 4] from rfl) (Reps.one (show Kd.M (Kd.int .i64) _ _ _ 7 [.int .i64 7] from rfl) (Reps.one (show Kd.M (Kd.int .i64) _ _ _ 32 [.int .i64 32] from rfl) (Reps.one (show Kd.M (Kd.int .i64) _ _ _ 16 [.int .i64 16] from rfl) (Reps.none _ _))))))))); intro v225 w41 ho42 hb hg_ hnew_; clear hg_ hnew_; (first | rw [← Ny224.out] at ho42 | (simp only [Int.reduceToNat] at ho42; rw [← Ny224.out] at ho42)); have n0_ := Aside0.mk (Kd.R_lower ho42 (below_size (by repeat (first | (with_reducible first | exact HB.out | apply below_alloc | apply pw_below_drewN | apply below_drew1 | refine below_set ?_ GE223.out) | exact HB.out)))); have n1_ := Aside0.mk (blk_below (g := gb223) (o := .cells #[.int .i64 0, .int .i64 0, .bool false, .int .i64 0, .int .i64 0, .int .i64 0] 85 (0, 0)) (by (with_reducible repeat (first | refine blk_drewN ?_ _ | refine blk_drew ?_ | refine blk_alloc ?_ _)); exact BK223.out) hb); have n2_ := Aside0.mk (below_step (by repeat (first | (with_reducible first | exact HB.out | apply below_alloc | apply pw_below_drewN | apply below_drew1 | refine below_set ?_ GE223.out) | exact HB.out)) hb); clear BK223; clear HB; have HO226 := n0_; have BK223 := n1_; have HB := n2_; clear n0_ n1_ n2_; clear hb ho42; obtain ⟨Ao43, co43, eo43⟩ := Kd.R_slice HO226.out; subst eo43) | ((with_reducible refine gate_callee (f := 99) rfl ?_); refine goesL_ (some 9) rfl rfl Try.func99 (by kernel_rfl) rfl #[.int .u64 a0, .slice Ao43 y224.length co43] rfl (by (try simp only [List.map_toArray, List.map_cons, List.map_nil]); first | done | rfl | (simp only [List.length_drop, List.length_take]; rfl)) ?_; (with_reducible refine (word_Unpack.calls k a0 _ _ y224 t227 t228 _ ?side1 ?side2 A2.out).mono ?_); (case side1 => repeat (first | exact (Kd.R_reads' HO226.out).2.2 | (with_reducible refine Kd.C_alloc ?_ _) | (with_reducible refine Kd.C_drewN ?_ _) | (with_reducible refine Kd.C_drew ?_))); (case side2 => exact (Kd.R_reads' HO226.out).2.1); rintro e w44 ⟨v229, rfl, ho0, hb⟩; refine ⟨_, rfl, ?_⟩; have n0_ := Aside0.mk (Kd.R_below (by (with_reducible repeat (first | apply Kd.R_alloc | apply Kd.R_drewN | apply Kd.R_drew)); exact HO226.out) hb); have n1_ := Aside0.mk (Kd.R_lower ho0 (below_size (by repeat (first | (with_reducible first | exact HB.out | apply below_alloc | apply pw_below_drewN | apply below_drew1 | refine below_set ?_ GE223.out) | exact HB.out)))); have n2_ := Aside0.mk (blk_below (g := gb223) (o := .cells #[.int .i64 0, .int .i64 0, .bool false, .int .i64 0, .int .i64 0, .int .i64 0] 85 (0, 0)) (by (with_reducible repeat (first | refine blk_drewN ?_ _ | refine blk_drew ?_ | refine blk_alloc ?_ _)); exact BK223.out) hb); have n3_ := Aside0.mk (below_step (by repeat (first | (with_reducible first | exact HB.out | apply below_alloc | apply pw_below_drewN | apply below_drew1 | refine below_set ?_ GE223.out) | exact HB.out)) hb); clear HO226; clear BK223; clear HB; have HO226 := n0_; have HO230 := n1_; have BK223 := n2_; have HB := n3_; clear n0_ n1_ n2_ n3_; (try clear hb); (try clear hb2); (try clear hk); (try clear hi); (try clear ho0); obtain ⟨Ao45, co45, eo45⟩ := Kd.R_slice HO230.out; subst eo45; have p231 : 0 ≤ (0 : Int) := (by omega); have q231 : 0 < (t227.length : Int) := of_decide_eq_true (by first | (with_reducible assumption) | assumption); obtain ⟨ad231, e231, hx231_0⟩ := Kd.at_int (Kd.R_reads' HO230.out).2.2 0 p231 q231; cases e231; have qi231 : (0 < t227.length) = True := eq_true (by omega); (try rw [show ((0 : Int)).toNat = 0 from rfl] at hx231_0); (try rw [Addr.add_zero'] at hx231_0); replace p231 := eq_true p231; replace q231 := eq_true q231; have p232 : 0 ≤ (4 : Int) := (by omega); have q232 : 4 < (t227.length : Int) := of_decide_eq_true (by first | (with_reducible assumption) | assumption); obtain ⟨ad232, e232, hx232_0⟩ := Kd.at_int (Kd.R_reads' HO230.out).2.2 4 p232 q232; obtain rfl : ad231 = ad232 := (by injection e232); (try simp only [show (4 : Int).toNat = 4 from rfl, Nat.reduceMul, Nat.reduceEqDiff, Go.Addr.add, ↓reduceIte] at hx232_0); have qi232 : (4 < t227.length) = True := eq_true (by omega); (try rw [show ((4 : Int)).toNat = 4 from rfl] at hx232_0); replace p232 := eq_true p232; replace q232 := eq_true q232; have hcz46_0 : w44.cell? ⟨gb223, 0, none⟩ = some (.int .i64 0) := (blk_cell BK223.out 0).trans rfl; have hcz46_1 : w44.cell? ⟨gb223, 1, none⟩ = some (.int .i64 0) := (blk_cell BK223.out 1).trans rfl; have hcz46_2 : w44.cell? ⟨gb223, 2, none⟩ = some (.bool false) := (blk_cell BK223.out 2).trans rfl; have hcz46_3 : w44.cell? ⟨gb223, 3, none⟩ = some (.int .i64 0) := (blk_cell BK223.out 3).trans rfl; have hcz46_4 : w44.cell? ⟨gb223, 4, none⟩ = some (.int .i64 0) := (blk_cell BK223.out 4).trans rfl; have hcz46_5 : w44.cell? ⟨gb223, 5, none⟩ = some (.int .i64 0) := (blk_cell BK223.out 5).trans rfl; have hfz46_0 := blk_frozen BK223.out 0; have hfz46_1 := blk_frozen BK223.out 1; have hfz46_2 := blk_frozen BK223.out 2; have hfz46_3 := blk_frozen BK223.out 3; have hfz46_4 := blk_frozen BK223.out 4; have hfz46_5 := blk_frozen BK223.out 5))
            refine bodyPost_ret (results_ct rfl _ _ gb223 85 #[.int .i64 0, .int .i64 0, .bool false, .int .i64 0, .int .i64 0, .int .i64 0] (0, 0) _ rfl (by (with_reducible repeat (first | refine blk_drewN ?_ _ | refine blk_drew ?_ | refine blk_alloc ?_ _)); refine blk_put (cs := #[.int .i64 0, .int .i64 0, .bool false, .int .i64 0, .int .i64 0, .int .i64 0]) ?_ 5 _ rfl; (with_reducible repeat (first | refine blk_drewN ?_ _ | refine blk_drew ?_ | refine blk_alloc ?_ _)); refine blk_put (cs := #[.int .i64 0, .int .i64 0, .bool false, .int .i64 0, .int .i64 0, .int .i64 0]) ?_ 4 _ rfl; (with_reducible repeat (first | refine blk_drewN ?_ _ | refine blk_drew ?_ | refine blk_alloc ?_ _)); refine blk_put (cs := #[.int .i64 0, .int .i64 0, .bool false, .int .i64 0, .int .i64 0, .int .i64 0]) ?_ 3 _ rfl; (with_reducible repeat (first | refine blk_drewN ?_ _ | refine blk_drew ?_ | refine blk_alloc ?_ _)); refine blk_put (cs := #[.int .i64 0, .int .i64 0, .bool false, .int .i64 0, .int .i64 0, .int .i64 0]) ?_ 2 _ rfl; (with_reducible repeat (first | refine blk_drewN ?_ _ | refine blk_drew ?_ | refine blk_alloc ?_ _)); refine blk_put (cs := #[.int .i64 0, .int .i64 0, .bool false, .int .i64 0, .int .i64 0, .int .i64 0]) ?_ 1 _ rfl; (with_reducible repeat (first | refine blk_drewN ?_ _ | refine blk_drew ?_ | refine blk_alloc ?_ _)); refine blk_put (cs := #[.int .i64 0, .int .i64 0, .bool false, .int .i64 0, .int .i64 0, .int .i64 0]) ?_ 0 _ rfl; (with_reducible repeat (first | refine blk_drewN ?_ _ | refine blk_drew ?_ | refine blk_alloc ?_ _)); exact BK223.out) Try.underlying85 rfl (by kernel_rfl)) rfl ?_
            exact ⟨by first | rfl | (simp [errW_none, errW_some] <;> rfl) | (simp [*, errW_none, errW_some] <;> rfl), by repeat (first | (with_reducible first | exact HB.out | apply below_alloc | apply pw_below_drewN | apply below_drew1 | refine below_set ?_ GE223.out) | exact HB.out)⟩
        · rw [if_neg c20] at H
          exact absurd H (by simp)
    · rw [if_neg c11] at H
      exact absurd H (by simp)
def head_bit.f (a0 : Bool) : Option (Int) := if a0 = true then (some 1) else (some 0)
set_option maxHeartbeats 8000000 in
set_option maxRecDepth 100000 in
theorem head_bit.calls (a0 : Bool) (r : Int) (w : World) (h : head_bit.f a0 = some r) :
    Calls Try.prog 106 #[.bool a0] w fun e w' => e = .returned (.int .u64 r) ∧ Drawn0 w w' := by
  have H : (if a0 = true then (some 1) else (some 0)) = some r := h
  clear h
  by_cases c2 : a0 = true
  · subst c2
    have H1 : (some 1) = some r := by rw [if_pos rfl] at H; exact H
    clear H
    have H := H1
    clear H1
    obtain rfl := Option.some.inj H
    go_enter Try.func106, Try.ntmps106
    go_wp2
    go_ret
    exact ⟨by first | rfl | (simp; done) | (simp [*]; done), by repeat (first | exact Drawn0.refl _ | apply Drawn0.step)⟩
  · replace c2 := Bool.eq_false_iff.mpr c2
    subst c2
    have H1 : (some 0) = some r := by rw [if_neg (show ¬ (false = true) by decide)] at H; exact H
    clear H
    have H := H1
    clear H1
    obtain rfl := Option.some.inj H
    go_enter Try.func106, Try.ntmps106
    go_wp2
    go_ret
    exact ⟨by first | rfl | (simp; done) | (simp [*]; done), by repeat (first | exact Drawn0.refl _ | apply Drawn0.step)⟩
def turn_Cycle.f (a0 : Int) : Option (Int) := some (IntKind.u64.wrap (Int.tdiv a0 4))
set_option maxHeartbeats 8000000 in
set_option maxRecDepth 100000 in
theorem turn_Cycle.calls (a0 : Int) (r : Int) (w : World) (h : turn_Cycle.f a0 = some r) :
    Calls Try.prog 112 #[.int .u64 a0] w fun e w' => e = .returned (.int .u64 r) ∧ Drawn0 w w' := by
  have H : (some (IntKind.u64.wrap (Int.tdiv a0 4))) = some r := h
  clear h
  obtain rfl := Option.some.inj H
  go_enter Try.func112, Try.ntmps112
  go_wp2
  go_ret
  exact ⟨by first | rfl | (simp; done) | (simp [*]; done), by repeat (first | exact Drawn0.refl _ | apply Drawn0.step)⟩
def turn_Black.f (a0 : Int) : Option (Int) := (turn_Cycle.f a0).bind fun t240 => (some (wrap64 (Int.tmod (IntKind.u64.wrap (t240 + 1)) 2)))
set_option maxHeartbeats 8000000 in
set_option maxRecDepth 100000 in
theorem turn_Black.calls (a0 : Int) (r : Int) (w : World) (h : turn_Black.f a0 = some r) :
    Calls Try.prog 107 #[.int .u64 a0] w fun e w' => e = .returned (.int .i64 r) ∧ Drawn0 w w' := by
  have H : ((turn_Cycle.f a0).bind fun t240 => (some (wrap64 (Int.tmod (IntKind.u64.wrap (t240 + 1)) 2)))) = some r := h
  clear h
  replace H := Option.bind_eq_some_iff.mp H
  obtain ⟨t240, A20, H⟩ := H
  replace H : (some (wrap64 (Int.tmod (IntKind.u64.wrap (t240 + 1)) 2))) = some r := H
  have A2 := Aside0.mk A20
  clear A20
  obtain rfl := Option.some.inj H
  go_enter Try.func107, Try.ntmps107
  go_wp2_with (first | ((with_reducible refine gate_callee (f := 112) rfl ?_); refine goesL_ (some 4) rfl rfl Try.func112 (by kernel_rfl) rfl #[.int .u64 a0] rfl (by (try simp only [List.map_toArray, List.map_cons, List.map_nil]); first | done | rfl | (simp only [List.length_drop, List.length_take]; rfl)) ?_; (with_reducible refine (turn_Cycle.calls a0 t240 _ A2.out).mono ?_); rintro e w' ⟨rfl, ⟨nd, rfl⟩⟩; refine ⟨_, rfl, ?_⟩))
  go_ret
  exact ⟨by first | rfl | (simp; done) | (simp [*]; done), by repeat (first | exact Drawn0.refl _ | apply Drawn0.step)⟩
def turn_Born.f (a0 : Int) : Option (Int) := if (Int.tmod a0 4) = 0 then ((turn_Black.f a0).bind fun t241 => (some (wrap64 (1 - t241)))) else ((turn_Black.f a0).bind fun t242 => (some t242))
set_option maxHeartbeats 8000000 in
set_option maxRecDepth 100000 in
theorem turn_Born.calls (a0 : Int) (r : Int) (w : World) (h : turn_Born.f a0 = some r) :
    Calls Try.prog 101 #[.int .u64 a0] w fun e w' => e = .returned (.int .i64 r) ∧ Drawn0 w w' := by
  have H : (if (Int.tmod a0 4) = 0 then ((turn_Black.f a0).bind fun t241 => (some (wrap64 (1 - t241)))) else ((turn_Black.f a0).bind fun t242 => (some t242))) = some r := h
  clear h
  by_cases c2 : (Int.tmod a0 4) = 0
  · rw [if_pos c2] at H
    have c2b0 : ((Int.tmod a0 4) == 0) = true := beq_iff_eq.mpr c2
    have c2b1 : ((Int.tmod a0 4) != 0) = false := bne_eq_false_iff_eq.mpr c2
    clear c2
    replace H := Option.bind_eq_some_iff.mp H
    obtain ⟨t241, A30, H⟩ := H
    replace H : (some (wrap64 (1 - t241))) = some r := H
    have A3 := Aside0.mk A30
    clear A30
    obtain rfl := Option.some.inj H
    go_enter Try.func101, Try.ntmps101
    go_wp2_with (first | ((with_reducible refine gate_callee (f := 107) rfl ?_); refine goesL_ (some 7) rfl rfl Try.func107 (by kernel_rfl) rfl #[.int .u64 a0] rfl (by (try simp only [List.map_toArray, List.map_cons, List.map_nil]); first | done | rfl | (simp only [List.length_drop, List.length_take]; rfl)) ?_; (with_reducible refine (turn_Black.calls a0 t241 _ A3.out).mono ?_); rintro e w' ⟨rfl, ⟨nd, rfl⟩⟩; refine ⟨_, rfl, ?_⟩))
    go_ret
    exact ⟨by first | rfl | (simp; done) | (simp [*]; done), by repeat (first | exact Drawn0.refl _ | apply Drawn0.step)⟩
  · rw [if_neg c2] at H
    have c2b0 : ((Int.tmod a0 4) == 0) = false := beq_eq_false_iff_ne.mpr c2
    have c2b1 : ((Int.tmod a0 4) != 0) = true := bne_iff_ne.mpr c2
    replace H := Option.bind_eq_some_iff.mp H
    obtain ⟨t242, A40, H⟩ := H
    replace H : (some t242) = some r := H
    have A4 := Aside0.mk A40
    clear A40
    obtain rfl := Option.some.inj H
    go_enter Try.func101, Try.ntmps101
    go_wp2_with (first | ((with_reducible refine gate_callee (f := 107) rfl ?_); refine goesL_ (some 10) rfl rfl Try.func107 (by kernel_rfl) rfl #[.int .u64 a0] rfl (by (try simp only [List.map_toArray, List.map_cons, List.map_nil]); first | done | rfl | (simp only [List.length_drop, List.length_take]; rfl)) ?_; (with_reducible refine (turn_Black.calls a0 t242 _ A4.out).mono ?_); rintro e w' ⟨rfl, ⟨nd, rfl⟩⟩; refine ⟨_, rfl, ?_⟩))
    go_ret
    exact ⟨by first | rfl | (simp; done) | (simp [*]; done), by repeat (first | exact Drawn0.refl _ | apply Drawn0.step)⟩
def withyref04_Pack.f (a0_0 : Int) (a0_1 : Int) (a0_2 : Bool) (a0_3 : Int) (a0_4 : Int) (a0_5 : Int) : Option (Int) := if a0_2 = true then (some (IntKind.u64.wrap ((IntKind.u64.wrap ((IntKind.u64.wrap ((IntKind.u64.wrap ((IntKind.u64.wrap ((IntKind.u64.wrap (a0_0)) + (IntKind.u64.wrap (8 * (IntKind.u64.wrap (a0_1)))))) + (IntKind.u64.wrap (32 * (IntKind.u64.wrap (a0_3)))))) + (IntKind.u64.wrap (65536 * (IntKind.u64.wrap (a0_4)))))) + (IntKind.u64.wrap (281474976710656 * (IntKind.u64.wrap (a0_5)))))) + 16))) else (some (IntKind.u64.wrap ((IntKind.u64.wrap ((IntKind.u64.wrap ((IntKind.u64.wrap ((IntKind.u64.wrap (a0_0)) + (IntKind.u64.wrap (8 * (IntKind.u64.wrap (a0_1)))))) + (IntKind.u64.wrap (32 * (IntKind.u64.wrap (a0_3)))))) + (IntKind.u64.wrap (65536 * (IntKind.u64.wrap (a0_4)))))) + (IntKind.u64.wrap (281474976710656 * (IntKind.u64.wrap (a0_5)))))))
set_option maxHeartbeats 8000000 in
set_option maxRecDepth 100000 in
theorem withyref04_Pack.calls (a0_0 : Int) (a0_1 : Int) (a0_2 : Bool) (a0_3 : Int) (a0_4 : Int) (a0_5 : Int) (r : Int) (w : World) (h : withyref04_Pack.f a0_0 a0_1 a0_2 a0_3 a0_4 a0_5 = some r) :
    Calls Try.prog 58 #[.agg #[.int .i64 a0_0, .int .i64 a0_1, .bool a0_2, .int .i64 a0_3, .int .i64 a0_4, .int .i64 a0_5]] w fun e w' => e = .returned (.int .u64 r) ∧ Below w.heap.size w w' := by
  have hu85 := Try.underlying85
  have HB := Aside0.mk (Below.refl w.heap.size w)
  have H : (if a0_2 = true then (some (IntKind.u64.wrap ((IntKind.u64.wrap ((IntKind.u64.wrap ((IntKind.u64.wrap ((IntKind.u64.wrap ((IntKind.u64.wrap (a0_0)) + (IntKind.u64.wrap (8 * (IntKind.u64.wrap (a0_1)))))) + (IntKind.u64.wrap (32 * (IntKind.u64.wrap (a0_3)))))) + (IntKind.u64.wrap (65536 * (IntKind.u64.wrap (a0_4)))))) + (IntKind.u64.wrap (281474976710656 * (IntKind.u64.wrap (a0_5)))))) + 16))) else (some (IntKind.u64.wrap ((IntKind.u64.wrap ((IntKind.u64.wrap ((IntKind.u64.wrap ((IntKind.u64.wrap (a0_0)) + (IntKind.u64.wrap (8 * (IntKind.u64.wrap (a0_1)))))) + (IntKind.u64.wrap (32 * (IntKind.u64.wrap (a0_3)))))) + (IntKind.u64.wrap (65536 * (IntKind.u64.wrap (a0_4)))))) + (IntKind.u64.wrap (281474976710656 * (IntKind.u64.wrap (a0_5)))))))) = some r := h
  clear h
  by_cases c2 : a0_2 = true
  · subst c2
    have H1 : (some (IntKind.u64.wrap ((IntKind.u64.wrap ((IntKind.u64.wrap ((IntKind.u64.wrap ((IntKind.u64.wrap ((IntKind.u64.wrap (a0_0)) + (IntKind.u64.wrap (8 * (IntKind.u64.wrap (a0_1)))))) + (IntKind.u64.wrap (32 * (IntKind.u64.wrap (a0_3)))))) + (IntKind.u64.wrap (65536 * (IntKind.u64.wrap (a0_4)))))) + (IntKind.u64.wrap (281474976710656 * (IntKind.u64.wrap (a0_5)))))) + 16))) = some r := by rw [if_pos rfl] at H; exact H
    clear H
    have H := H1
    clear H1
    obtain rfl := Option.some.inj H
    go_enter Try.func58, Try.ntmps58
    go_wp2_with (first | ((with_reducible refine gate_dst (N := 1) rfl ?_); refine box_event ?hg (N := 1) ?hd (cs := #[.int .i64 a0_0, .int .i64 a0_1, .bool true, .int .i64 a0_3, .int .i64 a0_4, .int .i64 a0_5]) (t := 85) ?hr ?_; (case hd => rfl); (case hg => rfl); (case hr => first | (go_simp; done) | (go_simp; rfl)); intro gb244 hg w3 hbox hb; have n0_ := Aside0.mk (below_step (by repeat (first | (with_reducible first | exact HB.out | apply below_alloc | apply pw_below_drewN | apply below_drew1) | exact HB.out)) hb); have n1_ := Aside0.mk (hbox); have n2_ := Aside0.mk ((by rw [hg]; exact (below_size (by repeat (first | (with_reducible first | exact HB.out | apply below_alloc | apply pw_below_drewN | apply below_drew1) | exact HB.out))) : w.heap.size ≤ gb244)); have n3_ := Aside0.mk ((by rw [hg]; exact (below_size (by repeat (first | (with_reducible first | exact HB.out | apply below_alloc | apply pw_below_drewN | apply below_drew1) | exact HB.out))) : w.heap.size ≤ gb244)); clear HB; have HB := n0_; have BK244 := n1_; have GW244 := n2_; have GE244 := n3_; clear n0_ n1_ n2_ n3_; clear hb hbox hg; have hcz4_0 : w3.cell? ⟨gb244, 0, none⟩ = some (.int .i64 a0_0) := (blk_cell BK244.out 0).trans rfl; have hcz4_1 : w3.cell? ⟨gb244, 1, none⟩ = some (.int .i64 a0_1) := (blk_cell BK244.out 1).trans rfl; have hcz4_2 : w3.cell? ⟨gb244, 2, none⟩ = some (.bool true) := (blk_cell BK244.out 2).trans rfl; have hcz4_3 : w3.cell? ⟨gb244, 3, none⟩ = some (.int .i64 a0_3) := (blk_cell BK244.out 3).trans rfl; have hcz4_4 : w3.cell? ⟨gb244, 4, none⟩ = some (.int .i64 a0_4) := (blk_cell BK244.out 4).trans rfl; have hcz4_5 : w3.cell? ⟨gb244, 5, none⟩ = some (.int .i64 a0_5) := (blk_cell BK244.out 5).trans rfl; have hfz4_0 := blk_frozen BK244.out 0; have hfz4_1 := blk_frozen BK244.out 1; have hfz4_2 := blk_frozen BK244.out 2; have hfz4_3 := blk_frozen BK244.out 3; have hfz4_4 := blk_frozen BK244.out 4; have hfz4_5 := blk_frozen BK244.out 5))
    go_ret
    exact ⟨by first | rfl | (simp [errW_none, errW_some] <;> rfl) | (simp [*, errW_none, errW_some] <;> rfl), by repeat (first | (with_reducible first | exact HB.out | apply below_alloc | apply pw_below_drewN | apply below_drew1 | refine below_set ?_ GE244.out) | exact HB.out)⟩
  · replace c2 := Bool.eq_false_iff.mpr c2
    subst c2
    have H1 : (some (IntKind.u64.wrap ((IntKind.u64.wrap ((IntKind.u64.wrap ((IntKind.u64.wrap ((IntKind.u64.wrap (a0_0)) + (IntKind.u64.wrap (8 * (IntKind.u64.wrap (a0_1)))))) + (IntKind.u64.wrap (32 * (IntKind.u64.wrap (a0_3)))))) + (IntKind.u64.wrap (65536 * (IntKind.u64.wrap (a0_4)))))) + (IntKind.u64.wrap (281474976710656 * (IntKind.u64.wrap (a0_5))))))) = some r := by rw [if_neg (show ¬ (false = true) by decide)] at H; exact H
    clear H
    have H := H1
    clear H1
    obtain rfl := Option.some.inj H
    go_enter Try.func58, Try.ntmps58
    go_wp2_with (first | ((with_reducible refine gate_dst (N := 1) rfl ?_); refine box_event ?hg (N := 1) ?hd (cs := #[.int .i64 a0_0, .int .i64 a0_1, .bool false, .int .i64 a0_3, .int .i64 a0_4, .int .i64 a0_5]) (t := 85) ?hr ?_; (case hd => rfl); (case hg => rfl); (case hr => first | (go_simp; done) | (go_simp; rfl)); intro gb244 hg w5 hbox hb; have n0_ := Aside0.mk (below_step (by repeat (first | (with_reducible first | exact HB.out | apply below_alloc | apply pw_below_drewN | apply below_drew1) | exact HB.out)) hb); have n1_ := Aside0.mk (hbox); have n2_ := Aside0.mk ((by rw [hg]; exact (below_size (by repeat (first | (with_reducible first | exact HB.out | apply below_alloc | apply pw_below_drewN | apply below_drew1) | exact HB.out))) : w.heap.size ≤ gb244)); have n3_ := Aside0.mk ((by rw [hg]; exact (below_size (by repeat (first | (with_reducible first | exact HB.out | apply below_alloc | apply pw_below_drewN | apply below_drew1) | exact HB.out))) : w.heap.size ≤ gb244)); clear HB; have HB := n0_; have BK244 := n1_; have GW244 := n2_; have GE244 := n3_; clear n0_ n1_ n2_ n3_; clear hb hbox hg; have hcz6_0 : w5.cell? ⟨gb244, 0, none⟩ = some (.int .i64 a0_0) := (blk_cell BK244.out 0).trans rfl; have hcz6_1 : w5.cell? ⟨gb244, 1, none⟩ = some (.int .i64 a0_1) := (blk_cell BK244.out 1).trans rfl; have hcz6_2 : w5.cell? ⟨gb244, 2, none⟩ = some (.bool false) := (blk_cell BK244.out 2).trans rfl; have hcz6_3 : w5.cell? ⟨gb244, 3, none⟩ = some (.int .i64 a0_3) := (blk_cell BK244.out 3).trans rfl; have hcz6_4 : w5.cell? ⟨gb244, 4, none⟩ = some (.int .i64 a0_4) := (blk_cell BK244.out 4).trans rfl; have hcz6_5 : w5.cell? ⟨gb244, 5, none⟩ = some (.int .i64 a0_5) := (blk_cell BK244.out 5).trans rfl; have hfz6_0 := blk_frozen BK244.out 0; have hfz6_1 := blk_frozen BK244.out 1; have hfz6_2 := blk_frozen BK244.out 2; have hfz6_3 := blk_frozen BK244.out 3; have hfz6_4 := blk_frozen BK244.out 4; have hfz6_5 := blk_frozen BK244.out 5))
    go_ret
    exact ⟨by first | rfl | (simp [errW_none, errW_some] <;> rfl) | (simp [*, errW_none, errW_some] <;> rfl), by repeat (first | (with_reducible first | exact HB.out | apply below_alloc | apply pw_below_drewN | apply below_drew1 | refine below_set ?_ GE244.out) | exact HB.out)⟩
end Go.Proofs.Ytijfkpoofpcacaa.PArenaPlays
end
namespace Go.Proofs.Ytijfkpoofpcacaa.PwArenaPlays
end Go.Proofs.Ytijfkpoofpcacaa.PwArenaPlays
section
namespace Go.Proofs.Ytijfkpoofpcacaa.HeadC
open Go.RowKit Go.Proofs.Ytijfkpoofpcacaa.PArenaPlays Go.Proofs.YtijfkpoofpcacaaW.PrintWords Go.Proofs.YtijfkpoofpcacaaW.PrintLast Go.Proofs.Ytijfkpoofpcacaa.Core Go.Proofs.Ytijfkpoofpcacaa.PuArenaPlays Go.Proofs.Ytijfkpoofpcacaa.PvArenaPlays
def headB (k m a n s : Int) : Bool := decide (0 ≤ k ∧ k ≤ 4 ∧ 0 ≤ m ∧ m ≤ 1 ∧ 0 ≤ a ∧ a ≤ 15 ∧ 0 ≤ n ∧ n ≤ 4294967295 ∧ 0 ≤ s ∧ s ≤ 65535)
def headN (k m : Int) (g : Bool) (a n s : Int) : Int := k + 8 * m + (if g = true then 16 else 0) + 32 * a + 65536 * n + 281474976710656 * s
def packV (k m : Int) (g : Bool) (a n s : Int) : Int × Bool := if headB k m a n s = true then (headN k m g a n s, true) else (0, false)
def bitI (g : Bool) : Int := if g = true then 1 else 0
def rowV (k m : Int) (g : Bool) (a n s : Int) : List S153 := [⟨3, IntKind.u64.wrap k⟩, ⟨1, IntKind.u64.wrap m⟩, ⟨1, bitI g⟩, ⟨4, IntKind.u64.wrap a⟩, ⟨7, 0⟩, ⟨32, IntKind.u64.wrap n⟩, ⟨16, IntKind.u64.wrap s⟩]
theorem bit_c (g : Bool) (w : World) : Calls Try.prog 106 #[.bool g] w fun e w' => e = .returned (.int .u64 (bitI g)) ∧ Drawn0 w w' :=
  head_bit.calls g _ w (by unfold head_bit.f bitI; split <;> rfl)
theorem flat2 {α : Type} (f : α → List Value) (h2 : ∀ x, (f x).length = 2) (l : List α) : ∀ (j i : Nat) (p : α), l[j]? = some p → i < 2 → (l.flatMap f)[j * 2 + i]? = (f p)[i]? := by
  induction l with
  | nil => intro j i p h; simp at h
  | cons a l ih =>
    intro j i p h hi
    rw [List.flatMap_cons]
    match j, h with
    | 0, h =>
      simp at h; subst h
      rw [List.getElem?_append_left (by rw [h2]; omega)]
      simp
    | j + 1, h =>
      rw [List.getElem?_cons_succ] at h
      rw [List.getElem?_append_right (by rw [h2]; omega), h2, show (j + 1) * 2 + i - 2 = j * 2 + i from by omega]
      exact ih j i p h hi
theorem bits_row (W : World) (b : Nat) (l : List S153) (cs : Array Value) (t : TypeId) (hh : W.heap[b]? = some (.cells cs t (0, 0))) (hc : cs.toList = l.flatMap fun x => [.int .i64 x.f0, .int .u64 x.f1]) (hl : l.length ≤ 9223372036854775807) : Kd.C k153 W (some ⟨b, 0, none⟩) l.length l := by
  refine ⟨rfl, hl, fun _ => ⟨_, rfl, fun j p hj => ⟨[.int .i64 p.f0, .int .u64 p.f1], rfl, ⟨[.int .i64 p.f0], [.int .u64 p.f1], rfl, rfl, rfl⟩, fun i u hi => ?_⟩⟩⟩
  have hi2 : i < 2 := by
    have := (List.getElem?_eq_some_iff.1 hi).1
    simpa using this
  have h1 := flat2 (fun x : S153 => [Value.int .i64 x.f0, Value.int .u64 x.f1]) (fun _ => rfl) l j i p hj hi2
  rw [← hc, Array.getElem?_toList] at h1
  have e : (⟨b, 0, none⟩ : Addr).add (j * 2 + i) = ⟨b, j * 2 + i, none⟩ := by unfold Addr.add; split <;> simp_all
  show W.cell? ((⟨b, 0, none⟩ : Addr).add (j * 2 + i)) = some u
  rw [e]
  simp only [World.cell?, hh]
  rw [h1]
  simpa using hi
theorem heap_at (W : World) (o : Obj) (b : Nat) (h : W.heap.size = b) : (W.alloc o).heap[b]? = some o := by subst h; exact heap_alloc_new W o
theorem pack_eq (k m : Int) (g : Bool) (a n s : Int) (h1 : 0 ≤ k ∧ k < 9223372036854775808) (h2 : 0 ≤ m ∧ m < 9223372036854775808) (h3 : 0 ≤ a ∧ a < 9223372036854775808) (h4 : 0 ≤ n ∧ n < 9223372036854775808) (h5 : 0 ≤ s ∧ s < 9223372036854775808) :
    word_Pack.f 8 (rowV k m g a n s) = some (packF (rowV k m g a n s) 0 0) ∧ packV k m g a n s = if (packF (rowV k m g a n s) 0 0).2 = true ∧ k ≤ 4 then ((packF (rowV k m g a n s) 0 0).1, true) else (0, false) := by
  have hg : 0 ≤ bitI g ∧ bitI g < 2 := by unfold bitI; split <;> decide
  have e1 := wrap_u64_id k (by omega) (by omega)
  have e2 := wrap_u64_id m (by omega) (by omega)
  have e3 := wrap_u64_id a (by omega) (by omega)
  have e4 := wrap_u64_id n (by omega) (by omega)
  have e5 := wrap_u64_id s (by omega) (by omega)
  constructor
  · refine p_Pack 8 _ (by simp [rowV]) (by simp [rowV]) ?_
    intro b hb
    simp only [rowV, List.mem_cons, List.not_mem_nil, or_false] at hb
    rcases hb with rfl | rfl | rfl | rfl | rfl | rfl | rfl <;> simp only [e1, e2, e3, e4, e5] <;> omega
  · unfold rowV
    rw [e1, e2, e3, e4, e5]
    have no : ¬ (0 ≤ k ∧ k ≤ 4 ∧ 0 ≤ m ∧ m ≤ 1 ∧ 0 ≤ a ∧ a ≤ 15 ∧ 0 ≤ n ∧ n ≤ 4294967295 ∧ 0 ≤ s ∧ s ≤ 65535) → packV k m g a n s = (0, false) := by
      intro h; unfold packV headB; rw [if_neg (by simpa using h)]
    by_cases c1 : k < 8
    · rw [packF_yes (by decide) (by simp [fitsB]; omega)]
      by_cases c2 : m < 2
      · rw [packF_yes (by decide) (by simp [fitsB]; omega), packF_yes (by decide) (by simp [fitsB]; omega)]
        by_cases c3 : a < 16
        · rw [packF_yes (by decide) (by simp [fitsB]; omega), packF_yes (by decide) (by decide)]
          by_cases c4 : n < 4294967296
          · rw [packF_yes (by decide) (by simp [fitsB]; omega)]
            by_cases c5 : s < 65536
            · rw [packF_yes (by decide) (by simp [fitsB]; omega)]
              by_cases c6 : k ≤ 4
              · rw [if_pos ⟨rfl, c6⟩]
                unfold packV headB
                rw [if_pos (by simp; omega)]
                simp only [packF, headN, bitI]
                simp
                split <;> omega
              · rw [if_neg (fun h => c6 h.2), no (by omega)]
            · rw [packF_no (by simp [fitsB]; omega), if_neg (by simp), no (by omega)]
          · rw [packF_no (by simp [fitsB]; omega), if_neg (by simp), no (by omega)]
        · rw [packF_no (by simp [fitsB]; omega), if_neg (by simp), no (by omega)]
      · rw [packF_no (by simp [fitsB]; omega), if_neg (by simp), no (by omega)]
    · rw [packF_no (by simp [fitsB]; omega), if_neg (by simp), no (by omega)]
set_option maxHeartbeats 2000000 in
theorem pack_pos (k m : Int) (g : Bool) (a n s : Int) (h1 : 0 ≤ k ∧ k < 9223372036854775808) (h2 : 0 ≤ m ∧ m < 9223372036854775808) (h3 : 0 ≤ a ∧ a < 9223372036854775808) (h4 : 0 ≤ n ∧ n < 9223372036854775808) (h5 : 0 ≤ s ∧ s < 9223372036854775808) (w : World) :
    Calls Try.prog 100 #[.agg #[.int .i64 k, .int .i64 m, .bool g, .int .i64 a, .int .i64 n, .int .i64 s]] w fun e w' => e = .returned (.tuple #[.int .u64 (packV k m g a n s).1, .bool (packV k m g a n s).2]) ∧ Below w.heap.size w w' := by
  obtain ⟨hp, hv⟩ := pack_eq k m g a n s h1 h2 h3 h4 h5
  generalize packF (rowV k m g a n s) 0 0 = r at hp hv
  obtain ⟨r1, r2⟩ := r
  have HP := Lib.hid hp
  have HV := Lib.hid hv
  clear hp hv
  obtain ⟨h1, h1'⟩ := h1
  obtain ⟨h2, h2'⟩ := h2
  obtain ⟨h3, h3'⟩ := h3
  obtain ⟨h4, h4'⟩ := h4
  obtain ⟨h5, h5'⟩ := h5
  have i0 : ∀ w, (Instr.index 157 (.agg #[.int .i64 k, .int .i64 m, .int .i64 a, .int .i64 n, .int .i64 s]) (.int .i64 0)).run Try.prog w = .ok (.int .i64 k) w := fun _ => by kernel_rfl
  have i1 : ∀ w, (Instr.index 157 (.agg #[.int .i64 k, .int .i64 m, .int .i64 a, .int .i64 n, .int .i64 s]) (.int .i64 1)).run Try.prog w = .ok (.int .i64 m) w := fun _ => by kernel_rfl
  have i2 : ∀ w, (Instr.index 157 (.agg #[.int .i64 k, .int .i64 m, .int .i64 a, .int .i64 n, .int .i64 s]) (.int .i64 2)).run Try.prog w = .ok (.int .i64 a) w := fun _ => by kernel_rfl
  have i3 : ∀ w, (Instr.index 157 (.agg #[.int .i64 k, .int .i64 m, .int .i64 a, .int .i64 n, .int .i64 s]) (.int .i64 3)).run Try.prog w = .ok (.int .i64 n) w := fun _ => by kernel_rfl
  have i4 : ∀ w, (Instr.index 157 (.agg #[.int .i64 k, .int .i64 m, .int .i64 a, .int .i64 n, .int .i64 s]) (.int .i64 4)).run Try.prog w = .ok (.int .i64 s) w := fun _ => by kernel_rfl
  go_enter Try.func100, Try.ntmps100
  go_wp2
  go_loop [19] (fun u => ∃ j : Nat, j ≤ 5 ∧ u = .int .i64 (j : Int)) (fun u => 5 - (intOf u).toNat)
  case atStart => exact ⟨0, by omega, rfl⟩
  case round =>
    obtain ⟨j, hj, rfl⟩ := hrel
    match j, hj with
    | 0, _ =>
      clear i1 i2 i3 i4
      go_wp2
      go_round
      case rel => exact ⟨1, by omega, rfl⟩
      case measure => simp [intOf]
    | 1, _ =>
      clear i0 i2 i3 i4
      go_wp2
      go_round
      case rel => exact ⟨2, by omega, rfl⟩
      case measure => simp [intOf]
    | 2, _ =>
      clear i0 i1 i3 i4
      go_wp2
      go_round
      case rel => exact ⟨3, by omega, rfl⟩
      case measure => simp [intOf]
    | 3, _ =>
      clear i0 i1 i2 i4
      go_wp2
      go_round
      case rel => exact ⟨4, by omega, rfl⟩
      case measure => simp [intOf]
    | 4, _ =>
      clear i0 i1 i2 i3
      go_wp2
      go_round
      case rel => exact ⟨5, by omega, rfl⟩
      case measure => simp [intOf]
    | 5, _ =>
      clear i0 i1 i2 i3 i4
      go_wp2
      go_region_held3 (fun w' => w'.cell? ⟨w.heap.size, 0, none⟩ = some (.int .i64 k) ∧ w'.cell? ⟨w.heap.size, 1, none⟩ = some (.int .i64 m) ∧ w'.cell? ⟨w.heap.size, 2, none⟩ = some (.bool g) ∧ w'.cell? ⟨w.heap.size, 3, none⟩ = some (.int .i64 a) ∧ w'.cell? ⟨w.heap.size, 4, none⟩ = some (.int .i64 n) ∧ w'.cell? ⟨w.heap.size, 5, none⟩ = some (.int .i64 s)) (first | assumption | (simp [go_sem, World.cell?_alloc_past]; done))
        (first
          | (go_at_call 106; refine (bit_c g _).mono ?_; rintro e w' ⟨rfl, ⟨nd, rfl⟩⟩)
          | (go_at_call 103; refine (word_Pack.calls 8 _ 7 (rowV k m g a n s) r1 r2 _ (bits_row _ _ (rowV k m g a n s) _ 153 (heap_at _ _ _ (by simp)) rfl (by simp [rowV])) (by simp [rowV]) HP.out).mono ?_; rintro e w1 ⟨rfl, hb⟩; have hS : w1.cell? ⟨w.heap.size, 0, none⟩ = some (.int .i64 k) ∧ w1.cell? ⟨w.heap.size, 1, none⟩ = some (.int .i64 m) ∧ w1.cell? ⟨w.heap.size, 2, none⟩ = some (.bool g) ∧ w1.cell? ⟨w.heap.size, 3, none⟩ = some (.int .i64 a) ∧ w1.cell? ⟨w.heap.size, 4, none⟩ = some (.int .i64 n) ∧ w1.cell? ⟨w.heap.size, 5, none⟩ = some (.int .i64 s) := (by refine ⟨?_, ?_, ?_, ?_, ?_, ?_⟩ <;> (refine (hb.cell ?_).trans ?_ <;> simp [go_sem, World.cell?_alloc_past] <;> omega)); replace hb := Lib.hid hb))
      obtain ⟨q0, q1, q2, q3, q4, q5⟩ := hS
      have hB : Hid (Below w.heap.size w w1) := Lib.hid (((pw_below_drewN ((Below.refl _ _).alloc (Nat.le_refl _) _) _).alloc (by simp) _).trans (hb.out.mono (by simp <;> omega)))
      clear hb q1 q2 q3 q4 q5
      cases r2 with
      | false =>
        go_wp2
        go_ret2
        exact ⟨by rw [HV.out]; rfl, hB.out⟩
      | true =>
        by_cases hk : k ≤ 4
        · go_wp2
          go_ret2
          exact ⟨by rw [HV.out, if_pos ⟨trivial, hk⟩]; rfl, hB.out⟩
        · go_wp2
          go_ret2
          exact ⟨by rw [HV.out, if_neg (fun h => absurd h.2 (by omega))]; rfl, hB.out⟩
theorem packV_neg (k m : Int) (g : Bool) (a n s : Int) (h : ¬ (0 ≤ k ∧ 0 ≤ m ∧ 0 ≤ a ∧ 0 ≤ n ∧ 0 ≤ s)) : packV k m g a n s = (0, false) := by
  unfold packV headB; rw [if_neg (by simp; omega)]
set_option maxHeartbeats 2000000 in
theorem pack_neg0 (k m : Int) (g : Bool) (a n s : Int)  (h : k < 0) (w : World) :
    Calls Try.prog 100 #[.agg #[.int .i64 k, .int .i64 m, .bool g, .int .i64 a, .int .i64 n, .int .i64 s]] w fun e w' => e = .returned (.tuple #[.int .u64 0, .bool false]) ∧ Below w.heap.size w w' := by
  have i0 : ∀ w, (Instr.index 157 (.agg #[.int .i64 k, .int .i64 m, .int .i64 a, .int .i64 n, .int .i64 s]) (.int .i64 0)).run Try.prog w = .ok (.int .i64 k) w := fun _ => by kernel_rfl
  go_enter Try.func100, Try.ntmps100
  go_wp2
  go_loop [19] (fun u => ∃ j : Nat, j ≤ 0 ∧ u = .int .i64 (j : Int)) (fun u => 0 - (intOf u).toNat)
  case atStart => exact ⟨0, by omega, rfl⟩
  case round =>
    obtain ⟨j, hj, rfl⟩ := hrel
    match j, hj with
    | 0, _ =>
      skip
      go_wp2
      go_ret2
      exact ⟨rfl, (Below.refl _ _).alloc (Nat.le_refl _) _⟩
set_option maxHeartbeats 2000000 in
theorem pack_neg1 (k m : Int) (g : Bool) (a n s : Int) (h1 : 0 ≤ k) (h : m < 0) (w : World) :
    Calls Try.prog 100 #[.agg #[.int .i64 k, .int .i64 m, .bool g, .int .i64 a, .int .i64 n, .int .i64 s]] w fun e w' => e = .returned (.tuple #[.int .u64 0, .bool false]) ∧ Below w.heap.size w w' := by
  have i0 : ∀ w, (Instr.index 157 (.agg #[.int .i64 k, .int .i64 m, .int .i64 a, .int .i64 n, .int .i64 s]) (.int .i64 0)).run Try.prog w = .ok (.int .i64 k) w := fun _ => by kernel_rfl
  have i1 : ∀ w, (Instr.index 157 (.agg #[.int .i64 k, .int .i64 m, .int .i64 a, .int .i64 n, .int .i64 s]) (.int .i64 1)).run Try.prog w = .ok (.int .i64 m) w := fun _ => by kernel_rfl
  go_enter Try.func100, Try.ntmps100
  go_wp2
  go_loop [19] (fun u => ∃ j : Nat, j ≤ 1 ∧ u = .int .i64 (j : Int)) (fun u => 1 - (intOf u).toNat)
  case atStart => exact ⟨0, by omega, rfl⟩
  case round =>
    obtain ⟨j, hj, rfl⟩ := hrel
    match j, hj with
    | 0, _ =>
      clear i1
      go_wp2
      go_round
      case rel => exact ⟨1, by omega, rfl⟩
      case measure => simp [intOf]
    | 1, _ =>
      clear i0
      go_wp2
      go_ret2
      exact ⟨rfl, (Below.refl _ _).alloc (Nat.le_refl _) _⟩
set_option maxHeartbeats 2000000 in
theorem pack_neg2 (k m : Int) (g : Bool) (a n s : Int) (h1 : 0 ≤ k) (h2 : 0 ≤ m) (h : a < 0) (w : World) :
    Calls Try.prog 100 #[.agg #[.int .i64 k, .int .i64 m, .bool g, .int .i64 a, .int .i64 n, .int .i64 s]] w fun e w' => e = .returned (.tuple #[.int .u64 0, .bool false]) ∧ Below w.heap.size w w' := by
  have i0 : ∀ w, (Instr.index 157 (.agg #[.int .i64 k, .int .i64 m, .int .i64 a, .int .i64 n, .int .i64 s]) (.int .i64 0)).run Try.prog w = .ok (.int .i64 k) w := fun _ => by kernel_rfl
  have i1 : ∀ w, (Instr.index 157 (.agg #[.int .i64 k, .int .i64 m, .int .i64 a, .int .i64 n, .int .i64 s]) (.int .i64 1)).run Try.prog w = .ok (.int .i64 m) w := fun _ => by kernel_rfl
  have i2 : ∀ w, (Instr.index 157 (.agg #[.int .i64 k, .int .i64 m, .int .i64 a, .int .i64 n, .int .i64 s]) (.int .i64 2)).run Try.prog w = .ok (.int .i64 a) w := fun _ => by kernel_rfl
  go_enter Try.func100, Try.ntmps100
  go_wp2
  go_loop [19] (fun u => ∃ j : Nat, j ≤ 2 ∧ u = .int .i64 (j : Int)) (fun u => 2 - (intOf u).toNat)
  case atStart => exact ⟨0, by omega, rfl⟩
  case round =>
    obtain ⟨j, hj, rfl⟩ := hrel
    match j, hj with
    | 0, _ =>
      clear i1 i2
      go_wp2
      go_round
      case rel => exact ⟨1, by omega, rfl⟩
      case measure => simp [intOf]
    | 1, _ =>
      clear i0 i2
      go_wp2
      go_round
      case rel => exact ⟨2, by omega, rfl⟩
      case measure => simp [intOf]
    | 2, _ =>
      clear i0 i1
      go_wp2
      go_ret2
      exact ⟨rfl, (Below.refl _ _).alloc (Nat.le_refl _) _⟩
set_option maxHeartbeats 2000000 in
theorem pack_neg3 (k m : Int) (g : Bool) (a n s : Int) (h1 : 0 ≤ k) (h2 : 0 ≤ m) (h3 : 0 ≤ a) (h : n < 0) (w : World) :
    Calls Try.prog 100 #[.agg #[.int .i64 k, .int .i64 m, .bool g, .int .i64 a, .int .i64 n, .int .i64 s]] w fun e w' => e = .returned (.tuple #[.int .u64 0, .bool false]) ∧ Below w.heap.size w w' := by
  have i0 : ∀ w, (Instr.index 157 (.agg #[.int .i64 k, .int .i64 m, .int .i64 a, .int .i64 n, .int .i64 s]) (.int .i64 0)).run Try.prog w = .ok (.int .i64 k) w := fun _ => by kernel_rfl
  have i1 : ∀ w, (Instr.index 157 (.agg #[.int .i64 k, .int .i64 m, .int .i64 a, .int .i64 n, .int .i64 s]) (.int .i64 1)).run Try.prog w = .ok (.int .i64 m) w := fun _ => by kernel_rfl
  have i2 : ∀ w, (Instr.index 157 (.agg #[.int .i64 k, .int .i64 m, .int .i64 a, .int .i64 n, .int .i64 s]) (.int .i64 2)).run Try.prog w = .ok (.int .i64 a) w := fun _ => by kernel_rfl
  have i3 : ∀ w, (Instr.index 157 (.agg #[.int .i64 k, .int .i64 m, .int .i64 a, .int .i64 n, .int .i64 s]) (.int .i64 3)).run Try.prog w = .ok (.int .i64 n) w := fun _ => by kernel_rfl
  go_enter Try.func100, Try.ntmps100
  go_wp2
  go_loop [19] (fun u => ∃ j : Nat, j ≤ 3 ∧ u = .int .i64 (j : Int)) (fun u => 3 - (intOf u).toNat)
  case atStart => exact ⟨0, by omega, rfl⟩
  case round =>
    obtain ⟨j, hj, rfl⟩ := hrel
    match j, hj with
    | 0, _ =>
      clear i1 i2 i3
      go_wp2
      go_round
      case rel => exact ⟨1, by omega, rfl⟩
      case measure => simp [intOf]
    | 1, _ =>
      clear i0 i2 i3
      go_wp2
      go_round
      case rel => exact ⟨2, by omega, rfl⟩
      case measure => simp [intOf]
    | 2, _ =>
      clear i0 i1 i3
      go_wp2
      go_round
      case rel => exact ⟨3, by omega, rfl⟩
      case measure => simp [intOf]
    | 3, _ =>
      clear i0 i1 i2
      go_wp2
      go_ret2
      exact ⟨rfl, (Below.refl _ _).alloc (Nat.le_refl _) _⟩
set_option maxHeartbeats 2000000 in
theorem pack_neg4 (k m : Int) (g : Bool) (a n s : Int) (h1 : 0 ≤ k) (h2 : 0 ≤ m) (h3 : 0 ≤ a) (h4 : 0 ≤ n) (h : s < 0) (w : World) :
    Calls Try.prog 100 #[.agg #[.int .i64 k, .int .i64 m, .bool g, .int .i64 a, .int .i64 n, .int .i64 s]] w fun e w' => e = .returned (.tuple #[.int .u64 0, .bool false]) ∧ Below w.heap.size w w' := by
  have i0 : ∀ w, (Instr.index 157 (.agg #[.int .i64 k, .int .i64 m, .int .i64 a, .int .i64 n, .int .i64 s]) (.int .i64 0)).run Try.prog w = .ok (.int .i64 k) w := fun _ => by kernel_rfl
  have i1 : ∀ w, (Instr.index 157 (.agg #[.int .i64 k, .int .i64 m, .int .i64 a, .int .i64 n, .int .i64 s]) (.int .i64 1)).run Try.prog w = .ok (.int .i64 m) w := fun _ => by kernel_rfl
  have i2 : ∀ w, (Instr.index 157 (.agg #[.int .i64 k, .int .i64 m, .int .i64 a, .int .i64 n, .int .i64 s]) (.int .i64 2)).run Try.prog w = .ok (.int .i64 a) w := fun _ => by kernel_rfl
  have i3 : ∀ w, (Instr.index 157 (.agg #[.int .i64 k, .int .i64 m, .int .i64 a, .int .i64 n, .int .i64 s]) (.int .i64 3)).run Try.prog w = .ok (.int .i64 n) w := fun _ => by kernel_rfl
  have i4 : ∀ w, (Instr.index 157 (.agg #[.int .i64 k, .int .i64 m, .int .i64 a, .int .i64 n, .int .i64 s]) (.int .i64 4)).run Try.prog w = .ok (.int .i64 s) w := fun _ => by kernel_rfl
  go_enter Try.func100, Try.ntmps100
  go_wp2
  go_loop [19] (fun u => ∃ j : Nat, j ≤ 4 ∧ u = .int .i64 (j : Int)) (fun u => 4 - (intOf u).toNat)
  case atStart => exact ⟨0, by omega, rfl⟩
  case round =>
    obtain ⟨j, hj, rfl⟩ := hrel
    match j, hj with
    | 0, _ =>
      clear i1 i2 i3 i4
      go_wp2
      go_round
      case rel => exact ⟨1, by omega, rfl⟩
      case measure => simp [intOf]
    | 1, _ =>
      clear i0 i2 i3 i4
      go_wp2
      go_round
      case rel => exact ⟨2, by omega, rfl⟩
      case measure => simp [intOf]
    | 2, _ =>
      clear i0 i1 i3 i4
      go_wp2
      go_round
      case rel => exact ⟨3, by omega, rfl⟩
      case measure => simp [intOf]
    | 3, _ =>
      clear i0 i1 i2 i4
      go_wp2
      go_round
      case rel => exact ⟨4, by omega, rfl⟩
      case measure => simp [intOf]
    | 4, _ =>
      clear i0 i1 i2 i3
      go_wp2
      go_ret2
      exact ⟨rfl, (Below.refl _ _).alloc (Nat.le_refl _) _⟩
theorem pack_c (k m : Int) (g : Bool) (a n s : Int) (h1 : k < 9223372036854775808) (h2 : m < 9223372036854775808) (h3 : a < 9223372036854775808) (h4 : n < 9223372036854775808) (h5 : s < 9223372036854775808) (w : World) :
    Calls Try.prog 100 #[.agg #[.int .i64 k, .int .i64 m, .bool g, .int .i64 a, .int .i64 n, .int .i64 s]] w fun e w' => e = .returned (.tuple #[.int .u64 (packV k m g a n s).1, .bool (packV k m g a n s).2]) ∧ Below w.heap.size w w' := by
  by_cases c1 : 0 ≤ k
  · by_cases c2 : 0 ≤ m
    · by_cases c3 : 0 ≤ a
      · by_cases c4 : 0 ≤ n
        · by_cases c5 : 0 ≤ s
          · exact pack_pos k m g a n s ⟨c1, h1⟩ ⟨c2, h2⟩ ⟨c3, h3⟩ ⟨c4, h4⟩ ⟨c5, h5⟩ w
          · rw [packV_neg _ _ _ _ _ _ (by omega)]; exact pack_neg4 k m g a n s c1 c2 c3 c4 (by omega) w
        · rw [packV_neg _ _ _ _ _ _ (by omega)]; exact pack_neg3 k m g a n s c1 c2 c3 (by omega) w
      · rw [packV_neg _ _ _ _ _ _ (by omega)]; exact pack_neg2 k m g a n s c1 c2 (by omega) w
    · rw [packV_neg _ _ _ _ _ _ (by omega)]; exact pack_neg1 k m g a n s c1 (by omega) w
  · rw [packV_neg _ _ _ _ _ _ (by omega)]; exact pack_neg0 k m g a n s (by omega) w
end Go.Proofs.Ytijfkpoofpcacaa.HeadC
end
section
namespace Go.Proofs.Ytijfkpoofpcacaa.HeadC
open Go.RowKit Go.Proofs.Ytijfkpoofpcacaa.PArenaPlays Go.Proofs.YtijfkpoofpcacaaW.PrintWords Go.Proofs.YtijfkpoofpcacaaW.PrintLast Go.Proofs.Ytijfkpoofpcacaa.Core Go.Proofs.Ytijfkpoofpcacaa.PuArenaPlays Go.Proofs.Ytijfkpoofpcacaa.PvArenaPlays
def okW (x : Int) : Bool := decide (x % 8 ≤ 4 ∧ x / 512 % 128 = 0)
def uK (x : Int) : Int := if okW x = true then x % 8 else 0
def uM (x : Int) : Int := if okW x = true then x / 8 % 2 else 0
def uG (x : Int) : Bool := okW x && (x / 16 % 2 == 1)
def uA (x : Int) : Int := if okW x = true then x / 32 % 16 else 0
def uN (x : Int) : Int := if okW x = true then x / 65536 % 4294967296 else 0
def uS (x : Int) : Int := if okW x = true then x / 281474976710656 else 0
def blackI (e : Int) : Int := if e / 4 % 2 = 0 then 1 else 0
def bornI (e : Int) : Int := if e % 4 = 0 then 1 - blackI e else blackI e
theorem u_yes {x : Int} (h : okW x = true) : uK x = x % 8 ∧ uM x = x / 8 % 2 ∧ uG x = (x / 16 % 2 == 1) ∧ uA x = x / 32 % 16 ∧ uN x = x / 65536 % 4294967296 ∧ uS x = x / 281474976710656 := by
  unfold uK uM uG uA uN uS; simp [h]
theorem u_no {x : Int} (h : okW x = false) : uK x = 0 ∧ uM x = 0 ∧ uG x = false ∧ uA x = 0 ∧ uN x = 0 ∧ uS x = 0 := by
  unfold uK uM uG uA uN uS; simp [h]
theorem u_bd (x : Int) (h0 : 0 ≤ x) (h1 : x < 18446744073709551616) : 0 ≤ uK x ∧ uK x ≤ 4 ∧ 0 ≤ uM x ∧ uM x ≤ 1 ∧ 0 ≤ uA x ∧ uA x ≤ 15 ∧ 0 ≤ uN x ∧ uN x ≤ 4294967295 ∧ 0 ≤ uS x ∧ uS x ≤ 65535 := by
  cases h : okW x with
  | true =>
    obtain ⟨e1, e2, e3, e4, e5, e6⟩ := u_yes h
    rw [e1, e2, e4, e5, e6]
    simp only [okW, decide_eq_true_eq] at h
    omega
  | false =>
    obtain ⟨e1, e2, e3, e4, e5, e6⟩ := u_no h
    rw [e1, e2, e4, e5, e6]
    decide
theorem black_bd (e : Int) : 0 ≤ blackI e ∧ blackI e ≤ 1 := by unfold blackI; split <;> decide
theorem black_eq (e : Int) (h0 : 0 ≤ e) (h1 : e < 18446744073709551616) : turn_Black.f e = some (blackI e) := by
  unfold turn_Black.f turn_Cycle.f blackI
  have t : Int.tdiv e 4 = e / 4 := Int.tdiv_eq_ediv_of_nonneg h0
  rw [Option.bind_some, t, wrap_u64_id (e / 4) (by omega) (by omega), wrap_u64_id _ (by omega) (by omega)]
  have t2 : Int.tmod (e / 4 + 1) 2 = (e / 4 + 1) % 2 := Int.tmod_eq_emod_of_nonneg (by omega)
  rw [t2, wrap64_id _ (by omega) (by omega)]
  congr 1
  split <;> omega
theorem born_c (e : Int) (h0 : 0 ≤ e) (h1 : e < 18446744073709551616) (w : World) : Calls Try.prog 101 #[.int .u64 e] w fun r w' => r = .returned (.int .i64 (bornI e)) ∧ Drawn0 w w' := by
  refine turn_Born.calls e _ w ?_
  unfold turn_Born.f bornI
  have b : turn_Black.f e = some (blackI e) := black_eq e h0 h1
  have bb := black_bd e
  rw [b, Option.bind_some, Option.bind_some, wrap64_id _ (by omega) (by omega), show Int.tmod e 4 = e % 4 from Int.tmod_eq_emod_of_nonneg h0]
  split <;> rfl
theorem unpack_eq (x : Int) (h0 : 0 ≤ x) (h1 : x < 18446744073709551616) : head_Unpack.f 10 x = some (uK x, uM x, uG x, uA x, uN x, uS x, okW x) := by
  unfold head_Unpack.f
  rw [p_Unpack 10 x _ (by simp) (by simp) h0 h1, Option.bind_some]
  have e : unpF x [3, 1, 1, 4, 7, 32, 16] 0 [] = ([x % 8, x / 8 % 2, x / 16 % 2, x / 32 % 16, x / 512 % 128, x / 65536 % 4294967296, x / 281474976710656 % 65536], true) := by simp [unpF, okB, getV]
  rw [e]
  generalize hl : [x % 8, x / 8 % 2, x / 16 % 2, x / 32 % 16, x / 512 % 128, x / 65536 % 4294967296, x / 281474976710656 % 65536] = l
  have l7 : l.length = 7 := by rw [← hl]; rfl
  have r0 : rd l 0 = x % 8 := by rw [← hl]; rfl
  have r1 : rd l 1 = x / 8 % 2 := by rw [← hl]; rfl
  have r2 : rd l 2 = x / 16 % 2 := by rw [← hl]; rfl
  have r3 : rd l 3 = x / 32 % 16 := by rw [← hl]; rfl
  have r4 : rd l 4 = x / 512 % 128 := by rw [← hl]; rfl
  have r5 : rd l 5 = x / 65536 % 4294967296 := by rw [← hl]; rfl
  have r6 : rd l 6 = x / 281474976710656 % 65536 := by rw [← hl]; rfl
  simp only [l7, r0, r1, r2, r3, r4, r5, r6]
  rw [if_neg (by decide), if_pos (by decide)]
  by_cases c : x % 8 > 4
  · have h : okW x = false := by simp [okW]; omega
    obtain ⟨e1, e2, e3, e4, e5, e6⟩ := u_no h
    rw [if_pos c, e1, e2, e3, e4, e5, e6, h]
  · rw [if_neg c, if_pos (by decide)]
    by_cases d : x / 512 % 128 = 0
    · have h : okW x = true := by simp [okW]; omega
      obtain ⟨e1, e2, e3, e4, e5, e6⟩ := u_yes h
      rw [if_pos d, if_pos (by decide), if_pos (by decide), if_pos (by decide), if_pos (by decide), if_pos (by decide), e1, e2, e3, e4, e5, e6, h, wrap64_id (x % 8) (by omega) (by omega), wrap64_id (x / 8 % 2) (by omega) (by omega), wrap64_id (x / 32 % 16) (by omega) (by omega), wrap64_id (x / 65536 % 4294967296) (by omega) (by omega), wrap64_id (x / 281474976710656 % 65536) (by omega) (by omega), show x / 281474976710656 % 65536 = x / 281474976710656 from by omega]
    · have h : okW x = false := by simp [okW]; omega
      obtain ⟨e1, e2, e3, e4, e5, e6⟩ := u_no h
      rw [if_neg d, e1, e2, e3, e4, e5, e6, h]
theorem unpack_c (x : Int) (h0 : 0 ≤ x) (h1 : x < 18446744073709551616) (w : World) :
    Calls Try.prog 86 #[.int .u64 x] w fun e w' => e = .returned (.tuple #[.agg #[.int .i64 (uK x), .int .i64 (uM x), .bool (uG x), .int .i64 (uA x), .int .i64 (uN x), .int .i64 (uS x)], .bool (okW x)]) ∧ Below w.heap.size w w' :=
  head_Unpack.calls 10 x _ _ _ _ _ _ _ w (unpack_eq x h0 h1)
theorem packV_yes (k m : Int) (g : Bool) (a n s : Int) (h : 0 ≤ k ∧ k ≤ 4 ∧ 0 ≤ m ∧ m ≤ 1 ∧ 0 ≤ a ∧ a ≤ 15 ∧ 0 ≤ n ∧ n ≤ 4294967295 ∧ 0 ≤ s ∧ s ≤ 65535) : packV k m g a n s = (headN k m g a n s, true) := by
  unfold packV headB; rw [if_pos (by simpa using h)]
theorem rPack_c (k m : Int) (g : Bool) (a n s : Int) (h : 0 ≤ k ∧ k ≤ 4 ∧ 0 ≤ m ∧ m ≤ 1 ∧ 0 ≤ a ∧ a ≤ 15 ∧ 0 ≤ n ∧ n ≤ 4294967295 ∧ 0 ≤ s ∧ s ≤ 65535) (w : World) :
    Calls Try.prog 58 #[.agg #[.int .i64 k, .int .i64 m, .bool g, .int .i64 a, .int .i64 n, .int .i64 s]] w fun e w' => e = .returned (.int .u64 (headN k m g a n s)) ∧ Below w.heap.size w w' := by
  refine withyref04_Pack.calls k m g a n s _ w ?_
  unfold withyref04_Pack.f headN
  rw [wrap_u64_id k (by omega) (by omega), wrap_u64_id m (by omega) (by omega), wrap_u64_id a (by omega) (by omega), wrap_u64_id n (by omega) (by omega), wrap_u64_id s (by omega) (by omega), wrap_u64_id (8 * m) (by omega) (by omega), wrap_u64_id (32 * a) (by omega) (by omega), wrap_u64_id (65536 * n) (by omega) (by omega), wrap_u64_id (281474976710656 * s) (by omega) (by omega),
    wrap_u64_id (k + 8 * m) (by omega) (by omega), wrap_u64_id (k + 8 * m + 32 * a) (by omega) (by omega), wrap_u64_id (k + 8 * m + 32 * a + 65536 * n) (by omega) (by omega), wrap_u64_id (k + 8 * m + 32 * a + 65536 * n + 281474976710656 * s) (by omega) (by omega)]
  split
  · rw [wrap_u64_id _ (by omega) (by omega)]; congr 1; omega
  · congr 1; omega
theorem pack_ok (k m : Int) (g : Bool) (a n s : Int) (h : 0 ≤ k ∧ k ≤ 4 ∧ 0 ≤ m ∧ m ≤ 1 ∧ 0 ≤ a ∧ a ≤ 15 ∧ 0 ≤ n ∧ n ≤ 4294967295 ∧ 0 ≤ s ∧ s ≤ 65535) (w : World) :
    Calls Try.prog 100 #[.agg #[.int .i64 k, .int .i64 m, .bool g, .int .i64 a, .int .i64 n, .int .i64 s]] w fun e w' => e = .returned (.tuple #[.int .u64 (headN k m g a n s), .bool true]) ∧ Below w.heap.size w w' := by
  have := pack_c k m g a n s (by omega) (by omega) (by omega) (by omega) (by omega) w
  rw [packV_yes k m g a n s h] at this
  exact this
theorem bT {w w1 w2 : World} (h : Below w.heap.size w w1) (k : Below w1.heap.size w1 w2) : Below w.heap.size w w2 := below_then h h.size k
def freedV (x g : Int) : Int × Bool := if okW x = true ∧ uK x = 3 then ((if g ≤ uN x + 1 ∨ uN x = 4294967295 then headN 4 (uM x) (uG x) (uA x) (uN x) (uS x) else headN 0 0 false 0 (uN x + 1) 0), true) else (x, false)
def madeV (k a n e : Int) : Int × Bool := if k = 1 ∨ k = 2 then packV k (bornI e) false a n 0 else (0, false)
end Go.Proofs.Ytijfkpoofpcacaa.HeadC
end
section
set_option linter.unusedVariables false
namespace Go.Proofs.Ytijfkpoofpcacaa.HeadC
open Go.RowKit Go.Proofs.Ytijfkpoofpcacaa.PArenaPlays Go.Proofs.YtijfkpoofpcacaaW.PrintWords Go.Proofs.YtijfkpoofpcacaaW.PrintLast Go.Proofs.Ytijfkpoofpcacaa.Core Go.Proofs.Ytijfkpoofpcacaa.PuArenaPlays Go.Proofs.Ytijfkpoofpcacaa.PvArenaPlays
set_option maxHeartbeats 1000000 in
theorem freed_no1 (x g : Int) (h0 : 0 ≤ x) (h1 : x < 18446744073709551616) (hk : okW x = false) (w : World) :
    Calls Try.prog 88 #[.int .u64 x, .int .i64 g] w fun r w' => r = .returned (.tuple #[.int .u64 x, .bool false]) ∧ Below w.heap.size w w' := by
  go_enter Try.func88, Try.ntmps88
  go_wp2_with (go_at_call 86; refine (unpack_c x h0 h1 _).mono ?_; rintro r w1 ⟨rfl, hb⟩; replace hb := Lib.hid hb)
  go_ret2
  exact ⟨rfl, below_alloc hb.out _⟩
set_option maxHeartbeats 1000000 in
theorem freed_no2 (x g : Int) (h0 : 0 ≤ x) (h1 : x < 18446744073709551616) (hk : okW x = true) (h3 : (uK x == 3) = false) (w : World) :
    Calls Try.prog 88 #[.int .u64 x, .int .i64 g] w fun r w' => r = .returned (.tuple #[.int .u64 x, .bool false]) ∧ Below w.heap.size w w' := by
  have h3' : (uK x != 3) = true := by simp at h3; simpa using h3
  go_enter Try.func88, Try.ntmps88
  go_wp2_with (go_at_call 86; refine (unpack_c x h0 h1 _).mono ?_; rintro r w1 ⟨rfl, hb⟩; replace hb := Lib.hid hb)
  go_ret2
  exact ⟨rfl, below_alloc hb.out _⟩
set_option maxHeartbeats 1000000 in
theorem freed_dead1 (x g : Int) (h0 : 0 ≤ x) (h1 : x < 18446744073709551616) (hk : okW x = true) (h3 : uK x = 3) (hg : g ≤ uN x + 1) (w : World) :
    Calls Try.prog 88 #[.int .u64 x, .int .i64 g] w fun r w' => r = .returned (.tuple #[.int .u64 (headN 4 (uM x) (uG x) (uA x) (uN x) (uS x)), .bool true]) ∧ Below w.heap.size w w' := by
  obtain ⟨b1, b2, b3, b4, b5, b6, b7, b8, b9, b10⟩ := u_bd x h0 h1
  have h3' : (uK x != 3) = false := by simp [h3]
  clear h3
  go_enter Try.func88, Try.ntmps88
  go_wp2_with (first | (go_at_call 86; refine (unpack_c x h0 h1 _).mono ?_; rintro r w1 ⟨rfl, hb⟩; replace hb := Lib.hid hb) | (go_at_call 100; refine (pack_ok _ _ _ _ _ _ (by omega) _).mono ?_; rintro r w2 ⟨rfl, hb2⟩; replace hb2 := Lib.hid hb2))
  go_ret2
  exact ⟨rfl, bT (below_alloc hb.out _) hb2.out⟩
set_option maxHeartbeats 1000000 in
theorem freed_dead2 (x g : Int) (h0 : 0 ≤ x) (h1 : x < 18446744073709551616) (hk : okW x = true) (h3 : uK x = 3) (hg : ¬ g ≤ uN x + 1) (hn : uN x = 4294967295) (w : World) :
    Calls Try.prog 88 #[.int .u64 x, .int .i64 g] w fun r w' => r = .returned (.tuple #[.int .u64 (headN 4 (uM x) (uG x) (uA x) (uN x) (uS x)), .bool true]) ∧ Below w.heap.size w w' := by
  obtain ⟨b1, b2, b3, b4, b5, b6, b7, b8, b9, b10⟩ := u_bd x h0 h1
  have h3' : (uK x != 3) = false := by simp [h3]
  clear h3
  have hn' : (4294967296 : Int) ≤ uN x + 1 := by omega
  clear hn
  have hg' : uN x + 1 < g := by omega
  clear hg
  go_enter Try.func88, Try.ntmps88
  go_wp2_with (first | (go_at_call 86; refine (unpack_c x h0 h1 _).mono ?_; rintro r w1 ⟨rfl, hb⟩; replace hb := Lib.hid hb) | (go_at_call 100; refine (pack_ok _ _ _ _ _ _ (by omega) _).mono ?_; rintro r w2 ⟨rfl, hb2⟩; replace hb2 := Lib.hid hb2))
  go_ret2
  exact ⟨rfl, bT (below_alloc hb.out _) hb2.out⟩
set_option maxHeartbeats 1000000 in
theorem freed_back (x g : Int) (h0 : 0 ≤ x) (h1 : x < 18446744073709551616) (hk : okW x = true) (h3 : uK x = 3) (hg : ¬ g ≤ uN x + 1) (hn : ¬ uN x = 4294967295) (w : World) :
    Calls Try.prog 88 #[.int .u64 x, .int .i64 g] w fun r w' => r = .returned (.tuple #[.int .u64 (headN 0 0 false 0 (uN x + 1) 0), .bool true]) ∧ Below w.heap.size w w' := by
  obtain ⟨b1, b2, b3, b4, b5, b6, b7, b8, b9, b10⟩ := u_bd x h0 h1
  have h3' : (uK x != 3) = false := by simp [h3]
  clear h3
  have hn' : uN x + 1 < 4294967296 := by omega
  clear hn
  have hg' : uN x + 1 < g := by omega
  clear hg
  go_enter Try.func88, Try.ntmps88
  go_wp2_with (first | (go_at_call 86; refine (unpack_c x h0 h1 _).mono ?_; rintro r w1 ⟨rfl, hb⟩; replace hb := Lib.hid hb) | (go_at_call 100; refine (pack_ok _ _ _ _ _ _ (by omega) _).mono ?_; rintro r w2 ⟨rfl, hb2⟩; replace hb2 := Lib.hid hb2))
  go_ret2
  exact ⟨rfl, bT (below_alloc hb.out _) hb2.out⟩
theorem freed_c (x g : Int) (h0 : 0 ≤ x) (h1 : x < 18446744073709551616) (w : World) :
    Calls Try.prog 88 #[.int .u64 x, .int .i64 g] w fun r w' => r = .returned (.tuple #[.int .u64 (freedV x g).1, .bool (freedV x g).2]) ∧ Below w.heap.size w w' := by
  cases hk : okW x with
  | false =>
    rw [show freedV x g = (x, false) from by unfold freedV; rw [if_neg (by rw [hk]; simp)]]
    exact freed_no1 x g h0 h1 hk w
  | true =>
    by_cases h3 : uK x = 3
    · by_cases hg : g ≤ uN x + 1
      · rw [show freedV x g = (headN 4 (uM x) (uG x) (uA x) (uN x) (uS x), true) from by unfold freedV; rw [if_pos ⟨hk, h3⟩, if_pos (.inl hg)]]
        exact freed_dead1 x g h0 h1 hk h3 hg w
      · by_cases hn : uN x = 4294967295
        · rw [show freedV x g = (headN 4 (uM x) (uG x) (uA x) (uN x) (uS x), true) from by unfold freedV; rw [if_pos ⟨hk, h3⟩, if_pos (.inr hn)]]
          exact freed_dead2 x g h0 h1 hk h3 hg hn w
        · rw [show freedV x g = (headN 0 0 false 0 (uN x + 1) 0, true) from by unfold freedV; rw [if_pos ⟨hk, h3⟩, if_neg (by rintro (h | h) <;> contradiction)]]
          exact freed_back x g h0 h1 hk h3 hg hn w
    · rw [show freedV x g = (x, false) from by unfold freedV; rw [if_neg (fun h => h3 h.2)]]
      exact freed_no2 x g h0 h1 hk (by simpa using h3) w
theorem born_bd (e : Int) : 0 ≤ bornI e ∧ bornI e ≤ 1 := by have := black_bd e; unfold bornI; split <;> omega
set_option maxHeartbeats 1000000 in
theorem made_no (k a n e : Int) (h2 : 0 ≤ e) (h3 : e < 18446744073709551616) (ha : a < 9223372036854775808) (hn : n < 9223372036854775808) (h1 : k ≠ 1) (h2' : k ≠ 2) (w : World) :
    Calls Try.prog 87 #[.int .i64 k, .int .i64 a, .int .i64 n, .int .u64 e] w fun r w' => r = .returned (.tuple #[.int .u64 0, .bool false]) ∧ Below w.heap.size w w' := by
  have e1 : (k != 1) = true := by simpa using h1
  have e2 : (k != 2) = true := by simpa using h2'
  clear h1 h2'
  go_enter Try.func87, Try.ntmps87
  go_wp2
  go_ret2
  exact ⟨rfl, Below.refl _ _⟩
set_option maxHeartbeats 1000000 in
theorem made_yes (k a n e : Int) (h2 : 0 ≤ e) (h3 : e < 18446744073709551616) (ha : a < 9223372036854775808) (hn : n < 9223372036854775808) (hk : k = 1 ∨ k = 2) (w : World) :
    Calls Try.prog 87 #[.int .i64 k, .int .i64 a, .int .i64 n, .int .u64 e] w fun r w' => r = .returned (.tuple #[.int .u64 (packV k (bornI e) false a n 0).1, .bool (packV k (bornI e) false a n 0).2]) ∧ Below w.heap.size w w' := by
  obtain ⟨c1, c2⟩ := born_bd e
  rcases hk with rfl | rfl
  all_goals
    go_enter Try.func87, Try.ntmps87
    go_wp2_with (first | (go_at_call 101; refine (born_c e h2 h3 _).mono ?_; rintro r w' ⟨rfl, ⟨nd, rfl⟩⟩) | (go_at_call 100; refine (pack_c _ _ _ _ _ _ (by omega) (by omega) ha hn (by omega) _).mono ?_; rintro r w2 ⟨rfl, hb2⟩; replace hb2 := Lib.hid hb2))
    go_ret2
    exact ⟨rfl, bT (pw_below_drewN (Below.refl _ _) _) hb2.out⟩
theorem made_c (k a n e : Int) (h2 : 0 ≤ e) (h3 : e < 18446744073709551616) (ha : a < 9223372036854775808) (hn : n < 9223372036854775808) (w : World) :
    Calls Try.prog 87 #[.int .i64 k, .int .i64 a, .int .i64 n, .int .u64 e] w fun r w' => r = .returned (.tuple #[.int .u64 (madeV k a n e).1, .bool (madeV k a n e).2]) ∧ Below w.heap.size w w' := by
  unfold madeV
  by_cases hk : k = 1 ∨ k = 2
  · rw [if_pos hk]; exact made_yes k a n e h2 h3 ha hn hk w
  · rw [if_neg hk]; exact made_no k a n e h2 h3 ha hn (fun h => hk (.inl h)) (fun h => hk (.inr h)) w
end Go.Proofs.Ytijfkpoofpcacaa.HeadC
end
section
set_option linter.unusedVariables false
set_option linter.unusedSectionVars false
set_option linter.unusedSimpArgs false
namespace Go.Proofs.Ytijfkpoofpcacaa.ArenaC
open Go.RowKit Go.Proofs.YtijfkpoofpcacaaW.PrintWords Go.Proofs.Ytijfkpoofpcacaa.Blk Go.Proofs.Ytijfkpoofpcacaa.Core Go.Proofs.Ytijfkpoofpcacaa.MemC Go.Proofs.Ytijfkpoofpcacaa.MemD Go.Proofs.Ytijfkpoofpcacaa.MemT Go.Proofs.Ytijfkpoofpcacaa.PlanC Go.Proofs.Ytijfkpoofpcacaa.PlanD Go.Proofs.Ytijfkpoofpcacaa.StackC Go.Proofs.Ytijfkpoofpcacaa.StackS Go.Proofs.Ytijfkpoofpcacaa.HeadC
def freeA (c : Cf) (bk : Bool) (gn : Bool) (sl : Int) (nw : Int) (pu : Option Addr) (nx : Int) : Array Value := #[.bool bk, .bool gn, .int .i64 c.S, .int .i64 c.A, .int .i64 c.C, .int .i64 c.H, .int .i64 c.G, .int .i64 c.K, .int .i64 sl, .int .u64 nw, .pointer pu, .int .i64 nx]
theorem free_cells {w : World} {p t : Nat} {c : Cf} {bk : Bool} {gn : Bool} {sl : Int} {nw : Int} {pu : Option Addr} {nx : Int} (h : Blk w p t (freeA c bk gn sl nw pu nx)) :
    w.cell? ⟨p, 0, none⟩ = some (.bool bk) ∧ w.cell? ⟨p, 1, none⟩ = some (.bool gn) ∧ w.cell? ⟨p, 2, none⟩ = some (.int .i64 c.S) ∧ w.cell? ⟨p, 3, none⟩ = some (.int .i64 c.A) ∧ w.cell? ⟨p, 4, none⟩ = some (.int .i64 c.C) ∧ w.cell? ⟨p, 5, none⟩ = some (.int .i64 c.H) ∧ w.cell? ⟨p, 6, none⟩ = some (.int .i64 c.G) ∧ w.cell? ⟨p, 7, none⟩ = some (.int .i64 c.K) ∧ w.cell? ⟨p, 8, none⟩ = some (.int .i64 sl) ∧ w.cell? ⟨p, 9, none⟩ = some (.int .u64 nw) ∧ w.cell? ⟨p, 10, none⟩ = some (.pointer pu) ∧ w.cell? ⟨p, 11, none⟩ = some (.int .i64 nx) :=
  ⟨h.cell (i := 0) rfl, h.cell (i := 1) rfl, h.cell (i := 2) rfl, h.cell (i := 3) rfl, h.cell (i := 4) rfl, h.cell (i := 5) rfl, h.cell (i := 6) rfl, h.cell (i := 7) rfl, h.cell (i := 8) rfl, h.cell (i := 9) rfl, h.cell (i := 10) rfl, h.cell (i := 11) rfl⟩
theorem free_k10 {w : World} {p : Nat} {c : Cf} {bk : Bool} {gn : Bool} {sl : Int} {nw : Int} {v : Value} (h : w.cell? ⟨p, 0, none⟩ = some (.bool bk) ∧ w.cell? ⟨p, 1, none⟩ = some (.bool gn) ∧ w.cell? ⟨p, 2, none⟩ = some (.int .i64 c.S) ∧ w.cell? ⟨p, 3, none⟩ = some (.int .i64 c.A) ∧ w.cell? ⟨p, 4, none⟩ = some (.int .i64 c.C) ∧ w.cell? ⟨p, 5, none⟩ = some (.int .i64 c.H) ∧ w.cell? ⟨p, 6, none⟩ = some (.int .i64 c.G) ∧ w.cell? ⟨p, 7, none⟩ = some (.int .i64 c.K) ∧ w.cell? ⟨p, 8, none⟩ = some (.int .i64 sl) ∧ w.cell? ⟨p, 9, none⟩ = some (.int .u64 nw)) :
    (w.setCell ⟨p, 10, none⟩ v).cell? ⟨p, 0, none⟩ = some (.bool bk) ∧ (w.setCell ⟨p, 10, none⟩ v).cell? ⟨p, 1, none⟩ = some (.bool gn) ∧ (w.setCell ⟨p, 10, none⟩ v).cell? ⟨p, 2, none⟩ = some (.int .i64 c.S) ∧ (w.setCell ⟨p, 10, none⟩ v).cell? ⟨p, 3, none⟩ = some (.int .i64 c.A) ∧ (w.setCell ⟨p, 10, none⟩ v).cell? ⟨p, 4, none⟩ = some (.int .i64 c.C) ∧ (w.setCell ⟨p, 10, none⟩ v).cell? ⟨p, 5, none⟩ = some (.int .i64 c.H) ∧ (w.setCell ⟨p, 10, none⟩ v).cell? ⟨p, 6, none⟩ = some (.int .i64 c.G) ∧ (w.setCell ⟨p, 10, none⟩ v).cell? ⟨p, 7, none⟩ = some (.int .i64 c.K) ∧ (w.setCell ⟨p, 10, none⟩ v).cell? ⟨p, 8, none⟩ = some (.int .i64 sl) ∧ (w.setCell ⟨p, 10, none⟩ v).cell? ⟨p, 9, none⟩ = some (.int .u64 nw) := by
  obtain ⟨x0, x1, x2, x3, x4, x5, x6, x7, x8, x9⟩ := h
  exact ⟨(cell_off (by decide)).trans x0, (cell_off (by decide)).trans x1, (cell_off (by decide)).trans x2, (cell_off (by decide)).trans x3, (cell_off (by decide)).trans x4, (cell_off (by decide)).trans x5, (cell_off (by decide)).trans x6, (cell_off (by decide)).trans x7, (cell_off (by decide)).trans x8, (cell_off (by decide)).trans x9⟩
theorem free_k11 {w : World} {p : Nat} {c : Cf} {bk : Bool} {gn : Bool} {sl : Int} {nw : Int} {v : Value} (h : w.cell? ⟨p, 0, none⟩ = some (.bool bk) ∧ w.cell? ⟨p, 1, none⟩ = some (.bool gn) ∧ w.cell? ⟨p, 2, none⟩ = some (.int .i64 c.S) ∧ w.cell? ⟨p, 3, none⟩ = some (.int .i64 c.A) ∧ w.cell? ⟨p, 4, none⟩ = some (.int .i64 c.C) ∧ w.cell? ⟨p, 5, none⟩ = some (.int .i64 c.H) ∧ w.cell? ⟨p, 6, none⟩ = some (.int .i64 c.G) ∧ w.cell? ⟨p, 7, none⟩ = some (.int .i64 c.K) ∧ w.cell? ⟨p, 8, none⟩ = some (.int .i64 sl) ∧ w.cell? ⟨p, 9, none⟩ = some (.int .u64 nw)) :
    (w.setCell ⟨p, 11, none⟩ v).cell? ⟨p, 0, none⟩ = some (.bool bk) ∧ (w.setCell ⟨p, 11, none⟩ v).cell? ⟨p, 1, none⟩ = some (.bool gn) ∧ (w.setCell ⟨p, 11, none⟩ v).cell? ⟨p, 2, none⟩ = some (.int .i64 c.S) ∧ (w.setCell ⟨p, 11, none⟩ v).cell? ⟨p, 3, none⟩ = some (.int .i64 c.A) ∧ (w.setCell ⟨p, 11, none⟩ v).cell? ⟨p, 4, none⟩ = some (.int .i64 c.C) ∧ (w.setCell ⟨p, 11, none⟩ v).cell? ⟨p, 5, none⟩ = some (.int .i64 c.H) ∧ (w.setCell ⟨p, 11, none⟩ v).cell? ⟨p, 6, none⟩ = some (.int .i64 c.G) ∧ (w.setCell ⟨p, 11, none⟩ v).cell? ⟨p, 7, none⟩ = some (.int .i64 c.K) ∧ (w.setCell ⟨p, 11, none⟩ v).cell? ⟨p, 8, none⟩ = some (.int .i64 sl) ∧ (w.setCell ⟨p, 11, none⟩ v).cell? ⟨p, 9, none⟩ = some (.int .u64 nw) := by
  obtain ⟨x0, x1, x2, x3, x4, x5, x6, x7, x8, x9⟩ := h
  exact ⟨(cell_off (by decide)).trans x0, (cell_off (by decide)).trans x1, (cell_off (by decide)).trans x2, (cell_off (by decide)).trans x3, (cell_off (by decide)).trans x4, (cell_off (by decide)).trans x5, (cell_off (by decide)).trans x6, (cell_off (by decide)).trans x7, (cell_off (by decide)).trans x8, (cell_off (by decide)).trans x9⟩
def four (p q m b : Nat) : Nat → Prop := fun k => k = p ∨ three q m b k
theorem fr_f {p q m b : Nat} (w : World) (i : Nat) (v : Value) : Fr (four p q m b) w (w.setCell ⟨p, i, none⟩ v) := Fr.set (four p q m b) w (p := ⟨p, i, none⟩) (.inl rfl) v
section
variable (c : Cf) (w : World) (p m b : Nat) (M : Ms) (hc : c.right = true) (hM : MemB w m b M) (ok : Ok M) (np : ¬ two m b p) (bk gn : Bool) (sl nw : Int) (pu : Option Addr)
include hc hM ok np
set_option maxHeartbeats 4000000 in
set_option maxRecDepth 100000 in
theorem free_1y (hv : (freedV (M.ldV (c.header sl)) c.G).2 = true) (hp : Blk w p 95 (freeA c bk gn sl nw pu 1)) : Calls Try.prog 59 #[.pointer (some ⟨p, 0, none⟩), .pointer (some ⟨m, 0, none⟩)] w fun e w' =>
    e = .returned (.bool false) ∧ Blk w' p 95 (freeA c bk gn sl (((freedV (M.ldV (c.header sl)) c.G).1)) pu 3) ∧ MemB w' m b (M.ldS (c.header sl)) ∧ Fr (three p m b) w w' := by
  obtain ⟨x0, x1⟩ := ldV_bd ok (c.header sl)
  have hfr := fun w => freed_c (M.ldV (c.header sl)) c.G x0 x1 w
  rw [hv] at hfr
  generalize hvx : freedV (M.ldV (c.header sl)) c.G = fv at *
  obtain ⟨f1, f2⟩ := fv
  replace hvx := Lib.hid hvx
  replace hv := Lib.hid hv
  have hl := fun w hM => load_c w m b M (c.header sl) hM ok
  generalize (M.ldV (c.header sl)) = x at *
  have hF := Lib.hid (Fr.refl (three p m b) w)
  obtain ⟨k0, k1, k2, k3, k4, k5, k6, k7, k8, k9, k10, k11⟩ := free_cells hp
  replace hp := Lib.hid hp
  replace hM := Lib.hid hM
  go_enter Try.func59, Try.ntmps59
  go_wp2
  clear k0 k1 k2 k3 k4 k5 k6 k7 k8 k9 k10 k11
  replace hp := Lib.hid hp.out.drew
  replace hM := Lib.hid hM.out.drew
  replace hF := Lib.hid (hF.out.trans (Fr.drew _ w))
  have hX0 := free_cells hp.out
  have hX : w.drew.cell? ⟨p, 0, none⟩ = some (.bool bk) ∧ w.drew.cell? ⟨p, 1, none⟩ = some (.bool gn) ∧ w.drew.cell? ⟨p, 2, none⟩ = some (.int .i64 c.S) ∧ w.drew.cell? ⟨p, 3, none⟩ = some (.int .i64 c.A) ∧ w.drew.cell? ⟨p, 4, none⟩ = some (.int .i64 c.C) ∧ w.drew.cell? ⟨p, 5, none⟩ = some (.int .i64 c.H) ∧ w.drew.cell? ⟨p, 6, none⟩ = some (.int .i64 c.G) ∧ w.drew.cell? ⟨p, 7, none⟩ = some (.int .i64 c.K) ∧ w.drew.cell? ⟨p, 8, none⟩ = some (.int .i64 sl) ∧ w.drew.cell? ⟨p, 9, none⟩ = some (.int .u64 nw) ∧ w.drew.cell? ⟨p, 10, none⟩ = some (.pointer pu) ∧ w.drew.cell? ⟨p, 11, none⟩ = some (.int .i64 1) := hX0
  clear hX0
  go_region_held3 (fun w' => w'.cell? ⟨p, 0, none⟩ = some (.bool bk) ∧ w'.cell? ⟨p, 1, none⟩ = some (.bool gn) ∧ w'.cell? ⟨p, 2, none⟩ = some (.int .i64 c.S) ∧ w'.cell? ⟨p, 3, none⟩ = some (.int .i64 c.A) ∧ w'.cell? ⟨p, 4, none⟩ = some (.int .i64 c.C) ∧ w'.cell? ⟨p, 5, none⟩ = some (.int .i64 c.H) ∧ w'.cell? ⟨p, 6, none⟩ = some (.int .i64 c.G) ∧ w'.cell? ⟨p, 7, none⟩ = some (.int .i64 c.K) ∧ w'.cell? ⟨p, 8, none⟩ = some (.int .i64 sl) ∧ w'.cell? ⟨p, 9, none⟩ = some (.int .u64 nw) ∧ w'.cell? ⟨p, 10, none⟩ = some (.pointer pu) ∧ w'.cell? ⟨p, 11, none⟩ = some (.int .i64 1)) (assumption) (first
    | (go_at_call 72; refine (headerC c _ sl).mono ?_; rintro e w3 ⟨rfl, hb⟩; replace hp := Lib.hid (hp.out.below hb hp.out.lt); replace hM := Lib.hid (hM.out.next hb); replace hF := Lib.hid (hF.out.trans (fr_below hb)); clear hb; have hY_w3 : w3.cell? ⟨p, 0, none⟩ = some (.bool bk) ∧ w3.cell? ⟨p, 1, none⟩ = some (.bool gn) ∧ w3.cell? ⟨p, 2, none⟩ = some (.int .i64 c.S) ∧ w3.cell? ⟨p, 3, none⟩ = some (.int .i64 c.A) ∧ w3.cell? ⟨p, 4, none⟩ = some (.int .i64 c.C) ∧ w3.cell? ⟨p, 5, none⟩ = some (.int .i64 c.H) ∧ w3.cell? ⟨p, 6, none⟩ = some (.int .i64 c.G) ∧ w3.cell? ⟨p, 7, none⟩ = some (.int .i64 c.K) ∧ w3.cell? ⟨p, 8, none⟩ = some (.int .i64 sl) ∧ w3.cell? ⟨p, 9, none⟩ = some (.int .u64 nw) ∧ w3.cell? ⟨p, 10, none⟩ = some (.pointer pu) ∧ w3.cell? ⟨p, 11, none⟩ = some (.int .i64 1) := (by obtain ⟨y0, y1, y2, y3, y4, y5, y6, y7, y8, y9, y10, y11⟩ := free_cells hp.out; exact ⟨y0, y1, y2, y3, y4, y5, y6, y7, y8, y9, y10, y11⟩))
    | (go_at_call 35; refine (hl _ hM.out).mono ?_; rintro e w4 ⟨rfl, hM', hF'⟩; replace hp := Lib.hid (hp.out.fr hF' np); replace hM := Lib.hid hM'; replace hF := Lib.hid (hF.out.trans (two_three hF')); clear hM' hF'; have hY_w4 : w4.cell? ⟨p, 0, none⟩ = some (.bool bk) ∧ w4.cell? ⟨p, 1, none⟩ = some (.bool gn) ∧ w4.cell? ⟨p, 2, none⟩ = some (.int .i64 c.S) ∧ w4.cell? ⟨p, 3, none⟩ = some (.int .i64 c.A) ∧ w4.cell? ⟨p, 4, none⟩ = some (.int .i64 c.C) ∧ w4.cell? ⟨p, 5, none⟩ = some (.int .i64 c.H) ∧ w4.cell? ⟨p, 6, none⟩ = some (.int .i64 c.G) ∧ w4.cell? ⟨p, 7, none⟩ = some (.int .i64 c.K) ∧ w4.cell? ⟨p, 8, none⟩ = some (.int .i64 sl) ∧ w4.cell? ⟨p, 9, none⟩ = some (.int .u64 nw) ∧ w4.cell? ⟨p, 10, none⟩ = some (.pointer pu) ∧ w4.cell? ⟨p, 11, none⟩ = some (.int .i64 1) := (by obtain ⟨y0, y1, y2, y3, y4, y5, y6, y7, y8, y9, y10, y11⟩ := free_cells hp.out; exact ⟨y0, y1, y2, y3, y4, y5, y6, y7, y8, y9, y10, y11⟩))
    | (go_at_call 88; refine (hfr _).mono ?_; rintro e w5 ⟨rfl, hb⟩; replace hp := Lib.hid (hp.out.below hb hp.out.lt); replace hM := Lib.hid (hM.out.next hb); replace hF := Lib.hid (hF.out.trans (fr_below hb)); clear hb; have z9 := hp.out.frozen 9; have z11 := hp.out.frozen 11; have hY_w5 : w5.cell? ⟨p, 0, none⟩ = some (.bool bk) ∧ w5.cell? ⟨p, 1, none⟩ = some (.bool gn) ∧ w5.cell? ⟨p, 2, none⟩ = some (.int .i64 c.S) ∧ w5.cell? ⟨p, 3, none⟩ = some (.int .i64 c.A) ∧ w5.cell? ⟨p, 4, none⟩ = some (.int .i64 c.C) ∧ w5.cell? ⟨p, 5, none⟩ = some (.int .i64 c.H) ∧ w5.cell? ⟨p, 6, none⟩ = some (.int .i64 c.G) ∧ w5.cell? ⟨p, 7, none⟩ = some (.int .i64 c.K) ∧ w5.cell? ⟨p, 8, none⟩ = some (.int .i64 sl) ∧ w5.cell? ⟨p, 9, none⟩ = some (.int .u64 nw) ∧ w5.cell? ⟨p, 10, none⟩ = some (.pointer pu) ∧ w5.cell? ⟨p, 11, none⟩ = some (.int .i64 1) := (by obtain ⟨y0, y1, y2, y3, y4, y5, y6, y7, y8, y9, y10, y11⟩ := free_cells hp.out; exact ⟨y0, y1, y2, y3, y4, y5, y6, y7, y8, y9, y10, y11⟩)))
  all_goals
    obtain ⟨l0, l1, l2, l3, l4, l5, l6, l7, l8, l9, l10, l11⟩ := hY_w5
    go_upto_region 7 with (fail)
    have hp' : Blk ((w5.setCell ⟨p, 9, none⟩ (.int .u64 f1)).setCell ⟨p, 11, none⟩ (.int .i64 3)) p 95 (freeA c bk gn sl f1 pu 3) := ((hp.out.set 9 _).set 11 _)
    have hM' := ((hM.out.set np 9 (.int .u64 f1)).set np 11 (.int .i64 3))
    have hF' := ((hF.out.trans (fr_p w5 9 (.int .u64 f1))).trans (fr_p (w5.setCell ⟨p, 9, none⟩ (.int .u64 f1)) 11 (.int .i64 3)))
    clear hp hM hF hX hY_w3 hY_w4 hfr hl z9 z11 l0 l1 l2 l3 l4 l5 l6 l7 l8 l9 l10 l11
    generalize (w5.setCell ⟨p, 9, none⟩ (.int .u64 f1)).setCell ⟨p, 11, none⟩ (.int .i64 3) = w6 at *
    have hp := Lib.hid hp'
    have hM := Lib.hid hM'
    have hF := Lib.hid hF'
    clear hp' hM' hF'
    obtain ⟨l0, l1, l2, l3, l4, l5, l6, l7, l8, l9, l10, l11⟩ := free_cells hp.out
    have z11 := hp.out.frozen 11
    go_wp2
    go_ret
    exact ⟨rfl, hp.out, hM.out, hF.out⟩
set_option maxHeartbeats 4000000 in
set_option maxRecDepth 100000 in
theorem free_1n (hv : (freedV (M.ldV (c.header sl)) c.G).2 = false) (hp : Blk w p 95 (freeA c bk gn sl nw pu 1)) : Calls Try.prog 59 #[.pointer (some ⟨p, 0, none⟩), .pointer (some ⟨m, 0, none⟩)] w fun e w' =>
    e = .returned (.bool true) ∧ Blk w' p 95 (freeA c bk gn sl (((freedV (M.ldV (c.header sl)) c.G).1)) pu 5) ∧ MemB w' m b (M.ldS (c.header sl)) ∧ Fr (three p m b) w w' := by
  obtain ⟨x0, x1⟩ := ldV_bd ok (c.header sl)
  have hfr := fun w => freed_c (M.ldV (c.header sl)) c.G x0 x1 w
  rw [hv] at hfr
  generalize hvx : freedV (M.ldV (c.header sl)) c.G = fv at *
  obtain ⟨f1, f2⟩ := fv
  replace hvx := Lib.hid hvx
  replace hv := Lib.hid hv
  have hl := fun w hM => load_c w m b M (c.header sl) hM ok
  generalize (M.ldV (c.header sl)) = x at *
  have hF := Lib.hid (Fr.refl (three p m b) w)
  obtain ⟨k0, k1, k2, k3, k4, k5, k6, k7, k8, k9, k10, k11⟩ := free_cells hp
  replace hp := Lib.hid hp
  replace hM := Lib.hid hM
  go_enter Try.func59, Try.ntmps59
  go_wp2
  clear k0 k1 k2 k3 k4 k5 k6 k7 k8 k9 k10 k11
  replace hp := Lib.hid hp.out.drew
  replace hM := Lib.hid hM.out.drew
  replace hF := Lib.hid (hF.out.trans (Fr.drew _ w))
  have hX0 := free_cells hp.out
  have hX : w.drew.cell? ⟨p, 0, none⟩ = some (.bool bk) ∧ w.drew.cell? ⟨p, 1, none⟩ = some (.bool gn) ∧ w.drew.cell? ⟨p, 2, none⟩ = some (.int .i64 c.S) ∧ w.drew.cell? ⟨p, 3, none⟩ = some (.int .i64 c.A) ∧ w.drew.cell? ⟨p, 4, none⟩ = some (.int .i64 c.C) ∧ w.drew.cell? ⟨p, 5, none⟩ = some (.int .i64 c.H) ∧ w.drew.cell? ⟨p, 6, none⟩ = some (.int .i64 c.G) ∧ w.drew.cell? ⟨p, 7, none⟩ = some (.int .i64 c.K) ∧ w.drew.cell? ⟨p, 8, none⟩ = some (.int .i64 sl) ∧ w.drew.cell? ⟨p, 9, none⟩ = some (.int .u64 nw) ∧ w.drew.cell? ⟨p, 10, none⟩ = some (.pointer pu) ∧ w.drew.cell? ⟨p, 11, none⟩ = some (.int .i64 1) := hX0
  clear hX0
  go_region_held3 (fun w' => w'.cell? ⟨p, 0, none⟩ = some (.bool bk) ∧ w'.cell? ⟨p, 1, none⟩ = some (.bool gn) ∧ w'.cell? ⟨p, 2, none⟩ = some (.int .i64 c.S) ∧ w'.cell? ⟨p, 3, none⟩ = some (.int .i64 c.A) ∧ w'.cell? ⟨p, 4, none⟩ = some (.int .i64 c.C) ∧ w'.cell? ⟨p, 5, none⟩ = some (.int .i64 c.H) ∧ w'.cell? ⟨p, 6, none⟩ = some (.int .i64 c.G) ∧ w'.cell? ⟨p, 7, none⟩ = some (.int .i64 c.K) ∧ w'.cell? ⟨p, 8, none⟩ = some (.int .i64 sl) ∧ w'.cell? ⟨p, 9, none⟩ = some (.int .u64 nw) ∧ w'.cell? ⟨p, 10, none⟩ = some (.pointer pu) ∧ w'.cell? ⟨p, 11, none⟩ = some (.int .i64 1)) (assumption) (first
    | (go_at_call 72; refine (headerC c _ sl).mono ?_; rintro e w3 ⟨rfl, hb⟩; replace hp := Lib.hid (hp.out.below hb hp.out.lt); replace hM := Lib.hid (hM.out.next hb); replace hF := Lib.hid (hF.out.trans (fr_below hb)); clear hb; have hY_w3 : w3.cell? ⟨p, 0, none⟩ = some (.bool bk) ∧ w3.cell? ⟨p, 1, none⟩ = some (.bool gn) ∧ w3.cell? ⟨p, 2, none⟩ = some (.int .i64 c.S) ∧ w3.cell? ⟨p, 3, none⟩ = some (.int .i64 c.A) ∧ w3.cell? ⟨p, 4, none⟩ = some (.int .i64 c.C) ∧ w3.cell? ⟨p, 5, none⟩ = some (.int .i64 c.H) ∧ w3.cell? ⟨p, 6, none⟩ = some (.int .i64 c.G) ∧ w3.cell? ⟨p, 7, none⟩ = some (.int .i64 c.K) ∧ w3.cell? ⟨p, 8, none⟩ = some (.int .i64 sl) ∧ w3.cell? ⟨p, 9, none⟩ = some (.int .u64 nw) ∧ w3.cell? ⟨p, 10, none⟩ = some (.pointer pu) ∧ w3.cell? ⟨p, 11, none⟩ = some (.int .i64 1) := (by obtain ⟨y0, y1, y2, y3, y4, y5, y6, y7, y8, y9, y10, y11⟩ := free_cells hp.out; exact ⟨y0, y1, y2, y3, y4, y5, y6, y7, y8, y9, y10, y11⟩))
    | (go_at_call 35; refine (hl _ hM.out).mono ?_; rintro e w4 ⟨rfl, hM', hF'⟩; replace hp := Lib.hid (hp.out.fr hF' np); replace hM := Lib.hid hM'; replace hF := Lib.hid (hF.out.trans (two_three hF')); clear hM' hF'; have hY_w4 : w4.cell? ⟨p, 0, none⟩ = some (.bool bk) ∧ w4.cell? ⟨p, 1, none⟩ = some (.bool gn) ∧ w4.cell? ⟨p, 2, none⟩ = some (.int .i64 c.S) ∧ w4.cell? ⟨p, 3, none⟩ = some (.int .i64 c.A) ∧ w4.cell? ⟨p, 4, none⟩ = some (.int .i64 c.C) ∧ w4.cell? ⟨p, 5, none⟩ = some (.int .i64 c.H) ∧ w4.cell? ⟨p, 6, none⟩ = some (.int .i64 c.G) ∧ w4.cell? ⟨p, 7, none⟩ = some (.int .i64 c.K) ∧ w4.cell? ⟨p, 8, none⟩ = some (.int .i64 sl) ∧ w4.cell? ⟨p, 9, none⟩ = some (.int .u64 nw) ∧ w4.cell? ⟨p, 10, none⟩ = some (.pointer pu) ∧ w4.cell? ⟨p, 11, none⟩ = some (.int .i64 1) := (by obtain ⟨y0, y1, y2, y3, y4, y5, y6, y7, y8, y9, y10, y11⟩ := free_cells hp.out; exact ⟨y0, y1, y2, y3, y4, y5, y6, y7, y8, y9, y10, y11⟩))
    | (go_at_call 88; refine (hfr _).mono ?_; rintro e w5 ⟨rfl, hb⟩; replace hp := Lib.hid (hp.out.below hb hp.out.lt); replace hM := Lib.hid (hM.out.next hb); replace hF := Lib.hid (hF.out.trans (fr_below hb)); clear hb; have z9 := hp.out.frozen 9; have z11 := hp.out.frozen 11; have hY_w5 : w5.cell? ⟨p, 0, none⟩ = some (.bool bk) ∧ w5.cell? ⟨p, 1, none⟩ = some (.bool gn) ∧ w5.cell? ⟨p, 2, none⟩ = some (.int .i64 c.S) ∧ w5.cell? ⟨p, 3, none⟩ = some (.int .i64 c.A) ∧ w5.cell? ⟨p, 4, none⟩ = some (.int .i64 c.C) ∧ w5.cell? ⟨p, 5, none⟩ = some (.int .i64 c.H) ∧ w5.cell? ⟨p, 6, none⟩ = some (.int .i64 c.G) ∧ w5.cell? ⟨p, 7, none⟩ = some (.int .i64 c.K) ∧ w5.cell? ⟨p, 8, none⟩ = some (.int .i64 sl) ∧ w5.cell? ⟨p, 9, none⟩ = some (.int .u64 nw) ∧ w5.cell? ⟨p, 10, none⟩ = some (.pointer pu) ∧ w5.cell? ⟨p, 11, none⟩ = some (.int .i64 1) := (by obtain ⟨y0, y1, y2, y3, y4, y5, y6, y7, y8, y9, y10, y11⟩ := free_cells hp.out; exact ⟨y0, y1, y2, y3, y4, y5, y6, y7, y8, y9, y10, y11⟩)))
  all_goals
    obtain ⟨l0, l1, l2, l3, l4, l5, l6, l7, l8, l9, l10, l11⟩ := hY_w5
    go_upto_region 7 with (fail)
    have hp' : Blk ((w5.setCell ⟨p, 9, none⟩ (.int .u64 f1)).setCell ⟨p, 11, none⟩ (.int .i64 3)) p 95 (freeA c bk gn sl f1 pu 3) := ((hp.out.set 9 _).set 11 _)
    have hM' := ((hM.out.set np 9 (.int .u64 f1)).set np 11 (.int .i64 3))
    have hF' := ((hF.out.trans (fr_p w5 9 (.int .u64 f1))).trans (fr_p (w5.setCell ⟨p, 9, none⟩ (.int .u64 f1)) 11 (.int .i64 3)))
    clear hp hM hF hX hY_w3 hY_w4 hfr hl z9 z11 l0 l1 l2 l3 l4 l5 l6 l7 l8 l9 l10 l11
    generalize (w5.setCell ⟨p, 9, none⟩ (.int .u64 f1)).setCell ⟨p, 11, none⟩ (.int .i64 3) = w6 at *
    have hp := Lib.hid hp'
    have hM := Lib.hid hM'
    have hF := Lib.hid hF'
    clear hp' hM' hF'
    obtain ⟨l0, l1, l2, l3, l4, l5, l6, l7, l8, l9, l10, l11⟩ := free_cells hp.out
    have z11 := hp.out.frozen 11
    go_wp2
    go_ret
    exact ⟨rfl, hp.out.set 11 _, hM.out.set np 11 _, hF.out.trans (fr_p _ 11 _)⟩
set_option maxHeartbeats 4000000 in
set_option maxRecDepth 100000 in
theorem free_3d (s0 : 0 ≤ sl) (s1 : sl < c.S) (n0 : 0 ≤ nw) (n1 : nw < 18446744073709551616) (hk : (uK nw == 4) = true) (hp : Blk w p 95 (freeA c bk gn sl nw pu 3)) : Calls Try.prog 59 #[.pointer (some ⟨p, 0, none⟩), .pointer (some ⟨m, 0, none⟩)] w fun e w' =>
    e = .returned (.bool true) ∧ ∃ q, w.heap.size ≤ q ∧ PushB w' q c ⟨sl, 0, 0⟩ ∧ Blk w' p 95 (freeA c bk true sl nw ((some ⟨q, 0, none⟩)) 5) ∧ MemB w' m b (M.stS (c.header sl) nw) ∧ Fr (three p m b) w w' := by
  have hu := fun w => unpack_c nw n0 n1 w
  have ltp := Blk.lt hp
  have hF := Lib.hid (Fr.refl (three p m b) w)
  obtain ⟨k0, k1, k2, k3, k4, k5, k6, k7, k8, k9, k10, k11⟩ := free_cells hp
  replace hp := Lib.hid hp
  replace hM := Lib.hid hM
  go_enter Try.func59, Try.ntmps59
  go_wp2
  clear k0 k1 k2 k3 k4 k5 k6 k7 k8 k9 k10 k11
  replace hp := Lib.hid hp.out.drew
  replace hM := Lib.hid hM.out.drew
  replace hF := Lib.hid (hF.out.trans (Fr.drew _ w))
  have hX0 := free_cells hp.out
  have hX : w.drew.cell? ⟨p, 0, none⟩ = some (.bool bk) ∧ w.drew.cell? ⟨p, 1, none⟩ = some (.bool gn) ∧ w.drew.cell? ⟨p, 2, none⟩ = some (.int .i64 c.S) ∧ w.drew.cell? ⟨p, 3, none⟩ = some (.int .i64 c.A) ∧ w.drew.cell? ⟨p, 4, none⟩ = some (.int .i64 c.C) ∧ w.drew.cell? ⟨p, 5, none⟩ = some (.int .i64 c.H) ∧ w.drew.cell? ⟨p, 6, none⟩ = some (.int .i64 c.G) ∧ w.drew.cell? ⟨p, 7, none⟩ = some (.int .i64 c.K) ∧ w.drew.cell? ⟨p, 8, none⟩ = some (.int .i64 sl) ∧ w.drew.cell? ⟨p, 9, none⟩ = some (.int .u64 nw) ∧ w.drew.cell? ⟨p, 10, none⟩ = some (.pointer pu) ∧ w.drew.cell? ⟨p, 11, none⟩ = some (.int .i64 3) := hX0
  clear hX0
  go_region_held3 (fun w' => w'.cell? ⟨p, 0, none⟩ = some (.bool bk) ∧ w'.cell? ⟨p, 1, none⟩ = some (.bool gn) ∧ w'.cell? ⟨p, 2, none⟩ = some (.int .i64 c.S) ∧ w'.cell? ⟨p, 3, none⟩ = some (.int .i64 c.A) ∧ w'.cell? ⟨p, 4, none⟩ = some (.int .i64 c.C) ∧ w'.cell? ⟨p, 5, none⟩ = some (.int .i64 c.H) ∧ w'.cell? ⟨p, 6, none⟩ = some (.int .i64 c.G) ∧ w'.cell? ⟨p, 7, none⟩ = some (.int .i64 c.K) ∧ w'.cell? ⟨p, 8, none⟩ = some (.int .i64 sl) ∧ w'.cell? ⟨p, 9, none⟩ = some (.int .u64 nw) ∧ w'.cell? ⟨p, 10, none⟩ = some (.pointer pu) ∧ w'.cell? ⟨p, 11, none⟩ = some (.int .i64 3)) (assumption) (first
    | (go_at_call 72; refine (headerC c _ sl).mono ?_; rintro e w3 ⟨rfl, hb⟩; replace hp := Lib.hid (hp.out.below hb hp.out.lt); replace hM := Lib.hid (hM.out.next hb); replace hF := Lib.hid (hF.out.trans (fr_below hb)); clear hb; have hY_w3 : w3.cell? ⟨p, 0, none⟩ = some (.bool bk) ∧ w3.cell? ⟨p, 1, none⟩ = some (.bool gn) ∧ w3.cell? ⟨p, 2, none⟩ = some (.int .i64 c.S) ∧ w3.cell? ⟨p, 3, none⟩ = some (.int .i64 c.A) ∧ w3.cell? ⟨p, 4, none⟩ = some (.int .i64 c.C) ∧ w3.cell? ⟨p, 5, none⟩ = some (.int .i64 c.H) ∧ w3.cell? ⟨p, 6, none⟩ = some (.int .i64 c.G) ∧ w3.cell? ⟨p, 7, none⟩ = some (.int .i64 c.K) ∧ w3.cell? ⟨p, 8, none⟩ = some (.int .i64 sl) ∧ w3.cell? ⟨p, 9, none⟩ = some (.int .u64 nw) ∧ w3.cell? ⟨p, 10, none⟩ = some (.pointer pu) ∧ w3.cell? ⟨p, 11, none⟩ = some (.int .i64 3) := (by obtain ⟨y0, y1, y2, y3, y4, y5, y6, y7, y8, y9, y10, y11⟩ := free_cells hp.out; exact ⟨y0, y1, y2, y3, y4, y5, y6, y7, y8, y9, y10, y11⟩))
    | (go_at_call 57; refine (store_c _ m b M (c.header sl) hM.out ok nw).mono ?_; rintro e w4 ⟨rfl, hM', hF'⟩; replace hp := Lib.hid (hp.out.fr hF' np); replace hM := Lib.hid hM'; replace hF := Lib.hid (hF.out.trans (two_three hF')); clear hM' hF'; have hY_w4 : w4.cell? ⟨p, 0, none⟩ = some (.bool bk) ∧ w4.cell? ⟨p, 1, none⟩ = some (.bool gn) ∧ w4.cell? ⟨p, 2, none⟩ = some (.int .i64 c.S) ∧ w4.cell? ⟨p, 3, none⟩ = some (.int .i64 c.A) ∧ w4.cell? ⟨p, 4, none⟩ = some (.int .i64 c.C) ∧ w4.cell? ⟨p, 5, none⟩ = some (.int .i64 c.H) ∧ w4.cell? ⟨p, 6, none⟩ = some (.int .i64 c.G) ∧ w4.cell? ⟨p, 7, none⟩ = some (.int .i64 c.K) ∧ w4.cell? ⟨p, 8, none⟩ = some (.int .i64 sl) ∧ w4.cell? ⟨p, 9, none⟩ = some (.int .u64 nw) ∧ w4.cell? ⟨p, 10, none⟩ = some (.pointer pu) ∧ w4.cell? ⟨p, 11, none⟩ = some (.int .i64 3) := (by obtain ⟨y0, y1, y2, y3, y4, y5, y6, y7, y8, y9, y10, y11⟩ := free_cells hp.out; exact ⟨y0, y1, y2, y3, y4, y5, y6, y7, y8, y9, y10, y11⟩)))
  all_goals
    clear hX hY_w3 hY_w4
    go_wp2
    replace hp := Lib.hid hp.out.drew
    replace hM := Lib.hid hM.out.drew
    replace hF := Lib.hid (hF.out.trans (Fr.drew _ w4))
    have hX0 := free_cells hp.out
    have hX : w4.drew.cell? ⟨p, 0, none⟩ = some (.bool bk) ∧ w4.drew.cell? ⟨p, 1, none⟩ = some (.bool gn) ∧ w4.drew.cell? ⟨p, 2, none⟩ = some (.int .i64 c.S) ∧ w4.drew.cell? ⟨p, 3, none⟩ = some (.int .i64 c.A) ∧ w4.drew.cell? ⟨p, 4, none⟩ = some (.int .i64 c.C) ∧ w4.drew.cell? ⟨p, 5, none⟩ = some (.int .i64 c.H) ∧ w4.drew.cell? ⟨p, 6, none⟩ = some (.int .i64 c.G) ∧ w4.drew.cell? ⟨p, 7, none⟩ = some (.int .i64 c.K) ∧ w4.drew.cell? ⟨p, 8, none⟩ = some (.int .i64 sl) ∧ w4.drew.cell? ⟨p, 9, none⟩ = some (.int .u64 nw) := by
      obtain ⟨x0, x1, x2, x3, x4, x5, x6, x7, x8, x9, x10, x11⟩ := hX0
      exact ⟨x0, x1, x2, x3, x4, x5, x6, x7, x8, x9⟩
    clear hX0
    go_region_held3 (fun w' => w'.cell? ⟨p, 0, none⟩ = some (.bool bk) ∧ w'.cell? ⟨p, 1, none⟩ = some (.bool gn) ∧ w'.cell? ⟨p, 2, none⟩ = some (.int .i64 c.S) ∧ w'.cell? ⟨p, 3, none⟩ = some (.int .i64 c.A) ∧ w'.cell? ⟨p, 4, none⟩ = some (.int .i64 c.C) ∧ w'.cell? ⟨p, 5, none⟩ = some (.int .i64 c.H) ∧ w'.cell? ⟨p, 6, none⟩ = some (.int .i64 c.G) ∧ w'.cell? ⟨p, 7, none⟩ = some (.int .i64 c.K) ∧ w'.cell? ⟨p, 8, none⟩ = some (.int .i64 sl) ∧ w'.cell? ⟨p, 9, none⟩ = some (.int .u64 nw)) (first | assumption | (refine free_k10 ?_; assumption) | (refine free_k11 ?_; assumption)) (first
      | (go_at_call 46; refine (newPushC c _ sl hc s0 s1).mono ?_; rintro e w5 ⟨q, rfl, gq, hq, hb⟩; have zq := hF.out.size; have ltq := Blk.lt hq; replace hq := Lib.hid hq; have ltw := hp.out.lt; replace hp := Lib.hid (hp.out.below hb hp.out.lt); replace hM := Lib.hid (hM.out.next hb); replace hF := Lib.hid (hF.out.trans (fr_below hb)); clear hb; have z10 := hp.out.frozen 10; have z11 := hp.out.frozen 11; have hY_w5 : w5.cell? ⟨p, 0, none⟩ = some (.bool bk) ∧ w5.cell? ⟨p, 1, none⟩ = some (.bool gn) ∧ w5.cell? ⟨p, 2, none⟩ = some (.int .i64 c.S) ∧ w5.cell? ⟨p, 3, none⟩ = some (.int .i64 c.A) ∧ w5.cell? ⟨p, 4, none⟩ = some (.int .i64 c.C) ∧ w5.cell? ⟨p, 5, none⟩ = some (.int .i64 c.H) ∧ w5.cell? ⟨p, 6, none⟩ = some (.int .i64 c.G) ∧ w5.cell? ⟨p, 7, none⟩ = some (.int .i64 c.K) ∧ w5.cell? ⟨p, 8, none⟩ = some (.int .i64 sl) ∧ w5.cell? ⟨p, 9, none⟩ = some (.int .u64 nw) := (by obtain ⟨y0, y1, y2, y3, y4, y5, y6, y7, y8, y9, y10, y11⟩ := free_cells hp.out; exact ⟨y0, y1, y2, y3, y4, y5, y6, y7, y8, y9⟩); have l10 := hp.out.cell (i := 10) (v := .pointer pu) rfl; have l11 := hp.out.cell (i := 11) (v := .int .i64 3) rfl))
    all_goals
      go_upto_region 12 with (fail)
      have nqp : q ≠ p := (by intro e; subst e; exact absurd ltw (by omega))
      have zq' : w.heap.size ≤ q := Nat.le_trans zq gq
      have hq' : PushB ((w5.setCell ⟨p, 10, none⟩ (.pointer (some ⟨q, 0, none⟩))).setCell ⟨p, 11, none⟩ (.int .i64 4)) q c ⟨sl, 0, 0⟩ := Blk.other (Blk.other hq.out ⟨p, 10, none⟩ nqp _) ⟨p, 11, none⟩ nqp _
      have hp' : Blk ((w5.setCell ⟨p, 10, none⟩ (.pointer (some ⟨q, 0, none⟩))).setCell ⟨p, 11, none⟩ (.int .i64 4)) p 95 (freeA c bk gn sl nw ((some ⟨q, 0, none⟩)) 4) := ((hp.out.set 10 _).set 11 _)
      have hM' := ((hM.out.set np 10 (.pointer (some ⟨q, 0, none⟩))).set np 11 (.int .i64 4))
      have hF' := ((hF.out.trans (fr_p w5 10 (.pointer (some ⟨q, 0, none⟩)))).trans (fr_p (w5.setCell ⟨p, 10, none⟩ (.pointer (some ⟨q, 0, none⟩))) 11 (.int .i64 4)))
      clear hp hM hF hX hY_w5 z10 z11 l10 l11 hq
      generalize (w5.setCell ⟨p, 10, none⟩ (.pointer (some ⟨q, 0, none⟩))).setCell ⟨p, 11, none⟩ (.int .i64 4) = w6 at *
      have hp := Lib.hid hp'
      have hM := Lib.hid hM'
      have hF := Lib.hid hF'
      clear hp' hM' hF'
      have hq := Lib.hid hq'
      clear hq'
      have ltq' := Blk.lt hq.out
      have l9 := hp.out.cell (i := 9) (v := .int .u64 nw) rfl
      have hk4 : uK nw = 4 := by simpa using hk
      go_wp2_with (go_at_call 86; refine (hu _).mono ?_; rintro e w7 ⟨rfl, hb⟩; rw [hk4]; replace hq := Lib.hid (Blk.below hq.out hb ltq'); replace hp := Lib.hid (hp.out.below hb hp.out.lt); replace hM := Lib.hid (hM.out.next hb); replace hF := Lib.hid (hF.out.trans (fr_below hb)); clear hb; have hN := Blk.new w7 85 (#[.int .i64 4, .int .i64 (uM nw), .bool (uG nw), .int .i64 (uA nw), .int .i64 (uN nw), .int .i64 (uS nw)] : Array Value); have n0' := hN.cell (i := 0) (v := .int .i64 4) rfl; have hpa := hp.out.alloc (.cells (#[.int .i64 4, .int .i64 (uM nw), .bool (uG nw), .int .i64 (uA nw), .int .i64 (uN nw), .int .i64 (uS nw)] : Array Value) 85); have z1 := hpa.frozen 1; have z11 := hpa.frozen 11; have a1 := hpa.cell (i := 1) (v := .bool gn) rfl; have a11 := hpa.cell (i := 11) (v := .int .i64 4) rfl)
      go_ret
      exact ⟨rfl, q, zq', Blk.other (Blk.other (Blk.alloc hq.out _) ⟨p, 1, none⟩ nqp _) ⟨p, 11, none⟩ nqp _, ((hp.out.alloc _).set 1 _).set 11 _, ((hM.out.alloc _).set np 1 _).set np 11 _, ((hF.out.trans (Fr.alloc _ w7 _)).trans (fr_p _ 1 _)).trans (fr_p _ 11 _)⟩
set_option maxHeartbeats 4000000 in
set_option maxRecDepth 100000 in
theorem free_3b (s0 : 0 ≤ sl) (s1 : sl < c.S) (n0 : 0 ≤ nw) (n1 : nw < 18446744073709551616) (hk : (uK nw == 4) = false) (hp : Blk w p 95 (freeA c bk gn sl nw pu 3)) : Calls Try.prog 59 #[.pointer (some ⟨p, 0, none⟩), .pointer (some ⟨m, 0, none⟩)] w fun e w' =>
    e = .returned (.bool false) ∧ ∃ q, w.heap.size ≤ q ∧ PushB w' q c ⟨sl, 0, 0⟩ ∧ Blk w' p 95 (freeA c bk gn sl nw ((some ⟨q, 0, none⟩)) 4) ∧ MemB w' m b (M.stS (c.header sl) nw) ∧ Fr (three p m b) w w' := by
  have hu := fun w => unpack_c nw n0 n1 w
  have ltp := Blk.lt hp
  have hF := Lib.hid (Fr.refl (three p m b) w)
  obtain ⟨k0, k1, k2, k3, k4, k5, k6, k7, k8, k9, k10, k11⟩ := free_cells hp
  replace hp := Lib.hid hp
  replace hM := Lib.hid hM
  go_enter Try.func59, Try.ntmps59
  go_wp2
  clear k0 k1 k2 k3 k4 k5 k6 k7 k8 k9 k10 k11
  replace hp := Lib.hid hp.out.drew
  replace hM := Lib.hid hM.out.drew
  replace hF := Lib.hid (hF.out.trans (Fr.drew _ w))
  have hX0 := free_cells hp.out
  have hX : w.drew.cell? ⟨p, 0, none⟩ = some (.bool bk) ∧ w.drew.cell? ⟨p, 1, none⟩ = some (.bool gn) ∧ w.drew.cell? ⟨p, 2, none⟩ = some (.int .i64 c.S) ∧ w.drew.cell? ⟨p, 3, none⟩ = some (.int .i64 c.A) ∧ w.drew.cell? ⟨p, 4, none⟩ = some (.int .i64 c.C) ∧ w.drew.cell? ⟨p, 5, none⟩ = some (.int .i64 c.H) ∧ w.drew.cell? ⟨p, 6, none⟩ = some (.int .i64 c.G) ∧ w.drew.cell? ⟨p, 7, none⟩ = some (.int .i64 c.K) ∧ w.drew.cell? ⟨p, 8, none⟩ = some (.int .i64 sl) ∧ w.drew.cell? ⟨p, 9, none⟩ = some (.int .u64 nw) ∧ w.drew.cell? ⟨p, 10, none⟩ = some (.pointer pu) ∧ w.drew.cell? ⟨p, 11, none⟩ = some (.int .i64 3) := hX0
  clear hX0
  go_region_held3 (fun w' => w'.cell? ⟨p, 0, none⟩ = some (.bool bk) ∧ w'.cell? ⟨p, 1, none⟩ = some (.bool gn) ∧ w'.cell? ⟨p, 2, none⟩ = some (.int .i64 c.S) ∧ w'.cell? ⟨p, 3, none⟩ = some (.int .i64 c.A) ∧ w'.cell? ⟨p, 4, none⟩ = some (.int .i64 c.C) ∧ w'.cell? ⟨p, 5, none⟩ = some (.int .i64 c.H) ∧ w'.cell? ⟨p, 6, none⟩ = some (.int .i64 c.G) ∧ w'.cell? ⟨p, 7, none⟩ = some (.int .i64 c.K) ∧ w'.cell? ⟨p, 8, none⟩ = some (.int .i64 sl) ∧ w'.cell? ⟨p, 9, none⟩ = some (.int .u64 nw) ∧ w'.cell? ⟨p, 10, none⟩ = some (.pointer pu) ∧ w'.cell? ⟨p, 11, none⟩ = some (.int .i64 3)) (assumption) (first
    | (go_at_call 72; refine (headerC c _ sl).mono ?_; rintro e w3 ⟨rfl, hb⟩; replace hp := Lib.hid (hp.out.below hb hp.out.lt); replace hM := Lib.hid (hM.out.next hb); replace hF := Lib.hid (hF.out.trans (fr_below hb)); clear hb; have hY_w3 : w3.cell? ⟨p, 0, none⟩ = some (.bool bk) ∧ w3.cell? ⟨p, 1, none⟩ = some (.bool gn) ∧ w3.cell? ⟨p, 2, none⟩ = some (.int .i64 c.S) ∧ w3.cell? ⟨p, 3, none⟩ = some (.int .i64 c.A) ∧ w3.cell? ⟨p, 4, none⟩ = some (.int .i64 c.C) ∧ w3.cell? ⟨p, 5, none⟩ = some (.int .i64 c.H) ∧ w3.cell? ⟨p, 6, none⟩ = some (.int .i64 c.G) ∧ w3.cell? ⟨p, 7, none⟩ = some (.int .i64 c.K) ∧ w3.cell? ⟨p, 8, none⟩ = some (.int .i64 sl) ∧ w3.cell? ⟨p, 9, none⟩ = some (.int .u64 nw) ∧ w3.cell? ⟨p, 10, none⟩ = some (.pointer pu) ∧ w3.cell? ⟨p, 11, none⟩ = some (.int .i64 3) := (by obtain ⟨y0, y1, y2, y3, y4, y5, y6, y7, y8, y9, y10, y11⟩ := free_cells hp.out; exact ⟨y0, y1, y2, y3, y4, y5, y6, y7, y8, y9, y10, y11⟩))
    | (go_at_call 57; refine (store_c _ m b M (c.header sl) hM.out ok nw).mono ?_; rintro e w4 ⟨rfl, hM', hF'⟩; replace hp := Lib.hid (hp.out.fr hF' np); replace hM := Lib.hid hM'; replace hF := Lib.hid (hF.out.trans (two_three hF')); clear hM' hF'; have hY_w4 : w4.cell? ⟨p, 0, none⟩ = some (.bool bk) ∧ w4.cell? ⟨p, 1, none⟩ = some (.bool gn) ∧ w4.cell? ⟨p, 2, none⟩ = some (.int .i64 c.S) ∧ w4.cell? ⟨p, 3, none⟩ = some (.int .i64 c.A) ∧ w4.cell? ⟨p, 4, none⟩ = some (.int .i64 c.C) ∧ w4.cell? ⟨p, 5, none⟩ = some (.int .i64 c.H) ∧ w4.cell? ⟨p, 6, none⟩ = some (.int .i64 c.G) ∧ w4.cell? ⟨p, 7, none⟩ = some (.int .i64 c.K) ∧ w4.cell? ⟨p, 8, none⟩ = some (.int .i64 sl) ∧ w4.cell? ⟨p, 9, none⟩ = some (.int .u64 nw) ∧ w4.cell? ⟨p, 10, none⟩ = some (.pointer pu) ∧ w4.cell? ⟨p, 11, none⟩ = some (.int .i64 3) := (by obtain ⟨y0, y1, y2, y3, y4, y5, y6, y7, y8, y9, y10, y11⟩ := free_cells hp.out; exact ⟨y0, y1, y2, y3, y4, y5, y6, y7, y8, y9, y10, y11⟩)))
  all_goals
    clear hX hY_w3 hY_w4
    go_wp2
    replace hp := Lib.hid hp.out.drew
    replace hM := Lib.hid hM.out.drew
    replace hF := Lib.hid (hF.out.trans (Fr.drew _ w4))
    have hX0 := free_cells hp.out
    have hX : w4.drew.cell? ⟨p, 0, none⟩ = some (.bool bk) ∧ w4.drew.cell? ⟨p, 1, none⟩ = some (.bool gn) ∧ w4.drew.cell? ⟨p, 2, none⟩ = some (.int .i64 c.S) ∧ w4.drew.cell? ⟨p, 3, none⟩ = some (.int .i64 c.A) ∧ w4.drew.cell? ⟨p, 4, none⟩ = some (.int .i64 c.C) ∧ w4.drew.cell? ⟨p, 5, none⟩ = some (.int .i64 c.H) ∧ w4.drew.cell? ⟨p, 6, none⟩ = some (.int .i64 c.G) ∧ w4.drew.cell? ⟨p, 7, none⟩ = some (.int .i64 c.K) ∧ w4.drew.cell? ⟨p, 8, none⟩ = some (.int .i64 sl) ∧ w4.drew.cell? ⟨p, 9, none⟩ = some (.int .u64 nw) := by
      obtain ⟨x0, x1, x2, x3, x4, x5, x6, x7, x8, x9, x10, x11⟩ := hX0
      exact ⟨x0, x1, x2, x3, x4, x5, x6, x7, x8, x9⟩
    clear hX0
    go_region_held3 (fun w' => w'.cell? ⟨p, 0, none⟩ = some (.bool bk) ∧ w'.cell? ⟨p, 1, none⟩ = some (.bool gn) ∧ w'.cell? ⟨p, 2, none⟩ = some (.int .i64 c.S) ∧ w'.cell? ⟨p, 3, none⟩ = some (.int .i64 c.A) ∧ w'.cell? ⟨p, 4, none⟩ = some (.int .i64 c.C) ∧ w'.cell? ⟨p, 5, none⟩ = some (.int .i64 c.H) ∧ w'.cell? ⟨p, 6, none⟩ = some (.int .i64 c.G) ∧ w'.cell? ⟨p, 7, none⟩ = some (.int .i64 c.K) ∧ w'.cell? ⟨p, 8, none⟩ = some (.int .i64 sl) ∧ w'.cell? ⟨p, 9, none⟩ = some (.int .u64 nw)) (first | assumption | (refine free_k10 ?_; assumption) | (refine free_k11 ?_; assumption)) (first
      | (go_at_call 46; refine (newPushC c _ sl hc s0 s1).mono ?_; rintro e w5 ⟨q, rfl, gq, hq, hb⟩; have zq := hF.out.size; have ltq := Blk.lt hq; replace hq := Lib.hid hq; have ltw := hp.out.lt; replace hp := Lib.hid (hp.out.below hb hp.out.lt); replace hM := Lib.hid (hM.out.next hb); replace hF := Lib.hid (hF.out.trans (fr_below hb)); clear hb; have z10 := hp.out.frozen 10; have z11 := hp.out.frozen 11; have hY_w5 : w5.cell? ⟨p, 0, none⟩ = some (.bool bk) ∧ w5.cell? ⟨p, 1, none⟩ = some (.bool gn) ∧ w5.cell? ⟨p, 2, none⟩ = some (.int .i64 c.S) ∧ w5.cell? ⟨p, 3, none⟩ = some (.int .i64 c.A) ∧ w5.cell? ⟨p, 4, none⟩ = some (.int .i64 c.C) ∧ w5.cell? ⟨p, 5, none⟩ = some (.int .i64 c.H) ∧ w5.cell? ⟨p, 6, none⟩ = some (.int .i64 c.G) ∧ w5.cell? ⟨p, 7, none⟩ = some (.int .i64 c.K) ∧ w5.cell? ⟨p, 8, none⟩ = some (.int .i64 sl) ∧ w5.cell? ⟨p, 9, none⟩ = some (.int .u64 nw) := (by obtain ⟨y0, y1, y2, y3, y4, y5, y6, y7, y8, y9, y10, y11⟩ := free_cells hp.out; exact ⟨y0, y1, y2, y3, y4, y5, y6, y7, y8, y9⟩); have l10 := hp.out.cell (i := 10) (v := .pointer pu) rfl; have l11 := hp.out.cell (i := 11) (v := .int .i64 3) rfl))
    all_goals
      go_upto_region 12 with (fail)
      have nqp : q ≠ p := (by intro e; subst e; exact absurd ltw (by omega))
      have zq' : w.heap.size ≤ q := Nat.le_trans zq gq
      have hq' : PushB ((w5.setCell ⟨p, 10, none⟩ (.pointer (some ⟨q, 0, none⟩))).setCell ⟨p, 11, none⟩ (.int .i64 4)) q c ⟨sl, 0, 0⟩ := Blk.other (Blk.other hq.out ⟨p, 10, none⟩ nqp _) ⟨p, 11, none⟩ nqp _
      have hp' : Blk ((w5.setCell ⟨p, 10, none⟩ (.pointer (some ⟨q, 0, none⟩))).setCell ⟨p, 11, none⟩ (.int .i64 4)) p 95 (freeA c bk gn sl nw ((some ⟨q, 0, none⟩)) 4) := ((hp.out.set 10 _).set 11 _)
      have hM' := ((hM.out.set np 10 (.pointer (some ⟨q, 0, none⟩))).set np 11 (.int .i64 4))
      have hF' := ((hF.out.trans (fr_p w5 10 (.pointer (some ⟨q, 0, none⟩)))).trans (fr_p (w5.setCell ⟨p, 10, none⟩ (.pointer (some ⟨q, 0, none⟩))) 11 (.int .i64 4)))
      clear hp hM hF hX hY_w5 z10 z11 l10 l11 hq
      generalize (w5.setCell ⟨p, 10, none⟩ (.pointer (some ⟨q, 0, none⟩))).setCell ⟨p, 11, none⟩ (.int .i64 4) = w6 at *
      have hp := Lib.hid hp'
      have hM := Lib.hid hM'
      have hF := Lib.hid hF'
      clear hp' hM' hF'
      have hq := Lib.hid hq'
      clear hq'
      have ltq' := Blk.lt hq.out
      have l9 := hp.out.cell (i := 9) (v := .int .u64 nw) rfl
      go_wp2_with (go_at_call 86; refine (hu _).mono ?_; rintro e w7 ⟨rfl, hb⟩; replace hq := Lib.hid (Blk.below hq.out hb ltq'); replace hp := Lib.hid (hp.out.below hb hp.out.lt); replace hM := Lib.hid (hM.out.next hb); replace hF := Lib.hid (hF.out.trans (fr_below hb)); clear hb; have hN := Blk.new w7 85 (#[.int .i64 (uK nw), .int .i64 (uM nw), .bool (uG nw), .int .i64 (uA nw), .int .i64 (uN nw), .int .i64 (uS nw)] : Array Value); have n0' := hN.cell (i := 0) (v := .int .i64 (uK nw)) rfl; have hpa := hp.out.alloc (.cells (#[.int .i64 (uK nw), .int .i64 (uM nw), .bool (uG nw), .int .i64 (uA nw), .int .i64 (uN nw), .int .i64 (uS nw)] : Array Value) 85); have z1 := hpa.frozen 1; have z11 := hpa.frozen 11; have a1 := hpa.cell (i := 1) (v := .bool gn) rfl; have a11 := hpa.cell (i := 11) (v := .int .i64 4) rfl)
      go_ret
      exact ⟨rfl, q, zq', Blk.alloc hq.out _, hp.out.alloc _, hM.out.alloc _, hF.out.trans (Fr.alloc _ w7 _)⟩
set_option maxHeartbeats 4000000 in
set_option maxRecDepth 100000 in
theorem free_4a (q : Nat) (Q : Push) (nqm : ¬ two m b q) (nqp : q ≠ p) (hQ : PushB w q c Q) (oQ : PushOk Q) (hd : pushD c Q M = true) (hp : Blk w p 95 (freeA c bk gn sl nw ((some ⟨q, 0, none⟩)) 4)) : Calls Try.prog 59 #[.pointer (some ⟨p, 0, none⟩), .pointer (some ⟨m, 0, none⟩)] w fun e w' =>
    e = .returned (.bool true) ∧ PushB w' q c (pushS c Q M) ∧ Blk w' p 95 (freeA c true gn sl nw ((some ⟨q, 0, none⟩)) 5) ∧ MemB w' m b (pushM c Q M) ∧ Fr (four p q m b) w w' := by
  have n3 : ¬ three q m b p := fun h => h.elim (fun e => nqp e.symm) np
  have hS := fun w hM hQ => pushC c w q m b M hc hM ok nqm Q hQ oQ
  rw [hd] at hS
  have hF := Lib.hid (Fr.refl (four p q m b) w)
  obtain ⟨k0, k1, k2, k3, k4, k5, k6, k7, k8, k9, k10, k11⟩ := free_cells hp
  replace hp := Lib.hid hp
  replace hM := Lib.hid hM
  replace hQ := Lib.hid hQ
  go_enter Try.func59, Try.ntmps59
  go_wp2_with (go_at_call 47; refine (hS _ hM.out hQ.out).mono ?_; rintro e w7 ⟨rfl, hQ', hM', hF'⟩; replace hp := Lib.hid (hp.out.fr hF' n3); replace hF := Lib.hid (hF.out.trans (hF'.mono (fun _ x => .inr x))); have z0 := hp.out.frozen 0; have z6 := hp.out.frozen 11; have a0 := hp.out.cell (i := 0) (v := .bool bk) rfl; have a11 := hp.out.cell (i := 11) (v := .int .i64 4) rfl)
  go_ret
  exact ⟨rfl, Blk.other (Blk.other hQ' ⟨p, 0, none⟩ nqp _) ⟨p, 11, none⟩ nqp _, (hp.out.set 0 _).set 11 _, (hM'.set np 0 _).set np 11 _, (hF.out.trans (fr_f _ 0 _)).trans (fr_f _ 11 _)⟩
set_option maxHeartbeats 4000000 in
set_option maxRecDepth 100000 in
theorem free_4b (q : Nat) (Q : Push) (nqm : ¬ two m b q) (nqp : q ≠ p) (hQ : PushB w q c Q) (oQ : PushOk Q) (hd : pushD c Q M = false) (hp : Blk w p 95 (freeA c bk gn sl nw ((some ⟨q, 0, none⟩)) 4)) : Calls Try.prog 59 #[.pointer (some ⟨p, 0, none⟩), .pointer (some ⟨m, 0, none⟩)] w fun e w' =>
    e = .returned (.bool false) ∧ PushB w' q c (pushS c Q M) ∧ Blk w' p 95 (freeA c bk gn sl nw ((some ⟨q, 0, none⟩)) 4) ∧ MemB w' m b (pushM c Q M) ∧ Fr (four p q m b) w w' := by
  have n3 : ¬ three q m b p := fun h => h.elim (fun e => nqp e.symm) np
  have hS := fun w hM hQ => pushC c w q m b M hc hM ok nqm Q hQ oQ
  rw [hd] at hS
  have hF := Lib.hid (Fr.refl (four p q m b) w)
  obtain ⟨k0, k1, k2, k3, k4, k5, k6, k7, k8, k9, k10, k11⟩ := free_cells hp
  replace hp := Lib.hid hp
  replace hM := Lib.hid hM
  replace hQ := Lib.hid hQ
  go_enter Try.func59, Try.ntmps59
  go_wp2_with (go_at_call 47; refine (hS _ hM.out hQ.out).mono ?_; rintro e w7 ⟨rfl, hQ', hM', hF'⟩; replace hp := Lib.hid (hp.out.fr hF' n3); replace hF := Lib.hid (hF.out.trans (hF'.mono (fun _ x => .inr x))); have z0 := hp.out.frozen 0; have z6 := hp.out.frozen 11; have a0 := hp.out.cell (i := 0) (v := .bool bk) rfl; have a11 := hp.out.cell (i := 11) (v := .int .i64 4) rfl)
  go_ret
  exact ⟨rfl, hQ', hp.out, hM', hF.out⟩
set_option maxHeartbeats 4000000 in
set_option maxRecDepth 100000 in
theorem free_5 (hp : Blk w p 95 (freeA c bk gn sl nw pu 5)) : Calls Try.prog 59 #[.pointer (some ⟨p, 0, none⟩), .pointer (some ⟨m, 0, none⟩)] w fun e w' => e = .returned (.bool true) ∧ w' = w := by
  obtain ⟨k0, k1, k2, k3, k4, k5, k6, k7, k8, k9, k10, k11⟩ := free_cells hp
  replace hp := Lib.hid hp
  replace hM := Lib.hid hM
  go_enter Try.func59, Try.ntmps59
  go_wp2
  go_ret
  exact ⟨rfl, rfl⟩
end
theorem newFreeC (c : Cf) (w : World) (s : Int) (h : ¬ c.header s < 0) : Calls Try.prog 54 #[.agg #[.int .i64 c.S, .int .i64 c.A, .int .i64 c.C, .int .i64 c.H, .int .i64 c.G, .int .i64 c.K], .int .i64 s] w fun e w' =>
    ∃ p, e = .returned (.pointer (some ⟨p, 0, none⟩)) ∧ w.heap.size ≤ p ∧ Blk w' p 95 (freeA c false false s 0 none 1) ∧ Below w.heap.size w w' := by
  have hf := Lib.hid (Blk.new w 23 #[.int .i64 c.S, .int .i64 c.A, .int .i64 c.C, .int .i64 c.H, .int .i64 c.G, .int .i64 c.K])
  have hb0 : decide (c.header s < 0) = false := by simpa using h
  replace hb0 := Lib.hid hb0
  clear h
  go_enter Try.func54, Try.ntmps54
  go_wp2_with (go_at_call 72; refine (headerC c _ s).mono ?_; rintro e w1 ⟨rfl, hb⟩; have hf1 := hf.out.below hb hf.out.lt; obtain ⟨k0, k1, k2, k3, k4, k5⟩ := cfgs hf1; replace hb := Lib.hid (below_pre hb); clear hf1; have hx := hb0.out; generalize c.header s = x at *)
  go_ret
  have hs := hb.out.size
  exact ⟨w1.heap.size, rfl, hs, Blk.new w1 95 _, hb.out.alloc hs _⟩
end Go.Proofs.Ytijfkpoofpcacaa.ArenaC
end
section
set_option linter.unusedVariables false
set_option linter.unusedSectionVars false
set_option linter.unusedSimpArgs false
namespace Go.Proofs.Ytijfkpoofpcacaa.ArenaM
open Go.RowKit Go.Proofs.YtijfkpoofpcacaaW.PrintWords Go.Proofs.Ytijfkpoofpcacaa.Blk Go.Proofs.Ytijfkpoofpcacaa.Core Go.Proofs.Ytijfkpoofpcacaa.MemC Go.Proofs.Ytijfkpoofpcacaa.MemD Go.Proofs.Ytijfkpoofpcacaa.MemT Go.Proofs.Ytijfkpoofpcacaa.PlanC Go.Proofs.Ytijfkpoofpcacaa.PlanD Go.Proofs.Ytijfkpoofpcacaa.StackC Go.Proofs.Ytijfkpoofpcacaa.StackS Go.Proofs.Ytijfkpoofpcacaa.HeadC Go.Proofs.Ytijfkpoofpcacaa.ArenaC
def makeA (c : Cf) (sl : Int) (fu : Bool) (kd : Int) (ar : Int) (ep : Int) (bd : Value) (po : Option Addr) (gn : Int) (ix : Int) (nx : Int) : Array Value := #[.int .i64 sl, .bool fu, .int .i64 c.S, .int .i64 c.A, .int .i64 c.C, .int .i64 c.H, .int .i64 c.G, .int .i64 c.K, .int .i64 kd, .int .i64 ar, .int .u64 ep, bd, .pointer po, .int .i64 gn, .int .i64 ix, .int .i64 nx]
theorem make_cells {w : World} {p t : Nat} {c : Cf} {sl : Int} {fu : Bool} {kd : Int} {ar : Int} {ep : Int} {bd : Value} {po : Option Addr} {gn : Int} {ix : Int} {nx : Int} (h : Blk w p t (makeA c sl fu kd ar ep bd po gn ix nx)) :
    w.cell? ⟨p, 0, none⟩ = some (.int .i64 sl) ∧ w.cell? ⟨p, 1, none⟩ = some (.bool fu) ∧ w.cell? ⟨p, 2, none⟩ = some (.int .i64 c.S) ∧ w.cell? ⟨p, 3, none⟩ = some (.int .i64 c.A) ∧ w.cell? ⟨p, 4, none⟩ = some (.int .i64 c.C) ∧ w.cell? ⟨p, 5, none⟩ = some (.int .i64 c.H) ∧ w.cell? ⟨p, 6, none⟩ = some (.int .i64 c.G) ∧ w.cell? ⟨p, 7, none⟩ = some (.int .i64 c.K) ∧ w.cell? ⟨p, 8, none⟩ = some (.int .i64 kd) ∧ w.cell? ⟨p, 9, none⟩ = some (.int .i64 ar) ∧ w.cell? ⟨p, 10, none⟩ = some (.int .u64 ep) ∧ w.cell? ⟨p, 11, none⟩ = some (bd) ∧ w.cell? ⟨p, 12, none⟩ = some (.pointer po) ∧ w.cell? ⟨p, 13, none⟩ = some (.int .i64 gn) ∧ w.cell? ⟨p, 14, none⟩ = some (.int .i64 ix) ∧ w.cell? ⟨p, 15, none⟩ = some (.int .i64 nx) :=
  ⟨h.cell (i := 0) rfl, h.cell (i := 1) rfl, h.cell (i := 2) rfl, h.cell (i := 3) rfl, h.cell (i := 4) rfl, h.cell (i := 5) rfl, h.cell (i := 6) rfl, h.cell (i := 7) rfl, h.cell (i := 8) rfl, h.cell (i := 9) rfl, h.cell (i := 10) rfl, h.cell (i := 11) rfl, h.cell (i := 12) rfl, h.cell (i := 13) rfl, h.cell (i := 14) rfl, h.cell (i := 15) rfl⟩
set_option maxHeartbeats 4000000 in
set_option maxRecDepth 100000 in
theorem make_5 (c : Cf) (w : World) (p m : Nat) (sl : Int) (fu : Bool) (kd ar ep : Int) (bd : Value) (q : Nat) (Q : Pop) (hQ : PopB w q c Q) (gn ix : Int) (hp : Blk w p 82 (makeA c sl fu kd ar ep bd ((some ⟨q, 0, none⟩)) gn ix 5)) : Calls Try.prog 52 #[.pointer (some ⟨p, 0, none⟩), .pointer (some ⟨m, 0, none⟩)] w fun e w' => e = .returned (.bool true) ∧ w = w' := by
  obtain ⟨k0, k1, k2, k3, k4, k5, k6, k7, k8, k9, k10, k11, k12, k13, k14, k15⟩ := make_cells hp
  have q0 : w.cell? ⟨q, 0, none⟩ = some (.int .i64 Q.sl) := Blk.cell hQ (i := 0) rfl
  replace hQ := Lib.hid hQ
  replace hp := Lib.hid hp
  go_enter Try.func52, Try.ntmps52
  go_wp2
  go_ret
  exact ⟨rfl, rfl⟩
set_option maxHeartbeats 4000000 in
set_option maxRecDepth 100000 in
theorem make_0b (c : Cf) (w : World) (p m b : Nat) (M : Ms) (hc : c.right = true) (hM : MemB w m b M) (ok : Ok M) (np : ¬ two m b p) (sl : Int) (fu : Bool) (kd ar ep : Int) (bd : Value) (q : Nat) (Q : Pop) (nqm : ¬ two m b q) (nqp : q ≠ p) (hQ : PopB w q c Q) (oQ : PopOk Q) (hd : popD c Q M = false) (gn ix : Int) (hp : Blk w p 82 (makeA c sl fu kd ar ep bd ((some ⟨q, 0, none⟩)) gn ix 0)) : Calls Try.prog 52 #[.pointer (some ⟨p, 0, none⟩), .pointer (some ⟨m, 0, none⟩)] w fun e w' =>
    e = .returned (.bool false) ∧ PopB w' q c (popS c Q M) ∧ Blk w' p 82 (makeA c sl fu kd ar ep bd ((some ⟨q, 0, none⟩)) gn ix 0) ∧ MemB w' m b (popM c Q M) ∧ Fr (four p q m b) w w' := by
  have n3 : ¬ three q m b p := fun h => h.elim (fun e => nqp e.symm) np
  have hS := fun w hM hQ => popC c w q m b M hc hM ok nqm Q hQ oQ
  rw [hd] at hS
  have hF := Lib.hid (Fr.refl (four p q m b) w)
  obtain ⟨k0, k1, k2, k3, k4, k5, k6, k7, k8, k9, k10, k11, k12, k13, k14, k15⟩ := make_cells hp
  have q0 : w.cell? ⟨q, 0, none⟩ = some (.int .i64 Q.sl) := Blk.cell hQ (i := 0) rfl
  replace hQ := Lib.hid hQ
  replace hp := Lib.hid hp
  replace hM := Lib.hid hM
  go_enter Try.func52, Try.ntmps52
  go_wp2_with (go_at_call 45; refine (hS _ hM.out hQ.out).mono ?_; rintro e w7 ⟨rfl, hQ', hM', hF'⟩; replace hp := Lib.hid (hp.out.fr hF' n3); replace hF := Lib.hid (hF.out.trans (hF'.mono (fun _ x => .inr x))); have z1 := hp.out.frozen 1; have z15 := hp.out.frozen 15; obtain ⟨l0, l1, l2, l3, l4, l5, l6, l7, l8, l9, l10, l11, l12, l13, l14, l15⟩ := make_cells hp.out)
  go_ret
  exact ⟨rfl, hQ', hp.out, hM', hF.out⟩
set_option maxHeartbeats 4000000 in
set_option maxRecDepth 100000 in
theorem make_0n (c : Cf) (w : World) (p m b : Nat) (M : Ms) (hc : c.right = true) (hM : MemB w m b M) (ok : Ok M) (np : ¬ two m b p) (sl : Int) (fu : Bool) (kd ar ep : Int) (bd : Value) (q : Nat) (Q : Pop) (nqm : ¬ two m b q) (nqp : q ≠ p) (hQ : PopB w q c Q) (oQ : PopOk Q) (hd : popD c Q M = true) (he : (popS c Q M).em = false) (gn ix : Int) (hp : Blk w p 82 (makeA c sl fu kd ar ep bd ((some ⟨q, 0, none⟩)) gn ix 0)) : Calls Try.prog 52 #[.pointer (some ⟨p, 0, none⟩), .pointer (some ⟨m, 0, none⟩)] w fun e w' =>
    e = .returned (.bool false) ∧ PopB w' q c (popS c Q M) ∧ Blk w' p 82 (makeA c sl fu kd ar ep bd ((some ⟨q, 0, none⟩)) gn ix 1) ∧ MemB w' m b (popM c Q M) ∧ Fr (four p q m b) w w' := by
  have n3 : ¬ three q m b p := fun h => h.elim (fun e => nqp e.symm) np
  have hS := fun w hM hQ => popC c w q m b M hc hM ok nqm Q hQ oQ
  rw [hd] at hS
  have hF := Lib.hid (Fr.refl (four p q m b) w)
  obtain ⟨k0, k1, k2, k3, k4, k5, k6, k7, k8, k9, k10, k11, k12, k13, k14, k15⟩ := make_cells hp
  have q0 : w.cell? ⟨q, 0, none⟩ = some (.int .i64 Q.sl) := Blk.cell hQ (i := 0) rfl
  replace hQ := Lib.hid hQ
  replace hp := Lib.hid hp
  replace hM := Lib.hid hM
  go_enter Try.func52, Try.ntmps52
  go_wp2_with (go_at_call 45; refine (hS _ hM.out hQ.out).mono ?_; rintro e w7 ⟨rfl, hQ', hM', hF'⟩; replace hp := Lib.hid (hp.out.fr hF' n3); replace hF := Lib.hid (hF.out.trans (hF'.mono (fun _ x => .inr x))); have b1 : w7.cell? ⟨q, 1, none⟩ = some (.bool false) := (by rw [← he]; exact Blk.cell hQ' (i := 1) rfl); have z1 := hp.out.frozen 1; have z15 := hp.out.frozen 15; obtain ⟨l0, l1, l2, l3, l4, l5, l6, l7, l8, l9, l10, l11, l12, l13, l14, l15⟩ := make_cells hp.out)
  go_ret
  exact ⟨rfl, Blk.other hQ' ⟨p, 15, none⟩ nqp _, hp.out.set 15 _, hM'.set np 15 _, hF.out.trans (fr_f _ 15 _)⟩
set_option maxHeartbeats 4000000 in
set_option maxRecDepth 100000 in
theorem make_0e (c : Cf) (w : World) (p m b : Nat) (M : Ms) (hc : c.right = true) (hM : MemB w m b M) (ok : Ok M) (np : ¬ two m b p) (sl : Int) (fu : Bool) (kd ar ep : Int) (bd : Value) (q : Nat) (Q : Pop) (nqm : ¬ two m b q) (nqp : q ≠ p) (hQ : PopB w q c Q) (oQ : PopOk Q) (hd : popD c Q M = true) (he : (popS c Q M).em = true) (gn ix : Int) (hp : Blk w p 82 (makeA c sl fu kd ar ep bd ((some ⟨q, 0, none⟩)) gn ix 0)) : Calls Try.prog 52 #[.pointer (some ⟨p, 0, none⟩), .pointer (some ⟨m, 0, none⟩)] w fun e w' =>
    e = .returned (.bool true) ∧ PopB w' q c (popS c Q M) ∧ Blk w' p 82 (makeA c sl true kd ar ep bd ((some ⟨q, 0, none⟩)) gn ix 5) ∧ MemB w' m b (popM c Q M) ∧ Fr (four p q m b) w w' := by
  have n3 : ¬ three q m b p := fun h => h.elim (fun e => nqp e.symm) np
  have hS := fun w hM hQ => popC c w q m b M hc hM ok nqm Q hQ oQ
  rw [hd] at hS
  have hF := Lib.hid (Fr.refl (four p q m b) w)
  obtain ⟨k0, k1, k2, k3, k4, k5, k6, k7, k8, k9, k10, k11, k12, k13, k14, k15⟩ := make_cells hp
  have q0 : w.cell? ⟨q, 0, none⟩ = some (.int .i64 Q.sl) := Blk.cell hQ (i := 0) rfl
  replace hQ := Lib.hid hQ
  replace hp := Lib.hid hp
  replace hM := Lib.hid hM
  go_enter Try.func52, Try.ntmps52
  go_wp2_with (go_at_call 45; refine (hS _ hM.out hQ.out).mono ?_; rintro e w7 ⟨rfl, hQ', hM', hF'⟩; replace hp := Lib.hid (hp.out.fr hF' n3); replace hF := Lib.hid (hF.out.trans (hF'.mono (fun _ x => .inr x))); have b1 : w7.cell? ⟨q, 1, none⟩ = some (.bool true) := (by rw [← he]; exact Blk.cell hQ' (i := 1) rfl); have z1 := hp.out.frozen 1; have z15 := hp.out.frozen 15; obtain ⟨l0, l1, l2, l3, l4, l5, l6, l7, l8, l9, l10, l11, l12, l13, l14, l15⟩ := make_cells hp.out)
  go_ret
  exact ⟨rfl, Blk.other (Blk.other (Blk.other hQ' ⟨p, 15, none⟩ nqp _) ⟨p, 1, none⟩ nqp _) ⟨p, 15, none⟩ nqp _, ((hp.out.set 15 _).set 1 _).set 15 _, ((hM'.set np 15 _).set np 1 _).set np 15 _, ((hF.out.trans (fr_f _ 15 _)).trans (fr_f _ 1 _)).trans (fr_f _ 15 _)⟩
set_option maxHeartbeats 4000000 in
set_option maxRecDepth 100000 in
theorem make_1 (c : Cf) (w : World) (p m b : Nat) (M : Ms) (hM : MemB w m b M) (ok : Ok M) (np : ¬ two m b p) (sl : Int) (fu : Bool) (kd ar ep : Int) (bd : Value) (q : Nat) (Q : Pop) (nqm : ¬ two m b q) (nqp : q ≠ p) (hQ : PopB w q c Q) (gn ix : Int) (hp : Blk w p 82 (makeA c sl fu kd ar ep bd ((some ⟨q, 0, none⟩)) gn ix 1)) : Calls Try.prog 52 #[.pointer (some ⟨p, 0, none⟩), .pointer (some ⟨m, 0, none⟩)] w fun e w' =>
    e = .returned (.bool false) ∧ PopB w' q c Q ∧ Blk w' p 82 (makeA c sl fu kd ar ep bd ((some ⟨q, 0, none⟩)) ((uN (M.ldV (c.header Q.sl)))) ix 2) ∧ MemB w' m b (M.ldS (c.header Q.sl)) ∧ Fr (four p q m b) w w' := by
  obtain ⟨x0, x1⟩ := ldV_bd ok (c.header Q.sl)
  have hu := fun w => unpack_c (M.ldV (c.header Q.sl)) x0 x1 w
  have hl := fun w hM => load_c w m b M (c.header Q.sl) hM ok
  generalize (M.ldV (c.header Q.sl)) = x at *
  have hF := Lib.hid (Fr.refl (four p q m b) w)
  obtain ⟨k0, k1, k2, k3, k4, k5, k6, k7, k8, k9, k10, k11, k12, k13, k14, k15⟩ := make_cells hp
  have q0 : w.cell? ⟨q, 0, none⟩ = some (.int .i64 Q.sl) := Blk.cell hQ (i := 0) rfl
  replace hQ := Lib.hid hQ
  replace hp := Lib.hid hp
  replace hM := Lib.hid hM
  go_enter Try.func52, Try.ntmps52
  go_wp2_with (first
    | (go_at_call 72; refine (headerC c _ Q.sl).mono ?_; rintro e w3 ⟨rfl, hb⟩; replace hQ := Lib.hid (Blk.below hQ.out hb (Blk.lt hQ.out)); replace hp := Lib.hid (hp.out.below hb hp.out.lt); replace hM := Lib.hid (hM.out.next hb); replace hF := Lib.hid (hF.out.trans (Fr.of_below hb (fun _ x _ => x))); clear hb)
    | (go_at_call 35; refine (hl _ hM.out).mono ?_; rintro e w4 ⟨rfl, hM', hF'⟩; replace hQ := Lib.hid (Blk.fr hQ.out hF' nqm); replace hp := Lib.hid (hp.out.fr hF' np); replace hM := Lib.hid hM'; replace hF := Lib.hid (hF.out.trans (hF'.mono (fun _ x => .inr (.inr x)))); clear hM' hF')
    | (go_at_call 86; refine (hu _).mono ?_; rintro e w7 ⟨rfl, hb⟩; replace hQ := Lib.hid (Blk.below hQ.out hb (Blk.lt hQ.out)); replace hp := Lib.hid (hp.out.below hb hp.out.lt); replace hM := Lib.hid (hM.out.next hb); replace hF := Lib.hid (hF.out.trans (Fr.of_below hb (fun _ x _ => x))); clear hb; have hN := Blk.new w7 85 (#[.int .i64 (uK x), .int .i64 (uM x), .bool (uG x), .int .i64 (uA x), .int .i64 (uN x), .int .i64 (uS x)] : Array Value); have n4 := hN.cell (i := 4) (v := .int .i64 (uN x)) rfl; have hpa := hp.out.alloc (.cells (#[.int .i64 (uK x), .int .i64 (uM x), .bool (uG x), .int .i64 (uA x), .int .i64 (uN x), .int .i64 (uS x)] : Array Value) 85); have z13 := hpa.frozen 13; have z15 := hpa.frozen 15; obtain ⟨l0, l1, l2, l3, l4, l5, l6, l7, l8, l9, l10, l11, l12, l13, l14, l15⟩ := make_cells hpa))
  go_ret
  exact ⟨rfl, Blk.other (Blk.other (Blk.alloc hQ.out _) ⟨p, 13, none⟩ nqp _) ⟨p, 15, none⟩ nqp _, ((hp.out.alloc _).set 13 _).set 15 _, ((hM.out.alloc _).set np 13 _).set np 15 _, ((hF.out.trans (Fr.alloc _ w7 _)).trans (fr_f _ 13 _)).trans (fr_f _ 15 _)⟩
end Go.Proofs.Ytijfkpoofpcacaa.ArenaM
end
section
set_option linter.unusedVariables false
set_option linter.unusedSectionVars false
set_option linter.unusedSimpArgs false
namespace Go.Proofs.Ytijfkpoofpcacaa.ArenaN
open Go.RowKit Go.Proofs.YtijfkpoofpcacaaW.PrintWords Go.Proofs.Ytijfkpoofpcacaa.Blk Go.Proofs.Ytijfkpoofpcacaa.Core Go.Proofs.Ytijfkpoofpcacaa.MemC Go.Proofs.Ytijfkpoofpcacaa.MemD Go.Proofs.Ytijfkpoofpcacaa.MemT Go.Proofs.Ytijfkpoofpcacaa.PlanC Go.Proofs.Ytijfkpoofpcacaa.PlanD Go.Proofs.Ytijfkpoofpcacaa.StackC Go.Proofs.Ytijfkpoofpcacaa.StackS Go.Proofs.Ytijfkpoofpcacaa.HeadC Go.Proofs.Ytijfkpoofpcacaa.ArenaC Go.Proofs.Ytijfkpoofpcacaa.ArenaM
set_option maxHeartbeats 4000000 in
set_option maxRecDepth 100000 in
theorem make_2b (c : Cf) (w : World) (p m b : Nat) (M : Ms) (hM : MemB w m b M) (ok : Ok M) (np : ¬ two m b p) (sl : Int) (fu : Bool) (kd ar ep : Int) (q : Nat) (Q : Pop) (nqm : ¬ two m b q) (nqp : q ≠ p) (hQ : PopB w q c Q) (gn : Int) (r cc n : Nat) (g : Nat → Int) (hR : RowB w (some ⟨r, 0, none⟩) cc r n g) (hn : n ≤ 1000) (nrm : ¬ two m b r) (nrp : r ≠ p) (k : Nat) (hk : k < n) (hl : ((k : Int) + 1 == (n : Int)) = false) (hp : Blk w p 82 (makeA c sl fu kd ar ep ((.slice (some ⟨r, 0, none⟩) n cc)) ((some ⟨q, 0, none⟩)) gn ((k : Int)) 2)) : Calls Try.prog 52 #[.pointer (some ⟨p, 0, none⟩), .pointer (some ⟨m, 0, none⟩)] w fun e w' =>
    e = .returned (.bool false) ∧ PopB w' q c Q ∧ Blk w' p 82 (makeA c sl fu kd ar ep ((.slice (some ⟨r, 0, none⟩) n cc)) ((some ⟨q, 0, none⟩)) gn (((k : Int) + 1)) 2) ∧ MemB w' m b (M.stS (c.body Q.sl k) (g k)) ∧ RowB w' (some ⟨r, 0, none⟩) cc r n g ∧ Fr (four p q m b) w w' := by
  replace hR := Lib.hid hR
  have kn : (k : Int) < (n : Int) := by omega
  have k0' : 0 ≤ (k : Int) := by omega
  have hF := Lib.hid (Fr.refl (four p q m b) w)
  obtain ⟨k0, k1, k2, k3, k4, k5, k6, k7, k8, k9, k10, k11, k12, k13, k14, k15⟩ := make_cells hp
  have q0 : w.cell? ⟨q, 0, none⟩ = some (.int .i64 Q.sl) := Blk.cell hQ (i := 0) rfl
  replace hQ := Lib.hid hQ
  replace hp := Lib.hid hp
  replace hM := Lib.hid hM
  go_enter Try.func52, Try.ntmps52
  go_wp2
  clear k0 k1 k2 k3 k4 k5 k6 k7 k8 k9 k10 k11 k12 k13 k14 k15 q0
  replace hQ := Lib.hid (Blk.drew hQ.out)
  replace hp := Lib.hid hp.out.drew
  replace hM := Lib.hid hM.out.drew
  replace hR := Lib.hid hR.out.drew
  replace hF := Lib.hid (hF.out.trans (Fr.drew _ w))
  have hX : w.drew.cell? ⟨p, 0, none⟩ = some (.int .i64 sl) ∧ w.drew.cell? ⟨p, 1, none⟩ = some (.bool fu) ∧ w.drew.cell? ⟨p, 2, none⟩ = some (.int .i64 c.S) ∧ w.drew.cell? ⟨p, 3, none⟩ = some (.int .i64 c.A) ∧ w.drew.cell? ⟨p, 4, none⟩ = some (.int .i64 c.C) ∧ w.drew.cell? ⟨p, 5, none⟩ = some (.int .i64 c.H) ∧ w.drew.cell? ⟨p, 6, none⟩ = some (.int .i64 c.G) ∧ w.drew.cell? ⟨p, 7, none⟩ = some (.int .i64 c.K) ∧ w.drew.cell? ⟨p, 8, none⟩ = some (.int .i64 kd) ∧ w.drew.cell? ⟨p, 9, none⟩ = some (.int .i64 ar) ∧ w.drew.cell? ⟨p, 10, none⟩ = some (.int .u64 ep) ∧ w.drew.cell? ⟨p, 11, none⟩ = some ((.slice (some ⟨r, 0, none⟩) n cc)) ∧ w.drew.cell? ⟨p, 12, none⟩ = some (.pointer (some ⟨q, 0, none⟩)) ∧ w.drew.cell? ⟨p, 13, none⟩ = some (.int .i64 gn) ∧ w.drew.cell? ⟨p, 14, none⟩ = some (.int .i64 (k : Int)) ∧ w.drew.cell? ⟨p, 15, none⟩ = some (.int .i64 2) ∧ w.drew.cell? ⟨r, k, none⟩ = some (.int .u64 (g k)) := by
    obtain ⟨x0, x1, x2, x3, x4, x5, x6, x7, x8, x9, x10, x11, x12, x13, x14, x15⟩ := make_cells hp.out
    exact ⟨x0, x1, x2, x3, x4, x5, x6, x7, x8, x9, x10, x11, x12, x13, x14, x15, (hR.out.cell hk).2.1⟩
  go_region_held3 (fun w' => w'.cell? ⟨p, 0, none⟩ = some (.int .i64 sl) ∧ w'.cell? ⟨p, 1, none⟩ = some (.bool fu) ∧ w'.cell? ⟨p, 2, none⟩ = some (.int .i64 c.S) ∧ w'.cell? ⟨p, 3, none⟩ = some (.int .i64 c.A) ∧ w'.cell? ⟨p, 4, none⟩ = some (.int .i64 c.C) ∧ w'.cell? ⟨p, 5, none⟩ = some (.int .i64 c.H) ∧ w'.cell? ⟨p, 6, none⟩ = some (.int .i64 c.G) ∧ w'.cell? ⟨p, 7, none⟩ = some (.int .i64 c.K) ∧ w'.cell? ⟨p, 8, none⟩ = some (.int .i64 kd) ∧ w'.cell? ⟨p, 9, none⟩ = some (.int .i64 ar) ∧ w'.cell? ⟨p, 10, none⟩ = some (.int .u64 ep) ∧ w'.cell? ⟨p, 11, none⟩ = some ((.slice (some ⟨r, 0, none⟩) n cc)) ∧ w'.cell? ⟨p, 12, none⟩ = some (.pointer (some ⟨q, 0, none⟩)) ∧ w'.cell? ⟨p, 13, none⟩ = some (.int .i64 gn) ∧ w'.cell? ⟨p, 14, none⟩ = some (.int .i64 (k : Int)) ∧ w'.cell? ⟨p, 15, none⟩ = some (.int .i64 2) ∧ w'.cell? ⟨r, k, none⟩ = some (.int .u64 (g k))) (assumption) (first
    | (go_at_call 85; refine (bodyC c _ Q.sl k).mono ?_; rintro e w3 ⟨rfl, hb⟩; replace hQ := Lib.hid (Blk.below hQ.out hb (Blk.lt hQ.out)); replace hp := Lib.hid (hp.out.below hb hp.out.lt); replace hM := Lib.hid (hM.out.next hb); replace hR := Lib.hid (hR.out.below hb (Nat.le_refl _)); replace hF := Lib.hid (hF.out.trans (Fr.of_below hb (fun _ x _ => x))); clear hb; have hY3 : w3.cell? ⟨p, 0, none⟩ = some (.int .i64 sl) ∧ w3.cell? ⟨p, 1, none⟩ = some (.bool fu) ∧ w3.cell? ⟨p, 2, none⟩ = some (.int .i64 c.S) ∧ w3.cell? ⟨p, 3, none⟩ = some (.int .i64 c.A) ∧ w3.cell? ⟨p, 4, none⟩ = some (.int .i64 c.C) ∧ w3.cell? ⟨p, 5, none⟩ = some (.int .i64 c.H) ∧ w3.cell? ⟨p, 6, none⟩ = some (.int .i64 c.G) ∧ w3.cell? ⟨p, 7, none⟩ = some (.int .i64 c.K) ∧ w3.cell? ⟨p, 8, none⟩ = some (.int .i64 kd) ∧ w3.cell? ⟨p, 9, none⟩ = some (.int .i64 ar) ∧ w3.cell? ⟨p, 10, none⟩ = some (.int .u64 ep) ∧ w3.cell? ⟨p, 11, none⟩ = some ((.slice (some ⟨r, 0, none⟩) n cc)) ∧ w3.cell? ⟨p, 12, none⟩ = some (.pointer (some ⟨q, 0, none⟩)) ∧ w3.cell? ⟨p, 13, none⟩ = some (.int .i64 gn) ∧ w3.cell? ⟨p, 14, none⟩ = some (.int .i64 (k : Int)) ∧ w3.cell? ⟨p, 15, none⟩ = some (.int .i64 2) ∧ w3.cell? ⟨r, k, none⟩ = some (.int .u64 (g k)) := (by obtain ⟨y0, y1, y2, y3, y4, y5, y6, y7, y8, y9, y10, y11, y12, y13, y14, y15⟩ := make_cells hp.out; exact ⟨y0, y1, y2, y3, y4, y5, y6, y7, y8, y9, y10, y11, y12, y13, y14, y15, (hR.out.cell hk).2.1⟩))
    | (go_at_call 57; refine (store_c _ m b M (c.body Q.sl k) hM.out ok (g k)).mono ?_; rintro e w4 ⟨rfl, hM', hF'⟩; replace hQ := Lib.hid (Blk.fr hQ.out hF' nqm); replace hp := Lib.hid (hp.out.fr hF' np); replace hM := Lib.hid hM'; replace hR := Lib.hid (hR.out.fr hF' nrm); replace hF := Lib.hid (hF.out.trans (hF'.mono (fun _ x => .inr (.inr x)))); clear hM' hF'; have hY4 : w4.cell? ⟨p, 0, none⟩ = some (.int .i64 sl) ∧ w4.cell? ⟨p, 1, none⟩ = some (.bool fu) ∧ w4.cell? ⟨p, 2, none⟩ = some (.int .i64 c.S) ∧ w4.cell? ⟨p, 3, none⟩ = some (.int .i64 c.A) ∧ w4.cell? ⟨p, 4, none⟩ = some (.int .i64 c.C) ∧ w4.cell? ⟨p, 5, none⟩ = some (.int .i64 c.H) ∧ w4.cell? ⟨p, 6, none⟩ = some (.int .i64 c.G) ∧ w4.cell? ⟨p, 7, none⟩ = some (.int .i64 c.K) ∧ w4.cell? ⟨p, 8, none⟩ = some (.int .i64 kd) ∧ w4.cell? ⟨p, 9, none⟩ = some (.int .i64 ar) ∧ w4.cell? ⟨p, 10, none⟩ = some (.int .u64 ep) ∧ w4.cell? ⟨p, 11, none⟩ = some ((.slice (some ⟨r, 0, none⟩) n cc)) ∧ w4.cell? ⟨p, 12, none⟩ = some (.pointer (some ⟨q, 0, none⟩)) ∧ w4.cell? ⟨p, 13, none⟩ = some (.int .i64 gn) ∧ w4.cell? ⟨p, 14, none⟩ = some (.int .i64 (k : Int)) ∧ w4.cell? ⟨p, 15, none⟩ = some (.int .i64 2) ∧ w4.cell? ⟨r, k, none⟩ = some (.int .u64 (g k)) := (by obtain ⟨y0, y1, y2, y3, y4, y5, y6, y7, y8, y9, y10, y11, y12, y13, y14, y15⟩ := make_cells hp.out; exact ⟨y0, y1, y2, y3, y4, y5, y6, y7, y8, y9, y10, y11, y12, y13, y14, y15, (hR.out.cell hk).2.1⟩)))
  all_goals
    clear hX hY3 hY4
    obtain ⟨l0, l1, l2, l3, l4, l5, l6, l7, l8, l9, l10, l11, l12, l13, l14, l15⟩ := make_cells hp.out
    have z14 := hp.out.frozen 14
    go_upto_region 16 with (fail)
    have hQ' : PopB (w4.setCell ⟨p, 14, none⟩ (.int .i64 ((k : Int) + 1))) q c Q := Blk.other hQ.out ⟨p, 14, none⟩ nqp _
    have hp' : Blk (w4.setCell ⟨p, 14, none⟩ (.int .i64 ((k : Int) + 1))) p 82 (makeA c sl fu kd ar ep ((.slice (some ⟨r, 0, none⟩) n cc)) ((some ⟨q, 0, none⟩)) gn (((k : Int) + 1)) 2) := hp.out.set 14 _
    have hM' := hM.out.set np 14 (.int .i64 ((k : Int) + 1))
    have hR' := hR.out.fr (Fr.set (fun x => x = p) w4 (p := ⟨p, 14, none⟩) rfl (.int .i64 ((k : Int) + 1))) nrp
    have hF' := hF.out.trans (fr_f w4 14 (.int .i64 ((k : Int) + 1)))
    clear hp hM hF hQ hR z14 l0 l1 l2 l3 l4 l5 l6 l7 l8 l9 l10 l11 l12 l13 l14 l15
    generalize w4.setCell ⟨p, 14, none⟩ (.int .i64 ((k : Int) + 1)) = w5 at *
    have hp := Lib.hid hp'
    have hM := Lib.hid hM'
    have hF := Lib.hid hF'
    have hQ := Lib.hid hQ'
    have hR := Lib.hid hR'
    clear hp' hM' hF' hQ' hR'
    replace hQ := Lib.hid (Blk.drew hQ.out)
    replace hp := Lib.hid hp.out.drew
    replace hM := Lib.hid hM.out.drew
    replace hR := Lib.hid hR.out.drew
    replace hF := Lib.hid (hF.out.trans (Fr.drew _ w5))
    have hX : w5.drew.cell? ⟨p, 0, none⟩ = some (.int .i64 sl) ∧ w5.drew.cell? ⟨p, 1, none⟩ = some (.bool fu) ∧ w5.drew.cell? ⟨p, 2, none⟩ = some (.int .i64 c.S) ∧ w5.drew.cell? ⟨p, 3, none⟩ = some (.int .i64 c.A) ∧ w5.drew.cell? ⟨p, 4, none⟩ = some (.int .i64 c.C) ∧ w5.drew.cell? ⟨p, 5, none⟩ = some (.int .i64 c.H) ∧ w5.drew.cell? ⟨p, 6, none⟩ = some (.int .i64 c.G) ∧ w5.drew.cell? ⟨p, 7, none⟩ = some (.int .i64 c.K) ∧ w5.drew.cell? ⟨p, 8, none⟩ = some (.int .i64 kd) ∧ w5.drew.cell? ⟨p, 9, none⟩ = some (.int .i64 ar) ∧ w5.drew.cell? ⟨p, 10, none⟩ = some (.int .u64 ep) ∧ w5.drew.cell? ⟨p, 11, none⟩ = some ((.slice (some ⟨r, 0, none⟩) n cc)) ∧ w5.drew.cell? ⟨p, 12, none⟩ = some (.pointer (some ⟨q, 0, none⟩)) ∧ w5.drew.cell? ⟨p, 13, none⟩ = some (.int .i64 gn) ∧ w5.drew.cell? ⟨p, 14, none⟩ = some (.int .i64 ((k : Int) + 1)) ∧ w5.drew.cell? ⟨p, 15, none⟩ = some (.int .i64 2) := make_cells hp.out
    go_region_held3 (fun w' => w'.cell? ⟨p, 0, none⟩ = some (.int .i64 sl) ∧ w'.cell? ⟨p, 1, none⟩ = some (.bool fu) ∧ w'.cell? ⟨p, 2, none⟩ = some (.int .i64 c.S) ∧ w'.cell? ⟨p, 3, none⟩ = some (.int .i64 c.A) ∧ w'.cell? ⟨p, 4, none⟩ = some (.int .i64 c.C) ∧ w'.cell? ⟨p, 5, none⟩ = some (.int .i64 c.H) ∧ w'.cell? ⟨p, 6, none⟩ = some (.int .i64 c.G) ∧ w'.cell? ⟨p, 7, none⟩ = some (.int .i64 c.K) ∧ w'.cell? ⟨p, 8, none⟩ = some (.int .i64 kd) ∧ w'.cell? ⟨p, 9, none⟩ = some (.int .i64 ar) ∧ w'.cell? ⟨p, 10, none⟩ = some (.int .u64 ep) ∧ w'.cell? ⟨p, 11, none⟩ = some ((.slice (some ⟨r, 0, none⟩) n cc)) ∧ w'.cell? ⟨p, 12, none⟩ = some (.pointer (some ⟨q, 0, none⟩)) ∧ w'.cell? ⟨p, 13, none⟩ = some (.int .i64 gn) ∧ w'.cell? ⟨p, 14, none⟩ = some (.int .i64 ((k : Int) + 1)) ∧ w'.cell? ⟨p, 15, none⟩ = some (.int .i64 2)) (assumption) (fail)
    all_goals
      clear hX
      have hp5 : Blk w5 p 82 (makeA c sl fu kd ar ep ((.slice (some ⟨r, 0, none⟩) n cc)) ((some ⟨q, 0, none⟩)) gn (((k : Int) + 1)) 2) := hp.out
      obtain ⟨l0, l1, l2, l3, l4, l5, l6, l7, l8, l9, l10, l11, l12, l13, l14, l15⟩ := make_cells hp5
      have z15 := hp5.frozen 15
      clear hp5
      go_wp2
      go_ret
      exact ⟨rfl, hQ.out, hp.out, hM.out, hR.out, hF.out⟩
set_option maxHeartbeats 4000000 in
set_option maxRecDepth 100000 in
theorem make_2e (c : Cf) (w : World) (p m b : Nat) (M : Ms) (hM : MemB w m b M) (ok : Ok M) (np : ¬ two m b p) (sl : Int) (fu : Bool) (kd ar ep : Int) (q : Nat) (Q : Pop) (nqm : ¬ two m b q) (nqp : q ≠ p) (hQ : PopB w q c Q) (gn : Int) (r cc n : Nat) (g : Nat → Int) (hR : RowB w (some ⟨r, 0, none⟩) cc r n g) (hn : n ≤ 1000) (nrm : ¬ two m b r) (nrp : r ≠ p) (k : Nat) (hk : k < n) (hl : ((k : Int) + 1 == (n : Int)) = true) (hp : Blk w p 82 (makeA c sl fu kd ar ep ((.slice (some ⟨r, 0, none⟩) n cc)) ((some ⟨q, 0, none⟩)) gn ((k : Int)) 2)) : Calls Try.prog 52 #[.pointer (some ⟨p, 0, none⟩), .pointer (some ⟨m, 0, none⟩)] w fun e w' =>
    e = .returned (.bool false) ∧ PopB w' q c Q ∧ Blk w' p 82 (makeA c sl fu kd ar ep ((.slice (some ⟨r, 0, none⟩) n cc)) ((some ⟨q, 0, none⟩)) gn (((k : Int) + 1)) 3) ∧ MemB w' m b (M.stS (c.body Q.sl k) (g k)) ∧ RowB w' (some ⟨r, 0, none⟩) cc r n g ∧ Fr (four p q m b) w w' := by
  replace hR := Lib.hid hR
  have kn : (k : Int) < (n : Int) := by omega
  have k0' : 0 ≤ (k : Int) := by omega
  have hF := Lib.hid (Fr.refl (four p q m b) w)
  obtain ⟨k0, k1, k2, k3, k4, k5, k6, k7, k8, k9, k10, k11, k12, k13, k14, k15⟩ := make_cells hp
  have q0 : w.cell? ⟨q, 0, none⟩ = some (.int .i64 Q.sl) := Blk.cell hQ (i := 0) rfl
  replace hQ := Lib.hid hQ
  replace hp := Lib.hid hp
  replace hM := Lib.hid hM
  go_enter Try.func52, Try.ntmps52
  go_wp2
  clear k0 k1 k2 k3 k4 k5 k6 k7 k8 k9 k10 k11 k12 k13 k14 k15 q0
  replace hQ := Lib.hid (Blk.drew hQ.out)
  replace hp := Lib.hid hp.out.drew
  replace hM := Lib.hid hM.out.drew
  replace hR := Lib.hid hR.out.drew
  replace hF := Lib.hid (hF.out.trans (Fr.drew _ w))
  have hX : w.drew.cell? ⟨p, 0, none⟩ = some (.int .i64 sl) ∧ w.drew.cell? ⟨p, 1, none⟩ = some (.bool fu) ∧ w.drew.cell? ⟨p, 2, none⟩ = some (.int .i64 c.S) ∧ w.drew.cell? ⟨p, 3, none⟩ = some (.int .i64 c.A) ∧ w.drew.cell? ⟨p, 4, none⟩ = some (.int .i64 c.C) ∧ w.drew.cell? ⟨p, 5, none⟩ = some (.int .i64 c.H) ∧ w.drew.cell? ⟨p, 6, none⟩ = some (.int .i64 c.G) ∧ w.drew.cell? ⟨p, 7, none⟩ = some (.int .i64 c.K) ∧ w.drew.cell? ⟨p, 8, none⟩ = some (.int .i64 kd) ∧ w.drew.cell? ⟨p, 9, none⟩ = some (.int .i64 ar) ∧ w.drew.cell? ⟨p, 10, none⟩ = some (.int .u64 ep) ∧ w.drew.cell? ⟨p, 11, none⟩ = some ((.slice (some ⟨r, 0, none⟩) n cc)) ∧ w.drew.cell? ⟨p, 12, none⟩ = some (.pointer (some ⟨q, 0, none⟩)) ∧ w.drew.cell? ⟨p, 13, none⟩ = some (.int .i64 gn) ∧ w.drew.cell? ⟨p, 14, none⟩ = some (.int .i64 (k : Int)) ∧ w.drew.cell? ⟨p, 15, none⟩ = some (.int .i64 2) ∧ w.drew.cell? ⟨r, k, none⟩ = some (.int .u64 (g k)) := by
    obtain ⟨x0, x1, x2, x3, x4, x5, x6, x7, x8, x9, x10, x11, x12, x13, x14, x15⟩ := make_cells hp.out
    exact ⟨x0, x1, x2, x3, x4, x5, x6, x7, x8, x9, x10, x11, x12, x13, x14, x15, (hR.out.cell hk).2.1⟩
  go_region_held3 (fun w' => w'.cell? ⟨p, 0, none⟩ = some (.int .i64 sl) ∧ w'.cell? ⟨p, 1, none⟩ = some (.bool fu) ∧ w'.cell? ⟨p, 2, none⟩ = some (.int .i64 c.S) ∧ w'.cell? ⟨p, 3, none⟩ = some (.int .i64 c.A) ∧ w'.cell? ⟨p, 4, none⟩ = some (.int .i64 c.C) ∧ w'.cell? ⟨p, 5, none⟩ = some (.int .i64 c.H) ∧ w'.cell? ⟨p, 6, none⟩ = some (.int .i64 c.G) ∧ w'.cell? ⟨p, 7, none⟩ = some (.int .i64 c.K) ∧ w'.cell? ⟨p, 8, none⟩ = some (.int .i64 kd) ∧ w'.cell? ⟨p, 9, none⟩ = some (.int .i64 ar) ∧ w'.cell? ⟨p, 10, none⟩ = some (.int .u64 ep) ∧ w'.cell? ⟨p, 11, none⟩ = some ((.slice (some ⟨r, 0, none⟩) n cc)) ∧ w'.cell? ⟨p, 12, none⟩ = some (.pointer (some ⟨q, 0, none⟩)) ∧ w'.cell? ⟨p, 13, none⟩ = some (.int .i64 gn) ∧ w'.cell? ⟨p, 14, none⟩ = some (.int .i64 (k : Int)) ∧ w'.cell? ⟨p, 15, none⟩ = some (.int .i64 2) ∧ w'.cell? ⟨r, k, none⟩ = some (.int .u64 (g k))) (assumption) (first
    | (go_at_call 85; refine (bodyC c _ Q.sl k).mono ?_; rintro e w3 ⟨rfl, hb⟩; replace hQ := Lib.hid (Blk.below hQ.out hb (Blk.lt hQ.out)); replace hp := Lib.hid (hp.out.below hb hp.out.lt); replace hM := Lib.hid (hM.out.next hb); replace hR := Lib.hid (hR.out.below hb (Nat.le_refl _)); replace hF := Lib.hid (hF.out.trans (Fr.of_below hb (fun _ x _ => x))); clear hb; have hY3 : w3.cell? ⟨p, 0, none⟩ = some (.int .i64 sl) ∧ w3.cell? ⟨p, 1, none⟩ = some (.bool fu) ∧ w3.cell? ⟨p, 2, none⟩ = some (.int .i64 c.S) ∧ w3.cell? ⟨p, 3, none⟩ = some (.int .i64 c.A) ∧ w3.cell? ⟨p, 4, none⟩ = some (.int .i64 c.C) ∧ w3.cell? ⟨p, 5, none⟩ = some (.int .i64 c.H) ∧ w3.cell? ⟨p, 6, none⟩ = some (.int .i64 c.G) ∧ w3.cell? ⟨p, 7, none⟩ = some (.int .i64 c.K) ∧ w3.cell? ⟨p, 8, none⟩ = some (.int .i64 kd) ∧ w3.cell? ⟨p, 9, none⟩ = some (.int .i64 ar) ∧ w3.cell? ⟨p, 10, none⟩ = some (.int .u64 ep) ∧ w3.cell? ⟨p, 11, none⟩ = some ((.slice (some ⟨r, 0, none⟩) n cc)) ∧ w3.cell? ⟨p, 12, none⟩ = some (.pointer (some ⟨q, 0, none⟩)) ∧ w3.cell? ⟨p, 13, none⟩ = some (.int .i64 gn) ∧ w3.cell? ⟨p, 14, none⟩ = some (.int .i64 (k : Int)) ∧ w3.cell? ⟨p, 15, none⟩ = some (.int .i64 2) ∧ w3.cell? ⟨r, k, none⟩ = some (.int .u64 (g k)) := (by obtain ⟨y0, y1, y2, y3, y4, y5, y6, y7, y8, y9, y10, y11, y12, y13, y14, y15⟩ := make_cells hp.out; exact ⟨y0, y1, y2, y3, y4, y5, y6, y7, y8, y9, y10, y11, y12, y13, y14, y15, (hR.out.cell hk).2.1⟩))
    | (go_at_call 57; refine (store_c _ m b M (c.body Q.sl k) hM.out ok (g k)).mono ?_; rintro e w4 ⟨rfl, hM', hF'⟩; replace hQ := Lib.hid (Blk.fr hQ.out hF' nqm); replace hp := Lib.hid (hp.out.fr hF' np); replace hM := Lib.hid hM'; replace hR := Lib.hid (hR.out.fr hF' nrm); replace hF := Lib.hid (hF.out.trans (hF'.mono (fun _ x => .inr (.inr x)))); clear hM' hF'; have hY4 : w4.cell? ⟨p, 0, none⟩ = some (.int .i64 sl) ∧ w4.cell? ⟨p, 1, none⟩ = some (.bool fu) ∧ w4.cell? ⟨p, 2, none⟩ = some (.int .i64 c.S) ∧ w4.cell? ⟨p, 3, none⟩ = some (.int .i64 c.A) ∧ w4.cell? ⟨p, 4, none⟩ = some (.int .i64 c.C) ∧ w4.cell? ⟨p, 5, none⟩ = some (.int .i64 c.H) ∧ w4.cell? ⟨p, 6, none⟩ = some (.int .i64 c.G) ∧ w4.cell? ⟨p, 7, none⟩ = some (.int .i64 c.K) ∧ w4.cell? ⟨p, 8, none⟩ = some (.int .i64 kd) ∧ w4.cell? ⟨p, 9, none⟩ = some (.int .i64 ar) ∧ w4.cell? ⟨p, 10, none⟩ = some (.int .u64 ep) ∧ w4.cell? ⟨p, 11, none⟩ = some ((.slice (some ⟨r, 0, none⟩) n cc)) ∧ w4.cell? ⟨p, 12, none⟩ = some (.pointer (some ⟨q, 0, none⟩)) ∧ w4.cell? ⟨p, 13, none⟩ = some (.int .i64 gn) ∧ w4.cell? ⟨p, 14, none⟩ = some (.int .i64 (k : Int)) ∧ w4.cell? ⟨p, 15, none⟩ = some (.int .i64 2) ∧ w4.cell? ⟨r, k, none⟩ = some (.int .u64 (g k)) := (by obtain ⟨y0, y1, y2, y3, y4, y5, y6, y7, y8, y9, y10, y11, y12, y13, y14, y15⟩ := make_cells hp.out; exact ⟨y0, y1, y2, y3, y4, y5, y6, y7, y8, y9, y10, y11, y12, y13, y14, y15, (hR.out.cell hk).2.1⟩)))
  all_goals
    clear hX hY3 hY4
    obtain ⟨l0, l1, l2, l3, l4, l5, l6, l7, l8, l9, l10, l11, l12, l13, l14, l15⟩ := make_cells hp.out
    have z14 := hp.out.frozen 14
    go_upto_region 16 with (fail)
    have hQ' : PopB (w4.setCell ⟨p, 14, none⟩ (.int .i64 ((k : Int) + 1))) q c Q := Blk.other hQ.out ⟨p, 14, none⟩ nqp _
    have hp' : Blk (w4.setCell ⟨p, 14, none⟩ (.int .i64 ((k : Int) + 1))) p 82 (makeA c sl fu kd ar ep ((.slice (some ⟨r, 0, none⟩) n cc)) ((some ⟨q, 0, none⟩)) gn (((k : Int) + 1)) 2) := hp.out.set 14 _
    have hM' := hM.out.set np 14 (.int .i64 ((k : Int) + 1))
    have hR' := hR.out.fr (Fr.set (fun x => x = p) w4 (p := ⟨p, 14, none⟩) rfl (.int .i64 ((k : Int) + 1))) nrp
    have hF' := hF.out.trans (fr_f w4 14 (.int .i64 ((k : Int) + 1)))
    clear hp hM hF hQ hR z14 l0 l1 l2 l3 l4 l5 l6 l7 l8 l9 l10 l11 l12 l13 l14 l15
    generalize w4.setCell ⟨p, 14, none⟩ (.int .i64 ((k : Int) + 1)) = w5 at *
    have hp := Lib.hid hp'
    have hM := Lib.hid hM'
    have hF := Lib.hid hF'
    have hQ := Lib.hid hQ'
    have hR := Lib.hid hR'
    clear hp' hM' hF' hQ' hR'
    replace hQ := Lib.hid (Blk.drew hQ.out)
    replace hp := Lib.hid hp.out.drew
    replace hM := Lib.hid hM.out.drew
    replace hR := Lib.hid hR.out.drew
    replace hF := Lib.hid (hF.out.trans (Fr.drew _ w5))
    have hX : w5.drew.cell? ⟨p, 0, none⟩ = some (.int .i64 sl) ∧ w5.drew.cell? ⟨p, 1, none⟩ = some (.bool fu) ∧ w5.drew.cell? ⟨p, 2, none⟩ = some (.int .i64 c.S) ∧ w5.drew.cell? ⟨p, 3, none⟩ = some (.int .i64 c.A) ∧ w5.drew.cell? ⟨p, 4, none⟩ = some (.int .i64 c.C) ∧ w5.drew.cell? ⟨p, 5, none⟩ = some (.int .i64 c.H) ∧ w5.drew.cell? ⟨p, 6, none⟩ = some (.int .i64 c.G) ∧ w5.drew.cell? ⟨p, 7, none⟩ = some (.int .i64 c.K) ∧ w5.drew.cell? ⟨p, 8, none⟩ = some (.int .i64 kd) ∧ w5.drew.cell? ⟨p, 9, none⟩ = some (.int .i64 ar) ∧ w5.drew.cell? ⟨p, 10, none⟩ = some (.int .u64 ep) ∧ w5.drew.cell? ⟨p, 11, none⟩ = some ((.slice (some ⟨r, 0, none⟩) n cc)) ∧ w5.drew.cell? ⟨p, 12, none⟩ = some (.pointer (some ⟨q, 0, none⟩)) ∧ w5.drew.cell? ⟨p, 13, none⟩ = some (.int .i64 gn) ∧ w5.drew.cell? ⟨p, 14, none⟩ = some (.int .i64 ((k : Int) + 1)) ∧ w5.drew.cell? ⟨p, 15, none⟩ = some (.int .i64 2) := make_cells hp.out
    go_region_held3 (fun w' => w'.cell? ⟨p, 0, none⟩ = some (.int .i64 sl) ∧ w'.cell? ⟨p, 1, none⟩ = some (.bool fu) ∧ w'.cell? ⟨p, 2, none⟩ = some (.int .i64 c.S) ∧ w'.cell? ⟨p, 3, none⟩ = some (.int .i64 c.A) ∧ w'.cell? ⟨p, 4, none⟩ = some (.int .i64 c.C) ∧ w'.cell? ⟨p, 5, none⟩ = some (.int .i64 c.H) ∧ w'.cell? ⟨p, 6, none⟩ = some (.int .i64 c.G) ∧ w'.cell? ⟨p, 7, none⟩ = some (.int .i64 c.K) ∧ w'.cell? ⟨p, 8, none⟩ = some (.int .i64 kd) ∧ w'.cell? ⟨p, 9, none⟩ = some (.int .i64 ar) ∧ w'.cell? ⟨p, 10, none⟩ = some (.int .u64 ep) ∧ w'.cell? ⟨p, 11, none⟩ = some ((.slice (some ⟨r, 0, none⟩) n cc)) ∧ w'.cell? ⟨p, 12, none⟩ = some (.pointer (some ⟨q, 0, none⟩)) ∧ w'.cell? ⟨p, 13, none⟩ = some (.int .i64 gn) ∧ w'.cell? ⟨p, 14, none⟩ = some (.int .i64 ((k : Int) + 1)) ∧ w'.cell? ⟨p, 15, none⟩ = some (.int .i64 2)) (assumption) (fail)
    all_goals
      clear hX
      have hp5 : Blk w5 p 82 (makeA c sl fu kd ar ep ((.slice (some ⟨r, 0, none⟩) n cc)) ((some ⟨q, 0, none⟩)) gn (((k : Int) + 1)) 2) := hp.out
      obtain ⟨l0, l1, l2, l3, l4, l5, l6, l7, l8, l9, l10, l11, l12, l13, l14, l15⟩ := make_cells hp5
      have z15 := hp5.frozen 15
      clear hp5
      go_wp2
      go_ret
      exact ⟨rfl, Blk.other hQ.out ⟨p, 15, none⟩ nqp _, hp.out.set 15 _, hM.out.set np 15 _, hR.out.fr (Fr.set (fun x => x = p) _ (p := ⟨p, 15, none⟩) rfl _) nrp, hF.out.trans (fr_f _ 15 _)⟩
set_option maxHeartbeats 4000000 in
set_option maxRecDepth 100000 in
theorem make_3 (c : Cf) (w : World) (p m b : Nat) (M : Ms) (hM : MemB w m b M) (ok : Ok M) (np : ¬ two m b p) (sl : Int) (fu : Bool) (kd ar ep : Int) (q : Nat) (Q : Pop) (nqm : ¬ two m b q) (nqp : q ≠ p) (hQ : PopB w q c Q) (bd : Value) (gn ix : Int) (e0 : 0 ≤ ep) (e1 : ep < 18446744073709551616) (ha : ar < 9223372036854775808) (hg : gn < 9223372036854775808) (hp : Blk w p 82 (makeA c sl fu kd ar ep bd ((some ⟨q, 0, none⟩)) gn ix 3)) : Calls Try.prog 52 #[.pointer (some ⟨p, 0, none⟩), .pointer (some ⟨m, 0, none⟩)] w fun e w' =>
    e = .returned (.bool true) ∧ PopB w' q c Q ∧ Blk w' p 82 (makeA c Q.sl fu kd ar ep bd ((some ⟨q, 0, none⟩)) gn ix 5) ∧ MemB w' m b (M.stS (c.header Q.sl) (madeV kd ar gn ep).1) ∧ Fr (four p q m b) w w' := by
  have hmd := fun w => made_c kd ar gn ep e0 e1 ha hg w
  generalize madeV kd ar gn ep = mv at *
  obtain ⟨mv1, mv2⟩ := mv
  have hF := Lib.hid (Fr.refl (four p q m b) w)
  obtain ⟨k0, k1, k2, k3, k4, k5, k6, k7, k8, k9, k10, k11, k12, k13, k14, k15⟩ := make_cells hp
  have q0 : w.cell? ⟨q, 0, none⟩ = some (.int .i64 Q.sl) := Blk.cell hQ (i := 0) rfl
  replace hQ := Lib.hid hQ
  replace hp := Lib.hid hp
  replace hM := Lib.hid hM
  go_enter Try.func52, Try.ntmps52
  go_wp2
  clear k0 k1 k2 k3 k4 k5 k6 k7 k8 k9 k10 k11 k12 k13 k14 k15 q0
  replace hQ := Lib.hid (Blk.drew hQ.out)
  replace hp := Lib.hid hp.out.drew
  replace hM := Lib.hid hM.out.drew
  replace hF := Lib.hid (hF.out.trans (Fr.drew _ w))
  have hX : w.drew.cell? ⟨p, 0, none⟩ = some (.int .i64 sl) ∧ w.drew.cell? ⟨p, 1, none⟩ = some (.bool fu) ∧ w.drew.cell? ⟨p, 2, none⟩ = some (.int .i64 c.S) ∧ w.drew.cell? ⟨p, 3, none⟩ = some (.int .i64 c.A) ∧ w.drew.cell? ⟨p, 4, none⟩ = some (.int .i64 c.C) ∧ w.drew.cell? ⟨p, 5, none⟩ = some (.int .i64 c.H) ∧ w.drew.cell? ⟨p, 6, none⟩ = some (.int .i64 c.G) ∧ w.drew.cell? ⟨p, 7, none⟩ = some (.int .i64 c.K) ∧ w.drew.cell? ⟨p, 8, none⟩ = some (.int .i64 kd) ∧ w.drew.cell? ⟨p, 9, none⟩ = some (.int .i64 ar) ∧ w.drew.cell? ⟨p, 10, none⟩ = some (.int .u64 ep) ∧ w.drew.cell? ⟨p, 11, none⟩ = some (bd) ∧ w.drew.cell? ⟨p, 12, none⟩ = some (.pointer (some ⟨q, 0, none⟩)) ∧ w.drew.cell? ⟨p, 13, none⟩ = some (.int .i64 gn) ∧ w.drew.cell? ⟨p, 14, none⟩ = some (.int .i64 ix) ∧ w.drew.cell? ⟨p, 15, none⟩ = some (.int .i64 3) := make_cells hp.out
  go_region_held3 (fun w' => w'.cell? ⟨p, 0, none⟩ = some (.int .i64 sl) ∧ w'.cell? ⟨p, 1, none⟩ = some (.bool fu) ∧ w'.cell? ⟨p, 2, none⟩ = some (.int .i64 c.S) ∧ w'.cell? ⟨p, 3, none⟩ = some (.int .i64 c.A) ∧ w'.cell? ⟨p, 4, none⟩ = some (.int .i64 c.C) ∧ w'.cell? ⟨p, 5, none⟩ = some (.int .i64 c.H) ∧ w'.cell? ⟨p, 6, none⟩ = some (.int .i64 c.G) ∧ w'.cell? ⟨p, 7, none⟩ = some (.int .i64 c.K) ∧ w'.cell? ⟨p, 8, none⟩ = some (.int .i64 kd) ∧ w'.cell? ⟨p, 9, none⟩ = some (.int .i64 ar) ∧ w'.cell? ⟨p, 10, none⟩ = some (.int .u64 ep) ∧ w'.cell? ⟨p, 11, none⟩ = some (bd) ∧ w'.cell? ⟨p, 12, none⟩ = some (.pointer (some ⟨q, 0, none⟩)) ∧ w'.cell? ⟨p, 13, none⟩ = some (.int .i64 gn) ∧ w'.cell? ⟨p, 14, none⟩ = some (.int .i64 ix) ∧ w'.cell? ⟨p, 15, none⟩ = some (.int .i64 3)) (assumption) (first
    | (go_at_call 87; refine (hmd _).mono ?_; rintro e w3 ⟨rfl, hb⟩; replace hQ := Lib.hid (Blk.below hQ.out hb (Blk.lt hQ.out)); replace hp := Lib.hid (hp.out.below hb hp.out.lt); replace hM := Lib.hid (hM.out.next hb); replace hF := Lib.hid (hF.out.trans (Fr.of_below hb (fun _ x _ => x))); clear hb; have hY3 : w3.cell? ⟨p, 0, none⟩ = some (.int .i64 sl) ∧ w3.cell? ⟨p, 1, none⟩ = some (.bool fu) ∧ w3.cell? ⟨p, 2, none⟩ = some (.int .i64 c.S) ∧ w3.cell? ⟨p, 3, none⟩ = some (.int .i64 c.A) ∧ w3.cell? ⟨p, 4, none⟩ = some (.int .i64 c.C) ∧ w3.cell? ⟨p, 5, none⟩ = some (.int .i64 c.H) ∧ w3.cell? ⟨p, 6, none⟩ = some (.int .i64 c.G) ∧ w3.cell? ⟨p, 7, none⟩ = some (.int .i64 c.K) ∧ w3.cell? ⟨p, 8, none⟩ = some (.int .i64 kd) ∧ w3.cell? ⟨p, 9, none⟩ = some (.int .i64 ar) ∧ w3.cell? ⟨p, 10, none⟩ = some (.int .u64 ep) ∧ w3.cell? ⟨p, 11, none⟩ = some (bd) ∧ w3.cell? ⟨p, 12, none⟩ = some (.pointer (some ⟨q, 0, none⟩)) ∧ w3.cell? ⟨p, 13, none⟩ = some (.int .i64 gn) ∧ w3.cell? ⟨p, 14, none⟩ = some (.int .i64 ix) ∧ w3.cell? ⟨p, 15, none⟩ = some (.int .i64 3) := make_cells hp.out))
  all_goals
    clear hX hY3
    obtain ⟨l0, l1, l2, l3, l4, l5, l6, l7, l8, l9, l10, l11, l12, l13, l14, l15⟩ := make_cells hp.out
    go_wp2_with (first
      | (go_at_call 72; refine (headerC c _ Q.sl).mono ?_; rintro e w4 ⟨rfl, hb⟩; replace hQ := Lib.hid (Blk.below hQ.out hb (Blk.lt hQ.out)); replace hp := Lib.hid (hp.out.below hb hp.out.lt); replace hM := Lib.hid (hM.out.next hb); replace hF := Lib.hid (hF.out.trans (Fr.of_below hb (fun _ x _ => x))); clear hb)
      | (go_at_call 57; refine (store_c _ m b M (c.header Q.sl) hM.out ok mv1).mono ?_; rintro e w5 ⟨rfl, hM', hF'⟩; replace hQ := Lib.hid (Blk.fr hQ.out hF' nqm); replace hp := Lib.hid (hp.out.fr hF' np); replace hM := Lib.hid hM'; replace hF := Lib.hid (hF.out.trans (hF'.mono (fun _ x => .inr (.inr x)))); clear hM' hF'; have z0 := hp.out.frozen 0; have z15 := hp.out.frozen 15; obtain ⟨n0, n1, n2, n3, n4, n5, n6, n7, n8, n9, n10, n11, n12, n13, n14, n15⟩ := make_cells hp.out))
    go_ret
    exact ⟨rfl, Blk.other (Blk.other hQ.out ⟨p, 0, none⟩ nqp _) ⟨p, 15, none⟩ nqp _, (hp.out.set 0 _).set 15 _, (hM.out.set np 0 _).set np 15 _, (hF.out.trans (fr_f _ 0 _)).trans (fr_f _ 15 _)⟩
end Go.Proofs.Ytijfkpoofpcacaa.ArenaN
end
section
set_option linter.unusedVariables false
set_option linter.unusedSectionVars false
set_option linter.unusedSimpArgs false
namespace Go.Proofs.Ytijfkpoofpcacaa.ArenaP
open Go.RowKit Go.Proofs.YtijfkpoofpcacaaW.PrintWords Go.Proofs.Ytijfkpoofpcacaa.Blk Go.Proofs.Ytijfkpoofpcacaa.Core Go.Proofs.Ytijfkpoofpcacaa.MemC Go.Proofs.Ytijfkpoofpcacaa.MemD Go.Proofs.Ytijfkpoofpcacaa.MemT Go.Proofs.Ytijfkpoofpcacaa.PlanC Go.Proofs.Ytijfkpoofpcacaa.PlanD Go.Proofs.Ytijfkpoofpcacaa.StackC Go.Proofs.Ytijfkpoofpcacaa.StackS Go.Proofs.Ytijfkpoofpcacaa.HeadC Go.Proofs.Ytijfkpoofpcacaa.ArenaC Go.Proofs.Ytijfkpoofpcacaa.ArenaM Go.Proofs.Ytijfkpoofpcacaa.ArenaN Go.Proofs.Ytijfkpoofpcacaa.Opens
def padF (bn : Nat) (bf : Nat → Int) : Nat → Int := fun j => if j < bn then bf j else 0
theorem copyC (w : World) (r n : Nat) (A : Option Addr) (bn bc : Nat) (bf : Nat → Int) (hb : Blk w r 33 (rowF .u64 n (fun _ => 0))) (hS : Sl w A bn 1 (fun i _ => .int .u64 (bf i))) (h : bn ≤ n) :
    ∃ w', (Builtin.copy_ #[29, 29] 3 #[.slice (some ⟨r, 0, none⟩) n n, .slice A bn bc]).run Try.prog w = .ok (goInt bn) w' ∧ Blk w' r 33 (rowF .u64 n (padF bn bf)) ∧ Fr (fun k => k = r) w w' := by
  have hu : Try.prog.underlying 29 = some (.slice 33) := Try.underlying29
  have hz : (Try.prog.info? 33).map (·.size) = some 1 := by kernel_rfl
  rcases Nat.eq_zero_or_pos bn with e | e
  · subst e
    refine ⟨w, Go.run_copy_none w 29 29 3 33 _ _ _ _ _ _ hu hz (by simp), ?_, Fr.refl _ _⟩
    have : padF 0 bf = fun _ => 0 := by funext j; unfold padF; rw [if_neg (by omega)]
    rw [this]; exact hb
  · obtain ⟨b, o, rfl, hl, hc⟩ := hS e
    have hlen : ((List.range bn).map (fun i => Value.int .u64 (bf i))).length = bn := by simp
    have hrun := Go.run_copy_row (P := Try.prog) w 29 29 3 33 r 0 n n ⟨b, o, none⟩ bn bc (rowF .u64 n (fun _ => 0)) 33 ((List.range bn).map (fun i => Value.int .u64 (bf i))) hu hz hb (by rw [hlen]; exact (Nat.min_eq_left h).symm)
      (fun j v hj => by
        have hj' : j < bn := by
          rcases Nat.lt_or_ge j bn with q | q
          · exact q
          · rw [List.getElem?_eq_none (by rw [hlen]; exact q)] at hj; cases hj
        have := hc j hj' 0 (by decide)
        rw [Nat.mul_one] at this
        rw [Go.WideShapes.add_plain]
        rw [List.getElem?_map, List.getElem?_range hj'] at hj
        cases hj
        exact this) (by rw [hlen, rowF_size]; omega) (fun v hv => by
        obtain ⟨i, _, rfl⟩ := List.mem_map.1 hv
        rfl)
    rw [hlen] at hrun
    have he : ((rowF .u64 n (fun _ => 0)).toList.take 0 ++ (List.range bn).map (fun i => Value.int .u64 (bf i)) ++ (rowF .u64 n (fun _ => 0)).toList.drop (0 + bn)).toArray = rowF .u64 n (padF bn bf) := by
      refine Array.ext_getElem? fun i => ?_
      rw [List.getElem?_toArray, List.take_zero, List.nil_append, Nat.zero_add]
      by_cases h1 : i < n
      · rw [rowF_get h1]
        unfold padF
        by_cases h2 : i < bn
        · rw [List.getElem?_append_left (by rw [hlen]; exact h2), List.getElem?_map, List.getElem?_range h2, if_pos h2]; rfl
        · rw [List.getElem?_append_right (by rw [hlen]; omega), hlen, List.getElem?_drop, show bn + (i - bn) = i by omega, if_neg h2, Array.getElem?_toList, rowF_get h1]
      · rw [rowF_none h1, List.getElem?_eq_none]
        rw [List.length_append, hlen, List.length_drop, Array.length_toList, rowF_size]
        omega
    rw [he] at hrun
    exact ⟨_, hrun, Go.setRow_heap w r _ _ _ _ hb, ⟨rfl, rfl, rfl, by simp, fun k hk hs => Go.setRow_other w r k _ (fun e => hs e)⟩⟩
def roomI (c : Cf) : Nat := (roomV c.A - 2).toNat
theorem room_i {c : Cf} (hr : c.right = true) : 3 ≤ roomI c ∧ roomI c ≤ 8 ∧ (roomI c : Int) = roomV c.A - 2 := by
  have := size_bd hr
  unfold roomI; omega
theorem body_yes {c : Cf} (hr : c.right = true) {i : Nat} (hi : i < roomI c) : 0 ≤ c.body 0 i := by
  have h := size_bd hr
  have h1 := room_i hr
  have h2 := right_iff.1 hr
  unfold Cf.body
  rw [if_pos ⟨hr, by decide, by omega, by omega, by omega⟩]
  omega
theorem body_no {c : Cf} (hr : c.right = true) {s : Int} : c.body s (roomI c) < 0 := by
  have h1 := room_i hr
  unfold Cf.body
  rw [if_neg (by omega)]
  decide
section
variable (c : Cf) (w : World) (ar ep : Int) (A : Option Addr) (bn bc : Nat) (bf : Nat → Int) (hS : Sl w A bn 1 (fun i _ => .int .u64 (bf i))) (hr : c.right = true) (h0 : 0 ≤ ar)
include hS hr h0
set_option maxHeartbeats 4000000 in
set_option maxRecDepth 100000 in
theorem newMake_1 (hk : ar ≤ c.A) (hb : bn ≤ roomI c) : Calls Try.prog 51 #[.agg #[.int .i64 c.S, .int .i64 c.A, .int .i64 c.C, .int .i64 c.H, .int .i64 c.G, .int .i64 c.K], .int .i64 1, .int .i64 ar, .int .u64 ep, .slice A bn bc] w fun e w' =>
    ∃ p q r, e = .returned (.pointer (some ⟨p, 0, none⟩)) ∧ w.heap.size ≤ r ∧ r < q ∧ q < p ∧ PopB w' q c ⟨-1, false, 0, 0, 0⟩ ∧ Blk w' p 82 (makeA c (-1) false 1 ar ep (.slice (some ⟨r, 0, none⟩) (roomI c) (roomI c)) (some ⟨q, 0, none⟩) 0 0 0) ∧ RowB w' (some ⟨r, 0, none⟩) (roomI c) r (roomI c) (padF bn bf) ∧ Below w.heap.size w w' := by
  have hf := Lib.hid (Blk.new w 23 #[.int .i64 c.S, .int .i64 c.A, .int .i64 c.C, .int .i64 c.H, .int .i64 c.G, .int .i64 c.K])
  have hT0 := Lib.hid ((Below.refl w.heap.size w).alloc (Nat.le_refl _) (.cells #[.int .i64 c.S, .int .i64 c.A, .int .i64 c.C, .int .i64 c.H, .int .i64 c.G, .int .i64 c.K] 23))
  have hri := room_i hr
  obtain ⟨R, hR⟩ : ∃ R, R = roomI c := ⟨_, rfl⟩
  have hby : ∀ i : Nat, i < R → 0 ≤ c.body 0 i := fun i hi => body_yes hr (hR ▸ hi)
  have hbn : c.body 0 R < 0 := hR ▸ body_no hr
  obtain ⟨hr3, hr8, _⟩ := hri
  rw [← hR] at hr3 hr8 hb ⊢
  have hA : 0 ≤ c.A := by have := right_iff.1 hr; omega
  replace hR := Lib.hid hR
  replace hr := Lib.hid hr
  replace hby := Lib.hid hby
  replace hbn := Lib.hid hbn
  replace hS := Lib.hid hS
  go_enter Try.func51, Try.ntmps51
  generalize hCFe : w.heap.size = CF at *
  go_wp2_with (go_at_call 66; refine (rightC c _).mono ?_; rintro e w1 ⟨rfl, hb1⟩; rw [hr.out]; replace hf := Lib.hid (hf.out.below hb1 hf.out.lt); replace hT0 := Lib.hid (hT0.out.trans (hb1.mono (by have := hT0.out.size; omega))); obtain ⟨k0, k1, k2, k3, k4, k5⟩ := cfgs hf.out; clear hb1)
  clear k0 k1 k2 k3 k4 k5
  go_loopw [11] (fun z wr => ∃ i : Nat, i ≤ R ∧ z = .int .i64 (i : Int) ∧ Blk wr CF 23 #[.int .i64 c.S, .int .i64 c.A, .int .i64 c.C, .int .i64 c.H, .int .i64 c.G, .int .i64 c.K] ∧ Below CF w wr) (fun z _ => R - (intOf z).toNat)
  case atStart => exact ⟨0, Nat.zero_le _, rfl, hf.out, hT0.out⟩
  case round =>
    obtain ⟨i, hi, rfl, hcs, hWs⟩ := hrel
    obtain ⟨k0, k1, k2, k3, k4, k5⟩ := cfgs hcs
    replace hcs := Lib.hid hcs
    replace hWs := Lib.hid hWs
    by_cases hlt : i < R
    · have hy := hby.out i hlt
      go_wp2_with (go_at_call 85; refine (bodyC c _ 0 i).mono ?_; rintro e w2 ⟨rfl, hb2⟩; replace hcs := Lib.hid (hcs.out.below hb2 hcs.out.lt); replace hWs := Lib.hid (hWs.out.trans (hb2.mono (by have := hcs.out.lt; have := hWs.out.size; omega))); clear hb2)
      go_roundw
      case rel => exact ⟨i + 1, by omega, by go_num, hcs.out, hWs.out⟩
      case measure => simp [intOf]; omega
    · have hiR : i = R := by omega
      subst hiR
      have hn := hbn.out
      have hbi : ¬ (i : Int) < (bn : Int) := by omega
      have hi0 : 0 ≤ (i : Int) := by omega
      have hmk := make_run (i : Int) hi0 (by omega)
      rw [Int.toNat_natCast] at hmk
      go_upto_region 11 with (go_at_call 85; refine (bodyC c _ 0 i).mono ?_; rintro e w2 ⟨rfl, hb2⟩; replace hcs := Lib.hid (hcs.out.below hb2 hcs.out.lt); replace hWs := Lib.hid (hWs.out.trans (hb2.mono (by have := hcs.out.lt; have := hWs.out.size; omega))); clear hb2)
      have hlo : CF ≤ w2.heap.size := by have := hcs.out.lt; omega
      have hSc := hS.out.below hWs.out (Nat.le_of_eq hCFe)
      have hSd := hSc.below ((Below.refl w2.heap.size w2).alloc (Nat.le_refl _) (.cells (rowF .u64 i (fun _ => 0)) 33)) (Nat.le_refl _)
      obtain ⟨w3, hrun, hb3, hF3⟩ := copyC (w2.alloc (.cells (rowF .u64 i (fun _ => 0)) 33)) w2.heap.size i A bn bc bf (Blk.new w2 33 (rowF .u64 i (fun _ => 0))) hSd hb
      have hcs3 := (hcs.out.alloc (.cells (rowF .u64 i (fun _ => 0)) 33)).fr hF3 (fun e => by have := hcs.out.lt; have e' : CF = w2.heap.size := e; omega)
      have hW3 := (hWs.out.alloc hlo (.cells (rowF .u64 i (fun _ => 0)) 33)).trans (hF3.below (n := CF) (fun k hk => ⟨by simp; omega, fun e => by have e' : k = w2.heap.size := e; omega⟩))
      have hz3 := hF3.size
      have hz4 : (w2.alloc (.cells (rowF .u64 i (fun _ => 0)) 33)).heap.size = w2.heap.size + 1 := by simp
      rw [hz4] at hz3
      generalize hre : w2.heap.size = rr at *
      clear hSc hSd hcs hF3 hWs k0 k1 k2 k3 k4 k5 hz4
      go_upto_region 12 with (at_builtin; refine Lib.wpList_copy_run _ rfl _ _ 29 29 rfl _ _ rfl rfl hrun ?_)
      clear hrun hmk
      have hf3 := Lib.hid hcs3.drew
      replace hb3 := Lib.hid hb3.drew
      replace hW3 := Lib.hid hW3.drew
      have hz : rr + 1 ≤ w3.drew.heap.size := hz3
      have hX : w3.drew.cell? ⟨CF, 0, none⟩ = some (.int .i64 c.S) ∧ w3.drew.cell? ⟨CF, 1, none⟩ = some (.int .i64 c.A) ∧ w3.drew.cell? ⟨CF, 2, none⟩ = some (.int .i64 c.C) ∧ w3.drew.cell? ⟨CF, 3, none⟩ = some (.int .i64 c.H) ∧ w3.drew.cell? ⟨CF, 4, none⟩ = some (.int .i64 c.G) ∧ w3.drew.cell? ⟨CF, 5, none⟩ = some (.int .i64 c.K) := cfgs hf3.out
      clear hcs3 hre hz3
      go_region_held3 (fun w' => w'.cell? ⟨CF, 0, none⟩ = some (.int .i64 c.S) ∧ w'.cell? ⟨CF, 1, none⟩ = some (.int .i64 c.A) ∧ w'.cell? ⟨CF, 2, none⟩ = some (.int .i64 c.C) ∧ w'.cell? ⟨CF, 3, none⟩ = some (.int .i64 c.H) ∧ w'.cell? ⟨CF, 4, none⟩ = some (.int .i64 c.G) ∧ w'.cell? ⟨CF, 5, none⟩ = some (.int .i64 c.K)) (first | assumption | (refine cfgs (t := 23) (Blk.alloc (Hid.out ?_) _); assumption)) (first | (go_at_call 44; refine (newPopC c _ hr.out).mono ?_; rintro e w4 ⟨q, rfl, hq0, hq, hb4⟩; replace hf3 := Lib.hid (hf3.out.below hb4 hf3.out.lt); have hY := cfgs hf3.out; replace hb3 := Lib.hid (hb3.out.below hb4 hb3.out.lt); have ltq := Blk.lt hq; replace hq := Lib.hid hq; replace hW3 := Lib.hid (hW3.out.trans (hb4.mono (by omega))); clear hb4))
      all_goals
        clear hX hY
        go_wp2
        go_ret
        exact ⟨w4.heap.size, q, rr, rfl, hlo, by omega, ltq, Blk.alloc hq.out _, Blk.new w4 _ _, ⟨Nat.le_refl _, fun _ => ⟨rfl, _, hb3.out.alloc _, fun j hj => rowF_get hj⟩⟩, hW3.out.alloc (by omega) _⟩
set_option maxHeartbeats 4000000 in
set_option maxRecDepth 100000 in
theorem newMake_2 (hk : ar = 0) (hb : bn ≤ roomI c) : Calls Try.prog 51 #[.agg #[.int .i64 c.S, .int .i64 c.A, .int .i64 c.C, .int .i64 c.H, .int .i64 c.G, .int .i64 c.K], .int .i64 2, .int .i64 ar, .int .u64 ep, .slice A bn bc] w fun e w' =>
    ∃ p q r, e = .returned (.pointer (some ⟨p, 0, none⟩)) ∧ w.heap.size ≤ r ∧ r < q ∧ q < p ∧ PopB w' q c ⟨-1, false, 0, 0, 0⟩ ∧ Blk w' p 82 (makeA c (-1) false 2 ar ep (.slice (some ⟨r, 0, none⟩) (roomI c) (roomI c)) (some ⟨q, 0, none⟩) 0 0 0) ∧ RowB w' (some ⟨r, 0, none⟩) (roomI c) r (roomI c) (padF bn bf) ∧ Below w.heap.size w w' := by
  subst hk
  have hf := Lib.hid (Blk.new w 23 #[.int .i64 c.S, .int .i64 c.A, .int .i64 c.C, .int .i64 c.H, .int .i64 c.G, .int .i64 c.K])
  have hT0 := Lib.hid ((Below.refl w.heap.size w).alloc (Nat.le_refl _) (.cells #[.int .i64 c.S, .int .i64 c.A, .int .i64 c.C, .int .i64 c.H, .int .i64 c.G, .int .i64 c.K] 23))
  have hri := room_i hr
  obtain ⟨R, hR⟩ : ∃ R, R = roomI c := ⟨_, rfl⟩
  have hby : ∀ i : Nat, i < R → 0 ≤ c.body 0 i := fun i hi => body_yes hr (hR ▸ hi)
  have hbn : c.body 0 R < 0 := hR ▸ body_no hr
  obtain ⟨hr3, hr8, _⟩ := hri
  rw [← hR] at hr3 hr8 hb ⊢
  have hA : 0 ≤ c.A := by have := right_iff.1 hr; omega
  replace hR := Lib.hid hR
  replace hr := Lib.hid hr
  replace hby := Lib.hid hby
  replace hbn := Lib.hid hbn
  replace hS := Lib.hid hS
  go_enter Try.func51, Try.ntmps51
  generalize hCFe : w.heap.size = CF at *
  go_wp2_with (go_at_call 66; refine (rightC c _).mono ?_; rintro e w1 ⟨rfl, hb1⟩; rw [hr.out]; replace hf := Lib.hid (hf.out.below hb1 hf.out.lt); replace hT0 := Lib.hid (hT0.out.trans (hb1.mono (by have := hT0.out.size; omega))); obtain ⟨k0, k1, k2, k3, k4, k5⟩ := cfgs hf.out; clear hb1)
  clear k0 k1 k2 k3 k4 k5
  go_loopw [11] (fun z wr => ∃ i : Nat, i ≤ R ∧ z = .int .i64 (i : Int) ∧ Blk wr CF 23 #[.int .i64 c.S, .int .i64 c.A, .int .i64 c.C, .int .i64 c.H, .int .i64 c.G, .int .i64 c.K] ∧ Below CF w wr) (fun z _ => R - (intOf z).toNat)
  case atStart => exact ⟨0, Nat.zero_le _, rfl, hf.out, hT0.out⟩
  case round =>
    obtain ⟨i, hi, rfl, hcs, hWs⟩ := hrel
    obtain ⟨k0, k1, k2, k3, k4, k5⟩ := cfgs hcs
    replace hcs := Lib.hid hcs
    replace hWs := Lib.hid hWs
    by_cases hlt : i < R
    · have hy := hby.out i hlt
      go_wp2_with (go_at_call 85; refine (bodyC c _ 0 i).mono ?_; rintro e w2 ⟨rfl, hb2⟩; replace hcs := Lib.hid (hcs.out.below hb2 hcs.out.lt); replace hWs := Lib.hid (hWs.out.trans (hb2.mono (by have := hcs.out.lt; have := hWs.out.size; omega))); clear hb2)
      go_roundw
      case rel => exact ⟨i + 1, by omega, by go_num, hcs.out, hWs.out⟩
      case measure => simp [intOf]; omega
    · have hiR : i = R := by omega
      subst hiR
      have hn := hbn.out
      have hbi : ¬ (i : Int) < (bn : Int) := by omega
      have hi0 : 0 ≤ (i : Int) := by omega
      have hmk := make_run (i : Int) hi0 (by omega)
      rw [Int.toNat_natCast] at hmk
      go_upto_region 11 with (go_at_call 85; refine (bodyC c _ 0 i).mono ?_; rintro e w2 ⟨rfl, hb2⟩; replace hcs := Lib.hid (hcs.out.below hb2 hcs.out.lt); replace hWs := Lib.hid (hWs.out.trans (hb2.mono (by have := hcs.out.lt; have := hWs.out.size; omega))); clear hb2)
      have hlo : CF ≤ w2.heap.size := by have := hcs.out.lt; omega
      have hSc := hS.out.below hWs.out (Nat.le_of_eq hCFe)
      have hSd := hSc.below ((Below.refl w2.heap.size w2).alloc (Nat.le_refl _) (.cells (rowF .u64 i (fun _ => 0)) 33)) (Nat.le_refl _)
      obtain ⟨w3, hrun, hb3, hF3⟩ := copyC (w2.alloc (.cells (rowF .u64 i (fun _ => 0)) 33)) w2.heap.size i A bn bc bf (Blk.new w2 33 (rowF .u64 i (fun _ => 0))) hSd hb
      have hcs3 := (hcs.out.alloc (.cells (rowF .u64 i (fun _ => 0)) 33)).fr hF3 (fun e => by have := hcs.out.lt; have e' : CF = w2.heap.size := e; omega)
      have hW3 := (hWs.out.alloc hlo (.cells (rowF .u64 i (fun _ => 0)) 33)).trans (hF3.below (n := CF) (fun k hk => ⟨by simp; omega, fun e => by have e' : k = w2.heap.size := e; omega⟩))
      have hz3 := hF3.size
      have hz4 : (w2.alloc (.cells (rowF .u64 i (fun _ => 0)) 33)).heap.size = w2.heap.size + 1 := by simp
      rw [hz4] at hz3
      generalize hre : w2.heap.size = rr at *
      clear hSc hSd hcs hF3 hWs k0 k1 k2 k3 k4 k5 hz4
      go_upto_region 12 with (at_builtin; refine Lib.wpList_copy_run _ rfl _ _ 29 29 rfl _ _ rfl rfl hrun ?_)
      clear hrun hmk
      have hf3 := Lib.hid hcs3.drew
      replace hb3 := Lib.hid hb3.drew
      replace hW3 := Lib.hid hW3.drew
      have hz : rr + 1 ≤ w3.drew.heap.size := hz3
      have hX : w3.drew.cell? ⟨CF, 0, none⟩ = some (.int .i64 c.S) ∧ w3.drew.cell? ⟨CF, 1, none⟩ = some (.int .i64 c.A) ∧ w3.drew.cell? ⟨CF, 2, none⟩ = some (.int .i64 c.C) ∧ w3.drew.cell? ⟨CF, 3, none⟩ = some (.int .i64 c.H) ∧ w3.drew.cell? ⟨CF, 4, none⟩ = some (.int .i64 c.G) ∧ w3.drew.cell? ⟨CF, 5, none⟩ = some (.int .i64 c.K) := cfgs hf3.out
      clear hcs3 hre hz3
      go_region_held3 (fun w' => w'.cell? ⟨CF, 0, none⟩ = some (.int .i64 c.S) ∧ w'.cell? ⟨CF, 1, none⟩ = some (.int .i64 c.A) ∧ w'.cell? ⟨CF, 2, none⟩ = some (.int .i64 c.C) ∧ w'.cell? ⟨CF, 3, none⟩ = some (.int .i64 c.H) ∧ w'.cell? ⟨CF, 4, none⟩ = some (.int .i64 c.G) ∧ w'.cell? ⟨CF, 5, none⟩ = some (.int .i64 c.K)) (first | assumption | (refine cfgs (t := 23) (Blk.alloc (Hid.out ?_) _); assumption)) (first | (go_at_call 44; refine (newPopC c _ hr.out).mono ?_; rintro e w4 ⟨q, rfl, hq0, hq, hb4⟩; replace hf3 := Lib.hid (hf3.out.below hb4 hf3.out.lt); have hY := cfgs hf3.out; replace hb3 := Lib.hid (hb3.out.below hb4 hb3.out.lt); have ltq := Blk.lt hq; replace hq := Lib.hid hq; replace hW3 := Lib.hid (hW3.out.trans (hb4.mono (by omega))); clear hb4))
      all_goals
        clear hX hY
        go_wp2
        go_ret
        exact ⟨w4.heap.size, q, rr, rfl, hlo, by omega, ltq, Blk.alloc hq.out _, Blk.new w4 _ _, ⟨Nat.le_refl _, fun _ => ⟨rfl, _, hb3.out.alloc _, fun j hj => rowF_get hj⟩⟩, hW3.out.alloc (by omega) _⟩
end
def canM (c : Cf) (kd ar : Int) (bn : Nat) : Prop := c.right = true ∧ 0 ≤ ar ∧ bn ≤ roomI c ∧ (kd = 1 ∧ ar ≤ c.A ∨ kd = 2 ∧ ar = 0)
theorem newMakeC (c : Cf) (w : World) (kd ar ep : Int) (A : Option Addr) (bn bc : Nat) (bf : Nat → Int) (hS : Sl w A bn 1 (fun i _ => .int .u64 (bf i))) (h : canM c kd ar bn) : Calls Try.prog 51 #[.agg #[.int .i64 c.S, .int .i64 c.A, .int .i64 c.C, .int .i64 c.H, .int .i64 c.G, .int .i64 c.K], .int .i64 kd, .int .i64 ar, .int .u64 ep, .slice A bn bc] w fun e w' =>
    ∃ p q r, e = .returned (.pointer (some ⟨p, 0, none⟩)) ∧ w.heap.size ≤ r ∧ r < q ∧ q < p ∧ PopB w' q c ⟨-1, false, 0, 0, 0⟩ ∧ Blk w' p 82 (makeA c (-1) false kd ar ep (.slice (some ⟨r, 0, none⟩) (roomI c) (roomI c)) (some ⟨q, 0, none⟩) 0 0 0) ∧ RowB w' (some ⟨r, 0, none⟩) (roomI c) r (roomI c) (padF bn bf) ∧ Below w.heap.size w w' := by
  obtain ⟨hr, h0, hb, ⟨rfl, hk⟩ | ⟨rfl, hk⟩⟩ := h
  · exact newMake_1 c w ar ep A bn bc bf hS hr h0 hk hb
  · exact newMake_2 c w ar ep A bn bc bf hS hr h0 hk hb
end Go.Proofs.Ytijfkpoofpcacaa.ArenaP
end
section
set_option linter.unusedVariables false
namespace Go.Proofs.Ytijfkpoofpcacaa.StackT
open Go.RowKit Go.Proofs.YtijfkpoofpcacaaW.PrintWords Go.Proofs.Ytijfkpoofpcacaa.Blk Go.Proofs.Ytijfkpoofpcacaa.Core Go.Proofs.Ytijfkpoofpcacaa.MemC Go.Proofs.Ytijfkpoofpcacaa.MemD Go.Proofs.Ytijfkpoofpcacaa.MemT Go.Proofs.Ytijfkpoofpcacaa.PlanC Go.Proofs.Ytijfkpoofpcacaa.PlanD Go.Proofs.Ytijfkpoofpcacaa.StackC Go.Proofs.Ytijfkpoofpcacaa.StackL Go.Proofs.Ytijfkpoofpcacaa.StackS Go.Proofs.Ytijfkpoofpcacaa.Opens
theorem Li.cell {w : World} {B : Nat} {v : Value} {l : List Int} (h : Li w B v l) : ∃ A cc, v = .slice A l.length cc ∧ l.length ≤ cc ∧ l.length ≤ 100000 ∧ ∀ i, i < l.length → ∃ b o, A = some ⟨b, o, none⟩ ∧ w.cell? ⟨b, o + i, none⟩ = some (.int .i64 (l.getD i 0)) := by
  obtain ⟨A, cc, e, hc, hS, hB, hl⟩ := h
  refine ⟨A, cc, e, hc, hl, fun i hi => ?_⟩
  obtain ⟨b, o, e', _, hcl⟩ := hS (by omega)
  have := hcl i hi 0 (by decide)
  rw [Nat.mul_one] at this
  exact ⟨b, o, e', this⟩
end Go.Proofs.Ytijfkpoofpcacaa.StackT
end
section
set_option linter.unusedVariables false
namespace Go.Proofs.Ytijfkpoofpcacaa.StackF
open Go.RowKit Go.Proofs.YtijfkpoofpcacaaW.PrintWords Go.Proofs.Ytijfkpoofpcacaa.Blk Go.Proofs.Ytijfkpoofpcacaa.Core Go.Proofs.Ytijfkpoofpcacaa.MemC Go.Proofs.Ytijfkpoofpcacaa.MemD Go.Proofs.Ytijfkpoofpcacaa.MemT Go.Proofs.Ytijfkpoofpcacaa.Memory Go.Proofs.Ytijfkpoofpcacaa.PlanC Go.Proofs.Ytijfkpoofpcacaa.PlanD Go.Proofs.Ytijfkpoofpcacaa.StackC Go.Proofs.Ytijfkpoofpcacaa.StackL Go.Proofs.Ytijfkpoofpcacaa.StackS Go.Proofs.Ytijfkpoofpcacaa.StackT Go.Proofs.Ytijfkpoofpcacaa.Opens
theorem memF_U (A C H : Int) (j : Nat) (hj : j ≤ 64) : U (memF A C H j) := by
  intro k
  unfold memF
  split
  · decide
  · split
    · decide
    · split
      · rename_i h
        have h5 : 0 < roomV A := by unfold roomV; split <;> omega
        have := Int.ediv_nonneg h.1 (Int.le_of_lt h5)
        omega
      · decide
theorem fine_of {n : Nat} {f : Nat → Int} (h : U f) : Fine (Ms.of n f) n 0 := ⟨h, rfl, Int.le_refl 0, Int.le_refl 0⟩
theorem fine_pop {c : Cf} {q : Pop} {M : Ms} {n t : Nat} (h : Fine M n t) (t0 : 0 ≤ q.tp) : Fine (popM c q M) n (t + 1) := by
  unfold popM
  split
  · exact h.ld _
  · split
    · exact h.ld _
    · split
      · have := movedV_bd q.tp q.nx t0
        exact h.sw _ _ this.1 this.2
      · exact h.mono (Nat.le_succ _)
theorem first_bd (S x : Int) : -1 ≤ firstI S x ∧ firstI S x < 65536 := by unfold firstI; split <;> omega
theorem fine_push {c : Cf} {q : Push} {M : Ms} {n t : Nat} (h : Fine M n t) (t0 : 0 ≤ q.tp) : Fine (pushM c q M) n (t + 1) := by
  unfold pushM
  split
  · exact h.ld _
  · split
    · have := first_bd c.S q.tp
      exact h.st _ (by omega) (by omega)
    · split
      · have := movedV_bd q.tp q.sl t0
        exact h.sw _ _ this.1 this.2
      · exact h.mono (Nat.le_succ _)
theorem memC (c : Cf) (w : World) (h : c.right = true) : Calls Try.prog 20 #[.agg #[.int .i64 c.S, .int .i64 c.A, .int .i64 c.C, .int .i64 c.H, .int .i64 c.G, .int .i64 c.K]] w fun e w' =>
    ∃ m b, e = .returned (.pointer (some ⟨m, 0, none⟩)) ∧ MemB w' m b (Ms.of c.size.toNat (memF c.A c.C c.H (c.S - 1).toNat)) ∧ w.heap.size ≤ m ∧ w.heap.size ≤ b ∧ Below w.heap.size w w' := memory_c _ _ _ _ _ _ w h
def c7 : Cf := ⟨3, 0, 1, 1, 1, 0⟩
end Go.Proofs.Ytijfkpoofpcacaa.StackF
end
section
set_option linter.unusedVariables false
namespace Go.Proofs.Ytijfkpoofpcacaa.StackP
open Go.RowKit Go.Proofs.Ytijfkpoofpcacaa.Blk Go.Proofs.Ytijfkpoofpcacaa.Core Go.Proofs.Ytijfkpoofpcacaa.MemC Go.Proofs.Ytijfkpoofpcacaa.MemT Go.Proofs.Ytijfkpoofpcacaa.Memory Go.Proofs.Ytijfkpoofpcacaa.PlanC Go.Proofs.Ytijfkpoofpcacaa.PlanD Go.Proofs.Ytijfkpoofpcacaa.StackC Go.Proofs.Ytijfkpoofpcacaa.StackL Go.Proofs.Ytijfkpoofpcacaa.StackS Go.Proofs.Ytijfkpoofpcacaa.StackF
def hd : List Int → Int
  | [] => 0
  | x :: _ => x + 1
def Lk (c : Cf) (f : Nat → Int) : List Int → Prop
  | [] => True
  | x :: r => (0 ≤ x ∧ x < c.S) ∧ f (c.link x).toNat = hd r ∧ Lk c f r
structure Stk (c : Cf) (f : Nat → Int) (t : Int) (L : List Int) : Prop where
  top : f 3 = 65536 * t + hd L
  t0 : 0 ≤ t
  lk : Lk c f L
  nd : L.Nodup
theorem Lk.mem {c : Cf} {f : Nat → Int} : ∀ {L : List Int}, Lk c f L → ∀ x ∈ L, 0 ≤ x ∧ x < c.S := by
  intro L
  induction L with
  | nil => intro _ x hx; cases hx
  | cons y r ih =>
    intro h x hx
    rcases List.mem_cons.1 hx with rfl | hx
    · exact h.1
    · exact ih h.2.2 x hx
theorem hd_bd {c : Cf} {f : Nat → Int} {L : List Int} (h : Lk c f L) : 0 ≤ hd L ∧ (0 ≤ c.S → hd L ≤ c.S) := by
  cases L with
  | nil => exact ⟨Int.le_refl 0, fun h => h⟩
  | cons x r => have := h.1; show 0 ≤ x + 1 ∧ (0 ≤ c.S → x + 1 ≤ c.S); omega
theorem link_inj {c : Cf} (hr : c.right = true) {x y : Int} (hx : 0 ≤ x ∧ x < c.S) (hy : 0 ≤ y ∧ y < c.S) (h : c.link x = c.link y) : x = y := by
  have hb := size_bd hr
  unfold Cf.link at h
  rw [if_pos ⟨hr, hx.1, hx.2⟩, if_pos ⟨hr, hy.1, hy.2⟩] at h
  have h2 : x * roomV c.A = y * roomV c.A := by omega
  exact Int.eq_of_mul_eq_mul_right (by omega) h2
theorem Lk.congr {c : Cf} {f g : Nat → Int} : ∀ {L : List Int}, Lk c f L → (∀ x ∈ L, g (c.link x).toNat = f (c.link x).toNat) → Lk c g L := by
  intro L
  induction L with
  | nil => intro _ _; trivial
  | cons y r ih =>
    intro h hg
    exact ⟨h.1, (hg y List.mem_cons_self).trans h.2.1, ih h.2.2 (fun x hx => hg x (List.mem_cons_of_mem _ hx))⟩
theorem upd_ne {f : Nat → Int} {a i : Nat} {v : Int} (h : i ≠ a) : upd f a v i = f i := if_neg h
theorem upd_eq {f : Nat → Int} {a : Nat} {v : Int} : upd f a v a = v := if_pos rfl
theorem moved_eq {t : Int} (ht : 0 ≤ t) (t1 : t + 1 < 281474976710656) {a s : Int} (ha : 0 ≤ a ∧ a < 65536) (hs : -1 ≤ s ∧ s < 64) : movedV (65536 * t + a) s = 65536 * (t + 1) + (s + 1) := by
  unfold movedV
  rw [if_pos hs]
  have e : (65536 * t + a) / 65536 = t := by omega
  rw [e]
  omega
section
variable {c : Cf} (hr : c.right = true) {f : Nat → Int} {t : Int} {L r : List Int} {x : Int}
include hr
theorem S_bd : 1 ≤ c.S ∧ c.S ≤ 64 := by have := right_iff.1 hr; omega
theorem Stk.first (h : Stk c f t L) : firstI c.S (f 3) = hd L - 1 := by
  have hb := hd_bd h.lk
  have hS := S_bd hr
  have e : f 3 % 65536 = hd L := by rw [h.top]; omega
  unfold firstI
  rw [e]
  split
  · cases L with
    | nil => rfl
    | cons x r => have := h.lk.1; have : hd (x :: r) = x + 1 := rfl; omega
  · rfl
theorem link_ge (hx : 0 ≤ x ∧ x < c.S) : 4 ≤ (c.link x).toNat := by have := link_lt hr hx.1 hx.2; omega
theorem Stk.link_top (h : Stk c f t L) (v : Int) : ∀ y ∈ L, upd f 3 v (c.link y).toNat = f (c.link y).toNat := fun y hy => upd_ne (by have := link_ge hr (h.lk.mem y hy); omega)
theorem Stk.take (h : Stk c f t (x :: r)) (t1 : t + 1 < 281474976710656) : Stk c (upd f 3 (movedV (f 3) (hd r - 1))) (t + 1) r := by
  have hS := S_bd hr
  have hx := h.lk.1
  have hb := hd_bd h.lk.2.2
  have ht := h.t0
  refine ⟨?_, by omega, h.lk.2.2.congr (fun y hy => h.link_top hr _ y (List.mem_cons_of_mem _ hy)), (List.nodup_cons.1 h.nd).2⟩
  rw [upd_eq, h.top, moved_eq ht t1 (by show 0 ≤ x + 1 ∧ x + 1 < 65536; omega) (by omega)]
  omega
theorem Stk.lay (h : Stk c f t L) (t1 : t + 1 < 281474976710656) (hx : 0 ≤ x ∧ x < c.S) (hn : x ∉ L) (hl : f (c.link x).toNat = hd L) : Stk c (upd f 3 (movedV (f 3) x)) (t + 1) (x :: L) := by
  have hS := S_bd hr
  have hb := hd_bd h.lk
  have ht := h.t0
  refine ⟨?_, by omega, ⟨hx, ?_, h.lk.congr (fun y hy => h.link_top hr _ y hy)⟩, List.nodup_cons.2 ⟨hn, h.nd⟩⟩
  · rw [upd_eq, h.top, moved_eq ht t1 (by omega) (by omega)]
    rfl
  · rw [upd_ne (by have := link_ge hr hx; omega)]; exact hl
theorem Stk.store (h : Stk c f t L) (hx : 0 ≤ x ∧ x < c.S) (hn : x ∉ L) (v : Int) : Stk c (upd f (c.link x).toNat v) t L := by
  refine ⟨?_, h.t0, h.lk.congr (fun y hy => upd_ne (fun e => ?_)), h.nd⟩
  · rw [upd_ne (by have := link_ge hr hx; omega)]; exact h.top
  · have h1 := link_lt hr (h.lk.mem y hy).1 (h.lk.mem y hy).2
    have h2 := link_lt hr hx.1 hx.2
    have := link_inj hr (h.lk.mem y hy) hx (by omega)
    exact hn (this ▸ hy)
end
theorem ld_f (M : Ms) (a : Int) : (M.ldS a).f = M.f ∧ (M.ldS a).n = M.n := by
  unfold Ms.ldS
  split
  · refine ⟨?_, rfl⟩
    funext i
    show upd M.f a.toNat (M.f a.toNat) i = M.f i
    unfold upd
    split
    · rename_i e; rw [e]
    · rfl
  · exact ⟨rfl, rfl⟩
theorem ld_v {M : Ms} {a : Int} (h0 : 0 ≤ a) (h1 : a < M.n) : M.ldV a = M.f a.toNat := by unfold Ms.ldV; rw [if_pos (inn_iff.2 ⟨h0, h1⟩)]
theorem sw_yes {M : Ms} {a old now : Int} (h0 : 0 ≤ a) (h1 : a < M.n) (h : M.f a.toNat = old) : M.swV a old = true ∧ (M.swS a old now).f = upd M.f a.toNat now ∧ (M.swS a old now).n = M.n := by
  have hi : M.inn a = true := inn_iff.2 ⟨h0, h1⟩
  refine ⟨by unfold Ms.swV; rw [hi, decide_eq_true h]; rfl, ?_, ?_⟩
  · unfold Ms.swS; rw [if_pos hi, if_pos h]; rfl
  · unfold Ms.swS; rw [if_pos hi]; rfl
theorem st_f {M : Ms} {a v : Int} (h0 : 0 ≤ a) (h1 : a < M.n) : (M.stS a v).f = upd M.f a.toNat v ∧ (M.stS a v).n = M.n := by
  unfold Ms.stS; rw [if_pos (inn_iff.2 ⟨h0, h1⟩)]; exact ⟨rfl, rfl⟩
def ups (k : Nat) : Nat → List Int
  | 0 => []
  | n + 1 => (k : Int) :: ups (k + 1) n
theorem ups_mem : ∀ {n k : Nat} {x : Int}, x ∈ ups k n → (k : Int) ≤ x ∧ x < (k : Int) + n := by
  intro n
  induction n with
  | zero => intro k x h; cases h
  | succ n ih =>
    intro k x h
    rcases List.mem_cons.1 h with rfl | h
    · omega
    · have := ih h; omega
theorem ups_nodup : ∀ (n k : Nat), (ups k n).Nodup := by
  intro n
  induction n with
  | zero => intro k; exact List.nodup_nil
  | succ n ih => intro k; exact List.nodup_cons.2 ⟨fun h => by have := ups_mem h; omega, ih _⟩
theorem memF_last {A C H : Int} {j : Nat} (h4 : 4 ≤ slotsV C H) (h5 : 5 ≤ roomV A) : memF A C H j (slotsV C H + j * roomV A + 1).toNat = 0 := by
  have hm : 0 ≤ (j : Int) * roomV A := Int.mul_nonneg (by omega) (by omega)
  unfold memF
  have e : (((slotsV C H + j * roomV A + 1).toNat : Nat) : Int) - slotsV C H = 1 + j * roomV A := by omega
  rw [if_neg (by omega), if_neg (by omega), e]
  have e2 : (1 + (j : Int) * roomV A) / roomV A = j := by rw [Int.add_mul_ediv_right _ _ (by omega), Int.ediv_eq_zero_of_lt (by omega) (by omega)]; omega
  rw [e2, if_neg (by omega)]
theorem stk_lk {c : Cf} (hr : c.right = true) : ∀ (n k : Nat), ((k + n : Nat) : Int) = c.S → Lk c (memF c.A c.C c.H (c.S - 1).toNat) (ups k n) := by
  have hb := size_bd hr
  have hS := S_bd hr
  intro n
  induction n with
  | zero => intro k _; trivial
  | succ n ih =>
    intro k hk
    refine ⟨by omega, ?_, ih (k + 1) (by omega)⟩
    unfold Cf.link
    rw [if_pos ⟨hr, by omega, by omega⟩]
    cases n with
    | zero =>
      have : (c.S - 1).toNat = k := by omega
      rw [this]
      exact memF_last (by omega) (by omega)
    | succ n =>
      rw [memF_link (by omega) (by omega) (by omega)]
      show (k : Int) + 2 = ((k + 1 : Nat) : Int) + 1
      omega
theorem stk_start {c : Cf} (hr : c.right = true) : Stk c (memF c.A c.C c.H (c.S - 1).toNat) 0 (ups 0 c.S.toNat) := by
  have hS := S_bd hr
  refine ⟨?_, Int.le_refl 0, stk_lk hr _ 0 (by omega), ups_nodup _ _⟩
  obtain ⟨k, hk⟩ : ∃ k, c.S.toNat = k + 1 := ⟨c.S.toNat - 1, by omega⟩
  rw [hk]
  rfl
end Go.Proofs.Ytijfkpoofpcacaa.StackP
end
section
set_option linter.unusedVariables false
set_option linter.unusedSectionVars false
namespace Go.Proofs.Ytijfkpoofpcacaa.StackQ
open Go.RowKit Go.Proofs.Ytijfkpoofpcacaa.Blk Go.Proofs.Ytijfkpoofpcacaa.Core Go.Proofs.Ytijfkpoofpcacaa.MemC Go.Proofs.Ytijfkpoofpcacaa.MemT Go.Proofs.Ytijfkpoofpcacaa.Memory Go.Proofs.Ytijfkpoofpcacaa.PlanC Go.Proofs.Ytijfkpoofpcacaa.PlanD Go.Proofs.Ytijfkpoofpcacaa.StackC Go.Proofs.Ytijfkpoofpcacaa.StackL Go.Proofs.Ytijfkpoofpcacaa.StackS Go.Proofs.Ytijfkpoofpcacaa.StackF Go.Proofs.Ytijfkpoofpcacaa.StackP
section
variable {c : Cf} (hr : c.right = true) {w : World} {p m b n T : Nat} {M : Ms} {t : Int} {L r : List Int} {x : Int} (hM : MemB w m b M) (hf : Fine M n T) (hn : (n : Int) = c.size) (hT : T ≤ 1000000) (np : ¬ two m b p) {sl : Int} {em : Bool} {tp nx : Int}
include hr hM hf hn hT np
theorem hn8 : 9 ≤ n ∧ n ≤ 800 := by have := size_bd hr; unfold Cf.size at hn; omega
end
end Go.Proofs.Ytijfkpoofpcacaa.StackQ
end
section
set_option linter.unusedVariables false
set_option linter.unusedSectionVars false
namespace Go.Proofs.Ytijfkpoofpcacaa.TakerL
open Go.RowKit Go.Proofs.Ytijfkpoofpcacaa.Blk Go.Proofs.Ytijfkpoofpcacaa.Core Go.Proofs.Ytijfkpoofpcacaa.MemC Go.Proofs.Ytijfkpoofpcacaa.MemT Go.Proofs.Ytijfkpoofpcacaa.Memory Go.Proofs.Ytijfkpoofpcacaa.PlanC Go.Proofs.Ytijfkpoofpcacaa.PlanD Go.Proofs.Ytijfkpoofpcacaa.StackC Go.Proofs.Ytijfkpoofpcacaa.StackL Go.Proofs.Ytijfkpoofpcacaa.StackS Go.Proofs.Ytijfkpoofpcacaa.StackF Go.Proofs.Ytijfkpoofpcacaa.StackP Go.Proofs.Ytijfkpoofpcacaa.StackQ
def Tg (f : Nat → Int) (t tp : Int) : Prop := (0 ≤ tp ∧ tp < 18446744073709551616) ∧ tp / 65536 ≤ t ∧ (tp / 65536 = t → tp = f 3)
def PopI (f : Nat → Int) (t : Int) (L : List Int) (q : Pop) : Prop :=
  q.sl = -1 ∧ q.em = false ∧ (0 ≤ q.tp ∧ q.tp < 18446744073709551616) ∧
    (q.a = 0 ∨ (q.a = 1 ∧ Tg f t q.tp ∧ (q.tp = f 3 → L ≠ [])) ∨ (q.a = 2 ∧ Tg f t q.tp ∧ (q.tp = f 3 → L ≠ [] ∧ q.nx = hd L.tail - 1)))
def PushI (c : Cf) (f : Nat → Int) (t : Int) (L : List Int) (q : Push) : Prop :=
  (0 ≤ q.tp ∧ q.tp < 18446744073709551616) ∧ (q.a = 0 ∨ (q.a = 1 ∧ Tg f t q.tp) ∨ (q.a = 2 ∧ Tg f t q.tp ∧ (q.tp = f 3 → f (c.link q.sl).toNat = hd L)))
theorem PopI.ok {f : Nat → Int} {t : Int} {L : List Int} {q : Pop} (h : PopI f t L q) : PopOk q := ⟨h.2.2.1.1, h.2.2.1.2, by rcases h.2.2.2 with a | ⟨a, _⟩ | ⟨a, _⟩ <;> simp [a]⟩
theorem PushI.ok {c : Cf} {f : Nat → Int} {t : Int} {L : List Int} {q : Push} (h : PushI c f t L q) : PushOk q := ⟨h.1.1, h.1.2, by rcases h.2 with a | ⟨a, _⟩ | ⟨a, _⟩ <;> simp [a]⟩
theorem Tg.next {f f' : Nat → Int} {t tp : Int} (h : Tg f t tp) : Tg f' (t + 1) tp := ⟨h.1, by have := h.2.1; omega, fun k => by have := h.2.1; omega⟩
section
variable {c : Cf} (hr : c.right = true) {f f' : Nat → Int} {t : Int} {L L' : List Int}
include hr
theorem top_tag (h : Stk c f t L) : f 3 / 65536 = t ∧ 0 ≤ f 3 := by
  have hS := S_bd hr
  have hb := hd_bd h.lk
  have ht := h.t0
  rw [h.top]; omega
theorem PopI.next {q : Pop} (h : PopI f t L q) (hs : Stk c f' (t + 1) L') : PopI f' (t + 1) L' q := by
  have h1 := (top_tag hr hs).1
  refine ⟨h.1, h.2.1, h.2.2.1, ?_⟩
  rcases h.2.2.2 with a | ⟨a, b, d⟩ | ⟨a, b, d⟩
  · exact .inl a
  · exact .inr (.inl ⟨a, b.next, fun e => by have := b.2.1; rw [e] at this; omega⟩)
  · exact .inr (.inr ⟨a, b.next, fun e => by have := b.2.1; rw [e] at this; omega⟩)
theorem PushI.next {q : Push} (h : PushI c f t L q) (hs : Stk c f' (t + 1) L') : PushI c f' (t + 1) L' q := by
  have h1 := (top_tag hr hs).1
  refine ⟨h.1, ?_⟩
  rcases h.2 with a | ⟨a, b⟩ | ⟨a, b, d⟩
  · exact .inl a
  · exact .inr (.inl ⟨a, b.next⟩)
  · exact .inr (.inr ⟨a, b.next, fun e => by have := b.2.1; rw [e] at this; omega⟩)
variable {M : Ms} (hn : M.n = c.size) (hu : U M.f)
include hn hu
end
end Go.Proofs.Ytijfkpoofpcacaa.TakerL
end
section
set_option linter.unusedVariables false
set_option linter.unusedSectionVars false
namespace Go.Proofs.Ytijfkpoofpcacaa.ArenaL
open Go.RowKit Go.Proofs.Ytijfkpoofpcacaa.Blk Go.Proofs.Ytijfkpoofpcacaa.Core Go.Proofs.Ytijfkpoofpcacaa.MemC Go.Proofs.Ytijfkpoofpcacaa.MemT Go.Proofs.Ytijfkpoofpcacaa.Memory Go.Proofs.Ytijfkpoofpcacaa.PlanC Go.Proofs.Ytijfkpoofpcacaa.PlanD Go.Proofs.Ytijfkpoofpcacaa.StackC Go.Proofs.Ytijfkpoofpcacaa.StackL Go.Proofs.Ytijfkpoofpcacaa.StackS Go.Proofs.Ytijfkpoofpcacaa.StackF Go.Proofs.Ytijfkpoofpcacaa.StackP Go.Proofs.Ytijfkpoofpcacaa.StackQ Go.Proofs.Ytijfkpoofpcacaa.TakerL Go.Proofs.Ytijfkpoofpcacaa.HeadC
structure Mk where
  sl : Int
  fu : Bool
  kd : Int
  ar : Int
  ep : Int
  gn : Int
  ix : Int
  nx : Int
  pop : Pop
def mkS (c : Cf) (n : Nat) (a : Mk) (M : Ms) : Mk :=
  if a.nx = 0 then
    (if popD c a.pop M = true then
      (if (popS c a.pop M).em = true then ⟨a.sl, true, a.kd, a.ar, a.ep, a.gn, a.ix, 5, popS c a.pop M⟩ else ⟨a.sl, a.fu, a.kd, a.ar, a.ep, a.gn, a.ix, 1, popS c a.pop M⟩)
    else ⟨a.sl, a.fu, a.kd, a.ar, a.ep, a.gn, a.ix, 0, popS c a.pop M⟩)
  else if a.nx = 1 then ⟨a.sl, a.fu, a.kd, a.ar, a.ep, uN (M.ldV (c.header a.pop.sl)), a.ix, 2, a.pop⟩
  else if a.nx = 2 then ⟨a.sl, a.fu, a.kd, a.ar, a.ep, a.gn, a.ix + 1, (if a.ix + 1 = (n : Int) then 3 else 2), a.pop⟩
  else if a.nx = 3 then ⟨a.pop.sl, a.fu, a.kd, a.ar, a.ep, a.gn, a.ix, 5, a.pop⟩
  else a
def mkM (c : Cf) (g : Nat → Int) (a : Mk) (M : Ms) : Ms :=
  if a.nx = 0 then popM c a.pop M else if a.nx = 1 then M.ldS (c.header a.pop.sl)
  else if a.nx = 2 then M.stS (c.body a.pop.sl a.ix) (g a.ix.toNat) else if a.nx = 3 then M.stS (c.header a.pop.sl) (madeV a.kd a.ar a.gn a.ep).1 else M
def mkD (c : Cf) (n : Nat) (a : Mk) (M : Ms) : Bool := (mkS c n a M).nx == 5
structure MkOk (n : Nat) (a : Mk) : Prop where
  pop : a.nx = 0 → PopOk a.pop
  nx : ((a.nx = 0 ∨ a.nx = 1 ∨ a.nx = 2) ∧ 0 ≤ a.ix ∧ a.ix < n) ∨ a.nx = 3 ∨ a.nx = 5
  ep : 0 ≤ a.ep ∧ a.ep < 18446744073709551616
  ar : a.ar < 9223372036854775808
  gn : a.gn < 9223372036854775808
structure Fre where
  bk : Bool
  gn : Bool
  sl : Int
  nw : Int
  nx : Int
  pu : Option Push
def frS (c : Cf) (a : Fre) (M : Ms) : Fre :=
  if a.nx = 1 then ⟨a.bk, a.gn, a.sl, (freedV (M.ldV (c.header a.sl)) c.G).1, (if (freedV (M.ldV (c.header a.sl)) c.G).2 = true then 3 else 5), a.pu⟩
  else if a.nx = 3 then (if uK a.nw = 4 then ⟨a.bk, true, a.sl, a.nw, 5, some ⟨a.sl, 0, 0⟩⟩ else ⟨a.bk, a.gn, a.sl, a.nw, 4, some ⟨a.sl, 0, 0⟩⟩)
  else if a.nx = 4 then (match a.pu with
    | some Q => if pushD c Q M = true then ⟨true, a.gn, a.sl, a.nw, 5, some (pushS c Q M)⟩ else ⟨a.bk, a.gn, a.sl, a.nw, 4, some (pushS c Q M)⟩
    | none => a)
  else a
def frM (c : Cf) (a : Fre) (M : Ms) : Ms :=
  if a.nx = 1 then M.ldS (c.header a.sl) else if a.nx = 3 then M.stS (c.header a.sl) a.nw
  else if a.nx = 4 then (match a.pu with | some Q => pushM c Q M | none => M) else M
def frD (c : Cf) (a : Fre) (M : Ms) : Bool := (frS c a M).nx == 5
structure FreOk (c : Cf) (a : Fre) : Prop where
  sl : 0 ≤ a.sl ∧ a.sl < c.S
  nw : 0 ≤ a.nw ∧ a.nw < 18446744073709551616
  nx : a.nx = 1 ∨ a.nx = 3 ∨ (a.nx = 4 ∧ ∃ Q, a.pu = some Q ∧ PushOk Q) ∨ a.nx = 5
def _root_.Go.Proofs.Ytijfkpoofpcacaa.PlanD.Cf.pl (c : Cf) (s o : Int) : Int := slotsV c.C c.H + s * roomV c.A + o
theorem place_inj {R s y i j : Int} (hi : 0 ≤ i ∧ i < R) (hj : 0 ≤ j ∧ j < R) (h : s * R + i = y * R + j) : s = y ∧ i = j := by
  have e : ∀ a b : Int, 0 ≤ b ∧ b < R → (a * R + b) / R = a := fun a b hb => by
    rw [Int.add_comm, Int.add_mul_ediv_right _ _ (by omega), Int.ediv_eq_zero_of_lt hb.1 hb.2, Int.zero_add]
  have e1 := e s i hi
  have e2 := e y j hj
  rw [h, e2] at e1
  subst e1
  exact ⟨rfl, by omega⟩
section
variable {c : Cf} (hr : c.right = true)
include hr
theorem room_bd : 5 ≤ roomV c.A ∧ roomV c.A ≤ 10 := by have := size_bd hr; omega
theorem link_pl {s : Int} (h : 0 ≤ s ∧ s < c.S) : c.link s = c.pl s 1 := by unfold Cf.link Cf.pl; rw [if_pos ⟨hr, h.1, h.2⟩]
theorem header_pl {s : Int} (h : 0 ≤ s ∧ s < c.S) : c.header s = c.pl s 0 := by unfold Cf.header Cf.pl; rw [if_pos ⟨hr, h.1, h.2⟩]; omega
theorem body_pl {s i : Int} (h : 0 ≤ s ∧ s < c.S) (hi : 0 ≤ i ∧ 2 + i < roomV c.A) : c.body s i = c.pl s (2 + i) := by unfold Cf.body Cf.pl; rw [if_pos ⟨hr, h.1, h.2, hi.1, hi.2⟩]
theorem pl_bd {s o : Int} (h : 0 ≤ s ∧ s < c.S) (ho : 0 ≤ o ∧ o < roomV c.A) : 4 ≤ c.pl s o ∧ c.pl s o < c.size := by
  have h1 := at_bd (S := c.S) (A := c.A) (C := c.C) (H := c.H) (G := c.G) (K := c.K) hr h.1 h.2 ho.1 ho.2
  have h2 := size_bd hr
  unfold Cf.pl Cf.size; omega
theorem pl_ne {s y i j : Int} (hs : 0 ≤ s ∧ s < c.S) (hy : 0 ≤ y ∧ y < c.S) (hi : 0 ≤ i ∧ i < roomV c.A) (hj : 0 ≤ j ∧ j < roomV c.A) (h : s ≠ y ∨ i ≠ j) : (c.pl s i).toNat ≠ (c.pl y j).toNat := by
  intro e
  have h1 := pl_bd hr hs hi
  have h2 := pl_bd hr hy hj
  have e2 : c.pl s i = c.pl y j := by omega
  unfold Cf.pl at e2
  obtain ⟨a, b⟩ := place_inj (R := roomV c.A) (s := s) (y := y) hi hj (by omega)
  exact h.elim (fun k => k a) (fun k => k b)
theorem Stk.off {f : Nat → Int} {t v : Int} {L : List Int} (h : Stk c f t L) {s o : Int} (hs : 0 ≤ s ∧ s < c.S) (ho : 0 ≤ o ∧ o < roomV c.A) (h1 : o ≠ 1) : Stk c (upd f (c.pl s o).toNat v) t L := by
  have hb := room_bd hr
  have hp := pl_bd hr hs ho
  refine ⟨?_, h.t0, h.lk.congr (fun y hy => ?_), h.nd⟩
  · rw [upd_ne (by omega)]; exact h.top
  · have hy' := h.lk.mem y hy
    rw [link_pl hr hy', upd_ne (pl_ne hr hy' hs ⟨by decide, by omega⟩ ho (.inr (fun e => h1 e.symm)))]
variable {M : Ms} (hn : M.n = c.size)
include hn
theorem ld_pl {s o : Int} (hs : 0 ≤ s ∧ s < c.S) (ho : 0 ≤ o ∧ o < roomV c.A) : M.ldV (c.pl s o) = M.f (c.pl s o).toNat := by
  have hp := pl_bd hr hs ho
  exact ld_v (by omega) (by omega)
theorem st_pl {s o v : Int} (hs : 0 ≤ s ∧ s < c.S) (ho : 0 ≤ o ∧ o < roomV c.A) : (M.stS (c.pl s o) v).f = upd M.f (c.pl s o).toNat v ∧ (M.stS (c.pl s o) v).n = M.n := by
  have hp := pl_bd hr hs ho
  exact st_f (by omega) (by omega)
end
section
variable {c : Cf} (hr : c.right = true) {M : Ms} {t : Int} {r : List Int} {x sl tp nx : Int} {em : Bool} (hn : M.n = c.size) (h : Stk c M.f t (x :: r))
include hr hn h
theorem pa0 : popS c ⟨sl, em, 0, tp, nx⟩ M = ⟨sl, em, 1, M.f 3, nx⟩ ∧ popM c ⟨sl, em, 0, tp, nx⟩ M = M.ldS 3 ∧ popD c ⟨sl, em, 0, tp, nx⟩ M = false := by
  have hx := h.lk.1
  have h1 := h.first hr
  have e3 : M.ldV 3 = M.f 3 := ld_v (by decide) (by have := size_bd hr; unfold Cf.size at hn; omega)
  have h2 : ¬ firstI c.S (M.f 3) < 0 := by rw [h1]; show ¬ x + 1 - 1 < 0; omega
  have hS : popS c ⟨sl, em, 0, tp, nx⟩ M = ⟨sl, em, 1, M.f 3, nx⟩ := by simp [popS, e3, h2]
  exact ⟨hS, by simp [popM], by unfold popD; rw [hS]; rfl⟩
theorem pa1 : popS c ⟨sl, em, 1, M.f 3, nx⟩ M = ⟨sl, em, 2, M.f 3, hd r - 1⟩ ∧ popM c ⟨sl, em, 1, M.f 3, nx⟩ M = M.ldS (c.link x) ∧ popD c ⟨sl, em, 1, M.f 3, nx⟩ M = false := by
  have hx := h.lk.1
  have h1 : firstI c.S (M.f 3) = x := by rw [h.first hr]; show x + 1 - 1 = x; omega
  have hl := link_lt hr hx.1 hx.2
  have e4 : M.ldV (c.link x) = hd r := by rw [ld_v (by omega) (by rw [hn]; exact hl.2)]; exact h.lk.2.1
  have hb := hd_bd h.lk.2.2
  have hSb := S_bd hr
  have e5 : linkedI c.S (hd r) = hd r - 1 := by unfold linkedI; rw [if_neg (by omega)]
  have hS : popS c ⟨sl, em, 1, M.f 3, nx⟩ M = ⟨sl, em, 2, M.f 3, hd r - 1⟩ := by simp [popS, h1, e4, e5]
  exact ⟨hS, by simp [popM, h1], by unfold popD; rw [hS]; rfl⟩
theorem pa2 (ht : t + 1 < 281474976710656) : popS c ⟨sl, em, 2, M.f 3, hd r - 1⟩ M = ⟨x, em, 3, M.f 3, hd r - 1⟩ ∧ Stk c (popM c ⟨sl, em, 2, M.f 3, hd r - 1⟩ M).f (t + 1) r ∧ (∀ j, j ≠ 3 → (popM c ⟨sl, em, 2, M.f 3, hd r - 1⟩ M).f j = M.f j) ∧ popD c ⟨sl, em, 2, M.f 3, hd r - 1⟩ M = true := by
  have hx := h.lk.1
  have hsz := size_bd hr
  have hn9 : (9 : Int) ≤ M.n := by unfold Cf.size at hn; omega
  have h1 : firstI c.S (M.f 3) = x := by rw [h.first hr]; show x + 1 - 1 = x; omega
  obtain ⟨s1, s2, s3⟩ := sw_yes (M := M) (a := 3) (old := M.f 3) (now := movedV (M.f 3) (hd r - 1)) (by decide) (by omega) rfl
  have hS : popS c ⟨sl, em, 2, M.f 3, hd r - 1⟩ M = ⟨x, em, 3, M.f 3, hd r - 1⟩ := by simp [popS, h1, s1]
  have hM : (popM c ⟨sl, em, 2, M.f 3, hd r - 1⟩ M).f = upd M.f 3 (movedV (M.f 3) (hd r - 1)) := by rw [show popM c ⟨sl, em, 2, M.f 3, hd r - 1⟩ M = M.swS 3 (M.f 3) (movedV (M.f 3) (hd r - 1)) by simp [popM]]; exact s2
  refine ⟨hS, ?_, fun j hj => ?_, by unfold popD; rw [hS]; rfl⟩
  · rw [hM]; exact h.take hr ht
  · rw [hM]; exact upd_ne hj
end
def Stg (c : Cf) (n : Nat) (f : Nat → Int) (t x : Int) (r : List Int) (i : Nat) (a : Mk) : Prop :=
  a.fu = false ∧ (
    (i = 0 ∧ a.nx = 0 ∧ a.ix = 0 ∧ a.pop = ⟨-1, false, 0, 0, 0⟩ ∧ Stk c f t (x :: r)) ∨
    (i = 1 ∧ a.nx = 0 ∧ a.ix = 0 ∧ a.pop = ⟨-1, false, 1, f 3, 0⟩ ∧ Stk c f t (x :: r)) ∨
    (i = 2 ∧ a.nx = 0 ∧ a.ix = 0 ∧ a.pop = ⟨-1, false, 2, f 3, hd r - 1⟩ ∧ Stk c f t (x :: r)) ∨
    (i = 3 ∧ a.nx = 1 ∧ a.ix = 0 ∧ a.pop.sl = x ∧ Stk c f (t + 1) r) ∨
    (∃ j : Nat, i = 4 + j ∧ j < n ∧ a.nx = 2 ∧ a.ix = j ∧ a.pop.sl = x ∧ Stk c f (t + 1) r) ∨
    (i = 4 + n ∧ a.nx = 3 ∧ a.pop.sl = x ∧ Stk c f (t + 1) r) ∨
    (i = 5 + n ∧ a.nx = 5 ∧ a.sl = x ∧ Stk c f (t + 1) r))
theorem mkStep {c : Cf} (hr : c.right = true) {n : Nat} (hnr : (n : Int) = roomV c.A - 2) {g : Nat → Int} {M : Ms} (hn : M.n = c.size) {t x : Int} {r : List Int} (hx : 0 ≤ x ∧ x < c.S) (ht : t + 1 < 281474976710656) {i : Nat} (hi : i < 5 + n) {a : Mk} (h : Stg c n M.f t x r i a) :
    Stg c n (mkM c g a M).f t x r (i + 1) (mkS c n a M) ∧ mkD c n a M = (i + 1 == 5 + n) := by
  have hb := room_bd hr
  obtain ⟨sl, fu, kd, ar, ep, gn, ix, nx, pop⟩ := a
  obtain ⟨h0, h⟩ := h
  obtain rfl : fu = false := h0
  rcases h with ⟨rfl, h1, h2, h3, h4⟩ | ⟨rfl, h1, h2, h3, h4⟩ | ⟨rfl, h1, h2, h3, h4⟩ | ⟨rfl, h1, h2, h3, h4⟩ | ⟨j, rfl, hj, h1, h2, h3, h4⟩ | ⟨rfl, h1, h3, h4⟩ | ⟨rfl, h1, h3, h4⟩
  · obtain rfl : nx = 0 := h1
    obtain rfl : pop = ⟨-1, false, 0, 0, 0⟩ := h3
    obtain ⟨p1, p2, p3⟩ := pa0 (sl := -1) (em := false) (tp := 0) (nx := 0) hr hn h4
    have ef : (M.ldS 3).f = M.f := (ld_f M 3).1
    have hS : mkS c n ⟨sl, false, kd, ar, ep, gn, ix, 0, ⟨-1, false, 0, 0, 0⟩⟩ M = ⟨sl, false, kd, ar, ep, gn, ix, 0, ⟨-1, false, 1, M.f 3, 0⟩⟩ := by simp [mkS, p1, p3]
    have hM : mkM c g ⟨sl, false, kd, ar, ep, gn, ix, 0, ⟨-1, false, 0, 0, 0⟩⟩ M = M.ldS 3 := by simp [mkM, p2]
    refine ⟨?_, ?_⟩
    · rw [hS, hM, ef]; exact ⟨rfl, .inr (.inl ⟨rfl, rfl, h2, rfl, h4⟩)⟩
    · unfold mkD; rw [hS]; show ((0 : Int) == 5) = _; rw [beq_eq_false_iff_ne.2 (show 0 + 1 ≠ 5 + n by omega)]; rfl
  · obtain rfl : nx = 0 := h1
    obtain rfl : pop = ⟨-1, false, 1, M.f 3, 0⟩ := h3
    obtain ⟨p1, p2, p3⟩ := pa1 (sl := -1) (em := false) (nx := 0) hr hn h4
    have ef : (M.ldS (c.link x)).f = M.f := (ld_f M _).1
    have hS : mkS c n ⟨sl, false, kd, ar, ep, gn, ix, 0, ⟨-1, false, 1, M.f 3, 0⟩⟩ M = ⟨sl, false, kd, ar, ep, gn, ix, 0, ⟨-1, false, 2, M.f 3, hd r - 1⟩⟩ := by simp [mkS, p1, p3]
    have hM : mkM c g ⟨sl, false, kd, ar, ep, gn, ix, 0, ⟨-1, false, 1, M.f 3, 0⟩⟩ M = M.ldS (c.link x) := by simp [mkM, p2]
    refine ⟨?_, ?_⟩
    · rw [hS, hM, ef]; exact ⟨rfl, .inr (.inr (.inl ⟨rfl, rfl, h2, rfl, h4⟩))⟩
    · unfold mkD; rw [hS]; show ((0 : Int) == 5) = _; rw [beq_eq_false_iff_ne.2 (show 1 + 1 ≠ 5 + n by omega)]; rfl
  · obtain rfl : nx = 0 := h1
    obtain rfl : pop = ⟨-1, false, 2, M.f 3, hd r - 1⟩ := h3
    obtain ⟨p1, p2, _, p3⟩ := pa2 (sl := -1) (em := false) hr hn h4 ht
    have hS : mkS c n ⟨sl, false, kd, ar, ep, gn, ix, 0, ⟨-1, false, 2, M.f 3, hd r - 1⟩⟩ M = ⟨sl, false, kd, ar, ep, gn, ix, 1, ⟨x, false, 3, M.f 3, hd r - 1⟩⟩ := by simp [mkS, p1, p3]
    have hM : mkM c g ⟨sl, false, kd, ar, ep, gn, ix, 0, ⟨-1, false, 2, M.f 3, hd r - 1⟩⟩ M = popM c ⟨-1, false, 2, M.f 3, hd r - 1⟩ M := by simp [mkM]
    refine ⟨?_, ?_⟩
    · rw [hS, hM]; exact ⟨rfl, .inr (.inr (.inr (.inl ⟨rfl, rfl, h2, rfl, p2⟩)))⟩
    · unfold mkD; rw [hS]; show ((1 : Int) == 5) = _; rw [beq_eq_false_iff_ne.2 (show 2 + 1 ≠ 5 + n by omega)]; rfl
  · obtain rfl : nx = 1 := h1
    have ef : (M.ldS (c.header pop.sl)).f = M.f := (ld_f M _).1
    have hM : mkM c g ⟨sl, false, kd, ar, ep, gn, ix, 1, pop⟩ M = M.ldS (c.header pop.sl) := by simp [mkM]
    refine ⟨?_, ?_⟩
    · rw [hM, ef]; exact ⟨by simp [mkS], .inr (.inr (.inr (.inr (.inl ⟨0, rfl, by omega, by simp [mkS], by simpa [mkS] using h2, by simpa [mkS] using h3, h4⟩))))⟩
    · have : mkD c n ⟨sl, false, kd, ar, ep, gn, ix, 1, pop⟩ M = false := by simp [mkD, mkS]
      rw [this, beq_eq_false_iff_ne.2 (show 3 + 1 ≠ 5 + n by omega)]
  · obtain rfl : nx = 2 := h1
    obtain rfl : ix = (j : Int) := h2
    obtain rfl : pop.sl = x := h3
    have hM : mkM c g ⟨sl, false, kd, ar, ep, gn, j, 2, pop⟩ M = M.stS (c.pl pop.sl (2 + j)) (g j) := by simp [mkM, body_pl hr hx (i := (j : Int)) ⟨by omega, by omega⟩]
    have hs := (st_pl hr hn hx (o := 2 + (j : Int)) (v := g j) ⟨by omega, by omega⟩).1
    have hk := Stk.off hr h4 (v := g j) hx (o := 2 + (j : Int)) ⟨by omega, by omega⟩ (by omega)
    rw [← hs, ← hM] at hk
    by_cases e : j + 1 = n
    · have hS : mkS c n ⟨sl, false, kd, ar, ep, gn, j, 2, pop⟩ M = ⟨sl, false, kd, ar, ep, gn, (j : Int) + 1, 3, pop⟩ := by simp [mkS, show (j : Int) + 1 = (n : Int) by omega]
      refine ⟨?_, ?_⟩
      · rw [hS]; exact ⟨rfl, .inr (.inr (.inr (.inr (.inr (.inl ⟨by omega, rfl, rfl, hk⟩)))))⟩
      · unfold mkD; rw [hS]; show ((3 : Int) == 5) = _; rw [beq_eq_false_iff_ne.2 (show 4 + j + 1 ≠ 5 + n by omega)]; rfl
    · have hS : mkS c n ⟨sl, false, kd, ar, ep, gn, j, 2, pop⟩ M = ⟨sl, false, kd, ar, ep, gn, (j : Int) + 1, 2, pop⟩ := by simp [mkS, show ¬ (j : Int) + 1 = (n : Int) by omega]
      refine ⟨?_, ?_⟩
      · rw [hS]; exact ⟨rfl, .inr (.inr (.inr (.inr (.inl ⟨j + 1, by omega, by omega, rfl, by show (j : Int) + 1 = ((j + 1 : Nat) : Int); omega, rfl, hk⟩))))⟩
      · unfold mkD; rw [hS]; show ((2 : Int) == 5) = _; rw [beq_eq_false_iff_ne.2 (show 4 + j + 1 ≠ 5 + n by omega)]; rfl
  · obtain rfl : nx = 3 := h1
    obtain rfl : pop.sl = x := h3
    have hM : mkM c g ⟨sl, false, kd, ar, ep, gn, ix, 3, pop⟩ M = M.stS (c.pl pop.sl 0) (madeV kd ar gn ep).1 := by simp [mkM, header_pl hr hx]
    have hs := (st_pl hr hn hx (o := 0) (v := (madeV kd ar gn ep).1) ⟨by omega, by omega⟩).1
    have hk := Stk.off hr h4 (v := (madeV kd ar gn ep).1) hx (o := 0) ⟨by omega, by omega⟩ (by omega)
    rw [← hs, ← hM] at hk
    have hS : mkS c n ⟨sl, false, kd, ar, ep, gn, ix, 3, pop⟩ M = ⟨pop.sl, false, kd, ar, ep, gn, ix, 5, pop⟩ := by simp [mkS]
    refine ⟨?_, ?_⟩
    · rw [hS]; exact ⟨rfl, .inr (.inr (.inr (.inr (.inr (.inr ⟨by omega, rfl, rfl, hk⟩)))))⟩
    · unfold mkD; rw [hS]; show ((5 : Int) == 5) = _; rw [show (4 + n + 1 == 5 + n) = true from by simp; omega]; rfl
  · omega
end Go.Proofs.Ytijfkpoofpcacaa.ArenaL
end
