-- PRINTED BY print.sh 35421559b90ae4d0a3588c463048766b98c2df88dd9212a6774a882060cdf62d: not written by this session
import Derived.Test.YtijfkpoofpcacaaPArenaPlaysx0
import Derived.Test.YtijfkpoofpcacaaPArenaPlaysx6
namespace Go.Proofs.Ytijfkpoofpcacaa.PArenaPlays
open Go.RowKit Go.Proofs.YtijfkpoofpcacaaW.PrintWords Go.Proofs.YtijfkpoofpcacaaW.PrintLast Go.Proofs.YtijfkpoofpcacaaW.PrintMore
attribute [local go_sem] max2_int min2_int max_two min_two max_three min_three max_four min_four   -- for this text's walks alone
set_option linter.unusedVariables false
set_option linter.unusedSimpArgs false

/-! ### head_Unpack: function 86 -/
def head_Unpack.f (k : Nat) (a0 : Int) : Option (Int × Int × Bool × Int × Int × Int × Bool) := (word_Unpack.f k a0 (([3, 1, 1, 4, 7, 32, 16] : List Int))).bind fun bt227 => (if (bt227.1.length : Int) < 7 then (some (0, 0, false, 0, 0, 0, false)) else (if 0 < (bt227.1.length : Int) then (if (rd bt227.1 0) > 4 then (some (0, 0, false, 0, 0, 0, false)) else (if 4 < (bt227.1.length : Int) then (if (rd bt227.1 4) = 0 then (if 1 < (bt227.1.length : Int) then (if 2 < (bt227.1.length : Int) then (if 3 < (bt227.1.length : Int) then (if 5 < (bt227.1.length : Int) then (if 6 < (bt227.1.length : Int) then (some (wrap64 (rd bt227.1 0), wrap64 (rd bt227.1 1), ((rd bt227.1 2) == 1), wrap64 (rd bt227.1 3), wrap64 (rd bt227.1 5), wrap64 (rd bt227.1 6), true)) else (none)) else (none)) else (none)) else (none)) else (none)) else (some (0, 0, false, 0, 0, 0, false))) else (none))) else (none)))
theorem head_Unpack.mono : ∀ a0 k, LeO (head_Unpack.f k a0) (head_Unpack.f (k + 1) a0) := by
  intro a0 k
  unfold head_Unpack.f
  repeat' first
      | (with_reducible exact word_Unpack.mono _ _ _)
      | (with_reducible exact LeO.refl _)
      | (with_reducible exact LeO.none _)
      | (with_reducible refine LeO.ite ?_ ?_)
      | (with_reducible refine LeO.bind ?_ (fun _ => ?_))
      | exact word_Unpack.mono _ _ _
      | exact LeO.none _
      | refine LeO.ite ?_ ?_
      | refine LeO.bind ?_ (fun _ => ?_)
def head_Unpack.T4 : Bool × List (List Nat × List Nat) := (true, [([], []), ([0], [0]), ([1], [1]), ([2], [2]), ([], []), ([4], [4]), ([5], [5]), ([6], [6]), ([], []), ([8], [8]), ([9], [9]), ([10], [10]), ([], []), ([12], [12]), ([13], [13]), ([14], [14]), ([], []), ([16], [16]), ([17], [17]), ([18], [18]), ([], []), ([20], [20]), ([21], [21]), ([22], [22]), ([3, 7, 11, 15, 19, 23], [3, 7, 11, 15, 19, 23]), ([24, 0, 1, 2, 3, 4, 5, 6, 7, 8, 9, 10, 11, 12, 13, 14, 15, 16, 17, 18, 19, 20, 21, 22, 23, 24], [24]), ([25, 0, 1, 2, 3, 4, 5, 6, 7, 8, 9, 10, 11, 12, 13, 14, 15, 16, 17, 18, 19, 20, 21, 22, 23, 24, 25], [])])
def head_Unpack.B4 : List Nat := [0, 1, 3, 7, 0, 16, 48, 112, 0, 256, 768, 1792, 0, 4096, 12288, 28672, 0, 65536, 196608, 458752, 0, 1048576, 3145728, 7340032, 16777215, 33554431, 67108863]
theorem head_Unpack.tab4 : rtab .any (opsOf Try.f86 4) = head_Unpack.T4 := by kernel_rfl
theorem head_Unpack.bits4 : waitsOk head_Unpack.T4.2 head_Unpack.B4 = true := by kernel_rfl
set_option maxHeartbeats 8000000 in
set_option maxRecDepth 100000 in
theorem head_Unpack.calls (k : Nat) (a0 : Int) (r1 : Int) (r2 : Int) (r3 : Bool) (r4 : Int) (r5 : Int) (r6 : Int) (r7 : Bool) (w : World) (h : head_Unpack.f k a0 = some (r1, r2, r3, r4, r5, r6, r7)) :
    Calls Try.prog 86 #[.int .u64 a0] w fun e w' => e = .returned (.tuple #[.agg #[.int .i64 r1, .int .i64 r2, .bool r3, .int .i64 r4, .int .i64 r5, .int .i64 r6], .bool r7]) ∧ Below w.heap.size w w' := by
  have hu85 := Try.underlying85
  have HB := Aside0.mk (Below.refl w.heap.size w)
  have H : ((word_Unpack.f k a0 (([3, 1, 1, 4, 7, 32, 16] : List Int))).bind fun bt227 => (if (bt227.1.length : Int) < 7 then (some (0, 0, false, 0, 0, 0, false)) else (if 0 < (bt227.1.length : Int) then (if (rd bt227.1 0) > 4 then (some (0, 0, false, 0, 0, 0, false)) else (if 4 < (bt227.1.length : Int) then (if (rd bt227.1 4) = 0 then (if 1 < (bt227.1.length : Int) then (if 2 < (bt227.1.length : Int) then (if 3 < (bt227.1.length : Int) then (if 5 < (bt227.1.length : Int) then (if 6 < (bt227.1.length : Int) then (some (wrap64 (rd bt227.1 0), wrap64 (rd bt227.1 1), ((rd bt227.1 2) == 1), wrap64 (rd bt227.1 3), wrap64 (rd bt227.1 5), wrap64 (rd bt227.1 6), true)) else (none)) else (none)) else (none)) else (none)) else (none)) else (some (0, 0, false, 0, 0, 0, false))) else (none))) else (none)))) = some (r1, r2, r3, r4, r5, r6, r7) := h
  clear h
  obtain ⟨y224, hy224⟩ : ∃ y_ : List Int, y_ = (([3, 1, 1, 4, 7, 32, 16] : List Int)) := ⟨_, rfl⟩
  replace H : ((word_Unpack.f k a0 y224).bind fun bt227 => (if (bt227.1.length : Int) < 7 then (some (0, 0, false, 0, 0, 0, false)) else (if 0 < (bt227.1.length : Int) then (if (rd bt227.1 0) > 4 then (some (0, 0, false, 0, 0, 0, false)) else (if 4 < (bt227.1.length : Int) then (if (rd bt227.1 4) = 0 then (if 1 < (bt227.1.length : Int) then (if 2 < (bt227.1.length : Int) then (if 3 < (bt227.1.length : Int) then (if 5 < (bt227.1.length : Int) then (if 6 < (bt227.1.length : Int) then (some (wrap64 (rd bt227.1 0), wrap64 (rd bt227.1 1), ((rd bt227.1 2) == 1), wrap64 (rd bt227.1 3), wrap64 (rd bt227.1 5), wrap64 (rd bt227.1 6), true)) else (none)) else (none)) else (none)) else (none)) else (none)) else (some (0, 0, false, 0, 0, 0, false))) else (none))) else (none)))) = some (r1, r2, r3, r4, r5, r6, r7) := by first | (rw [hy224]; with_reducible exact H) | (have H2_ := (Option.bind_some _ _).symm.trans H; rw [hy224]; with_reducible exact H2_) | (have H2_ := (Option.bind_some _ _).symm.trans H; with_reducible exact H2_) | with_reducible exact H | (rw [hy224]; exact H) | exact H
  have Ny224 := Aside0.mk hy224
  clear hy224
  replace H := Option.bind_eq_some_iff.mp H
  obtain ⟨⟨t227, t228⟩, A20, H⟩ := H
  replace H : (if (t227.length : Int) < 7 then (some (0, 0, false, 0, 0, 0, false)) else (if 0 < (t227.length : Int) then (if (rd t227 0) > 4 then (some (0, 0, false, 0, 0, 0, false)) else (if 4 < (t227.length : Int) then (if (rd t227 4) = 0 then (if 1 < (t227.length : Int) then (if 2 < (t227.length : Int) then (if 3 < (t227.length : Int) then (if 5 < (t227.length : Int) then (if 6 < (t227.length : Int) then (some (wrap64 (rd t227 0), wrap64 (rd t227 1), ((rd t227 2) == 1), wrap64 (rd t227 3), wrap64 (rd t227 5), wrap64 (rd t227 6), true)) else (none)) else (none)) else (none)) else (none)) else (none)) else (some (0, 0, false, 0, 0, 0, false))) else (none))) else (none))) = some (r1, r2, r3, r4, r5, r6, r7) := H
  have A2 := Aside0.mk A20
  clear A20
  by_cases c3 : (t227.length : Int) < 7
  · rw [if_pos c3] at H
    have c3b0 : decide ((t227.length : Int) < 7) = true := decide_eq_true c3
    have c3b1 : decide (t227.length < 7) = true := decide_eq_true (by omega)
    clear c3
    simp only [Option.some.injEq, Prod.mk.injEq] at H
    obtain ⟨rfl, rfl, rfl, rfl, rfl, rfl, rfl⟩ := H
    go_enter Try.func86, Try.ntmps86
    go_wp2_with (first | ((with_reducible refine gate_dst (N := 2) rfl ?_); refine box_event ?hg (N := 2) ?hd (cs := #[.int .i64 0, .int .i64 0, .bool false, .int .i64 0, .int .i64 0, .int .i64 0]) (t := 85) ?hr ?_; (case hd => rfl); (case hg => rfl); (case hr => first | (go_simp; done) | (go_simp; rfl)); intro gb223 hg w4 hbox hb; have n0_ := Aside0.mk (below_step (by repeat (first | (with_reducible first | exact HB.out | apply below_alloc | apply pw_below_drewN | apply below_drew1) | exact HB.out)) hb); have n1_ := Aside0.mk (hbox); have n2_ := Aside0.mk ((by rw [hg]; exact (below_size (by repeat (first | (with_reducible first | exact HB.out | apply below_alloc | apply pw_below_drewN | apply below_drew1) | exact HB.out))) : w.heap.size ≤ gb223)); have n3_ := Aside0.mk ((by rw [hg]; exact (below_size (by repeat (first | (with_reducible first | exact HB.out | apply below_alloc | apply pw_below_drewN | apply below_drew1) | exact HB.out))) : w.heap.size ≤ gb223)); clear HB; have HB := n0_; have BK223 := n1_; have GW223 := n2_; have GE223 := n3_; clear n0_ n1_ n2_ n3_; clear hb hbox hg) | ((with_reducible refine gate_dst (N := 8) rfl ?_); refine Kd.R_lit (Kd.int .i64) _ 3 ?hg (N := 8) ?hd (xs := ([3, 1, 1, 4, 7, 32, 16] : List Int)) (inner := [.int .i64 3, .int .i64 1, .int .i64 1, .int .i64 4, .int .i64 7, .int .i64 32, .int .i64 16]) (ok := fun _ => True) (okp := fun _ => True) ?hr ?hp (fun _ hk => hk) trivial (Below.refl _ _) (Nat.le_refl _) (by simp) ?_; (case hd => rfl); (case hg => rfl); (case hr => first | (go_simp; done) | (go_simp; rfl)); (case hp => exact (Reps.one (show Kd.M (Kd.int .i64) _ _ _ 3 [.int .i64 3] from rfl) (Reps.one (show Kd.M (Kd.int .i64) _ _ _ 1 [.int .i64 1] from rfl) (Reps.one (show Kd.M (Kd.int .i64) _ _ _ 1 [.int .i64 1] from rfl) (Reps.one (show Kd.M (Kd.int .i64) _ _ _ 4 [.int .i64 4] from rfl) (Reps.one (show Kd.M (Kd.int .i64) _ _ _ 7 [.int .i64 7] from rfl) (Reps.one (show Kd.M (Kd.int .i64) _ _ _ 32 [.int .i64 32] from rfl) (Reps.one (show Kd.M (Kd.int .i64) _ _ _ 16 [.int .i64 16] from rfl) (Reps.none _ _))))))))); intro v225 w5 ho6 hb hg_ hnew_; clear hg_ hnew_; (first | rw [← Ny224.out] at ho6 | (simp only [Int.reduceToNat] at ho6; rw [← Ny224.out] at ho6)); have n0_ := Aside0.mk (Kd.R_lower ho6 (below_size (by repeat (first | (with_reducible first | exact HB.out | apply below_alloc | apply pw_below_drewN | apply below_drew1 | refine below_set ?_ GE223.out) | exact HB.out)))); have n1_ := Aside0.mk (blk_below (g := gb223) (o := .cells #[.int .i64 0, .int .i64 0, .bool false, .int .i64 0, .int .i64 0, .int .i64 0] 85 (0, 0)) (by (with_reducible repeat (first | refine blk_drewN ?_ _ | refine blk_drew ?_ | refine blk_alloc ?_ _)); exact BK223.out) hb); have n2_ := Aside0.mk (below_step (by repeat (first | (with_reducible first | exact HB.out | apply below_alloc | apply pw_below_drewN | apply below_drew1 | refine below_set ?_ GE223.out) | exact HB.out)) hb); clear BK223; clear HB; have HO226 := n0_; have BK223 := n1_; have HB := n2_; clear n0_ n1_ n2_; clear hb ho6; obtain ⟨Ao7, co7, eo7⟩ := Kd.R_slice HO226.out; subst eo7) | ((with_reducible refine gate_callee (f := 99) rfl ?_); refine goesL_ (some 9) rfl rfl Try.func99 (by kernel_rfl) rfl #[.int .u64 a0, .slice Ao7 y224.length co7] rfl (by (try simp only [List.map_toArray, List.map_cons, List.map_nil]); first | done | rfl | (simp only [List.length_drop, List.length_take]; rfl)) ?_; (with_reducible refine (word_Unpack.calls k a0 _ _ y224 t227 t228 _ ?side1 ?side2 A2.out).mono ?_); (case side1 => repeat (first | exact (Kd.R_reads' HO226.out).2.2 | (with_reducible refine Kd.C_alloc ?_ _) | (with_reducible refine Kd.C_drewN ?_ _) | (with_reducible refine Kd.C_drew ?_))); (case side2 => exact (Kd.R_reads' HO226.out).2.1); rintro e w8 ⟨v229, rfl, ho0, hb⟩; refine ⟨_, rfl, ?_⟩; have n0_ := Aside0.mk (Kd.R_below (by (with_reducible repeat (first | apply Kd.R_alloc | apply Kd.R_drewN | apply Kd.R_drew)); exact HO226.out) hb); have n1_ := Aside0.mk (Kd.R_lower ho0 (below_size (by repeat (first | (with_reducible first | exact HB.out | apply below_alloc | apply pw_below_drewN | apply below_drew1 | refine below_set ?_ GE223.out) | exact HB.out)))); have n2_ := Aside0.mk (blk_below (g := gb223) (o := .cells #[.int .i64 0, .int .i64 0, .bool false, .int .i64 0, .int .i64 0, .int .i64 0] 85 (0, 0)) (by (with_reducible repeat (first | refine blk_drewN ?_ _ | refine blk_drew ?_ | refine blk_alloc ?_ _)); exact BK223.out) hb); have n3_ := Aside0.mk (below_step (by repeat (first | (with_reducible first | exact HB.out | apply below_alloc | apply pw_below_drewN | apply below_drew1 | refine below_set ?_ GE223.out) | exact HB.out)) hb); clear HO226; clear BK223; clear HB; have HO226 := n0_; have HO230 := n1_; have BK223 := n2_; have HB := n3_; clear n0_ n1_ n2_ n3_; (try clear hb); (try clear hb2); (try clear hk); (try clear hi); (try clear ho0); obtain ⟨Ao9, co9, eo9⟩ := Kd.R_slice HO230.out; subst eo9; have hcz10_0 : w8.cell? ⟨gb223, 0, none⟩ = some (.int .i64 0) := (blk_cell BK223.out 0).trans rfl; have hcz10_1 : w8.cell? ⟨gb223, 1, none⟩ = some (.int .i64 0) := (blk_cell BK223.out 1).trans rfl; have hcz10_2 : w8.cell? ⟨gb223, 2, none⟩ = some (.bool false) := (blk_cell BK223.out 2).trans rfl; have hcz10_3 : w8.cell? ⟨gb223, 3, none⟩ = some (.int .i64 0) := (blk_cell BK223.out 3).trans rfl; have hcz10_4 : w8.cell? ⟨gb223, 4, none⟩ = some (.int .i64 0) := (blk_cell BK223.out 4).trans rfl; have hcz10_5 : w8.cell? ⟨gb223, 5, none⟩ = some (.int .i64 0) := (blk_cell BK223.out 5).trans rfl; have hfz10_0 := blk_frozen BK223.out 0; have hfz10_1 := blk_frozen BK223.out 1; have hfz10_2 := blk_frozen BK223.out 2; have hfz10_3 := blk_frozen BK223.out 3; have hfz10_4 := blk_frozen BK223.out 4; have hfz10_5 := blk_frozen BK223.out 5))
    refine bodyPost_ret (results_ct rfl _ _ gb223 85 #[.int .i64 0, .int .i64 0, .bool false, .int .i64 0, .int .i64 0, .int .i64 0] (0, 0) _ rfl (by (with_reducible repeat (first | refine blk_drewN ?_ _ | refine blk_drew ?_ | refine blk_alloc ?_ _)); refine blk_put (cs := #[.int .i64 0, .int .i64 0, .bool false, .int .i64 0, .int .i64 0, .int .i64 0]) ?_ 5 _ rfl; (with_reducible repeat (first | refine blk_drewN ?_ _ | refine blk_drew ?_ | refine blk_alloc ?_ _)); refine blk_put (cs := #[.int .i64 0, .int .i64 0, .bool false, .int .i64 0, .int .i64 0, .int .i64 0]) ?_ 4 _ rfl; (with_reducible repeat (first | refine blk_drewN ?_ _ | refine blk_drew ?_ | refine blk_alloc ?_ _)); refine blk_put (cs := #[.int .i64 0, .int .i64 0, .bool false, .int .i64 0, .int .i64 0, .int .i64 0]) ?_ 3 _ rfl; (with_reducible repeat (first | refine blk_drewN ?_ _ | refine blk_drew ?_ | refine blk_alloc ?_ _)); refine blk_put (cs := #[.int .i64 0, .int .i64 0, .bool false, .int .i64 0, .int .i64 0, .int .i64 0]) ?_ 2 _ rfl; (with_reducible repeat (first | refine blk_drewN ?_ _ | refine blk_drew ?_ | refine blk_alloc ?_ _)); refine blk_put (cs := #[.int .i64 0, .int .i64 0, .bool false, .int .i64 0, .int .i64 0, .int .i64 0]) ?_ 1 _ rfl; (with_reducible repeat (first | refine blk_drewN ?_ _ | refine blk_drew ?_ | refine blk_alloc ?_ _)); refine blk_put (cs := #[.int .i64 0, .int .i64 0, .bool false, .int .i64 0, .int .i64 0, .int .i64 0]) ?_ 0 _ rfl; (with_reducible repeat (first | refine blk_drewN ?_ _ | refine blk_drew ?_ | refine blk_alloc ?_ _)); exact BK223.out) Try.underlying85 rfl (by kernel_rfl)) rfl ?_
    exact ⟨by first | rfl | (simp [errW_none, errW_some] <;> rfl) | (simp [*, errW_none, errW_some] <;> rfl), by repeat (first | (with_reducible first | exact HB.out | apply below_alloc | apply pw_below_drewN | apply below_drew1 | refine below_set ?_ GE223.out) | exact HB.out)⟩
  · rw [if_neg c3] at H
    have c3b0 : decide ((t227.length : Int) < 7) = false := decide_eq_false c3
    have c3b1 : decide (t227.length < 7) = false := decide_eq_false (by omega)
    clear c3
    by_cases c11 : 0 < (t227.length : Int)
    · rw [if_pos c11] at H
      have c11b0 : decide (0 < (t227.length : Int)) = true := decide_eq_true c11
      have c11b1 : decide (0 < t227.length) = true := decide_eq_true (by omega)
      clear c11
      by_cases c12 : (rd t227 0) > 4
      · rw [if_pos c12] at H
        have c12b0 : decide (4 < (rd t227 0)) = true := decide_eq_true c12
        clear c12
        simp only [Option.some.injEq, Prod.mk.injEq] at H
        obtain ⟨rfl, rfl, rfl, rfl, rfl, rfl, rfl⟩ := H
        go_enter Try.func86, Try.ntmps86
        go_wp2_with (first | ((with_reducible refine gate_dst (N := 2) rfl ?_); refine box_event ?hg (N := 2) ?hd (cs := #[.int .i64 0, .int .i64 0, .bool false, .int .i64 0, .int .i64 0, .int .i64 0]) (t := 85) ?hr ?_; (case hd => rfl); (case hg => rfl); (case hr => first | (go_simp; done) | (go_simp; rfl)); intro gb223 hg w13 hbox hb; have n0_ := Aside0.mk (below_step (by repeat (first | (with_reducible first | exact HB.out | apply below_alloc | apply pw_below_drewN | apply below_drew1) | exact HB.out)) hb); have n1_ := Aside0.mk (hbox); have n2_ := Aside0.mk ((by rw [hg]; exact (below_size (by repeat (first | (with_reducible first | exact HB.out | apply below_alloc | apply pw_below_drewN | apply below_drew1) | exact HB.out))) : w.heap.size ≤ gb223)); have n3_ := Aside0.mk ((by rw [hg]; exact (below_size (by repeat (first | (with_reducible first | exact HB.out | apply below_alloc | apply pw_below_drewN | apply below_drew1) | exact HB.out))) : w.heap.size ≤ gb223)); clear HB; have HB := n0_; have BK223 := n1_; have GW223 := n2_; have GE223 := n3_; clear n0_ n1_ n2_ n3_; clear hb hbox hg) | ((with_reducible refine gate_dst (N := 8) rfl ?_); refine Kd.R_lit (Kd.int .i64) _ 3 ?hg (N := 8) ?hd (xs := ([3, 1, 1, 4, 7, 32, 16] : List Int)) (inner := [.int .i64 3, .int .i64 1, .int .i64 1, .int .i64 4, .int .i64 7, .int .i64 32, .int .i64 16]) (ok := fun _ => True) (okp := fun _ => True) ?hr ?hp (fun _ hk => hk) trivial (Below.refl _ _) (Nat.le_refl _) (by simp) ?_; (case hd => rfl); (case hg => rfl); (case hr => first | (go_simp; done) | (go_simp; rfl)); (case hp => exact (Reps.one (show Kd.M (Kd.int .i64) _ _ _ 3 [.int .i64 3] from rfl) (Reps.one (show Kd.M (Kd.int .i64) _ _ _ 1 [.int .i64 1] from rfl) (Reps.one (show Kd.M (Kd.int .i64) _ _ _ 1 [.int .i64 1] from rfl) (Reps.one (show Kd.M (Kd.int .i64) _ _ _ 4 [.int .i64 4] from rfl) (Reps.one (show Kd.M (Kd.int .i64) _ _ _ 7 [.int .i64 7] from rfl) (Reps.one (show Kd.M (Kd.int .i64) _ _ _ 32 [.int .i64 32] from rfl) (Reps.one (show Kd.M (Kd.int .i64) _ _ _ 16 [.int .i64 16] from rfl) (Reps.none _ _))))))))); intro v225 w14 ho15 hb hg_ hnew_; clear hg_ hnew_; (first | rw [← Ny224.out] at ho15 | (simp only [Int.reduceToNat] at ho15; rw [← Ny224.out] at ho15)); have n0_ := Aside0.mk (Kd.R_lower ho15 (below_size (by repeat (first | (with_reducible first | exact HB.out | apply below_alloc | apply pw_below_drewN | apply below_drew1 | refine below_set ?_ GE223.out) | exact HB.out)))); have n1_ := Aside0.mk (blk_below (g := gb223) (o := .cells #[.int .i64 0, .int .i64 0, .bool false, .int .i64 0, .int .i64 0, .int .i64 0] 85 (0, 0)) (by (with_reducible repeat (first | refine blk_drewN ?_ _ | refine blk_drew ?_ | refine blk_alloc ?_ _)); exact BK223.out) hb); have n2_ := Aside0.mk (below_step (by repeat (first | (with_reducible first | exact HB.out | apply below_alloc | apply pw_below_drewN | apply below_drew1 | refine below_set ?_ GE223.out) | exact HB.out)) hb); clear BK223; clear HB; have HO226 := n0_; have BK223 := n1_; have HB := n2_; clear n0_ n1_ n2_; clear hb ho15; obtain ⟨Ao16, co16, eo16⟩ := Kd.R_slice HO226.out; subst eo16) | ((with_reducible refine gate_callee (f := 99) rfl ?_); refine goesL_ (some 9) rfl rfl Try.func99 (by kernel_rfl) rfl #[.int .u64 a0, .slice Ao16 y224.length co16] rfl (by (try simp only [List.map_toArray, List.map_cons, List.map_nil]); first | done | rfl | (simp only [List.length_drop, List.length_take]; rfl)) ?_; (with_reducible refine (word_Unpack.calls k a0 _ _ y224 t227 t228 _ ?side1 ?side2 A2.out).mono ?_); (case side1 => repeat (first | exact (Kd.R_reads' HO226.out).2.2 | (with_reducible refine Kd.C_alloc ?_ _) | (with_reducible refine Kd.C_drewN ?_ _) | (with_reducible refine Kd.C_drew ?_))); (case side2 => exact (Kd.R_reads' HO226.out).2.1); rintro e w17 ⟨v229, rfl, ho0, hb⟩; refine ⟨_, rfl, ?_⟩; have n0_ := Aside0.mk (Kd.R_below (by (with_reducible repeat (first | apply Kd.R_alloc | apply Kd.R_drewN | apply Kd.R_drew)); exact HO226.out) hb); have n1_ := Aside0.mk (Kd.R_lower ho0 (below_size (by repeat (first | (with_reducible first | exact HB.out | apply below_alloc | apply pw_below_drewN | apply below_drew1 | refine below_set ?_ GE223.out) | exact HB.out)))); have n2_ := Aside0.mk (blk_below (g := gb223) (o := .cells #[.int .i64 0, .int .i64 0, .bool false, .int .i64 0, .int .i64 0, .int .i64 0] 85 (0, 0)) (by (with_reducible repeat (first | refine blk_drewN ?_ _ | refine blk_drew ?_ | refine blk_alloc ?_ _)); exact BK223.out) hb); have n3_ := Aside0.mk (below_step (by repeat (first | (with_reducible first | exact HB.out | apply below_alloc | apply pw_below_drewN | apply below_drew1 | refine below_set ?_ GE223.out) | exact HB.out)) hb); clear HO226; clear BK223; clear HB; have HO226 := n0_; have HO230 := n1_; have BK223 := n2_; have HB := n3_; clear n0_ n1_ n2_ n3_; (try clear hb); (try clear hb2); (try clear hk); (try clear hi); (try clear ho0); obtain ⟨Ao18, co18, eo18⟩ := Kd.R_slice HO230.out; subst eo18; have p231 : 0 ≤ (0 : Int) := (by omega); have q231 : 0 < (t227.length : Int) := of_decide_eq_true (by first | (with_reducible assumption) | assumption); obtain ⟨ad231, e231, hx231_0⟩ := Kd.at_int (Kd.R_reads' HO230.out).2.2 0 p231 q231; cases e231; have qi231 : (0 < t227.length) = True := eq_true (by omega); (try rw [show ((0 : Int)).toNat = 0 from rfl] at hx231_0); (try rw [Addr.add_zero'] at hx231_0); replace p231 := eq_true p231; replace q231 := eq_true q231; have hcz19_0 : w17.cell? ⟨gb223, 0, none⟩ = some (.int .i64 0) := (blk_cell BK223.out 0).trans rfl; have hcz19_1 : w17.cell? ⟨gb223, 1, none⟩ = some (.int .i64 0) := (blk_cell BK223.out 1).trans rfl; have hcz19_2 : w17.cell? ⟨gb223, 2, none⟩ = some (.bool false) := (blk_cell BK223.out 2).trans rfl; have hcz19_3 : w17.cell? ⟨gb223, 3, none⟩ = some (.int .i64 0) := (blk_cell BK223.out 3).trans rfl; have hcz19_4 : w17.cell? ⟨gb223, 4, none⟩ = some (.int .i64 0) := (blk_cell BK223.out 4).trans rfl; have hcz19_5 : w17.cell? ⟨gb223, 5, none⟩ = some (.int .i64 0) := (blk_cell BK223.out 5).trans rfl; have hfz19_0 := blk_frozen BK223.out 0; have hfz19_1 := blk_frozen BK223.out 1; have hfz19_2 := blk_frozen BK223.out 2; have hfz19_3 := blk_frozen BK223.out 3; have hfz19_4 := blk_frozen BK223.out 4; have hfz19_5 := blk_frozen BK223.out 5))
        refine bodyPost_ret (results_ct rfl _ _ gb223 85 #[.int .i64 0, .int .i64 0, .bool false, .int .i64 0, .int .i64 0, .int .i64 0] (0, 0) _ rfl (by (with_reducible repeat (first | refine blk_drewN ?_ _ | refine blk_drew ?_ | refine blk_alloc ?_ _)); refine blk_put (cs := #[.int .i64 0, .int .i64 0, .bool false, .int .i64 0, .int .i64 0, .int .i64 0]) ?_ 5 _ rfl; (with_reducible repeat (first | refine blk_drewN ?_ _ | refine blk_drew ?_ | refine blk_alloc ?_ _)); refine blk_put (cs := #[.int .i64 0, .int .i64 0, .bool false, .int .i64 0, .int .i64 0, .int .i64 0]) ?_ 4 _ rfl; (with_reducible repeat (first | refine blk_drewN ?_ _ | refine blk_drew ?_ | refine blk_alloc ?_ _)); refine blk_put (cs := #[.int .i64 0, .int .i64 0, .bool false, .int .i64 0, .int .i64 0, .int .i64 0]) ?_ 3 _ rfl; (with_reducible repeat (first | refine blk_drewN ?_ _ | refine blk_drew ?_ | refine blk_alloc ?_ _)); refine blk_put (cs := #[.int .i64 0, .int .i64 0, .bool false, .int .i64 0, .int .i64 0, .int .i64 0]) ?_ 2 _ rfl; (with_reducible repeat (first | refine blk_drewN ?_ _ | refine blk_drew ?_ | refine blk_alloc ?_ _)); refine blk_put (cs := #[.int .i64 0, .int .i64 0, .bool false, .int .i64 0, .int .i64 0, .int .i64 0]) ?_ 1 _ rfl; (with_reducible repeat (first | refine blk_drewN ?_ _ | refine blk_drew ?_ | refine blk_alloc ?_ _)); refine blk_put (cs := #[.int .i64 0, .int .i64 0, .bool false, .int .i64 0, .int .i64 0, .int .i64 0]) ?_ 0 _ rfl; (with_reducible repeat (first | refine blk_drewN ?_ _ | refine blk_drew ?_ | refine blk_alloc ?_ _)); exact BK223.out) Try.underlying85 rfl (by kernel_rfl)) rfl ?_
        exact ⟨by first | rfl | (simp [errW_none, errW_some] <;> rfl) | (simp [*, errW_none, errW_some] <;> rfl), by repeat (first | (with_reducible first | exact HB.out | apply below_alloc | apply pw_below_drewN | apply below_drew1 | refine below_set ?_ GE223.out) | exact HB.out)⟩
      · rw [if_neg c12] at H
        have c12b0 : decide (4 < (rd t227 0)) = false := decide_eq_false c12
        clear c12
        by_cases c20 : 4 < (t227.length : Int)
        · rw [if_pos c20] at H
          have c20b0 : decide (4 < (t227.length : Int)) = true := decide_eq_true c20
          have c20b1 : decide (4 < t227.length) = true := decide_eq_true (by omega)
          clear c20
          by_cases c21 : (rd t227 4) = 0
          · rw [if_pos c21] at H
            have c21b0 : ((rd t227 4) == 0) = true := beq_iff_eq.mpr c21
            have c21b1 : ((rd t227 4) != 0) = false := bne_eq_false_iff_eq.mpr c21
            clear c21
            by_cases c22 : 1 < (t227.length : Int)
            · rw [if_pos c22] at H
              have c22b0 : decide (1 < (t227.length : Int)) = true := decide_eq_true c22
              have c22b1 : decide (1 < t227.length) = true := decide_eq_true (by omega)
              clear c22
              by_cases c23 : 2 < (t227.length : Int)
              · rw [if_pos c23] at H
                have c23b0 : decide (2 < (t227.length : Int)) = true := decide_eq_true c23
                have c23b1 : decide (2 < t227.length) = true := decide_eq_true (by omega)
                clear c23
                by_cases c24 : 3 < (t227.length : Int)
                · rw [if_pos c24] at H
                  have c24b0 : decide (3 < (t227.length : Int)) = true := decide_eq_true c24
                  have c24b1 : decide (3 < t227.length) = true := decide_eq_true (by omega)
                  clear c24
                  by_cases c25 : 5 < (t227.length : Int)
                  · rw [if_pos c25] at H
                    have c25b0 : decide (5 < (t227.length : Int)) = true := decide_eq_true c25
                    have c25b1 : decide (5 < t227.length) = true := decide_eq_true (by omega)
                    clear c25
                    by_cases c26 : 6 < (t227.length : Int)
                    · rw [if_pos c26] at H
                      have c26b0 : decide (6 < (t227.length : Int)) = true := decide_eq_true c26
                      have c26b1 : decide (6 < t227.length) = true := decide_eq_true (by omega)
                      clear c26
                      simp only [Option.some.injEq, Prod.mk.injEq] at H
                      obtain ⟨rfl, rfl, rfl, rfl, rfl, rfl, rfl⟩ := H
                      go_enter Try.func86, Try.ntmps86
                      try go_wp2_with (first | ((with_reducible refine gate_dst (N := 2) rfl ?_); refine box_event ?hg (N := 2) ?hd (cs := #[.int .i64 0, .int .i64 0, .bool false, .int .i64 0, .int .i64 0, .int .i64 0]) (t := 85) ?hr ?_; (case hd => rfl); (case hg => rfl); (case hr => first | (go_simp; done) | (go_simp; rfl)); intro gb223 hg w27 hbox hb; have n0_ := Aside0.mk (below_step (by repeat (first | (with_reducible first | exact HB.out | apply below_alloc | apply pw_below_drewN | apply below_drew1) | exact HB.out)) hb); have n1_ := Aside0.mk (hbox); have n2_ := Aside0.mk ((by rw [hg]; exact (below_size (by repeat (first | (with_reducible first | exact HB.out | apply below_alloc | apply pw_below_drewN | apply below_drew1) | exact HB.out))) : w.heap.size ≤ gb223)); have n3_ := Aside0.mk ((by rw [hg]; exact (below_size (by repeat (first | (with_reducible first | exact HB.out | apply below_alloc | apply pw_below_drewN | apply below_drew1) | exact HB.out))) : w.heap.size ≤ gb223)); clear HB; have HB := n0_; have BK223 := n1_; have GW223 := n2_; have GE223 := n3_; clear n0_ n1_ n2_ n3_; clear hb hbox hg) | ((with_reducible refine gate_dst (N := 8) rfl ?_); refine Kd.R_lit (Kd.int .i64) _ 3 ?hg (N := 8) ?hd (xs := ([3, 1, 1, 4, 7, 32, 16] : List Int)) (inner := [.int .i64 3, .int .i64 1, .int .i64 1, .int .i64 4, .int .i64 7, .int .i64 32, .int .i64 16]) (ok := fun _ => True) (okp := fun _ => True) ?hr ?hp (fun _ hk => hk) trivial (Below.refl _ _) (Nat.le_refl _) (by simp) ?_; (case hd => rfl); (case hg => rfl); (case hr => first | (go_simp; done) | (go_simp; rfl)); (case hp => exact (Reps.one (show Kd.M (Kd.int .i64) _ _ _ 3 [.int .i64 3] from rfl) (Reps.one (show Kd.M (Kd.int .i64) _ _ _ 1 [.int .i64 1] from rfl) (Reps.one (show Kd.M (Kd.int .i64) _ _ _ 1 [.int .i64 1] from rfl) (Reps.one (show Kd.M (Kd.int .i64) _ _ _ 4 [.int .i64 4] from rfl) (Reps.one (show Kd.M (Kd.int .i64) _ _ _ 7 [.int .i64 7] from rfl) (Reps.one (show Kd.M (Kd.int .i64) _ _ _ 32 [.int .i64 32] from rfl) (Reps.one (show Kd.M (Kd.int .i64) _ _ _ 16 [.int .i64 16] from rfl) (Reps.none _ _))))))))); intro v225 w28 ho29 hb hg_ hnew_; clear hg_ hnew_; (first | rw [← Ny224.out] at ho29 | (simp only [Int.reduceToNat] at ho29; rw [← Ny224.out] at ho29)); have n0_ := Aside0.mk (Kd.R_lower ho29 (below_size (by repeat (first | (with_reducible first | exact HB.out | apply below_alloc | apply pw_below_drewN | apply below_drew1 | refine below_set ?_ GE223.out) | exact HB.out)))); have n1_ := Aside0.mk (blk_below (g := gb223) (o := .cells #[.int .i64 0, .int .i64 0, .bool false, .int .i64 0, .int .i64 0, .int .i64 0] 85 (0, 0)) (by (with_reducible repeat (first | refine blk_drewN ?_ _ | refine blk_drew ?_ | refine blk_alloc ?_ _)); exact BK223.out) hb); have n2_ := Aside0.mk (below_step (by repeat (first | (with_reducible first | exact HB.out | apply below_alloc | apply pw_below_drewN | apply below_drew1 | refine below_set ?_ GE223.out) | exact HB.out)) hb); clear BK223; clear HB; have HO226 := n0_; have BK223 := n1_; have HB := n2_; clear n0_ n1_ n2_; clear hb ho29; obtain ⟨Ao30, co30, eo30⟩ := Kd.R_slice HO226.out; subst eo30) | ((with_reducible refine gate_callee (f := 99) rfl ?_); refine goesL_ (some 9) rfl rfl Try.func99 (by kernel_rfl) rfl #[.int .u64 a0, .slice Ao30 y224.length co30] rfl (by (try simp only [List.map_toArray, List.map_cons, List.map_nil]); first | done | rfl | (simp only [List.length_drop, List.length_take]; rfl)) ?_; (with_reducible refine (word_Unpack.calls k a0 _ _ y224 t227 t228 _ ?side1 ?side2 A2.out).mono ?_); (case side1 => repeat (first | exact (Kd.R_reads' HO226.out).2.2 | (with_reducible refine Kd.C_alloc ?_ _) | (with_reducible refine Kd.C_drewN ?_ _) | (with_reducible refine Kd.C_drew ?_))); (case side2 => exact (Kd.R_reads' HO226.out).2.1); rintro e w31 ⟨v229, rfl, ho0, hb⟩; refine ⟨_, rfl, ?_⟩; have n0_ := Aside0.mk (Kd.R_below (by (with_reducible repeat (first | apply Kd.R_alloc | apply Kd.R_drewN | apply Kd.R_drew)); exact HO226.out) hb); have n1_ := Aside0.mk (Kd.R_lower ho0 (below_size (by repeat (first | (with_reducible first | exact HB.out | apply below_alloc | apply pw_below_drewN | apply below_drew1 | refine below_set ?_ GE223.out) | exact HB.out)))); have n2_ := Aside0.mk (blk_below (g := gb223) (o := .cells #[.int .i64 0, .int .i64 0, .bool false, .int .i64 0, .int .i64 0, .int .i64 0] 85 (0, 0)) (by (with_reducible repeat (first | refine blk_drewN ?_ _ | refine blk_drew ?_ | refine blk_alloc ?_ _)); exact BK223.out) hb); have n3_ := Aside0.mk (below_step (by repeat (first | (with_reducible first | exact HB.out | apply below_alloc | apply pw_below_drewN | apply below_drew1 | refine below_set ?_ GE223.out) | exact HB.out)) hb); clear HO226; clear BK223; clear HB; have HO226 := n0_; have HO230 := n1_; have BK223 := n2_; have HB := n3_; clear n0_ n1_ n2_ n3_; (try clear hb); (try clear hb2); (try clear hk); (try clear hi); (try clear ho0); obtain ⟨Ao32, co32, eo32⟩ := Kd.R_slice HO230.out; subst eo32; have p231 : 0 ≤ (0 : Int) := (by omega); have q231 : 0 < (t227.length : Int) := of_decide_eq_true (by first | (with_reducible assumption) | assumption); obtain ⟨ad231, e231, hx231_0⟩ := Kd.at_int (Kd.R_reads' HO230.out).2.2 0 p231 q231; cases e231; have qi231 : (0 < t227.length) = True := eq_true (by omega); (try rw [show ((0 : Int)).toNat = 0 from rfl] at hx231_0); (try rw [Addr.add_zero'] at hx231_0); replace p231 := eq_true p231; replace q231 := eq_true q231; have p232 : 0 ≤ (4 : Int) := (by omega); have q232 : 4 < (t227.length : Int) := of_decide_eq_true (by first | (with_reducible assumption) | assumption); obtain ⟨ad232, e232, hx232_0⟩ := Kd.at_int (Kd.R_reads' HO230.out).2.2 4 p232 q232; obtain rfl : ad231 = ad232 := (by injection e232); (try simp only [show (4 : Int).toNat = 4 from rfl, Nat.reduceMul, Nat.reduceEqDiff, Go.Addr.add, ↓reduceIte] at hx232_0); have qi232 : (4 < t227.length) = True := eq_true (by omega); (try rw [show ((4 : Int)).toNat = 4 from rfl] at hx232_0); replace p232 := eq_true p232; replace q232 := eq_true q232))
                      have n0_ := Aside0.mk (Kd.R_drew HO226.out)
                      have n1_ := Aside0.mk (Kd.R_drew HO230.out)
                      have n2_ := Aside0.mk (blk_drew BK223.out)
                      have n3_ := Aside0.mk (below_drew1 HB.out)
                      clear HO226
                      clear HO230
                      clear BK223
                      clear HB
                      have HO226 := n0_
                      have HO230 := n1_
                      have BK223 := n2_
                      have HB := n3_
                      clear n0_ n1_ n2_ n3_
                      have p233 : 0 ≤ (0 : Int) := (by omega)
                      have q233 : 0 < (t227.length : Int) := of_decide_eq_true (by first | (with_reducible assumption) | assumption)
                      obtain ⟨ad233, e233, hx233_0⟩ := Kd.at_int (Kd.R_reads' HO230.out).2.2 0 p233 q233
                      obtain rfl : ad231 = ad233 := (by injection e233)
                      have qi233 : (0 < t227.length) = True := eq_true (by omega)
                      (try rw [show ((0 : Int)).toNat = 0 from rfl] at hx233_0)
                      (try rw [Addr.add_zero'] at hx233_0)
                      replace p233 := eq_true p233
                      replace q233 := eq_true q233
                      have p234 : 0 ≤ (1 : Int) := (by omega)
                      have q234 : 1 < (t227.length : Int) := of_decide_eq_true (by first | (with_reducible assumption) | assumption)
                      obtain ⟨ad234, e234, hx234_0⟩ := Kd.at_int (Kd.R_reads' HO230.out).2.2 1 p234 q234
                      obtain rfl : ad231 = ad234 := (by injection e234)
                      (try simp only [show (1 : Int).toNat = 1 from rfl, Nat.reduceMul, Nat.reduceEqDiff, Go.Addr.add, ↓reduceIte] at hx234_0)
                      have qi234 : (1 < t227.length) = True := eq_true (by omega)
                      (try rw [show ((1 : Int)).toNat = 1 from rfl] at hx234_0)
                      replace p234 := eq_true p234
                      replace q234 := eq_true q234
                      have p235 : 0 ≤ (2 : Int) := (by omega)
                      have q235 : 2 < (t227.length : Int) := of_decide_eq_true (by first | (with_reducible assumption) | assumption)
                      obtain ⟨ad235, e235, hx235_0⟩ := Kd.at_int (Kd.R_reads' HO230.out).2.2 2 p235 q235
                      obtain rfl : ad231 = ad235 := (by injection e235)
                      (try simp only [show (2 : Int).toNat = 2 from rfl, Nat.reduceMul, Nat.reduceEqDiff, Go.Addr.add, ↓reduceIte] at hx235_0)
                      have qi235 : (2 < t227.length) = True := eq_true (by omega)
                      (try rw [show ((2 : Int)).toNat = 2 from rfl] at hx235_0)
                      replace p235 := eq_true p235
                      replace q235 := eq_true q235
                      have p236 : 0 ≤ (3 : Int) := (by omega)
                      have q236 : 3 < (t227.length : Int) := of_decide_eq_true (by first | (with_reducible assumption) | assumption)
                      obtain ⟨ad236, e236, hx236_0⟩ := Kd.at_int (Kd.R_reads' HO230.out).2.2 3 p236 q236
                      obtain rfl : ad231 = ad236 := (by injection e236)
                      (try simp only [show (3 : Int).toNat = 3 from rfl, Nat.reduceMul, Nat.reduceEqDiff, Go.Addr.add, ↓reduceIte] at hx236_0)
                      have qi236 : (3 < t227.length) = True := eq_true (by omega)
                      (try rw [show ((3 : Int)).toNat = 3 from rfl] at hx236_0)
                      replace p236 := eq_true p236
                      replace q236 := eq_true q236
                      have p237 : 0 ≤ (5 : Int) := (by omega)
                      have q237 : 5 < (t227.length : Int) := of_decide_eq_true (by first | (with_reducible assumption) | assumption)
                      obtain ⟨ad237, e237, hx237_0⟩ := Kd.at_int (Kd.R_reads' HO230.out).2.2 5 p237 q237
                      obtain rfl : ad231 = ad237 := (by injection e237)
                      (try simp only [show (5 : Int).toNat = 5 from rfl, Nat.reduceMul, Nat.reduceEqDiff, Go.Addr.add, ↓reduceIte] at hx237_0)
                      have qi237 : (5 < t227.length) = True := eq_true (by omega)
                      (try rw [show ((5 : Int)).toNat = 5 from rfl] at hx237_0)
                      replace p237 := eq_true p237
                      replace q237 := eq_true q237
                      have p238 : 0 ≤ (6 : Int) := (by omega)
                      have q238 : 6 < (t227.length : Int) := of_decide_eq_true (by first | (with_reducible assumption) | assumption)
                      obtain ⟨ad238, e238, hx238_0⟩ := Kd.at_int (Kd.R_reads' HO230.out).2.2 6 p238 q238
                      obtain rfl : ad231 = ad238 := (by injection e238)
                      (try simp only [show (6 : Int).toNat = 6 from rfl, Nat.reduceMul, Nat.reduceEqDiff, Go.Addr.add, ↓reduceIte] at hx238_0)
                      have qi238 : (6 < t227.length) = True := eq_true (by omega)
                      (try rw [show ((6 : Int)).toNat = 6 from rfl] at hx238_0)
                      replace p238 := eq_true p238
                      replace q238 := eq_true q238
                      refine start_ (n := 27) (S := fun w' => w'.cell? ad231 = some (.int .u64 (rd t227 0)) ∧ w'.cell? ⟨ad231.block, ad231.off + 1, none⟩ = some (.int .u64 (rd t227 1)) ∧ w'.cell? ⟨ad231.block, ad231.off + 2, none⟩ = some (.int .u64 (rd t227 2)) ∧ w'.cell? ⟨ad231.block, ad231.off + 3, none⟩ = some (.int .u64 (rd t227 3)) ∧ w'.cell? ⟨ad231.block, ad231.off + 5, none⟩ = some (.int .u64 (rd t227 5)) ∧ w'.cell? ⟨ad231.block, ad231.off + 6, none⟩ = some (.int .u64 (rd t227 6))) (ds := []) #[false, false, false, false, false, false, false, false, false, false, false, false, false, false, false, false, false, false, false, false, false, false, false, false, false, false, false] (by kernel_rfl) rfl rfl ⟨hx233_0, hx234_0, hx235_0, hx236_0, hx237_0, hx238_0⟩ (fun hHeld => ?_); refine with_tabW head_Unpack.tab4 head_Unpack.bits4 (fun HT_ HW_ => ?_)
                      generalize w31.drew = w33 at HO226 HO230 BK223 HB hx233_0 hx234_0 hx235_0 hx236_0 hx237_0 hx238_0 hHeld ⊢
                      refine pure_ (i := 0) (N := some 28) (v := ?_) (a' := ?_) #[true, false, false, false, false, false, false, false, false, false, false, false, false, false, false, false, false, false, false, false, false, false, false, false, false, false, false] rfl rfl (any_of HT_.out (by kernel_rfl)) (fun _ _ _ h => h) (Or.inl ⟨by rfl, ?_⟩) ?_ ?_
                      rotate_left
                      · intro w'
                        go_simp
                        with_reducible rfl
                      rotate_left
                      · simp only [Act.put, List.setIfInBounds_toArray, List.set_cons_zero, List.set_cons_succ, i64_w, i32_w]
                        rfl
                      refine pure_ (i := 1) (N := some 29) (v := ?_) (a' := ?_) #[true, true, false, false, false, false, false, false, false, false, false, false, false, false, false, false, false, false, false, false, false, false, false, false, false, false, false] rfl rfl (any_of HT_.out (by kernel_rfl)) (fun _ _ _ h => h) (Or.inl ⟨by rfl, ?_⟩) ?_ ?_
                      rotate_left
                      · intro w'
                        go_simp
                        with_reducible rfl
                      rotate_left
                      · simp only [Act.put, List.setIfInBounds_toArray, List.set_cons_zero, List.set_cons_succ, i64_w, i32_w]
                        rfl
                      refine pure_ (i := 4) (N := some 32) (v := ?_) (a' := ?_) #[true, true, false, false, true, false, false, false, false, false, false, false, false, false, false, false, false, false, false, false, false, false, false, false, false, false, false] rfl rfl (any_of HT_.out (by kernel_rfl)) (fun _ _ _ h => h) (Or.inl ⟨by rfl, ?_⟩) ?_ ?_
                      rotate_left
                      · intro w'
                        go_simp
                        with_reducible rfl
                      rotate_left
                      · simp only [Act.put, List.setIfInBounds_toArray, List.set_cons_zero, List.set_cons_succ, i64_w, i32_w]
                        rfl
                      refine pure_ (i := 5) (N := some 33) (v := ?_) (a' := ?_) #[true, true, false, false, true, true, false, false, false, false, false, false, false, false, false, false, false, false, false, false, false, false, false, false, false, false, false] rfl rfl (any_of HT_.out (by kernel_rfl)) (fun _ _ _ h => h) (Or.inl ⟨by rfl, ?_⟩) ?_ ?_
                      rotate_left
                      · intro w'
                        go_simp
                        with_reducible rfl
                      rotate_left
                      · simp only [Act.put, List.setIfInBounds_toArray, List.set_cons_zero, List.set_cons_succ, i64_w, i32_w]
                        rfl
                      refine pure_ (i := 8) (N := some 36) (v := ?_) (a' := ?_) #[true, true, false, false, true, true, false, false, true, false, false, false, false, false, false, false, false, false, false, false, false, false, false, false, false, false, false] rfl rfl (any_of HT_.out (by kernel_rfl)) (fun _ _ _ h => h) (Or.inl ⟨by rfl, ?_⟩) ?_ ?_
                      rotate_left
                      · intro w'
                        go_simp
                        with_reducible rfl
                      rotate_left
                      · simp only [Act.put, List.setIfInBounds_toArray, List.set_cons_zero, List.set_cons_succ, i64_w, i32_w]
                        rfl
                      refine pure_ (i := 9) (N := some 37) (v := ?_) (a' := ?_) #[true, true, false, false, true, true, false, false, true, true, false, false, false, false, false, false, false, false, false, false, false, false, false, false, false, false, false] rfl rfl (any_of HT_.out (by kernel_rfl)) (fun _ _ _ h => h) (Or.inl ⟨by rfl, ?_⟩) ?_ ?_
                      rotate_left
                      · intro w'
                        go_simp
                        with_reducible rfl
                      rotate_left
                      · simp only [Act.put, List.setIfInBounds_toArray, List.set_cons_zero, List.set_cons_succ, i64_w, i32_w]
                        rfl
                      refine pure_ (i := 12) (N := some 40) (v := ?_) (a' := ?_) #[true, true, false, false, true, true, false, false, true, true, false, false, true, false, false, false, false, false, false, false, false, false, false, false, false, false, false] rfl rfl (any_of HT_.out (by kernel_rfl)) (fun _ _ _ h => h) (Or.inl ⟨by rfl, ?_⟩) ?_ ?_
                      rotate_left
                      · intro w'
                        go_simp
                        with_reducible rfl
                      rotate_left
                      · simp only [Act.put, List.setIfInBounds_toArray, List.set_cons_zero, List.set_cons_succ, i64_w, i32_w]
                        rfl
                      refine pure_ (i := 13) (N := some 41) (v := ?_) (a' := ?_) #[true, true, false, false, true, true, false, false, true, true, false, false, true, true, false, false, false, false, false, false, false, false, false, false, false, false, false] rfl rfl (any_of HT_.out (by kernel_rfl)) (fun _ _ _ h => h) (Or.inl ⟨by rfl, ?_⟩) ?_ ?_
                      rotate_left
                      · intro w'
                        go_simp
                        with_reducible rfl
                      rotate_left
                      · simp only [Act.put, List.setIfInBounds_toArray, List.set_cons_zero, List.set_cons_succ, i64_w, i32_w]
                        rfl
                      refine pure_ (i := 16) (N := some 44) (v := ?_) (a' := ?_) #[true, true, false, false, true, true, false, false, true, true, false, false, true, true, false, false, true, false, false, false, false, false, false, false, false, false, false] rfl rfl (any_of HT_.out (by kernel_rfl)) (fun _ _ _ h => h) (Or.inl ⟨by rfl, ?_⟩) ?_ ?_
                      rotate_left
                      · intro w'
                        go_simp
                        with_reducible rfl
                      rotate_left
                      · simp only [Act.put, List.setIfInBounds_toArray, List.set_cons_zero, List.set_cons_succ, i64_w, i32_w]
                        rfl
                      refine pure_ (i := 17) (N := some 45) (v := ?_) (a' := ?_) #[true, true, false, false, true, true, false, false, true, true, false, false, true, true, false, false, true, true, false, false, false, false, false, false, false, false, false] rfl rfl (any_of HT_.out (by kernel_rfl)) (fun _ _ _ h => h) (Or.inl ⟨by rfl, ?_⟩) ?_ ?_
                      rotate_left
                      · intro w'
                        go_simp
                        with_reducible rfl
                      rotate_left
                      · simp only [Act.put, List.setIfInBounds_toArray, List.set_cons_zero, List.set_cons_succ, i64_w, i32_w]
                        rfl
                      refine pure_ (i := 20) (N := some 48) (v := ?_) (a' := ?_) #[true, true, false, false, true, true, false, false, true, true, false, false, true, true, false, false, true, true, false, false, true, false, false, false, false, false, false] rfl rfl (any_of HT_.out (by kernel_rfl)) (fun _ _ _ h => h) (Or.inl ⟨by rfl, ?_⟩) ?_ ?_
                      rotate_left
                      · intro w'
                        go_simp
                        with_reducible rfl
                      rotate_left
                      · simp only [Act.put, List.setIfInBounds_toArray, List.set_cons_zero, List.set_cons_succ, i64_w, i32_w]
                        rfl
                      refine pure_ (i := 21) (N := some 49) (v := ?_) (a' := ?_) #[true, true, false, false, true, true, false, false, true, true, false, false, true, true, false, false, true, true, false, false, true, true, false, false, false, false, false] rfl rfl (any_of HT_.out (by kernel_rfl)) (fun _ _ _ h => h) (Or.inl ⟨by rfl, ?_⟩) ?_ ?_
                      rotate_left
                      · intro w'
                        go_simp
                        with_reducible rfl
                      rotate_left
                      · simp only [Act.put, List.setIfInBounds_toArray, List.set_cons_zero, List.set_cons_succ, i64_w, i32_w]
                        rfl
                      refine take_ (i := 2) (N := some 30) (v := ?_) (a' := ?_) #[true, true, true, false, true, true, false, false, true, true, false, false, true, true, false, false, true, true, false, false, true, true, false, false, false, false, false] rfl rfl (take_ofW HT_.out HW_.out (by kernel_rfl)) (fun _ _ _ h => h) (Or.inl ⟨by rfl, ?_⟩) hHeld ?_ ?_
                      rotate_left
                      · rintro w' ⟨s0, s1, s2, s3, s4, s5⟩
                        go_simp
                        with_reducible rfl
                      rotate_left
                      · simp only [Act.put, List.setIfInBounds_toArray, List.set_cons_zero, List.set_cons_succ, i64_w, i32_w]
                        rfl
                      refine pure_ (i := 3) (N := some 31) (v := ?_) (a' := ?_) #[true, true, true, true, true, true, false, false, true, true, false, false, true, true, false, false, true, true, false, false, true, true, false, false, false, false, false] rfl rfl (any_of HT_.out (by kernel_rfl)) (fun _ _ _ h => h) (Or.inl ⟨by rfl, ?_⟩) ?_ ?_
                      rotate_left
                      · intro w'
                        go_simp
                        with_reducible rfl
                      rotate_left
                      · simp only [Act.put, List.setIfInBounds_toArray, List.set_cons_zero, List.set_cons_succ, i64_w, i32_w]
                        rfl
                      refine take_ (i := 6) (N := some 34) (v := ?_) (a' := ?_) #[true, true, true, true, true, true, true, false, true, true, false, false, true, true, false, false, true, true, false, false, true, true, false, false, false, false, false] rfl rfl (take_ofW HT_.out HW_.out (by kernel_rfl)) (fun _ _ _ h => h) (Or.inl ⟨by rfl, ?_⟩) hHeld ?_ ?_
                      rotate_left
                      · rintro w' ⟨s0, s1, s2, s3, s4, s5⟩
                        go_simp
                        with_reducible rfl
                      rotate_left
                      · simp only [Act.put, List.setIfInBounds_toArray, List.set_cons_zero, List.set_cons_succ, i64_w, i32_w]
                        rfl
                      refine pure_ (i := 7) (N := some 35) (v := ?_) (a' := ?_) #[true, true, true, true, true, true, true, true, true, true, false, false, true, true, false, false, true, true, false, false, true, true, false, false, false, false, false] rfl rfl (any_of HT_.out (by kernel_rfl)) (fun _ _ _ h => h) (Or.inl ⟨by rfl, ?_⟩) ?_ ?_
                      rotate_left
                      · intro w'
                        go_simp
                        with_reducible rfl
                      rotate_left
                      · simp only [Act.put, List.setIfInBounds_toArray, List.set_cons_zero, List.set_cons_succ, i64_w, i32_w]
                        rfl
                      refine take_ (i := 10) (N := some 38) (v := ?_) (a' := ?_) #[true, true, true, true, true, true, true, true, true, true, true, false, true, true, false, false, true, true, false, false, true, true, false, false, false, false, false] rfl rfl (take_ofW HT_.out HW_.out (by kernel_rfl)) (fun _ _ _ h => h) (Or.inl ⟨by rfl, ?_⟩) hHeld ?_ ?_
                      rotate_left
                      · rintro w' ⟨s0, s1, s2, s3, s4, s5⟩
                        go_simp
                        with_reducible rfl
                      rotate_left
                      · simp only [Act.put, List.setIfInBounds_toArray, List.set_cons_zero, List.set_cons_succ, i64_w, i32_w]
                        rfl
                      refine pure_ (i := 11) (N := some 39) (v := ?_) (a' := ?_) #[true, true, true, true, true, true, true, true, true, true, true, true, true, true, false, false, true, true, false, false, true, true, false, false, false, false, false] rfl rfl (any_of HT_.out (by kernel_rfl)) (fun _ _ _ h => h) (Or.inl ⟨by rfl, ?_⟩) ?_ ?_
                      rotate_left
                      · intro w'
                        go_simp
                        with_reducible rfl
                      rotate_left
                      · simp only [Act.put, List.setIfInBounds_toArray, List.set_cons_zero, List.set_cons_succ, i64_w, i32_w]
                        rfl
                      refine take_ (i := 14) (N := some 42) (v := ?_) (a' := ?_) #[true, true, true, true, true, true, true, true, true, true, true, true, true, true, true, false, true, true, false, false, true, true, false, false, false, false, false] rfl rfl (take_ofW HT_.out HW_.out (by kernel_rfl)) (fun _ _ _ h => h) (Or.inl ⟨by rfl, ?_⟩) hHeld ?_ ?_
                      rotate_left
                      · rintro w' ⟨s0, s1, s2, s3, s4, s5⟩
                        go_simp
                        with_reducible rfl
                      rotate_left
                      · simp only [Act.put, List.setIfInBounds_toArray, List.set_cons_zero, List.set_cons_succ, i64_w, i32_w]
                        rfl
                      refine pure_ (i := 15) (N := some 43) (v := ?_) (a' := ?_) #[true, true, true, true, true, true, true, true, true, true, true, true, true, true, true, true, true, true, false, false, true, true, false, false, false, false, false] rfl rfl (any_of HT_.out (by kernel_rfl)) (fun _ _ _ h => h) (Or.inl ⟨by rfl, ?_⟩) ?_ ?_
                      rotate_left
                      · intro w'
                        go_simp
                        with_reducible rfl
                      rotate_left
                      · simp only [Act.put, List.setIfInBounds_toArray, List.set_cons_zero, List.set_cons_succ, i64_w, i32_w]
                        rfl
                      refine take_ (i := 18) (N := some 46) (v := ?_) (a' := ?_) #[true, true, true, true, true, true, true, true, true, true, true, true, true, true, true, true, true, true, true, false, true, true, false, false, false, false, false] rfl rfl (take_ofW HT_.out HW_.out (by kernel_rfl)) (fun _ _ _ h => h) (Or.inl ⟨by rfl, ?_⟩) hHeld ?_ ?_
                      rotate_left
                      · rintro w' ⟨s0, s1, s2, s3, s4, s5⟩
                        go_simp
                        with_reducible rfl
                      rotate_left
                      · simp only [Act.put, List.setIfInBounds_toArray, List.set_cons_zero, List.set_cons_succ, i64_w, i32_w]
                        rfl
                      refine pure_ (i := 19) (N := some 47) (v := ?_) (a' := ?_) #[true, true, true, true, true, true, true, true, true, true, true, true, true, true, true, true, true, true, true, true, true, true, false, false, false, false, false] rfl rfl (any_of HT_.out (by kernel_rfl)) (fun _ _ _ h => h) (Or.inl ⟨by rfl, ?_⟩) ?_ ?_
                      rotate_left
                      · intro w'
                        go_simp
                        with_reducible rfl
                      rotate_left
                      · simp only [Act.put, List.setIfInBounds_toArray, List.set_cons_zero, List.set_cons_succ, i64_w, i32_w]
                        rfl
                      refine take_ (i := 22) (N := some 50) (v := ?_) (a' := ?_) #[true, true, true, true, true, true, true, true, true, true, true, true, true, true, true, true, true, true, true, true, true, true, true, false, false, false, false] rfl rfl (take_ofW HT_.out HW_.out (by kernel_rfl)) (fun _ _ _ h => h) (Or.inl ⟨by rfl, ?_⟩) hHeld ?_ ?_
                      rotate_left
                      · rintro w' ⟨s0, s1, s2, s3, s4, s5⟩
                        go_simp
                        with_reducible rfl
                      rotate_left
                      · simp only [Act.put, List.setIfInBounds_toArray, List.set_cons_zero, List.set_cons_succ, i64_w, i32_w]
                        rfl
                      refine pure_ (i := 23) (N := some 51) (v := ?_) (a' := ?_) #[true, true, true, true, true, true, true, true, true, true, true, true, true, true, true, true, true, true, true, true, true, true, true, true, false, false, false] rfl rfl (any_of HT_.out (by kernel_rfl)) (fun _ _ _ h => h) (Or.inl ⟨by rfl, ?_⟩) ?_ ?_
                      rotate_left
                      · intro w'
                        go_simp
                        with_reducible rfl
                      rotate_left
                      · simp only [Act.put, List.setIfInBounds_toArray, List.set_cons_zero, List.set_cons_succ, i64_w, i32_w]
                        rfl
                      refine pure_ (i := 24) (N := some 52) (v := ?_) (a' := ?_) #[true, true, true, true, true, true, true, true, true, true, true, true, true, true, true, true, true, true, true, true, true, true, true, true, true, false, false] rfl rfl (any_of HT_.out (by kernel_rfl)) (fun _ _ _ h => h) (Or.inl ⟨by rfl, ?_⟩) ?_ ?_
                      rotate_left
                      · intro w'
                        go_simp
                        with_reducible rfl
                      rotate_left
                      · simp only [Act.put, List.setIfInBounds_toArray, List.set_cons_zero, List.set_cons_succ, i64_w, i32_w]
                        rfl
                      refine one_ (i := 25) (N := none) #[true, true, true, true, true, true, true, true, true, true, true, true, true, true, true, true, true, true, true, true, true, true, true, true, true, true, false] rfl rfl (one_of HT_.out (by kernel_rfl)) (by decide) (fun K hK => ?_)
                      have hs34 : w33.cell? ⟨gb223, 0, none⟩ = some (.int .i64 0) := (blk_cell BK223.out 0).trans rfl
                      have hfs34 := blk_frozen BK223.out 0
                      have hs35 : w33.cell? ⟨gb223, 1, none⟩ = some (.int .i64 0) := (blk_cell BK223.out 1).trans rfl
                      have hfs35 := blk_frozen BK223.out 1
                      have hs36 : w33.cell? ⟨gb223, 2, none⟩ = some (.bool false) := (blk_cell BK223.out 2).trans rfl
                      have hfs36 := blk_frozen BK223.out 2
                      have hs37 : w33.cell? ⟨gb223, 3, none⟩ = some (.int .i64 0) := (blk_cell BK223.out 3).trans rfl
                      have hfs37 := blk_frozen BK223.out 3
                      have hs38 : w33.cell? ⟨gb223, 4, none⟩ = some (.int .i64 0) := (blk_cell BK223.out 4).trans rfl
                      have hfs38 := blk_frozen BK223.out 4
                      have hs39 : w33.cell? ⟨gb223, 5, none⟩ = some (.int .i64 0) := (blk_cell BK223.out 5).trans rfl
                      have hfs39 := blk_frozen BK223.out 5
                      refine skip_ (w1 := ?_) (by rfl) rfl ?_ ?_
                      rotate_left
                      · go_simp
                        rfl
                      refine hK.out _ _ ⟨((cell_far (p := ⟨gb223, _, none⟩) (by first | exact Kd.own_blk (Kd.R_ne HO230.out BK223.out (by decide)) | (rw [add_block]; exact Kd.own_blk (Kd.R_ne HO230.out BK223.out (by decide))) | (show (Addr.add _ _).block ≠ _; rw [add_block]; exact Kd.own_blk (Kd.R_ne HO230.out BK223.out (by decide))) | (dsimp only; exact Kd.own_blk (Kd.R_ne HO230.out BK223.out (by decide)))) _).trans (((cell_far (p := ⟨gb223, _, none⟩) (by first | exact Kd.own_blk (Kd.R_ne HO230.out BK223.out (by decide)) | (rw [add_block]; exact Kd.own_blk (Kd.R_ne HO230.out BK223.out (by decide))) | (show (Addr.add _ _).block ≠ _; rw [add_block]; exact Kd.own_blk (Kd.R_ne HO230.out BK223.out (by decide))) | (dsimp only; exact Kd.own_blk (Kd.R_ne HO230.out BK223.out (by decide)))) _).trans (((cell_far (p := ⟨gb223, _, none⟩) (by first | exact Kd.own_blk (Kd.R_ne HO230.out BK223.out (by decide)) | (rw [add_block]; exact Kd.own_blk (Kd.R_ne HO230.out BK223.out (by decide))) | (show (Addr.add _ _).block ≠ _; rw [add_block]; exact Kd.own_blk (Kd.R_ne HO230.out BK223.out (by decide))) | (dsimp only; exact Kd.own_blk (Kd.R_ne HO230.out BK223.out (by decide)))) _).trans (((cell_far (p := ⟨gb223, _, none⟩) (by first | exact Kd.own_blk (Kd.R_ne HO230.out BK223.out (by decide)) | (rw [add_block]; exact Kd.own_blk (Kd.R_ne HO230.out BK223.out (by decide))) | (show (Addr.add _ _).block ≠ _; rw [add_block]; exact Kd.own_blk (Kd.R_ne HO230.out BK223.out (by decide))) | (dsimp only; exact Kd.own_blk (Kd.R_ne HO230.out BK223.out (by decide)))) _).trans (((cell_far (p := ⟨gb223, _, none⟩) (by first | exact Kd.own_blk (Kd.R_ne HO230.out BK223.out (by decide)) | (rw [add_block]; exact Kd.own_blk (Kd.R_ne HO230.out BK223.out (by decide))) | (show (Addr.add _ _).block ≠ _; rw [add_block]; exact Kd.own_blk (Kd.R_ne HO230.out BK223.out (by decide))) | (dsimp only; exact Kd.own_blk (Kd.R_ne HO230.out BK223.out (by decide)))) _).trans (((cell_far (p := ⟨gb223, _, none⟩) (by first | exact Kd.own_blk (Kd.R_ne HO230.out BK223.out (by decide)) | (rw [add_block]; exact Kd.own_blk (Kd.R_ne HO230.out BK223.out (by decide))) | (show (Addr.add _ _).block ≠ _; rw [add_block]; exact Kd.own_blk (Kd.R_ne HO230.out BK223.out (by decide))) | (dsimp only; exact Kd.own_blk (Kd.R_ne HO230.out BK223.out (by decide)))) _).trans (hHeld.1)))))))))))), ((cell_far (p := ⟨gb223, _, none⟩) (by first | exact Kd.own_blk (Kd.R_ne HO230.out BK223.out (by decide)) | (rw [add_block]; exact Kd.own_blk (Kd.R_ne HO230.out BK223.out (by decide))) | (show (Addr.add _ _).block ≠ _; rw [add_block]; exact Kd.own_blk (Kd.R_ne HO230.out BK223.out (by decide))) | (dsimp only; exact Kd.own_blk (Kd.R_ne HO230.out BK223.out (by decide)))) _).trans (((cell_far (p := ⟨gb223, _, none⟩) (by first | exact Kd.own_blk (Kd.R_ne HO230.out BK223.out (by decide)) | (rw [add_block]; exact Kd.own_blk (Kd.R_ne HO230.out BK223.out (by decide))) | (show (Addr.add _ _).block ≠ _; rw [add_block]; exact Kd.own_blk (Kd.R_ne HO230.out BK223.out (by decide))) | (dsimp only; exact Kd.own_blk (Kd.R_ne HO230.out BK223.out (by decide)))) _).trans (((cell_far (p := ⟨gb223, _, none⟩) (by first | exact Kd.own_blk (Kd.R_ne HO230.out BK223.out (by decide)) | (rw [add_block]; exact Kd.own_blk (Kd.R_ne HO230.out BK223.out (by decide))) | (show (Addr.add _ _).block ≠ _; rw [add_block]; exact Kd.own_blk (Kd.R_ne HO230.out BK223.out (by decide))) | (dsimp only; exact Kd.own_blk (Kd.R_ne HO230.out BK223.out (by decide)))) _).trans (((cell_far (p := ⟨gb223, _, none⟩) (by first | exact Kd.own_blk (Kd.R_ne HO230.out BK223.out (by decide)) | (rw [add_block]; exact Kd.own_blk (Kd.R_ne HO230.out BK223.out (by decide))) | (show (Addr.add _ _).block ≠ _; rw [add_block]; exact Kd.own_blk (Kd.R_ne HO230.out BK223.out (by decide))) | (dsimp only; exact Kd.own_blk (Kd.R_ne HO230.out BK223.out (by decide)))) _).trans (((cell_far (p := ⟨gb223, _, none⟩) (by first | exact Kd.own_blk (Kd.R_ne HO230.out BK223.out (by decide)) | (rw [add_block]; exact Kd.own_blk (Kd.R_ne HO230.out BK223.out (by decide))) | (show (Addr.add _ _).block ≠ _; rw [add_block]; exact Kd.own_blk (Kd.R_ne HO230.out BK223.out (by decide))) | (dsimp only; exact Kd.own_blk (Kd.R_ne HO230.out BK223.out (by decide)))) _).trans (((cell_far (p := ⟨gb223, _, none⟩) (by first | exact Kd.own_blk (Kd.R_ne HO230.out BK223.out (by decide)) | (rw [add_block]; exact Kd.own_blk (Kd.R_ne HO230.out BK223.out (by decide))) | (show (Addr.add _ _).block ≠ _; rw [add_block]; exact Kd.own_blk (Kd.R_ne HO230.out BK223.out (by decide))) | (dsimp only; exact Kd.own_blk (Kd.R_ne HO230.out BK223.out (by decide)))) _).trans (hHeld.2.1)))))))))))), ((cell_far (p := ⟨gb223, _, none⟩) (by first | exact Kd.own_blk (Kd.R_ne HO230.out BK223.out (by decide)) | (rw [add_block]; exact Kd.own_blk (Kd.R_ne HO230.out BK223.out (by decide))) | (show (Addr.add _ _).block ≠ _; rw [add_block]; exact Kd.own_blk (Kd.R_ne HO230.out BK223.out (by decide))) | (dsimp only; exact Kd.own_blk (Kd.R_ne HO230.out BK223.out (by decide)))) _).trans (((cell_far (p := ⟨gb223, _, none⟩) (by first | exact Kd.own_blk (Kd.R_ne HO230.out BK223.out (by decide)) | (rw [add_block]; exact Kd.own_blk (Kd.R_ne HO230.out BK223.out (by decide))) | (show (Addr.add _ _).block ≠ _; rw [add_block]; exact Kd.own_blk (Kd.R_ne HO230.out BK223.out (by decide))) | (dsimp only; exact Kd.own_blk (Kd.R_ne HO230.out BK223.out (by decide)))) _).trans (((cell_far (p := ⟨gb223, _, none⟩) (by first | exact Kd.own_blk (Kd.R_ne HO230.out BK223.out (by decide)) | (rw [add_block]; exact Kd.own_blk (Kd.R_ne HO230.out BK223.out (by decide))) | (show (Addr.add _ _).block ≠ _; rw [add_block]; exact Kd.own_blk (Kd.R_ne HO230.out BK223.out (by decide))) | (dsimp only; exact Kd.own_blk (Kd.R_ne HO230.out BK223.out (by decide)))) _).trans (((cell_far (p := ⟨gb223, _, none⟩) (by first | exact Kd.own_blk (Kd.R_ne HO230.out BK223.out (by decide)) | (rw [add_block]; exact Kd.own_blk (Kd.R_ne HO230.out BK223.out (by decide))) | (show (Addr.add _ _).block ≠ _; rw [add_block]; exact Kd.own_blk (Kd.R_ne HO230.out BK223.out (by decide))) | (dsimp only; exact Kd.own_blk (Kd.R_ne HO230.out BK223.out (by decide)))) _).trans (((cell_far (p := ⟨gb223, _, none⟩) (by first | exact Kd.own_blk (Kd.R_ne HO230.out BK223.out (by decide)) | (rw [add_block]; exact Kd.own_blk (Kd.R_ne HO230.out BK223.out (by decide))) | (show (Addr.add _ _).block ≠ _; rw [add_block]; exact Kd.own_blk (Kd.R_ne HO230.out BK223.out (by decide))) | (dsimp only; exact Kd.own_blk (Kd.R_ne HO230.out BK223.out (by decide)))) _).trans (((cell_far (p := ⟨gb223, _, none⟩) (by first | exact Kd.own_blk (Kd.R_ne HO230.out BK223.out (by decide)) | (rw [add_block]; exact Kd.own_blk (Kd.R_ne HO230.out BK223.out (by decide))) | (show (Addr.add _ _).block ≠ _; rw [add_block]; exact Kd.own_blk (Kd.R_ne HO230.out BK223.out (by decide))) | (dsimp only; exact Kd.own_blk (Kd.R_ne HO230.out BK223.out (by decide)))) _).trans (hHeld.2.2.1)))))))))))), ((cell_far (p := ⟨gb223, _, none⟩) (by first | exact Kd.own_blk (Kd.R_ne HO230.out BK223.out (by decide)) | (rw [add_block]; exact Kd.own_blk (Kd.R_ne HO230.out BK223.out (by decide))) | (show (Addr.add _ _).block ≠ _; rw [add_block]; exact Kd.own_blk (Kd.R_ne HO230.out BK223.out (by decide))) | (dsimp only; exact Kd.own_blk (Kd.R_ne HO230.out BK223.out (by decide)))) _).trans (((cell_far (p := ⟨gb223, _, none⟩) (by first | exact Kd.own_blk (Kd.R_ne HO230.out BK223.out (by decide)) | (rw [add_block]; exact Kd.own_blk (Kd.R_ne HO230.out BK223.out (by decide))) | (show (Addr.add _ _).block ≠ _; rw [add_block]; exact Kd.own_blk (Kd.R_ne HO230.out BK223.out (by decide))) | (dsimp only; exact Kd.own_blk (Kd.R_ne HO230.out BK223.out (by decide)))) _).trans (((cell_far (p := ⟨gb223, _, none⟩) (by first | exact Kd.own_blk (Kd.R_ne HO230.out BK223.out (by decide)) | (rw [add_block]; exact Kd.own_blk (Kd.R_ne HO230.out BK223.out (by decide))) | (show (Addr.add _ _).block ≠ _; rw [add_block]; exact Kd.own_blk (Kd.R_ne HO230.out BK223.out (by decide))) | (dsimp only; exact Kd.own_blk (Kd.R_ne HO230.out BK223.out (by decide)))) _).trans (((cell_far (p := ⟨gb223, _, none⟩) (by first | exact Kd.own_blk (Kd.R_ne HO230.out BK223.out (by decide)) | (rw [add_block]; exact Kd.own_blk (Kd.R_ne HO230.out BK223.out (by decide))) | (show (Addr.add _ _).block ≠ _; rw [add_block]; exact Kd.own_blk (Kd.R_ne HO230.out BK223.out (by decide))) | (dsimp only; exact Kd.own_blk (Kd.R_ne HO230.out BK223.out (by decide)))) _).trans (((cell_far (p := ⟨gb223, _, none⟩) (by first | exact Kd.own_blk (Kd.R_ne HO230.out BK223.out (by decide)) | (rw [add_block]; exact Kd.own_blk (Kd.R_ne HO230.out BK223.out (by decide))) | (show (Addr.add _ _).block ≠ _; rw [add_block]; exact Kd.own_blk (Kd.R_ne HO230.out BK223.out (by decide))) | (dsimp only; exact Kd.own_blk (Kd.R_ne HO230.out BK223.out (by decide)))) _).trans (((cell_far (p := ⟨gb223, _, none⟩) (by first | exact Kd.own_blk (Kd.R_ne HO230.out BK223.out (by decide)) | (rw [add_block]; exact Kd.own_blk (Kd.R_ne HO230.out BK223.out (by decide))) | (show (Addr.add _ _).block ≠ _; rw [add_block]; exact Kd.own_blk (Kd.R_ne HO230.out BK223.out (by decide))) | (dsimp only; exact Kd.own_blk (Kd.R_ne HO230.out BK223.out (by decide)))) _).trans (hHeld.2.2.2.1)))))))))))), ((cell_far (p := ⟨gb223, _, none⟩) (by first | exact Kd.own_blk (Kd.R_ne HO230.out BK223.out (by decide)) | (rw [add_block]; exact Kd.own_blk (Kd.R_ne HO230.out BK223.out (by decide))) | (show (Addr.add _ _).block ≠ _; rw [add_block]; exact Kd.own_blk (Kd.R_ne HO230.out BK223.out (by decide))) | (dsimp only; exact Kd.own_blk (Kd.R_ne HO230.out BK223.out (by decide)))) _).trans (((cell_far (p := ⟨gb223, _, none⟩) (by first | exact Kd.own_blk (Kd.R_ne HO230.out BK223.out (by decide)) | (rw [add_block]; exact Kd.own_blk (Kd.R_ne HO230.out BK223.out (by decide))) | (show (Addr.add _ _).block ≠ _; rw [add_block]; exact Kd.own_blk (Kd.R_ne HO230.out BK223.out (by decide))) | (dsimp only; exact Kd.own_blk (Kd.R_ne HO230.out BK223.out (by decide)))) _).trans (((cell_far (p := ⟨gb223, _, none⟩) (by first | exact Kd.own_blk (Kd.R_ne HO230.out BK223.out (by decide)) | (rw [add_block]; exact Kd.own_blk (Kd.R_ne HO230.out BK223.out (by decide))) | (show (Addr.add _ _).block ≠ _; rw [add_block]; exact Kd.own_blk (Kd.R_ne HO230.out BK223.out (by decide))) | (dsimp only; exact Kd.own_blk (Kd.R_ne HO230.out BK223.out (by decide)))) _).trans (((cell_far (p := ⟨gb223, _, none⟩) (by first | exact Kd.own_blk (Kd.R_ne HO230.out BK223.out (by decide)) | (rw [add_block]; exact Kd.own_blk (Kd.R_ne HO230.out BK223.out (by decide))) | (show (Addr.add _ _).block ≠ _; rw [add_block]; exact Kd.own_blk (Kd.R_ne HO230.out BK223.out (by decide))) | (dsimp only; exact Kd.own_blk (Kd.R_ne HO230.out BK223.out (by decide)))) _).trans (((cell_far (p := ⟨gb223, _, none⟩) (by first | exact Kd.own_blk (Kd.R_ne HO230.out BK223.out (by decide)) | (rw [add_block]; exact Kd.own_blk (Kd.R_ne HO230.out BK223.out (by decide))) | (show (Addr.add _ _).block ≠ _; rw [add_block]; exact Kd.own_blk (Kd.R_ne HO230.out BK223.out (by decide))) | (dsimp only; exact Kd.own_blk (Kd.R_ne HO230.out BK223.out (by decide)))) _).trans (((cell_far (p := ⟨gb223, _, none⟩) (by first | exact Kd.own_blk (Kd.R_ne HO230.out BK223.out (by decide)) | (rw [add_block]; exact Kd.own_blk (Kd.R_ne HO230.out BK223.out (by decide))) | (show (Addr.add _ _).block ≠ _; rw [add_block]; exact Kd.own_blk (Kd.R_ne HO230.out BK223.out (by decide))) | (dsimp only; exact Kd.own_blk (Kd.R_ne HO230.out BK223.out (by decide)))) _).trans (hHeld.2.2.2.2.1)))))))))))), ((cell_far (p := ⟨gb223, _, none⟩) (by first | exact Kd.own_blk (Kd.R_ne HO230.out BK223.out (by decide)) | (rw [add_block]; exact Kd.own_blk (Kd.R_ne HO230.out BK223.out (by decide))) | (show (Addr.add _ _).block ≠ _; rw [add_block]; exact Kd.own_blk (Kd.R_ne HO230.out BK223.out (by decide))) | (dsimp only; exact Kd.own_blk (Kd.R_ne HO230.out BK223.out (by decide)))) _).trans (((cell_far (p := ⟨gb223, _, none⟩) (by first | exact Kd.own_blk (Kd.R_ne HO230.out BK223.out (by decide)) | (rw [add_block]; exact Kd.own_blk (Kd.R_ne HO230.out BK223.out (by decide))) | (show (Addr.add _ _).block ≠ _; rw [add_block]; exact Kd.own_blk (Kd.R_ne HO230.out BK223.out (by decide))) | (dsimp only; exact Kd.own_blk (Kd.R_ne HO230.out BK223.out (by decide)))) _).trans (((cell_far (p := ⟨gb223, _, none⟩) (by first | exact Kd.own_blk (Kd.R_ne HO230.out BK223.out (by decide)) | (rw [add_block]; exact Kd.own_blk (Kd.R_ne HO230.out BK223.out (by decide))) | (show (Addr.add _ _).block ≠ _; rw [add_block]; exact Kd.own_blk (Kd.R_ne HO230.out BK223.out (by decide))) | (dsimp only; exact Kd.own_blk (Kd.R_ne HO230.out BK223.out (by decide)))) _).trans (((cell_far (p := ⟨gb223, _, none⟩) (by first | exact Kd.own_blk (Kd.R_ne HO230.out BK223.out (by decide)) | (rw [add_block]; exact Kd.own_blk (Kd.R_ne HO230.out BK223.out (by decide))) | (show (Addr.add _ _).block ≠ _; rw [add_block]; exact Kd.own_blk (Kd.R_ne HO230.out BK223.out (by decide))) | (dsimp only; exact Kd.own_blk (Kd.R_ne HO230.out BK223.out (by decide)))) _).trans (((cell_far (p := ⟨gb223, _, none⟩) (by first | exact Kd.own_blk (Kd.R_ne HO230.out BK223.out (by decide)) | (rw [add_block]; exact Kd.own_blk (Kd.R_ne HO230.out BK223.out (by decide))) | (show (Addr.add _ _).block ≠ _; rw [add_block]; exact Kd.own_blk (Kd.R_ne HO230.out BK223.out (by decide))) | (dsimp only; exact Kd.own_blk (Kd.R_ne HO230.out BK223.out (by decide)))) _).trans (((cell_far (p := ⟨gb223, _, none⟩) (by first | exact Kd.own_blk (Kd.R_ne HO230.out BK223.out (by decide)) | (rw [add_block]; exact Kd.own_blk (Kd.R_ne HO230.out BK223.out (by decide))) | (show (Addr.add _ _).block ≠ _; rw [add_block]; exact Kd.own_blk (Kd.R_ne HO230.out BK223.out (by decide))) | (dsimp only; exact Kd.own_blk (Kd.R_ne HO230.out BK223.out (by decide)))) _).trans (hHeld.2.2.2.2.2))))))))))))⟩ (fun hHeld => ?_)
                      clear hK K
                      refine pure_ (i := 26) (N := some 3) (v := ?_) (a' := ?_) #[true, true, true, true, true, true, true, true, true, true, true, true, true, true, true, true, true, true, true, true, true, true, true, true, true, true, true] rfl rfl (any_of HT_.out (by kernel_rfl)) (fun _ _ _ h => h) (Or.inl ⟨by rfl, ?_⟩) ?_ ?_
                      rotate_left
                      · intro w'
                        go_simp
                        with_reducible rfl
                      rotate_left
                      · simp only [Act.put, List.setIfInBounds_toArray, List.set_cons_zero, List.set_cons_succ, i64_w, i32_w]
                        rfl
                      refine done_ (done_of HT_.out (by kernel_rfl)) ?_
                      try go_wp2
                      refine bodyPost_ret (results_ct rfl _ _ gb223 85 #[.int .i64 (wrap64 (rd t227 0)), .int .i64 (wrap64 (rd t227 1)), .bool ((rd t227 2) == 1), .int .i64 (wrap64 (rd t227 3)), .int .i64 (wrap64 (rd t227 5)), .int .i64 (wrap64 (rd t227 6))] (0, 0) _ rfl (by (with_reducible repeat (first | refine blk_drewN ?_ _ | refine blk_drew ?_ | refine blk_alloc ?_ _)); refine blk_put (cs := #[.int .i64 (wrap64 (rd t227 0)), .int .i64 (wrap64 (rd t227 1)), .bool ((rd t227 2) == 1), .int .i64 (wrap64 (rd t227 3)), .int .i64 (wrap64 (rd t227 5)), .int .i64 0]) ?_ 5 _ rfl; (with_reducible repeat (first | refine blk_drewN ?_ _ | refine blk_drew ?_ | refine blk_alloc ?_ _)); refine blk_put (cs := #[.int .i64 (wrap64 (rd t227 0)), .int .i64 (wrap64 (rd t227 1)), .bool ((rd t227 2) == 1), .int .i64 (wrap64 (rd t227 3)), .int .i64 0, .int .i64 0]) ?_ 4 _ rfl; (with_reducible repeat (first | refine blk_drewN ?_ _ | refine blk_drew ?_ | refine blk_alloc ?_ _)); refine blk_put (cs := #[.int .i64 (wrap64 (rd t227 0)), .int .i64 (wrap64 (rd t227 1)), .bool ((rd t227 2) == 1), .int .i64 0, .int .i64 0, .int .i64 0]) ?_ 3 _ rfl; (with_reducible repeat (first | refine blk_drewN ?_ _ | refine blk_drew ?_ | refine blk_alloc ?_ _)); refine blk_put (cs := #[.int .i64 (wrap64 (rd t227 0)), .int .i64 (wrap64 (rd t227 1)), .bool false, .int .i64 0, .int .i64 0, .int .i64 0]) ?_ 2 _ rfl; (with_reducible repeat (first | refine blk_drewN ?_ _ | refine blk_drew ?_ | refine blk_alloc ?_ _)); refine blk_put (cs := #[.int .i64 (wrap64 (rd t227 0)), .int .i64 0, .bool false, .int .i64 0, .int .i64 0, .int .i64 0]) ?_ 1 _ rfl; (with_reducible repeat (first | refine blk_drewN ?_ _ | refine blk_drew ?_ | refine blk_alloc ?_ _)); refine blk_put (cs := #[.int .i64 0, .int .i64 0, .bool false, .int .i64 0, .int .i64 0, .int .i64 0]) ?_ 0 _ rfl; (with_reducible repeat (first | refine blk_drewN ?_ _ | refine blk_drew ?_ | refine blk_alloc ?_ _)); exact BK223.out) Try.underlying85 rfl (by kernel_rfl)) rfl ?_
                      exact ⟨by first | rfl | (simp [errW_none, errW_some] <;> rfl) | (simp [*, errW_none, errW_some] <;> rfl), by repeat (first | (with_reducible first | exact HB.out | apply below_alloc | apply pw_below_drewN | apply below_drew1 | refine below_set ?_ GE223.out) | exact HB.out)⟩
                    · rw [if_neg c26] at H
                      exact absurd H (by simp)
                  · rw [if_neg c25] at H
                    exact absurd H (by simp)
                · rw [if_neg c24] at H
                  exact absurd H (by simp)
              · rw [if_neg c23] at H
                exact absurd H (by simp)
            · rw [if_neg c22] at H
              exact absurd H (by simp)
          · rw [if_neg c21] at H
            have c21b0 : ((rd t227 4) == 0) = false := beq_eq_false_iff_ne.mpr c21
            have c21b1 : ((rd t227 4) != 0) = true := bne_iff_ne.mpr c21
            simp only [Option.some.injEq, Prod.mk.injEq] at H
            obtain ⟨rfl, rfl, rfl, rfl, rfl, rfl, rfl⟩ := H
            go_enter Try.func86, Try.ntmps86
            go_wp2_with (first | ((with_reducible refine gate_dst (N := 2) rfl ?_); refine box_event ?hg (N := 2) ?hd (cs := #[.int .i64 0, .int .i64 0, .bool false, .int .i64 0, .int .i64 0, .int .i64 0]) (t := 85) ?hr ?_; (case hd => rfl); (case hg => rfl); (case hr => first | (go_simp; done) | (go_simp; rfl)); intro gb223 hg w40 hbox hb; have n0_ := Aside0.mk (below_step (by repeat (first | (with_reducible first | exact HB.out | apply below_alloc | apply pw_below_drewN | apply below_drew1) | exact HB.out)) hb); have n1_ := Aside0.mk (hbox); have n2_ := Aside0.mk ((by rw [hg]; exact (below_size (by repeat (first | (with_reducible first | exact HB.out | apply below_alloc | apply pw_below_drewN | apply below_drew1) | exact HB.out))) : w.heap.size ≤ gb223)); have n3_ := Aside0.mk ((by rw [hg]; exact (below_size (by repeat (first | (with_reducible first | exact HB.out | apply below_alloc | apply pw_below_drewN | apply below_drew1) | exact HB.out))) : w.heap.size ≤ gb223)); clear HB; have HB := n0_; have BK223 := n1_; have GW223 := n2_; have GE223 := n3_; clear n0_ n1_ n2_ n3_; clear hb hbox hg) | ((with_reducible refine gate_dst (N := 8) rfl ?_); refine Kd.R_lit (Kd.int .i64) _ 3 ?hg (N := 8) ?hd (xs := ([3, 1, 1, 4, 7, 32, 16] : List Int)) (inner := [.int .i64 3, .int .i64 1, .int .i64 1, .int .i64 4, .int .i64 7, .int .i64 32, .int .i64 16]) (ok := fun _ => True) (okp := fun _ => True) ?hr ?hp (fun _ hk => hk) trivial (Below.refl _ _) (Nat.le_refl _) (by simp) ?_; (case hd => rfl); (case hg => rfl); (case hr => first | (go_simp; done) | (go_simp; rfl)); (case hp => exact (Reps.one (show Kd.M (Kd.int .i64) _ _ _ 3 [.int .i64 3] from rfl) (Reps.one (show Kd.M (Kd.int .i64) _ _ _ 1 [.int .i64 1] from rfl) (Reps.one (show Kd.M (Kd.int .i64) _ _ _ 1 [.int .i64 1] from rfl) (Reps.one (show Kd.M (Kd.int .i64) _ _ _ 4 [.int .i64 4] from rfl) (Reps.one (show Kd.M (Kd.int .i64) _ _ _ 7 [.int .i64 7] from rfl) (Reps.one (show Kd.M (Kd.int .i64) _ _ _ 32 [.int .i64 32] from rfl) (Reps.one (show Kd.M (Kd.int .i64) _ _ _ 16 [.int .i64 16] from rfl) (Reps.none _ _))))))))); intro v225 w41 ho42 hb hg_ hnew_; clear hg_ hnew_; (first | rw [← Ny224.out] at ho42 | (simp only [Int.reduceToNat] at ho42; rw [← Ny224.out] at ho42)); have n0_ := Aside0.mk (Kd.R_lower ho42 (below_size (by repeat (first | (with_reducible first | exact HB.out | apply below_alloc | apply pw_below_drewN | apply below_drew1 | refine below_set ?_ GE223.out) | exact HB.out)))); have n1_ := Aside0.mk (blk_below (g := gb223) (o := .cells #[.int .i64 0, .int .i64 0, .bool false, .int .i64 0, .int .i64 0, .int .i64 0] 85 (0, 0)) (by (with_reducible repeat (first | refine blk_drewN ?_ _ | refine blk_drew ?_ | refine blk_alloc ?_ _)); exact BK223.out) hb); have n2_ := Aside0.mk (below_step (by repeat (first | (with_reducible first | exact HB.out | apply below_alloc | apply pw_below_drewN | apply below_drew1 | refine below_set ?_ GE223.out) | exact HB.out)) hb); clear BK223; clear HB; have HO226 := n0_; have BK223 := n1_; have HB := n2_; clear n0_ n1_ n2_; clear hb ho42; obtain ⟨Ao43, co43, eo43⟩ := Kd.R_slice HO226.out; subst eo43) | ((with_reducible refine gate_callee (f := 99) rfl ?_); refine goesL_ (some 9) rfl rfl Try.func99 (by kernel_rfl) rfl #[.int .u64 a0, .slice Ao43 y224.length co43] rfl (by (try simp only [List.map_toArray, List.map_cons, List.map_nil]); first | done | rfl | (simp only [List.length_drop, List.length_take]; rfl)) ?_; (with_reducible refine (word_Unpack.calls k a0 _ _ y224 t227 t228 _ ?side1 ?side2 A2.out).mono ?_); (case side1 => repeat (first | exact (Kd.R_reads' HO226.out).2.2 | (with_reducible refine Kd.C_alloc ?_ _) | (with_reducible refine Kd.C_drewN ?_ _) | (with_reducible refine Kd.C_drew ?_))); (case side2 => exact (Kd.R_reads' HO226.out).2.1); rintro e w44 ⟨v229, rfl, ho0, hb⟩; refine ⟨_, rfl, ?_⟩; have n0_ := Aside0.mk (Kd.R_below (by (with_reducible repeat (first | apply Kd.R_alloc | apply Kd.R_drewN | apply Kd.R_drew)); exact HO226.out) hb); have n1_ := Aside0.mk (Kd.R_lower ho0 (below_size (by repeat (first | (with_reducible first | exact HB.out | apply below_alloc | apply pw_below_drewN | apply below_drew1 | refine below_set ?_ GE223.out) | exact HB.out)))); have n2_ := Aside0.mk (blk_below (g := gb223) (o := .cells #[.int .i64 0, .int .i64 0, .bool false, .int .i64 0, .int .i64 0, .int .i64 0] 85 (0, 0)) (by (with_reducible repeat (first | refine blk_drewN ?_ _ | refine blk_drew ?_ | refine blk_alloc ?_ _)); exact BK223.out) hb); have n3_ := Aside0.mk (below_step (by repeat (first | (with_reducible first | exact HB.out | apply below_alloc | apply pw_below_drewN | apply below_drew1 | refine below_set ?_ GE223.out) | exact HB.out)) hb); clear HO226; clear BK223; clear HB; have HO226 := n0_; have HO230 := n1_; have BK223 := n2_; have HB := n3_; clear n0_ n1_ n2_ n3_; (try clear hb); (try clear hb2); (try clear hk); (try clear hi); (try clear ho0); obtain ⟨Ao45, co45, eo45⟩ := Kd.R_slice HO230.out; subst eo45; have p231 : 0 ≤ (0 : Int) := (by omega); have q231 : 0 < (t227.length : Int) := of_decide_eq_true (by first | (with_reducible assumption) | assumption); obtain ⟨ad231, e231, hx231_0⟩ := Kd.at_int (Kd.R_reads' HO230.out).2.2 0 p231 q231; cases e231; have qi231 : (0 < t227.length) = True := eq_true (by omega); (try rw [show ((0 : Int)).toNat = 0 from rfl] at hx231_0); (try rw [Addr.add_zero'] at hx231_0); replace p231 := eq_true p231; replace q231 := eq_true q231; have p232 : 0 ≤ (4 : Int) := (by omega); have q232 : 4 < (t227.length : Int) := of_decide_eq_true (by first | (with_reducible assumption) | assumption); obtain ⟨ad232, e232, hx232_0⟩ := Kd.at_int (Kd.R_reads' HO230.out).2.2 4 p232 q232; obtain rfl : ad231 = ad232 := (by injection e232); (try simp only [show (4 : Int).toNat = 4 from rfl, Nat.reduceMul, Nat.reduceEqDiff, Go.Addr.add, ↓reduceIte] at hx232_0); have qi232 : (4 < t227.length) = True := eq_true (by omega); (try rw [show ((4 : Int)).toNat = 4 from rfl] at hx232_0); replace p232 := eq_true p232; replace q232 := eq_true q232; have hcz46_0 : w44.cell? ⟨gb223, 0, none⟩ = some (.int .i64 0) := (blk_cell BK223.out 0).trans rfl; have hcz46_1 : w44.cell? ⟨gb223, 1, none⟩ = some (.int .i64 0) := (blk_cell BK223.out 1).trans rfl; have hcz46_2 : w44.cell? ⟨gb223, 2, none⟩ = some (.bool false) := (blk_cell BK223.out 2).trans rfl; have hcz46_3 : w44.cell? ⟨gb223, 3, none⟩ = some (.int .i64 0) := (blk_cell BK223.out 3).trans rfl; have hcz46_4 : w44.cell? ⟨gb223, 4, none⟩ = some (.int .i64 0) := (blk_cell BK223.out 4).trans rfl; have hcz46_5 : w44.cell? ⟨gb223, 5, none⟩ = some (.int .i64 0) := (blk_cell BK223.out 5).trans rfl; have hfz46_0 := blk_frozen BK223.out 0; have hfz46_1 := blk_frozen BK223.out 1; have hfz46_2 := blk_frozen BK223.out 2; have hfz46_3 := blk_frozen BK223.out 3; have hfz46_4 := blk_frozen BK223.out 4; have hfz46_5 := blk_frozen BK223.out 5))
            refine bodyPost_ret (results_ct rfl _ _ gb223 85 #[.int .i64 0, .int .i64 0, .bool false, .int .i64 0, .int .i64 0, .int .i64 0] (0, 0) _ rfl (by (with_reducible repeat (first | refine blk_drewN ?_ _ | refine blk_drew ?_ | refine blk_alloc ?_ _)); refine blk_put (cs := #[.int .i64 0, .int .i64 0, .bool false, .int .i64 0, .int .i64 0, .int .i64 0]) ?_ 5 _ rfl; (with_reducible repeat (first | refine blk_drewN ?_ _ | refine blk_drew ?_ | refine blk_alloc ?_ _)); refine blk_put (cs := #[.int .i64 0, .int .i64 0, .bool false, .int .i64 0, .int .i64 0, .int .i64 0]) ?_ 4 _ rfl; (with_reducible repeat (first | refine blk_drewN ?_ _ | refine blk_drew ?_ | refine blk_alloc ?_ _)); refine blk_put (cs := #[.int .i64 0, .int .i64 0, .bool false, .int .i64 0, .int .i64 0, .int .i64 0]) ?_ 3 _ rfl; (with_reducible repeat (first | refine blk_drewN ?_ _ | refine blk_drew ?_ | refine blk_alloc ?_ _)); refine blk_put (cs := #[.int .i64 0, .int .i64 0, .bool false, .int .i64 0, .int .i64 0, .int .i64 0]) ?_ 2 _ rfl; (with_reducible repeat (first | refine blk_drewN ?_ _ | refine blk_drew ?_ | refine blk_alloc ?_ _)); refine blk_put (cs := #[.int .i64 0, .int .i64 0, .bool false, .int .i64 0, .int .i64 0, .int .i64 0]) ?_ 1 _ rfl; (with_reducible repeat (first | refine blk_drewN ?_ _ | refine blk_drew ?_ | refine blk_alloc ?_ _)); refine blk_put (cs := #[.int .i64 0, .int .i64 0, .bool false, .int .i64 0, .int .i64 0, .int .i64 0]) ?_ 0 _ rfl; (with_reducible repeat (first | refine blk_drewN ?_ _ | refine blk_drew ?_ | refine blk_alloc ?_ _)); exact BK223.out) Try.underlying85 rfl (by kernel_rfl)) rfl ?_
            exact ⟨by first | rfl | (simp [errW_none, errW_some] <;> rfl) | (simp [*, errW_none, errW_some] <;> rfl), by repeat (first | (with_reducible first | exact HB.out | apply below_alloc | apply pw_below_drewN | apply below_drew1 | refine below_set ?_ GE223.out) | exact HB.out)⟩
        · rw [if_neg c20] at H
          exact absurd H (by simp)
    · rw [if_neg c11] at H
      exact absurd H (by simp)

/-! ### head_bit: function 106 -/
def head_bit.f (a0 : Bool) : Option (Int) := if a0 = true then (some 1) else (some 0)
set_option maxHeartbeats 8000000 in
set_option maxRecDepth 100000 in
theorem head_bit.calls (a0 : Bool) (r : Int) (w : World) (h : head_bit.f a0 = some r) :
    Calls Try.prog 106 #[.bool a0] w fun e w' => e = .returned (.int .u64 r) ∧ Drawn0 w w' := by
  have H : (if a0 = true then (some 1) else (some 0)) = some r := h
  clear h
  by_cases c2 : a0 = true
  · subst c2
    have H1 : (some 1) = some r := by rw [if_pos rfl] at H; exact H
    clear H
    have H := H1
    clear H1
    obtain rfl := Option.some.inj H
    go_enter Try.func106, Try.ntmps106
    go_wp2
    go_ret
    exact ⟨by first | rfl | (simp; done) | (simp [*]; done), by repeat (first | exact Drawn0.refl _ | apply Drawn0.step)⟩
  · replace c2 := Bool.eq_false_iff.mpr c2
    subst c2
    have H1 : (some 0) = some r := by rw [if_neg (show ¬ (false = true) by decide)] at H; exact H
    clear H
    have H := H1
    clear H1
    obtain rfl := Option.some.inj H
    go_enter Try.func106, Try.ntmps106
    go_wp2
    go_ret
    exact ⟨by first | rfl | (simp; done) | (simp [*]; done), by repeat (first | exact Drawn0.refl _ | apply Drawn0.step)⟩

-- NOT PRINTED: function 100 (head_Pack)

/-! ### turn_Cycle: function 112 -/
def turn_Cycle.f (a0 : Int) : Option (Int) := some (IntKind.u64.wrap (Int.tdiv a0 4))
set_option maxHeartbeats 8000000 in
set_option maxRecDepth 100000 in
theorem turn_Cycle.calls (a0 : Int) (r : Int) (w : World) (h : turn_Cycle.f a0 = some r) :
    Calls Try.prog 112 #[.int .u64 a0] w fun e w' => e = .returned (.int .u64 r) ∧ Drawn0 w w' := by
  have H : (some (IntKind.u64.wrap (Int.tdiv a0 4))) = some r := h
  clear h
  obtain rfl := Option.some.inj H
  go_enter Try.func112, Try.ntmps112
  go_wp2
  go_ret
  exact ⟨by first | rfl | (simp; done) | (simp [*]; done), by repeat (first | exact Drawn0.refl _ | apply Drawn0.step)⟩

/-! ### turn_Black: function 107 -/
def turn_Black.f (a0 : Int) : Option (Int) := (turn_Cycle.f a0).bind fun t240 => (some (wrap64 (Int.tmod (IntKind.u64.wrap (t240 + 1)) 2)))
set_option maxHeartbeats 8000000 in
set_option maxRecDepth 100000 in
theorem turn_Black.calls (a0 : Int) (r : Int) (w : World) (h : turn_Black.f a0 = some r) :
    Calls Try.prog 107 #[.int .u64 a0] w fun e w' => e = .returned (.int .i64 r) ∧ Drawn0 w w' := by
  have H : ((turn_Cycle.f a0).bind fun t240 => (some (wrap64 (Int.tmod (IntKind.u64.wrap (t240 + 1)) 2)))) = some r := h
  clear h
  replace H := Option.bind_eq_some_iff.mp H
  obtain ⟨t240, A20, H⟩ := H
  replace H : (some (wrap64 (Int.tmod (IntKind.u64.wrap (t240 + 1)) 2))) = some r := H
  have A2 := Aside0.mk A20
  clear A20
  obtain rfl := Option.some.inj H
  go_enter Try.func107, Try.ntmps107
  go_wp2_with (first | ((with_reducible refine gate_callee (f := 112) rfl ?_); refine goesL_ (some 4) rfl rfl Try.func112 (by kernel_rfl) rfl #[.int .u64 a0] rfl (by (try simp only [List.map_toArray, List.map_cons, List.map_nil]); first | done | rfl | (simp only [List.length_drop, List.length_take]; rfl)) ?_; (with_reducible refine (turn_Cycle.calls a0 t240 _ A2.out).mono ?_); rintro e w' ⟨rfl, ⟨nd, rfl⟩⟩; refine ⟨_, rfl, ?_⟩))
  go_ret
  exact ⟨by first | rfl | (simp; done) | (simp [*]; done), by repeat (first | exact Drawn0.refl _ | apply Drawn0.step)⟩

/-! ### turn_Born: function 101 -/
def turn_Born.f (a0 : Int) : Option (Int) := if (Int.tmod a0 4) = 0 then ((turn_Black.f a0).bind fun t241 => (some (wrap64 (1 - t241)))) else ((turn_Black.f a0).bind fun t242 => (some t242))
set_option maxHeartbeats 8000000 in
set_option maxRecDepth 100000 in
theorem turn_Born.calls (a0 : Int) (r : Int) (w : World) (h : turn_Born.f a0 = some r) :
    Calls Try.prog 101 #[.int .u64 a0] w fun e w' => e = .returned (.int .i64 r) ∧ Drawn0 w w' := by
  have H : (if (Int.tmod a0 4) = 0 then ((turn_Black.f a0).bind fun t241 => (some (wrap64 (1 - t241)))) else ((turn_Black.f a0).bind fun t242 => (some t242))) = some r := h
  clear h
  by_cases c2 : (Int.tmod a0 4) = 0
  · rw [if_pos c2] at H
    have c2b0 : ((Int.tmod a0 4) == 0) = true := beq_iff_eq.mpr c2
    have c2b1 : ((Int.tmod a0 4) != 0) = false := bne_eq_false_iff_eq.mpr c2
    clear c2
    replace H := Option.bind_eq_some_iff.mp H
    obtain ⟨t241, A30, H⟩ := H
    replace H : (some (wrap64 (1 - t241))) = some r := H
    have A3 := Aside0.mk A30
    clear A30
    obtain rfl := Option.some.inj H
    go_enter Try.func101, Try.ntmps101
    go_wp2_with (first | ((with_reducible refine gate_callee (f := 107) rfl ?_); refine goesL_ (some 7) rfl rfl Try.func107 (by kernel_rfl) rfl #[.int .u64 a0] rfl (by (try simp only [List.map_toArray, List.map_cons, List.map_nil]); first | done | rfl | (simp only [List.length_drop, List.length_take]; rfl)) ?_; (with_reducible refine (turn_Black.calls a0 t241 _ A3.out).mono ?_); rintro e w' ⟨rfl, ⟨nd, rfl⟩⟩; refine ⟨_, rfl, ?_⟩))
    go_ret
    exact ⟨by first | rfl | (simp; done) | (simp [*]; done), by repeat (first | exact Drawn0.refl _ | apply Drawn0.step)⟩
  · rw [if_neg c2] at H
    have c2b0 : ((Int.tmod a0 4) == 0) = false := beq_eq_false_iff_ne.mpr c2
    have c2b1 : ((Int.tmod a0 4) != 0) = true := bne_iff_ne.mpr c2
    replace H := Option.bind_eq_some_iff.mp H
    obtain ⟨t242, A40, H⟩ := H
    replace H : (some t242) = some r := H
    have A4 := Aside0.mk A40
    clear A40
    obtain rfl := Option.some.inj H
    go_enter Try.func101, Try.ntmps101
    go_wp2_with (first | ((with_reducible refine gate_callee (f := 107) rfl ?_); refine goesL_ (some 10) rfl rfl Try.func107 (by kernel_rfl) rfl #[.int .u64 a0] rfl (by (try simp only [List.map_toArray, List.map_cons, List.map_nil]); first | done | rfl | (simp only [List.length_drop, List.length_take]; rfl)) ?_; (with_reducible refine (turn_Black.calls a0 t242 _ A4.out).mono ?_); rintro e w' ⟨rfl, ⟨nd, rfl⟩⟩; refine ⟨_, rfl, ?_⟩))
    go_ret
    exact ⟨by first | rfl | (simp; done) | (simp [*]; done), by repeat (first | exact Drawn0.refl _ | apply Drawn0.step)⟩

-- NOT PRINTED: function 87 (head_Made)

-- NOT PRINTED: function 52 (arena_Make_Step)

-- NOT PRINTED: function 54 (arena_NewFree)

/-! ### withyref04_Pack: function 58 -/
def withyref04_Pack.f (a0_0 : Int) (a0_1 : Int) (a0_2 : Bool) (a0_3 : Int) (a0_4 : Int) (a0_5 : Int) : Option (Int) := if a0_2 = true then (some (IntKind.u64.wrap ((IntKind.u64.wrap ((IntKind.u64.wrap ((IntKind.u64.wrap ((IntKind.u64.wrap ((IntKind.u64.wrap (a0_0)) + (IntKind.u64.wrap (8 * (IntKind.u64.wrap (a0_1)))))) + (IntKind.u64.wrap (32 * (IntKind.u64.wrap (a0_3)))))) + (IntKind.u64.wrap (65536 * (IntKind.u64.wrap (a0_4)))))) + (IntKind.u64.wrap (281474976710656 * (IntKind.u64.wrap (a0_5)))))) + 16))) else (some (IntKind.u64.wrap ((IntKind.u64.wrap ((IntKind.u64.wrap ((IntKind.u64.wrap ((IntKind.u64.wrap (a0_0)) + (IntKind.u64.wrap (8 * (IntKind.u64.wrap (a0_1)))))) + (IntKind.u64.wrap (32 * (IntKind.u64.wrap (a0_3)))))) + (IntKind.u64.wrap (65536 * (IntKind.u64.wrap (a0_4)))))) + (IntKind.u64.wrap (281474976710656 * (IntKind.u64.wrap (a0_5)))))))
set_option maxHeartbeats 8000000 in
set_option maxRecDepth 100000 in
theorem withyref04_Pack.calls (a0_0 : Int) (a0_1 : Int) (a0_2 : Bool) (a0_3 : Int) (a0_4 : Int) (a0_5 : Int) (r : Int) (w : World) (h : withyref04_Pack.f a0_0 a0_1 a0_2 a0_3 a0_4 a0_5 = some r) :
    Calls Try.prog 58 #[.agg #[.int .i64 a0_0, .int .i64 a0_1, .bool a0_2, .int .i64 a0_3, .int .i64 a0_4, .int .i64 a0_5]] w fun e w' => e = .returned (.int .u64 r) ∧ Below w.heap.size w w' := by
  have hu85 := Try.underlying85
  have HB := Aside0.mk (Below.refl w.heap.size w)
  have H : (if a0_2 = true then (some (IntKind.u64.wrap ((IntKind.u64.wrap ((IntKind.u64.wrap ((IntKind.u64.wrap ((IntKind.u64.wrap ((IntKind.u64.wrap (a0_0)) + (IntKind.u64.wrap (8 * (IntKind.u64.wrap (a0_1)))))) + (IntKind.u64.wrap (32 * (IntKind.u64.wrap (a0_3)))))) + (IntKind.u64.wrap (65536 * (IntKind.u64.wrap (a0_4)))))) + (IntKind.u64.wrap (281474976710656 * (IntKind.u64.wrap (a0_5)))))) + 16))) else (some (IntKind.u64.wrap ((IntKind.u64.wrap ((IntKind.u64.wrap ((IntKind.u64.wrap ((IntKind.u64.wrap (a0_0)) + (IntKind.u64.wrap (8 * (IntKind.u64.wrap (a0_1)))))) + (IntKind.u64.wrap (32 * (IntKind.u64.wrap (a0_3)))))) + (IntKind.u64.wrap (65536 * (IntKind.u64.wrap (a0_4)))))) + (IntKind.u64.wrap (281474976710656 * (IntKind.u64.wrap (a0_5)))))))) = some r := h
  clear h
  by_cases c2 : a0_2 = true
  · subst c2
    have H1 : (some (IntKind.u64.wrap ((IntKind.u64.wrap ((IntKind.u64.wrap ((IntKind.u64.wrap ((IntKind.u64.wrap ((IntKind.u64.wrap (a0_0)) + (IntKind.u64.wrap (8 * (IntKind.u64.wrap (a0_1)))))) + (IntKind.u64.wrap (32 * (IntKind.u64.wrap (a0_3)))))) + (IntKind.u64.wrap (65536 * (IntKind.u64.wrap (a0_4)))))) + (IntKind.u64.wrap (281474976710656 * (IntKind.u64.wrap (a0_5)))))) + 16))) = some r := by rw [if_pos rfl] at H; exact H
    clear H
    have H := H1
    clear H1
    obtain rfl := Option.some.inj H
    go_enter Try.func58, Try.ntmps58
    go_wp2_with (first | ((with_reducible refine gate_dst (N := 1) rfl ?_); refine box_event ?hg (N := 1) ?hd (cs := #[.int .i64 a0_0, .int .i64 a0_1, .bool true, .int .i64 a0_3, .int .i64 a0_4, .int .i64 a0_5]) (t := 85) ?hr ?_; (case hd => rfl); (case hg => rfl); (case hr => first | (go_simp; done) | (go_simp; rfl)); intro gb244 hg w3 hbox hb; have n0_ := Aside0.mk (below_step (by repeat (first | (with_reducible first | exact HB.out | apply below_alloc | apply pw_below_drewN | apply below_drew1) | exact HB.out)) hb); have n1_ := Aside0.mk (hbox); have n2_ := Aside0.mk ((by rw [hg]; exact (below_size (by repeat (first | (with_reducible first | exact HB.out | apply below_alloc | apply pw_below_drewN | apply below_drew1) | exact HB.out))) : w.heap.size ≤ gb244)); have n3_ := Aside0.mk ((by rw [hg]; exact (below_size (by repeat (first | (with_reducible first | exact HB.out | apply below_alloc | apply pw_below_drewN | apply below_drew1) | exact HB.out))) : w.heap.size ≤ gb244)); clear HB; have HB := n0_; have BK244 := n1_; have GW244 := n2_; have GE244 := n3_; clear n0_ n1_ n2_ n3_; clear hb hbox hg; have hcz4_0 : w3.cell? ⟨gb244, 0, none⟩ = some (.int .i64 a0_0) := (blk_cell BK244.out 0).trans rfl; have hcz4_1 : w3.cell? ⟨gb244, 1, none⟩ = some (.int .i64 a0_1) := (blk_cell BK244.out 1).trans rfl; have hcz4_2 : w3.cell? ⟨gb244, 2, none⟩ = some (.bool true) := (blk_cell BK244.out 2).trans rfl; have hcz4_3 : w3.cell? ⟨gb244, 3, none⟩ = some (.int .i64 a0_3) := (blk_cell BK244.out 3).trans rfl; have hcz4_4 : w3.cell? ⟨gb244, 4, none⟩ = some (.int .i64 a0_4) := (blk_cell BK244.out 4).trans rfl; have hcz4_5 : w3.cell? ⟨gb244, 5, none⟩ = some (.int .i64 a0_5) := (blk_cell BK244.out 5).trans rfl; have hfz4_0 := blk_frozen BK244.out 0; have hfz4_1 := blk_frozen BK244.out 1; have hfz4_2 := blk_frozen BK244.out 2; have hfz4_3 := blk_frozen BK244.out 3; have hfz4_4 := blk_frozen BK244.out 4; have hfz4_5 := blk_frozen BK244.out 5))
    go_ret
    exact ⟨by first | rfl | (simp [errW_none, errW_some] <;> rfl) | (simp [*, errW_none, errW_some] <;> rfl), by repeat (first | (with_reducible first | exact HB.out | apply below_alloc | apply pw_below_drewN | apply below_drew1 | refine below_set ?_ GE244.out) | exact HB.out)⟩
  · replace c2 := Bool.eq_false_iff.mpr c2
    subst c2
    have H1 : (some (IntKind.u64.wrap ((IntKind.u64.wrap ((IntKind.u64.wrap ((IntKind.u64.wrap ((IntKind.u64.wrap (a0_0)) + (IntKind.u64.wrap (8 * (IntKind.u64.wrap (a0_1)))))) + (IntKind.u64.wrap (32 * (IntKind.u64.wrap (a0_3)))))) + (IntKind.u64.wrap (65536 * (IntKind.u64.wrap (a0_4)))))) + (IntKind.u64.wrap (281474976710656 * (IntKind.u64.wrap (a0_5))))))) = some r := by rw [if_neg (show ¬ (false = true) by decide)] at H; exact H
    clear H
    have H := H1
    clear H1
    obtain rfl := Option.some.inj H
    go_enter Try.func58, Try.ntmps58
    go_wp2_with (first | ((with_reducible refine gate_dst (N := 1) rfl ?_); refine box_event ?hg (N := 1) ?hd (cs := #[.int .i64 a0_0, .int .i64 a0_1, .bool false, .int .i64 a0_3, .int .i64 a0_4, .int .i64 a0_5]) (t := 85) ?hr ?_; (case hd => rfl); (case hg => rfl); (case hr => first | (go_simp; done) | (go_simp; rfl)); intro gb244 hg w5 hbox hb; have n0_ := Aside0.mk (below_step (by repeat (first | (with_reducible first | exact HB.out | apply below_alloc | apply pw_below_drewN | apply below_drew1) | exact HB.out)) hb); have n1_ := Aside0.mk (hbox); have n2_ := Aside0.mk ((by rw [hg]; exact (below_size (by repeat (first | (with_reducible first | exact HB.out | apply below_alloc | apply pw_below_drewN | apply below_drew1) | exact HB.out))) : w.heap.size ≤ gb244)); have n3_ := Aside0.mk ((by rw [hg]; exact (below_size (by repeat (first | (with_reducible first | exact HB.out | apply below_alloc | apply pw_below_drewN | apply below_drew1) | exact HB.out))) : w.heap.size ≤ gb244)); clear HB; have HB := n0_; have BK244 := n1_; have GW244 := n2_; have GE244 := n3_; clear n0_ n1_ n2_ n3_; clear hb hbox hg; have hcz6_0 : w5.cell? ⟨gb244, 0, none⟩ = some (.int .i64 a0_0) := (blk_cell BK244.out 0).trans rfl; have hcz6_1 : w5.cell? ⟨gb244, 1, none⟩ = some (.int .i64 a0_1) := (blk_cell BK244.out 1).trans rfl; have hcz6_2 : w5.cell? ⟨gb244, 2, none⟩ = some (.bool false) := (blk_cell BK244.out 2).trans rfl; have hcz6_3 : w5.cell? ⟨gb244, 3, none⟩ = some (.int .i64 a0_3) := (blk_cell BK244.out 3).trans rfl; have hcz6_4 : w5.cell? ⟨gb244, 4, none⟩ = some (.int .i64 a0_4) := (blk_cell BK244.out 4).trans rfl; have hcz6_5 : w5.cell? ⟨gb244, 5, none⟩ = some (.int .i64 a0_5) := (blk_cell BK244.out 5).trans rfl; have hfz6_0 := blk_frozen BK244.out 0; have hfz6_1 := blk_frozen BK244.out 1; have hfz6_2 := blk_frozen BK244.out 2; have hfz6_3 := blk_frozen BK244.out 3; have hfz6_4 := blk_frozen BK244.out 4; have hfz6_5 := blk_frozen BK244.out 5))
    go_ret
    exact ⟨by first | rfl | (simp [errW_none, errW_some] <;> rfl) | (simp [*, errW_none, errW_some] <;> rfl), by repeat (first | (with_reducible first | exact HB.out | apply below_alloc | apply pw_below_drewN | apply below_drew1 | refine below_set ?_ GE244.out) | exact HB.out)⟩

-- NOT PRINTED: function 46 (stack_NewPush)

-- NOT PRINTED: function 47 (stack_Push_Step)

-- NOT PRINTED: function 88 (head_Freed)

-- NOT PRINTED: function 59 (arena_Free_Step)

-- NOT PRINTED: function 53 (withylaw12_awake)

-- NOT PRINTED: function 26 (mem_Mem_Touches)

/-! ### withyref04_Unpack: function 62 -/
def withyref04_Unpack.f (a0 : Int) : Option (Int × Int × Bool × Int × Int × Int × Bool) := if (wrap64 (Int.tmod a0 8)) > 4 then (some (0, 0, false, 0, 0, 0, false)) else (if (Int.tmod (IntKind.u64.wrap (Int.tdiv a0 512)) 128) = 0 then (some (wrap64 (Int.tmod a0 8), wrap64 (Int.tmod (IntKind.u64.wrap (Int.tdiv a0 8)) 2), ((Int.tmod (IntKind.u64.wrap (Int.tdiv a0 16)) 2) == 1), wrap64 (Int.tmod (IntKind.u64.wrap (Int.tdiv a0 32)) 16), wrap64 (Int.tmod (IntKind.u64.wrap (Int.tdiv a0 65536)) 4294967296), wrap64 (IntKind.u64.wrap (Int.tdiv a0 281474976710656)), true)) else (some (0, 0, false, 0, 0, 0, false)))
set_option maxHeartbeats 8000000 in
set_option maxRecDepth 100000 in
theorem withyref04_Unpack.calls (a0 : Int) (r1 : Int) (r2 : Int) (r3 : Bool) (r4 : Int) (r5 : Int) (r6 : Int) (r7 : Bool) (w : World) (h : withyref04_Unpack.f a0 = some (r1, r2, r3, r4, r5, r6, r7)) :
    Calls Try.prog 62 #[.int .u64 a0] w fun e w' => e = .returned (.tuple #[.agg #[.int .i64 r1, .int .i64 r2, .bool r3, .int .i64 r4, .int .i64 r5, .int .i64 r6], .bool r7]) ∧ Below w.heap.size w w' := by
  have hu85 := Try.underlying85
  have HB := Aside0.mk (Below.refl w.heap.size w)
  have H : (if (wrap64 (Int.tmod a0 8)) > 4 then (some (0, 0, false, 0, 0, 0, false)) else (if (Int.tmod (IntKind.u64.wrap (Int.tdiv a0 512)) 128) = 0 then (some (wrap64 (Int.tmod a0 8), wrap64 (Int.tmod (IntKind.u64.wrap (Int.tdiv a0 8)) 2), ((Int.tmod (IntKind.u64.wrap (Int.tdiv a0 16)) 2) == 1), wrap64 (Int.tmod (IntKind.u64.wrap (Int.tdiv a0 32)) 16), wrap64 (Int.tmod (IntKind.u64.wrap (Int.tdiv a0 65536)) 4294967296), wrap64 (IntKind.u64.wrap (Int.tdiv a0 281474976710656)), true)) else (some (0, 0, false, 0, 0, 0, false)))) = some (r1, r2, r3, r4, r5, r6, r7) := h
  clear h
  by_cases c2 : (wrap64 (Int.tmod a0 8)) > 4
  · rw [if_pos c2] at H
    have c2b0 : decide (4 < (wrap64 (Int.tmod a0 8))) = true := decide_eq_true c2
    clear c2
    simp only [Option.some.injEq, Prod.mk.injEq] at H
    obtain ⟨rfl, rfl, rfl, rfl, rfl, rfl, rfl⟩ := H
    go_enter Try.func62, Try.ntmps62
    go_wp2_with (first | ((with_reducible refine gate_dst (N := 2) rfl ?_); refine box_event ?hg (N := 2) ?hd (cs := #[.int .i64 0, .int .i64 0, .bool false, .int .i64 0, .int .i64 0, .int .i64 0]) (t := 85) ?hr ?_; (case hd => rfl); (case hg => rfl); (case hr => first | (go_simp; done) | (go_simp; rfl)); intro gb256 hg w3 hbox hb; have n0_ := Aside0.mk (below_step (by repeat (first | (with_reducible first | exact HB.out | apply below_alloc | apply pw_below_drewN | apply below_drew1) | exact HB.out)) hb); have n1_ := Aside0.mk (hbox); have n2_ := Aside0.mk ((by rw [hg]; exact (below_size (by repeat (first | (with_reducible first | exact HB.out | apply below_alloc | apply pw_below_drewN | apply below_drew1) | exact HB.out))) : w.heap.size ≤ gb256)); have n3_ := Aside0.mk ((by rw [hg]; exact (below_size (by repeat (first | (with_reducible first | exact HB.out | apply below_alloc | apply pw_below_drewN | apply below_drew1) | exact HB.out))) : w.heap.size ≤ gb256)); clear HB; have HB := n0_; have BK256 := n1_; have GW256 := n2_; have GE256 := n3_; clear n0_ n1_ n2_ n3_; clear hb hbox hg) | ((with_reducible refine gate_dst (N := 4) rfl ?_); refine box_event ?hg (N := 4) ?hd (cs := #[.int .i64 0, .int .i64 0, .bool false, .int .i64 0, .int .i64 0, .int .i64 0]) (t := 85) ?hr ?_; (case hd => rfl); (case hg => rfl); (case hr => first | (go_simp; done) | (go_simp; rfl)); intro gb257 hg w4 hbox hb; have n0_ := Aside0.mk (blk_below (g := gb256) (o := .cells #[.int .i64 0, .int .i64 0, .bool false, .int .i64 0, .int .i64 0, .int .i64 0] 85 (0, 0)) (by (with_reducible repeat (first | refine blk_drewN ?_ _ | refine blk_drew ?_ | refine blk_alloc ?_ _)); exact BK256.out) hb); have n1_ := Aside0.mk (below_step (by repeat (first | (with_reducible first | exact HB.out | apply below_alloc | apply pw_below_drewN | apply below_drew1 | refine below_set ?_ GE256.out) | exact HB.out)) hb); have n2_ := Aside0.mk (hbox); have n3_ := Aside0.mk ((by rw [hg]; exact (below_size (by repeat (first | (with_reducible first | exact HB.out | apply below_alloc | apply pw_below_drewN | apply below_drew1 | refine below_set ?_ GE256.out) | exact HB.out))) : w.heap.size ≤ gb257)); have n4_ := Aside0.mk ((by rw [hg]; exact (below_size (by repeat (first | (with_reducible first | exact HB.out | apply below_alloc | apply pw_below_drewN | apply below_drew1 | refine below_set ?_ GE256.out) | exact HB.out))) : w.heap.size ≤ gb257)); have n5_ := Aside0.mk ((by rw [hg]; exact Nat.ne_of_lt (blk_lt (g := gb256) (o := .cells #[.int .i64 0, .int .i64 0, .bool false, .int .i64 0, .int .i64 0, .int .i64 0] 85 (0, 0)) (by (with_reducible repeat (first | refine blk_drewN ?_ _ | refine blk_drew ?_ | refine blk_alloc ?_ _)); exact BK256.out)) : gb256 ≠ gb257)); have n6_ := Aside0.mk ((by rw [hg]; exact Nat.ne_of_gt (blk_lt (g := gb256) (o := .cells #[.int .i64 0, .int .i64 0, .bool false, .int .i64 0, .int .i64 0, .int .i64 0] 85 (0, 0)) (by (with_reducible repeat (first | refine blk_drewN ?_ _ | refine blk_drew ?_ | refine blk_alloc ?_ _)); exact BK256.out)) : gb257 ≠ gb256)); clear BK256; clear HB; have BK256 := n0_; have HB := n1_; have BK257 := n2_; have GW257 := n3_; have GE257 := n4_; have NB256_257 := n5_; have NB257_256 := n6_; clear n0_ n1_ n2_ n3_ n4_ n5_ n6_; clear hb hbox hg; have hnb5 := NB257_256.out; have hnc5 := NB256_257.out; have hcz6_0 : w4.cell? ⟨gb257, 0, none⟩ = some (.int .i64 0) := (blk_cell BK257.out 0).trans rfl; have hcz6_1 : w4.cell? ⟨gb257, 1, none⟩ = some (.int .i64 0) := (blk_cell BK257.out 1).trans rfl; have hcz6_2 : w4.cell? ⟨gb257, 2, none⟩ = some (.bool false) := (blk_cell BK257.out 2).trans rfl; have hcz6_3 : w4.cell? ⟨gb257, 3, none⟩ = some (.int .i64 0) := (blk_cell BK257.out 3).trans rfl; have hcz6_4 : w4.cell? ⟨gb257, 4, none⟩ = some (.int .i64 0) := (blk_cell BK257.out 4).trans rfl; have hcz6_5 : w4.cell? ⟨gb257, 5, none⟩ = some (.int .i64 0) := (blk_cell BK257.out 5).trans rfl; have hfz6_0 := blk_frozen BK257.out 0; have hfz6_1 := blk_frozen BK257.out 1; have hfz6_2 := blk_frozen BK257.out 2; have hfz6_3 := blk_frozen BK257.out 3; have hfz6_4 := blk_frozen BK257.out 4; have hfz6_5 := blk_frozen BK257.out 5; have hcz7_0 : w4.cell? ⟨gb256, 0, none⟩ = some (.int .i64 0) := (blk_cell BK256.out 0).trans rfl; have hcz7_1 : w4.cell? ⟨gb256, 1, none⟩ = some (.int .i64 0) := (blk_cell BK256.out 1).trans rfl; have hcz7_2 : w4.cell? ⟨gb256, 2, none⟩ = some (.bool false) := (blk_cell BK256.out 2).trans rfl; have hcz7_3 : w4.cell? ⟨gb256, 3, none⟩ = some (.int .i64 0) := (blk_cell BK256.out 3).trans rfl; have hcz7_4 : w4.cell? ⟨gb256, 4, none⟩ = some (.int .i64 0) := (blk_cell BK256.out 4).trans rfl; have hcz7_5 : w4.cell? ⟨gb256, 5, none⟩ = some (.int .i64 0) := (blk_cell BK256.out 5).trans rfl; have hfz7_0 := blk_frozen BK256.out 0; have hfz7_1 := blk_frozen BK256.out 1; have hfz7_2 := blk_frozen BK256.out 2; have hfz7_3 := blk_frozen BK256.out 3; have hfz7_4 := blk_frozen BK256.out 4; have hfz7_5 := blk_frozen BK256.out 5))
    refine bodyPost_ret (results_ct rfl _ _ gb256 85 #[.int .i64 0, .int .i64 0, .bool false, .int .i64 0, .int .i64 0, .int .i64 0] (0, 0) _ rfl (by (with_reducible repeat (first | refine blk_drewN ?_ _ | refine blk_drew ?_ | refine blk_alloc ?_ _)); refine blk_put (cs := #[.int .i64 0, .int .i64 0, .bool false, .int .i64 0, .int .i64 0, .int .i64 0]) ?_ 5 _ rfl; (with_reducible repeat (first | refine blk_drewN ?_ _ | refine blk_drew ?_ | refine blk_alloc ?_ _)); refine blk_put (cs := #[.int .i64 0, .int .i64 0, .bool false, .int .i64 0, .int .i64 0, .int .i64 0]) ?_ 4 _ rfl; (with_reducible repeat (first | refine blk_drewN ?_ _ | refine blk_drew ?_ | refine blk_alloc ?_ _)); refine blk_put (cs := #[.int .i64 0, .int .i64 0, .bool false, .int .i64 0, .int .i64 0, .int .i64 0]) ?_ 3 _ rfl; (with_reducible repeat (first | refine blk_drewN ?_ _ | refine blk_drew ?_ | refine blk_alloc ?_ _)); refine blk_put (cs := #[.int .i64 0, .int .i64 0, .bool false, .int .i64 0, .int .i64 0, .int .i64 0]) ?_ 2 _ rfl; (with_reducible repeat (first | refine blk_drewN ?_ _ | refine blk_drew ?_ | refine blk_alloc ?_ _)); refine blk_put (cs := #[.int .i64 0, .int .i64 0, .bool false, .int .i64 0, .int .i64 0, .int .i64 0]) ?_ 1 _ rfl; (with_reducible repeat (first | refine blk_drewN ?_ _ | refine blk_drew ?_ | refine blk_alloc ?_ _)); refine blk_put (cs := #[.int .i64 0, .int .i64 0, .bool false, .int .i64 0, .int .i64 0, .int .i64 0]) ?_ 0 _ rfl; (with_reducible repeat (first | refine blk_drewN ?_ _ | refine blk_drew ?_ | refine blk_alloc ?_ _)); refine blk_far ?_ NB256_257.out _; (with_reducible repeat (first | refine blk_drewN ?_ _ | refine blk_drew ?_ | refine blk_alloc ?_ _)); refine blk_far ?_ NB256_257.out _; (with_reducible repeat (first | refine blk_drewN ?_ _ | refine blk_drew ?_ | refine blk_alloc ?_ _)); refine blk_far ?_ NB256_257.out _; (with_reducible repeat (first | refine blk_drewN ?_ _ | refine blk_drew ?_ | refine blk_alloc ?_ _)); refine blk_far ?_ NB256_257.out _; (with_reducible repeat (first | refine blk_drewN ?_ _ | refine blk_drew ?_ | refine blk_alloc ?_ _)); refine blk_far ?_ NB256_257.out _; (with_reducible repeat (first | refine blk_drewN ?_ _ | refine blk_drew ?_ | refine blk_alloc ?_ _)); refine blk_far ?_ NB256_257.out _; (with_reducible repeat (first | refine blk_drewN ?_ _ | refine blk_drew ?_ | refine blk_alloc ?_ _)); exact BK256.out) Try.underlying85 rfl (by kernel_rfl)) rfl ?_
    exact ⟨by first | rfl | (simp [errW_none, errW_some] <;> rfl) | (simp [*, errW_none, errW_some] <;> rfl), by repeat (first | (with_reducible first | exact HB.out | apply below_alloc | apply pw_below_drewN | apply below_drew1 | refine below_set ?_ GE256.out | refine below_set ?_ GE257.out) | exact HB.out)⟩
  · rw [if_neg c2] at H
    have c2b0 : decide (4 < (wrap64 (Int.tmod a0 8))) = false := decide_eq_false c2
    clear c2
    by_cases c8 : (Int.tmod (IntKind.u64.wrap (Int.tdiv a0 512)) 128) = 0
    · rw [if_pos c8] at H
      have c8b0 : ((Int.tmod (IntKind.u64.wrap (Int.tdiv a0 512)) 128) == 0) = true := beq_iff_eq.mpr c8
      have c8b1 : ((Int.tmod (IntKind.u64.wrap (Int.tdiv a0 512)) 128) != 0) = false := bne_eq_false_iff_eq.mpr c8
      clear c8
      simp only [Option.some.injEq, Prod.mk.injEq] at H
      obtain ⟨rfl, rfl, rfl, rfl, rfl, rfl, rfl⟩ := H
      go_enter Try.func62, Try.ntmps62
      go_wp2_with (first | ((with_reducible refine gate_dst (N := 2) rfl ?_); refine box_event ?hg (N := 2) ?hd (cs := #[.int .i64 0, .int .i64 0, .bool false, .int .i64 0, .int .i64 0, .int .i64 0]) (t := 85) ?hr ?_; (case hd => rfl); (case hg => rfl); (case hr => first | (go_simp; done) | (go_simp; rfl)); intro gb256 hg w9 hbox hb; have n0_ := Aside0.mk (below_step (by repeat (first | (with_reducible first | exact HB.out | apply below_alloc | apply pw_below_drewN | apply below_drew1) | exact HB.out)) hb); have n1_ := Aside0.mk (hbox); have n2_ := Aside0.mk ((by rw [hg]; exact (below_size (by repeat (first | (with_reducible first | exact HB.out | apply below_alloc | apply pw_below_drewN | apply below_drew1) | exact HB.out))) : w.heap.size ≤ gb256)); have n3_ := Aside0.mk ((by rw [hg]; exact (below_size (by repeat (first | (with_reducible first | exact HB.out | apply below_alloc | apply pw_below_drewN | apply below_drew1) | exact HB.out))) : w.heap.size ≤ gb256)); clear HB; have HB := n0_; have BK256 := n1_; have GW256 := n2_; have GE256 := n3_; clear n0_ n1_ n2_ n3_; clear hb hbox hg) | ((with_reducible refine gate_dst (N := 4) rfl ?_); refine box_event ?hg (N := 4) ?hd (cs := #[.int .i64 0, .int .i64 0, .bool false, .int .i64 0, .int .i64 0, .int .i64 0]) (t := 85) ?hr ?_; (case hd => rfl); (case hg => rfl); (case hr => first | (go_simp; done) | (go_simp; rfl)); intro gb257 hg w10 hbox hb; have n0_ := Aside0.mk (blk_below (g := gb256) (o := .cells #[.int .i64 0, .int .i64 0, .bool false, .int .i64 0, .int .i64 0, .int .i64 0] 85 (0, 0)) (by (with_reducible repeat (first | refine blk_drewN ?_ _ | refine blk_drew ?_ | refine blk_alloc ?_ _)); exact BK256.out) hb); have n1_ := Aside0.mk (below_step (by repeat (first | (with_reducible first | exact HB.out | apply below_alloc | apply pw_below_drewN | apply below_drew1 | refine below_set ?_ GE256.out) | exact HB.out)) hb); have n2_ := Aside0.mk (hbox); have n3_ := Aside0.mk ((by rw [hg]; exact (below_size (by repeat (first | (with_reducible first | exact HB.out | apply below_alloc | apply pw_below_drewN | apply below_drew1 | refine below_set ?_ GE256.out) | exact HB.out))) : w.heap.size ≤ gb257)); have n4_ := Aside0.mk ((by rw [hg]; exact (below_size (by repeat (first | (with_reducible first | exact HB.out | apply below_alloc | apply pw_below_drewN | apply below_drew1 | refine below_set ?_ GE256.out) | exact HB.out))) : w.heap.size ≤ gb257)); have n5_ := Aside0.mk ((by rw [hg]; exact Nat.ne_of_lt (blk_lt (g := gb256) (o := .cells #[.int .i64 0, .int .i64 0, .bool false, .int .i64 0, .int .i64 0, .int .i64 0] 85 (0, 0)) (by (with_reducible repeat (first | refine blk_drewN ?_ _ | refine blk_drew ?_ | refine blk_alloc ?_ _)); exact BK256.out)) : gb256 ≠ gb257)); have n6_ := Aside0.mk ((by rw [hg]; exact Nat.ne_of_gt (blk_lt (g := gb256) (o := .cells #[.int .i64 0, .int .i64 0, .bool false, .int .i64 0, .int .i64 0, .int .i64 0] 85 (0, 0)) (by (with_reducible repeat (first | refine blk_drewN ?_ _ | refine blk_drew ?_ | refine blk_alloc ?_ _)); exact BK256.out)) : gb257 ≠ gb256)); clear BK256; clear HB; have BK256 := n0_; have HB := n1_; have BK257 := n2_; have GW257 := n3_; have GE257 := n4_; have NB256_257 := n5_; have NB257_256 := n6_; clear n0_ n1_ n2_ n3_ n4_ n5_ n6_; clear hb hbox hg; have hnb11 := NB257_256.out; have hnc11 := NB256_257.out; have hcz12_0 : w10.cell? ⟨gb257, 0, none⟩ = some (.int .i64 0) := (blk_cell BK257.out 0).trans rfl; have hcz12_1 : w10.cell? ⟨gb257, 1, none⟩ = some (.int .i64 0) := (blk_cell BK257.out 1).trans rfl; have hcz12_2 : w10.cell? ⟨gb257, 2, none⟩ = some (.bool false) := (blk_cell BK257.out 2).trans rfl; have hcz12_3 : w10.cell? ⟨gb257, 3, none⟩ = some (.int .i64 0) := (blk_cell BK257.out 3).trans rfl; have hcz12_4 : w10.cell? ⟨gb257, 4, none⟩ = some (.int .i64 0) := (blk_cell BK257.out 4).trans rfl; have hcz12_5 : w10.cell? ⟨gb257, 5, none⟩ = some (.int .i64 0) := (blk_cell BK257.out 5).trans rfl; have hfz12_0 := blk_frozen BK257.out 0; have hfz12_1 := blk_frozen BK257.out 1; have hfz12_2 := blk_frozen BK257.out 2; have hfz12_3 := blk_frozen BK257.out 3; have hfz12_4 := blk_frozen BK257.out 4; have hfz12_5 := blk_frozen BK257.out 5; have hcz13_0 : w10.cell? ⟨gb256, 0, none⟩ = some (.int .i64 0) := (blk_cell BK256.out 0).trans rfl; have hcz13_1 : w10.cell? ⟨gb256, 1, none⟩ = some (.int .i64 0) := (blk_cell BK256.out 1).trans rfl; have hcz13_2 : w10.cell? ⟨gb256, 2, none⟩ = some (.bool false) := (blk_cell BK256.out 2).trans rfl; have hcz13_3 : w10.cell? ⟨gb256, 3, none⟩ = some (.int .i64 0) := (blk_cell BK256.out 3).trans rfl; have hcz13_4 : w10.cell? ⟨gb256, 4, none⟩ = some (.int .i64 0) := (blk_cell BK256.out 4).trans rfl; have hcz13_5 : w10.cell? ⟨gb256, 5, none⟩ = some (.int .i64 0) := (blk_cell BK256.out 5).trans rfl; have hfz13_0 := blk_frozen BK256.out 0; have hfz13_1 := blk_frozen BK256.out 1; have hfz13_2 := blk_frozen BK256.out 2; have hfz13_3 := blk_frozen BK256.out 3; have hfz13_4 := blk_frozen BK256.out 4; have hfz13_5 := blk_frozen BK256.out 5))
      refine bodyPost_ret (results_ct rfl _ _ gb256 85 #[.int .i64 (wrap64 (Int.tmod a0 8)), .int .i64 (wrap64 (Int.tmod (IntKind.u64.wrap (Int.tdiv a0 8)) 2)), .bool ((Int.tmod (IntKind.u64.wrap (Int.tdiv a0 16)) 2) == 1), .int .i64 (wrap64 (Int.tmod (IntKind.u64.wrap (Int.tdiv a0 32)) 16)), .int .i64 (wrap64 (Int.tmod (IntKind.u64.wrap (Int.tdiv a0 65536)) 4294967296)), .int .i64 (wrap64 (IntKind.u64.wrap (Int.tdiv a0 281474976710656)))] (0, 0) _ rfl (by (with_reducible repeat (first | refine blk_drewN ?_ _ | refine blk_drew ?_ | refine blk_alloc ?_ _)); refine blk_put (cs := #[.int .i64 (wrap64 (Int.tmod a0 8)), .int .i64 (wrap64 (Int.tmod (IntKind.u64.wrap (Int.tdiv a0 8)) 2)), .bool ((Int.tmod (IntKind.u64.wrap (Int.tdiv a0 16)) 2) == 1), .int .i64 (wrap64 (Int.tmod (IntKind.u64.wrap (Int.tdiv a0 32)) 16)), .int .i64 (wrap64 (Int.tmod (IntKind.u64.wrap (Int.tdiv a0 65536)) 4294967296)), .int .i64 0]) ?_ 5 _ rfl; (with_reducible repeat (first | refine blk_drewN ?_ _ | refine blk_drew ?_ | refine blk_alloc ?_ _)); refine blk_put (cs := #[.int .i64 (wrap64 (Int.tmod a0 8)), .int .i64 (wrap64 (Int.tmod (IntKind.u64.wrap (Int.tdiv a0 8)) 2)), .bool ((Int.tmod (IntKind.u64.wrap (Int.tdiv a0 16)) 2) == 1), .int .i64 (wrap64 (Int.tmod (IntKind.u64.wrap (Int.tdiv a0 32)) 16)), .int .i64 0, .int .i64 0]) ?_ 4 _ rfl; (with_reducible repeat (first | refine blk_drewN ?_ _ | refine blk_drew ?_ | refine blk_alloc ?_ _)); refine blk_put (cs := #[.int .i64 (wrap64 (Int.tmod a0 8)), .int .i64 (wrap64 (Int.tmod (IntKind.u64.wrap (Int.tdiv a0 8)) 2)), .bool ((Int.tmod (IntKind.u64.wrap (Int.tdiv a0 16)) 2) == 1), .int .i64 0, .int .i64 0, .int .i64 0]) ?_ 3 _ rfl; (with_reducible repeat (first | refine blk_drewN ?_ _ | refine blk_drew ?_ | refine blk_alloc ?_ _)); refine blk_put (cs := #[.int .i64 (wrap64 (Int.tmod a0 8)), .int .i64 (wrap64 (Int.tmod (IntKind.u64.wrap (Int.tdiv a0 8)) 2)), .bool false, .int .i64 0, .int .i64 0, .int .i64 0]) ?_ 2 _ rfl; (with_reducible repeat (first | refine blk_drewN ?_ _ | refine blk_drew ?_ | refine blk_alloc ?_ _)); refine blk_put (cs := #[.int .i64 (wrap64 (Int.tmod a0 8)), .int .i64 0, .bool false, .int .i64 0, .int .i64 0, .int .i64 0]) ?_ 1 _ rfl; (with_reducible repeat (first | refine blk_drewN ?_ _ | refine blk_drew ?_ | refine blk_alloc ?_ _)); refine blk_put (cs := #[.int .i64 0, .int .i64 0, .bool false, .int .i64 0, .int .i64 0, .int .i64 0]) ?_ 0 _ rfl; (with_reducible repeat (first | refine blk_drewN ?_ _ | refine blk_drew ?_ | refine blk_alloc ?_ _)); refine blk_far ?_ NB256_257.out _; (with_reducible repeat (first | refine blk_drewN ?_ _ | refine blk_drew ?_ | refine blk_alloc ?_ _)); refine blk_far ?_ NB256_257.out _; (with_reducible repeat (first | refine blk_drewN ?_ _ | refine blk_drew ?_ | refine blk_alloc ?_ _)); refine blk_far ?_ NB256_257.out _; (with_reducible repeat (first | refine blk_drewN ?_ _ | refine blk_drew ?_ | refine blk_alloc ?_ _)); refine blk_far ?_ NB256_257.out _; (with_reducible repeat (first | refine blk_drewN ?_ _ | refine blk_drew ?_ | refine blk_alloc ?_ _)); refine blk_far ?_ NB256_257.out _; (with_reducible repeat (first | refine blk_drewN ?_ _ | refine blk_drew ?_ | refine blk_alloc ?_ _)); refine blk_far ?_ NB256_257.out _; (with_reducible repeat (first | refine blk_drewN ?_ _ | refine blk_drew ?_ | refine blk_alloc ?_ _)); exact BK256.out) Try.underlying85 rfl (by kernel_rfl)) rfl ?_
      exact ⟨by first | rfl | (simp [errW_none, errW_some] <;> rfl) | (simp [*, errW_none, errW_some] <;> rfl), by repeat (first | (with_reducible first | exact HB.out | apply below_alloc | apply pw_below_drewN | apply below_drew1 | refine below_set ?_ GE256.out | refine below_set ?_ GE257.out) | exact HB.out)⟩
    · rw [if_neg c8] at H
      have c8b0 : ((Int.tmod (IntKind.u64.wrap (Int.tdiv a0 512)) 128) == 0) = false := beq_eq_false_iff_ne.mpr c8
      have c8b1 : ((Int.tmod (IntKind.u64.wrap (Int.tdiv a0 512)) 128) != 0) = true := bne_iff_ne.mpr c8
      simp only [Option.some.injEq, Prod.mk.injEq] at H
      obtain ⟨rfl, rfl, rfl, rfl, rfl, rfl, rfl⟩ := H
      go_enter Try.func62, Try.ntmps62
      go_wp2_with (first | ((with_reducible refine gate_dst (N := 2) rfl ?_); refine box_event ?hg (N := 2) ?hd (cs := #[.int .i64 0, .int .i64 0, .bool false, .int .i64 0, .int .i64 0, .int .i64 0]) (t := 85) ?hr ?_; (case hd => rfl); (case hg => rfl); (case hr => first | (go_simp; done) | (go_simp; rfl)); intro gb256 hg w14 hbox hb; have n0_ := Aside0.mk (below_step (by repeat (first | (with_reducible first | exact HB.out | apply below_alloc | apply pw_below_drewN | apply below_drew1) | exact HB.out)) hb); have n1_ := Aside0.mk (hbox); have n2_ := Aside0.mk ((by rw [hg]; exact (below_size (by repeat (first | (with_reducible first | exact HB.out | apply below_alloc | apply pw_below_drewN | apply below_drew1) | exact HB.out))) : w.heap.size ≤ gb256)); have n3_ := Aside0.mk ((by rw [hg]; exact (below_size (by repeat (first | (with_reducible first | exact HB.out | apply below_alloc | apply pw_below_drewN | apply below_drew1) | exact HB.out))) : w.heap.size ≤ gb256)); clear HB; have HB := n0_; have BK256 := n1_; have GW256 := n2_; have GE256 := n3_; clear n0_ n1_ n2_ n3_; clear hb hbox hg) | ((with_reducible refine gate_dst (N := 4) rfl ?_); refine box_event ?hg (N := 4) ?hd (cs := #[.int .i64 0, .int .i64 0, .bool false, .int .i64 0, .int .i64 0, .int .i64 0]) (t := 85) ?hr ?_; (case hd => rfl); (case hg => rfl); (case hr => first | (go_simp; done) | (go_simp; rfl)); intro gb257 hg w15 hbox hb; have n0_ := Aside0.mk (blk_below (g := gb256) (o := .cells #[.int .i64 0, .int .i64 0, .bool false, .int .i64 0, .int .i64 0, .int .i64 0] 85 (0, 0)) (by (with_reducible repeat (first | refine blk_drewN ?_ _ | refine blk_drew ?_ | refine blk_alloc ?_ _)); exact BK256.out) hb); have n1_ := Aside0.mk (below_step (by repeat (first | (with_reducible first | exact HB.out | apply below_alloc | apply pw_below_drewN | apply below_drew1 | refine below_set ?_ GE256.out) | exact HB.out)) hb); have n2_ := Aside0.mk (hbox); have n3_ := Aside0.mk ((by rw [hg]; exact (below_size (by repeat (first | (with_reducible first | exact HB.out | apply below_alloc | apply pw_below_drewN | apply below_drew1 | refine below_set ?_ GE256.out) | exact HB.out))) : w.heap.size ≤ gb257)); have n4_ := Aside0.mk ((by rw [hg]; exact (below_size (by repeat (first | (with_reducible first | exact HB.out | apply below_alloc | apply pw_below_drewN | apply below_drew1 | refine below_set ?_ GE256.out) | exact HB.out))) : w.heap.size ≤ gb257)); have n5_ := Aside0.mk ((by rw [hg]; exact Nat.ne_of_lt (blk_lt (g := gb256) (o := .cells #[.int .i64 0, .int .i64 0, .bool false, .int .i64 0, .int .i64 0, .int .i64 0] 85 (0, 0)) (by (with_reducible repeat (first | refine blk_drewN ?_ _ | refine blk_drew ?_ | refine blk_alloc ?_ _)); exact BK256.out)) : gb256 ≠ gb257)); have n6_ := Aside0.mk ((by rw [hg]; exact Nat.ne_of_gt (blk_lt (g := gb256) (o := .cells #[.int .i64 0, .int .i64 0, .bool false, .int .i64 0, .int .i64 0, .int .i64 0] 85 (0, 0)) (by (with_reducible repeat (first | refine blk_drewN ?_ _ | refine blk_drew ?_ | refine blk_alloc ?_ _)); exact BK256.out)) : gb257 ≠ gb256)); clear BK256; clear HB; have BK256 := n0_; have HB := n1_; have BK257 := n2_; have GW257 := n3_; have GE257 := n4_; have NB256_257 := n5_; have NB257_256 := n6_; clear n0_ n1_ n2_ n3_ n4_ n5_ n6_; clear hb hbox hg; have hnb16 := NB257_256.out; have hnc16 := NB256_257.out; have hcz17_0 : w15.cell? ⟨gb257, 0, none⟩ = some (.int .i64 0) := (blk_cell BK257.out 0).trans rfl; have hcz17_1 : w15.cell? ⟨gb257, 1, none⟩ = some (.int .i64 0) := (blk_cell BK257.out 1).trans rfl; have hcz17_2 : w15.cell? ⟨gb257, 2, none⟩ = some (.bool false) := (blk_cell BK257.out 2).trans rfl; have hcz17_3 : w15.cell? ⟨gb257, 3, none⟩ = some (.int .i64 0) := (blk_cell BK257.out 3).trans rfl; have hcz17_4 : w15.cell? ⟨gb257, 4, none⟩ = some (.int .i64 0) := (blk_cell BK257.out 4).trans rfl; have hcz17_5 : w15.cell? ⟨gb257, 5, none⟩ = some (.int .i64 0) := (blk_cell BK257.out 5).trans rfl; have hfz17_0 := blk_frozen BK257.out 0; have hfz17_1 := blk_frozen BK257.out 1; have hfz17_2 := blk_frozen BK257.out 2; have hfz17_3 := blk_frozen BK257.out 3; have hfz17_4 := blk_frozen BK257.out 4; have hfz17_5 := blk_frozen BK257.out 5; have hcz18_0 : w15.cell? ⟨gb256, 0, none⟩ = some (.int .i64 0) := (blk_cell BK256.out 0).trans rfl; have hcz18_1 : w15.cell? ⟨gb256, 1, none⟩ = some (.int .i64 0) := (blk_cell BK256.out 1).trans rfl; have hcz18_2 : w15.cell? ⟨gb256, 2, none⟩ = some (.bool false) := (blk_cell BK256.out 2).trans rfl; have hcz18_3 : w15.cell? ⟨gb256, 3, none⟩ = some (.int .i64 0) := (blk_cell BK256.out 3).trans rfl; have hcz18_4 : w15.cell? ⟨gb256, 4, none⟩ = some (.int .i64 0) := (blk_cell BK256.out 4).trans rfl; have hcz18_5 : w15.cell? ⟨gb256, 5, none⟩ = some (.int .i64 0) := (blk_cell BK256.out 5).trans rfl; have hfz18_0 := blk_frozen BK256.out 0; have hfz18_1 := blk_frozen BK256.out 1; have hfz18_2 := blk_frozen BK256.out 2; have hfz18_3 := blk_frozen BK256.out 3; have hfz18_4 := blk_frozen BK256.out 4; have hfz18_5 := blk_frozen BK256.out 5))
      refine bodyPost_ret (results_ct rfl _ _ gb256 85 #[.int .i64 0, .int .i64 0, .bool false, .int .i64 0, .int .i64 0, .int .i64 0] (0, 0) _ rfl (by (with_reducible repeat (first | refine blk_drewN ?_ _ | refine blk_drew ?_ | refine blk_alloc ?_ _)); refine blk_put (cs := #[.int .i64 0, .int .i64 0, .bool false, .int .i64 0, .int .i64 0, .int .i64 0]) ?_ 5 _ rfl; (with_reducible repeat (first | refine blk_drewN ?_ _ | refine blk_drew ?_ | refine blk_alloc ?_ _)); refine blk_put (cs := #[.int .i64 0, .int .i64 0, .bool false, .int .i64 0, .int .i64 0, .int .i64 0]) ?_ 4 _ rfl; (with_reducible repeat (first | refine blk_drewN ?_ _ | refine blk_drew ?_ | refine blk_alloc ?_ _)); refine blk_put (cs := #[.int .i64 0, .int .i64 0, .bool false, .int .i64 0, .int .i64 0, .int .i64 0]) ?_ 3 _ rfl; (with_reducible repeat (first | refine blk_drewN ?_ _ | refine blk_drew ?_ | refine blk_alloc ?_ _)); refine blk_put (cs := #[.int .i64 0, .int .i64 0, .bool false, .int .i64 0, .int .i64 0, .int .i64 0]) ?_ 2 _ rfl; (with_reducible repeat (first | refine blk_drewN ?_ _ | refine blk_drew ?_ | refine blk_alloc ?_ _)); refine blk_put (cs := #[.int .i64 0, .int .i64 0, .bool false, .int .i64 0, .int .i64 0, .int .i64 0]) ?_ 1 _ rfl; (with_reducible repeat (first | refine blk_drewN ?_ _ | refine blk_drew ?_ | refine blk_alloc ?_ _)); refine blk_put (cs := #[.int .i64 0, .int .i64 0, .bool false, .int .i64 0, .int .i64 0, .int .i64 0]) ?_ 0 _ rfl; (with_reducible repeat (first | refine blk_drewN ?_ _ | refine blk_drew ?_ | refine blk_alloc ?_ _)); refine blk_far ?_ NB256_257.out _; (with_reducible repeat (first | refine blk_drewN ?_ _ | refine blk_drew ?_ | refine blk_alloc ?_ _)); refine blk_far ?_ NB256_257.out _; (with_reducible repeat (first | refine blk_drewN ?_ _ | refine blk_drew ?_ | refine blk_alloc ?_ _)); refine blk_far ?_ NB256_257.out _; (with_reducible repeat (first | refine blk_drewN ?_ _ | refine blk_drew ?_ | refine blk_alloc ?_ _)); refine blk_far ?_ NB256_257.out _; (with_reducible repeat (first | refine blk_drewN ?_ _ | refine blk_drew ?_ | refine blk_alloc ?_ _)); refine blk_far ?_ NB256_257.out _; (with_reducible repeat (first | refine blk_drewN ?_ _ | refine blk_drew ?_ | refine blk_alloc ?_ _)); refine blk_far ?_ NB256_257.out _; (with_reducible repeat (first | refine blk_drewN ?_ _ | refine blk_drew ?_ | refine blk_alloc ?_ _)); exact BK256.out) Try.underlying85 rfl (by kernel_rfl)) rfl ?_
      exact ⟨by first | rfl | (simp [errW_none, errW_some] <;> rfl) | (simp [*, errW_none, errW_some] <;> rfl), by repeat (first | (with_reducible first | exact HB.out | apply below_alloc | apply pw_below_drewN | apply below_drew1 | refine below_set ?_ GE256.out | refine below_set ?_ GE257.out) | exact HB.out)⟩

-- NOT PRINTED: function 63 (withylaw12_world_at)

-- NOT PRINTED: function 89 (withylaw12_maker_begin)

/-! ### withyref03_Phase: function 108 -/
def withyref03_Phase.f (a0 : Int) : Option (Int) := some (wrap64 (Int.tmod a0 4))
set_option maxHeartbeats 8000000 in
set_option maxRecDepth 100000 in
theorem withyref03_Phase.calls (a0 : Int) (r : Int) (w : World) (h : withyref03_Phase.f a0 = some r) :
    Calls Try.prog 108 #[.int .u64 a0] w fun e w' => e = .returned (.int .i64 r) ∧ Drawn0 w w' := by
  have H : (some (wrap64 (Int.tmod a0 4))) = some r := h
  clear h
  obtain rfl := Option.some.inj H
  go_enter Try.func108, Try.ntmps108
  go_wp2
  go_ret
  exact ⟨by first | rfl | (simp; done) | (simp [*]; done), by repeat (first | exact Drawn0.refl _ | apply Drawn0.step)⟩

/-! ### withyref03_Black: function 109 -/
def withyref03_Black.f (a0 : Int) : Option (Int) := if (Int.tmod (IntKind.u64.wrap (Int.tdiv a0 4)) 2) = 0 then (some 1) else (some 0)
set_option maxHeartbeats 8000000 in
set_option maxRecDepth 100000 in
theorem withyref03_Black.calls (a0 : Int) (r : Int) (w : World) (h : withyref03_Black.f a0 = some r) :
    Calls Try.prog 109 #[.int .u64 a0] w fun e w' => e = .returned (.int .i64 r) ∧ Drawn0 w w' := by
  have H : (if (Int.tmod (IntKind.u64.wrap (Int.tdiv a0 4)) 2) = 0 then (some 1) else (some 0)) = some r := h
  clear h
  by_cases c2 : (Int.tmod (IntKind.u64.wrap (Int.tdiv a0 4)) 2) = 0
  · rw [if_pos c2] at H
    have c2b0 : ((Int.tmod (IntKind.u64.wrap (Int.tdiv a0 4)) 2) == 0) = true := beq_iff_eq.mpr c2
    have c2b1 : ((Int.tmod (IntKind.u64.wrap (Int.tdiv a0 4)) 2) != 0) = false := bne_eq_false_iff_eq.mpr c2
    clear c2
    obtain rfl := Option.some.inj H
    go_enter Try.func109, Try.ntmps109
    go_wp2
    go_ret
    exact ⟨by first | rfl | (simp; done) | (simp [*]; done), by repeat (first | exact Drawn0.refl _ | apply Drawn0.step)⟩
  · rw [if_neg c2] at H
    have c2b0 : ((Int.tmod (IntKind.u64.wrap (Int.tdiv a0 4)) 2) == 0) = false := beq_eq_false_iff_ne.mpr c2
    have c2b1 : ((Int.tmod (IntKind.u64.wrap (Int.tdiv a0 4)) 2) != 0) = true := bne_iff_ne.mpr c2
    obtain rfl := Option.some.inj H
    go_enter Try.func109, Try.ntmps109
    go_wp2
    go_ret
    exact ⟨by first | rfl | (simp; done) | (simp [*]; done), by repeat (first | exact Drawn0.refl _ | apply Drawn0.step)⟩

/-! ### withyref03_Born: function 102 -/
def withyref03_Born.f (a0 : Int) : Option (Int) := (withyref03_Phase.f a0).bind fun t258 => (if t258 = 0 then ((withyref03_Black.f a0).bind fun t259 => (some (wrap64 (1 - t259)))) else ((withyref03_Black.f a0).bind fun t260 => (some t260)))
set_option maxHeartbeats 8000000 in
set_option maxRecDepth 100000 in
theorem withyref03_Born.calls (a0 : Int) (r : Int) (w : World) (h : withyref03_Born.f a0 = some r) :
    Calls Try.prog 102 #[.int .u64 a0] w fun e w' => e = .returned (.int .i64 r) ∧ Drawn0 w w' := by
  have H : ((withyref03_Phase.f a0).bind fun t258 => (if t258 = 0 then ((withyref03_Black.f a0).bind fun t259 => (some (wrap64 (1 - t259)))) else ((withyref03_Black.f a0).bind fun t260 => (some t260)))) = some r := h
  clear h
  replace H := Option.bind_eq_some_iff.mp H
  obtain ⟨t258, A20, H⟩ := H
  replace H : (if t258 = 0 then ((withyref03_Black.f a0).bind fun t259 => (some (wrap64 (1 - t259)))) else ((withyref03_Black.f a0).bind fun t260 => (some t260))) = some r := H
  have A2 := Aside0.mk A20
  clear A20
  by_cases c3 : t258 = 0
  · rw [if_pos c3] at H
    have c3b0 : (t258 == 0) = true := beq_iff_eq.mpr c3
    have c3b1 : (t258 != 0) = false := bne_eq_false_iff_eq.mpr c3
    clear c3
    replace H := Option.bind_eq_some_iff.mp H
    obtain ⟨t259, A40, H⟩ := H
    replace H : (some (wrap64 (1 - t259))) = some r := H
    have A4 := Aside0.mk A40
    clear A40
    obtain rfl := Option.some.inj H
    go_enter Try.func102, Try.ntmps102
    go_wp2_with (first | ((with_reducible refine gate_callee (f := 108) rfl ?_); refine goesL_ (some 4) rfl rfl Try.func108 (by kernel_rfl) rfl #[.int .u64 a0] rfl (by (try simp only [List.map_toArray, List.map_cons, List.map_nil]); first | done | rfl | (simp only [List.length_drop, List.length_take]; rfl)) ?_; (with_reducible refine (withyref03_Phase.calls a0 t258 _ A2.out).mono ?_); rintro e w' ⟨rfl, ⟨nd, rfl⟩⟩; refine ⟨_, rfl, ?_⟩) | ((with_reducible refine gate_callee (f := 109) rfl ?_); refine goesL_ (some 7) rfl rfl Try.func109 (by kernel_rfl) rfl #[.int .u64 a0] rfl (by (try simp only [List.map_toArray, List.map_cons, List.map_nil]); first | done | rfl | (simp only [List.length_drop, List.length_take]; rfl)) ?_; (with_reducible refine (withyref03_Black.calls a0 t259 _ A4.out).mono ?_); rintro e w' ⟨rfl, ⟨nd, rfl⟩⟩; refine ⟨_, rfl, ?_⟩))
    go_ret
    exact ⟨by first | rfl | (simp; done) | (simp [*]; done), by repeat (first | exact Drawn0.refl _ | apply Drawn0.step)⟩
  · rw [if_neg c3] at H
    have c3b0 : (t258 == 0) = false := beq_eq_false_iff_ne.mpr c3
    have c3b1 : (t258 != 0) = true := bne_iff_ne.mpr c3
    replace H := Option.bind_eq_some_iff.mp H
    obtain ⟨t260, A50, H⟩ := H
    replace H : (some t260) = some r := H
    have A5 := Aside0.mk A50
    clear A50
    obtain rfl := Option.some.inj H
    go_enter Try.func102, Try.ntmps102
    go_wp2_with (first | ((with_reducible refine gate_callee (f := 108) rfl ?_); refine goesL_ (some 4) rfl rfl Try.func108 (by kernel_rfl) rfl #[.int .u64 a0] rfl (by (try simp only [List.map_toArray, List.map_cons, List.map_nil]); first | done | rfl | (simp only [List.length_drop, List.length_take]; rfl)) ?_; (with_reducible refine (withyref03_Phase.calls a0 t258 _ A2.out).mono ?_); rintro e w' ⟨rfl, ⟨nd, rfl⟩⟩; refine ⟨_, rfl, ?_⟩) | ((with_reducible refine gate_callee (f := 109) rfl ?_); refine goesL_ (some 10) rfl rfl Try.func109 (by kernel_rfl) rfl #[.int .u64 a0] rfl (by (try simp only [List.map_toArray, List.map_cons, List.map_nil]); first | done | rfl | (simp only [List.length_drop, List.length_take]; rfl)) ?_; (with_reducible refine (withyref03_Black.calls a0 t260 _ A5.out).mono ?_); rintro e w' ⟨rfl, ⟨nd, rfl⟩⟩; refine ⟨_, rfl, ?_⟩))
    go_ret
    exact ⟨by first | rfl | (simp; done) | (simp [*]; done), by repeat (first | exact Drawn0.refl _ | apply Drawn0.step)⟩

-- NOT PRINTED: function 90 (withylaw12_maker_made)

-- NOT PRINTED: function 60 (withylaw12_maker_step)

/-! ### withylaw12_meet: function 61 -/
def withylaw12_meet.l0 : Nat → List Int → List Int → Int → Option (Bool)
  | 0, _, _, _ => none
  | k + 1, x0, x1, x5 => if x5 < (x0.length : Int) then (if 0 ≤ x5 then ((withyref07_Has.f k x1 (rd x0 x5)).bind fun t262 => (if t262 = true then (some true) else (withylaw12_meet.l0 k x0 x1 (wrap64 (x5 + 1))))) else (none)) else (some false)
def withylaw12_meet.f (k : Nat) (l0 : List Int) (l1 : List Int) : Option (Bool) := withylaw12_meet.l0 k l0 l1 0
theorem withylaw12_meet.mono_l : ∀ k, (∀ y0 y1 y2, LeO (withylaw12_meet.l0 k y0 y1 y2) (withylaw12_meet.l0 (k + 1) y0 y1 y2))
  | 0 => fun _ _ _ r h => by simp [withylaw12_meet.l0] at h
  | k + 1 => by
    have ih0 := withylaw12_meet.mono_l k
    · intro y0 y1 y2
      unfold withylaw12_meet.l0
      repeat' first
      | (with_reducible exact ih0 _ _ _)
      | (with_reducible exact withyref07_Has.mono _ _ _)
      | (with_reducible exact LeO.refl _)
      | (with_reducible exact LeO.none _)
      | (with_reducible refine LeO.ite ?_ ?_)
      | (with_reducible refine LeO.bind ?_ (fun _ => ?_))
      | exact ih0 _ _ _
      | exact withyref07_Has.mono _ _ _
      | exact LeO.none _
      | refine LeO.ite ?_ ?_
      | refine LeO.bind ?_ (fun _ => ?_)
theorem withylaw12_meet.mono : ∀ a0 a1 k, LeO (withylaw12_meet.f k a0 a1) (withylaw12_meet.f (k + 1) a0 a1) := by
  intro a0 a1 k
  have ih0 := withylaw12_meet.mono_l k
  unfold withylaw12_meet.f
  repeat' first
      | (with_reducible exact ih0 _ _ _)
      | (with_reducible exact withyref07_Has.mono _ _ _)
      | (with_reducible exact LeO.refl _)
      | (with_reducible exact LeO.none _)
      | (with_reducible refine LeO.ite ?_ ?_)
      | (with_reducible refine LeO.bind ?_ (fun _ => ?_))
      | exact ih0 _ _ _
      | exact withyref07_Has.mono _ _ _
      | exact LeO.none _
      | refine LeO.ite ?_ ?_
      | refine LeO.bind ?_ (fun _ => ?_)
set_option maxHeartbeats 8000000 in
set_option maxRecDepth 100000 in
theorem withylaw12_meet.calls (k : Nat) (A0 : Option Addr) (c0 : Nat) (l0 : List Int) (A1 : Option Addr) (c1 : Nat) (l1 : List Int) (r : Bool) (w : World) (hr0 : Kd.C (Kd.int .i64) w A0 l0.length l0) (hc0 : l0.length ≤ c0) (hr1 : Kd.C (Kd.int .i64) w A1 l1.length l1) (hc1 : l1.length ≤ c1) (h : withylaw12_meet.f k l0 l1 = some r) :
    Calls Try.prog 61 #[.slice A0 l0.length c0, .slice A1 l1.length c1] w fun e w' => e = .returned (.bool r) ∧ Drawn0 w w' := by
  have HR0 := Aside0.mk hr0
  have HC0 := Aside0.mk hc0
  clear hr0 hc0
  have HR1 := Aside0.mk hr1
  have HC1 := Aside0.mk hc1
  clear hr1 hc1
  have H : (withylaw12_meet.l0 k l0 l1 0) = some r := h
  clear h
  have H' := Aside0.mk H
  clear H
  go_enter Try.func61, Try.ntmps61
  go_wp2
  go_loopg [5] k (fun kq v5 w' => ∃ (x5_1 : Int), v5 = .int .i64 x5_1 ∧ Aside0 (withylaw12_meet.l0 kq l0 l1 x5_1 = some r) ∧ Aside0 (kq ≤ k) ∧ Drawn0 w w')
  case atStart => exact ⟨(0), (by first | rfl | (simp; done) | (simp [*]; done)), H', ⟨Nat.le_refl _⟩, by repeat (first | exact Drawn0.refl _ | apply Drawn0.step)⟩
  case round =>
    clear H'
    try clear c1
    try clear p2
    obtain ⟨x5_1, rfl, HA, HK1, ⟨m1, rfl⟩⟩ := hrel
    cases gk with
    | zero => exact absurd HA.out (by simp [withylaw12_meet.l0])
    | succ k1 =>
      have H := HA.out
      clear HA
      simp only [withylaw12_meet.l0] at H
      by_cases c3 : x5_1 < (l0.length : Int)
      · rw [if_pos c3] at H
        have c3b0 : decide (x5_1 < (l0.length : Int)) = true := decide_eq_true c3
        clear c3
        by_cases c4 : 0 ≤ x5_1
        · rw [if_pos c4] at H
          have c4b0 : decide (0 ≤ x5_1) = true := decide_eq_true c4
          clear c4
          replace H := Option.bind_eq_some_iff.mp H
          obtain ⟨t262, A50, H⟩ := H
          replace H : (if t262 = true then (some true) else (withylaw12_meet.l0 k1 l0 l1 (wrap64 (x5_1 + 1)))) = some r := H
          have A5 := Aside0.mk A50
          clear A50
          by_cases c6 : t262 = true
          · subst c6
            have H1 : (some true) = some r := by rw [if_pos rfl] at H; exact H
            clear H
            have H := H1
            clear H1
            obtain rfl := Option.some.inj H
            have p261 : 0 ≤ (x5_1 : Int) := of_decide_eq_true (by first | (with_reducible assumption) | assumption)
            have q261 : x5_1 < (l0.length : Int) := of_decide_eq_true (by first | (with_reducible assumption) | assumption)
            obtain ⟨ad261, e261, hx261_0⟩ := Kd.at_int HR0.out x5_1 p261 q261
            cases e261
            replace p261 := eq_true p261
            replace q261 := eq_true q261
            go_wp2_with (first | ((with_reducible refine gate_callee (f := 49) rfl ?_); refine goesL_ (some 17) rfl rfl Try.func49 (by kernel_rfl) rfl #[.slice A1 l1.length c1, .int .i64 (rd l0 x5_1)] rfl (by (try simp only [List.map_toArray, List.map_cons, List.map_nil]); first | done | rfl | (simp only [List.length_drop, List.length_take]; rfl)) ?_; (with_reducible refine (withyref07_Has.calls k1 _ _ l1 (rd l0 x5_1) true _ ?side1 ?side2 A5.out).mono ?_); (case side1 => repeat (first | exact HR1.out | (with_reducible refine Kd.C_alloc ?_ _) | (with_reducible refine Kd.C_drewN ?_ _) | (with_reducible refine Kd.C_drew ?_))); (case side2 => exact HC1.out); rintro e w' ⟨rfl, ⟨nd, rfl⟩⟩; refine ⟨_, rfl, ?_⟩))
            go_ret
            exact ⟨by first | rfl | (simp; done) | (simp [*]; done), by repeat (first | exact Drawn0.refl _ | apply Drawn0.step)⟩
          · replace c6 := Bool.eq_false_iff.mpr c6
            subst c6
            have H1 : (withylaw12_meet.l0 k1 l0 l1 (wrap64 (x5_1 + 1))) = some r := by rw [if_neg (show ¬ (false = true) by decide)] at H; exact H
            clear H
            have H := H1
            clear H1
            have H' := Aside0.mk H
            clear H
            have p261 : 0 ≤ (x5_1 : Int) := of_decide_eq_true (by first | (with_reducible assumption) | assumption)
            have q261 : x5_1 < (l0.length : Int) := of_decide_eq_true (by first | (with_reducible assumption) | assumption)
            obtain ⟨ad261, e261, hx261_0⟩ := Kd.at_int HR0.out x5_1 p261 q261
            cases e261
            replace p261 := eq_true p261
            replace q261 := eq_true q261
            go_wp2_with (first | ((with_reducible refine gate_callee (f := 49) rfl ?_); refine goesL_ (some 17) rfl rfl Try.func49 (by kernel_rfl) rfl #[.slice A1 l1.length c1, .int .i64 (rd l0 x5_1)] rfl (by (try simp only [List.map_toArray, List.map_cons, List.map_nil]); first | done | rfl | (simp only [List.length_drop, List.length_take]; rfl)) ?_; (with_reducible refine (withyref07_Has.calls k1 _ _ l1 (rd l0 x5_1) false _ ?side1 ?side2 A5.out).mono ?_); (case side1 => repeat (first | exact HR1.out | (with_reducible refine Kd.C_alloc ?_ _) | (with_reducible refine Kd.C_drewN ?_ _) | (with_reducible refine Kd.C_drew ?_))); (case side2 => exact HC1.out); rintro e w' ⟨rfl, ⟨nd, rfl⟩⟩; refine ⟨_, rfl, ?_⟩))
            go_roundg k1
            case measure => have := HK1.out; omega
            case rel => exact ⟨(wrap64 (x5_1 + 1)), (by first | rfl | (simp; done) | (simp [*]; done)), H', ⟨by have := HK1.out; omega⟩, by repeat (first | exact Drawn0.refl _ | apply Drawn0.step)⟩
        · rw [if_neg c4] at H
          exact absurd H (by simp)
      · rw [if_neg c3] at H
        have c3b0 : decide (x5_1 < (l0.length : Int)) = false := decide_eq_false c3
        clear c3
        obtain rfl := Option.some.inj H
        go_wp2
        go_ret
        exact ⟨by first | rfl | (simp; done) | (simp [*]; done), by repeat (first | exact Drawn0.refl _ | apply Drawn0.step)⟩

-- NOT PRINTED: function 18 (withylaw12_ArenaPlays)

end Go.Proofs.Ytijfkpoofpcacaa.PArenaPlays
