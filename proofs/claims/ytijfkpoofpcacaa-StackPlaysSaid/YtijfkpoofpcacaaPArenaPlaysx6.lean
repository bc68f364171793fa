-- PRINTED BY print.sh 35421559b90ae4d0a3588c463048766b98c2df88dd9212a6774a882060cdf62d: not written by this session
import Derived.Test.YtijfkpoofpcacaaPArenaPlaysx0
import Derived.Test.YtijfkpoofpcacaaPArenaPlaysx2
import Derived.Test.YtijfkpoofpcacaaPArenaPlaysx3
namespace Go.Proofs.Ytijfkpoofpcacaa.PArenaPlays
open Go.RowKit Go.Proofs.YtijfkpoofpcacaaW.PrintWords Go.Proofs.YtijfkpoofpcacaaW.PrintLast Go.Proofs.YtijfkpoofpcacaaW.PrintMore
attribute [local go_sem] max2_int min2_int max_two min_two max_three min_three max_four min_four   -- for this text's walks alone
set_option linter.unusedVariables false
set_option linter.unusedSimpArgs false

/-! ### withyref07_Has: function 49 -/
def withyref07_Has.l0 : Nat → List Int → Int → Int → Option (Bool)
  | 0, _, _, _ => none
  | k + 1, x0, x1, x5 => if x5 < (x0.length : Int) then (if 0 ≤ x5 then (if (rd x0 x5) = x1 then (some true) else (withyref07_Has.l0 k x0 x1 (wrap64 (x5 + 1)))) else (none)) else (some false)
def withyref07_Has.f (k : Nat) (l0 : List Int) (a1 : Int) : Option (Bool) := withyref07_Has.l0 k l0 a1 0
theorem withyref07_Has.mono_l : ∀ k, (∀ y0 y1 y2, LeO (withyref07_Has.l0 k y0 y1 y2) (withyref07_Has.l0 (k + 1) y0 y1 y2))
  | 0 => fun _ _ _ r h => by simp [withyref07_Has.l0] at h
  | k + 1 => by
    have ih0 := withyref07_Has.mono_l k
    · intro y0 y1 y2
      unfold withyref07_Has.l0
      repeat' first
      | (with_reducible exact ih0 _ _ _)
      | (with_reducible exact LeO.refl _)
      | (with_reducible exact LeO.none _)
      | (with_reducible refine LeO.ite ?_ ?_)
      | (with_reducible refine LeO.bind ?_ (fun _ => ?_))
      | exact ih0 _ _ _
      | exact LeO.none _
      | refine LeO.ite ?_ ?_
      | refine LeO.bind ?_ (fun _ => ?_)
theorem withyref07_Has.mono : ∀ a0 a1 k, LeO (withyref07_Has.f k a0 a1) (withyref07_Has.f (k + 1) a0 a1) := by
  intro a0 a1 k
  have ih0 := withyref07_Has.mono_l k
  unfold withyref07_Has.f
  repeat' first
      | (with_reducible exact ih0 _ _ _)
      | (with_reducible exact LeO.refl _)
      | (with_reducible exact LeO.none _)
      | (with_reducible refine LeO.ite ?_ ?_)
      | (with_reducible refine LeO.bind ?_ (fun _ => ?_))
      | exact ih0 _ _ _
      | exact LeO.none _
      | refine LeO.ite ?_ ?_
      | refine LeO.bind ?_ (fun _ => ?_)
set_option maxHeartbeats 8000000 in
set_option maxRecDepth 100000 in
theorem withyref07_Has.calls (k : Nat) (A0 : Option Addr) (c0 : Nat) (l0 : List Int) (a1 : Int) (r : Bool) (w : World) (hr0 : Kd.C (Kd.int .i64) w A0 l0.length l0) (hc0 : l0.length ≤ c0) (h : withyref07_Has.f k l0 a1 = some r) :
    Calls Try.prog 49 #[.slice A0 l0.length c0, .int .i64 a1] w fun e w' => e = .returned (.bool r) ∧ Drawn0 w w' := by
  have HR0 := Aside0.mk hr0
  have HC0 := Aside0.mk hc0
  clear hr0 hc0
  have H : (withyref07_Has.l0 k l0 a1 0) = some r := h
  clear h
  have H' := Aside0.mk H
  clear H
  go_enter Try.func49, Try.ntmps49
  go_wp2
  go_loopg [5] k (fun kq v5 w' => ∃ (x5_1 : Int), v5 = .int .i64 x5_1 ∧ Aside0 (withyref07_Has.l0 kq l0 a1 x5_1 = some r) ∧ Aside0 (kq ≤ k) ∧ Drawn0 w w')
  case atStart => exact ⟨(0), (by first | rfl | (simp; done) | (simp [*]; done)), H', ⟨Nat.le_refl _⟩, by repeat (first | exact Drawn0.refl _ | apply Drawn0.step)⟩
  case round =>
    clear H'
    try clear p2
    obtain ⟨x5_1, rfl, HA, HK1, ⟨m1, rfl⟩⟩ := hrel
    cases gk with
    | zero => exact absurd HA.out (by simp [withyref07_Has.l0])
    | succ k1 =>
      have H := HA.out
      clear HA
      simp only [withyref07_Has.l0] at H
      by_cases c3 : x5_1 < (l0.length : Int)
      · rw [if_pos c3] at H
        have c3b0 : decide (x5_1 < (l0.length : Int)) = true := decide_eq_true c3
        clear c3
        by_cases c4 : 0 ≤ x5_1
        · rw [if_pos c4] at H
          have c4b0 : decide (0 ≤ x5_1) = true := decide_eq_true c4
          clear c4
          by_cases c5 : (rd l0 x5_1) = a1
          · rw [if_pos c5] at H
            have c5b0 : ((rd l0 x5_1) == a1) = true := beq_iff_eq.mpr c5
            have c5b1 : ((rd l0 x5_1) != a1) = false := bne_eq_false_iff_eq.mpr c5
            clear c5
            obtain rfl := Option.some.inj H
            have p191 : 0 ≤ (x5_1 : Int) := of_decide_eq_true (by first | (with_reducible assumption) | assumption)
            have q191 : x5_1 < (l0.length : Int) := of_decide_eq_true (by first | (with_reducible assumption) | assumption)
            obtain ⟨ad191, e191, hx191_0⟩ := Kd.at_int HR0.out x5_1 p191 q191
            cases e191
            replace p191 := eq_true p191
            replace q191 := eq_true q191
            go_wp2
            go_ret
            exact ⟨by first | rfl | (simp; done) | (simp [*]; done), by repeat (first | exact Drawn0.refl _ | apply Drawn0.step)⟩
          · rw [if_neg c5] at H
            have c5b0 : ((rd l0 x5_1) == a1) = false := beq_eq_false_iff_ne.mpr c5
            have c5b1 : ((rd l0 x5_1) != a1) = true := bne_iff_ne.mpr c5
            have H' := Aside0.mk H
            clear H
            have p191 : 0 ≤ (x5_1 : Int) := of_decide_eq_true (by first | (with_reducible assumption) | assumption)
            have q191 : x5_1 < (l0.length : Int) := of_decide_eq_true (by first | (with_reducible assumption) | assumption)
            obtain ⟨ad191, e191, hx191_0⟩ := Kd.at_int HR0.out x5_1 p191 q191
            cases e191
            replace p191 := eq_true p191
            replace q191 := eq_true q191
            go_wp2
            go_roundg k1
            case measure => have := HK1.out; omega
            case rel => exact ⟨(wrap64 (x5_1 + 1)), (by first | rfl | (simp; done) | (simp [*]; done)), H', ⟨by have := HK1.out; omega⟩, by repeat (first | exact Drawn0.refl _ | apply Drawn0.step)⟩
        · rw [if_neg c4] at H
          exact absurd H (by simp)
      · rw [if_neg c3] at H
        have c3b0 : decide (x5_1 < (l0.length : Int)) = false := decide_eq_false c3
        clear c3
        obtain rfl := Option.some.inj H
        go_wp2
        go_ret
        exact ⟨by first | rfl | (simp; done) | (simp [*]; done), by repeat (first | exact Drawn0.refl _ | apply Drawn0.step)⟩

-- NOT PRINTED: function 44 (stack_NewPop)

/-! ### plan_Body: function 85 -/
def plan_Body.f (k : Nat) (a0_0 : Int) (a0_1 : Int) (a0_2 : Int) (a0_3 : Int) (a0_4 : Int) (a0_5 : Int) (a1 : Int) (a2 : Int) : Option (Int) := if a2 < 0 then (some (-1)) else (if a2 > 8 then (some (-1)) else ((plan_within.f k a0_0 a0_1 a0_2 a0_3 a0_4 a0_5 a1 (wrap64 (2 + a2))).bind fun t196 => (some t196)))
theorem plan_Body.mono : ∀ a0 a1 a2 a3 a4 a5 a6 a7 k, LeO (plan_Body.f k a0 a1 a2 a3 a4 a5 a6 a7) (plan_Body.f (k + 1) a0 a1 a2 a3 a4 a5 a6 a7) := by
  intro a0 a1 a2 a3 a4 a5 a6 a7 k
  unfold plan_Body.f
  repeat' first
      | (with_reducible exact plan_within.mono _ _ _ _ _ _ _ _ _)
      | (with_reducible exact LeO.refl _)
      | (with_reducible exact LeO.none _)
      | (with_reducible refine LeO.ite ?_ ?_)
      | (with_reducible refine LeO.bind ?_ (fun _ => ?_))
      | exact plan_within.mono _ _ _ _ _ _ _ _ _
      | exact LeO.none _
      | refine LeO.ite ?_ ?_
      | refine LeO.bind ?_ (fun _ => ?_)
set_option maxHeartbeats 8000000 in
set_option maxRecDepth 100000 in
theorem plan_Body.calls (k : Nat) (a0_0 : Int) (a0_1 : Int) (a0_2 : Int) (a0_3 : Int) (a0_4 : Int) (a0_5 : Int) (a1 : Int) (a2 : Int) (r : Int) (w : World) (h : plan_Body.f k a0_0 a0_1 a0_2 a0_3 a0_4 a0_5 a1 a2 = some r) :
    Calls Try.prog 85 #[.agg #[.int .i64 a0_0, .int .i64 a0_1, .int .i64 a0_2, .int .i64 a0_3, .int .i64 a0_4, .int .i64 a0_5], .int .i64 a1, .int .i64 a2] w fun e w' => e = .returned (.int .i64 r) ∧ Below w.heap.size w w' := by
  have hu23 := Try.underlying23
  have HB := Aside0.mk (Below.refl w.heap.size w)
  have H : (if a2 < 0 then (some (-1)) else (if a2 > 8 then (some (-1)) else ((plan_within.f k a0_0 a0_1 a0_2 a0_3 a0_4 a0_5 a1 (wrap64 (2 + a2))).bind fun t196 => (some t196)))) = some r := h
  clear h
  by_cases c4 : a2 < 0
  · rw [if_pos c4] at H
    have c4b0 : decide (a2 < 0) = true := decide_eq_true c4
    clear c4
    obtain rfl := Option.some.inj H
    go_enter Try.func85, Try.ntmps85
    go_wp2_with (first | ((with_reducible refine gate_dst (N := 3) rfl ?_); refine box_event ?hg (N := 3) ?hd (cs := #[.int .i64 a0_0, .int .i64 a0_1, .int .i64 a0_2, .int .i64 a0_3, .int .i64 a0_4, .int .i64 a0_5]) (t := 23) ?hr ?_; (case hd => rfl); (case hg => rfl); (case hr => first | (go_simp; done) | (go_simp; rfl)); intro gb195 hg w5 hbox hb; have n0_ := Aside0.mk (below_step (by repeat (first | (with_reducible first | exact HB.out | apply below_alloc | apply pw_below_drewN | apply below_drew1) | exact HB.out)) hb); have n1_ := Aside0.mk (hbox); have n2_ := Aside0.mk ((by rw [hg]; exact (below_size (by repeat (first | (with_reducible first | exact HB.out | apply below_alloc | apply pw_below_drewN | apply below_drew1) | exact HB.out))) : w.heap.size ≤ gb195)); have n3_ := Aside0.mk ((by rw [hg]; exact (below_size (by repeat (first | (with_reducible first | exact HB.out | apply below_alloc | apply pw_below_drewN | apply below_drew1) | exact HB.out))) : w.heap.size ≤ gb195)); clear HB; have HB := n0_; have BK195 := n1_; have GW195 := n2_; have GE195 := n3_; clear n0_ n1_ n2_ n3_; clear hb hbox hg))
    go_ret
    exact ⟨by first | rfl | (simp [errW_none, errW_some] <;> rfl) | (simp [*, errW_none, errW_some] <;> rfl), by repeat (first | (with_reducible first | exact HB.out | apply below_alloc | apply pw_below_drewN | apply below_drew1 | refine below_set ?_ GE195.out) | exact HB.out)⟩
  · rw [if_neg c4] at H
    have c4b0 : decide (a2 < 0) = false := decide_eq_false c4
    clear c4
    by_cases c6 : a2 > 8
    · rw [if_pos c6] at H
      have c6b0 : decide (8 < a2) = true := decide_eq_true c6
      clear c6
      obtain rfl := Option.some.inj H
      go_enter Try.func85, Try.ntmps85
      go_wp2_with (first | ((with_reducible refine gate_dst (N := 3) rfl ?_); refine box_event ?hg (N := 3) ?hd (cs := #[.int .i64 a0_0, .int .i64 a0_1, .int .i64 a0_2, .int .i64 a0_3, .int .i64 a0_4, .int .i64 a0_5]) (t := 23) ?hr ?_; (case hd => rfl); (case hg => rfl); (case hr => first | (go_simp; done) | (go_simp; rfl)); intro gb195 hg w7 hbox hb; have n0_ := Aside0.mk (below_step (by repeat (first | (with_reducible first | exact HB.out | apply below_alloc | apply pw_below_drewN | apply below_drew1) | exact HB.out)) hb); have n1_ := Aside0.mk (hbox); have n2_ := Aside0.mk ((by rw [hg]; exact (below_size (by repeat (first | (with_reducible first | exact HB.out | apply below_alloc | apply pw_below_drewN | apply below_drew1) | exact HB.out))) : w.heap.size ≤ gb195)); have n3_ := Aside0.mk ((by rw [hg]; exact (below_size (by repeat (first | (with_reducible first | exact HB.out | apply below_alloc | apply pw_below_drewN | apply below_drew1) | exact HB.out))) : w.heap.size ≤ gb195)); clear HB; have HB := n0_; have BK195 := n1_; have GW195 := n2_; have GE195 := n3_; clear n0_ n1_ n2_ n3_; clear hb hbox hg))
      go_ret
      exact ⟨by first | rfl | (simp [errW_none, errW_some] <;> rfl) | (simp [*, errW_none, errW_some] <;> rfl), by repeat (first | (with_reducible first | exact HB.out | apply below_alloc | apply pw_below_drewN | apply below_drew1 | refine below_set ?_ GE195.out) | exact HB.out)⟩
    · rw [if_neg c6] at H
      have c6b0 : decide (8 < a2) = false := decide_eq_false c6
      clear c6
      replace H := Option.bind_eq_some_iff.mp H
      obtain ⟨t196, A80, H⟩ := H
      replace H : (some t196) = some r := H
      have A8 := Aside0.mk A80
      clear A80
      obtain rfl := Option.some.inj H
      go_enter Try.func85, Try.ntmps85
      go_wp2_with (first | ((with_reducible refine gate_dst (N := 3) rfl ?_); refine box_event ?hg (N := 3) ?hd (cs := #[.int .i64 a0_0, .int .i64 a0_1, .int .i64 a0_2, .int .i64 a0_3, .int .i64 a0_4, .int .i64 a0_5]) (t := 23) ?hr ?_; (case hd => rfl); (case hg => rfl); (case hr => first | (go_simp; done) | (go_simp; rfl)); intro gb195 hg w9 hbox hb; have n0_ := Aside0.mk (below_step (by repeat (first | (with_reducible first | exact HB.out | apply below_alloc | apply pw_below_drewN | apply below_drew1) | exact HB.out)) hb); have n1_ := Aside0.mk (hbox); have n2_ := Aside0.mk ((by rw [hg]; exact (below_size (by repeat (first | (with_reducible first | exact HB.out | apply below_alloc | apply pw_below_drewN | apply below_drew1) | exact HB.out))) : w.heap.size ≤ gb195)); have n3_ := Aside0.mk ((by rw [hg]; exact (below_size (by repeat (first | (with_reducible first | exact HB.out | apply below_alloc | apply pw_below_drewN | apply below_drew1) | exact HB.out))) : w.heap.size ≤ gb195)); clear HB; have HB := n0_; have BK195 := n1_; have GW195 := n2_; have GE195 := n3_; clear n0_ n1_ n2_ n3_; clear hb hbox hg; have hcz10_0 : w9.cell? ⟨gb195, 0, none⟩ = some (.int .i64 a0_0) := (blk_cell BK195.out 0).trans rfl; have hcz10_1 : w9.cell? ⟨gb195, 1, none⟩ = some (.int .i64 a0_1) := (blk_cell BK195.out 1).trans rfl; have hcz10_2 : w9.cell? ⟨gb195, 2, none⟩ = some (.int .i64 a0_2) := (blk_cell BK195.out 2).trans rfl; have hcz10_3 : w9.cell? ⟨gb195, 3, none⟩ = some (.int .i64 a0_3) := (blk_cell BK195.out 3).trans rfl; have hcz10_4 : w9.cell? ⟨gb195, 4, none⟩ = some (.int .i64 a0_4) := (blk_cell BK195.out 4).trans rfl; have hcz10_5 : w9.cell? ⟨gb195, 5, none⟩ = some (.int .i64 a0_5) := (blk_cell BK195.out 5).trans rfl; have hfz10_0 := blk_frozen BK195.out 0; have hfz10_1 := blk_frozen BK195.out 1; have hfz10_2 := blk_frozen BK195.out 2; have hfz10_3 := blk_frozen BK195.out 3; have hfz10_4 := blk_frozen BK195.out 4; have hfz10_5 := blk_frozen BK195.out 5) | ((with_reducible refine gate_callee (f := 95) rfl ?_); refine goesL_ (some 17) rfl rfl Try.func95 (by kernel_rfl) rfl #[.agg #[.int .i64 a0_0, .int .i64 a0_1, .int .i64 a0_2, .int .i64 a0_3, .int .i64 a0_4, .int .i64 a0_5], .int .i64 a1, .int .i64 (wrap64 (2 + a2))] rfl (by (try simp only [List.map_toArray, List.map_cons, List.map_nil]); first | done | rfl | (simp only [List.length_drop, List.length_take]; rfl)) ?_; (with_reducible refine (plan_within.calls k a0_0 a0_1 a0_2 a0_3 a0_4 a0_5 a1 (wrap64 (2 + a2)) t196 _ A8.out).mono ?_); rintro e w11 ⟨rfl, hb⟩; refine ⟨_, rfl, ?_⟩; have n0_ := Aside0.mk (blk_below (g := gb195) (o := .cells #[.int .i64 a0_0, .int .i64 a0_1, .int .i64 a0_2, .int .i64 a0_3, .int .i64 a0_4, .int .i64 a0_5] 23 (0, 0)) (by (with_reducible repeat (first | refine blk_drewN ?_ _ | refine blk_drew ?_ | refine blk_alloc ?_ _)); exact BK195.out) hb); have n1_ := Aside0.mk (below_step (by repeat (first | (with_reducible first | exact HB.out | apply below_alloc | apply pw_below_drewN | apply below_drew1 | refine below_set ?_ GE195.out) | exact HB.out)) hb); clear BK195; clear HB; have BK195 := n0_; have HB := n1_; clear n0_ n1_; (try clear hb); (try clear hb2); (try clear hk); (try clear hi)))
      go_ret
      exact ⟨by first | rfl | (simp [errW_none, errW_some] <;> rfl) | (simp [*, errW_none, errW_some] <;> rfl), by repeat (first | (with_reducible first | exact HB.out | apply below_alloc | apply pw_below_drewN | apply below_drew1 | refine below_set ?_ GE195.out) | exact HB.out)⟩

-- NOT PRINTED: function 51 (arena_NewMake)

-- NOT PRINTED: function 97 (mem_Mem_Size)

-- NOT PRINTED: function 79 (mem_Mem_there)

-- NOT PRINTED: function 80 (mem_Mem_touch)

-- NOT PRINTED: function 35 (mem_Mem_Load)

/-! ### word_mask: function 111 -/
def word_mask.f (a0 : Int) : Option (Int) := if 0 ≤ a0 then (some (IntKind.u64.wrap ((shl .u64 1 a0) - 1))) else (none)
set_option maxHeartbeats 8000000 in
set_option maxRecDepth 100000 in
theorem word_mask.calls (a0 : Int) (r : Int) (w : World) (h : word_mask.f a0 = some r) :
    Calls Try.prog 111 #[.int .i64 a0] w fun e w' => e = .returned (.int .u64 r) ∧ Drawn0 w w' := by
  have H : (if 0 ≤ a0 then (some (IntKind.u64.wrap ((shl .u64 1 a0) - 1))) else (none)) = some r := h
  clear h
  by_cases c2 : 0 ≤ a0
  · rw [if_pos c2] at H
    have c2b0 := eq_true c2
    have c2b1 : decide (0 ≤ a0) = true := decide_eq_true c2
    clear c2
    obtain ⟨ji3, hji3⟩ : ∃ j_ : Int, (shl .u64 1 a0) = j_ := ⟨_, rfl⟩
    replace H : (some (IntKind.u64.wrap ((ji3) - 1))) = some r := by first | (rw [hji3] at H; exact H) | (simp only [hji3] at H ⊢; exact H)
    have hji3_ : (IntKind.u64.wrap (1 * 2 ^ min a0.toNat 64)) = ji3 := hji3
    have hji3z : a0 ≤ 64 → (IntKind.u64.wrap (1 * 2 ^ a0.toNat)) = ji3 := shl_small hji3
    have hji3u : (IntKind.u64.wrap (2 ^ min a0.toNat 64)) = ji3 := by have h_ := hji3_; rw [Int.one_mul] at h_; exact h_
    have hji3v : a0 ≤ 64 → (IntKind.u64.wrap (2 ^ a0.toNat)) = ji3 := fun hle_ => by have h_ := hji3z hle_; rw [Int.one_mul] at h_; exact h_
    obtain rfl := Option.some.inj H
    go_enter Try.func111, Try.ntmps111
    go_wp2
    go_ret
    exact ⟨by first | rfl | (simp; done) | (simp only [← hji3] <;> (first | rfl | simp)) | (simp [*]; done), by repeat (first | exact Drawn0.refl _ | apply Drawn0.step)⟩
  · rw [if_neg c2] at H
    exact absurd H (by simp)

/-! ### word_Get: function 104 -/
def word_Get.f (a0 : Int) (a1 : Int) (a2 : Int) : Option (Int) := (word_some.f a1 a2).bind fun t198 => (if t198 = true then (if 0 ≤ a1 then ((word_mask.f a2).bind fun t199 => (some (Go.bits .and .u64 (shr .u64 a0 a1) t199))) else (none)) else (some 0))
set_option maxHeartbeats 8000000 in
set_option maxRecDepth 100000 in
theorem word_Get.calls (a0 : Int) (a1 : Int) (a2 : Int) (r : Int) (w : World) (h : word_Get.f a0 a1 a2 = some r) :
    Calls Try.prog 104 #[.int .u64 a0, .int .i64 a1, .int .i64 a2] w fun e w' => e = .returned (.int .u64 r) ∧ Drawn0 w w' := by
  have H : ((word_some.f a1 a2).bind fun t198 => (if t198 = true then (if 0 ≤ a1 then ((word_mask.f a2).bind fun t199 => (some (Go.bits .and .u64 (shr .u64 a0 a1) t199))) else (none)) else (some 0))) = some r := h
  clear h
  replace H := Option.bind_eq_some_iff.mp H
  obtain ⟨t198, A40, H⟩ := H
  replace H : (if t198 = true then (if 0 ≤ a1 then ((word_mask.f a2).bind fun t199 => (some (Go.bits .and .u64 (shr .u64 a0 a1) t199))) else (none)) else (some 0)) = some r := H
  have A4 := Aside0.mk A40
  clear A40
  by_cases c5 : t198 = true
  · subst c5
    have H1 : (if 0 ≤ a1 then ((word_mask.f a2).bind fun t199 => (some (Go.bits .and .u64 (shr .u64 a0 a1) t199))) else (none)) = some r := by rw [if_pos rfl] at H; exact H
    clear H
    have H := H1
    clear H1
    by_cases c6 : 0 ≤ a1
    · rw [if_pos c6] at H
      have c6b0 := eq_true c6
      have c6b1 : decide (0 ≤ a1) = true := decide_eq_true c6
      clear c6
      obtain ⟨ji7, hji7⟩ : ∃ j_ : Int, (shr .u64 a0 a1) = j_ := ⟨_, rfl⟩
      replace H : ((word_mask.f a2).bind fun t199 => (some (Go.bits .and .u64 (ji7) t199))) = some r := by first | (rw [hji7] at H; exact H) | (simp only [hji7] at H ⊢; exact H)
      (try rw [hji7] at A4)
      have hji7_ : (a0 / 2 ^ min a1.toNat 64) = ji7 := hji7
      have hji7z : a1 ≤ 64 → (a0 / 2 ^ a1.toNat) = ji7 := shr_small hji7
      replace H := Option.bind_eq_some_iff.mp H
      obtain ⟨t199, A80, H⟩ := H
      replace H : (some (Go.bits .and .u64 (ji7) t199)) = some r := H
      have A8 := Aside0.mk A80
      clear A80
      obtain rfl := Option.some.inj H
      go_enter Try.func104, Try.ntmps104
      go_wp2_with (first | (go_at_call 105; (with_reducible refine (word_some.calls a1 a2 true _ A4.out).mono ?_); rintro e w' ⟨rfl, ⟨nd, rfl⟩⟩; (try first | exact ⟨rfl, _, World.drewN_drewN _ _ _⟩ | exact ⟨rfl, _, Eq.trans (World.drewN_drewN _ _ _) (congrArg (World.drewN _) (Nat.add_assoc _ _ _))⟩)) | (go_at_call 111; (with_reducible refine (word_mask.calls a2 t199 _ A8.out).mono ?_); rintro e w' ⟨rfl, ⟨nd, rfl⟩⟩; (try first | exact ⟨rfl, _, World.drewN_drewN _ _ _⟩ | exact ⟨rfl, _, Eq.trans (World.drewN_drewN _ _ _) (congrArg (World.drewN _) (Nat.add_assoc _ _ _))⟩)))
      repeat (go_quiet (first | (go_at_call 105; (with_reducible refine (word_some.calls a1 a2 true _ A4.out).mono ?_); rintro e w' ⟨rfl, ⟨nd, rfl⟩⟩; (try first | exact ⟨rfl, _, World.drewN_drewN _ _ _⟩ | exact ⟨rfl, _, Eq.trans (World.drewN_drewN _ _ _) (congrArg (World.drewN _) (Nat.add_assoc _ _ _))⟩)) | (go_at_call 111; (with_reducible refine (word_mask.calls a2 t199 _ A8.out).mono ?_); rintro e w' ⟨rfl, ⟨nd, rfl⟩⟩; (try first | exact ⟨rfl, _, World.drewN_drewN _ _ _⟩ | exact ⟨rfl, _, Eq.trans (World.drewN_drewN _ _ _) (congrArg (World.drewN _) (Nat.add_assoc _ _ _))⟩))); try go_wp2_with (first | (go_at_call 105; (with_reducible refine (word_some.calls a1 a2 true _ A4.out).mono ?_); rintro e w' ⟨rfl, ⟨nd, rfl⟩⟩; (try first | exact ⟨rfl, _, World.drewN_drewN _ _ _⟩ | exact ⟨rfl, _, Eq.trans (World.drewN_drewN _ _ _) (congrArg (World.drewN _) (Nat.add_assoc _ _ _))⟩)) | (go_at_call 111; (with_reducible refine (word_mask.calls a2 t199 _ A8.out).mono ?_); rintro e w' ⟨rfl, ⟨nd, rfl⟩⟩; (try first | exact ⟨rfl, _, World.drewN_drewN _ _ _⟩ | exact ⟨rfl, _, Eq.trans (World.drewN_drewN _ _ _) (congrArg (World.drewN _) (Nat.add_assoc _ _ _))⟩))))
      go_ret
      exact ⟨by first | rfl | (simp; done) | (simp only [← hji7] <;> (first | rfl | simp)) | (simp [*]; done), by repeat (first | exact Drawn0.refl _ | apply Drawn0.step)⟩
    · rw [if_neg c6] at H
      exact absurd H (by simp)
  · replace c5 := Bool.eq_false_iff.mpr c5
    subst c5
    have H1 : (some 0) = some r := by rw [if_neg (show ¬ (false = true) by decide)] at H; exact H
    clear H
    have H := H1
    clear H1
    obtain rfl := Option.some.inj H
    go_enter Try.func104, Try.ntmps104
    go_wp2_with (first | (go_at_call 105; (with_reducible refine (word_some.calls a1 a2 false _ A4.out).mono ?_); rintro e w' ⟨rfl, ⟨nd, rfl⟩⟩; (try first | exact ⟨rfl, _, World.drewN_drewN _ _ _⟩ | exact ⟨rfl, _, Eq.trans (World.drewN_drewN _ _ _) (congrArg (World.drewN _) (Nat.add_assoc _ _ _))⟩)))
    repeat (go_quiet (first | (go_at_call 105; (with_reducible refine (word_some.calls a1 a2 false _ A4.out).mono ?_); rintro e w' ⟨rfl, ⟨nd, rfl⟩⟩; (try first | exact ⟨rfl, _, World.drewN_drewN _ _ _⟩ | exact ⟨rfl, _, Eq.trans (World.drewN_drewN _ _ _) (congrArg (World.drewN _) (Nat.add_assoc _ _ _))⟩))); try go_wp2_with (first | (go_at_call 105; (with_reducible refine (word_some.calls a1 a2 false _ A4.out).mono ?_); rintro e w' ⟨rfl, ⟨nd, rfl⟩⟩; (try first | exact ⟨rfl, _, World.drewN_drewN _ _ _⟩ | exact ⟨rfl, _, Eq.trans (World.drewN_drewN _ _ _) (congrArg (World.drewN _) (Nat.add_assoc _ _ _))⟩))))
    go_ret
    exact ⟨by first | rfl | (simp; done) | (simp [*]; done), by repeat (first | exact Drawn0.refl _ | apply Drawn0.step)⟩

/-! ### tag_TopParts: function 96 -/
def tag_TopParts.f (a0 : Int) : Option (Int × Int) := (word_Get.f a0 16 48).bind fun t200 => ((word_Get.f a0 0 16).bind fun t201 => (some (t200, wrap64 ((wrap64 (t201)) - 1))))
set_option maxHeartbeats 8000000 in
set_option maxRecDepth 100000 in
theorem tag_TopParts.calls (a0 : Int) (r1 : Int) (r2 : Int) (w : World) (h : tag_TopParts.f a0 = some (r1, r2)) :
    Calls Try.prog 96 #[.int .u64 a0] w fun e w' => e = .returned (.tuple #[.int .u64 r1, .int .i64 r2]) ∧ Drawn0 w w' := by
  have H : ((word_Get.f a0 16 48).bind fun t200 => ((word_Get.f a0 0 16).bind fun t201 => (some (t200, wrap64 ((wrap64 (t201)) - 1))))) = some (r1, r2) := h
  clear h
  replace H := Option.bind_eq_some_iff.mp H
  obtain ⟨t200, A20, H⟩ := H
  replace H : ((word_Get.f a0 0 16).bind fun t201 => (some (t200, wrap64 ((wrap64 (t201)) - 1)))) = some (r1, r2) := H
  have A2 := Aside0.mk A20
  clear A20
  replace H := Option.bind_eq_some_iff.mp H
  obtain ⟨t201, A30, H⟩ := H
  replace H : (some (t200, wrap64 ((wrap64 (t201)) - 1))) = some (r1, r2) := H
  have A3 := Aside0.mk A30
  clear A30
  simp only [Option.some.injEq, Prod.mk.injEq] at H
  obtain ⟨rfl, rfl⟩ := H
  go_enter Try.func96, Try.ntmps96
  go_wp2_with (first | ((with_reducible refine gate_callee (f := 104) rfl ?_); refine goesL_ (some 5) rfl rfl Try.func104 (by kernel_rfl) rfl #[.int .u64 a0, .int .i64 16, .int .i64 48] rfl (by (try simp only [List.map_toArray, List.map_cons, List.map_nil]); first | done | rfl | (simp only [List.length_drop, List.length_take]; rfl)) ?_; (with_reducible refine (word_Get.calls a0 16 48 t200 _ A2.out).mono ?_); rintro e w' ⟨rfl, ⟨nd, rfl⟩⟩; refine ⟨_, rfl, ?_⟩) | ((with_reducible refine gate_callee (f := 104) rfl ?_); refine goesL_ (some 7) rfl rfl Try.func104 (by kernel_rfl) rfl #[.int .u64 a0, .int .i64 0, .int .i64 16] rfl (by (try simp only [List.map_toArray, List.map_cons, List.map_nil]); first | done | rfl | (simp only [List.length_drop, List.length_take]; rfl)) ?_; (with_reducible refine (word_Get.calls a0 0 16 t201 _ A3.out).mono ?_); rintro e w' ⟨rfl, ⟨nd, rfl⟩⟩; refine ⟨_, rfl, ?_⟩))
  go_ret2
  exact ⟨by first | rfl | (simp; done) | (simp [*]; done), by repeat (first | exact Drawn0.refl _ | apply Drawn0.step)⟩

/-! ### stack_first: function 75 -/
def stack_first.f (a0_0 : Int) (a0_1 : Int) (a0_2 : Int) (a0_3 : Int) (a0_4 : Int) (a0_5 : Int) (a1 : Int) : Option (Int) := (tag_TopParts.f a1).bind fun bt203 => (if bt203.2 ≥ a0_0 then (some (-1)) else (some bt203.2))
set_option maxHeartbeats 8000000 in
set_option maxRecDepth 100000 in
theorem stack_first.calls (a0_0 : Int) (a0_1 : Int) (a0_2 : Int) (a0_3 : Int) (a0_4 : Int) (a0_5 : Int) (a1 : Int) (r : Int) (w : World) (h : stack_first.f a0_0 a0_1 a0_2 a0_3 a0_4 a0_5 a1 = some r) :
    Calls Try.prog 75 #[.agg #[.int .i64 a0_0, .int .i64 a0_1, .int .i64 a0_2, .int .i64 a0_3, .int .i64 a0_4, .int .i64 a0_5], .int .u64 a1] w fun e w' => e = .returned (.int .i64 r) ∧ Below w.heap.size w w' := by
  have hu23 := Try.underlying23
  have HB := Aside0.mk (Below.refl w.heap.size w)
  have H : ((tag_TopParts.f a1).bind fun bt203 => (if bt203.2 ≥ a0_0 then (some (-1)) else (some bt203.2))) = some r := h
  clear h
  replace H := Option.bind_eq_some_iff.mp H
  obtain ⟨⟨t203, t204⟩, A30, H⟩ := H
  replace H : (if t204 ≥ a0_0 then (some (-1)) else (some t204)) = some r := H
  have A3 := Aside0.mk A30
  clear A30
  by_cases c4 : t204 ≥ a0_0
  · rw [if_pos c4] at H
    have c4b0 : decide (a0_0 ≤ t204) = true := decide_eq_true c4
    clear c4
    obtain rfl := Option.some.inj H
    go_enter Try.func75, Try.ntmps75
    go_wp2_with (first | ((with_reducible refine gate_dst (N := 2) rfl ?_); refine box_event ?hg (N := 2) ?hd (cs := #[.int .i64 a0_0, .int .i64 a0_1, .int .i64 a0_2, .int .i64 a0_3, .int .i64 a0_4, .int .i64 a0_5]) (t := 23) ?hr ?_; (case hd => rfl); (case hg => rfl); (case hr => first | (go_simp; done) | (go_simp; rfl)); intro gb202 hg w5 hbox hb; have n0_ := Aside0.mk (below_step (by repeat (first | (with_reducible first | exact HB.out | apply below_alloc | apply pw_below_drewN | apply below_drew1) | exact HB.out)) hb); have n1_ := Aside0.mk (hbox); have n2_ := Aside0.mk ((by rw [hg]; exact (below_size (by repeat (first | (with_reducible first | exact HB.out | apply below_alloc | apply pw_below_drewN | apply below_drew1) | exact HB.out))) : w.heap.size ≤ gb202)); have n3_ := Aside0.mk ((by rw [hg]; exact (below_size (by repeat (first | (with_reducible first | exact HB.out | apply below_alloc | apply pw_below_drewN | apply below_drew1) | exact HB.out))) : w.heap.size ≤ gb202)); clear HB; have HB := n0_; have BK202 := n1_; have GW202 := n2_; have GE202 := n3_; clear n0_ n1_ n2_ n3_; clear hb hbox hg) | ((with_reducible refine gate_callee (f := 96) rfl ?_); refine goesL_ (some 9) rfl rfl Try.func96 (by kernel_rfl) rfl #[.int .u64 a1] rfl (by (try simp only [List.map_toArray, List.map_cons, List.map_nil]); first | done | rfl | (simp only [List.length_drop, List.length_take]; rfl)) ?_; (with_reducible refine (tag_TopParts.calls a1 t203 t204 _ A3.out).mono ?_); rintro e w' ⟨rfl, ⟨nd, rfl⟩⟩; refine ⟨_, rfl, ?_⟩; have hcz6_0 : w5.cell? ⟨gb202, 0, none⟩ = some (.int .i64 a0_0) := (blk_cell BK202.out 0).trans rfl; have hcz6_1 : w5.cell? ⟨gb202, 1, none⟩ = some (.int .i64 a0_1) := (blk_cell BK202.out 1).trans rfl; have hcz6_2 : w5.cell? ⟨gb202, 2, none⟩ = some (.int .i64 a0_2) := (blk_cell BK202.out 2).trans rfl; have hcz6_3 : w5.cell? ⟨gb202, 3, none⟩ = some (.int .i64 a0_3) := (blk_cell BK202.out 3).trans rfl; have hcz6_4 : w5.cell? ⟨gb202, 4, none⟩ = some (.int .i64 a0_4) := (blk_cell BK202.out 4).trans rfl; have hcz6_5 : w5.cell? ⟨gb202, 5, none⟩ = some (.int .i64 a0_5) := (blk_cell BK202.out 5).trans rfl; have hfz6_0 := blk_frozen BK202.out 0; have hfz6_1 := blk_frozen BK202.out 1; have hfz6_2 := blk_frozen BK202.out 2; have hfz6_3 := blk_frozen BK202.out 3; have hfz6_4 := blk_frozen BK202.out 4; have hfz6_5 := blk_frozen BK202.out 5))
    go_ret
    exact ⟨by first | rfl | (simp [errW_none, errW_some] <;> rfl) | (simp [*, errW_none, errW_some] <;> rfl), by repeat (first | (with_reducible first | exact HB.out | apply below_alloc | apply pw_below_drewN | apply below_drew1 | refine below_set ?_ GE202.out) | exact HB.out)⟩
  · rw [if_neg c4] at H
    have c4b0 : decide (a0_0 ≤ t204) = false := decide_eq_false c4
    clear c4
    obtain rfl := Option.some.inj H
    go_enter Try.func75, Try.ntmps75
    go_wp2_with (first | ((with_reducible refine gate_dst (N := 2) rfl ?_); refine box_event ?hg (N := 2) ?hd (cs := #[.int .i64 a0_0, .int .i64 a0_1, .int .i64 a0_2, .int .i64 a0_3, .int .i64 a0_4, .int .i64 a0_5]) (t := 23) ?hr ?_; (case hd => rfl); (case hg => rfl); (case hr => first | (go_simp; done) | (go_simp; rfl)); intro gb202 hg w7 hbox hb; have n0_ := Aside0.mk (below_step (by repeat (first | (with_reducible first | exact HB.out | apply below_alloc | apply pw_below_drewN | apply below_drew1) | exact HB.out)) hb); have n1_ := Aside0.mk (hbox); have n2_ := Aside0.mk ((by rw [hg]; exact (below_size (by repeat (first | (with_reducible first | exact HB.out | apply below_alloc | apply pw_below_drewN | apply below_drew1) | exact HB.out))) : w.heap.size ≤ gb202)); have n3_ := Aside0.mk ((by rw [hg]; exact (below_size (by repeat (first | (with_reducible first | exact HB.out | apply below_alloc | apply pw_below_drewN | apply below_drew1) | exact HB.out))) : w.heap.size ≤ gb202)); clear HB; have HB := n0_; have BK202 := n1_; have GW202 := n2_; have GE202 := n3_; clear n0_ n1_ n2_ n3_; clear hb hbox hg) | ((with_reducible refine gate_callee (f := 96) rfl ?_); refine goesL_ (some 9) rfl rfl Try.func96 (by kernel_rfl) rfl #[.int .u64 a1] rfl (by (try simp only [List.map_toArray, List.map_cons, List.map_nil]); first | done | rfl | (simp only [List.length_drop, List.length_take]; rfl)) ?_; (with_reducible refine (tag_TopParts.calls a1 t203 t204 _ A3.out).mono ?_); rintro e w' ⟨rfl, ⟨nd, rfl⟩⟩; refine ⟨_, rfl, ?_⟩; have hcz8_0 : w7.cell? ⟨gb202, 0, none⟩ = some (.int .i64 a0_0) := (blk_cell BK202.out 0).trans rfl; have hcz8_1 : w7.cell? ⟨gb202, 1, none⟩ = some (.int .i64 a0_1) := (blk_cell BK202.out 1).trans rfl; have hcz8_2 : w7.cell? ⟨gb202, 2, none⟩ = some (.int .i64 a0_2) := (blk_cell BK202.out 2).trans rfl; have hcz8_3 : w7.cell? ⟨gb202, 3, none⟩ = some (.int .i64 a0_3) := (blk_cell BK202.out 3).trans rfl; have hcz8_4 : w7.cell? ⟨gb202, 4, none⟩ = some (.int .i64 a0_4) := (blk_cell BK202.out 4).trans rfl; have hcz8_5 : w7.cell? ⟨gb202, 5, none⟩ = some (.int .i64 a0_5) := (blk_cell BK202.out 5).trans rfl; have hfz8_0 := blk_frozen BK202.out 0; have hfz8_1 := blk_frozen BK202.out 1; have hfz8_2 := blk_frozen BK202.out 2; have hfz8_3 := blk_frozen BK202.out 3; have hfz8_4 := blk_frozen BK202.out 4; have hfz8_5 := blk_frozen BK202.out 5))
    go_ret
    exact ⟨by first | rfl | (simp [errW_none, errW_some] <;> rfl) | (simp [*, errW_none, errW_some] <;> rfl), by repeat (first | (with_reducible first | exact HB.out | apply below_alloc | apply pw_below_drewN | apply below_drew1 | refine below_set ?_ GE202.out) | exact HB.out)⟩

/-! ### stack_linked: function 76 -/
def stack_linked.f (a0_0 : Int) (a0_1 : Int) (a0_2 : Int) (a0_3 : Int) (a0_4 : Int) (a0_5 : Int) (a1 : Int) : Option (Int) := if a1 > (IntKind.u64.wrap (a0_0)) then (some (-1)) else (some (wrap64 ((wrap64 (a1)) - 1)))
set_option maxHeartbeats 8000000 in
set_option maxRecDepth 100000 in
theorem stack_linked.calls (a0_0 : Int) (a0_1 : Int) (a0_2 : Int) (a0_3 : Int) (a0_4 : Int) (a0_5 : Int) (a1 : Int) (r : Int) (w : World) (h : stack_linked.f a0_0 a0_1 a0_2 a0_3 a0_4 a0_5 a1 = some r) :
    Calls Try.prog 76 #[.agg #[.int .i64 a0_0, .int .i64 a0_1, .int .i64 a0_2, .int .i64 a0_3, .int .i64 a0_4, .int .i64 a0_5], .int .u64 a1] w fun e w' => e = .returned (.int .i64 r) ∧ Below w.heap.size w w' := by
  have hu23 := Try.underlying23
  have HB := Aside0.mk (Below.refl w.heap.size w)
  have H : (if a1 > (IntKind.u64.wrap (a0_0)) then (some (-1)) else (some (wrap64 ((wrap64 (a1)) - 1)))) = some r := h
  clear h
  by_cases c3 : a1 > (IntKind.u64.wrap (a0_0))
  · rw [if_pos c3] at H
    have c3b0 : decide ((IntKind.u64.wrap (a0_0)) < a1) = true := decide_eq_true c3
    clear c3
    obtain rfl := Option.some.inj H
    go_enter Try.func76, Try.ntmps76
    go_wp2_with (first | ((with_reducible refine gate_dst (N := 2) rfl ?_); refine box_event ?hg (N := 2) ?hd (cs := #[.int .i64 a0_0, .int .i64 a0_1, .int .i64 a0_2, .int .i64 a0_3, .int .i64 a0_4, .int .i64 a0_5]) (t := 23) ?hr ?_; (case hd => rfl); (case hg => rfl); (case hr => first | (go_simp; done) | (go_simp; rfl)); intro gb205 hg w4 hbox hb; have n0_ := Aside0.mk (below_step (by repeat (first | (with_reducible first | exact HB.out | apply below_alloc | apply pw_below_drewN | apply below_drew1) | exact HB.out)) hb); have n1_ := Aside0.mk (hbox); have n2_ := Aside0.mk ((by rw [hg]; exact (below_size (by repeat (first | (with_reducible first | exact HB.out | apply below_alloc | apply pw_below_drewN | apply below_drew1) | exact HB.out))) : w.heap.size ≤ gb205)); have n3_ := Aside0.mk ((by rw [hg]; exact (below_size (by repeat (first | (with_reducible first | exact HB.out | apply below_alloc | apply pw_below_drewN | apply below_drew1) | exact HB.out))) : w.heap.size ≤ gb205)); clear HB; have HB := n0_; have BK205 := n1_; have GW205 := n2_; have GE205 := n3_; clear n0_ n1_ n2_ n3_; clear hb hbox hg; have hcz5_0 : w4.cell? ⟨gb205, 0, none⟩ = some (.int .i64 a0_0) := (blk_cell BK205.out 0).trans rfl; have hcz5_1 : w4.cell? ⟨gb205, 1, none⟩ = some (.int .i64 a0_1) := (blk_cell BK205.out 1).trans rfl; have hcz5_2 : w4.cell? ⟨gb205, 2, none⟩ = some (.int .i64 a0_2) := (blk_cell BK205.out 2).trans rfl; have hcz5_3 : w4.cell? ⟨gb205, 3, none⟩ = some (.int .i64 a0_3) := (blk_cell BK205.out 3).trans rfl; have hcz5_4 : w4.cell? ⟨gb205, 4, none⟩ = some (.int .i64 a0_4) := (blk_cell BK205.out 4).trans rfl; have hcz5_5 : w4.cell? ⟨gb205, 5, none⟩ = some (.int .i64 a0_5) := (blk_cell BK205.out 5).trans rfl; have hfz5_0 := blk_frozen BK205.out 0; have hfz5_1 := blk_frozen BK205.out 1; have hfz5_2 := blk_frozen BK205.out 2; have hfz5_3 := blk_frozen BK205.out 3; have hfz5_4 := blk_frozen BK205.out 4; have hfz5_5 := blk_frozen BK205.out 5))
    go_ret
    exact ⟨by first | rfl | (simp [errW_none, errW_some] <;> rfl) | (simp [*, errW_none, errW_some] <;> rfl), by repeat (first | (with_reducible first | exact HB.out | apply below_alloc | apply pw_below_drewN | apply below_drew1 | refine below_set ?_ GE205.out) | exact HB.out)⟩
  · rw [if_neg c3] at H
    have c3b0 : decide ((IntKind.u64.wrap (a0_0)) < a1) = false := decide_eq_false c3
    clear c3
    obtain rfl := Option.some.inj H
    go_enter Try.func76, Try.ntmps76
    go_wp2_with (first | ((with_reducible refine gate_dst (N := 2) rfl ?_); refine box_event ?hg (N := 2) ?hd (cs := #[.int .i64 a0_0, .int .i64 a0_1, .int .i64 a0_2, .int .i64 a0_3, .int .i64 a0_4, .int .i64 a0_5]) (t := 23) ?hr ?_; (case hd => rfl); (case hg => rfl); (case hr => first | (go_simp; done) | (go_simp; rfl)); intro gb205 hg w6 hbox hb; have n0_ := Aside0.mk (below_step (by repeat (first | (with_reducible first | exact HB.out | apply below_alloc | apply pw_below_drewN | apply below_drew1) | exact HB.out)) hb); have n1_ := Aside0.mk (hbox); have n2_ := Aside0.mk ((by rw [hg]; exact (below_size (by repeat (first | (with_reducible first | exact HB.out | apply below_alloc | apply pw_below_drewN | apply below_drew1) | exact HB.out))) : w.heap.size ≤ gb205)); have n3_ := Aside0.mk ((by rw [hg]; exact (below_size (by repeat (first | (with_reducible first | exact HB.out | apply below_alloc | apply pw_below_drewN | apply below_drew1) | exact HB.out))) : w.heap.size ≤ gb205)); clear HB; have HB := n0_; have BK205 := n1_; have GW205 := n2_; have GE205 := n3_; clear n0_ n1_ n2_ n3_; clear hb hbox hg; have hcz7_0 : w6.cell? ⟨gb205, 0, none⟩ = some (.int .i64 a0_0) := (blk_cell BK205.out 0).trans rfl; have hcz7_1 : w6.cell? ⟨gb205, 1, none⟩ = some (.int .i64 a0_1) := (blk_cell BK205.out 1).trans rfl; have hcz7_2 : w6.cell? ⟨gb205, 2, none⟩ = some (.int .i64 a0_2) := (blk_cell BK205.out 2).trans rfl; have hcz7_3 : w6.cell? ⟨gb205, 3, none⟩ = some (.int .i64 a0_3) := (blk_cell BK205.out 3).trans rfl; have hcz7_4 : w6.cell? ⟨gb205, 4, none⟩ = some (.int .i64 a0_4) := (blk_cell BK205.out 4).trans rfl; have hcz7_5 : w6.cell? ⟨gb205, 5, none⟩ = some (.int .i64 a0_5) := (blk_cell BK205.out 5).trans rfl; have hfz7_0 := blk_frozen BK205.out 0; have hfz7_1 := blk_frozen BK205.out 1; have hfz7_2 := blk_frozen BK205.out 2; have hfz7_3 := blk_frozen BK205.out 3; have hfz7_4 := blk_frozen BK205.out 4; have hfz7_5 := blk_frozen BK205.out 5))
    go_ret
    exact ⟨by first | rfl | (simp [errW_none, errW_some] <;> rfl) | (simp [*, errW_none, errW_some] <;> rfl), by repeat (first | (with_reducible first | exact HB.out | apply below_alloc | apply pw_below_drewN | apply below_drew1 | refine below_set ?_ GE205.out) | exact HB.out)⟩

-- NOT PRINTED: function 82 (mem_Mem_Swap)

/-! ### tag_Moved: function 83 -/
def tag_Moved.f (k : Nat) (a0 : Int) (a1 : Int) : Option (Int) := (tag_slots.f a1).bind fun t206 => (if t206 = true then ((tag_TopParts.f a0).bind fun bt207 => ((tag_Top.f k (Go.bits .and .u64 (IntKind.u64.wrap (bt207.1 + 1)) 281474976710655) a1).bind fun bt209 => (some bt209.1))) else ((tag_TopParts.f a0).bind fun bt211 => ((tag_Top.f k (Go.bits .and .u64 (IntKind.u64.wrap (bt211.1 + 1)) 281474976710655) (-1)).bind fun bt213 => (some bt213.1))))
theorem tag_Moved.mono : ∀ a0 a1 k, LeO (tag_Moved.f k a0 a1) (tag_Moved.f (k + 1) a0 a1) := by
  intro a0 a1 k
  unfold tag_Moved.f
  repeat' first
      | (with_reducible exact tag_Top.mono _ _ _)
      | (with_reducible exact LeO.refl _)
      | (with_reducible exact LeO.none _)
      | (with_reducible refine LeO.ite ?_ ?_)
      | (with_reducible refine LeO.bind ?_ (fun _ => ?_))
      | exact tag_Top.mono _ _ _
      | exact LeO.none _
      | refine LeO.ite ?_ ?_
      | refine LeO.bind ?_ (fun _ => ?_)
set_option maxHeartbeats 8000000 in
set_option maxRecDepth 100000 in
theorem tag_Moved.calls (k : Nat) (a0 : Int) (a1 : Int) (r : Int) (w : World) (h : tag_Moved.f k a0 a1 = some r) :
    Calls Try.prog 83 #[.int .u64 a0, .int .i64 a1] w fun e w' => e = .returned (.int .u64 r) ∧ Below w.heap.size w w' := by
  have HB := Aside0.mk (Below.refl w.heap.size w)
  have H : ((tag_slots.f a1).bind fun t206 => (if t206 = true then ((tag_TopParts.f a0).bind fun bt207 => ((tag_Top.f k (Go.bits .and .u64 (IntKind.u64.wrap (bt207.1 + 1)) 281474976710655) a1).bind fun bt209 => (some bt209.1))) else ((tag_TopParts.f a0).bind fun bt211 => ((tag_Top.f k (Go.bits .and .u64 (IntKind.u64.wrap (bt211.1 + 1)) 281474976710655) (-1)).bind fun bt213 => (some bt213.1))))) = some r := h
  clear h
  replace H := Option.bind_eq_some_iff.mp H
  obtain ⟨t206, A30, H⟩ := H
  replace H : (if t206 = true then ((tag_TopParts.f a0).bind fun bt207 => ((tag_Top.f k (Go.bits .and .u64 (IntKind.u64.wrap (bt207.1 + 1)) 281474976710655) a1).bind fun bt209 => (some bt209.1))) else ((tag_TopParts.f a0).bind fun bt211 => ((tag_Top.f k (Go.bits .and .u64 (IntKind.u64.wrap (bt211.1 + 1)) 281474976710655) (-1)).bind fun bt213 => (some bt213.1)))) = some r := H
  have A3 := Aside0.mk A30
  clear A30
  by_cases c4 : t206 = true
  · subst c4
    have H1 : ((tag_TopParts.f a0).bind fun bt207 => ((tag_Top.f k (Go.bits .and .u64 (IntKind.u64.wrap (bt207.1 + 1)) 281474976710655) a1).bind fun bt209 => (some bt209.1))) = some r := by rw [if_pos rfl] at H; exact H
    clear H
    have H := H1
    clear H1
    replace H := Option.bind_eq_some_iff.mp H
    obtain ⟨⟨t207, t208⟩, A50, H⟩ := H
    replace H : ((tag_Top.f k (Go.bits .and .u64 (IntKind.u64.wrap (t207 + 1)) 281474976710655) a1).bind fun bt209 => (some bt209.1)) = some r := H
    have A5 := Aside0.mk A50
    clear A50
    replace H := Option.bind_eq_some_iff.mp H
    obtain ⟨⟨t209, t210⟩, A60, H⟩ := H
    replace H : (some t209) = some r := H
    have A6 := Aside0.mk A60
    clear A60
    obtain rfl := Option.some.inj H
    go_enter Try.func83, Try.ntmps83
    go_wp2_with (first | ((with_reducible refine gate_callee (f := 98) rfl ?_); refine goesL_ (some 10) rfl rfl Try.func98 (by kernel_rfl) rfl #[.int .i64 a1] rfl (by (try simp only [List.map_toArray, List.map_cons, List.map_nil]); first | done | rfl | (simp only [List.length_drop, List.length_take]; rfl)) ?_; (with_reducible refine (tag_slots.calls a1 true _ A3.out).mono ?_); rintro e w' ⟨rfl, ⟨nd, rfl⟩⟩; refine ⟨_, rfl, ?_⟩) | ((with_reducible refine gate_callee (f := 96) rfl ?_); refine goesL_ (some 14) rfl rfl Try.func96 (by kernel_rfl) rfl #[.int .u64 a0] rfl (by (try simp only [List.map_toArray, List.map_cons, List.map_nil]); first | done | rfl | (simp only [List.length_drop, List.length_take]; rfl)) ?_; (with_reducible refine (tag_TopParts.calls a0 t207 t208 _ A5.out).mono ?_); rintro e w' ⟨rfl, ⟨nd, rfl⟩⟩; refine ⟨_, rfl, ?_⟩) | ((with_reducible refine gate_callee (f := 68) rfl ?_); refine goesL_ (some 22) rfl rfl Try.func68 (by kernel_rfl) rfl #[.int .u64 (Go.bits .and .u64 (IntKind.u64.wrap (t207 + 1)) 281474976710655), .int .i64 a1] rfl (by (try simp only [List.map_toArray, List.map_cons, List.map_nil]); first | done | rfl | (simp only [List.length_drop, List.length_take]; rfl)) ?_; (with_reducible refine (tag_Top.calls k (Go.bits .and .u64 (IntKind.u64.wrap (t207 + 1)) 281474976710655) a1 t209 t210 _ A6.out).mono ?_); rintro e w7 ⟨rfl, hb⟩; refine ⟨_, rfl, ?_⟩; have n0_ := Aside0.mk (below_step (by repeat (first | (with_reducible first | exact HB.out | apply below_alloc | apply pw_below_drewN | apply below_drew1) | exact HB.out)) hb); clear HB; have HB := n0_; clear n0_; (try clear hb); (try clear hb2); (try clear hk); (try clear hi)))
    go_ret
    exact ⟨by first | rfl | (simp [errW_none, errW_some] <;> rfl) | (simp [*, errW_none, errW_some] <;> rfl), by repeat (first | (with_reducible first | exact HB.out | apply below_alloc | apply pw_below_drewN | apply below_drew1) | exact HB.out)⟩
  · replace c4 := Bool.eq_false_iff.mpr c4
    subst c4
    have H1 : ((tag_TopParts.f a0).bind fun bt211 => ((tag_Top.f k (Go.bits .and .u64 (IntKind.u64.wrap (bt211.1 + 1)) 281474976710655) (-1)).bind fun bt213 => (some bt213.1))) = some r := by rw [if_neg (show ¬ (false = true) by decide)] at H; exact H
    clear H
    have H := H1
    clear H1
    replace H := Option.bind_eq_some_iff.mp H
    obtain ⟨⟨t211, t212⟩, A80, H⟩ := H
    replace H : ((tag_Top.f k (Go.bits .and .u64 (IntKind.u64.wrap (t211 + 1)) 281474976710655) (-1)).bind fun bt213 => (some bt213.1)) = some r := H
    have A8 := Aside0.mk A80
    clear A80
    replace H := Option.bind_eq_some_iff.mp H
    obtain ⟨⟨t213, t214⟩, A90, H⟩ := H
    replace H : (some t213) = some r := H
    have A9 := Aside0.mk A90
    clear A90
    obtain rfl := Option.some.inj H
    go_enter Try.func83, Try.ntmps83
    go_wp2_with (first | ((with_reducible refine gate_callee (f := 98) rfl ?_); refine goesL_ (some 10) rfl rfl Try.func98 (by kernel_rfl) rfl #[.int .i64 a1] rfl (by (try simp only [List.map_toArray, List.map_cons, List.map_nil]); first | done | rfl | (simp only [List.length_drop, List.length_take]; rfl)) ?_; (with_reducible refine (tag_slots.calls a1 false _ A3.out).mono ?_); rintro e w' ⟨rfl, ⟨nd, rfl⟩⟩; refine ⟨_, rfl, ?_⟩) | ((with_reducible refine gate_callee (f := 96) rfl ?_); refine goesL_ (some 14) rfl rfl Try.func96 (by kernel_rfl) rfl #[.int .u64 a0] rfl (by (try simp only [List.map_toArray, List.map_cons, List.map_nil]); first | done | rfl | (simp only [List.length_drop, List.length_take]; rfl)) ?_; (with_reducible refine (tag_TopParts.calls a0 t211 t212 _ A8.out).mono ?_); rintro e w' ⟨rfl, ⟨nd, rfl⟩⟩; refine ⟨_, rfl, ?_⟩) | ((with_reducible refine gate_callee (f := 68) rfl ?_); refine goesL_ (some 22) rfl rfl Try.func68 (by kernel_rfl) rfl #[.int .u64 (Go.bits .and .u64 (IntKind.u64.wrap (t211 + 1)) 281474976710655), .int .i64 (-1)] rfl (by (try simp only [List.map_toArray, List.map_cons, List.map_nil]); first | done | rfl | (simp only [List.length_drop, List.length_take]; rfl)) ?_; (with_reducible refine (tag_Top.calls k (Go.bits .and .u64 (IntKind.u64.wrap (t211 + 1)) 281474976710655) (-1) t213 t214 _ A9.out).mono ?_); rintro e w10 ⟨rfl, hb⟩; refine ⟨_, rfl, ?_⟩; have n0_ := Aside0.mk (below_step (by repeat (first | (with_reducible first | exact HB.out | apply below_alloc | apply pw_below_drewN | apply below_drew1) | exact HB.out)) hb); clear HB; have HB := n0_; clear n0_; (try clear hb); (try clear hb2); (try clear hk); (try clear hi)))
    go_ret
    exact ⟨by first | rfl | (simp [errW_none, errW_some] <;> rfl) | (simp [*, errW_none, errW_some] <;> rfl), by repeat (first | (with_reducible first | exact HB.out | apply below_alloc | apply pw_below_drewN | apply below_drew1) | exact HB.out)⟩

-- NOT PRINTED: function 45 (stack_Pop_Step)

-- NOT PRINTED: function 57 (mem_Mem_Store)

/-! ### plan_Header: function 72 -/
def plan_Header.f (k : Nat) (a0_0 : Int) (a0_1 : Int) (a0_2 : Int) (a0_3 : Int) (a0_4 : Int) (a0_5 : Int) (a1 : Int) : Option (Int) := (plan_within.f k a0_0 a0_1 a0_2 a0_3 a0_4 a0_5 a1 0).bind fun t216 => (some t216)
theorem plan_Header.mono : ∀ a0 a1 a2 a3 a4 a5 a6 k, LeO (plan_Header.f k a0 a1 a2 a3 a4 a5 a6) (plan_Header.f (k + 1) a0 a1 a2 a3 a4 a5 a6) := by
  intro a0 a1 a2 a3 a4 a5 a6 k
  unfold plan_Header.f
  repeat' first
      | (with_reducible exact plan_within.mono _ _ _ _ _ _ _ _ _)
      | (with_reducible exact LeO.refl _)
      | (with_reducible exact LeO.none _)
      | (with_reducible refine LeO.ite ?_ ?_)
      | (with_reducible refine LeO.bind ?_ (fun _ => ?_))
      | exact plan_within.mono _ _ _ _ _ _ _ _ _
      | exact LeO.none _
      | refine LeO.ite ?_ ?_
      | refine LeO.bind ?_ (fun _ => ?_)
set_option maxHeartbeats 8000000 in
set_option maxRecDepth 100000 in
theorem plan_Header.calls (k : Nat) (a0_0 : Int) (a0_1 : Int) (a0_2 : Int) (a0_3 : Int) (a0_4 : Int) (a0_5 : Int) (a1 : Int) (r : Int) (w : World) (h : plan_Header.f k a0_0 a0_1 a0_2 a0_3 a0_4 a0_5 a1 = some r) :
    Calls Try.prog 72 #[.agg #[.int .i64 a0_0, .int .i64 a0_1, .int .i64 a0_2, .int .i64 a0_3, .int .i64 a0_4, .int .i64 a0_5], .int .i64 a1] w fun e w' => e = .returned (.int .i64 r) ∧ Below w.heap.size w w' := by
  have hu23 := Try.underlying23
  have HB := Aside0.mk (Below.refl w.heap.size w)
  have H : ((plan_within.f k a0_0 a0_1 a0_2 a0_3 a0_4 a0_5 a1 0).bind fun t216 => (some t216)) = some r := h
  clear h
  replace H := Option.bind_eq_some_iff.mp H
  obtain ⟨t216, A30, H⟩ := H
  replace H : (some t216) = some r := H
  have A3 := Aside0.mk A30
  clear A30
  obtain rfl := Option.some.inj H
  go_enter Try.func72, Try.ntmps72
  go_wp2_with (first | ((with_reducible refine gate_dst (N := 2) rfl ?_); refine box_event ?hg (N := 2) ?hd (cs := #[.int .i64 a0_0, .int .i64 a0_1, .int .i64 a0_2, .int .i64 a0_3, .int .i64 a0_4, .int .i64 a0_5]) (t := 23) ?hr ?_; (case hd => rfl); (case hg => rfl); (case hr => first | (go_simp; done) | (go_simp; rfl)); intro gb215 hg w4 hbox hb; have n0_ := Aside0.mk (below_step (by repeat (first | (with_reducible first | exact HB.out | apply below_alloc | apply pw_below_drewN | apply below_drew1) | exact HB.out)) hb); have n1_ := Aside0.mk (hbox); have n2_ := Aside0.mk ((by rw [hg]; exact (below_size (by repeat (first | (with_reducible first | exact HB.out | apply below_alloc | apply pw_below_drewN | apply below_drew1) | exact HB.out))) : w.heap.size ≤ gb215)); have n3_ := Aside0.mk ((by rw [hg]; exact (below_size (by repeat (first | (with_reducible first | exact HB.out | apply below_alloc | apply pw_below_drewN | apply below_drew1) | exact HB.out))) : w.heap.size ≤ gb215)); clear HB; have HB := n0_; have BK215 := n1_; have GW215 := n2_; have GE215 := n3_; clear n0_ n1_ n2_ n3_; clear hb hbox hg; have hcz5_0 : w4.cell? ⟨gb215, 0, none⟩ = some (.int .i64 a0_0) := (blk_cell BK215.out 0).trans rfl; have hcz5_1 : w4.cell? ⟨gb215, 1, none⟩ = some (.int .i64 a0_1) := (blk_cell BK215.out 1).trans rfl; have hcz5_2 : w4.cell? ⟨gb215, 2, none⟩ = some (.int .i64 a0_2) := (blk_cell BK215.out 2).trans rfl; have hcz5_3 : w4.cell? ⟨gb215, 3, none⟩ = some (.int .i64 a0_3) := (blk_cell BK215.out 3).trans rfl; have hcz5_4 : w4.cell? ⟨gb215, 4, none⟩ = some (.int .i64 a0_4) := (blk_cell BK215.out 4).trans rfl; have hcz5_5 : w4.cell? ⟨gb215, 5, none⟩ = some (.int .i64 a0_5) := (blk_cell BK215.out 5).trans rfl; have hfz5_0 := blk_frozen BK215.out 0; have hfz5_1 := blk_frozen BK215.out 1; have hfz5_2 := blk_frozen BK215.out 2; have hfz5_3 := blk_frozen BK215.out 3; have hfz5_4 := blk_frozen BK215.out 4; have hfz5_5 := blk_frozen BK215.out 5) | ((with_reducible refine gate_callee (f := 95) rfl ?_); refine goesL_ (some 7) rfl rfl Try.func95 (by kernel_rfl) rfl #[.agg #[.int .i64 a0_0, .int .i64 a0_1, .int .i64 a0_2, .int .i64 a0_3, .int .i64 a0_4, .int .i64 a0_5], .int .i64 a1, .int .i64 0] rfl (by (try simp only [List.map_toArray, List.map_cons, List.map_nil]); first | done | rfl | (simp only [List.length_drop, List.length_take]; rfl)) ?_; (with_reducible refine (plan_within.calls k a0_0 a0_1 a0_2 a0_3 a0_4 a0_5 a1 0 t216 _ A3.out).mono ?_); rintro e w6 ⟨rfl, hb⟩; refine ⟨_, rfl, ?_⟩; have n0_ := Aside0.mk (blk_below (g := gb215) (o := .cells #[.int .i64 a0_0, .int .i64 a0_1, .int .i64 a0_2, .int .i64 a0_3, .int .i64 a0_4, .int .i64 a0_5] 23 (0, 0)) (by (with_reducible repeat (first | refine blk_drewN ?_ _ | refine blk_drew ?_ | refine blk_alloc ?_ _)); exact BK215.out) hb); have n1_ := Aside0.mk (below_step (by repeat (first | (with_reducible first | exact HB.out | apply below_alloc | apply pw_below_drewN | apply below_drew1 | refine below_set ?_ GE215.out) | exact HB.out)) hb); clear BK215; clear HB; have BK215 := n0_; have HB := n1_; clear n0_ n1_; (try clear hb); (try clear hb2); (try clear hk); (try clear hi)))
  go_ret
  exact ⟨by first | rfl | (simp [errW_none, errW_some] <;> rfl) | (simp [*, errW_none, errW_some] <;> rfl), by repeat (first | (with_reducible first | exact HB.out | apply below_alloc | apply pw_below_drewN | apply below_drew1 | refine below_set ?_ GE215.out) | exact HB.out)⟩

/-! ### word_Unpack: function 99 -/
def word_Unpack.l0 : Nat → Int → List Int → Int → List Int → Int → Int → Option (List Int × Bool)
  | 0, _, _, _, _, _, _ => none
  | k + 1, x0, x6, x7, x10, x11, x12 => if x12 < x11 then (if 0 ≤ x12 then (if x12 < (x10.length : Int) then ((word_some.f x7 (rd x10 x12)).bind fun t218 => (if t218 = true then ((word_Get.f x0 x7 (rd x10 x12)).bind fun t219 => (if x6.length < 17592186044416 then (word_Unpack.l0 k x0 (x6 ++ [t219]) (wrap64 (x7 + (rd x10 x12))) x10 x11 (wrap64 (x12 + 1))) else (none))) else (some (([] : List Int), false)))) else (none)) else (none)) else (some (x6, true))
def word_Unpack.f (k : Nat) (a0 : Int) (l1 : List Int) : Option (List Int × Bool) := word_Unpack.l0 k a0 ([] : List Int) 0 l1 (l1.length : Int) 0
theorem word_Unpack.mono_l : ∀ k, (∀ y0 y1 y2 y3 y4 y5, LeO (word_Unpack.l0 k y0 y1 y2 y3 y4 y5) (word_Unpack.l0 (k + 1) y0 y1 y2 y3 y4 y5))
  | 0 => fun _ _ _ _ _ _ r h => by simp [word_Unpack.l0] at h
  | k + 1 => by
    have ih0 := word_Unpack.mono_l k
    · intro y0 y1 y2 y3 y4 y5
      unfold word_Unpack.l0
      repeat' first
      | (with_reducible exact ih0 _ _ _ _ _ _)
      | (with_reducible exact LeO.refl _)
      | (with_reducible exact LeO.none _)
      | (with_reducible refine LeO.ite ?_ ?_)
      | (with_reducible refine LeO.bind ?_ (fun _ => ?_))
      | exact ih0 _ _ _ _ _ _
      | exact LeO.none _
      | refine LeO.ite ?_ ?_
      | refine LeO.bind ?_ (fun _ => ?_)
theorem word_Unpack.mono : ∀ a0 a1 k, LeO (word_Unpack.f k a0 a1) (word_Unpack.f (k + 1) a0 a1) := by
  intro a0 a1 k
  have ih0 := word_Unpack.mono_l k
  unfold word_Unpack.f
  repeat' first
      | (with_reducible exact ih0 _ _ _ _ _ _)
      | (with_reducible exact LeO.refl _)
      | (with_reducible exact LeO.none _)
      | (with_reducible refine LeO.ite ?_ ?_)
      | (with_reducible refine LeO.bind ?_ (fun _ => ?_))
      | exact ih0 _ _ _ _ _ _
      | exact LeO.none _
      | refine LeO.ite ?_ ?_
      | refine LeO.bind ?_ (fun _ => ?_)
set_option maxHeartbeats 8000000 in
set_option maxRecDepth 100000 in
theorem word_Unpack.calls (k : Nat) (a0 : Int) (A1 : Option Addr) (c1 : Nat) (l1 : List Int) (r1 : List Int) (r2 : Bool) (w : World) (hr1 : Kd.C (Kd.int .i64) w A1 l1.length l1) (hc1 : l1.length ≤ c1) (h : word_Unpack.f k a0 l1 = some (r1, r2)) :
    Calls Try.prog 99 #[.int .u64 a0, .slice A1 l1.length c1] w fun e w' => ∃ v0_ : Value, e = .returned (.tuple #[v0_, .bool r2]) ∧ Kd.R (Kd.int .u64) 33 w' w.heap.size (fun _ => True) v0_ r1 ∧ Below w.heap.size w w' := by
  have HR1 := Aside0.mk hr1
  have HC1 := Aside0.mk hc1
  clear hr1 hc1
  have HB := Aside0.mk (Below.refl w.heap.size w)
  have H : (word_Unpack.l0 k a0 ([] : List Int) 0 l1 (l1.length : Int) 0) = some (r1, r2) := h
  clear h
  have H' := Aside0.mk H
  clear H
  go_enter Try.func99, Try.ntmps99
  go_wp2
  go_loopg [6, 7, 12] k (fun kq v6 v7 v12 w' => ∃ (x6_1 : List Int) (x7_1 : Int) (x12_1 : Int), v7 = .int .i64 x7_1 ∧ v12 = .int .i64 x12_1 ∧ Aside0 (word_Unpack.l0 kq a0 x6_1 x7_1 l1 (l1.length : Int) x12_1 = some (r1, r2)) ∧ Aside0 (kq ≤ k) ∧ Aside0 (Kd.R (Kd.int .u64) 33 w' w.heap.size (fun _ => True) v6 x6_1) ∧ Aside0 (Below w.heap.size w w'))
  case atStart => exact ⟨(([] : List Int)), (0), (0), (by first | rfl | (simp; done) | (simp [*]; done)), (by first | rfl | (simp; done) | (simp [*]; done)), H', ⟨Nat.le_refl _⟩, ⟨by first | exact Kd.R_nil _ _ _ _ _ | exact Kd.N_nil _ _ _ _ _ | exact Kd.V_nil _ _ _ _ _ | exact Kd.Q_nil _ _ _ _ _ | exact Kd.S_nil _ _ _ _ _⟩, ⟨by repeat (first | (with_reducible first | exact HB.out | apply below_alloc | apply pw_below_drewN | apply below_drew1) | exact HB.out)⟩⟩
  case round =>
    clear H'
    try clear c1
    try clear p2
    obtain ⟨x6_1, x7_1, x12_1, rfl, rfl, HA, HK1, HO_6, HB⟩ := hrel
    cases gk with
    | zero => exact absurd HA.out (by simp [word_Unpack.l0])
    | succ k1 =>
      have H := HA.out
      clear HA
      simp only [word_Unpack.l0] at H
      by_cases c3 : x12_1 < (l1.length : Int)
      · rw [if_pos c3] at H
        have c3b0 : decide (x12_1 < (l1.length : Int)) = true := decide_eq_true c3
        clear c3
        by_cases c4 : 0 ≤ x12_1
        · rw [if_pos c4] at H
          have c4b0 : decide (0 ≤ x12_1) = true := decide_eq_true c4
          clear c4
          by_cases c5 : x12_1 < (l1.length : Int)
          · rw [if_pos c5] at H
            have c5b0 : decide (x12_1 < (l1.length : Int)) = true := decide_eq_true c5
            clear c5
            replace H := Option.bind_eq_some_iff.mp H
            obtain ⟨t218, A60, H⟩ := H
            replace H : (if t218 = true then ((word_Get.f a0 x7_1 (rd l1 x12_1)).bind fun t219 => (if x6_1.length < 17592186044416 then (word_Unpack.l0 k1 a0 (x6_1 ++ [t219]) (wrap64 (x7_1 + (rd l1 x12_1))) l1 (l1.length : Int) (wrap64 (x12_1 + 1))) else (none))) else (some (([] : List Int), false))) = some (r1, r2) := H
            have A6 := Aside0.mk A60
            clear A60
            by_cases c7 : t218 = true
            · subst c7
              have H1 : ((word_Get.f a0 x7_1 (rd l1 x12_1)).bind fun t219 => (if x6_1.length < 17592186044416 then (word_Unpack.l0 k1 a0 (x6_1 ++ [t219]) (wrap64 (x7_1 + (rd l1 x12_1))) l1 (l1.length : Int) (wrap64 (x12_1 + 1))) else (none))) = some (r1, r2) := by rw [if_pos rfl] at H; exact H
              clear H
              have H := H1
              clear H1
              replace H := Option.bind_eq_some_iff.mp H
              obtain ⟨t219, A80, H⟩ := H
              replace H : (if x6_1.length < 17592186044416 then (word_Unpack.l0 k1 a0 (x6_1 ++ [t219]) (wrap64 (x7_1 + (rd l1 x12_1))) l1 (l1.length : Int) (wrap64 (x12_1 + 1))) else (none)) = some (r1, r2) := H
              have A8 := Aside0.mk A80
              clear A80
              by_cases c9 : x6_1.length < 17592186044416
              · rw [if_pos c9] at H
                have LMc9 := Aside0.mk c9
                clear c9
                obtain ⟨y220, hy220⟩ : ∃ y_ : List Int, y_ = (x6_1 ++ [t219]) := ⟨_, rfl⟩
                replace H : (word_Unpack.l0 k1 a0 y220 (wrap64 (x7_1 + (rd l1 x12_1))) l1 (l1.length : Int) (wrap64 (x12_1 + 1))) = some (r1, r2) := by first | (rw [hy220]; with_reducible exact H) | (have H2_ := (Option.bind_some _ _).symm.trans H; rw [hy220]; with_reducible exact H2_) | (have H2_ := (Option.bind_some _ _).symm.trans H; with_reducible exact H2_) | with_reducible exact H | (rw [hy220]; exact H) | exact H
                have Ny220 := Aside0.mk hy220
                clear hy220
                have H' := Aside0.mk H
                clear H
                have p217 : 0 ≤ (x12_1 : Int) := of_decide_eq_true (by first | (with_reducible assumption) | assumption)
                have q217 : x12_1 < (l1.length : Int) := of_decide_eq_true (by first | (with_reducible assumption) | assumption)
                obtain ⟨ad217, e217, hx217_0⟩ := Kd.at_int HR1.out x12_1 p217 q217
                cases e217
                replace hx217_0 := (HB.out.cell (World.block_lt_of_cell? w _ hx217_0)).trans hx217_0
                replace p217 := eq_true p217
                replace q217 := eq_true q217
                go_wp2_with (first | ((with_reducible refine gate_callee (f := 105) rfl ?_); refine goesL_ (some 18) rfl rfl Try.func105 (by kernel_rfl) rfl #[.int .i64 x7_1, .int .i64 (rd l1 x12_1)] rfl (by (try simp only [List.map_toArray, List.map_cons, List.map_nil]); first | done | rfl | (simp only [List.length_drop, List.length_take]; rfl)) ?_; (with_reducible refine (word_some.calls x7_1 (rd l1 x12_1) true _ A6.out).mono ?_); rintro e w' ⟨rfl, ⟨nd, rfl⟩⟩; refine ⟨_, rfl, ?_⟩) | ((with_reducible refine gate_callee (f := 104) rfl ?_); refine goesL_ (some 24) rfl rfl Try.func104 (by kernel_rfl) rfl #[.int .u64 a0, .int .i64 x7_1, .int .i64 (rd l1 x12_1)] rfl (by (try simp only [List.map_toArray, List.map_cons, List.map_nil]); first | done | rfl | (simp only [List.length_drop, List.length_take]; rfl)) ?_; (with_reducible refine (word_Get.calls a0 x7_1 (rd l1 x12_1) t219 _ A8.out).mono ?_); rintro e w' ⟨rfl, ⟨nd, rfl⟩⟩; refine ⟨_, rfl, ?_⟩) | ((with_reducible refine gate_builtin (b := .append) (xs := #[.tmp 20, .tmp 25]) rfl ?_); at_builtin; refine Kd.R_append (Kd.int .u64) (w0 := w) w.heap.size rfl (.tmp 20) (.tmp 25) 29 33 (.int .u64 0) 8 rfl Try.underlying29 info33 rfl (by decide) (by omega) u6 x6_1 t219 [.int .u64 t219] (fun _ => True) (fun _ => False) rfl rfl ?aP (fun _ hk => hk.elim) ?aF ?aO ?aB ?aS ?aL ?_; (case aP => exact rfl); (case aB => exact (by repeat (first | (with_reducible first | exact HB.out | apply below_alloc | apply pw_below_drewN | apply below_drew1) | exact HB.out))); (case aF => exact (fun _ _ => trivial)); (case aO => exact (by (with_reducible repeat (first | apply Kd.R_alloc | apply Kd.R_drewN | apply Kd.R_drew)); exact HO_6.out)); (case aS => exact (below_size (by repeat (first | (with_reducible first | exact HB.out | apply below_alloc | apply pw_below_drewN | apply below_drew1) | exact HB.out)))); (case aL => have := LMc9.out; omega); intro v221 w10 ho hb hg hat; rw [← Ny220.out] at ho; have n0_ := Aside0.mk (hb); have n1_ := Aside0.mk (ho); clear HB; clear HO_6; have HB := n0_; have HO222 := n1_; clear n0_ n1_; clear ho hb hg hat))
                go_roundg k1
                case measure => have := HK1.out; omega
                case rel => exact ⟨(y220), (wrap64 (x7_1 + (rd l1 x12_1))), (wrap64 (x12_1 + 1)), (by first | rfl | (simp; done) | (simp [*]; done)), (by first | rfl | (simp; done) | (simp [*]; done)), H', ⟨by have := HK1.out; omega⟩, ⟨by (with_reducible repeat (first | apply Kd.R_alloc | apply Kd.R_drewN | apply Kd.R_drew)); exact HO222.out⟩, ⟨by repeat (first | (with_reducible first | exact HB.out | apply below_alloc | apply pw_below_drewN | apply below_drew1) | exact HB.out)⟩⟩
              · rw [if_neg c9] at H
                exact absurd H (by simp)
            · replace c7 := Bool.eq_false_iff.mpr c7
              subst c7
              have H1 : (some (([] : List Int), false)) = some (r1, r2) := by rw [if_neg (show ¬ (false = true) by decide)] at H; exact H
              clear H
              have H := H1
              clear H1
              simp only [Option.some.injEq, Prod.mk.injEq] at H
              obtain ⟨rfl, rfl⟩ := H
              have p217 : 0 ≤ (x12_1 : Int) := of_decide_eq_true (by first | (with_reducible assumption) | assumption)
              have q217 : x12_1 < (l1.length : Int) := of_decide_eq_true (by first | (with_reducible assumption) | assumption)
              obtain ⟨ad217, e217, hx217_0⟩ := Kd.at_int HR1.out x12_1 p217 q217
              cases e217
              replace hx217_0 := (HB.out.cell (World.block_lt_of_cell? w _ hx217_0)).trans hx217_0
              replace p217 := eq_true p217
              replace q217 := eq_true q217
              go_wp2_with (first | ((with_reducible refine gate_callee (f := 105) rfl ?_); refine goesL_ (some 18) rfl rfl Try.func105 (by kernel_rfl) rfl #[.int .i64 x7_1, .int .i64 (rd l1 x12_1)] rfl (by (try simp only [List.map_toArray, List.map_cons, List.map_nil]); first | done | rfl | (simp only [List.length_drop, List.length_take]; rfl)) ?_; (with_reducible refine (word_some.calls x7_1 (rd l1 x12_1) false _ A6.out).mono ?_); rintro e w' ⟨rfl, ⟨nd, rfl⟩⟩; refine ⟨_, rfl, ?_⟩))
              go_ret2
              exact ⟨_, by first | rfl | (simp [errW_none, errW_some] <;> rfl) | (simp [*, errW_none, errW_some] <;> rfl), by first | exact Kd.R_nil _ _ _ _ _ | exact Kd.N_nil _ _ _ _ _ | exact Kd.V_nil _ _ _ _ _ | exact Kd.Q_nil _ _ _ _ _ | exact Kd.S_nil _ _ _ _ _, by repeat (first | (with_reducible first | exact HB.out | apply below_alloc | apply pw_below_drewN | apply below_drew1) | exact HB.out)⟩
          · rw [if_neg c5] at H
            exact absurd H (by simp)
        · rw [if_neg c4] at H
          exact absurd H (by simp)
      · rw [if_neg c3] at H
        have c3b0 : decide (x12_1 < (l1.length : Int)) = false := decide_eq_false c3
        clear c3
        simp only [Option.some.injEq, Prod.mk.injEq] at H
        obtain ⟨rfl, rfl⟩ := H
        go_wp2
        go_ret2
        exact ⟨_, by first | rfl | (simp [errW_none, errW_some] <;> rfl) | (simp [*, errW_none, errW_some] <;> rfl), by (with_reducible repeat (first | apply Kd.R_alloc | apply Kd.R_drewN | apply Kd.R_drew)); exact HO_6.out, by repeat (first | (with_reducible first | exact HB.out | apply below_alloc | apply pw_below_drewN | apply below_drew1) | exact HB.out)⟩

end Go.Proofs.Ytijfkpoofpcacaa.PArenaPlays
