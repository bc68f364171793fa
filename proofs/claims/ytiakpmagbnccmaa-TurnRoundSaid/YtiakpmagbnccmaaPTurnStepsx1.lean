-- PRINTED BY print.sh 35421559b90ae4d0a3588c463048766b98c2df88dd9212a6774a882060cdf62d: not written by this session
import Derived.Test.YtiakpmagbnccmaaPTurnStepsx0
namespace Go.Proofs.Ytiakpmagbnccmaa.PTurnSteps
open Go.RowKit Go.Proofs.YtiakpmagbnccmaaW.PrintWords Go.Proofs.YtiakpmagbnccmaaW.PrintLast Go.Proofs.YtiakpmagbnccmaaW.PrintMore
attribute [local go_sem] max2_int min2_int max_two min_two max_three min_three max_four min_four   -- for this text's walks alone
set_option linter.unusedVariables false
set_option linter.unusedSimpArgs false

/-! ### withyref03_Parts: function 11 -/
def withyref03_Parts.f (a0 : Int) : Option (Int × Int) := (some (([1, 0, (-1), 0] : List Int) : List Int)).bind fun y101 => (if 0 ≤ a0 then (if a0 < (y101.length : Int) then ((some (([0, 1, 0, (-1)] : List Int) : List Int)).bind fun y105 => (if a0 < (y105.length : Int) then (some (rd y101 a0, rd y105 a0)) else (none))) else (none)) else (none))
def withyref03_Parts.T1 : Bool × List (List Nat × List Nat) := (true, [([], []), ([], []), ([0, 1], [0, 1]), ([2], [2]), ([], []), ([], []), ([4, 5], [4, 5]), ([6], [6]), ([3, 0, 1, 2, 3], [3]), ([7, 8, 0, 1, 2, 3, 4, 5, 6, 7, 8], [7])])
def withyref03_Parts.B1 : List Nat := [0, 0, 3, 7, 0, 0, 48, 112, 15, 511]
theorem withyref03_Parts.tab1 : rtab .any (opsOf Try.f11 1) = withyref03_Parts.T1 := by kernel_rfl
theorem withyref03_Parts.bits1 : waitsOk withyref03_Parts.T1.2 withyref03_Parts.B1 = true := by kernel_rfl
set_option maxHeartbeats 8000000 in
set_option maxRecDepth 100000 in
theorem withyref03_Parts.calls (a0 : Int) (r1 : Int) (r2 : Int) (w : World) (h : withyref03_Parts.f a0 = some (r1, r2)) :
    Calls Try.prog 11 #[.int .i64 a0] w fun e w' => e = .returned (.tuple #[.int .i64 r1, .int .i64 r2]) ∧ Below w.heap.size w w' := by
  have HB := Aside0.mk (Below.refl w.heap.size w)
  have H : ((some (([1, 0, (-1), 0] : List Int) : List Int)).bind fun y101 => (if 0 ≤ a0 then (if a0 < (y101.length : Int) then ((some (([0, 1, 0, (-1)] : List Int) : List Int)).bind fun y105 => (if a0 < (y105.length : Int) then (some (rd y101 a0, rd y105 a0)) else (none))) else (none)) else (none))) = some (r1, r2) := h
  clear h
  obtain ⟨y101, hy101⟩ : ∃ y_ : List Int, y_ = (([1, 0, (-1), 0] : List Int)) := ⟨_, rfl⟩
  replace H : (if 0 ≤ a0 then (if a0 < (y101.length : Int) then ((some (([0, 1, 0, (-1)] : List Int) : List Int)).bind fun y105 => (if a0 < (y105.length : Int) then (some (rd y101 a0, rd y105 a0)) else (none))) else (none)) else (none)) = some (r1, r2) := by first | (rw [hy101]; with_reducible exact H) | (have H2_ := (Option.bind_some _ _).symm.trans H; rw [hy101]; with_reducible exact H2_) | (have H2_ := (Option.bind_some _ _).symm.trans H; with_reducible exact H2_) | with_reducible exact H | (rw [hy101]; exact H) | exact H
  have Ny101 := Aside0.mk hy101
  clear hy101
  by_cases c2 : 0 ≤ a0
  · rw [if_pos c2] at H
    have c2b0 : decide (0 ≤ a0) = true := decide_eq_true c2
    clear c2
    by_cases c3 : a0 < (y101.length : Int)
    · rw [if_pos c3] at H
      have c3b0 : decide (a0 < (y101.length : Int)) = true := decide_eq_true c3
      clear c3
      obtain ⟨y105, hy105⟩ : ∃ y_ : List Int, y_ = (([0, 1, 0, (-1)] : List Int)) := ⟨_, rfl⟩
      replace H : (if a0 < (y105.length : Int) then (some (rd y101 a0, rd y105 a0)) else (none)) = some (r1, r2) := by first | (rw [hy105]; with_reducible exact H) | (have H2_ := (Option.bind_some _ _).symm.trans H; rw [hy105]; with_reducible exact H2_) | (have H2_ := (Option.bind_some _ _).symm.trans H; with_reducible exact H2_) | with_reducible exact H | (rw [hy105]; exact H) | exact H
      have Ny105 := Aside0.mk hy105
      clear hy105
      by_cases c4 : a0 < (y105.length : Int)
      · rw [if_pos c4] at H
        have c4b0 : decide (a0 < (y105.length : Int)) = true := decide_eq_true c4
        clear c4
        simp only [Option.some.injEq, Prod.mk.injEq] at H
        obtain ⟨rfl, rfl⟩ := H
        go_enter Try.func11, Try.ntmps11
        try go_wp2
        have pi104 : (0 ≤ (a0 : Int)) = True := eq_true (of_decide_eq_true (by first | (with_reducible assumption) | assumption))
        have qi104 : (a0 < (y101.length : Int)) = True := eq_true (of_decide_eq_true (by first | (with_reducible assumption) | assumption))
        have pi108 : (0 ≤ (a0 : Int)) = True := eq_true (of_decide_eq_true (by first | (with_reducible assumption) | assumption))
        have qi108 : (a0 < (y105.length : Int)) = True := eq_true (of_decide_eq_true (by first | (with_reducible assumption) | assumption))
        have n0_ := Aside0.mk (below_drew1 HB.out)
        clear HB
        have HB := n0_
        clear n0_
        refine start_ (n := 10) (S := fun w' => True) (ds := []) #[false, false, false, false, false, false, false, false, false, false] (by kernel_rfl) rfl rfl trivial (fun hHeld => ?_); refine with_tabW withyref03_Parts.tab1 withyref03_Parts.bits1 (fun HT_ HW_ => ?_)
        generalize w.drew = w5 at HB hHeld ⊢
        refine pure_ (i := 1) (N := some 5) (v := ?_) (a' := ?_) #[false, true, false, false, false, false, false, false, false, false] rfl rfl (any_of HT_.out (by kernel_rfl)) (fun _ _ _ h => h) (Or.inl ⟨by rfl, ?_⟩) ?_ ?_
        rotate_left
        · intro w'
          go_simp
          with_reducible rfl
        rotate_left
        · simp only [Act.put, List.setIfInBounds_toArray, List.set_cons_zero, List.set_cons_succ, i64_w, i32_w]
          rfl
        refine pure_ (i := 5) (N := some 9) (v := ?_) (a' := ?_) #[false, true, false, false, false, true, false, false, false, false] rfl rfl (any_of HT_.out (by kernel_rfl)) (fun _ _ _ h => h) (Or.inl ⟨by rfl, ?_⟩) ?_ ?_
        rotate_left
        · intro w'
          go_simp
          with_reducible rfl
        rotate_left
        · simp only [Act.put, List.setIfInBounds_toArray, List.set_cons_zero, List.set_cons_succ, i64_w, i32_w]
          rfl
        refine inv_at [0, 2, 3, 4, 6, 7, 8, 9] (fun a0_ b a w' => ∃ (v102 : Value) (adz_v102 : Addr) (v106 : Value) (adz_v106 : Addr) (m2_ : Value) (m6_ : Value), a = putSel a0_ b [(0, 4, v102), (2, 6, m2_), (3, 7, .int .i64 (rd y101 a0)), (4, 8, v106), (6, 10, m6_), (7, 11, .int .i64 (rd y105 a0)), (8, 2, .int .i64 (rd y101 a0)), (9, 3, .int .i64 (rd y105 a0))] ∧ (Below w.heap.size w w') ∧ (b 0 = true → Kd.R (Kd.int .i64) 3 w' w.heap.size (fun _ => True) v102 y101) ∧ (b 0 = true → ∃ c_, (v102 : Value) = .slice (some adz_v102) y101.length c_) ∧ (b 4 = true → Kd.R (Kd.int .i64) 3 w' w.heap.size (fun _ => True) v106 y105) ∧ (b 4 = true → ∃ c_, (v106 : Value) = .slice (some adz_v106) y105.length c_) ∧ (b 2 = true → (m2_ : Value) = .pointer (some (adz_v102.add (a0).toNat))) ∧ (b 6 = true → (m6_ : Value) = .pointer (some (adz_v106.add (a0).toNat)))) HT_.out HW_.out (by kernel_rfl) (by kernel_rfl) ?_ ?_ ?_
        · exact ⟨.bool false, ⟨0, 0, none⟩, .bool false, ⟨0, 0, none⟩, .bool false, .bool false, by simp only [putSel, Bool.false_eq_true, if_false], HB.out, fun h_ => absurd h_ (by decide), fun h_ => absurd h_ (by decide), fun h_ => absurd h_ (by decide), fun h_ => absurd h_ (by decide), fun h_ => absurd h_ (by decide), fun h_ => absurd h_ (by decide)⟩
        · skip
          clear HB
          refine steps_cons ?_ ?_
          · rintro b a w' ⟨v102, adz_v102, v106, adz_v106, m2_, m6_, ha, Q_HB, Q_HO103, Q_HA_HO103, Q_HO107, Q_HA_HO107, Q_X2_, Q_X6_⟩ hb_ hon hoff
            refine ⟨_, rfl, fun K hK => ?_⟩
            replace ha := Aside0.mk ha
            have HB := Aside0.mk Q_HB
            refine Kd.R_lit_step (Kd.int .i64) _ 3 ?hg (N := 4) ?hd (xs := ([1, 0, (-1), 0] : List Int)) (inner := [.int .i64 1, .int .i64 0, .int .i64 (-1), .int .i64 0]) (ok := fun _ => True) (okp := fun _ => True) ?hr ?hp (fun _ hk => hk) trivial (Below.refl _ _) (Nat.le_refl _) (by simp) ?_; (case hd => rfl); (case hg => rfl); (case hr => first | (go_simp; done) | (go_simp; rfl)); (case hp => exact (Reps.one (show Kd.M (Kd.int .i64) _ _ _ 1 [.int .i64 1] from rfl) (Reps.one (show Kd.M (Kd.int .i64) _ _ _ 0 [.int .i64 0] from rfl) (Reps.one (show Kd.M (Kd.int .i64) _ _ _ (-1) [.int .i64 (-1)] from rfl) (Reps.one (show Kd.M (Kd.int .i64) _ _ _ 0 [.int .i64 0] from rfl) (Reps.none _ _))))))
            intro v102 w6 ho7 hb hg_ hnew_
            clear hg_ hnew_
            (first | rw [← Ny101.out] at ho7 | (simp only [Int.reduceToNat] at ho7; rw [← Ny101.out] at ho7))
            have n0_ := Aside0.mk (Kd.R_lower ho7 (below_size (by repeat (first | (with_reducible first | exact HB.out | apply below_alloc | apply pw_below_drewN | apply below_drew1) | exact HB.out))))
            have n1_ := Aside0.mk (below_step (by repeat (first | (with_reducible first | exact HB.out | apply below_alloc | apply pw_below_drewN | apply below_drew1) | exact HB.out)) hb)
            have z_HO107 := fun (h0_ : b 4 = true) => (show Kd.R (Kd.int .i64) 3 w6 w.heap.size (fun _ => True) v106 y105 from by first | exact (Kd.R_elder' (by (with_reducible repeat (first | apply Kd.R_alloc | apply Kd.R_drewN | apply Kd.R_drew)); exact (Q_HO107 h0_)) (Kd.R_base ho7) hb) | exact Kd.R_mono (Kd.R_elder' (by (with_reducible repeat (first | apply Kd.R_alloc | apply Kd.R_drewN | apply Kd.R_drew)); exact (Q_HO107 h0_)) (Kd.R_base ho7) hb) (fun _ h_ => by first | trivial | exact h_ | exact h_.1))
            clear HB
            have HO103 := n0_
            have HB := n1_
            clear n0_ n1_
            clear hb ho7
            obtain ⟨Ao8, co8, eo8⟩ := Kd.R_slice HO103.out
            subst eo8
            obtain ⟨ado8, fo8, _⟩ := Kd.at_int (Kd.R_reads' HO103.out).2.2 0 (by decide) (by rw [Ny101.out]; simp)
            cases fo8
            refine hK.out _ _ ⟨.slice (some ado8) y101.length co8, ado8, v106, adz_v106, m2_, m6_, (by rw [ha.out]; exact putSel_upk 0 hb_ rfl rfl rfl), (by repeat (first | (with_reducible first | exact HB.out | apply below_alloc | apply pw_below_drewN | apply below_drew1) | exact HB.out)), fun _ => (by (with_reducible repeat (first | apply Kd.R_alloc | apply Kd.R_drewN | apply Kd.R_drew)); exact HO103.out), fun _ => ⟨_, rfl⟩, z_HO107, Q_HA_HO107, fun h0_ => absurd ((hoff 2 (by kernel_rfl)).symm.trans h0_) (by decide), Q_X6_⟩
          refine steps_cons ?_ ?_
          · rintro b a w' ⟨v102, adz_v102, v106, adz_v106, m2_, m6_, ha, Q_HB, Q_HO103, Q_HA_HO103, Q_HO107, Q_HA_HO107, Q_X2_, Q_X6_⟩ hb_ hon hoff
            refine ⟨_, rfl, fun K hK => ?_⟩
            have e4 : a.tmps[4]? = some (v102) := by rw [ha]; exact putSel_on (e := (0, 4, v102)) 0 rfl rfl (hon 0 (by kernel_rfl)) rfl
            have e5 : a.tmps[5]? = some (.int .i64 a0) := by rw [ha]; exact (putSel_off rfl).trans rfl
            replace ha := Aside0.mk ha
            have HB := Aside0.mk Q_HB
            have HO103 := Aside0.mk (Q_HO103 (hon 0 (by kernel_rfl)))
            have HA_HO103 := Aside0.mk (Q_HA_HO103 (hon 0 (by kernel_rfl)))
            obtain ⟨c_, hv_⟩ := HA_HO103.out
            rw [hv_] at e4
            refine value_ (w1 := w') (v := .pointer (some (adz_v102.add (a0).toNat))) (by rfl) rfl ?_ ?_
            · go_simp
              (try simp only [i64_w])
              try rfl
            refine hK.out _ _ ⟨v102, adz_v102, v106, adz_v106, (.pointer (some (adz_v102.add (a0).toNat))), m6_, (by rw [ha.out]; exact putSel_upk 1 hb_ rfl rfl rfl), Q_HB, Q_HO103, Q_HA_HO103, Q_HO107, Q_HA_HO107, fun _ => rfl, Q_X6_⟩
          refine steps_cons ?_ ?_
          · rintro b a w' ⟨v102, adz_v102, v106, adz_v106, m2_, m6_, ha, Q_HB, Q_HO103, Q_HA_HO103, Q_HO107, Q_HA_HO107, Q_X2_, Q_X6_⟩ hb_ hon hoff
            refine ⟨_, rfl, fun K hK => ?_⟩
            have e6 : a.tmps[6]? = some (m2_) := by rw [ha]; exact putSel_on (e := (2, 6, m2_)) 1 rfl rfl (hon 2 (by kernel_rfl)) rfl
            rw [Q_X2_ (hon 2 (by kernel_rfl))] at e6
            replace ha := Aside0.mk ha
            have HB := Aside0.mk Q_HB
            have HO103 := Aside0.mk (Q_HO103 (hon 0 (by kernel_rfl)))
            have HA_HO103 := Aside0.mk (Q_HA_HO103 (hon 0 (by kernel_rfl)))
            obtain ⟨c_, hv_⟩ := HA_HO103.out
            have hF_ := HO103.out
            rw [hv_] at hF_
            obtain ⟨ad_, ea_, hx_⟩ := Kd.at_int (Kd.R_reads' hF_).2.2 a0 (of_eq_true pi104) (of_eq_true qi104)
            cases ea_
            refine value_ (w1 := w') (v := .int .i64 (rd y101 a0)) (by rfl) rfl ?_ ?_
            · go_simp
              (try simp only [i64_w])
              try rfl
            refine hK.out _ _ ⟨v102, adz_v102, v106, adz_v106, m2_, m6_, (by rw [ha.out]; exact putSel_upk 2 hb_ rfl rfl rfl), Q_HB, Q_HO103, Q_HA_HO103, Q_HO107, Q_HA_HO107, Q_X2_, Q_X6_⟩
          refine steps_cons ?_ ?_
          · rintro b a w' ⟨v102, adz_v102, v106, adz_v106, m2_, m6_, ha, Q_HB, Q_HO103, Q_HA_HO103, Q_HO107, Q_HA_HO107, Q_X2_, Q_X6_⟩ hb_ hon hoff
            refine ⟨_, rfl, fun K hK => ?_⟩
            replace ha := Aside0.mk ha
            have HB := Aside0.mk Q_HB
            refine Kd.R_lit_step (Kd.int .i64) _ 3 ?hg (N := 8) ?hd (xs := ([0, 1, 0, (-1)] : List Int)) (inner := [.int .i64 0, .int .i64 1, .int .i64 0, .int .i64 (-1)]) (ok := fun _ => True) (okp := fun _ => True) ?hr ?hp (fun _ hk => hk) trivial (Below.refl _ _) (Nat.le_refl _) (by simp) ?_; (case hd => rfl); (case hg => rfl); (case hr => first | (go_simp; done) | (go_simp; rfl)); (case hp => exact (Reps.one (show Kd.M (Kd.int .i64) _ _ _ 0 [.int .i64 0] from rfl) (Reps.one (show Kd.M (Kd.int .i64) _ _ _ 1 [.int .i64 1] from rfl) (Reps.one (show Kd.M (Kd.int .i64) _ _ _ 0 [.int .i64 0] from rfl) (Reps.one (show Kd.M (Kd.int .i64) _ _ _ (-1) [.int .i64 (-1)] from rfl) (Reps.none _ _))))))
            intro v106 w6 ho7 hb hg_ hnew_
            clear hg_ hnew_
            (first | rw [← Ny105.out] at ho7 | (simp only [Int.reduceToNat] at ho7; rw [← Ny105.out] at ho7))
            have n0_ := Aside0.mk (Kd.R_lower ho7 (below_size (by repeat (first | (with_reducible first | exact HB.out | apply below_alloc | apply pw_below_drewN | apply below_drew1) | exact HB.out))))
            have n1_ := Aside0.mk (below_step (by repeat (first | (with_reducible first | exact HB.out | apply below_alloc | apply pw_below_drewN | apply below_drew1) | exact HB.out)) hb)
            have z_HO103 := fun (h0_ : b 0 = true) => (show Kd.R (Kd.int .i64) 3 w6 w.heap.size (fun _ => True) v102 y101 from by first | exact (Kd.R_elder' (by (with_reducible repeat (first | apply Kd.R_alloc | apply Kd.R_drewN | apply Kd.R_drew)); exact (Q_HO103 h0_)) (Kd.R_base ho7) hb) | exact Kd.R_mono (Kd.R_elder' (by (with_reducible repeat (first | apply Kd.R_alloc | apply Kd.R_drewN | apply Kd.R_drew)); exact (Q_HO103 h0_)) (Kd.R_base ho7) hb) (fun _ h_ => by first | trivial | exact h_ | exact h_.1))
            clear HB
            have HO107 := n0_
            have HB := n1_
            clear n0_ n1_
            clear hb ho7
            obtain ⟨Ao8, co8, eo8⟩ := Kd.R_slice HO107.out
            subst eo8
            obtain ⟨ado8, fo8, _⟩ := Kd.at_int (Kd.R_reads' HO107.out).2.2 0 (by decide) (by rw [Ny105.out]; simp)
            cases fo8
            refine hK.out _ _ ⟨v102, adz_v102, .slice (some ado8) y105.length co8, ado8, m2_, m6_, (by rw [ha.out]; exact putSel_upk 3 hb_ rfl rfl rfl), (by repeat (first | (with_reducible first | exact HB.out | apply below_alloc | apply pw_below_drewN | apply below_drew1) | exact HB.out)), z_HO103, Q_HA_HO103, fun _ => (by (with_reducible repeat (first | apply Kd.R_alloc | apply Kd.R_drewN | apply Kd.R_drew)); exact HO107.out), fun _ => ⟨_, rfl⟩, Q_X2_, fun h0_ => absurd ((hoff 6 (by kernel_rfl)).symm.trans h0_) (by decide)⟩
          refine steps_cons ?_ ?_
          · rintro b a w' ⟨v102, adz_v102, v106, adz_v106, m2_, m6_, ha, Q_HB, Q_HO103, Q_HA_HO103, Q_HO107, Q_HA_HO107, Q_X2_, Q_X6_⟩ hb_ hon hoff
            refine ⟨_, rfl, fun K hK => ?_⟩
            have e8 : a.tmps[8]? = some (v106) := by rw [ha]; exact putSel_on (e := (4, 8, v106)) 3 rfl rfl (hon 4 (by kernel_rfl)) rfl
            have e9 : a.tmps[9]? = some (.int .i64 a0) := by rw [ha]; exact (putSel_off rfl).trans rfl
            replace ha := Aside0.mk ha
            have HB := Aside0.mk Q_HB
            have HO107 := Aside0.mk (Q_HO107 (hon 4 (by kernel_rfl)))
            have HA_HO107 := Aside0.mk (Q_HA_HO107 (hon 4 (by kernel_rfl)))
            obtain ⟨c_, hv_⟩ := HA_HO107.out
            rw [hv_] at e8
            refine value_ (w1 := w') (v := .pointer (some (adz_v106.add (a0).toNat))) (by rfl) rfl ?_ ?_
            · go_simp
              (try simp only [i64_w])
              try rfl
            refine hK.out _ _ ⟨v102, adz_v102, v106, adz_v106, m2_, (.pointer (some (adz_v106.add (a0).toNat))), (by rw [ha.out]; exact putSel_upk 4 hb_ rfl rfl rfl), Q_HB, Q_HO103, Q_HA_HO103, Q_HO107, Q_HA_HO107, Q_X2_, fun _ => rfl⟩
          refine steps_cons ?_ ?_
          · rintro b a w' ⟨v102, adz_v102, v106, adz_v106, m2_, m6_, ha, Q_HB, Q_HO103, Q_HA_HO103, Q_HO107, Q_HA_HO107, Q_X2_, Q_X6_⟩ hb_ hon hoff
            refine ⟨_, rfl, fun K hK => ?_⟩
            have e10 : a.tmps[10]? = some (m6_) := by rw [ha]; exact putSel_on (e := (6, 10, m6_)) 4 rfl rfl (hon 6 (by kernel_rfl)) rfl
            rw [Q_X6_ (hon 6 (by kernel_rfl))] at e10
            replace ha := Aside0.mk ha
            have HB := Aside0.mk Q_HB
            have HO107 := Aside0.mk (Q_HO107 (hon 4 (by kernel_rfl)))
            have HA_HO107 := Aside0.mk (Q_HA_HO107 (hon 4 (by kernel_rfl)))
            obtain ⟨c_, hv_⟩ := HA_HO107.out
            have hF_ := HO107.out
            rw [hv_] at hF_
            obtain ⟨ad_, ea_, hx_⟩ := Kd.at_int (Kd.R_reads' hF_).2.2 a0 (of_eq_true pi108) (of_eq_true qi108)
            cases ea_
            refine value_ (w1 := w') (v := .int .i64 (rd y105 a0)) (by rfl) rfl ?_ ?_
            · go_simp
              (try simp only [i64_w])
              try rfl
            refine hK.out _ _ ⟨v102, adz_v102, v106, adz_v106, m2_, m6_, (by rw [ha.out]; exact putSel_upk 5 hb_ rfl rfl rfl), Q_HB, Q_HO103, Q_HA_HO103, Q_HO107, Q_HA_HO107, Q_X2_, Q_X6_⟩
          refine steps_cons ?_ ?_
          · rintro b a w' ⟨v102, adz_v102, v106, adz_v106, m2_, m6_, ha, Q_HB, Q_HO103, Q_HA_HO103, Q_HO107, Q_HA_HO107, Q_X2_, Q_X6_⟩ hb_ hon hoff
            refine ⟨_, rfl, fun K hK => ?_⟩
            have e7 : a.tmps[7]? = some (.int .i64 (rd y101 a0)) := by rw [ha]; exact putSel_on (e := (3, 7, .int .i64 (rd y101 a0))) 2 rfl rfl (hon 3 (by kernel_rfl)) rfl
            replace ha := Aside0.mk ha
            have HB := Aside0.mk Q_HB
            have HO103 := Aside0.mk (Q_HO103 (hon 0 (by kernel_rfl)))
            have HA_HO103 := Aside0.mk (Q_HA_HO103 (hon 0 (by kernel_rfl)))
            refine value_ (w1 := w') (v := .int .i64 (rd y101 a0)) (by rfl) rfl ?_ ?_
            · go_simp
              (try simp only [i64_w])
              try rfl
            refine hK.out _ _ ⟨v102, adz_v102, v106, adz_v106, m2_, m6_, (by rw [ha.out]; exact putSel_upk 6 hb_ rfl rfl rfl), Q_HB, Q_HO103, Q_HA_HO103, Q_HO107, Q_HA_HO107, Q_X2_, Q_X6_⟩
          refine steps_cons ?_ ?_
          · rintro b a w' ⟨v102, adz_v102, v106, adz_v106, m2_, m6_, ha, Q_HB, Q_HO103, Q_HA_HO103, Q_HO107, Q_HA_HO107, Q_X2_, Q_X6_⟩ hb_ hon hoff
            refine ⟨_, rfl, fun K hK => ?_⟩
            have e11 : a.tmps[11]? = some (.int .i64 (rd y105 a0)) := by rw [ha]; exact putSel_on (e := (7, 11, .int .i64 (rd y105 a0))) 5 rfl rfl (hon 7 (by kernel_rfl)) rfl
            replace ha := Aside0.mk ha
            have HB := Aside0.mk Q_HB
            have HO103 := Aside0.mk (Q_HO103 (hon 0 (by kernel_rfl)))
            have HA_HO103 := Aside0.mk (Q_HA_HO103 (hon 0 (by kernel_rfl)))
            have HO107 := Aside0.mk (Q_HO107 (hon 4 (by kernel_rfl)))
            have HA_HO107 := Aside0.mk (Q_HA_HO107 (hon 4 (by kernel_rfl)))
            refine value_ (w1 := w') (v := .int .i64 (rd y105 a0)) (by rfl) rfl ?_ ?_
            · go_simp
              (try simp only [i64_w])
              try rfl
            refine hK.out _ _ ⟨v102, adz_v102, v106, adz_v106, m2_, m6_, (by rw [ha.out]; exact putSel_upk 7 hb_ rfl rfl rfl), Q_HB, Q_HO103, Q_HA_HO103, Q_HO107, Q_HA_HO107, Q_X2_, Q_X6_⟩
          exact steps_nil
        rintro b a w12 hall ⟨v102, adz_v102, v106, adz_v106, m2_, m6_, ha, Q_HB, Q_HO103, Q_HA_HO103, Q_HO107, Q_HA_HO107, Q_X2_, Q_X6_⟩
        clear HB
        have hb0_ := hall 0 (by kernel_rfl)
        have hb2_ := hall 2 (by kernel_rfl)
        have hb3_ := hall 3 (by kernel_rfl)
        have hb4_ := hall 4 (by kernel_rfl)
        have hb6_ := hall 6 (by kernel_rfl)
        have hb7_ := hall 7 (by kernel_rfl)
        have hb8_ := hall 8 (by kernel_rfl)
        have hb9_ := hall 9 (by kernel_rfl)
        subst ha
        obtain rfl := Q_X2_ hb2_
        obtain rfl := Q_X6_ hb6_
        simp only [putSel, hb0_, hb2_, hb3_, hb4_, hb6_, hb7_, hb8_, hb9_, if_true, Act.put, List.setIfInBounds_toArray, List.set_cons_zero, List.set_cons_succ]
        have HB := Aside0.mk Q_HB
        clear Q_HB
        have HO103 := Aside0.mk (Q_HO103 hb0_)
        clear Q_HO103
        have HA_HO103 := Aside0.mk (Q_HA_HO103 hb0_)
        clear Q_HA_HO103
        have HO107 := Aside0.mk (Q_HO107 hb4_)
        clear Q_HO107
        have HA_HO107 := Aside0.mk (Q_HA_HO107 hb4_)
        clear Q_HA_HO107
        clear hall hb0_ hb2_ hb3_ hb4_ hb6_ hb7_ hb8_ hb9_
        obtain ⟨co13, eo13⟩ := HA_HO103.out
        clear HA_HO103
        subst eo13
        obtain ⟨co14, eo14⟩ := HA_HO107.out
        clear HA_HO107
        subst eo14
        try go_wp2
        go_ret2
        exact ⟨by first | rfl | (simp [errW_none, errW_some] <;> rfl) | (simp [*, errW_none, errW_some] <;> rfl), by repeat (first | (with_reducible first | exact HB.out | apply below_alloc | apply pw_below_drewN | apply below_drew1) | exact HB.out)⟩
      · rw [if_neg c4] at H
        exact absurd H (by simp)
    · rw [if_neg c3] at H
      exact absurd H (by simp)
  · rw [if_neg c2] at H
    exact absurd H (by simp)

-- NOT PRINTED: function 13 (withylaw03_is)

-- NOT PRINTED: function 15 (turn_Quarter)

-- NOT PRINTED: function 29 (turn_clean)

-- NOT PRINTED: function 24 (turn_Next)

-- NOT PRINTED: function 14 (turn_At)

-- NOT PRINTED: function 17 (turn_Between)

/-! ### turn_Cycle: function 21 -/
def turn_Cycle.f (a0 : Int) : Option (Int) := some (IntKind.u64.wrap (Int.tdiv a0 4))
set_option maxHeartbeats 8000000 in
set_option maxRecDepth 100000 in
theorem turn_Cycle.calls (a0 : Int) (r : Int) (w : World) (h : turn_Cycle.f a0 = some r) :
    Calls Try.prog 21 #[.int .u64 a0] w fun e w' => e = .returned (.int .u64 r) ∧ Drawn0 w w' := by
  have H : (some (IntKind.u64.wrap (Int.tdiv a0 4))) = some r := h
  clear h
  obtain rfl := Option.some.inj H
  go_enter Try.func21, Try.ntmps21
  go_wp2
  go_ret
  exact ⟨by first | rfl | (simp; done) | (simp [*]; done), by repeat (first | exact Drawn0.refl _ | apply Drawn0.step)⟩

/-! ### turn_Black: function 22 -/
def turn_Black.f (a0 : Int) : Option (Int) := (turn_Cycle.f a0).bind fun t109 => (some (wrap64 (Int.tmod (IntKind.u64.wrap (t109 + 1)) 2)))
set_option maxHeartbeats 8000000 in
set_option maxRecDepth 100000 in
theorem turn_Black.calls (a0 : Int) (r : Int) (w : World) (h : turn_Black.f a0 = some r) :
    Calls Try.prog 22 #[.int .u64 a0] w fun e w' => e = .returned (.int .i64 r) ∧ Drawn0 w w' := by
  have H : ((turn_Cycle.f a0).bind fun t109 => (some (wrap64 (Int.tmod (IntKind.u64.wrap (t109 + 1)) 2)))) = some r := h
  clear h
  replace H := Option.bind_eq_some_iff.mp H
  obtain ⟨t109, A20, H⟩ := H
  replace H : (some (wrap64 (Int.tmod (IntKind.u64.wrap (t109 + 1)) 2))) = some r := H
  have A2 := Aside0.mk A20
  clear A20
  obtain rfl := Option.some.inj H
  go_enter Try.func22, Try.ntmps22
  go_wp2_with (first | ((with_reducible refine gate_callee (f := 21) rfl ?_); refine goesL_ (some 4) rfl rfl Try.func21 (by kernel_rfl) rfl #[.int .u64 a0] rfl (by (try simp only [List.map_toArray, List.map_cons, List.map_nil]); first | done | rfl | (simp only [List.length_drop, List.length_take]; rfl)) ?_; (with_reducible refine (turn_Cycle.calls a0 t109 _ A2.out).mono ?_); rintro e w' ⟨rfl, ⟨nd, rfl⟩⟩; refine ⟨_, rfl, ?_⟩))
  go_ret
  exact ⟨by first | rfl | (simp; done) | (simp [*]; done), by repeat (first | exact Drawn0.refl _ | apply Drawn0.step)⟩

/-! ### turn_Born: function 19 -/
def turn_Born.f (a0 : Int) : Option (Int) := if (Int.tmod a0 4) = 0 then ((turn_Black.f a0).bind fun t110 => (some (wrap64 (1 - t110)))) else ((turn_Black.f a0).bind fun t111 => (some t111))
set_option maxHeartbeats 8000000 in
set_option maxRecDepth 100000 in
theorem turn_Born.calls (a0 : Int) (r : Int) (w : World) (h : turn_Born.f a0 = some r) :
    Calls Try.prog 19 #[.int .u64 a0] w fun e w' => e = .returned (.int .i64 r) ∧ Drawn0 w w' := by
  have H : (if (Int.tmod a0 4) = 0 then ((turn_Black.f a0).bind fun t110 => (some (wrap64 (1 - t110)))) else ((turn_Black.f a0).bind fun t111 => (some t111))) = some r := h
  clear h
  by_cases c2 : (Int.tmod a0 4) = 0
  · rw [if_pos c2] at H
    have c2b0 : ((Int.tmod a0 4) == 0) = true := beq_iff_eq.mpr c2
    have c2b1 : ((Int.tmod a0 4) != 0) = false := bne_eq_false_iff_eq.mpr c2
    clear c2
    replace H := Option.bind_eq_some_iff.mp H
    obtain ⟨t110, A30, H⟩ := H
    replace H : (some (wrap64 (1 - t110))) = some r := H
    have A3 := Aside0.mk A30
    clear A30
    obtain rfl := Option.some.inj H
    go_enter Try.func19, Try.ntmps19
    go_wp2_with (first | ((with_reducible refine gate_callee (f := 22) rfl ?_); refine goesL_ (some 7) rfl rfl Try.func22 (by kernel_rfl) rfl #[.int .u64 a0] rfl (by (try simp only [List.map_toArray, List.map_cons, List.map_nil]); first | done | rfl | (simp only [List.length_drop, List.length_take]; rfl)) ?_; (with_reducible refine (turn_Black.calls a0 t110 _ A3.out).mono ?_); rintro e w' ⟨rfl, ⟨nd, rfl⟩⟩; refine ⟨_, rfl, ?_⟩))
    go_ret
    exact ⟨by first | rfl | (simp; done) | (simp [*]; done), by repeat (first | exact Drawn0.refl _ | apply Drawn0.step)⟩
  · rw [if_neg c2] at H
    have c2b0 : ((Int.tmod a0 4) == 0) = false := beq_eq_false_iff_ne.mpr c2
    have c2b1 : ((Int.tmod a0 4) != 0) = true := bne_iff_ne.mpr c2
    replace H := Option.bind_eq_some_iff.mp H
    obtain ⟨t111, A40, H⟩ := H
    replace H : (some t111) = some r := H
    have A4 := Aside0.mk A40
    clear A40
    obtain rfl := Option.some.inj H
    go_enter Try.func19, Try.ntmps19
    go_wp2_with (first | ((with_reducible refine gate_callee (f := 22) rfl ?_); refine goesL_ (some 10) rfl rfl Try.func22 (by kernel_rfl) rfl #[.int .u64 a0] rfl (by (try simp only [List.map_toArray, List.map_cons, List.map_nil]); first | done | rfl | (simp only [List.length_drop, List.length_take]; rfl)) ?_; (with_reducible refine (turn_Black.calls a0 t111 _ A4.out).mono ?_); rintro e w' ⟨rfl, ⟨nd, rfl⟩⟩; refine ⟨_, rfl, ?_⟩))
    go_ret
    exact ⟨by first | rfl | (simp; done) | (simp [*]; done), by repeat (first | exact Drawn0.refl _ | apply Drawn0.step)⟩

-- NOT PRINTED: function 16 (withylaw03_awake)

-- NOT PRINTED: function 18 (withylaw03_of)

-- NOT PRINTED: function 25 (turn_Back)

-- NOT PRINTED: function 8 (withylaw03_TurnSteps)

end Go.Proofs.Ytiakpmagbnccmaa.PTurnSteps
