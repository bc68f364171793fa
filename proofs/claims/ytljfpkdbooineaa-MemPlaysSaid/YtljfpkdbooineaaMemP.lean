/-
  The law MemPlays's walk: what the acts answer, the words, the touches; condition: the acts' row as it is read.
-/
import Derived.Test.YtljfpkdbooineaaMemS
set_option linter.unusedVariables false
namespace Go.Proofs.Ytljfpkdbooineaa.MemP
open Go.RowKit Go.Proofs.YtljfpkdbooineaaW.PrintWords Go.Proofs.Ytljfpkdbooineaa.Blk Go.Proofs.Ytljfpkdbooineaa.Core Go.Proofs.Ytljfpkdbooineaa.MemC Go.Proofs.Ytljfpkdbooineaa.MemD Go.Proofs.Ytljfpkdbooineaa.MemE Go.Proofs.Ytljfpkdbooineaa.Opens Go.Proofs.Ytljfpkdbooineaa.MemN Go.Proofs.Ytljfpkdbooineaa.MemS
theorem do_out {s : Ms} (k : Int) {a : Int} (x y : Int) (h : s.inn a = false) : doA s k a x y = 0 ∧ doB s k a x y = false ∧ doS s k a x y = s := by
  unfold doA doB doS Ms.ldV Ms.ldS Ms.stS Ms.swV Ms.swS Ms.adV Ms.adS
  rw [h]
  refine ⟨?_, ?_, ?_⟩
  · repeat' split
    all_goals first | rfl | contradiction
  · repeat' split
    all_goals rfl
  · repeat' split
    all_goals first | rfl | contradiction
theorem do_in0 {s : Ms} {k a : Int} (x y : Int) (h : s.inn a = true) (hk : k = 0) : doA s k a x y = s.f a.toNat ∧ doB s k a x y = false ∧ doS s k a x y = s.touch 1 a (s.f a.toNat) := by
  subst hk
  exact ⟨if_pos h, rfl, if_pos h⟩
theorem do_in1 {s : Ms} {k a : Int} (x y : Int) (h : s.inn a = true) (hk : k = 1) : doA s k a x y = 0 ∧ doB s k a x y = true ∧ doS s k a x y = s.touch 2 a x := by
  subst hk
  exact ⟨rfl, h, if_pos h⟩
theorem do_in2 {s : Ms} {k a : Int} (x y : Int) (h : s.inn a = true) (hk : k = 2) : doA s k a x y = 0 ∧ doB s k a x y = decide (s.f a.toNat = x) ∧ doS s k a x y = s.touch 3 a (if s.f a.toNat = x then y else s.f a.toNat) := by
  subst hk
  refine ⟨rfl, ?_, if_pos h⟩
  show (s.inn a && decide (s.f a.toNat = x)) = _
  rw [h, Bool.true_and]
theorem do_in3 {s : Ms} {k a : Int} (x y : Int) (h : s.inn a = true) (h0 : k ≠ 0) (h1 : k ≠ 1) (h2 : k ≠ 2) : doA s k a x y = (s.f a.toNat + x) % 18446744073709551616 ∧ doB s k a x y = false ∧ doS s k a x y = s.touch 4 a ((s.f a.toNat + x) % 18446744073709551616) := by
  unfold doA doB doS
  rw [if_neg h0, if_neg h1, if_neg h2, if_neg h0, if_neg h1, if_neg h2, if_neg h0, if_neg h1, if_neg h2]
  exact ⟨if_pos h, rfl, if_pos h⟩
theorem last4 {w : World} {L : Nat} {k a x y : Int} (h : Blk w L 33 #[.int .i64 k, .int .i64 a, .int .u64 x, .int .u64 y]) :
    w.cell? ⟨L, 0, none⟩ = some (.int .i64 k) ∧ w.cell? ⟨L, 1, none⟩ = some (.int .i64 a) ∧ w.cell? ⟨L, 2, none⟩ = some (.int .u64 x) ∧ w.cell? ⟨L, 3, none⟩ = some (.int .u64 y) :=
  ⟨h.cell (i := 0) rfl, h.cell (i := 1) rfl, h.cell (i := 2) rfl, h.cell (i := 3) rfl⟩
set_option maxHeartbeats 40000000 in
set_option maxRecDepth 100000 in
theorem plays_in (K : Nat) (hK : K ≤ 200) (A : Option Addr) (n c : Nat) (q : Nat → A4) (w : World) (h : Acts w A n q) (hc : n ≤ c) (c3 : n ≤ 300) : Calls Try.prog 4 #[.int .i64 (K : Int), .slice A n c] w fun e w' => e = .returned (.bool true) ∧ Below w.heap.size w w' := by
  have hx := Lib.hid h.x
  have hy := Lib.hid h.y
  replace h := Lib.hid h
  have hmk : ∀ w, (Instr.makeSlice 22 (.int .i64 (K : Int)) (.int .i64 (K : Int))).run Try.prog w = .ok (.slice (some ⟨w.heap.size, 0, none⟩) K K) (w.alloc (.cells (rowF .u64 K (fun _ => 0)) 26)) := fun w => make_run K (by omega) (by omega) w
  go_enter Try.func4, Try.ntmps4
  go_wp2_with (first
    | (go_at_call 13; refine (awake_c _).mono ?_; rintro e w0 ⟨rfl, hb0⟩; replace hb0 := Lib.hid hb0)
    | (go_at_call 14; refine (new_c w0 K (by omega) (by omega)).mono ?_; rintro e w1 ⟨m, b, rfl, hM, hm, hb, hb1⟩; replace hM := Lib.hid (show MemB w1 m b (Ms.new K) from hM); replace hb1 := Lib.hid hb1))
  have q0 := hb0.out.size
  have q1 := hb1.out.size
  have q2 := hM.out.lm
  have q3 := hM.out.lb
  have gm : w.heap.size ≤ m := by omega
  have gb : w.heap.size ≤ b := by omega
  have hL := Blk.new (w1.alloc (.cells (rowF .u64 K (fun _ => 0)) 26)) 33 #[.int .i64 0, .int .i64 0, .int .u64 0, .int .u64 0]
  have hR : RowB (w1.alloc (.cells (rowF .u64 K (fun _ => 0)) 26)) (some ⟨w1.heap.size, 0, none⟩) K w1.heap.size K (Ms.new K).f := ⟨Nat.le_refl _, fun _ => ⟨rfl, _, Blk.new w1 26 _, fun i hi => rowF_get hi⟩⟩
  have sz : (w1.alloc (.cells (rowF .u64 K (fun _ => 0)) 26)).heap.size = w1.heap.size + 1 := by simp
  rw [sz] at hL
  replace hL := Lib.hid hL
  replace hR := Lib.hid (hR.alloc (.cells #[.int .i64 0, .int .i64 0, .int .u64 0, .int .u64 0] 33))
  have hM2 := Lib.hid ((hM.out.alloc (.cells (rowF .u64 K (fun _ => 0)) 26)).alloc (.cells #[.int .i64 0, .int .i64 0, .int .u64 0, .int .u64 0] 33))
  have hW2 := Lib.hid (((hb0.out.trans (hb1.out.mono q0)).alloc (by omega) (.cells (rowF .u64 K (fun _ => 0)) 26)).alloc (by rw [sz]; omega) (.cells #[.int .i64 0, .int .i64 0, .int .u64 0, .int .u64 0] 33))
  have lB : w.heap.size ≤ w1.heap.size := by omega
  clear sz
  generalize hBe : w1.heap.size = B at *
  go_loopw [7, 9] (fun u z wr => ∃ j : Nat, j ≤ n ∧ u = .int .i64 (run (Ms.new K) q j).t ∧ z = .int .i64 (j : Int) ∧ MemB wr m b (run (Ms.new K) q j) ∧ RowB wr (some ⟨B, 0, none⟩) K B K (run (Ms.new K) q j).f ∧
    Blk wr (B + 1) 33 #[.int .i64 (run (Ms.new K) q j).k, .int .i64 (run (Ms.new K) q j).a, .int .u64 (run (Ms.new K) q j).was, .int .u64 (run (Ms.new K) q j).now] ∧ Below w.heap.size w wr) (fun _ z _ => n - (intOf z).toNat)
  case atStart => exact ⟨0, Nat.zero_le _, rfl, rfl, hM2.out, hR.out, hL.out, hW2.out⟩
  case round =>
    obtain ⟨j, hj, rfl, rfl, hMj, hRj, hLj, hBj⟩ := hrel
    have hF := (Fine.new K).run hx.out hy.out j hj
    have hok := hF.ok (by omega) (by omega)
    have hFn := hF.n
    have hFt := hF.t
    have hFt0 := hF.t0
    have hFu := Lib.hid hF.u
    replace hok := Lib.hid hok
    replace hFn := Lib.hid hFn
    clear hF
    by_cases hlt : j < n
    · obtain ⟨b', off, rfl, x0, x1, x2, x3⟩ := (h.out.below hBj (Nat.le_refl _)).at_ hlt
      have hrun : run (Ms.new K) q (j + 1) = doS (run (Ms.new K) q j) (q j).k (q j).a (q j).x (q j).y := rfl
      generalize run (Ms.new K) q j = s at *
      have hxj := Lib.hid (hx.out j hlt)
      have hyj := Lib.hid (hy.out j hlt)
      generalize q j = a at *
      obtain ⟨ak, aa, ax, ay⟩ := a
      dsimp only at x0 x1 x2 x3 hrun hxj hyj
      have hFn' := hFn.out
      have hle := hBj.size
      replace hBj := Lib.hid hBj
      replace hMj := Lib.hid hMj
      replace hRj := Lib.hid hRj
      replace hLj := Lib.hid hLj
      have nA : ¬ two m b wr.heap.size := fun c => c.elim (fun e => by have := hMj.out.lm; omega) (fun e => by have := hMj.out.lb; omega)
      have nL : ¬ two m b (B + 1) := fun c => c.elim (fun e => by omega) (fun e => by omega)
      have nB : ¬ two m b B := fun c => c.elim (fun e => by omega) (fun e => by omega)
      cases hin : s.inn aa with
      | false =>
        obtain ⟨eA, eB, eS⟩ := do_out ak ax ay hin
        have hn : ¬ (0 ≤ aa ∧ aa < (K : Int)) := by
          intro c
          rw [← hFn'] at c
          rw [inn_iff.2 c] at hin
          cases hin
        clear hin
        go_wp2_with (first
          | (go_at_call 18; refine (does_c _ m b s _ _ _ _ (hMj.out.alloc _) hok.out hxj.out.1 hxj.out.2).mono ?_; rintro e w3 ⟨rfl, hM3, hF3⟩; rw [eA, eB]; rw [eS] at hM3
             have hA3 := (Blk.new wr 35 #[.int .i64 ak, .int .i64 aa, .int .u64 ax, .int .u64 ay]).fr hF3 nA
             have y0 := hA3.cell (i := 0) rfl; have y1 := hA3.cell (i := 1) rfl; have y2 := hA3.cell (i := 2) rfl; have y3 := hA3.cell (i := 3) rfl
             have hL3 := (hLj.out.alloc _).fr hF3 nL
             have z0 := hL3.cell (i := 0) rfl; have z1 := hL3.cell (i := 1) rfl; have z2 := hL3.cell (i := 2) rfl; have z3 := hL3.cell (i := 3) rfl
             have hR3 := Lib.hid ((hRj.out.alloc _).fr hF3 nB)
             replace hA3 := Lib.hid hA3; replace hL3 := Lib.hid hL3; replace hM3 := Lib.hid hM3; replace hF3 := Lib.hid hF3)
          | (go_at_call 19; refine (touches_c _ m b s hM3.out).mono ?_; rintro e w' ⟨rfl, rfl⟩))
        all_goals
          have hX := last4 hL3.out
          go_region_held3 (fun w' => w'.cell? ⟨B + 1, 0, none⟩ = some (.int .i64 s.k) ∧ w'.cell? ⟨B + 1, 1, none⟩ = some (.int .i64 s.a) ∧ w'.cell? ⟨B + 1, 2, none⟩ = some (.int .u64 s.was) ∧ w'.cell? ⟨B + 1, 3, none⟩ = some (.int .u64 s.now)) (assumption) (first
            | (go_at_call 19; refine (touches_c _ m b s hM3.out.drew).mono ?_; rintro e w' ⟨rfl, rfl⟩)
            | (go_at_call 20; refine (last_c _ m b s hM3.out.drew).mono ?_; rintro e w5 ⟨rfl, hb5'⟩; have hb5 : Below w3.heap.size w3 w5 := below_undrew hb5'; clear hb5'; have hM5 := Lib.hid (hM3.out.next hb5); have hL5 := hL3.out.below hb5 hL3.out.lt; have hY := last4 hL5; have hR5 := Lib.hid (hR3.out.below hb5 (Nat.le_refl _)); replace hL5 := Lib.hid hL5; replace hb5 := Lib.hid hb5))
        all_goals
          go_wp2
          go_roundw
          case rel =>
            have e := hrun.trans eS
            exact ⟨j + 1, by omega, by rw [e], by go_num, by rw [e]; exact hM5.out, by rw [e]; exact hR5.out, by rw [e]; exact hL5.out, (below_two (hBj.out.alloc hle _) hF3.out gm gb (Nat.le_refl _)).trans (hb5.out.mono (by have := hBj.out.size; have := hF3.out.size; simp at this; omega))⟩
          case measure => simp [intOf]; omega
      | true =>
        have hin' := inn_iff.1 hin
        obtain ⟨i0, i1⟩ := hin'
        rw [hFn'] at i1
        obtain ⟨f0, f1⟩ := hFu.out aa.toNat
        have lw := hLj.out.lt
        have u1 : ¬ wr.heap.size = B + 1 := by omega
        have u2 : ¬ B + 1 = wr.heap.size := by omega
        have u3 : ¬ wr.heap.size = B := by omega
        have u4 : ¬ B = wr.heap.size := by omega
        have ew : IntKind.u64.wrap (s.f aa.toNat + ax) = (s.f aa.toNat + ax) % 18446744073709551616 := wrap_u64 _
        by_cases k0 : ak = 0
        · obtain ⟨eA, eB, eS⟩ := do_in0 (s := s) (a := aa) (k := ak) ax ay hin k0
          clear hin
          subst k0
          go_upto_region 35 with (go_at_call 18; refine (does_c _ m b s _ _ _ _ (hMj.out.alloc _) hok.out hxj.out.1 hxj.out.2).mono ?_; rintro e w3 ⟨rfl, hM3, hF3⟩; rw [eA, eB]; rw [eS] at hM3; have hA3 := (Blk.new wr 35 #[.int .i64 0, .int .i64 aa, .int .u64 ax, .int .u64 ay]).fr hF3 nA; have y0 := hA3.cell (i := 0) rfl; have y1 := hA3.cell (i := 1) rfl; have y2 := hA3.cell (i := 2) rfl; have y3 := hA3.cell (i := 3) rfl; have hL3 := (hLj.out.alloc _).fr hF3 nL; have z0 := hL3.cell (i := 0) rfl; have z1 := hL3.cell (i := 1) rfl; have z2 := hL3.cell (i := 2) rfl; have z3 := hL3.cell (i := 3) rfl; have t0 := hL3.frozen 0; have t1 := hL3.frozen 1; have t2 := hL3.frozen 2; have t3 := hL3.frozen 3; have hR3 := (hRj.out.alloc _).fr hF3 nB; have r1 := (hR3.cell (i := aa.toNat) (by omega)).2.1; have r2 := (hR3.cell (i := aa.toNat) (by omega)).2.2; replace hR3 := Lib.hid hR3; replace hA3 := Lib.hid hA3; replace hL3 := Lib.hid hL3; replace hM3 := Lib.hid hM3; replace hF3 := Lib.hid hF3)
          have hL4 : Blk (World.setCell (World.setCell (World.setCell (World.setCell (World.setCell (World.setCell w3 ⟨B + 1, 0, none⟩ (.int .i64 4)) ⟨B + 1, 1, none⟩ (.int .i64 aa)) ⟨B + 1, 2, none⟩ (.int .u64 (s.f aa.toNat))) ⟨B + 1, 3, none⟩ (.int .u64 ((s.f aa.toNat + ax) % 18446744073709551616))) ⟨B + 1, 0, none⟩ (.int .i64 1)) ⟨B + 1, 3, none⟩ (.int .u64 (s.f aa.toNat))) (B + 1) 33 #[.int .i64 1, .int .i64 aa, .int .u64 (s.f aa.toNat), .int .u64 (s.f aa.toNat)] := ((((((hL3.out.set 0 _).set 1 _).set 2 _).set 3 _).set 0 _).set 3 _)
          have hF4 : Fr (fun k => k = B + 1) w3 (World.setCell (World.setCell (World.setCell (World.setCell (World.setCell (World.setCell w3 ⟨B + 1, 0, none⟩ (.int .i64 4)) ⟨B + 1, 1, none⟩ (.int .i64 aa)) ⟨B + 1, 2, none⟩ (.int .u64 (s.f aa.toNat))) ⟨B + 1, 3, none⟩ (.int .u64 ((s.f aa.toNat + ax) % 18446744073709551616))) ⟨B + 1, 0, none⟩ (.int .i64 1)) ⟨B + 1, 3, none⟩ (.int .u64 (s.f aa.toNat))) := ((((((Fr.refl (fun k => k = B + 1) w3).trans (Fr.set (fun k => k = B + 1) _ (p := ⟨B + 1, 0, none⟩) rfl _)).trans (Fr.set (fun k => k = B + 1) _ (p := ⟨B + 1, 1, none⟩) rfl _)).trans (Fr.set (fun k => k = B + 1) _ (p := ⟨B + 1, 2, none⟩) rfl _)).trans (Fr.set (fun k => k = B + 1) _ (p := ⟨B + 1, 3, none⟩) rfl _)).trans (Fr.set (fun k => k = B + 1) _ (p := ⟨B + 1, 0, none⟩) rfl _)).trans (Fr.set (fun k => k = B + 1) _ (p := ⟨B + 1, 3, none⟩) rfl _)
          clear y0 y1 y2 y3 z0 z1 z2 z3 t0 t1 t2 t3 r1 r2
          generalize (World.setCell (World.setCell (World.setCell (World.setCell (World.setCell (World.setCell w3 ⟨B + 1, 0, none⟩ (.int .i64 4)) ⟨B + 1, 1, none⟩ (.int .i64 aa)) ⟨B + 1, 2, none⟩ (.int .u64 (s.f aa.toNat))) ⟨B + 1, 3, none⟩ (.int .u64 ((s.f aa.toNat + ax) % 18446744073709551616))) ⟨B + 1, 0, none⟩ (.int .i64 1)) ⟨B + 1, 3, none⟩ (.int .u64 (s.f aa.toNat))) = w4 at *
          have y1 := (hA3.out.fr hF4 u1).cell (i := 1) rfl
          have z3 := hL4.cell (i := 3) rfl
          have hR4 := hR3.out.fr hF4 (show ¬ B = B + 1 by omega)
          have r2 := (hR4.cell (i := aa.toNat) (by omega)).2.2
          have r1 := (hR4.cell (i := aa.toNat) (by omega)).2.1
          have hM4 := hM3.out.fr hF4 (show ¬ m = B + 1 by omega) (show ¬ b = B + 1 by omega)
          replace hL4 := Lib.hid hL4; replace hR4 := Lib.hid hR4; replace hM4 := Lib.hid hM4; replace hF4 := Lib.hid hF4
          go_upto_region 36 with (fail)
          have hL5 := hL4.out.other ⟨B, aa.toNat, none⟩ (show B + 1 ≠ B by omega) (.int .u64 (s.f aa.toNat))
          have hR5 := Lib.hid (hR4.out.set aa.toNat (by omega) (s.f aa.toNat))
          have hF5 := Fr.set (fun k => k = B) w4 (p := ⟨B, aa.toNat, none⟩) rfl (.int .u64 (s.f aa.toNat))
          have hM5 := hM4.out.fr hF5 (show ¬ m = B by omega) (show ¬ b = B by omega)
          clear y1 z3 r1 r2
          generalize World.setCell w4 ⟨B, aa.toNat, none⟩ (.int .u64 (s.f aa.toNat)) = w5 at *
          have hX := last4 hL5
          replace hL5 := Lib.hid hL5; replace hM5 := Lib.hid hM5; replace hF5 := Lib.hid hF5
          go_region_held3 (fun w' => w'.cell? ⟨B + 1, 0, none⟩ = some (.int .i64 1) ∧ w'.cell? ⟨B + 1, 1, none⟩ = some (.int .i64 aa) ∧ w'.cell? ⟨B + 1, 2, none⟩ = some (.int .u64 (s.f aa.toNat)) ∧ w'.cell? ⟨B + 1, 3, none⟩ = some (.int .u64 (s.f aa.toNat))) (assumption) (first
            | (go_at_call 19; refine (touches_c _ m b _ hM5.out.drew).mono ?_; rintro e w' ⟨rfl, rfl⟩; rw [show (s.touch 1 aa (s.f aa.toNat)).t = s.t + 1 from rfl])
            | (go_at_call 20; refine (last_c _ m b _ hM5.out.drew).mono ?_; rintro e w6 ⟨rfl, hb6'⟩; rw [show (s.touch 1 aa (s.f aa.toNat)).k = 1 from rfl, show (s.touch 1 aa (s.f aa.toNat)).a = aa from rfl, show (s.touch 1 aa (s.f aa.toNat)).was = (s.f aa.toNat) from rfl, show (s.touch 1 aa (s.f aa.toNat)).now = (s.f aa.toNat) from rfl]; have hb6 : Below w5.heap.size w5 w6 := below_undrew hb6'; clear hb6'; have hM6 := Lib.hid (hM5.out.next hb6); have hL6 := hL5.out.below hb6 hL5.out.lt; have hY := last4 hL6; have hR6 := Lib.hid (hR5.out.below hb6 (Nat.le_refl _)); replace hL6 := Lib.hid hL6; replace hb6 := Lib.hid hb6))
          all_goals
            go_wp2
            go_roundw
            case rel =>
              have e := hrun.trans eS
              have hB3 := below_two (hBj.out.alloc hle _) hF3.out gm gb (Nat.le_refl _)
              have hB5 := (hB3.trans (hF4.out.below (fun k hk => ⟨Nat.lt_of_lt_of_le hk hB3.size, fun c => by omega⟩)))
              have hB6 := (hB5.trans (hF5.out.below (fun k hk => ⟨Nat.lt_of_lt_of_le hk hB5.size, fun c => by omega⟩)))
              exact ⟨j + 1, by omega, by rw [e]; rfl, by go_num, by rw [e]; exact hM6.out, by rw [e]; exact hR6.out, by rw [e]; exact hL6.out, hB6.trans (hb6.out.mono hB6.size)⟩
            case measure => simp [intOf]; omega
        · by_cases k1 : ak = 1
          · obtain ⟨eA, eB, eS⟩ := do_in1 (s := s) (a := aa) (k := ak) ax ay hin k1
            clear hin
            subst k1
            go_upto_region 35 with (go_at_call 18; refine (does_c _ m b s _ _ _ _ (hMj.out.alloc _) hok.out hxj.out.1 hxj.out.2).mono ?_; rintro e w3 ⟨rfl, hM3, hF3⟩; rw [eA, eB]; rw [eS] at hM3; have hA3 := (Blk.new wr 35 #[.int .i64 1, .int .i64 aa, .int .u64 ax, .int .u64 ay]).fr hF3 nA; have y0 := hA3.cell (i := 0) rfl; have y1 := hA3.cell (i := 1) rfl; have y2 := hA3.cell (i := 2) rfl; have y3 := hA3.cell (i := 3) rfl; have hL3 := (hLj.out.alloc _).fr hF3 nL; have z0 := hL3.cell (i := 0) rfl; have z1 := hL3.cell (i := 1) rfl; have z2 := hL3.cell (i := 2) rfl; have z3 := hL3.cell (i := 3) rfl; have t0 := hL3.frozen 0; have t1 := hL3.frozen 1; have t2 := hL3.frozen 2; have t3 := hL3.frozen 3; have hR3 := (hRj.out.alloc _).fr hF3 nB; have r1 := (hR3.cell (i := aa.toNat) (by omega)).2.1; have r2 := (hR3.cell (i := aa.toNat) (by omega)).2.2; replace hR3 := Lib.hid hR3; replace hA3 := Lib.hid hA3; replace hL3 := Lib.hid hL3; replace hM3 := Lib.hid hM3; replace hF3 := Lib.hid hF3)
            have hL4 : Blk (World.setCell (World.setCell (World.setCell (World.setCell (World.setCell (World.setCell w3 ⟨B + 1, 0, none⟩ (.int .i64 4)) ⟨B + 1, 1, none⟩ (.int .i64 aa)) ⟨B + 1, 2, none⟩ (.int .u64 (s.f aa.toNat))) ⟨B + 1, 3, none⟩ (.int .u64 ((s.f aa.toNat + ax) % 18446744073709551616))) ⟨B + 1, 0, none⟩ (.int .i64 2)) ⟨B + 1, 3, none⟩ (.int .u64 ax)) (B + 1) 33 #[.int .i64 2, .int .i64 aa, .int .u64 (s.f aa.toNat), .int .u64 ax] := ((((((hL3.out.set 0 _).set 1 _).set 2 _).set 3 _).set 0 _).set 3 _)
            have hF4 : Fr (fun k => k = B + 1) w3 (World.setCell (World.setCell (World.setCell (World.setCell (World.setCell (World.setCell w3 ⟨B + 1, 0, none⟩ (.int .i64 4)) ⟨B + 1, 1, none⟩ (.int .i64 aa)) ⟨B + 1, 2, none⟩ (.int .u64 (s.f aa.toNat))) ⟨B + 1, 3, none⟩ (.int .u64 ((s.f aa.toNat + ax) % 18446744073709551616))) ⟨B + 1, 0, none⟩ (.int .i64 2)) ⟨B + 1, 3, none⟩ (.int .u64 ax)) := ((((((Fr.refl (fun k => k = B + 1) w3).trans (Fr.set (fun k => k = B + 1) _ (p := ⟨B + 1, 0, none⟩) rfl _)).trans (Fr.set (fun k => k = B + 1) _ (p := ⟨B + 1, 1, none⟩) rfl _)).trans (Fr.set (fun k => k = B + 1) _ (p := ⟨B + 1, 2, none⟩) rfl _)).trans (Fr.set (fun k => k = B + 1) _ (p := ⟨B + 1, 3, none⟩) rfl _)).trans (Fr.set (fun k => k = B + 1) _ (p := ⟨B + 1, 0, none⟩) rfl _)).trans (Fr.set (fun k => k = B + 1) _ (p := ⟨B + 1, 3, none⟩) rfl _)
            clear y0 y1 y2 y3 z0 z1 z2 z3 t0 t1 t2 t3 r1 r2
            generalize (World.setCell (World.setCell (World.setCell (World.setCell (World.setCell (World.setCell w3 ⟨B + 1, 0, none⟩ (.int .i64 4)) ⟨B + 1, 1, none⟩ (.int .i64 aa)) ⟨B + 1, 2, none⟩ (.int .u64 (s.f aa.toNat))) ⟨B + 1, 3, none⟩ (.int .u64 ((s.f aa.toNat + ax) % 18446744073709551616))) ⟨B + 1, 0, none⟩ (.int .i64 2)) ⟨B + 1, 3, none⟩ (.int .u64 ax)) = w4 at *
            have y1 := (hA3.out.fr hF4 u1).cell (i := 1) rfl
            have z3 := hL4.cell (i := 3) rfl
            have hR4 := hR3.out.fr hF4 (show ¬ B = B + 1 by omega)
            have r2 := (hR4.cell (i := aa.toNat) (by omega)).2.2
            have r1 := (hR4.cell (i := aa.toNat) (by omega)).2.1
            have hM4 := hM3.out.fr hF4 (show ¬ m = B + 1 by omega) (show ¬ b = B + 1 by omega)
            replace hL4 := Lib.hid hL4; replace hR4 := Lib.hid hR4; replace hM4 := Lib.hid hM4; replace hF4 := Lib.hid hF4
            go_upto_region 36 with (fail)
            have hL5 := hL4.out.other ⟨B, aa.toNat, none⟩ (show B + 1 ≠ B by omega) (.int .u64 ax)
            have hR5 := Lib.hid (hR4.out.set aa.toNat (by omega) ax)
            have hF5 := Fr.set (fun k => k = B) w4 (p := ⟨B, aa.toNat, none⟩) rfl (.int .u64 ax)
            have hM5 := hM4.out.fr hF5 (show ¬ m = B by omega) (show ¬ b = B by omega)
            clear y1 z3 r1 r2
            generalize World.setCell w4 ⟨B, aa.toNat, none⟩ (.int .u64 ax) = w5 at *
            have hX := last4 hL5
            replace hL5 := Lib.hid hL5; replace hM5 := Lib.hid hM5; replace hF5 := Lib.hid hF5
            go_region_held3 (fun w' => w'.cell? ⟨B + 1, 0, none⟩ = some (.int .i64 2) ∧ w'.cell? ⟨B + 1, 1, none⟩ = some (.int .i64 aa) ∧ w'.cell? ⟨B + 1, 2, none⟩ = some (.int .u64 (s.f aa.toNat)) ∧ w'.cell? ⟨B + 1, 3, none⟩ = some (.int .u64 ax)) (assumption) (first
              | (go_at_call 19; refine (touches_c _ m b _ hM5.out.drew).mono ?_; rintro e w' ⟨rfl, rfl⟩; rw [show (s.touch 2 aa ax).t = s.t + 1 from rfl])
              | (go_at_call 20; refine (last_c _ m b _ hM5.out.drew).mono ?_; rintro e w6 ⟨rfl, hb6'⟩; rw [show (s.touch 2 aa ax).k = 2 from rfl, show (s.touch 2 aa ax).a = aa from rfl, show (s.touch 2 aa ax).was = (s.f aa.toNat) from rfl, show (s.touch 2 aa ax).now = ax from rfl]; have hb6 : Below w5.heap.size w5 w6 := below_undrew hb6'; clear hb6'; have hM6 := Lib.hid (hM5.out.next hb6); have hL6 := hL5.out.below hb6 hL5.out.lt; have hY := last4 hL6; have hR6 := Lib.hid (hR5.out.below hb6 (Nat.le_refl _)); replace hL6 := Lib.hid hL6; replace hb6 := Lib.hid hb6))
            all_goals
              go_wp2
              go_roundw
              case rel =>
                have e := hrun.trans eS
                have hB3 := below_two (hBj.out.alloc hle _) hF3.out gm gb (Nat.le_refl _)
                have hB5 := (hB3.trans (hF4.out.below (fun k hk => ⟨Nat.lt_of_lt_of_le hk hB3.size, fun c => by omega⟩)))
                have hB6 := (hB5.trans (hF5.out.below (fun k hk => ⟨Nat.lt_of_lt_of_le hk hB5.size, fun c => by omega⟩)))
                exact ⟨j + 1, by omega, by rw [e]; rfl, by go_num, by rw [e]; exact hM6.out, by rw [e]; exact hR6.out, by rw [e]; exact hL6.out, hB6.trans (hb6.out.mono hB6.size)⟩
              case measure => simp [intOf]; omega
          · by_cases k2 : ak = 2
            · by_cases hv : s.f aa.toNat = ax
              · obtain ⟨eA, eB, eS⟩ := do_in2 (s := s) (a := aa) (k := ak) ax ay hin k2
                rw [if_pos hv] at eS
                rw [decide_eq_true hv] at eB
                have hy0 := hyj.out.1
                have hy1 := hyj.out.2
                subst hv
                clear hin
                subst k2
                go_upto_region 34 with (go_at_call 18; refine (does_c _ m b s _ _ _ _ (hMj.out.alloc _) hok.out hxj.out.1 hxj.out.2).mono ?_; rintro e w3 ⟨rfl, hM3, hF3⟩; rw [eA, eB]; rw [eS] at hM3; have hA3 := (Blk.new wr 35 #[.int .i64 2, .int .i64 aa, .int .u64 (s.f aa.toNat), .int .u64 ay]).fr hF3 nA; have y0 := hA3.cell (i := 0) rfl; have y1 := hA3.cell (i := 1) rfl; have y2 := hA3.cell (i := 2) rfl; have y3 := hA3.cell (i := 3) rfl; have hL3 := (hLj.out.alloc _).fr hF3 nL; have z0 := hL3.cell (i := 0) rfl; have z1 := hL3.cell (i := 1) rfl; have z2 := hL3.cell (i := 2) rfl; have z3 := hL3.cell (i := 3) rfl; have t0 := hL3.frozen 0; have t1 := hL3.frozen 1; have t2 := hL3.frozen 2; have t3 := hL3.frozen 3; have hR3 := (hRj.out.alloc _).fr hF3 nB; have r1 := (hR3.cell (i := aa.toNat) (by omega)).2.1; have r2 := (hR3.cell (i := aa.toNat) (by omega)).2.2; replace hR3 := Lib.hid hR3; replace hA3 := Lib.hid hA3; replace hL3 := Lib.hid hL3; replace hM3 := Lib.hid hM3; replace hF3 := Lib.hid hF3)
                have hLp : Blk (World.setCell (World.setCell (World.setCell (World.setCell (World.setCell (World.setCell w3 ⟨B + 1, 0, none⟩ (.int .i64 4)) ⟨B + 1, 1, none⟩ (.int .i64 aa)) ⟨B + 1, 2, none⟩ (.int .u64 (s.f aa.toNat))) ⟨B + 1, 3, none⟩ (.int .u64 ((s.f aa.toNat + (s.f aa.toNat)) % 18446744073709551616))) ⟨B + 1, 0, none⟩ (.int .i64 3)) ⟨B + 1, 3, none⟩ (.int .u64 (s.f aa.toNat))) (B + 1) 33 #[.int .i64 3, .int .i64 aa, .int .u64 (s.f aa.toNat), .int .u64 (s.f aa.toNat)] := ((((((hL3.out.set 0 _).set 1 _).set 2 _).set 3 _).set 0 _).set 3 _)
                have hFp : Fr (fun k => k = B + 1) w3 (World.setCell (World.setCell (World.setCell (World.setCell (World.setCell (World.setCell w3 ⟨B + 1, 0, none⟩ (.int .i64 4)) ⟨B + 1, 1, none⟩ (.int .i64 aa)) ⟨B + 1, 2, none⟩ (.int .u64 (s.f aa.toNat))) ⟨B + 1, 3, none⟩ (.int .u64 ((s.f aa.toNat + (s.f aa.toNat)) % 18446744073709551616))) ⟨B + 1, 0, none⟩ (.int .i64 3)) ⟨B + 1, 3, none⟩ (.int .u64 (s.f aa.toNat))) := ((((((Fr.refl (fun k => k = B + 1) w3).trans (Fr.set (fun k => k = B + 1) _ (p := ⟨B + 1, 0, none⟩) rfl _)).trans (Fr.set (fun k => k = B + 1) _ (p := ⟨B + 1, 1, none⟩) rfl _)).trans (Fr.set (fun k => k = B + 1) _ (p := ⟨B + 1, 2, none⟩) rfl _)).trans (Fr.set (fun k => k = B + 1) _ (p := ⟨B + 1, 3, none⟩) rfl _)).trans (Fr.set (fun k => k = B + 1) _ (p := ⟨B + 1, 0, none⟩) rfl _)).trans (Fr.set (fun k => k = B + 1) _ (p := ⟨B + 1, 3, none⟩) rfl _)
                clear y0 y1 y2 y3 z0 z1 z2 z3 t0 t1 t2 t3 r1 r2
                generalize (World.setCell (World.setCell (World.setCell (World.setCell (World.setCell (World.setCell w3 ⟨B + 1, 0, none⟩ (.int .i64 4)) ⟨B + 1, 1, none⟩ (.int .i64 aa)) ⟨B + 1, 2, none⟩ (.int .u64 (s.f aa.toNat))) ⟨B + 1, 3, none⟩ (.int .u64 ((s.f aa.toNat + (s.f aa.toNat)) % 18446744073709551616))) ⟨B + 1, 0, none⟩ (.int .i64 3)) ⟨B + 1, 3, none⟩ (.int .u64 (s.f aa.toNat))) = wp at *
                have y0 := (hA3.out.fr hFp u1).cell (i := 0) rfl
                have y1 := (hA3.out.fr hFp u1).cell (i := 1) rfl
                have y2 := (hA3.out.fr hFp u1).cell (i := 2) rfl
                have y3 := (hA3.out.fr hFp u1).cell (i := 3) rfl
                have z0 := hLp.cell (i := 0) rfl
                have z1 := hLp.cell (i := 1) rfl
                have z2 := hLp.cell (i := 2) rfl
                have z3 := hLp.cell (i := 3) rfl
                have t0 := hLp.frozen 0
                have t1 := hLp.frozen 1
                have t2 := hLp.frozen 2
                have t3 := hLp.frozen 3
                have r1 := True.intro
                have r2 := True.intro
                replace hLp := Lib.hid hLp; replace hFp := Lib.hid hFp
                go_upto_region 35 with (fail)
                have hL4 : Blk (World.setCell wp ⟨B + 1, 3, none⟩ (.int .u64 ay)) (B + 1) 33 #[.int .i64 3, .int .i64 aa, .int .u64 (s.f aa.toNat), .int .u64 ay] := (hLp.out.set 3 _)
                have hF4 : Fr (fun k => k = B + 1) w3 (World.setCell wp ⟨B + 1, 3, none⟩ (.int .u64 ay)) := hFp.out.trans (Fr.set (fun k => k = B + 1) _ (p := ⟨B + 1, 3, none⟩) rfl _)
                clear y0 y1 y2 y3 z0 z1 z2 z3 t0 t1 t2 t3 r1 r2
                generalize (World.setCell wp ⟨B + 1, 3, none⟩ (.int .u64 ay)) = w4 at *
                have y1 := (hA3.out.fr hF4 u1).cell (i := 1) rfl
                have z3 := hL4.cell (i := 3) rfl
                have hR4 := hR3.out.fr hF4 (show ¬ B = B + 1 by omega)
                have r2 := (hR4.cell (i := aa.toNat) (by omega)).2.2
                have r1 := (hR4.cell (i := aa.toNat) (by omega)).2.1
                have hM4 := hM3.out.fr hF4 (show ¬ m = B + 1 by omega) (show ¬ b = B + 1 by omega)
                replace hL4 := Lib.hid hL4; replace hR4 := Lib.hid hR4; replace hM4 := Lib.hid hM4; replace hF4 := Lib.hid hF4
                go_upto_region 36 with (fail)
                have hL5 := hL4.out.other ⟨B, aa.toNat, none⟩ (show B + 1 ≠ B by omega) (.int .u64 ay)
                have hR5 := Lib.hid (hR4.out.set aa.toNat (by omega) ay)
                have hF5 := Fr.set (fun k => k = B) w4 (p := ⟨B, aa.toNat, none⟩) rfl (.int .u64 ay)
                have hM5 := hM4.out.fr hF5 (show ¬ m = B by omega) (show ¬ b = B by omega)
                clear y1 z3 r1 r2
                generalize World.setCell w4 ⟨B, aa.toNat, none⟩ (.int .u64 ay) = w5 at *
                have hX := last4 hL5
                replace hL5 := Lib.hid hL5; replace hM5 := Lib.hid hM5; replace hF5 := Lib.hid hF5
                go_region_held3 (fun w' => w'.cell? ⟨B + 1, 0, none⟩ = some (.int .i64 3) ∧ w'.cell? ⟨B + 1, 1, none⟩ = some (.int .i64 aa) ∧ w'.cell? ⟨B + 1, 2, none⟩ = some (.int .u64 (s.f aa.toNat)) ∧ w'.cell? ⟨B + 1, 3, none⟩ = some (.int .u64 ay)) (assumption) (first
                  | (go_at_call 19; refine (touches_c _ m b _ hM5.out.drew).mono ?_; rintro e w' ⟨rfl, rfl⟩; rw [show (s.touch 3 aa ay).t = s.t + 1 from rfl])
                  | (go_at_call 20; refine (last_c _ m b _ hM5.out.drew).mono ?_; rintro e w6 ⟨rfl, hb6'⟩; rw [show (s.touch 3 aa ay).k = 3 from rfl, show (s.touch 3 aa ay).a = aa from rfl, show (s.touch 3 aa ay).was = (s.f aa.toNat) from rfl, show (s.touch 3 aa ay).now = ay from rfl]; have hb6 : Below w5.heap.size w5 w6 := below_undrew hb6'; clear hb6'; have hM6 := Lib.hid (hM5.out.next hb6); have hL6 := hL5.out.below hb6 hL5.out.lt; have hY := last4 hL6; have hR6 := Lib.hid (hR5.out.below hb6 (Nat.le_refl _)); replace hL6 := Lib.hid hL6; replace hb6 := Lib.hid hb6))
                all_goals
                  go_wp2
                  go_roundw
                  case rel =>
                    have e := hrun.trans eS
                    have hB3 := below_two (hBj.out.alloc hle _) hF3.out gm gb (Nat.le_refl _)
                    have hB5 := (hB3.trans (hF4.out.below (fun k hk => ⟨Nat.lt_of_lt_of_le hk hB3.size, fun c => by omega⟩)))
                    have hB6 := (hB5.trans (hF5.out.below (fun k hk => ⟨Nat.lt_of_lt_of_le hk hB5.size, fun c => by omega⟩)))
                    exact ⟨j + 1, by omega, by rw [e]; rfl, by go_num, by rw [e]; exact hM6.out, by rw [e]; exact hR6.out, by rw [e]; exact hL6.out, hB6.trans (hb6.out.mono hB6.size)⟩
                  case measure => simp [intOf]; omega
              · obtain ⟨eA, eB, eS⟩ := do_in2 (s := s) (a := aa) (k := ak) ax ay hin k2
                rw [if_neg hv] at eS
                rw [decide_eq_false hv] at eB
                have hv1 : (s.f aa.toNat == ax) = false := beq_eq_false_iff_ne.2 hv
                replace hv := Lib.hid hv
                clear hin
                subst k2
                go_upto_region 35 with (go_at_call 18; refine (does_c _ m b s _ _ _ _ (hMj.out.alloc _) hok.out hxj.out.1 hxj.out.2).mono ?_; rintro e w3 ⟨rfl, hM3, hF3⟩; rw [eA, eB]; rw [eS] at hM3; have hA3 := (Blk.new wr 35 #[.int .i64 2, .int .i64 aa, .int .u64 ax, .int .u64 ay]).fr hF3 nA; have y0 := hA3.cell (i := 0) rfl; have y1 := hA3.cell (i := 1) rfl; have y2 := hA3.cell (i := 2) rfl; have y3 := hA3.cell (i := 3) rfl; have hL3 := (hLj.out.alloc _).fr hF3 nL; have z0 := hL3.cell (i := 0) rfl; have z1 := hL3.cell (i := 1) rfl; have z2 := hL3.cell (i := 2) rfl; have z3 := hL3.cell (i := 3) rfl; have t0 := hL3.frozen 0; have t1 := hL3.frozen 1; have t2 := hL3.frozen 2; have t3 := hL3.frozen 3; have hR3 := (hRj.out.alloc _).fr hF3 nB; have r1 := (hR3.cell (i := aa.toNat) (by omega)).2.1; have r2 := (hR3.cell (i := aa.toNat) (by omega)).2.2; replace hR3 := Lib.hid hR3; replace hA3 := Lib.hid hA3; replace hL3 := Lib.hid hL3; replace hM3 := Lib.hid hM3; replace hF3 := Lib.hid hF3)
                have hL4 : Blk (World.setCell (World.setCell (World.setCell (World.setCell (World.setCell (World.setCell w3 ⟨B + 1, 0, none⟩ (.int .i64 4)) ⟨B + 1, 1, none⟩ (.int .i64 aa)) ⟨B + 1, 2, none⟩ (.int .u64 (s.f aa.toNat))) ⟨B + 1, 3, none⟩ (.int .u64 ((s.f aa.toNat + ax) % 18446744073709551616))) ⟨B + 1, 0, none⟩ (.int .i64 3)) ⟨B + 1, 3, none⟩ (.int .u64 (s.f aa.toNat))) (B + 1) 33 #[.int .i64 3, .int .i64 aa, .int .u64 (s.f aa.toNat), .int .u64 (s.f aa.toNat)] := ((((((hL3.out.set 0 _).set 1 _).set 2 _).set 3 _).set 0 _).set 3 _)
                have hF4 : Fr (fun k => k = B + 1) w3 (World.setCell (World.setCell (World.setCell (World.setCell (World.setCell (World.setCell w3 ⟨B + 1, 0, none⟩ (.int .i64 4)) ⟨B + 1, 1, none⟩ (.int .i64 aa)) ⟨B + 1, 2, none⟩ (.int .u64 (s.f aa.toNat))) ⟨B + 1, 3, none⟩ (.int .u64 ((s.f aa.toNat + ax) % 18446744073709551616))) ⟨B + 1, 0, none⟩ (.int .i64 3)) ⟨B + 1, 3, none⟩ (.int .u64 (s.f aa.toNat))) := ((((((Fr.refl (fun k => k = B + 1) w3).trans (Fr.set (fun k => k = B + 1) _ (p := ⟨B + 1, 0, none⟩) rfl _)).trans (Fr.set (fun k => k = B + 1) _ (p := ⟨B + 1, 1, none⟩) rfl _)).trans (Fr.set (fun k => k = B + 1) _ (p := ⟨B + 1, 2, none⟩) rfl _)).trans (Fr.set (fun k => k = B + 1) _ (p := ⟨B + 1, 3, none⟩) rfl _)).trans (Fr.set (fun k => k = B + 1) _ (p := ⟨B + 1, 0, none⟩) rfl _)).trans (Fr.set (fun k => k = B + 1) _ (p := ⟨B + 1, 3, none⟩) rfl _)
                clear y0 y1 y2 y3 z0 z1 z2 z3 t0 t1 t2 t3 r1 r2
                generalize (World.setCell (World.setCell (World.setCell (World.setCell (World.setCell (World.setCell w3 ⟨B + 1, 0, none⟩ (.int .i64 4)) ⟨B + 1, 1, none⟩ (.int .i64 aa)) ⟨B + 1, 2, none⟩ (.int .u64 (s.f aa.toNat))) ⟨B + 1, 3, none⟩ (.int .u64 ((s.f aa.toNat + ax) % 18446744073709551616))) ⟨B + 1, 0, none⟩ (.int .i64 3)) ⟨B + 1, 3, none⟩ (.int .u64 (s.f aa.toNat))) = w4 at *
                have y1 := (hA3.out.fr hF4 u1).cell (i := 1) rfl
                have z3 := hL4.cell (i := 3) rfl
                have hR4 := hR3.out.fr hF4 (show ¬ B = B + 1 by omega)
                have r2 := (hR4.cell (i := aa.toNat) (by omega)).2.2
                have r1 := (hR4.cell (i := aa.toNat) (by omega)).2.1
                have hM4 := hM3.out.fr hF4 (show ¬ m = B + 1 by omega) (show ¬ b = B + 1 by omega)
                replace hL4 := Lib.hid hL4; replace hR4 := Lib.hid hR4; replace hM4 := Lib.hid hM4; replace hF4 := Lib.hid hF4
                go_upto_region 36 with (fail)
                have hL5 := hL4.out.other ⟨B, aa.toNat, none⟩ (show B + 1 ≠ B by omega) (.int .u64 (s.f aa.toNat))
                have hR5 := Lib.hid (hR4.out.set aa.toNat (by omega) (s.f aa.toNat))
                have hF5 := Fr.set (fun k => k = B) w4 (p := ⟨B, aa.toNat, none⟩) rfl (.int .u64 (s.f aa.toNat))
                have hM5 := hM4.out.fr hF5 (show ¬ m = B by omega) (show ¬ b = B by omega)
                clear y1 z3 r1 r2
                generalize World.setCell w4 ⟨B, aa.toNat, none⟩ (.int .u64 (s.f aa.toNat)) = w5 at *
                have hX := last4 hL5
                replace hL5 := Lib.hid hL5; replace hM5 := Lib.hid hM5; replace hF5 := Lib.hid hF5
                go_region_held3 (fun w' => w'.cell? ⟨B + 1, 0, none⟩ = some (.int .i64 3) ∧ w'.cell? ⟨B + 1, 1, none⟩ = some (.int .i64 aa) ∧ w'.cell? ⟨B + 1, 2, none⟩ = some (.int .u64 (s.f aa.toNat)) ∧ w'.cell? ⟨B + 1, 3, none⟩ = some (.int .u64 (s.f aa.toNat))) (assumption) (first
                  | (go_at_call 19; refine (touches_c _ m b _ hM5.out.drew).mono ?_; rintro e w' ⟨rfl, rfl⟩; rw [show (s.touch 3 aa (s.f aa.toNat)).t = s.t + 1 from rfl])
                  | (go_at_call 20; refine (last_c _ m b _ hM5.out.drew).mono ?_; rintro e w6 ⟨rfl, hb6'⟩; rw [show (s.touch 3 aa (s.f aa.toNat)).k = 3 from rfl, show (s.touch 3 aa (s.f aa.toNat)).a = aa from rfl, show (s.touch 3 aa (s.f aa.toNat)).was = (s.f aa.toNat) from rfl, show (s.touch 3 aa (s.f aa.toNat)).now = (s.f aa.toNat) from rfl]; have hb6 : Below w5.heap.size w5 w6 := below_undrew hb6'; clear hb6'; have hM6 := Lib.hid (hM5.out.next hb6); have hL6 := hL5.out.below hb6 hL5.out.lt; have hY := last4 hL6; have hR6 := Lib.hid (hR5.out.below hb6 (Nat.le_refl _)); replace hL6 := Lib.hid hL6; replace hb6 := Lib.hid hb6))
                all_goals
                  go_wp2
                  go_roundw
                  case rel =>
                    have e := hrun.trans eS
                    have hB3 := below_two (hBj.out.alloc hle _) hF3.out gm gb (Nat.le_refl _)
                    have hB5 := (hB3.trans (hF4.out.below (fun k hk => ⟨Nat.lt_of_lt_of_le hk hB3.size, fun c => by omega⟩)))
                    have hB6 := (hB5.trans (hF5.out.below (fun k hk => ⟨Nat.lt_of_lt_of_le hk hB5.size, fun c => by omega⟩)))
                    exact ⟨j + 1, by omega, by rw [e]; rfl, by go_num, by rw [e]; exact hM6.out, by rw [e]; exact hR6.out, by rw [e]; exact hL6.out, hB6.trans (hb6.out.mono hB6.size)⟩
                  case measure => simp [intOf]; omega
            · obtain ⟨eA, eB, eS⟩ := do_in3 (s := s) (a := aa) (k := ak) ax ay hin k0 k1 k2
              have d0 : (ak == 0) = false := beq_eq_false_iff_ne.2 k0
              have d1 : (ak == 1) = false := beq_eq_false_iff_ne.2 k1
              have d2 : (ak == 2) = false := beq_eq_false_iff_ne.2 k2
              clear hin
              go_upto_region 35 with (go_at_call 18; refine (does_c _ m b s _ _ _ _ (hMj.out.alloc _) hok.out hxj.out.1 hxj.out.2).mono ?_; rintro e w3 ⟨rfl, hM3, hF3⟩; rw [eA, eB]; rw [eS] at hM3; have hA3 := (Blk.new wr 35 #[.int .i64 ak, .int .i64 aa, .int .u64 ax, .int .u64 ay]).fr hF3 nA; have y0 := hA3.cell (i := 0) rfl; have y1 := hA3.cell (i := 1) rfl; have y2 := hA3.cell (i := 2) rfl; have y3 := hA3.cell (i := 3) rfl; have hL3 := (hLj.out.alloc _).fr hF3 nL; have z0 := hL3.cell (i := 0) rfl; have z1 := hL3.cell (i := 1) rfl; have z2 := hL3.cell (i := 2) rfl; have z3 := hL3.cell (i := 3) rfl; have t0 := hL3.frozen 0; have t1 := hL3.frozen 1; have t2 := hL3.frozen 2; have t3 := hL3.frozen 3; have hR3 := (hRj.out.alloc _).fr hF3 nB; have r1 := (hR3.cell (i := aa.toNat) (by omega)).2.1; have r2 := (hR3.cell (i := aa.toNat) (by omega)).2.2; replace hR3 := Lib.hid hR3; replace hA3 := Lib.hid hA3; replace hL3 := Lib.hid hL3; replace hM3 := Lib.hid hM3; replace hF3 := Lib.hid hF3)
              have hL4 : Blk (World.setCell (World.setCell (World.setCell (World.setCell w3 ⟨B + 1, 0, none⟩ (.int .i64 4)) ⟨B + 1, 1, none⟩ (.int .i64 aa)) ⟨B + 1, 2, none⟩ (.int .u64 (s.f aa.toNat))) ⟨B + 1, 3, none⟩ (.int .u64 ((s.f aa.toNat + ax) % 18446744073709551616))) (B + 1) 33 #[.int .i64 4, .int .i64 aa, .int .u64 (s.f aa.toNat), .int .u64 ((s.f aa.toNat + ax) % 18446744073709551616)] := ((((hL3.out.set 0 _).set 1 _).set 2 _).set 3 _)
              have hF4 : Fr (fun k => k = B + 1) w3 (World.setCell (World.setCell (World.setCell (World.setCell w3 ⟨B + 1, 0, none⟩ (.int .i64 4)) ⟨B + 1, 1, none⟩ (.int .i64 aa)) ⟨B + 1, 2, none⟩ (.int .u64 (s.f aa.toNat))) ⟨B + 1, 3, none⟩ (.int .u64 ((s.f aa.toNat + ax) % 18446744073709551616))) := ((((Fr.refl (fun k => k = B + 1) w3).trans (Fr.set (fun k => k = B + 1) _ (p := ⟨B + 1, 0, none⟩) rfl _)).trans (Fr.set (fun k => k = B + 1) _ (p := ⟨B + 1, 1, none⟩) rfl _)).trans (Fr.set (fun k => k = B + 1) _ (p := ⟨B + 1, 2, none⟩) rfl _)).trans (Fr.set (fun k => k = B + 1) _ (p := ⟨B + 1, 3, none⟩) rfl _)
              clear y0 y1 y2 y3 z0 z1 z2 z3 t0 t1 t2 t3 r1 r2
              generalize (World.setCell (World.setCell (World.setCell (World.setCell w3 ⟨B + 1, 0, none⟩ (.int .i64 4)) ⟨B + 1, 1, none⟩ (.int .i64 aa)) ⟨B + 1, 2, none⟩ (.int .u64 (s.f aa.toNat))) ⟨B + 1, 3, none⟩ (.int .u64 ((s.f aa.toNat + ax) % 18446744073709551616))) = w4 at *
              have y1 := (hA3.out.fr hF4 u1).cell (i := 1) rfl
              have z3 := hL4.cell (i := 3) rfl
              have hR4 := hR3.out.fr hF4 (show ¬ B = B + 1 by omega)
              have r2 := (hR4.cell (i := aa.toNat) (by omega)).2.2
              have r1 := (hR4.cell (i := aa.toNat) (by omega)).2.1
              have hM4 := hM3.out.fr hF4 (show ¬ m = B + 1 by omega) (show ¬ b = B + 1 by omega)
              replace hL4 := Lib.hid hL4; replace hR4 := Lib.hid hR4; replace hM4 := Lib.hid hM4; replace hF4 := Lib.hid hF4
              go_upto_region 36 with (fail)
              have hL5 := hL4.out.other ⟨B, aa.toNat, none⟩ (show B + 1 ≠ B by omega) (.int .u64 ((s.f aa.toNat + ax) % 18446744073709551616))
              have hR5 := Lib.hid (hR4.out.set aa.toNat (by omega) ((s.f aa.toNat + ax) % 18446744073709551616))
              have hF5 := Fr.set (fun k => k = B) w4 (p := ⟨B, aa.toNat, none⟩) rfl (.int .u64 ((s.f aa.toNat + ax) % 18446744073709551616))
              have hM5 := hM4.out.fr hF5 (show ¬ m = B by omega) (show ¬ b = B by omega)
              clear y1 z3 r1 r2
              generalize World.setCell w4 ⟨B, aa.toNat, none⟩ (.int .u64 ((s.f aa.toNat + ax) % 18446744073709551616)) = w5 at *
              have hX := last4 hL5
              replace hL5 := Lib.hid hL5; replace hM5 := Lib.hid hM5; replace hF5 := Lib.hid hF5
              go_region_held3 (fun w' => w'.cell? ⟨B + 1, 0, none⟩ = some (.int .i64 4) ∧ w'.cell? ⟨B + 1, 1, none⟩ = some (.int .i64 aa) ∧ w'.cell? ⟨B + 1, 2, none⟩ = some (.int .u64 (s.f aa.toNat)) ∧ w'.cell? ⟨B + 1, 3, none⟩ = some (.int .u64 ((s.f aa.toNat + ax) % 18446744073709551616))) (assumption) (first
                | (go_at_call 19; refine (touches_c _ m b _ hM5.out.drew).mono ?_; rintro e w' ⟨rfl, rfl⟩; rw [show (s.touch 4 aa ((s.f aa.toNat + ax) % 18446744073709551616)).t = s.t + 1 from rfl])
                | (go_at_call 20; refine (last_c _ m b _ hM5.out.drew).mono ?_; rintro e w6 ⟨rfl, hb6'⟩; rw [show (s.touch 4 aa ((s.f aa.toNat + ax) % 18446744073709551616)).k = 4 from rfl, show (s.touch 4 aa ((s.f aa.toNat + ax) % 18446744073709551616)).a = aa from rfl, show (s.touch 4 aa ((s.f aa.toNat + ax) % 18446744073709551616)).was = (s.f aa.toNat) from rfl, show (s.touch 4 aa ((s.f aa.toNat + ax) % 18446744073709551616)).now = ((s.f aa.toNat + ax) % 18446744073709551616) from rfl]; have hb6 : Below w5.heap.size w5 w6 := below_undrew hb6'; clear hb6'; have hM6 := Lib.hid (hM5.out.next hb6); have hL6 := hL5.out.below hb6 hL5.out.lt; have hY := last4 hL6; have hR6 := Lib.hid (hR5.out.below hb6 (Nat.le_refl _)); replace hL6 := Lib.hid hL6; replace hb6 := Lib.hid hb6))
              all_goals
                go_wp2
                go_roundw
                case rel =>
                  have e := hrun.trans eS
                  have hB3 := below_two (hBj.out.alloc hle _) hF3.out gm gb (Nat.le_refl _)
                  have hB5 := (hB3.trans (hF4.out.below (fun k hk => ⟨Nat.lt_of_lt_of_le hk hB3.size, fun c => by omega⟩)))
                  have hB6 := (hB5.trans (hF5.out.below (fun k hk => ⟨Nat.lt_of_lt_of_le hk hB5.size, fun c => by omega⟩)))
                  exact ⟨j + 1, by omega, by rw [e]; rfl, by go_num, by rw [e]; exact hM6.out, by rw [e]; exact hR6.out, by rw [e]; exact hL6.out, hB6.trans (hb6.out.mono hB6.size)⟩
                case measure => simp [intOf]; omega
    · have : j = n := by omega
      subst this
      generalize run (Ms.new K) q j = s at *
      replace hBj := Lib.hid hBj
      replace hMj := Lib.hid hMj
      replace hRj := Lib.hid hRj
      replace hLj := Lib.hid hLj
      have hFn' := hFn.out
      go_wp2_with (first
        | (go_at_call 22; refine (words_n _ m b K s hMj.out hFn.out (by omega)).mono ?_; rintro e w3 ⟨A1, c1, b1, rfl, g1, r1, hb2⟩; have hM2 := Lib.hid (hMj.out.next hb2); have r2 := Lib.hid (hRj.out.below hb2 (Nat.le_refl _)); replace r1 := Lib.hid r1; replace hb2 := Lib.hid hb2)
        | (go_at_call 21; refine (same_c _ _ _ _ _ _ _ K s.f s.f r1.out r2.out (fun _ _ => rfl) (by omega)).mono ?_; rintro e w' ⟨rfl, ⟨nd, rfl⟩⟩)
        | (go_at_call 23; refine (size_c _ m b s (hM2.out.drewN _)).mono ?_; rintro e w' ⟨rfl, rfl⟩; rw [hFn.out])
        | (go_at_call 13; refine (awake_c _).mono ?_; rintro e w5 ⟨rfl, hb5⟩; replace hb5 := Lib.hid hb5))
      go_ret
      have hW3 := hBj.out.trans (hb2.out.mono hBj.out.size)
      exact ⟨rfl, (below_drewN' hW3).trans (hb5.out.mono hW3.size)⟩
set_option maxRecDepth 100000 in
theorem plays_many (N : Int) (A : Option Addr) (n c : Nat) (w : World) (hc : n ≤ c) (hz : n ≤ 1152921504606846976) (c4 : (300 : Int) < n) : Calls Try.prog 4 #[.int .i64 N, .slice A n c] w fun e w' => e = .returned (.bool true) ∧ Below w.heap.size w w' := by
  go_enter Try.func4, Try.ntmps4
  go_wp2_with (go_at_call 13; refine (awake_c _).mono ?_; rintro e w' ⟨rfl, hb⟩; replace hb := Lib.hid hb)
  go_ret
  exact ⟨rfl, hb.out⟩
set_option maxRecDepth 100000 in
theorem plays_mid (N : Int) (A : Option Addr) (n c : Nat) (w : World) (hc : n ≤ c) (c4 : (n : Int) ≤ 300) (N0 : 200 < N) (N1 : N ≤ 65536) : Calls Try.prog 4 #[.int .i64 N, .slice A n c] w fun e w' => e = .returned (.bool true) ∧ Below w.heap.size w w' := by
  go_enter Try.func4, Try.ntmps4
  go_wp2_with (go_at_call 13; refine (awake_c _).mono ?_; rintro e w' ⟨rfl, hb⟩; replace hb := Lib.hid hb)
  go_ret
  exact ⟨rfl, hb.out⟩
set_option maxRecDepth 100000 in
theorem plays_neg (N : Int) (A : Option Addr) (n c : Nat) (w : World) (hc : n ≤ c) (c4 : (n : Int) ≤ 300) (N0 : N < 0) : Calls Try.prog 4 #[.int .i64 N, .slice A n c] w fun e w' => e = .returned (.bool true) ∧ Below w.heap.size w w' := by
  have hN := Lib.hid N0
  go_enter Try.func4, Try.ntmps4
  go_wp2_with (first
    | (go_at_call 13; refine (awake_c w0).mono ?_; rintro e w1 ⟨rfl, hb1⟩; replace hb1 := Lib.hid hb1)
    | (go_at_call 13; refine (awake_c w).mono ?_; rintro e w0 ⟨rfl, hb0⟩; replace hb0 := Lib.hid hb0)
    | (go_at_call 14; refine (new_no _ _ (Or.inl hN.out)).mono ?_; rintro e w' ⟨rfl, rfl⟩))
  go_ret
  exact ⟨rfl, hb0.out.trans (hb1.out.mono hb0.out.size)⟩
set_option maxRecDepth 100000 in
theorem plays_big (N : Int) (A : Option Addr) (n c : Nat) (w : World) (hc : n ≤ c) (c4 : (n : Int) ≤ 300) (N0 : 65536 < N) : Calls Try.prog 4 #[.int .i64 N, .slice A n c] w fun e w' => e = .returned (.bool true) ∧ Below w.heap.size w w' := by
  have hN := Lib.hid N0
  go_enter Try.func4, Try.ntmps4
  go_wp2_with (first
    | (go_at_call 13; refine (awake_c w0).mono ?_; rintro e w1 ⟨rfl, hb1⟩; replace hb1 := Lib.hid hb1)
    | (go_at_call 13; refine (awake_c w).mono ?_; rintro e w0 ⟨rfl, hb0⟩; replace hb0 := Lib.hid hb0)
    | (go_at_call 14; refine (new_no _ _ (Or.inr hN.out)).mono ?_; rintro e w' ⟨rfl, rfl⟩))
  go_ret
  exact ⟨rfl, hb0.out.trans (hb1.out.mono hb0.out.size)⟩
theorem plays_c (N : Int) (A : Option Addr) (n c : Nat) (q : Nat → A4) (w : World) (h : Acts w A n q) (hc : n ≤ c) : Calls Try.prog 4 #[.int .i64 N, .slice A n c] w fun e w' => e = .returned (.bool true) ∧ Below w.heap.size w w' := by
  by_cases c3 : n ≤ 300
  · by_cases c5 : 0 ≤ N
    · by_cases c6 : N ≤ 200
      · obtain ⟨k, rfl⟩ := Int.eq_ofNat_of_zero_le c5
        exact plays_in k (by omega) A n c q w h hc c3
      · by_cases c7 : N ≤ 65536
        · exact plays_mid N A n c w hc (by omega) (by omega) c7
        · exact plays_big N A n c w hc (by omega) (by omega)
    · exact plays_neg N A n c w hc (by omega) (by omega)
  · exact plays_many N A n c w hc h.big (by omega)
end Go.Proofs.Ytljfpkdbooineaa.MemP
