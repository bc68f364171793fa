/-
  The law MemOwn's walk: what is written into words that were told shows nowhere; condition: the acts' row as it is read.
-/
import Derived.Test.YtljfpkdbooineaaMemS
set_option linter.unusedVariables false
namespace Go.Proofs.Ytljfpkdbooineaa.MemO
open Go.RowKit Go.Proofs.YtljfpkdbooineaaW.PrintWords Go.Proofs.Ytljfpkdbooineaa.Blk Go.Proofs.Ytljfpkdbooineaa.Core Go.Proofs.Ytljfpkdbooineaa.MemC Go.Proofs.Ytljfpkdbooineaa.MemD Go.Proofs.Ytljfpkdbooineaa.MemE Go.Proofs.Ytljfpkdbooineaa.Opens Go.Proofs.Ytljfpkdbooineaa.MemN Go.Proofs.Ytljfpkdbooineaa.MemS
theorem own_c (A : Option Addr) (n c : Nat) (q : Nat → A4) (w : World) (h : Acts w A n q) (hc : n ≤ c) : Calls Try.prog 7 #[.slice A n c] w fun e w' => e = .returned (.bool true) ∧ Below w.heap.size w w' := by
  have hB := Lib.hid h.big
  have hx := Lib.hid h.x
  have hy := Lib.hid h.y
  replace h := Lib.hid h
  by_cases c3 : n ≤ 300
  · go_enter Try.func7, Try.ntmps7
    go_wp2_with (first
      | (go_at_call 13; refine (awake_c _).mono ?_; rintro e w0 ⟨rfl, hb0⟩; replace hb0 := Lib.hid hb0)
      | (go_at_call 14; refine (new_c w0 20 (by decide) (by decide)).mono ?_; rintro e w1 ⟨m, b, rfl, hM, hm, hb, hb1⟩; replace hM := Lib.hid hM; replace hb1 := Lib.hid hb1))
    have q0 := hb0.out.size
    have gm : w.heap.size ≤ m := by omega
    have gb : w.heap.size ≤ b := by omega
    have hW1 := Lib.hid (hb0.out.trans (hb1.out.mono q0))
    clear q0
    go_loopw [4] (fun z wr => ∃ j : Nat, j ≤ n ∧ z = .int .i64 (j : Int) ∧ MemB wr m b (run (Ms.new 20) q j) ∧ Below w.heap.size w wr) (fun z _ => n - (intOf z).toNat)
    case atStart => exact ⟨0, Nat.zero_le _, rfl, hM.out, hW1.out⟩
    case round =>
      obtain ⟨j, hj, rfl, hMj, hBj⟩ := hrel
      have hF := (Fine.new 20).run hx.out hy.out j hj
      have hok := hF.ok (by decide) (by omega)
      have hFn := hF.n
      replace hok := Lib.hid hok
      replace hFn := Lib.hid hFn
      clear hF
      by_cases hlt : j < n
      · obtain ⟨b', off, rfl, x0, x1, x2, x3⟩ := (h.out.below hBj (Nat.le_refl _)).at_ hlt
        replace hBj := Lib.hid hBj
        replace hMj := Lib.hid hMj
        have hxj := Lib.hid (hx.out j hlt)
        go_wp2_with (go_at_call 18; refine (does_c _ m b _ _ _ _ _ hMj.out hok.out hxj.out.1 hxj.out.2).mono ?_; rintro e w' ⟨rfl, hM', hF'⟩; replace hM' := Lib.hid hM'; replace hF' := Lib.hid hF')
        go_roundw
        case rel => exact ⟨j + 1, by omega, by go_num, hM'.out, below_two hBj.out hF'.out gm gb (Nat.le_refl _)⟩
        case measure => simp [intOf]; omega
      · have : j = n := by omega
        subst this
        replace hBj := Lib.hid hBj
        replace hMj := Lib.hid hMj
        generalize run (Ms.new 20) q j = s at *
        go_wp2_with (first
          | (go_at_call 22; refine (words_n w5 k d 20 (Ms.of 20 s.f) hK5.out rfl (by decide)).mono ?_; rintro e w6 ⟨A4', c4', b4, rfl, g6, r6, hb6⟩; have hM6 := Lib.hid (hM5.out.next hb6); have hK6 := Lib.hid (hK5.out.next hb6); have r26 := Lib.hid (r5.out.below hb6 (Nat.le_refl _)); have r16 := Lib.hid (r2'.out.below hb6 (Nat.le_refl _)); replace r6 := Lib.hid r6; replace hb6 := Lib.hid hb6)
          | (go_at_call 22; refine (words_n w4 m b 20 s hM4.out hFn.out (by decide)).mono ?_; rintro e w5 ⟨A3, c3', b3, rfl, g5, r5, hb5⟩; have hM5 := Lib.hid (hM4.out.next hb5); have hK5 := Lib.hid (hK4.out.next hb5); have r2' := Lib.hid (r2.out.below hb5 (Nat.le_refl _)); replace r5 := Lib.hid r5; replace hb5 := Lib.hid hb5)
          | (go_at_call 22; refine (words_n w3 m b 20 s hM3.out hFn.out (by decide)).mono ?_; rintro e w4 ⟨A2, c2, b2, rfl, g4, r2, hb4⟩; have hM4 := Lib.hid (hM3.out.next hb4); have hK4 := Lib.hid (hK.out.next hb4); replace r2 := Lib.hid r2; replace hb4 := Lib.hid hb4)
          | (go_at_call 22; refine (words_n _ m b 20 s hMj.out hFn.out (by decide)).mono ?_; rintro e w2 ⟨A1, c1, b1, rfl, g1, r1, hb2⟩; have hM2 := Lib.hid (hMj.out.next hb2); replace r1 := Lib.hid r1; replace hb2 := Lib.hid hb2)
          | (go_at_call 21; refine (same_c _ _ _ _ _ _ _ 20 s.f s.f r6.out r26.out (fun _ _ => rfl) (by decide)).mono ?_; rintro e w' ⟨rfl, ⟨nd, rfl⟩⟩)
          | (go_at_call 19; refine (touches_c _ k d (Ms.of 20 s.f) (hK6.out.drewN _)).mono ?_; rintro e w' ⟨rfl, rfl⟩; rw [show (Ms.of 20 s.f).t = 0 from rfl])
          | (go_at_call 25; refine (of_c _ A1 c1 b1 20 s.f r1.out (by decide)).mono ?_; rintro e w3 ⟨k, d, rfl, hK, hk, hd, hb3⟩; have hM3 := Lib.hid (hM2.out.next hb3); replace hK := Lib.hid hK; replace hb3 := Lib.hid hb3))
        have z1 := hBj.out.size
        have z2 := hb2.out.size
        have z3 := hb3.out.size
        have z4 := hb4.out.size
        have z5 := hb5.out.size
        have z6 := hb6.out.size
        have z7 := hM3.out.lm
        have z8 := hM3.out.lb
        have z9 := r2.out.lt (by decide)
        have hW6 := Lib.hid (((((hBj.out.trans (hb2.out.mono (by omega))).trans (hb3.out.mono (by omega))).trans (hb4.out.mono (by omega))).trans (hb5.out.mono (by omega))).trans (hb6.out.mono (by omega)))
        have e1 : ¬ m = b2 := by omega
        have e2 : ¬ b = b2 := by omega
        have e3 : ¬ b3 = b2 := by omega
        have e4 : w.heap.size ≤ b2 := by omega
        clear z1 z2 z3 z4 z5 z6 z7 z8 z9
        go_loopw [8] (fun z wr => ∃ i : Nat, i ≤ 20 ∧ z = .int .i64 (i : Int) ∧ (∃ g, RowB wr A2 c2 b2 20 g) ∧ Fr (fun k => k = b2) w6 wr) (fun z _ => 20 - (intOf z).toNat)
        case atStart => exact ⟨0, by decide, rfl, ⟨_, r16.out.fr (Fr.drewN (fun _ => False) _ _) id⟩, Fr.drewN _ _ _⟩
        case round =>
          obtain ⟨i, hi, rfl, ⟨g, hR⟩, hF⟩ := hrel
          by_cases hl2 : i < 20
          · obtain ⟨rfl, y0, y1⟩ := hR.cell hl2
            replace hR := Lib.hid hR
            replace hF := Lib.hid hF
            go_wp2
            go_roundw
            case rel => exact ⟨i + 1, by omega, by go_num, ⟨_, hR.out.set i hl2 _⟩, hF.out.trans (Fr.set (fun k => k = b2) _ (p := ⟨b2, i, none⟩) (show b2 = b2 from rfl) _)⟩
            case measure => simp [intOf]; omega
          · have : i = 20 := by omega
            subst this
            have hM7 := Lib.hid (hM6.out.fr hF e1 e2)
            have r7 := Lib.hid (r26.out.fr hF e3)
            have hW7 := Lib.hid (hW6.out.trans (hF.below (fun k hk => ⟨Nat.lt_of_lt_of_le hk hW6.out.size, fun c => by omega⟩)))
            replace hF := Lib.hid hF
            clear hR
            go_wp2_with (first
              | (go_at_call 22; refine (words_n _ m b 20 s hM7.out hFn.out (by decide)).mono ?_; rintro e w8 ⟨A5, c5, b5, rfl, g8, r8, hb8⟩; have r78 := Lib.hid (r7.out.below hb8 (Nat.le_refl _)); replace r8 := Lib.hid r8; replace hb8 := Lib.hid hb8)
              | (go_at_call 21; refine (same_c _ _ _ _ _ _ _ 20 s.f s.f r8.out r78.out (fun _ _ => rfl) (by decide)).mono ?_; rintro e w' ⟨rfl, ⟨nd', rfl⟩⟩)
              | (go_at_call 13; refine (awake_c _).mono ?_; rintro e w9 ⟨rfl, hb9⟩; replace hb9 := Lib.hid hb9))
            go_ret
            have hW8 := hW7.out.trans (hb8.out.mono hW7.out.size)
            exact ⟨rfl, (below_drewN' hW8).trans (hb9.out.mono hW8.size)⟩
  · have c4 : (300 : Int) < n := by omega
    have hb := hB.out
    go_enter Try.func7, Try.ntmps7
    go_wp2_with (go_at_call 13; refine (awake_c _).mono ?_; rintro e w' ⟨rfl, hb⟩; replace hb := Lib.hid hb)
    go_ret
    exact ⟨rfl, hb.out⟩
end Go.Proofs.Ytljfpkdbooineaa.MemO
