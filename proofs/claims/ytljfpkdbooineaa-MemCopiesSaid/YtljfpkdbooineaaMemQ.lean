/-
  The law MemCopies's walk: a copy goes on as the memory would, and neither touches the other one; condition: the acts' rows as they are read.
-/
import Derived.Test.YtljfpkdbooineaaMemS
set_option linter.unusedVariables false
namespace Go.Proofs.Ytljfpkdbooineaa.MemQ
open Go.RowKit Go.Proofs.YtljfpkdbooineaaW.PrintWords Go.Proofs.Ytljfpkdbooineaa.Blk Go.Proofs.Ytljfpkdbooineaa.Core Go.Proofs.Ytljfpkdbooineaa.MemC Go.Proofs.Ytljfpkdbooineaa.MemD Go.Proofs.Ytljfpkdbooineaa.MemE Go.Proofs.Ytljfpkdbooineaa.Opens Go.Proofs.Ytljfpkdbooineaa.MemN Go.Proofs.Ytljfpkdbooineaa.MemS
/-- Memories that share no block. -/
def Dj (m b k d : Nat) : Prop := ¬ two m b k ∧ ¬ two m b d ∧ ¬ two k d m ∧ ¬ two k d b
theorem Dj.of {m b k d n : Nat} (hm : m < n) (hb : b < n) (hk : n ≤ k) (hd : n ≤ d) : Dj m b k d :=
  ⟨fun c => c.elim (fun e => by omega) (fun e => by omega), fun c => c.elim (fun e => by omega) (fun e => by omega), fun c => c.elim (fun e => by omega) (fun e => by omega), fun c => c.elim (fun e => by omega) (fun e => by omega)⟩
theorem no_c (K : Int) (A1 : Option Addr) (n1 c1 : Nat) (A2 : Option Addr) (n2 c2 : Nat) (A3 : Option Addr) (n3 c3 : Nat) (w : World) (h1 : n1 ≤ c1) (h2 : n2 ≤ c2) (h3 : n3 ≤ c3) (z1 : n1 ≤ 1152921504606846976) (z2 : n2 ≤ 1152921504606846976) (z3 : n3 ≤ 1152921504606846976)
    (h : 300 < n1 ∨ 300 < n2 ∨ 300 < n3) : Calls Try.prog 5 #[.int .u8 K, .slice A1 n1 c1, .slice A2 n2 c2, .slice A3 n3 c3] w fun e w' => e = .returned (.bool true) ∧ Below w.heap.size w w' := by
  by_cases g1 : (300 : Int) < n1
  · clear h
    go_enter Try.func5, Try.ntmps5
    go_wp2_with (go_at_call 13; refine (awake_c _).mono ?_; rintro e w' ⟨rfl, hb⟩; replace hb := Lib.hid hb)
    go_ret
    exact ⟨rfl, hb.out⟩
  · by_cases g2 : (300 : Int) < n2
    · clear h
      go_enter Try.func5, Try.ntmps5
      go_wp2_with (go_at_call 13; refine (awake_c _).mono ?_; rintro e w' ⟨rfl, hb⟩; replace hb := Lib.hid hb)
      go_ret
      exact ⟨rfl, hb.out⟩
    · have g3 : (300 : Int) < n3 := by omega
      clear h
      go_enter Try.func5, Try.ntmps5
      go_wp2_with (go_at_call 13; refine (awake_c _).mono ?_; rintro e w' ⟨rfl, hb⟩; replace hb := Lib.hid hb)
      go_ret
      exact ⟨rfl, hb.out⟩
theorem _root_.Go.Proofs.Ytljfpkdbooineaa.MemN.Acts.far {w : World} {A n q} (h : Acts w A n q) {i : Nat} (hi : i < n) : ∃ b off, b < w.heap.size ∧ A = some ⟨b, off, none⟩ ∧ w.cell? ⟨b, off + i * 4, none⟩ = some (.int .i64 (q i).k) ∧ w.cell? ⟨b, off + i * 4 + 1, none⟩ = some (.int .i64 (q i).a) ∧ w.cell? ⟨b, off + i * 4 + 2, none⟩ = some (.int .u64 (q i).x) ∧ w.cell? ⟨b, off + i * 4 + 3, none⟩ = some (.int .u64 (q i).y) := by
  obtain ⟨b, off, e, hl, hc⟩ := h.sl (by omega)
  exact ⟨b, off, hl, e, hc i hi 0 (by decide), hc i hi 1 (by decide), hc i hi 2 (by decide), hc i hi 3 (by decide)⟩
theorem far_at {w w' : World} {b o : Nat} {v0 v1 v2 v3 : Value} (h : Below w.heap.size w w') (hb : b < w.heap.size) (h0 : w.cell? ⟨b, o, none⟩ = some v0) (h1 : w.cell? ⟨b, o + 1, none⟩ = some v1) (h2 : w.cell? ⟨b, o + 2, none⟩ = some v2) (h3 : w.cell? ⟨b, o + 3, none⟩ = some v3) :
    w'.cell? ⟨b, o, none⟩ = some v0 ∧ w'.cell? ⟨b, o + 1, none⟩ = some v1 ∧ w'.cell? ⟨b, o + 2, none⟩ = some v2 ∧ w'.cell? ⟨b, o + 3, none⟩ = some v3 :=
  ⟨(h.cell (p := ⟨b, o, none⟩) hb).trans h0, (h.cell (p := ⟨b, o + 1, none⟩) hb).trans h1, (h.cell (p := ⟨b, o + 2, none⟩) hb).trans h2, (h.cell (p := ⟨b, o + 3, none⟩) hb).trans h3⟩
set_option maxHeartbeats 4000000 in
theorem yes_c (K : Nat) (hK : K ≤ 255) (A1 : Option Addr) (n1 c1 : Nat) (q1 : Nat → A4) (A2 : Option Addr) (n2 c2 : Nat) (q2 : Nat → A4) (A3 : Option Addr) (n3 c3 : Nat) (q3 : Nat → A4) (w : World)
    (hA1 : Acts w A1 n1 q1) (h1 : n1 ≤ c1) (hA2 : Acts w A2 n2 q2) (h2 : n2 ≤ c2) (hA3 : Acts w A3 n3 q3) (h3 : n3 ≤ c3) (g1 : n1 ≤ 300) (g2 : n2 ≤ 300) (g3 : n3 ≤ 300) :
    Calls Try.prog 5 #[.int .u8 (K : Int), .slice A1 n1 c1, .slice A2 n2 c2, .slice A3 n3 c3] w fun e w' => e = .returned (.bool true) ∧ Below w.heap.size w w' := by
  have x1 := Lib.hid hA1.x
  have y1 := Lib.hid hA1.y
  have x2 := Lib.hid hA2.x
  have y2 := Lib.hid hA2.y
  have x3 := Lib.hid hA3.x
  have y3 := Lib.hid hA3.y
  replace hA1 := Lib.hid hA1
  replace hA2 := Lib.hid hA2
  replace hA3 := Lib.hid hA3
  go_enter Try.func5, Try.ntmps5
  go_wp2_with (first
    | (go_at_call 13; refine (awake_c _).mono ?_; rintro e w0 ⟨rfl, hb0⟩; replace hb0 := Lib.hid hb0)
    | (go_at_call 14; refine (new_c w1 K (by omega) (by omega)).mono ?_; rintro e w2 ⟨k, d, rfl, hk0, hk, hd, hb2⟩; replace hk0 := Lib.hid (show MemB w2 k d (Ms.new K) from hk0); replace hb2 := Lib.hid hb2)
    | (go_at_call 14; refine (new_c w0 K (by omega) (by omega)).mono ?_; rintro e w1 ⟨m, b, rfl, hm0, hm, hb, hb1⟩; replace hm0 := Lib.hid (show MemB w1 m b (Ms.new K) from hm0); replace hb1 := Lib.hid hb1))
  have s0 := hb0.out.size
  have s1 := hb1.out.size
  have s2 := hb2.out.size
  have gm : w.heap.size ≤ m := by omega
  have gb : w.heap.size ≤ b := by omega
  have gk : w.heap.size ≤ k := by omega
  have gd : w.heap.size ≤ d := by omega
  have dj := Lib.hid (Dj.of hm0.out.lm hm0.out.lb hk hd)
  have hm2 := Lib.hid (hm0.out.next hb2.out)
  have hW2 := Lib.hid ((hb0.out.trans (hb1.out.mono s0)).trans (hb2.out.mono (by omega)))
  clear s0 s1 s2
  go_loopw [11] (fun z wr => ∃ j : Nat, j ≤ n1 ∧ z = .int .i64 (j : Int) ∧ MemB wr m b (run (Ms.new K) q1 j) ∧ MemB wr k d (run (Ms.new K) q1 j) ∧ Below w.heap.size w wr) (fun z _ => n1 - (intOf z).toNat)
  case atStart => exact ⟨0, Nat.zero_le _, rfl, hm2.out, hk0.out, hW2.out⟩
  case round =>
    obtain ⟨j, hj, rfl, hMj, hKj, hBj⟩ := hrel
    have hF := Lib.hid ((Fine.new K).run x1.out y1.out j hj)
    have hok := Lib.hid (hF.out.ok (by omega) (by omega))
    by_cases hlt : j < n1
    · obtain ⟨b', off, hbl, rfl, c0, c1', c2', c3'⟩ := hA1.out.far hlt
      obtain ⟨e0, e1, e2, e3⟩ := far_at hBj hbl c0 c1' c2' c3'
      have hxj := Lib.hid (x1.out j hlt)
      have p0 := Lib.hid c0
      have p1 := Lib.hid c1'
      have p2 := Lib.hid c2'
      have p3 := Lib.hid c3'
      clear c0 c1' c2' c3'
      replace hBj := Lib.hid hBj
      replace hMj := Lib.hid hMj
      replace hKj := Lib.hid hKj
      go_wp2_with (first
        | (go_at_call 18; refine (does_c w3 k d _ _ _ _ _ hK3.out hok.out hxj.out.1 hxj.out.2).mono ?_; rintro e w4 ⟨rfl, hK4, hF4⟩; have hM4 := Lib.hid (hM3.out.fr hF4 dj.out.2.2.1 dj.out.2.2.2); have hB4 := Lib.hid (below_two hB3.out hF4 gk gd (Nat.le_refl _)); replace hK4 := Lib.hid hK4; replace hF4 := Lib.hid hF4)
        | (go_at_call 18; refine (does_c _ m b _ _ _ _ _ hMj.out hok.out hxj.out.1 hxj.out.2).mono ?_; rintro e w3 ⟨rfl, hM3, hF3⟩; have hK3 := Lib.hid (hKj.out.fr hF3 dj.out.1 dj.out.2.1); have hB3 := below_two hBj.out hF3 gm gb (Nat.le_refl _); obtain ⟨f0, f1, f2, f3⟩ := far_at hB3 hbl p0.out p1.out p2.out p3.out; replace hB3 := Lib.hid hB3; replace hM3 := Lib.hid hM3; replace hF3 := Lib.hid hF3))
      go_roundw
      case rel => exact ⟨j + 1, by omega, by go_num, hM4.out, hK4.out, hB4.out⟩
      case measure => simp [intOf]; omega
    · have : j = n1 := by omega
      subst this
      replace hBj := Lib.hid hBj
      replace hMj := Lib.hid hMj
      replace hKj := Lib.hid hKj
      generalize run (Ms.new K) q1 j = s at *
      have hFn := Lib.hid hF.out.n
      go_wp2_with (first
        | (go_at_call 24; refine (copy_c _ m b s hMj.out (by rw [hFn.out]; omega)).mono ?_; rintro e w3 ⟨a, a', rfl, hC3, ha, ha', hb3⟩; have hM3 := Lib.hid (hMj.out.next hb3); have hK3 := Lib.hid (hKj.out.next hb3); replace hC3 := Lib.hid hC3; replace hb3 := Lib.hid hb3)
        | (go_at_call 22; refine (words_n w4 m b K s hM4.out hFn.out (by omega)).mono ?_; rintro e w5 ⟨B2, d2, t2, rfl, v2, r2, hb5⟩; have hM5 := Lib.hid (hM4.out.next hb5); have hK5 := Lib.hid (hK4.out.next hb5); have hC5 := Lib.hid (hC4.out.next hb5); have r15 := Lib.hid (r1.out.below hb5 (Nat.le_refl _)); replace r2 := Lib.hid r2; replace hb5 := Lib.hid hb5)
        | (go_at_call 22; refine (words_n w3 a a' K s hC3.out hFn.out (by omega)).mono ?_; rintro e w4 ⟨B1, d1, t1, rfl, v1, r1, hb4⟩; have hM4 := Lib.hid (hM3.out.next hb4); have hK4 := Lib.hid (hK3.out.next hb4); have hC4 := Lib.hid (hC3.out.next hb4); replace r1 := Lib.hid r1; replace hb4 := Lib.hid hb4)
        | (go_at_call 21; refine (same_c _ _ _ _ _ _ _ K s.f s.f r15.out r2.out (fun _ _ => rfl) (by omega)).mono ?_; rintro e w' ⟨rfl, ⟨nd, rfl⟩⟩; have hMd := Lib.hid (hM5.out.drewN nd); have hKd := Lib.hid (hK5.out.drewN nd); have hCd := Lib.hid (hC5.out.drewN nd))
        | (go_at_call 19; with_reducible (show Calls Try.prog 19 #[.pointer (some ⟨a, 0, none⟩)] _ _); refine (touches_c _ a a' s hCd.out).mono ?_; rintro e w' ⟨rfl, rfl⟩)
        | (go_at_call 19; with_reducible (show Calls Try.prog 19 #[.pointer (some ⟨m, 0, none⟩)] _ _); refine (touches_c _ m b s hMd.out).mono ?_; rintro e w' ⟨rfl, rfl⟩)
        | (go_at_call 20; with_reducible (show Calls Try.prog 20 #[.pointer (some ⟨a, 0, none⟩)] _ _); refine (last_c _ a a' s hCd.out).mono ?_; rintro e w6 ⟨rfl, hb6⟩; have hM6 := Lib.hid (hMd.out.next hb6); have hK6 := Lib.hid (hKd.out.next hb6); have hC6 := Lib.hid (hCd.out.next hb6); replace hb6 := Lib.hid hb6)
        | (go_at_call 20; with_reducible (show Calls Try.prog 20 #[.pointer (some ⟨m, 0, none⟩)] _ _); refine (last_c _ m b s hM6.out).mono ?_; rintro e w7 ⟨rfl, hb7⟩; have hM7 := Lib.hid (hM6.out.next hb7); have hK7 := Lib.hid (hK6.out.next hb7); have hC7 := Lib.hid (hC6.out.next hb7); replace hb7 := Lib.hid hb7))
      have o3 := hb3.out.size
      have o4 := hb4.out.size
      have o5 := hb5.out.size
      have o6 := hb6.out.size
      have o7 := hb7.out.size
      have o0 := hBj.out.size
      have ga : w.heap.size ≤ a := by omega
      have ga' : w.heap.size ≤ a' := by omega
      have dm := Lib.hid (Dj.of hMj.out.lm hMj.out.lb ha ha')
      have dk := Lib.hid (Dj.of hKj.out.lm hKj.out.lb ha ha')
      have hW3 := hBj.out.trans (hb3.out.mono o0)
      have hW4 := hW3.trans (hb4.out.mono hW3.size)
      have hW5 := hW4.trans (hb5.out.mono hW4.size)
      have hW6 := (below_drewN' (k := nd) hW5).trans (hb6.out.mono hW5.size)
      have hW7 := Lib.hid (hW6.trans (hb7.out.mono hW6.size))
      clear o0 o3 o4 o5 o6 o7 hW3 hW4 hW5 hW6
      go_loopw [13] (fun z wr => ∃ i : Nat, i ≤ n3 ∧ z = .int .i64 (i : Int) ∧ MemB wr m b s ∧ MemB wr k d s ∧ MemB wr a a' (run s q3 i) ∧ Below w.heap.size w wr) (fun z _ => n3 - (intOf z).toNat)
      case atStart => exact ⟨0, Nat.zero_le _, rfl, hM7.out, hK7.out, hC7.out, hW7.out⟩
      case round =>
        obtain ⟨i, hi, rfl, hMi, hKi, hCi, hBi⟩ := hrel
        by_cases hl3 : i < n3
        · have hok3 := Lib.hid ((hF.out.run x3.out y3.out i (by omega)).ok (by omega) (by omega))
          obtain ⟨b', off, hbl, rfl, c0, c1', c2', c3'⟩ := hA3.out.far hl3
          obtain ⟨e0, e1, e2, e3⟩ := far_at hBi hbl c0 c1' c2' c3'
          have hxi := Lib.hid (x3.out i hl3)
          clear c0 c1' c2' c3'
          replace hBi := Lib.hid hBi
          replace hMi := Lib.hid hMi
          replace hKi := Lib.hid hKi
          replace hCi := Lib.hid hCi
          go_wp2_with (go_at_call 18; refine (does_c _ a a' _ _ _ _ _ hCi.out hok3.out hxi.out.1 hxi.out.2).mono ?_; rintro e w8 ⟨rfl, hC8, hF8⟩; have hM8 := Lib.hid (hMi.out.fr hF8 dm.out.2.2.1 dm.out.2.2.2); have hK8 := Lib.hid (hKi.out.fr hF8 dk.out.2.2.1 dk.out.2.2.2); have hB8 := Lib.hid (below_two hBi.out hF8 ga ga' (Nat.le_refl _)); replace hC8 := Lib.hid hC8; replace hF8 := Lib.hid hF8)
          go_roundw
          case rel => exact ⟨i + 1, by omega, by go_num, hM8.out, hK8.out, hC8.out, hB8.out⟩
          case measure => simp [intOf]; omega
        · have : i = n3 := by omega
          subst this
          replace hBi := Lib.hid hBi
          replace hMi := Lib.hid hMi
          replace hKi := Lib.hid hKi
          clear hCi
          go_wp2
          go_loopw [14] (fun z wr => ∃ i : Nat, i ≤ n2 ∧ z = .int .i64 (i : Int) ∧ MemB wr m b (run s q2 i) ∧ MemB wr k d (run s q2 i) ∧ Below w.heap.size w wr) (fun z _ => n2 - (intOf z).toNat)
          case atStart => exact ⟨0, Nat.zero_le _, rfl, hMi.out, hKi.out, hBi.out⟩
          case round =>
            obtain ⟨h, hh, rfl, hMh, hKh, hBh⟩ := hrel
            have hFh := Lib.hid (hF.out.run x2.out y2.out h hh)
            have hok2 := Lib.hid (hFh.out.ok (by omega) (by omega))
            by_cases hl2 : h < n2
            · obtain ⟨b', off, hbl, rfl, c0, c1', c2', c3'⟩ := hA2.out.far hl2
              obtain ⟨e0, e1, e2, e3⟩ := far_at hBh hbl c0 c1' c2' c3'
              have hxh := Lib.hid (x2.out h hl2)
              have p0 := Lib.hid c0
              have p1 := Lib.hid c1'
              have p2 := Lib.hid c2'
              have p3 := Lib.hid c3'
              clear c0 c1' c2' c3'
              replace hBh := Lib.hid hBh
              replace hMh := Lib.hid hMh
              replace hKh := Lib.hid hKh
              go_wp2_with (first
                | (go_at_call 18; refine (does_c w9 k d _ _ _ _ _ hK9.out hok2.out hxh.out.1 hxh.out.2).mono ?_; rintro e w10 ⟨rfl, hK10, hF10⟩; have hM10 := Lib.hid (hM9.out.fr hF10 dj.out.2.2.1 dj.out.2.2.2); have hB10 := Lib.hid (below_two hB9.out hF10 gk gd (Nat.le_refl _)); replace hK10 := Lib.hid hK10; replace hF10 := Lib.hid hF10)
                | (go_at_call 18; refine (does_c _ m b _ _ _ _ _ hMh.out hok2.out hxh.out.1 hxh.out.2).mono ?_; rintro e w9 ⟨rfl, hM9, hF9⟩; have hK9 := Lib.hid (hKh.out.fr hF9 dj.out.1 dj.out.2.1); have hB9 := below_two hBh.out hF9 gm gb (Nat.le_refl _); obtain ⟨f0, f1, f2, f3⟩ := far_at hB9 hbl p0.out p1.out p2.out p3.out; replace hB9 := Lib.hid hB9; replace hM9 := Lib.hid hM9; replace hF9 := Lib.hid hF9))
              go_roundw
              case rel => exact ⟨h + 1, by omega, by go_num, hM10.out, hK10.out, hB10.out⟩
              case measure => simp [intOf]; omega
            · have : h = n2 := by omega
              subst this
              replace hBh := Lib.hid hBh
              replace hMh := Lib.hid hMh
              replace hKh := Lib.hid hKh
              have hFn2 := Lib.hid hFh.out.n
              generalize run s q2 h = r at *
              go_wp2_with (first
                | (go_at_call 22; refine (words_n w11 k d K r hK11.out hFn2.out (by omega)).mono ?_; rintro e w12 ⟨B4, d4, t4, rfl, v4, r4, hb12⟩; have hM12 := Lib.hid (hM11.out.next hb12); have hK12 := Lib.hid (hK11.out.next hb12); have r34 := Lib.hid (r3.out.below hb12 (Nat.le_refl _)); replace r4 := Lib.hid r4; replace hb12 := Lib.hid hb12)
                | (go_at_call 22; refine (words_n _ m b K r hMh.out hFn2.out (by omega)).mono ?_; rintro e w11 ⟨B3, d3, t3, rfl, v3, r3, hb11⟩; have hM11 := Lib.hid (hMh.out.next hb11); have hK11 := Lib.hid (hKh.out.next hb11); replace r3 := Lib.hid r3; replace hb11 := Lib.hid hb11)
                | (go_at_call 21; refine (same_c _ _ _ _ _ _ _ K r.f r.f r34.out r4.out (fun _ _ => rfl) (by omega)).mono ?_; rintro e w' ⟨rfl, ⟨nd', rfl⟩⟩; have hM13 := Lib.hid (hM12.out.drewN nd'); have hK13 := Lib.hid (hK12.out.drewN nd'))
                | (go_at_call 19; with_reducible (show Calls Try.prog 19 #[.pointer (some ⟨k, 0, none⟩)] _ _); refine (touches_c _ k d r hK13.out).mono ?_; rintro e w' ⟨rfl, rfl⟩)
                | (go_at_call 19; with_reducible (show Calls Try.prog 19 #[.pointer (some ⟨m, 0, none⟩)] _ _); refine (touches_c _ m b r hM13.out).mono ?_; rintro e w' ⟨rfl, rfl⟩)
                | (go_at_call 13; refine (awake_c _).mono ?_; rintro e w14 ⟨rfl, hb14⟩; replace hb14 := Lib.hid hb14))
              go_ret
              have hW11 := hBh.out.trans (hb11.out.mono hBh.out.size)
              have hW12 := hW11.trans (hb12.out.mono hW11.size)
              exact ⟨rfl, (below_drewN' (k := nd') hW12).trans (hb14.out.mono hW12.size)⟩
theorem copies_c (K : Int) (K0 : 0 ≤ K) (K1 : K < 256) (A1 : Option Addr) (n1 c1 : Nat) (q1 : Nat → A4) (A2 : Option Addr) (n2 c2 : Nat) (q2 : Nat → A4) (A3 : Option Addr) (n3 c3 : Nat) (q3 : Nat → A4) (w : World)
    (hA1 : Acts w A1 n1 q1) (h1 : n1 ≤ c1) (hA2 : Acts w A2 n2 q2) (h2 : n2 ≤ c2) (hA3 : Acts w A3 n3 q3) (h3 : n3 ≤ c3) :
    Calls Try.prog 5 #[.int .u8 K, .slice A1 n1 c1, .slice A2 n2 c2, .slice A3 n3 c3] w fun e w' => e = .returned (.bool true) ∧ Below w.heap.size w w' := by
  by_cases h : 300 < n1 ∨ 300 < n2 ∨ 300 < n3
  · exact no_c K A1 n1 c1 A2 n2 c2 A3 n3 c3 w h1 h2 h3 hA1.big hA2.big hA3.big h
  · obtain ⟨k, rfl⟩ := Int.eq_ofNat_of_zero_le K0
    exact yes_c k (by omega) A1 n1 c1 q1 A2 n2 c2 q2 A3 n3 c3 q3 w hA1 h1 hA2 h2 hA3 h3 (by omega) (by omega) (by omega)
end Go.Proofs.Ytljfpkdbooineaa.MemQ
