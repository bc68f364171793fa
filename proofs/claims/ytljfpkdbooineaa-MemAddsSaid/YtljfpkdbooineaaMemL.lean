/-
  The law MemAdds's walk: additions come to their sum, in whichever order; condition: the numbers' row as it is read.
-/
import Derived.Test.YtljfpkdbooineaaMemE
import Derived.Test.YtljfpkdbooineaaOpen
set_option linter.unusedVariables false
namespace Go.Proofs.Ytljfpkdbooineaa.MemL
open Go.RowKit Go.Proofs.YtljfpkdbooineaaW.PrintWords Go.Proofs.Ytljfpkdbooineaa.Blk Go.Proofs.Ytljfpkdbooineaa.Core Go.Proofs.Ytljfpkdbooineaa.MemC Go.Proofs.Ytljfpkdbooineaa.MemD Go.Proofs.Ytljfpkdbooineaa.MemE Go.Proofs.Ytljfpkdbooineaa.Opens
/-- The sum of the first j. -/
def sm (f : Nat → Int) : Nat → Int
  | 0 => 0
  | j + 1 => sm f j + f j
theorem sm_shift (f : Nat → Int) : ∀ j, sm f (j + 1) = f 0 + sm (fun i => f (i + 1)) j := by
  intro j
  induction j with
  | zero => simp [sm]
  | succ j ih => rw [sm, ih, sm]; omega
theorem sm_rev (f : Nat → Int) : ∀ n, sm (fun i => f (n - 1 - i)) n = sm f n := by
  intro n
  induction n with
  | zero => rfl
  | succ n ih =>
    rw [sm_shift, sm]
    have : sm (fun i => f (n + 1 - 1 - (i + 1))) n = sm (fun i => f (n - 1 - i)) n := congrArg (fun g => sm g n) (funext fun i => by rw [show n + 1 - 1 - (i + 1) = n - 1 - i from by omega])
    rw [this, ih]
    simp
    omega
theorem mod_add (a b : Int) : (a % 18446744073709551616 + b) % 18446744073709551616 = (a + b) % 18446744073709551616 := by omega
structure Sum1 (s : Ms) (t : Nat) (x : Int) : Prop where
  u : U s.f
  n : s.n = 1
  t : s.t = t
  x : s.f 0 = x % 18446744073709551616
theorem Sum1.ok {s : Ms} {t : Nat} {x : Int} (h : Sum1 s t x) (ht : t ≤ 1000) : Ok s := Ok.of h.u (by rw [h.t]; omega) (by rw [h.t]; omega) (by rw [h.n]; decide)
theorem Sum1.inn {s : Ms} {t : Nat} {x : Int} (h : Sum1 s t x) : s.inn 0 = true := inn_iff.2 ⟨Int.le_refl 0, by rw [h.n]; decide⟩
theorem Sum1.add {s : Ms} {t : Nat} {x : Int} (h : Sum1 s t x) (y : Int) : Sum1 (s.adS 0 y) (t + 1) (x + y) := by
  have e : s.adS 0 y = s.touch 4 0 ((s.f 0 + y) % 18446744073709551616) := if_pos h.inn
  rw [e, h.x, mod_add]
  exact ⟨U.upd h.u 0 (by omega) (by omega), h.n, by show s.t + 1 = _; rw [h.t]; omega, by show upd s.f 0 _ 0 = _; exact upd_at _ _ _⟩
theorem Sum1.ld {s : Ms} {t : Nat} {x : Int} (h : Sum1 s t x) : Sum1 (s.ldS 0) (t + 1) x ∧ s.ldV 0 = x % 18446744073709551616 := by
  have e : s.ldS 0 = s.touch 1 0 (s.f 0) := if_pos h.inn
  have e' : s.ldV 0 = s.f 0 := if_pos h.inn
  rw [e, e', h.x]
  exact ⟨⟨U.upd h.u 0 (by omega) (by omega), h.n, by show s.t + 1 = _; rw [h.t]; omega, by show upd s.f 0 _ 0 = _; exact upd_at _ _ _⟩, rfl⟩
theorem Sum1.sw {s : Ms} {t : Nat} {x : Int} (h : Sum1 s t x) (y : Int) : Sum1 (s.swS 0 (x % 18446744073709551616) (y % 18446744073709551616)) (t + 1) y ∧ s.swV 0 (x % 18446744073709551616) = true := by
  have e : s.swS 0 (x % 18446744073709551616) (y % 18446744073709551616) = s.touch 3 0 (y % 18446744073709551616) := by
    show (if s.inn 0 = true then s.touch 3 0 (if s.f 0 = x % 18446744073709551616 then y % 18446744073709551616 else s.f 0) else s) = _
    rw [if_pos h.inn, if_pos h.x]
  have e' : s.swV 0 (x % 18446744073709551616) = true := by
    show (s.inn 0 && decide (s.f 0 = x % 18446744073709551616)) = true
    rw [h.inn, decide_eq_true h.x]; rfl
  rw [e]
  exact ⟨⟨U.upd h.u 0 (by omega) (by omega), h.n, by show s.t + 1 = _; rw [h.t]; omega, by show upd s.f 0 _ 0 = _; exact upd_at _ _ _⟩, e'⟩
theorem adds_c (A : Option Addr) (n c : Nat) (f : Nat → Int) (w : World) (hS : Sl w A n 1 (fun i _ => .int .u64 (f i))) (hf : ∀ i, i < n → 0 ≤ f i ∧ f i < 18446744073709551616) (hz : n ≤ 1152921504606846976) (hc : n ≤ c) :
    Calls Try.prog 3 #[.slice A n c] w fun e w' => e = .returned (.bool true) ∧ Below w.heap.size w w' := by
  replace hS := Lib.hid hS
  replace hf := Lib.hid hf
  by_cases c3 : n ≤ 300
  · go_enter Try.func3, Try.ntmps3
    go_wp2_with (first
      | (go_at_call 13; refine (awake_c _).mono ?_; rintro e w0 ⟨rfl, hb0⟩; replace hb0 := Lib.hid hb0)
      | (go_at_call 14; refine (new_c w1 1 (by decide) (by decide)).mono ?_; rintro e w2 ⟨k, d, rfl, hK, hk, hd, hb2⟩; replace hK := Lib.hid hK; replace hb2 := Lib.hid hb2)
      | (go_at_call 14; refine (new_c w0 1 (by decide) (by decide)).mono ?_; rintro e w1 ⟨m, b, rfl, hM, hm, hb, hb1⟩; replace hM := Lib.hid hM; replace hb1 := Lib.hid hb1))
    have hWM := hb0.out.trans (hb1.out.mono hb0.out.size)
    have hW0 := hWM.trans (hb2.out.mono (Nat.le_trans hb0.out.size hb1.out.size))
    have q0 := hb0.out.size
    have q1 := hb1.out.size
    have q2 := hM.out.lm
    have q3 := hM.out.lb
    have d1 : ¬ two m b k := fun c => c.elim (fun e => by omega) (fun e => by omega)
    have d2 : ¬ two m b d := fun c => c.elim (fun e => by omega) (fun e => by omega)
    have d3 : ¬ two k d m := fun c => c.elim (fun e => by omega) (fun e => by omega)
    have d4 : ¬ two k d b := fun c => c.elim (fun e => by omega) (fun e => by omega)
    have hM2 := hM.out.below hb2.out q2 q3
    have gm : w.heap.size ≤ m := by omega
    have gb : w.heap.size ≤ b := by omega
    have gk : w.heap.size ≤ k := by omega
    have gd : w.heap.size ≤ d := by omega
    clear q0 q1 q2 q3
    replace hM2 := Lib.hid hM2
    replace hW0 := Lib.hid hW0
    clear hWM
    go_loopw [5, 6] (fun u z wr => ∃ (j : Nat) (ms ks : Ms), j ≤ n ∧ u = .int .u64 (sm f j % 18446744073709551616) ∧ z = .int .i64 (j : Int) ∧ MemB wr m b ms ∧ MemB wr k d ks ∧ Sum1 ms j (sm (fun i => f (n - 1 - i)) j) ∧ Sum1 ks (2 * j) (sm f j) ∧ Below w.heap.size w wr) (fun _ z _ => n - (intOf z).toNat)
    case atStart => exact ⟨0, Ms.new 1, Ms.new 1, Nat.zero_le _, rfl, rfl, hM2.out, hK.out, ⟨fun _ => ⟨Int.le_refl 0, by show (0 : Int) < _; decide⟩, rfl, rfl, rfl⟩, ⟨fun _ => ⟨Int.le_refl 0, by show (0 : Int) < _; decide⟩, rfl, rfl, rfl⟩, hW0.out⟩
    case round =>
      obtain ⟨j, ms, ks, hj, rfl, rfl, hMj, hKj, sM, sK, hBj⟩ := hrel
      have okM := sM.ok (by omega)
      have okK := sK.ok (by omega)
      by_cases hlt : j < n
      · obtain ⟨bl, off, rfl, hbl, x0⟩ := hS.out.num hlt
        obtain ⟨bl', off', e, _, x1⟩ := hS.out.num (i := n - 1 - j) (by omega)
        cases e
        have y0 := (hBj.cell (p := ⟨bl, off + j, none⟩) hbl).trans x0
        have y1 := (hBj.cell (p := ⟨bl, off + (n - 1 - j), none⟩) hbl).trans x1
        have ej : ((n : Int) - 1 - (j : Int)) = ((n - 1 - j : Nat) : Int) := by omega
        replace x0 := Lib.hid x0
        replace x1 := Lib.hid x1
        replace hMj := Lib.hid hMj
        replace hKj := Lib.hid hKj
        replace sM := Lib.hid sM
        replace sK := Lib.hid sK
        replace hBj := Lib.hid hBj
        replace okM := Lib.hid okM
        replace okK := Lib.hid okK
        have ew : IntKind.u64.wrap (sm f j % 18446744073709551616 + f j) = sm f (j + 1) % 18446744073709551616 := by rw [wrap_u64, sm, mod_add]
        have sM' := Lib.hid (sM.out.add (f (n - 1 - j)))
        have sK3 := Lib.hid sK.out.ld.1
        have okK3 := Lib.hid (sK3.out.ok (by omega))
        have vK := Lib.hid sK.out.ld.2
        have sK4 := Lib.hid (sK3.out.sw (sm f (j + 1))).1
        have vK4 := Lib.hid (sK3.out.sw (sm f (j + 1))).2
        go_wp2_with (first
          | (go_at_call 15; refine (add_c _ m b ms _ hMj.out okM.out _ (hf.out _ (by omega)).1 (hf.out _ (by omega)).2).mono ?_; rintro e w3 ⟨rfl, hM3, hF3⟩; have hK3 := Lib.hid (hKj.out.fr hF3 d1 d2); have hB3 := below_two hBj.out hF3 gm gb (Nat.le_refl _); have z0 := (hB3.cell (p := ⟨bl, off + j, none⟩) hbl).trans x0.out; replace hB3 := Lib.hid hB3; replace hM3 := Lib.hid hM3; replace hF3 := Lib.hid hF3)
          | (go_at_call 17; refine (load_c _ k d ks _ hK3.out okK.out).mono ?_; rintro e w4 ⟨rfl, hK4, hF4⟩; have hM4 := Lib.hid (hM3.out.fr hF4 d3 d4); have hB4 := Lib.hid (below_two hB3.out hF4 gk gd (Nat.le_refl _)); replace hK4 := Lib.hid hK4; replace hF4 := Lib.hid hF4; rw [vK.out])
          | (go_at_call 16; refine (swap_c _ k d (ks.ldS 0) _ hK4.out okK3.out _ _).mono ?_; rintro e w5 ⟨rfl, hK5, hF5⟩; have hM5 := Lib.hid (hM4.out.fr hF5 d3 d4); have hB5 := Lib.hid (below_two hB4.out hF5 gk gd (Nat.le_refl _)); replace hK5 := Lib.hid hK5; replace hF5 := Lib.hid hF5; rw [vK4.out]))
        go_roundw
        case rel => exact ⟨j + 1, _, _, by omega, rfl, by go_num, hM5.out, hK5.out, sM'.out, sK4.out, hB5.out⟩
        case measure => simp [intOf]; omega
      · have : j = n := by omega
        subst this
        rw [sm_rev] at sM
        have sMe := sM.ld.2
        have sKe := sK.ld.2
        replace hMj := Lib.hid hMj
        replace hKj := Lib.hid hKj
        replace sM := Lib.hid sM
        replace sK := Lib.hid sK
        replace hBj := Lib.hid hBj
        replace okM := Lib.hid okM
        replace okK := Lib.hid okK
        replace sMe := Lib.hid sMe
        replace sKe := Lib.hid sKe
        go_wp2_with (first
          | (go_at_call 17; refine (load_c _ k d ks _ hK3.out okK.out).mono ?_; rintro e w4 ⟨rfl, hK4, hF4⟩; have hB4 := Lib.hid (below_two hB3.out hF4 gk gd (Nat.le_refl _)); replace hK4 := Lib.hid hK4; replace hF4 := Lib.hid hF4; rw [sKe.out])
          | (go_at_call 17; refine (load_c _ m b ms _ hMj.out okM.out).mono ?_; rintro e w3 ⟨rfl, hM3, hF3⟩; have hK3 := Lib.hid (hKj.out.fr hF3 d1 d2); have hB3 := Lib.hid (below_two hBj.out hF3 gm gb (Nat.le_refl _)); replace hM3 := Lib.hid hM3; replace hF3 := Lib.hid hF3; rw [sMe.out])
          | (go_at_call 13; refine (awake_c _).mono ?_; rintro e w5 ⟨rfl, hb5⟩; replace hb5 := Lib.hid hb5))
        go_ret
        exact ⟨rfl, hB4.out.trans (hb5.out.mono hB4.out.size)⟩
  · have c4 : (300 : Int) < n := by omega
    go_enter Try.func3, Try.ntmps3
    go_wp2_with (go_at_call 13; refine (awake_c _).mono ?_; rintro e w' ⟨rfl, hb⟩; replace hb := Lib.hid hb)
    go_ret
    exact ⟨rfl, hb.out⟩
end Go.Proofs.Ytljfpkdbooineaa.MemL
