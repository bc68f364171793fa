/-
  The law PlanMemories' walk: a memory in which nothing was done has the document's words; condition: the config as it is read.
-/
import Derived.Test.YtijfkpoofpcacaaRefM
import Derived.Test.YtijfkpoofpcacaaAw6
import Derived.Deep.RegionHeld3
set_option linter.unusedVariables false
namespace Go.Proofs.Ytijfkpoofpcacaa.PlanM
open Go.RowKit Go.Proofs.Ytijfkpoofpcacaa.PArenaPlays Go.Proofs.YtijfkpoofpcacaaW.PrintWords Go.Proofs.Ytijfkpoofpcacaa.Blk Go.Proofs.Ytijfkpoofpcacaa.Core Go.Proofs.Ytijfkpoofpcacaa.MemC Go.Proofs.Ytijfkpoofpcacaa.MemD Go.Proofs.Ytijfkpoofpcacaa.MemT Go.Proofs.Ytijfkpoofpcacaa.Memory Go.Proofs.Ytijfkpoofpcacaa.PlanC Go.Proofs.Ytijfkpoofpcacaa.RefM Go.Proofs.Ytijfkpoofpcacaa.Aw6
theorem same_yes (w : World) (A B : Option Addr) (c d a b n : Nat) (f : Nat → Int) (h1 : RowB w A c a n f) (h2 : RowB w B d b n f) (hn : n ≤ 65536) : Calls Try.prog 23 #[.slice A n c, .slice B n d] w fun e w' => e = .returned (.bool true) ∧ Below w.heap.size w w' := by
  have e1 : decide ((n : Int) = n) = true := decide_eq_true rfl
  go_enter Try.func23, Try.ntmps23
  go_wp2
  go_loopw [5] (fun z wr => ∃ i : Nat, i ≤ n ∧ z = .int .i64 (i : Int) ∧ Below w.heap.size w wr) (fun z _ => n - (intOf z).toNat)
  case atStart => exact ⟨0, Nat.zero_le _, rfl, Below.refl _ _⟩
  case round =>
    obtain ⟨i, hi, rfl, hB⟩ := hrel
    by_cases hlt : i < n
    · obtain ⟨rfl, x0, _⟩ := (h1.below hB (Nat.le_refl _)).cell hlt
      obtain ⟨rfl, x1, _⟩ := (h2.below hB (Nat.le_refl _)).cell hlt
      have g1 := h1.cap
      have g2 := h2.cap
      replace hB := Lib.hid hB
      go_wp2
      go_quiet (fail)
      go_wp2
      go_roundw
      case rel => exact ⟨i + 1, by omega, by go_num, pw_below_drewN hB.out _⟩
      case measure => simp [intOf]; omega
    · replace hB := Lib.hid hB
      go_wp2
      go_ret
      exact ⟨rfl, hB.out⟩
theorem law_no (S A C H G K : Int) (w : World) (h : rightB S A C H G K = false) : Calls Try.prog 3 #[.agg #[.int .i64 S, .int .i64 A, .int .i64 C, .int .i64 H, .int .i64 G, .int .i64 K]] w fun e w' => e = .returned (.bool true) ∧ Below w.heap.size w w' := by
  have hf := Lib.hid (Blk.new w 23 #[.int .i64 S, .int .i64 A, .int .i64 C, .int .i64 H, .int .i64 G, .int .i64 K])
  replace h := Lib.hid h
  go_enter Try.func3, Try.ntmps3
  go_wp2_with (first
    | (go_at_call 20; refine (memory_no _ _ _ _ _ _ _ h.out).mono ?_; rintro e w1 ⟨rfl, hb1⟩; have hf1 := hf.out.below hb1 hf.out.lt; obtain ⟨k0, k1, k2, k3, k4, k5⟩ := cfgs hf1; replace hf1 := Lib.hid hf1; replace hb1 := Lib.hid hb1)
    | (go_at_call 21; refine (rRight_c _ _ _ _ _ _ _).mono ?_; rintro e w2 ⟨rfl, hb2⟩; rw [h.out]; replace hb2 := Lib.hid hb2)
    | (go_at_call 22; refine (awake_c _).mono ?_; rintro e w3 ⟨rfl, hb3⟩; replace hb3 := Lib.hid hb3))
  go_ret
  exact ⟨rfl, bT (bT (below_pre hb1.out) hb2.out) hb3.out⟩
set_option maxHeartbeats 4000000 in
set_option maxRecDepth 100000 in
theorem law_yes (S A C H G K : Int) (w : World) (h : rightB S A C H G K = true) : Calls Try.prog 3 #[.agg #[.int .i64 S, .int .i64 A, .int .i64 C, .int .i64 H, .int .i64 G, .int .i64 K]] w fun e w' => e = .returned (.bool true) ∧ Below w.heap.size w w' := by
  have hr := right_iff.1 h
  have hsz := size_bd h
  obtain ⟨s, rfl⟩ := Int.eq_ofNat_of_zero_le (show 0 ≤ S by omega)
  obtain ⟨c, rfl⟩ := Int.eq_ofNat_of_zero_le (show 0 ≤ C by omega)
  obtain ⟨hh, rfl⟩ := Int.eq_ofNat_of_zero_le (show 0 ≤ H by omega)
  obtain ⟨n, hn⟩ := Int.eq_ofNat_of_zero_le (show 0 ≤ sizeV s A c hh by omega)
  have hmem := fun w => memory_c s A c hh G K w h
  have href := fun w => refMemory_c s c hh A G K w h
  rw [hn] at hmem hsz
  simp only [hn] at href
  rw [Int.toNat_natCast] at hmem
  generalize memF A c hh ((s : Int) - 1).toNat = f at *
  have hn8 : n ≤ 800 := by omega
  clear hr hsz
  have hf := Lib.hid (Blk.new w 23 #[.int .i64 (s : Int), .int .i64 A, .int .i64 (c : Int), .int .i64 (hh : Int), .int .i64 G, .int .i64 K])
  replace h := Lib.hid h
  replace hn := Lib.hid hn
  replace hmem := Lib.hid hmem
  replace href := Lib.hid href
  go_enter Try.func3, Try.ntmps3
  generalize hCFe : w.heap.size = CF at *
  go_wp2_with (first
    | (go_at_call 20; refine (hmem.out _).mono ?_; rintro e w1 ⟨m, b, rfl, hM1, hm, hb, hb1⟩; have hf1 := hf.out.below hb1 hf.out.lt; obtain ⟨k0, k1, k2, k3, k4, k5⟩ := cfgs hf1; replace hf1 := Lib.hid hf1; replace hb1 := Lib.hid hb1; replace hM1 := Lib.hid hM1)
    | (go_at_call 21; refine (rRight_c _ _ _ _ _ _ _).mono ?_; rintro e w2 ⟨rfl, hb2⟩; rw [h.out]; have hX := cfgs (hf1.out.below hb2 hf1.out.lt); have hM2 := Lib.hid (hM1.out.next hb2); replace hb2 := Lib.hid hb2))
  have hf2 := Lib.hid ((hf1.out.below hb2.out hf1.out.lt).drew)
  have hM := Lib.hid hM2.out.drew
  have hT := Lib.hid (bT (below_pre hb1.out) hb2.out).drew
  have hX' : w2.drew.cell? ⟨CF, 0, none⟩ = some (.int .i64 (s : Int)) ∧ w2.drew.cell? ⟨CF, 1, none⟩ = some (.int .i64 A) ∧ w2.drew.cell? ⟨CF, 2, none⟩ = some (.int .i64 (c : Int)) ∧ w2.drew.cell? ⟨CF, 3, none⟩ = some (.int .i64 (hh : Int)) ∧ w2.drew.cell? ⟨CF, 4, none⟩ = some (.int .i64 G) ∧ w2.drew.cell? ⟨CF, 5, none⟩ = some (.int .i64 K) := hX
  clear hf1 hM1 hM2 hb1 hb2 k0 k1 k2 k3 k4 k5 hX hf
  go_region_held3 (fun w' => w'.cell? ⟨CF, 0, none⟩ = some (.int .i64 (s : Int)) ∧ w'.cell? ⟨CF, 1, none⟩ = some (.int .i64 A) ∧ w'.cell? ⟨CF, 2, none⟩ = some (.int .i64 (c : Int)) ∧ w'.cell? ⟨CF, 3, none⟩ = some (.int .i64 (hh : Int)) ∧ w'.cell? ⟨CF, 4, none⟩ = some (.int .i64 G) ∧ w'.cell? ⟨CF, 5, none⟩ = some (.int .i64 K)) (assumption) (first
    | (go_at_call 24; refine (words_n _ m b n _ hM.out rfl (by omega)).mono ?_; rintro e w3 ⟨A1, c1, b1, rfl, hb1, hR1, hb⟩; replace hf2 := Lib.hid (hf2.out.below hb hf2.out.lt); have hY := cfgs hf2.out; replace hM := Lib.hid (hM.out.next hb); replace hT := Lib.hid (bT hT.out hb); (try replace hQ := Lib.hid (hQ.out.below hb (Nat.le_refl _))); have hR := Lib.hid hR1; clear hR1 hb)
    | (go_at_call 25; refine (href.out _).mono ?_; rintro e w4 ⟨A2, c2, b2, n2, rfl, hn2, hb2, hQ1, hb⟩; obtain rfl : n = n2 := (by omega); replace hf2 := Lib.hid (hf2.out.below hb hf2.out.lt); have hY := cfgs hf2.out; replace hM := Lib.hid (hM.out.next hb); replace hT := Lib.hid (bT hT.out hb); (try replace hR := Lib.hid (hR.out.below hb (Nat.le_refl _))); have hQ := Lib.hid hQ1; clear hQ1 hb)
    | (go_at_call 23; refine (same_yes _ _ _ _ _ _ _ n _ hR.out hQ.out (by omega)).mono ?_; rintro e w5 ⟨rfl, hb⟩; replace hf2 := Lib.hid (hf2.out.below hb hf2.out.lt); have hY := cfgs hf2.out; replace hM := Lib.hid (hM.out.next hb); replace hT := Lib.hid (bT hT.out hb); clear hb)
    | (go_at_call 26; refine (touches_c _ m b _ hM.out).mono ?_; rintro e w6 ⟨rfl, rfl⟩)
    | (go_at_call 22; refine (awake_c _).mono ?_; rintro e w7 ⟨rfl, hb⟩; replace hf2 := Lib.hid (hf2.out.below hb hf2.out.lt); have hY := cfgs hf2.out; replace hT := Lib.hid (bT hT.out hb); clear hb))
  all_goals
    go_wp2
    go_ret
    exact ⟨rfl, hCFe ▸ hT.out⟩
theorem law_c (S A C H G K : Int) (w : World) : Calls Try.prog 3 #[.agg #[.int .i64 S, .int .i64 A, .int .i64 C, .int .i64 H, .int .i64 G, .int .i64 K]] w fun e w' => e = .returned (.bool true) ∧ Below w.heap.size w w' := by
  cases h : rightB S A C H G K with
  | true => exact law_yes S A C H G K w h
  | false => exact law_no S A C H G K w h
end Go.Proofs.Ytijfkpoofpcacaa.PlanM
