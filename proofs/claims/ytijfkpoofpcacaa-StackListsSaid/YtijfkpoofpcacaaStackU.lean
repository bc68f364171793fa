/-
  The laws StackNone and StackLists' walks; condition: the arguments as they are read.
-/
import Derived.Test.YtijfkpoofpcacaaStackQ
import Derived.Test.YtijfkpoofpcacaaRefM
set_option linter.unusedVariables false
namespace Go.Proofs.Ytijfkpoofpcacaa.StackU
open Go.RowKit Go.Proofs.Ytijfkpoofpcacaa.PArenaPlays Go.Proofs.Ytijfkpoofpcacaa.PuArenaPlays Go.Proofs.Ytijfkpoofpcacaa.RefM Go.Proofs.YtijfkpoofpcacaaW.PrintWords Go.Proofs.Ytijfkpoofpcacaa.Blk Go.Proofs.Ytijfkpoofpcacaa.Core Go.Proofs.Ytijfkpoofpcacaa.MemC Go.Proofs.Ytijfkpoofpcacaa.MemD Go.Proofs.Ytijfkpoofpcacaa.MemT Go.Proofs.Ytijfkpoofpcacaa.Memory Go.Proofs.Ytijfkpoofpcacaa.PlanC Go.Proofs.Ytijfkpoofpcacaa.PlanD Go.Proofs.Ytijfkpoofpcacaa.StackC Go.Proofs.Ytijfkpoofpcacaa.StackL Go.Proofs.Ytijfkpoofpcacaa.StackS Go.Proofs.Ytijfkpoofpcacaa.StackT Go.Proofs.Ytijfkpoofpcacaa.StackF Go.Proofs.Ytijfkpoofpcacaa.StackP Go.Proofs.Ytijfkpoofpcacaa.Opens
set_option maxHeartbeats 4000000 in
set_option maxRecDepth 100000 in
theorem none_yes (c : Cf) (s : Int) (w : World) (h : c.right = true) (s0 : 0 ≤ s) (s1 : s < c.S) : Calls Try.prog 11 #[.agg #[.int .i64 c.S, .int .i64 c.A, .int .i64 c.C, .int .i64 c.H, .int .i64 c.G, .int .i64 c.K], .int .i64 s] w fun e w' => e = .returned (.bool true) ∧ Below w.heap.size w w' := by
  have hf := (Blk.new w 23 #[.int .i64 c.S, .int .i64 c.A, .int .i64 c.C, .int .i64 c.H, .int .i64 c.G, .int .i64 c.K]).drew
  have hT := Lib.hid ((Below.refl w.heap.size w).alloc (Nat.le_refl _) (.cells #[.int .i64 c.S, .int .i64 c.A, .int .i64 c.C, .int .i64 c.H, .int .i64 c.G, .int .i64 c.K] 23)).drew
  have hX := cfgs hf
  replace hf := Lib.hid hf
  replace h := Lib.hid h
  go_enter Try.func11, Try.ntmps11
  generalize hCFe : w.heap.size = CF at *
  go_wp2
  generalize w.alloc (.cells #[.int .i64 c.S, .int .i64 c.A, .int .i64 c.C, .int .i64 c.H, .int .i64 c.G, .int .i64 c.K] 23) = wa at *
  have hX' : wa.drew.cell? ⟨CF, 0, none⟩ = some (.int .i64 c.S) ∧ wa.drew.cell? ⟨CF, 1, none⟩ = some (.int .i64 c.A) ∧ wa.drew.cell? ⟨CF, 2, none⟩ = some (.int .i64 c.C) ∧ wa.drew.cell? ⟨CF, 3, none⟩ = some (.int .i64 c.H) ∧ wa.drew.cell? ⟨CF, 4, none⟩ = some (.int .i64 c.G) ∧ wa.drew.cell? ⟨CF, 5, none⟩ = some (.int .i64 c.K) := hX
  clear hX
  go_region_held3 (fun w' => w'.cell? ⟨CF, 0, none⟩ = some (.int .i64 c.S) ∧ w'.cell? ⟨CF, 1, none⟩ = some (.int .i64 c.A) ∧ w'.cell? ⟨CF, 2, none⟩ = some (.int .i64 c.C) ∧ w'.cell? ⟨CF, 3, none⟩ = some (.int .i64 c.H) ∧ w'.cell? ⟨CF, 4, none⟩ = some (.int .i64 c.G) ∧ w'.cell? ⟨CF, 5, none⟩ = some (.int .i64 c.K)) (assumption) (first
    | (go_at_call 44; refine (newPopC c _ h.out).mono ?_; rintro e w1 ⟨pa, rfl, _, _, hb⟩; replace hf := Lib.hid (hf.out.below hb hf.out.lt); have hY := cfgs hf.out; replace hT := Lib.hid (hT.out.trans (hb.mono (by have := hT.out.size; omega))); clear hb)
    | (go_at_call 46; refine (newPushC c _ s h.out s0 s1).mono ?_; rintro e w2 ⟨pb, rfl, _, _, hb⟩; replace hf := Lib.hid (hf.out.below hb hf.out.lt); have hZ := cfgs hf.out; replace hT := Lib.hid (hT.out.trans (hb.mono (by have := hT.out.size; omega))); clear hb))
  all_goals
    obtain ⟨k0, k1, k2, k3, k4, k5⟩ := cfgs hf.out
    clear hX' hY hZ
    go_wp2_with (first
      | (go_at_call 21; refine (rRightC c _).mono ?_; rintro e w3 ⟨rfl, hb⟩; rw [h.out]; replace hf := Lib.hid (hf.out.below hb hf.out.lt); obtain ⟨l0, l1, l2, l3, l4, l5⟩ := cfgs hf.out; replace hT := Lib.hid (hT.out.trans (hb.mono (by have := hT.out.size; omega))); clear hb)
      | (go_at_call 45; refine (pop_nil _ _).mono ?_; rintro e w4 ⟨rfl, rfl⟩)
      | (go_at_call 47; refine (push_nil _ _).mono ?_; rintro e w5 ⟨rfl, rfl⟩)
      | (go_at_call 27; refine (awake7C _).mono ?_; rintro e w6 ⟨rfl, hb⟩; replace hT := Lib.hid (hT.out.trans (hb.mono (by have := hT.out.size; omega))); clear hb))
    go_ret
    exact ⟨rfl, hCFe ▸ hT.out⟩
set_option maxHeartbeats 4000000 in
set_option maxRecDepth 100000 in
theorem none_lo (c : Cf) (s : Int) (w : World) (h : c.right = true) (s0 : s < 0) : Calls Try.prog 11 #[.agg #[.int .i64 c.S, .int .i64 c.A, .int .i64 c.C, .int .i64 c.H, .int .i64 c.G, .int .i64 c.K], .int .i64 s] w fun e w' => e = .returned (.bool true) ∧ Below w.heap.size w w' := by
  have hf := (Blk.new w 23 #[.int .i64 c.S, .int .i64 c.A, .int .i64 c.C, .int .i64 c.H, .int .i64 c.G, .int .i64 c.K]).drew
  have hT := Lib.hid ((Below.refl w.heap.size w).alloc (Nat.le_refl _) (.cells #[.int .i64 c.S, .int .i64 c.A, .int .i64 c.C, .int .i64 c.H, .int .i64 c.G, .int .i64 c.K] 23)).drew
  have hX := cfgs hf
  replace hf := Lib.hid hf
  have hn : ¬ (c.right = true ∧ 0 ≤ s ∧ s < c.S) := fun x => by omega
  replace h := Lib.hid h
  replace hn := Lib.hid hn
  go_enter Try.func11, Try.ntmps11
  generalize hCFe : w.heap.size = CF at *
  go_wp2
  generalize w.alloc (.cells #[.int .i64 c.S, .int .i64 c.A, .int .i64 c.C, .int .i64 c.H, .int .i64 c.G, .int .i64 c.K] 23) = wa at *
  have hX' : wa.drew.cell? ⟨CF, 0, none⟩ = some (.int .i64 c.S) ∧ wa.drew.cell? ⟨CF, 1, none⟩ = some (.int .i64 c.A) ∧ wa.drew.cell? ⟨CF, 2, none⟩ = some (.int .i64 c.C) ∧ wa.drew.cell? ⟨CF, 3, none⟩ = some (.int .i64 c.H) ∧ wa.drew.cell? ⟨CF, 4, none⟩ = some (.int .i64 c.G) ∧ wa.drew.cell? ⟨CF, 5, none⟩ = some (.int .i64 c.K) := hX
  clear hX
  go_region_held3 (fun w' => w'.cell? ⟨CF, 0, none⟩ = some (.int .i64 c.S) ∧ w'.cell? ⟨CF, 1, none⟩ = some (.int .i64 c.A) ∧ w'.cell? ⟨CF, 2, none⟩ = some (.int .i64 c.C) ∧ w'.cell? ⟨CF, 3, none⟩ = some (.int .i64 c.H) ∧ w'.cell? ⟨CF, 4, none⟩ = some (.int .i64 c.G) ∧ w'.cell? ⟨CF, 5, none⟩ = some (.int .i64 c.K)) (assumption) (first
    | (go_at_call 44; refine (newPopC c _ h.out).mono ?_; rintro e w1 ⟨pa, rfl, _, _, hb⟩; replace hf := Lib.hid (hf.out.below hb hf.out.lt); have hY := cfgs hf.out; replace hT := Lib.hid (hT.out.trans (hb.mono (by have := hT.out.size; omega))); clear hb)
    | (go_at_call 46; refine (newPush_no c _ s hn.out).mono ?_; rintro e w2 ⟨rfl, hb⟩; replace hf := Lib.hid (hf.out.below hb hf.out.lt); have hZ := cfgs hf.out; replace hT := Lib.hid (hT.out.trans (hb.mono (by have := hT.out.size; omega))); clear hb))
  all_goals
    obtain ⟨k0, k1, k2, k3, k4, k5⟩ := cfgs hf.out
    clear hX' hY hZ
    go_wp2_with (first
      | (go_at_call 21; refine (rRightC c _).mono ?_; rintro e w3 ⟨rfl, hb⟩; rw [h.out]; replace hf := Lib.hid (hf.out.below hb hf.out.lt); obtain ⟨l0, l1, l2, l3, l4, l5⟩ := cfgs hf.out; replace hT := Lib.hid (hT.out.trans (hb.mono (by have := hT.out.size; omega))); clear hb)
      | (go_at_call 45; refine (pop_nil _ _).mono ?_; rintro e w4 ⟨rfl, rfl⟩)
      | (go_at_call 47; refine (push_nil _ _).mono ?_; rintro e w5 ⟨rfl, rfl⟩)
      | (go_at_call 27; refine (awake7C _).mono ?_; rintro e w6 ⟨rfl, hb⟩; replace hT := Lib.hid (hT.out.trans (hb.mono (by have := hT.out.size; omega))); clear hb))
    go_ret
    exact ⟨rfl, hCFe ▸ hT.out⟩
set_option maxHeartbeats 4000000 in
set_option maxRecDepth 100000 in
theorem none_hi (c : Cf) (s : Int) (w : World) (h : c.right = true) (s0 : 0 ≤ s) (s1 : c.S ≤ s) : Calls Try.prog 11 #[.agg #[.int .i64 c.S, .int .i64 c.A, .int .i64 c.C, .int .i64 c.H, .int .i64 c.G, .int .i64 c.K], .int .i64 s] w fun e w' => e = .returned (.bool true) ∧ Below w.heap.size w w' := by
  have hf := (Blk.new w 23 #[.int .i64 c.S, .int .i64 c.A, .int .i64 c.C, .int .i64 c.H, .int .i64 c.G, .int .i64 c.K]).drew
  have hT := Lib.hid ((Below.refl w.heap.size w).alloc (Nat.le_refl _) (.cells #[.int .i64 c.S, .int .i64 c.A, .int .i64 c.C, .int .i64 c.H, .int .i64 c.G, .int .i64 c.K] 23)).drew
  have hX := cfgs hf
  replace hf := Lib.hid hf
  have hn : ¬ (c.right = true ∧ 0 ≤ s ∧ s < c.S) := fun x => by omega
  replace h := Lib.hid h
  replace hn := Lib.hid hn
  have hd : decide (s < c.S) = false := decide_eq_false (by omega)
  go_enter Try.func11, Try.ntmps11
  generalize hCFe : w.heap.size = CF at *
  go_wp2
  generalize w.alloc (.cells #[.int .i64 c.S, .int .i64 c.A, .int .i64 c.C, .int .i64 c.H, .int .i64 c.G, .int .i64 c.K] 23) = wa at *
  have hX' : wa.drew.cell? ⟨CF, 0, none⟩ = some (.int .i64 c.S) ∧ wa.drew.cell? ⟨CF, 1, none⟩ = some (.int .i64 c.A) ∧ wa.drew.cell? ⟨CF, 2, none⟩ = some (.int .i64 c.C) ∧ wa.drew.cell? ⟨CF, 3, none⟩ = some (.int .i64 c.H) ∧ wa.drew.cell? ⟨CF, 4, none⟩ = some (.int .i64 c.G) ∧ wa.drew.cell? ⟨CF, 5, none⟩ = some (.int .i64 c.K) := hX
  clear hX
  go_region_held3 (fun w' => w'.cell? ⟨CF, 0, none⟩ = some (.int .i64 c.S) ∧ w'.cell? ⟨CF, 1, none⟩ = some (.int .i64 c.A) ∧ w'.cell? ⟨CF, 2, none⟩ = some (.int .i64 c.C) ∧ w'.cell? ⟨CF, 3, none⟩ = some (.int .i64 c.H) ∧ w'.cell? ⟨CF, 4, none⟩ = some (.int .i64 c.G) ∧ w'.cell? ⟨CF, 5, none⟩ = some (.int .i64 c.K)) (assumption) (first
    | (go_at_call 44; refine (newPopC c _ h.out).mono ?_; rintro e w1 ⟨pa, rfl, _, _, hb⟩; replace hf := Lib.hid (hf.out.below hb hf.out.lt); have hY := cfgs hf.out; replace hT := Lib.hid (hT.out.trans (hb.mono (by have := hT.out.size; omega))); clear hb)
    | (go_at_call 46; refine (newPush_no c _ s hn.out).mono ?_; rintro e w2 ⟨rfl, hb⟩; replace hf := Lib.hid (hf.out.below hb hf.out.lt); have hZ := cfgs hf.out; replace hT := Lib.hid (hT.out.trans (hb.mono (by have := hT.out.size; omega))); clear hb))
  all_goals
    obtain ⟨k0, k1, k2, k3, k4, k5⟩ := cfgs hf.out
    clear hX' hY hZ
    go_wp2_with (first
      | (go_at_call 21; refine (rRightC c _).mono ?_; rintro e w3 ⟨rfl, hb⟩; rw [h.out]; replace hf := Lib.hid (hf.out.below hb hf.out.lt); obtain ⟨l0, l1, l2, l3, l4, l5⟩ := cfgs hf.out; replace hT := Lib.hid (hT.out.trans (hb.mono (by have := hT.out.size; omega))); clear hb)
      | (go_at_call 45; refine (pop_nil _ _).mono ?_; rintro e w4 ⟨rfl, rfl⟩)
      | (go_at_call 47; refine (push_nil _ _).mono ?_; rintro e w5 ⟨rfl, rfl⟩)
      | (go_at_call 27; refine (awake7C _).mono ?_; rintro e w6 ⟨rfl, hb⟩; replace hT := Lib.hid (hT.out.trans (hb.mono (by have := hT.out.size; omega))); clear hb))
    go_ret
    exact ⟨rfl, hCFe ▸ hT.out⟩
set_option maxHeartbeats 4000000 in
set_option maxRecDepth 100000 in
theorem none_no (c : Cf) (s : Int) (w : World) (h : c.right = false) : Calls Try.prog 11 #[.agg #[.int .i64 c.S, .int .i64 c.A, .int .i64 c.C, .int .i64 c.H, .int .i64 c.G, .int .i64 c.K], .int .i64 s] w fun e w' => e = .returned (.bool true) ∧ Below w.heap.size w w' := by
  have hf := (Blk.new w 23 #[.int .i64 c.S, .int .i64 c.A, .int .i64 c.C, .int .i64 c.H, .int .i64 c.G, .int .i64 c.K]).drew
  have hT := Lib.hid ((Below.refl w.heap.size w).alloc (Nat.le_refl _) (.cells #[.int .i64 c.S, .int .i64 c.A, .int .i64 c.C, .int .i64 c.H, .int .i64 c.G, .int .i64 c.K] 23)).drew
  have hX := cfgs hf
  replace hf := Lib.hid hf
  have hn : ¬ (c.right = true ∧ 0 ≤ s ∧ s < c.S) := fun x => by rw [h] at x; exact absurd x.1 (by decide)
  replace h := Lib.hid h
  replace hn := Lib.hid hn
  go_enter Try.func11, Try.ntmps11
  generalize hCFe : w.heap.size = CF at *
  go_wp2
  generalize w.alloc (.cells #[.int .i64 c.S, .int .i64 c.A, .int .i64 c.C, .int .i64 c.H, .int .i64 c.G, .int .i64 c.K] 23) = wa at *
  have hX' : wa.drew.cell? ⟨CF, 0, none⟩ = some (.int .i64 c.S) ∧ wa.drew.cell? ⟨CF, 1, none⟩ = some (.int .i64 c.A) ∧ wa.drew.cell? ⟨CF, 2, none⟩ = some (.int .i64 c.C) ∧ wa.drew.cell? ⟨CF, 3, none⟩ = some (.int .i64 c.H) ∧ wa.drew.cell? ⟨CF, 4, none⟩ = some (.int .i64 c.G) ∧ wa.drew.cell? ⟨CF, 5, none⟩ = some (.int .i64 c.K) := hX
  clear hX
  go_region_held3 (fun w' => w'.cell? ⟨CF, 0, none⟩ = some (.int .i64 c.S) ∧ w'.cell? ⟨CF, 1, none⟩ = some (.int .i64 c.A) ∧ w'.cell? ⟨CF, 2, none⟩ = some (.int .i64 c.C) ∧ w'.cell? ⟨CF, 3, none⟩ = some (.int .i64 c.H) ∧ w'.cell? ⟨CF, 4, none⟩ = some (.int .i64 c.G) ∧ w'.cell? ⟨CF, 5, none⟩ = some (.int .i64 c.K)) (assumption) (first
    | (go_at_call 44; refine (newPop_no c _ h.out).mono ?_; rintro e w1 ⟨rfl, hb⟩; replace hf := Lib.hid (hf.out.below hb hf.out.lt); have hY := cfgs hf.out; replace hT := Lib.hid (hT.out.trans (hb.mono (by have := hT.out.size; omega))); clear hb)
    | (go_at_call 46; refine (newPush_no c _ s hn.out).mono ?_; rintro e w2 ⟨rfl, hb⟩; replace hf := Lib.hid (hf.out.below hb hf.out.lt); have hZ := cfgs hf.out; replace hT := Lib.hid (hT.out.trans (hb.mono (by have := hT.out.size; omega))); clear hb))
  all_goals
    obtain ⟨k0, k1, k2, k3, k4, k5⟩ := cfgs hf.out
    clear hX' hY hZ
    go_wp2_with (first
      | (go_at_call 21; refine (rRightC c _).mono ?_; rintro e w3 ⟨rfl, hb⟩; rw [h.out]; replace hf := Lib.hid (hf.out.below hb hf.out.lt); obtain ⟨l0, l1, l2, l3, l4, l5⟩ := cfgs hf.out; replace hT := Lib.hid (hT.out.trans (hb.mono (by have := hT.out.size; omega))); clear hb)
      | (go_at_call 45; refine (pop_nil _ _).mono ?_; rintro e w4 ⟨rfl, rfl⟩)
      | (go_at_call 47; refine (push_nil _ _).mono ?_; rintro e w5 ⟨rfl, rfl⟩)
      | (go_at_call 27; refine (awake7C _).mono ?_; rintro e w6 ⟨rfl, hb⟩; replace hT := Lib.hid (hT.out.trans (hb.mono (by have := hT.out.size; omega))); clear hb))
    go_ret
    exact ⟨rfl, hCFe ▸ hT.out⟩
theorem noneC (c : Cf) (s : Int) (w : World) : Calls Try.prog 11 #[.agg #[.int .i64 c.S, .int .i64 c.A, .int .i64 c.C, .int .i64 c.H, .int .i64 c.G, .int .i64 c.K], .int .i64 s] w fun e w' => e = .returned (.bool true) ∧ Below w.heap.size w w' := by
  cases h : c.right with
  | false => exact none_no c s w h
  | true =>
    rcases Int.lt_or_le s 0 with h0 | h0
    · exact none_lo c s w h h0
    · rcases Int.lt_or_le s c.S with h1 | h1
      · exact none_yes c s w h h0 h1
      · exact none_hi c s w h h0 h1
/-- Both lists of these words are one. -/
def Pk (c : Cf) (v : Value) (w : World) : Prop := ∃ (RD : World → Prop) (L : List Int), RD w ∧ (∀ w w', RD w → Below w.heap.size w w' → RD w') ∧
  (∀ w, RD w → Calls Try.prog 29 #[.agg #[.int .i64 c.S, .int .i64 c.A, .int .i64 c.C, .int .i64 c.H, .int .i64 c.G, .int .i64 c.K], v] w fun e w' => ∃ u, e = .returned u ∧ Li w' w.heap.size u L ∧ Below w.heap.size w w') ∧
  (∀ w, RD w → Calls Try.prog 30 #[.agg #[.int .i64 c.S, .int .i64 c.A, .int .i64 c.C, .int .i64 c.H, .int .i64 c.G, .int .i64 c.K], v] w fun e w' => ∃ u, e = .returned u ∧ Li w' w.heap.size u L ∧ Below w.heap.size w w')
theorem pk_right {c : Cf} {w : World} {cc b off n : Nat} {f : Nat → Int} (hf : U f) (h : c.right = true) (hn : (n : Int) = c.size) (hc : n ≤ cc) (hR : RdB w b off n f) : Pk c (.slice (some ⟨b, off, none⟩) n cc) w :=
  ⟨fun w => RdB w b off n f, listV c f, hR, fun w w' h hb => h.below hb, fun w hR => listR c w cc b off n f hf h hn hc hR, fun w hR => refListR c w cc b off n f hf h hn hc hR⟩
theorem list_no (c : Cf) (w : World) (A : Option Addr) (n cc : Nat) (hn : n ≤ 100000) (h : ¬ (c.right = true ∧ (n : Int) = c.size)) : Calls Try.prog 29 #[.agg #[.int .i64 c.S, .int .i64 c.A, .int .i64 c.C, .int .i64 c.H, .int .i64 c.G, .int .i64 c.K], .slice A n cc] w fun e w' => ∃ u, e = .returned u ∧ Li w' w.heap.size u [] ∧ Below w.heap.size w w' := by
  have hbx := Lib.hid (Blk.new w 23 #[.int .i64 c.S, .int .i64 c.A, .int .i64 c.C, .int .i64 c.H, .int .i64 c.G, .int .i64 c.K])
  have hnil : ∀ (w' : World) B, Li w' B (.slice none 0 0) [] := fun w' B => ⟨none, 0, rfl, Nat.le_refl _, fun h => absurd h (by decide), fun b o e => (by cases e), by decide⟩
  replace hnil := Lib.hid hnil
  cases hr : c.right with
  | false =>
    clear h
    replace hr := Lib.hid hr
    go_enter Try.func29, Try.ntmps29
    go_wp2_with (go_at_call 66; refine (rightC c _).mono ?_; rintro e w1 ⟨rfl, hb⟩; rw [hr.out]; replace hb := Lib.hid (below_pre hb))
    go_ret
    exact ⟨_, rfl, hnil.out _ _, hb.out⟩
  | true =>
    have hne : ¬ (n : Int) = c.size := fun e => h ⟨hr, e⟩
    have e1 : decide ((n : Int) = c.size) = false := decide_eq_false hne
    have e2 : ((n : Int) == c.size) = false := beq_eq_false_iff_ne.2 hne
    clear h
    replace hr := Lib.hid hr
    go_enter Try.func29, Try.ntmps29
    go_wp2_with (first
      | (go_at_call 66; refine (rightC c _).mono ?_; rintro e w1 ⟨rfl, hb⟩; rw [hr.out]; have hf1 := hbx.out.below hb hbx.out.lt; obtain ⟨k0, k1, k2, k3, k4, k5⟩ := cfgs hf1; clear hf1; replace hb := Lib.hid (below_pre hb))
      | (go_at_call 67; refine (sizeC c _ hr.out).mono ?_; rintro e w2 ⟨rfl, hb2⟩; replace hb2 := Lib.hid hb2))
    go_ret
    exact ⟨_, rfl, hnil.out _ _, bT hb.out hb2.out⟩
theorem C_of_sl {w : World} {A : Option Addr} {n : Nat} {f : Nat → Int} (h : Sl w A n 1 (fun i _ => .int .u64 (f i))) (hn : n ≤ 100000) : Kd.C (Kd.int .u64) w A ((List.range n).map f).length ((List.range n).map f) := by
  have hlen : ((List.range n).map f).length = n := by simp
  rw [hlen]
  refine Kd.C_of_reads (enc := fun x => Value.int .u64 x) (d := 0) ⟨hlen, by omega, fun h0 => ?_⟩
  obtain ⟨b, o, e, _, hc⟩ := h h0
  refine ⟨_, e, fun j hj => ?_⟩
  have := hc j hj 0 (by decide)
  rw [Nat.mul_one] at this
  rw [Go.WideShapes.add_plain]
  refine Eq.trans this ?_
  simp [List.getD_eq_getElem?_getD, List.getElem?_map, List.getElem?_range hj]
theorem ref_no (c : Cf) (n : Nat) (f : Nat → Int) (h : ¬ (c.right = true ∧ (n : Int) = c.size)) : withyref07_List.f 3000 c.S c.A c.C c.H c.G c.K ((List.range n).map f) = some [] := by
  obtain ⟨S, X, C, H, G, K⟩ := c
  show withyref07_List.f 3000 S X C H G K _ = _
  unfold withyref07_List.f
  rw [p_rRight, Option.bind_some]
  by_cases hr : rightB S X C H G K = true
  · have hr' := right_iff.1 hr
    obtain ⟨s, rfl⟩ := Int.eq_ofNat_of_zero_le (show 0 ≤ S by omega)
    obtain ⟨c, rfl⟩ := Int.eq_ofNat_of_zero_le (show 0 ≤ C by omega)
    obtain ⟨hh, rfl⟩ := Int.eq_ofNat_of_zero_le (show 0 ≤ H by omega)
    rw [if_pos hr, p_rWords 3000 s c hh X G K (by decide) (by omega) (by omega) (by omega) (by omega), Option.bind_some]
    have hne : ¬ (n : Int) = sizeV s X c hh := fun e => h ⟨hr, e⟩
    have e : ((((List.range n).map f).length : Int) != ((wordsL s c hh (roomN X)).length : Int)) = true := by
      rw [sizes_eq]
      simpa using hne
    rw [e]
    simp only [withyref07_List.j0]
    rw [if_pos trivial]
  · rw [if_neg hr]
    simp only [withyref07_List.j0]
    rw [if_pos trivial]
theorem refList_no (c : Cf) (w : World) (A : Option Addr) (n cc : Nat) (f : Nat → Int) (hn : n ≤ 100000) (hc : n ≤ cc) (hS : Sl w A n 1 (fun i _ => .int .u64 (f i))) (h : ¬ (c.right = true ∧ (n : Int) = c.size)) : Calls Try.prog 30 #[.agg #[.int .i64 c.S, .int .i64 c.A, .int .i64 c.C, .int .i64 c.H, .int .i64 c.G, .int .i64 c.K], .slice A n cc] w fun e w' => ∃ u, e = .returned u ∧ Li w' w.heap.size u [] ∧ Below w.heap.size w w' := by
  have hlen : ((List.range n).map f).length = n := by simp
  have hcl := withyref07_List.calls 3000 c.S c.A c.C c.H c.G c.K A cc ((List.range n).map f) _ w (C_of_sl hS hn) (by rw [hlen]; exact hc) (ref_no c n f h)
  rw [hlen] at hcl
  refine hcl.mono ?_
  rintro e w' ⟨v, rfl, hv, hbl⟩
  exact ⟨v, rfl, li_of_R hv (by decide), hbl⟩
theorem pk_no {c : Cf} {w : World} {A : Option Addr} {cc n : Nat} {f : Nat → Int} (hn : n ≤ 100000) (hc : n ≤ cc) (hS : Sl w A n 1 (fun i _ => .int .u64 (f i))) (h : ¬ (c.right = true ∧ (n : Int) = c.size)) : Pk c (.slice A n cc) w :=
  ⟨fun w => Sl w A n 1 (fun i _ => .int .u64 (f i)), [], hS, fun w w' h hb => h.below hb (Nat.le_refl _), fun w _ => list_no c w A n cc hn h, fun w hS => refList_no c w A n cc f hn hc hS h⟩
theorem pk_any {c : Cf} {w : World} {A : Option Addr} {cc n : Nat} {q : Nat → Int} (hn : n ≤ 100000) (hc : n ≤ cc) (hS : Sl w A n 1 (fun i _ => .int .u64 (q i))) (hq : ∀ i, i < n → 0 ≤ q i ∧ q i < 18446744073709551616) : Pk c (.slice A n cc) w := by
  by_cases h : c.right = true ∧ (n : Int) = c.size
  · have hb := size_bd h.1
    have hs := h.2
    unfold Cf.size at hs
    obtain ⟨b, o, rfl, hl, hcell⟩ := hS (by omega)
    refine pk_right (f := fun i => if i < n then q i else 0) (fun i => ?_) h.1 h.2 hc ⟨hl, fun i hi => ?_⟩
    · show 0 ≤ (if i < n then q i else 0) ∧ (if i < n then q i else 0) < 18446744073709551616
      split
      · exact hq i ‹_›
      · decide
    · have := hcell i hi 0 (by decide)
      rw [Nat.mul_one] at this
      show _ = some (Value.int .u64 (if i < n then q i else 0))
      rw [if_pos hi]
      exact this
  · exact pk_no hn hc hS h
theorem refMemC (c : Cf) (w : World) (h : c.right = true) : Calls Try.prog 25 #[.agg #[.int .i64 c.S, .int .i64 c.A, .int .i64 c.C, .int .i64 c.H, .int .i64 c.G, .int .i64 c.K]] w fun e w' =>
    ∃ AA cc b n, e = .returned (.slice AA n cc) ∧ (n : Int) = c.size ∧ w.heap.size ≤ b ∧ RowB w' AA cc b n (memF c.A c.C c.H (c.S - 1).toNat) ∧ Below w.heap.size w w' := by
  obtain ⟨S, X, C, H, G, K⟩ := c
  have h' : rightB S X C H G K = true := h
  have hr := right_iff.1 h'
  obtain ⟨s, rfl⟩ := Int.eq_ofNat_of_zero_le (show 0 ≤ S by omega)
  obtain ⟨c, rfl⟩ := Int.eq_ofNat_of_zero_le (show 0 ≤ C by omega)
  obtain ⟨hh, rfl⟩ := Int.eq_ofNat_of_zero_le (show 0 ≤ H by omega)
  exact refMemory_c s c hh X G K w h
/-- The first i words are others. -/
def mix (q m : Nat → Int) (i : Nat) : Nat → Int := fun j => if j < i then q j else m j
theorem mix_succ (q m : Nat → Int) (i : Nat) : upd (mix q m i) i (q i) = mix q m (i + 1) := by
  funext j
  unfold upd mix
  by_cases e : j = i
  · subst e; rw [if_pos rfl, if_pos (Nat.lt_succ_self j)]
  · rw [if_neg e]
    by_cases d : j < i
    · rw [if_pos d, if_pos (by omega)]
    · rw [if_neg d, if_neg (by omega)]
end Go.Proofs.Ytijfkpoofpcacaa.StackU
