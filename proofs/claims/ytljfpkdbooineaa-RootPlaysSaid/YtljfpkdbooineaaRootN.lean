/-
  Layer 11 (root): a new table, or that there is none. No condition.
-/
import Derived.Test.YtljfpkdbooineaaRootC
set_option linter.unusedVariables false
namespace Go.Proofs.Ytljfpkdbooineaa.RootN
open Go.RowKit Go.Proofs.Ytljfpkdbooineaa.PRootPlays Go.Proofs.YtljfpkdbooineaaW.PrintWords Go.Proofs.Ytljfpkdbooineaa.Blk Go.Proofs.Ytljfpkdbooineaa.Core Go.Proofs.Ytljfpkdbooineaa.RootP Go.Proofs.Ytljfpkdbooineaa.RootA Go.Proofs.Ytljfpkdbooineaa.RootB
theorem info81 : (Try.prog.info? 81).map (fun i => (i.zero, i.size, i.bytes)) = some (some (.agg #[.int .u64 0, .int .i64 0]), 2, 16) := by kernel_rfl
def Rt.new (S A C H G K who : Int) (n : Nat) (tag : Int) : Rt := ⟨S, A, C, H, G, K, who, n, fun _ => tag, fun _ => -1⟩
/-- The entries' cells, j of them. -/
def ents (tag : Int) : Nat → List Value
  | 0 => []
  | j + 1 => ents tag j ++ [.int .u64 tag, .int .i64 (-1)]
theorem ents_len (tag : Int) : ∀ j, (ents tag j).length = j * 2
  | 0 => rfl
  | j + 1 => by rw [ents, List.length_append, ents_len tag j]; simp; omega
theorem ents_get (tag : Int) : ∀ j i, i < j → (ents tag j)[i * 2]? = some (.int .u64 tag) ∧ (ents tag j)[i * 2 + 1]? = some (.int .i64 (-1))
  | 0, i, h => by omega
  | j + 1, i, h => by
    have hl := ents_len tag j
    rw [ents]
    rcases Nat.lt_or_ge i j with g | g
    · rw [List.getElem?_append_left (by omega), List.getElem?_append_left (by omega)]
      exact ents_get tag j i g
    · obtain rfl : i = j := by omega
      rw [List.getElem?_append_right (by omega), List.getElem?_append_right (by omega), hl]
      simp
theorem below_pre {w w' : World} {o : Obj} (h : Below (w.alloc o).heap.size (w.alloc o) w') : Below w.heap.size w w' := ((Below.refl w.heap.size w).alloc (Nat.le_refl _) o).trans (h.mono (by simp))
theorem new_no (S A C H G K who tag : Int) (w : World) (t0 : 0 ≤ tag) (h : ¬ ((rightB S A C H G K = true ∧ 0 ≤ who ∧ who < C) ∧ tag ≤ 4294967295)) :
    Calls Try.prog 27 #[.agg #[.int .i64 S, .int .i64 A, .int .i64 C, .int .i64 H, .int .i64 G, .int .i64 K], .int .i64 who, .int .u64 tag] w fun e w' => e = .returned (.pointer none) ∧ Below w.heap.size w w' := by
  have hp := fun w => pin_c S A C H G K who w
  by_cases c : rightB S A C H G K = true ∧ 0 ≤ who ∧ who < C
  · have c2 : ¬ tag ≤ 4294967295 := fun q => h ⟨c, q⟩
    have c3 : ¬ (4 + who < 0) := by omega
    simp only [if_pos c] at hp
    clear h c
    go_enter Try.func27, Try.ntmps27
    go_wp2_with (go_at_call 44; refine (hp _).mono ?_; rintro e w' ⟨rfl, hb⟩; replace hb := Lib.hid hb)
    go_ret
    exact ⟨rfl, below_pre hb.out⟩
  · simp only [if_neg c] at hp
    clear h c
    go_enter Try.func27, Try.ntmps27
    go_wp2_with (go_at_call 44; refine (hp _).mono ?_; rintro e w' ⟨rfl, hb⟩; replace hb := Lib.hid hb)
    go_ret
    exact ⟨rfl, below_pre hb.out⟩
theorem owns_slice {w : World} {base e sz : Nat} {v : Value} {n : Nat} {xs : List Value} (h : w.ownsRow base e sz v (n + 1) xs) : ∃ g cap, v = .slice (some ⟨g, 0, none⟩) (n + 1) cap := by
  rcases h.2 with ⟨_, hz⟩ | ⟨g, cap, cur, hv, _⟩
  · cases hz
  · exact ⟨g, cap, hv⟩
set_option maxHeartbeats 2000000 in
theorem new_c (S A C G K who tag : Int) (n : Nat) (w : World) (t0 : 0 ≤ tag) (c : rightB S A C (n : Int) G K = true ∧ 0 ≤ who ∧ who < C) (t1 : tag ≤ 4294967295) :
    Calls Try.prog 27 #[.agg #[.int .i64 S, .int .i64 A, .int .i64 C, .int .i64 (n : Int), .int .i64 G, .int .i64 K], .int .i64 who, .int .u64 tag] w fun e w' => ∃ t b, e = .returned (.pointer (some ⟨t, 0, none⟩)) ∧ TabB w' t b (Rt.new S A C (n : Int) G K who n tag) ∧ w.heap.size ≤ t ∧ w.heap.size ≤ b ∧ Below w.heap.size w w' := by
  have hp := fun w => pin_c S A C (n : Int) G K who w
  have c3 : ¬ (4 + who < 0) := by omega
  have hr := right_iff.1 c.1
  simp only [if_pos c] at hp
  have hnn : n ≤ 16 := by omega
  have hn1 : 1 ≤ n := by omega
  clear c hr
  have hf := Blk.new w 48 #[.int .i64 S, .int .i64 A, .int .i64 C, .int .i64 (n : Int), .int .i64 G, .int .i64 K]
  replace hf := Lib.hid hf
  go_enter Try.func27, Try.ntmps27
  go_wp2_with (go_at_call 44; refine (hp _).mono ?_; rintro e w' ⟨rfl, hb⟩; have hf1 := hf.out.below hb hf.out.lt; have x0 := hf1.cell (i := 0) rfl; have x1 := hf1.cell (i := 1) rfl; have x2 := hf1.cell (i := 2) rfl; have x3 := hf1.cell (i := 3) rfl; have x4 := hf1.cell (i := 4) rfl; have x5 := hf1.cell (i := 5) rfl; have z3 := (hf1.alloc (.cells #[.int .i64 S, .int .i64 A, .int .i64 C, .int .i64 (n : Int), .int .i64 G, .int .i64 K, .int .i64 who, .slice none 0 0] 79)).cell (i := 3) rfl; replace hf1 := Lib.hid hf1; replace hb := Lib.hid (below_pre hb))
  have hT := Blk.new w' 79 #[.int .i64 S, .int .i64 A, .int .i64 C, .int .i64 (n : Int), .int .i64 G, .int .i64 K, .int .i64 who, .slice none 0 0]
  have hW := hb.out.alloc hb.out.size (.cells #[.int .i64 S, .int .i64 A, .int .i64 C, .int .i64 (n : Int), .int .i64 G, .int .i64 K, .int .i64 who, .slice none 0 0] 79)
  have hwT := hb.out.size
  clear x0 x1 x2 x3 x4 x5 z3 hf1 hf hp
  replace hW := Lib.hid hW
  replace hT := Lib.hid hT
  generalize hTe : w'.heap.size = T at *
  go_loopw [22] (fun z wr => ∃ (j : Nat) (v : Value), j ≤ n ∧ z = .int .i64 (j : Int) ∧ Blk wr T 79 #[.int .i64 S, .int .i64 A, .int .i64 C, .int .i64 (n : Int), .int .i64 G, .int .i64 K, .int .i64 who, v] ∧ wr.ownsRow (T + 1) 81 2 v j (ents tag j) ∧ Below w.heap.size w wr) (fun z _ => n - (intOf z).toNat)
  case atStart => exact ⟨0, _, Nat.zero_le _, rfl, hT.out, World.ownsRow_nil _ _ _ _, hW.out⟩
  case round =>
    obtain ⟨j, v, hj, rfl, hTj, hRj, hBj⟩ := hrel
    by_cases hlt : j < n
    · have x7 := hTj.cell (i := 7) rfl
      have hTlt := hTj.lt
      replace hBj := Lib.hid hBj
      replace hRj := Lib.hid hRj
      replace hTj := Lib.hid hTj
      go_wp2_with ((with_reducible refine gate_builtin (b := .append) (xs := #[.tmp 28, .tmp 31]) rfl ?_); at_builtin; refine print_append_cells (w0 := wr) (T + 1) rfl (.tmp 28) (.tmp 31) 77 81 (.agg #[.int .u64 0, .int .i64 0]) 2 16 rfl Try.underlying77 info81 rfl (by decide) (by decide) v j (ents tag j) [.int .u64 tag, .int .i64 (-1)] rfl rfl rfl (by simp [Value.oneCell']) hRj.out (Below.refl _ _) (by omega) (by omega) ?_; intro v1 w10 ho hb10 hg hat; have hT1 := hTj.out.below hb10 (Nat.lt_succ_self T); have y7 := hT1.cell (i := 7) rfl; have f7 := hT1.frozen 7; replace hT1 := Lib.hid hT1; obtain ⟨g1, cap1, rfl⟩ := owns_slice ho; replace ho := Lib.hid ho; replace hb10 := Lib.hid hb10; clear hg hat)
      go_roundw
      case rel => exact ⟨j + 1, _, by omega, by go_num, hT1.out.set 7 _, ownsRow_setCell_below ho.out (a := ⟨T, 7, none⟩) (Nat.lt_succ_self T) _, (hBj.out.trans (hb10.out.mono (by omega))).setCell (p := ⟨T, 7, none⟩) (by show w.heap.size ≤ T; omega) _⟩
      case measure => simp [intOf]; omega
    · have : j = n := by omega
      subst this
      replace hBj := Lib.hid hBj
      replace hRj := Lib.hid hRj
      replace hTj := Lib.hid hTj
      go_wp2
      go_ret
      obtain ⟨m, rfl⟩ : ∃ m, j = m + 1 := ⟨j - 1, by omega⟩
      obtain ⟨g1, cap1, rfl⟩ := owns_slice hRj.out
      rcases hRj.out.2 with ⟨_, hz⟩ | ⟨g, cap, cur, hv, hg, hgg, hcap, _, hsz, htk⟩
      · cases hz
      · cases hv
        refine ⟨T, g1, rfl, ⟨fun _ => by omega, (Array.getElem?_eq_some_iff.1 hgg).1, some ⟨g1, 0, none⟩, cap1, hTj.out, hcap, fun _ => ⟨rfl, cur, hgg, fun i hi => ?_⟩⟩, hwT, by omega, hBj.out⟩
        have hi' : i < m + 1 := hi
        obtain ⟨e0, e1⟩ := ents_get tag (m + 1) i hi'
        rw [← htk] at e0 e1
        rw [List.getElem?_take, if_pos (by omega)] at e0 e1
        rw [Array.getElem?_toList] at e0 e1
        exact ⟨e0, e1⟩
end Go.Proofs.Ytljfpkdbooineaa.RootN
