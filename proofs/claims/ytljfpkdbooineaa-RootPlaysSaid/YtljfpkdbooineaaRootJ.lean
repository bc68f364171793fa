/-
  The law RootPlays's walk: what each act answers, and what all entries are behind it; condition: the acts' row as it is read.
-/
import Derived.Test.YtljfpkdbooineaaRootI
set_option linter.unusedVariables false
namespace Go.Proofs.Ytljfpkdbooineaa.RootJ
open Go.RowKit Go.Proofs.Ytljfpkdbooineaa.PRootPlays Go.Proofs.YtljfpkdbooineaaW.PrintWords Go.Proofs.Ytljfpkdbooineaa.Blk Go.Proofs.Ytljfpkdbooineaa.Core Go.Proofs.Ytljfpkdbooineaa.RootP Go.Proofs.Ytljfpkdbooineaa.RootA Go.Proofs.Ytljfpkdbooineaa.RootB Go.Proofs.Ytljfpkdbooineaa.RootC Go.Proofs.Ytljfpkdbooineaa.RootN Go.Proofs.Ytljfpkdbooineaa.RootD Go.Proofs.Ytljfpkdbooineaa.RootE Go.Proofs.Ytljfpkdbooineaa.RootH Go.Proofs.Ytljfpkdbooineaa.RootI Go.Proofs.Ytljfpkdbooineaa.Opens
theorem rRight_c (S A C H G K : Int) (w : World) : Calls Try.prog 33 #[.agg #[.int .i64 S, .int .i64 A, .int .i64 C, .int .i64 H, .int .i64 G, .int .i64 K]] w fun e w' => e = .returned (.bool (rightB S A C H G K)) ∧ Below w.heap.size w w' :=
  withyref06_Right.calls S A C H G K _ w (p_rRight S A C H G K)
/-- An act. -/
structure A3 where
  k : Int
  n : Int
  r : Int
def A3.V (q : Nat → A3) (i j : Nat) : Value := match j with
  | 0 => .int .i64 (q i).k
  | 1 => .int .i64 (q i).n
  | _ => .int .u64 (q i).r
structure Acts3 (w : World) (A : Option Addr) (n : Nat) (q : Nat → A3) : Prop where
  sl : Sl w A n 3 (A3.V q)
  r : ∀ i, i < n → 0 ≤ (q i).r ∧ (q i).r < 18446744073709551616
  nn : ∀ i, i < n → -9223372036854775808 ≤ (q i).n ∧ (q i).n < 9223372036854775808
  big : n ≤ 1152921504606846976
theorem Acts3.far {w : World} {A n q} (h : Acts3 w A n q) {i : Nat} (hi : i < n) : ∃ b off, b < w.heap.size ∧ A = some ⟨b, off, none⟩ ∧ w.cell? ⟨b, off + i * 3, none⟩ = some (.int .i64 (q i).k) ∧ w.cell? ⟨b, off + i * 3 + 1, none⟩ = some (.int .i64 (q i).n) ∧ w.cell? ⟨b, off + i * 3 + 2, none⟩ = some (.int .u64 (q i).r) := by
  obtain ⟨b, off, e, hl, hc⟩ := h.sl (by omega)
  exact ⟨b, off, hl, e, hc i hi 0 (by decide), hc i hi 1 (by decide), hc i hi 2 (by decide)⟩
theorem info3 : (Try.prog.info? 3).map (fun i => (i.zero, i.size, i.bytes)) = some (some (.int .i64 0), 1, 8) := by kernel_rfl
theorem made_rowK (k : IntKind) (n : Nat) : madeCells (Value.int k 0).cells (n * 1) = rowF k n (fun _ => 0) := by
  refine Array.ext_getElem? fun j => ?_
  rw [Nat.mul_one]
  by_cases hj : j < n
  · rw [rowF_get hj]
    have : j < (madeCells (Value.int k 0).cells n).size := by rw [size_madeCells]; exact hj
    rw [Array.getElem?_eq_getElem this]
    simp [madeCells, Value.cells, Nat.mod_one]
  · rw [rowF_none hj, Array.getElem?_eq_none]
    rw [size_madeCells]; omega
theorem make64 (n : Nat) (h1 : n ≤ 100000) (w : World) : (Instr.makeSlice 22 (.int .i64 (n : Int)) (.int .i64 (n : Int))).run Try.prog w = .ok (.slice (some ⟨w.heap.size, 0, none⟩) n n) (w.alloc (.cells (rowF .u64 n (fun _ => 0)) 26)) := by
  obtain ⟨i, hi, e⟩ := Option.map_eq_some_iff.1 RootH.info26
  simp only [Prod.mk.injEq] at e
  obtain ⟨e0, e1, e2⟩ := e
  have := run_make w 22 26 i (.int .u64 0) Try.underlying22 hi e0 .i64 .i64 n n (by omega) (Int.le_refl _) (by rw [e2]; omega) (by omega)
  rw [e1, Int.toNat_natCast, made_rowK] at this
  exact this
theorem make63 (n : Nat) (h1 : n ≤ 100000) (w : World) : (Instr.makeSlice 59 (.int .i64 (n : Int)) (.int .i64 (n : Int))).run Try.prog w = .ok (.slice (some ⟨w.heap.size, 0, none⟩) n n) (w.alloc (.cells (rowF .i64 n (fun _ => 0)) 3)) := by
  obtain ⟨i, hi, e⟩ := Option.map_eq_some_iff.1 info3
  simp only [Prod.mk.injEq] at e
  obtain ⟨e0, e1, e2⟩ := e
  have := run_make w 59 3 i (.int .i64 0) Try.underlying59 hi e0 .i64 .i64 n n (by omega) (Int.le_refl _) (by rw [e2]; omega) (by omega)
  rw [e1, Int.toNat_natCast, made_rowK] at this
  exact this
theorem rowK_new (ty : TypeId) (k : IntKind) (n : Nat) (w : World) : RowK ty k (w.alloc (.cells (rowF k n (fun _ => 0)) ty)) w.heap.size n (fun _ => 0) := ⟨_, Blk.new w ty _, fun i hi => rowF_get hi⟩
set_option maxRecDepth 100000 in
theorem plays_many (c0 c1 c2 c3 c4 c5 who tag : Int) (AA : Option Addr) (len cap : Nat) (w : World) (hc : len ≤ cap) (hz : len ≤ 1152921504606846976) (hl : (200 : Int) < len) :
    Calls Try.prog 9 #[.agg #[.int .i64 c0, .int .i64 c1, .int .i64 c2, .int .i64 c3, .int .i64 c4, .int .i64 c5], .int .i64 who, .int .u64 tag, .slice AA len cap] w fun e w' => e = .returned (.bool true) ∧ Below w.heap.size w w' := by
  go_enter Try.func9, Try.ntmps9
  go_wp2_with (go_at_call 28; refine (awake_c _).mono ?_; rintro e w' ⟨rfl, hb⟩; replace hb := Lib.hid (below_pre hb))
  go_ret
  exact ⟨rfl, hb.out⟩
set_option maxHeartbeats 2000000 in
set_option maxRecDepth 100000 in
theorem plays_bad (c0 c1 c2 c3 c4 c5 who tag : Int) (AA : Option Addr) (len cap : Nat) (w : World) (hc : len ≤ cap) (t0 : 0 ≤ tag) (hl : (len : Int) ≤ 200) (hbad : ¬ ((rightB c0 c1 c2 c3 c4 c5 = true ∧ 0 ≤ who ∧ who < c2) ∧ tag ≤ 4294967295)) :
    Calls Try.prog 9 #[.agg #[.int .i64 c0, .int .i64 c1, .int .i64 c2, .int .i64 c3, .int .i64 c4, .int .i64 c5], .int .i64 who, .int .u64 tag, .slice AA len cap] w fun e w' => e = .returned (.bool true) ∧ Below w.heap.size w w' := by
  have hf := Lib.hid (Blk.new w 48 #[.int .i64 c0, .int .i64 c1, .int .i64 c2, .int .i64 c3, .int .i64 c4, .int .i64 c5])
  have hbad' := Lib.hid hbad
  cases hR : rightB c0 c1 c2 c3 c4 c5 with
  | false =>
    replace hR := Lib.hid hR
    clear hbad
    go_enter Try.func9, Try.ntmps9
    go_wp2_with (first
      | (go_at_call 27; refine (new_no _ _ _ _ _ _ _ _ _ t0 hbad'.out).mono ?_; rintro e w1 ⟨rfl, hb1⟩; have hf1 := hf.out.below hb1 hf.out.lt; have g0 := hf1.cell (i := 0) rfl; have g1 := hf1.cell (i := 1) rfl; have g2 := hf1.cell (i := 2) rfl; have g3 := hf1.cell (i := 3) rfl; have g4 := hf1.cell (i := 4) rfl; have g5 := hf1.cell (i := 5) rfl; replace hf1 := Lib.hid hf1; replace hb1 := Lib.hid (below_pre hb1))
      | (go_at_call 33; refine (rRight_c _ _ _ _ _ _ _).mono ?_; rintro e w2 ⟨rfl, hb2⟩; rw [hR.out]; have hf2 := hf1.out.below hb2 hf1.out.lt; have k2 := hf2.cell (i := 2) rfl; have hB2 := Lib.hid (hb1.out.trans (hb2.mono hb1.out.size)); replace hf2 := Lib.hid hf2; replace hb2 := Lib.hid hb2)
      | (go_at_call 28; refine (awake_c _).mono ?_; rintro e w3 ⟨rfl, hb3⟩; replace hb3 := Lib.hid hb3))
    go_ret
    exact ⟨rfl, hB2.out.trans (hb3.out.mono hB2.out.size)⟩
  | true =>
    rw [hR] at hbad
    replace hR := Lib.hid hR
    by_cases w1 : who < 0
    · clear hbad
      go_enter Try.func9, Try.ntmps9
      go_wp2_with (first
        | (go_at_call 27; refine (new_no _ _ _ _ _ _ _ _ _ t0 hbad'.out).mono ?_; rintro e w1 ⟨rfl, hb1⟩; have hf1 := hf.out.below hb1 hf.out.lt; have g0 := hf1.cell (i := 0) rfl; have g1 := hf1.cell (i := 1) rfl; have g2 := hf1.cell (i := 2) rfl; have g3 := hf1.cell (i := 3) rfl; have g4 := hf1.cell (i := 4) rfl; have g5 := hf1.cell (i := 5) rfl; replace hf1 := Lib.hid hf1; replace hb1 := Lib.hid (below_pre hb1))
        | (go_at_call 33; refine (rRight_c _ _ _ _ _ _ _).mono ?_; rintro e w2 ⟨rfl, hb2⟩; rw [hR.out]; have hf2 := hf1.out.below hb2 hf1.out.lt; have k2 := hf2.cell (i := 2) rfl; have hB2 := Lib.hid (hb1.out.trans (hb2.mono hb1.out.size)); replace hf2 := Lib.hid hf2; replace hb2 := Lib.hid hb2)
        | (go_at_call 28; refine (awake_c _).mono ?_; rintro e w3 ⟨rfl, hb3⟩; replace hb3 := Lib.hid hb3))
      go_ret
      exact ⟨rfl, hB2.out.trans (hb3.out.mono hB2.out.size)⟩
    · by_cases w2 : who < c2
      · have w3 : 4294967295 < tag := by
          rcases Int.lt_or_le 4294967295 tag with g | g
          · exact g
          · exact absurd ⟨⟨rfl, by omega, w2⟩, g⟩ hbad
        clear hbad
        go_enter Try.func9, Try.ntmps9
        go_wp2_with (first
          | (go_at_call 27; refine (new_no _ _ _ _ _ _ _ _ _ t0 hbad'.out).mono ?_; rintro e w1 ⟨rfl, hb1⟩; have hf1 := hf.out.below hb1 hf.out.lt; have g0 := hf1.cell (i := 0) rfl; have g1 := hf1.cell (i := 1) rfl; have g2 := hf1.cell (i := 2) rfl; have g3 := hf1.cell (i := 3) rfl; have g4 := hf1.cell (i := 4) rfl; have g5 := hf1.cell (i := 5) rfl; replace hf1 := Lib.hid hf1; replace hb1 := Lib.hid (below_pre hb1))
          | (go_at_call 33; refine (rRight_c _ _ _ _ _ _ _).mono ?_; rintro e w2 ⟨rfl, hb2⟩; rw [hR.out]; have hf2 := hf1.out.below hb2 hf1.out.lt; have k2 := hf2.cell (i := 2) rfl; have hB2 := Lib.hid (hb1.out.trans (hb2.mono hb1.out.size)); replace hf2 := Lib.hid hf2; replace hb2 := Lib.hid hb2)
          | (go_at_call 28; refine (awake_c _).mono ?_; rintro e w3 ⟨rfl, hb3⟩; replace hb3 := Lib.hid hb3))
        go_ret
        exact ⟨rfl, hB2.out.trans (hb3.out.mono hB2.out.size)⟩
      · clear hbad
        go_enter Try.func9, Try.ntmps9
        go_wp2_with (first
          | (go_at_call 27; refine (new_no _ _ _ _ _ _ _ _ _ t0 hbad'.out).mono ?_; rintro e w1 ⟨rfl, hb1⟩; have hf1 := hf.out.below hb1 hf.out.lt; have g0 := hf1.cell (i := 0) rfl; have g1 := hf1.cell (i := 1) rfl; have g2 := hf1.cell (i := 2) rfl; have g3 := hf1.cell (i := 3) rfl; have g4 := hf1.cell (i := 4) rfl; have g5 := hf1.cell (i := 5) rfl; replace hf1 := Lib.hid hf1; replace hb1 := Lib.hid (below_pre hb1))
          | (go_at_call 33; refine (rRight_c _ _ _ _ _ _ _).mono ?_; rintro e w2 ⟨rfl, hb2⟩; rw [hR.out]; have hf2 := hf1.out.below hb2 hf1.out.lt; have k2 := hf2.cell (i := 2) rfl; have hB2 := Lib.hid (hb1.out.trans (hb2.mono hb1.out.size)); replace hf2 := Lib.hid hf2; replace hb2 := Lib.hid hb2)
          | (go_at_call 28; refine (awake_c _).mono ?_; rintro e w3 ⟨rfl, hb3⟩; replace hb3 := Lib.hid hb3))
        go_ret
        exact ⟨rfl, hB2.out.trans (hb3.out.mono hB2.out.size)⟩
end Go.Proofs.Ytljfpkdbooineaa.RootJ
