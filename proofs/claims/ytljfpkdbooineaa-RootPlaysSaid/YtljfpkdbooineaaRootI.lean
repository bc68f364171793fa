/-
  Layer 11 (root): are a table's entries these? (a helper of the law RootPlays); conditions: as many entries as a right config has.
-/
import Derived.Test.YtljfpkdbooineaaRootH
set_option linter.unusedVariables false
namespace Go.Proofs.Ytljfpkdbooineaa.RootI
open Go.RowKit Go.Proofs.Ytljfpkdbooineaa.PRootPlays Go.Proofs.YtljfpkdbooineaaW.PrintWords Go.Proofs.Ytljfpkdbooineaa.Blk Go.Proofs.Ytljfpkdbooineaa.Core Go.Proofs.Ytljfpkdbooineaa.RootP Go.Proofs.Ytljfpkdbooineaa.RootA Go.Proofs.Ytljfpkdbooineaa.RootB Go.Proofs.Ytljfpkdbooineaa.RootC Go.Proofs.Ytljfpkdbooineaa.RootN Go.Proofs.Ytljfpkdbooineaa.RootD Go.Proofs.Ytljfpkdbooineaa.RootE Go.Proofs.Ytljfpkdbooineaa.RootH
/-- A row of n numbers in block b. -/
structure RowK (ty : TypeId) (k : IntKind) (w : World) (b n : Nat) (f : Nat → Int) : Prop where
  row : ∃ cs, Blk w b ty cs ∧ ∀ i, i < n → cs[i]? = some (.int k (f i))
section
variable {ty : TypeId} {k : IntKind} {w w' : World} {b n : Nat} {f : Nat → Int}
theorem RowK.fr {S : Nat → Prop} (h : RowK ty k w b n f) (hf : Fr S w w') (hb : ¬ S b) : RowK ty k w' b n f := by
  obtain ⟨cs, h4, h5⟩ := h.row
  exact ⟨cs, h4.fr hf hb, h5⟩
theorem RowK.lt (h : RowK ty k w b n f) : b < w.heap.size := by
  obtain ⟨cs, h4, h5⟩ := h.row
  exact h4.lt
theorem RowK.below {N : Nat} (h : RowK ty k w b n f) (hb : Below N w w') (hN : b < N) : RowK ty k w' b n f := by
  obtain ⟨cs, h4, h5⟩ := h.row
  exact ⟨cs, h4.below hb hN, h5⟩
theorem RowK.next (h : RowK ty k w b n f) (hb : Below w.heap.size w w') : RowK ty k w' b n f := h.below hb h.lt
theorem RowK.cell (h : RowK ty k w b n f) {i : Nat} (hi : i < n) : w.cell? ⟨b, i, none⟩ = some (.int k (f i)) ∧ w.frozen? ⟨b, i, none⟩ = false := by
  obtain ⟨cs, h4, h5⟩ := h.row
  exact ⟨h4.cell (h5 i hi), h4.frozen i⟩
theorem RowK.set (h : RowK ty k w b n f) {i : Nat} (hi : i < n) (x : Int) : RowK ty k (w.setCell ⟨b, i, none⟩ (.int k x)) b n (upd f i x) := by
  obtain ⟨cs, h4, h5⟩ := h.row
  refine ⟨cs.setIfInBounds i (.int k x), h4.set i _, fun j hj => ?_⟩
  have hl : i < cs.size := by
    have := h5 i hi
    rcases Nat.lt_or_ge i cs.size with h | h
    · exact h
    · rw [Array.getElem?_eq_none h] at this; cases this
  rw [Array.getElem?_setIfInBounds]
  unfold upd
  by_cases c : i = j
  · rw [if_pos c, if_pos hl, if_pos c.symm]
  · rw [if_neg c, if_neg (fun h => c h.symm)]; exact h5 j hj
end
theorem rEntry_c (a n : Int) (w : World) (h0 : 0 ≤ a) : Calls Try.prog 48 #[.int .u64 a, .int .i64 n] w fun e w' => e = .returned (.tuple #[.int .u64 (entryV a n).1, .bool (entryV a n).2]) ∧ Drawn0 w w' :=
  withyref05_Entry.calls a n _ _ w (p_rEntry a n h0)
theorem rHandle_c (a n g : Int) (w : World) (h0 : 0 ≤ g) : Calls Try.prog 34 #[.int .i64 a, .int .i64 n, .int .u64 g] w fun e w' => e = .returned (.tuple #[.int .u64 (handleV a n g).1, .bool (handleV a n g).2]) ∧ Drawn0 w w' :=
  withyref05_Handle.calls a n g _ _ w (p_rHandle a n g h0)
theorem fst_succ (p : Nat → Bool) (n : Nat) : decide (fst p (n + 1) < n + 1) = (decide (fst p n < n) || p n) := by
  have h0 := fst_le p n
  by_cases c : fst p n < n
  · have e : fst p (n + 1) = fst p n := fst_eq (by omega) (fst_is c) (fun j hj => fst_not hj)
    rw [e, decide_eq_true c, Bool.true_or]
    exact decide_eq_true (by omega)
  · have h1 : fst p n = n := by omega
    have hn : ∀ j, j < n → p j = false := fun j hj => fst_not (p := p) (n := n) (by rw [h1]; exact hj)
    rw [decide_eq_false c, Bool.false_or]
    cases q : p n with
    | true =>
      have e : fst p (n + 1) = n := fst_eq (Nat.lt_succ_self n) q hn
      rw [e]; exact decide_eq_true (Nat.lt_succ_self n)
    | false =>
      have e : fst p (n + 1) = n + 1 := fst_none (fun j hj => by
        rcases Nat.lt_or_ge j n with g | g
        · exact hn j g
        · obtain rfl : j = n := by omega
          exact q)
      rw [e]; exact decide_eq_false (Nat.lt_irrefl _)
set_option maxHeartbeats 2000000 in
set_option maxRecDepth 100000 in
theorem same_c (w : World) (t b : Nat) (s : Rt) (S A C G K : Int) (n : Nat) (B1 B2 c1 c2 : Nat) (h : TabB w t b s) (ok : Okr s) (hn : s.n = n) (h1 : RowK 26 .u64 w B1 n s.tag) (h2 : RowK 3 .i64 w B2 n s.slot) (hc1 : n ≤ c1) (hc2 : n ≤ c2) :
    Calls Try.prog 36 #[.pointer (some ⟨t, 0, none⟩), .agg #[.int .i64 S, .int .i64 A, .int .i64 C, .int .i64 (n : Int), .int .i64 G, .int .i64 K], .slice (some ⟨B1, 0, none⟩) n c1, .slice (some ⟨B2, 0, none⟩) n c2] w fun e w' => e = .returned (.bool true) ∧ Below w.heap.size w w' := by
  have hn16 : n ≤ 16 := by rw [← hn]; exact ok.n
  have lt := h.lm
  have lb := h.lb
  have l1 := h1.lt
  have l2 := h2.lt
  replace h := Lib.hid h
  replace ok := Lib.hid ok
  replace h1 := Lib.hid h1
  replace h2 := Lib.hid h2
  replace hn := Lib.hid hn
  go_enter Try.func36, Try.ntmps36
  have hC := Blk.new w 48 #[.int .i64 S, .int .i64 A, .int .i64 C, .int .i64 (n : Int), .int .i64 G, .int .i64 K]
  have h0 := Lib.hid (h.out.alloc (.cells #[.int .i64 S, .int .i64 A, .int .i64 C, .int .i64 (n : Int), .int .i64 G, .int .i64 K] 48))
  have r1 := Lib.hid (h1.out.next ((Below.refl _ w).alloc (Nat.le_refl _) (.cells #[.int .i64 S, .int .i64 A, .int .i64 C, .int .i64 (n : Int), .int .i64 G, .int .i64 K] 48)))
  have r2 := Lib.hid (h2.out.next ((Below.refl _ w).alloc (Nat.le_refl _) (.cells #[.int .i64 S, .int .i64 A, .int .i64 C, .int .i64 (n : Int), .int .i64 G, .int .i64 K] 48)))
  have hB0 := Lib.hid ((Below.refl _ w).alloc (Nat.le_refl _) (.cells #[.int .i64 S, .int .i64 A, .int .i64 C, .int .i64 (n : Int), .int .i64 G, .int .i64 K] 48))
  go_wp2
  replace hC := Lib.hid hC
  generalize hw1 : w.alloc (.cells #[.int .i64 S, .int .i64 A, .int .i64 C, .int .i64 (n : Int), .int .i64 G, .int .i64 K] 48) = w1 at *
  clear h h1 h2
  go_loopw [9, 10, 11] (fun u v z wr => ∃ i : Nat, i ≤ n ∧ u = .int .i64 (cnt s.hd i : Int) ∧ v = .bool (decide (fst s.fr i < i)) ∧ z = .int .i64 (i : Int) ∧ Below w1.heap.size w1 wr) (fun _ _ z _ => n - (intOf z).toNat)
  case atStart => exact ⟨0, Nat.zero_le _, rfl, by rw [decide_eq_false (Nat.not_lt_zero _)], rfl, Below.refl _ _⟩
  case round =>
    obtain ⟨i, hi, rfl, rfl, rfl, hB⟩ := hrel
    have c3 := (hC.out.below hB hC.out.lt).cell (i := 3) rfl
    have hcl := cnt_le s.hd i
    by_cases hlt : i < n
    · have y1 := ((r1.out.next hB).cell hlt).1
      have y2 := ((r2.out.next hB).cell hlt).1
      have hT := Lib.hid (h0.out.next hB)
      have tg := ok.out.tag i (by rw [hn.out]; exact hlt)
      have hW : wordV s (i : Int) = (entryV (s.tag i) (s.slot i)).1 := by unfold wordV; rw [if_pos ⟨Int.natCast_nonneg i, by rw [hn.out]; omega⟩, Int.toNat_natCast]
      have hcs : cnt s.hd (i + 1) = cnt s.hd i + (if s.hd i = true then 1 else 0) := rfl
      have hfs := fst_succ s.fr i
      replace hB := Lib.hid hB
      have tg0 := Lib.hid tg
      replace hW := Lib.hid hW
      go_wp2
      go_quiet ((go_at_call 48; refine (rEntry_c _ _ _ tg0.out.1).mono ?_; rintro e w' ⟨rfl, ⟨nd, rfl⟩⟩; first | exact ⟨rfl, _, World.drewN_drewN _ _ _⟩ | exact ⟨rfl, _, Eq.trans (World.drewN_drewN _ _ _) (congrArg (World.drewN _) (Nat.add_assoc _ _ _))⟩))
      generalize hrm : decide (fst s.fr i < i) = rm at *
      clear hrm
      by_cases q1 : 0 ≤ s.slot i
      · have hd1 : s.hd i = true := decide_eq_true q1
        have fr1 : s.fr i = false := by
          cases q : s.fr i with
          | false => rfl
          | true => have := (fr_iff.1 q).1; omega
        rw [hd1, if_pos rfl] at hcs
        rw [fr1] at hfs
        replace hcs := Lib.hid hcs
        replace hfs := Lib.hid hfs
        replace hd1 := Lib.hid hd1
        replace fr1 := Lib.hid fr1
        cases rm
        all_goals
          go_wp2_with (go_at_call 38; refine (word_c _ t b s _ (hT.out.drewN _) ok.out).mono ?_; rintro e w2 ⟨rfl, hb2⟩; rw [hW.out]; have hB2 := (below_drewN' hB.out).trans (hb2.mono hB.out.size); have z3 := (hC.out.below hB2 hC.out.lt).cell (i := 3) rfl; have z1 := ((r1.out.next hB2).cell hlt).1; have z2 := ((r2.out.next hB2).cell hlt).1; replace hB2 := Lib.hid hB2; replace hb2 := Lib.hid hb2)
          go_roundw
          case rel => exact ⟨i + 1, by omega, by rw [hcs.out]; go_num, by rw [hfs.out]; rfl, by go_num, hB2.out⟩
          case measure => simp [intOf]; omega
      · have hd1 : s.hd i = false := decide_eq_false q1
        rw [hd1, if_neg (by decide)] at hcs
        by_cases q2 : s.tag i < 4294967295
        · have fr1 : s.fr i = true := fr_iff.2 ⟨by omega, q2⟩
          rw [fr1] at hfs
          replace hcs := Lib.hid hcs
          replace hfs := Lib.hid hfs
          replace hd1 := Lib.hid hd1
          replace fr1 := Lib.hid fr1
          cases rm
          all_goals
            go_wp2_with (go_at_call 38; refine (word_c _ t b s _ (hT.out.drewN _) ok.out).mono ?_; rintro e w2 ⟨rfl, hb2⟩; rw [hW.out]; have hB2 := (below_drewN' hB.out).trans (hb2.mono hB.out.size); have z3 := (hC.out.below hB2 hC.out.lt).cell (i := 3) rfl; have z1 := ((r1.out.next hB2).cell hlt).1; have z2 := ((r2.out.next hB2).cell hlt).1; replace hB2 := Lib.hid hB2; replace hb2 := Lib.hid hb2)
            go_roundw
            case rel => exact ⟨i + 1, by omega, by rw [hcs.out]; rfl, by first | (rw [hfs.out]; rfl) | (rw [hfs.out, decide_eq_false (Int.not_lt.2 q2)]; rfl), by go_num, hB2.out⟩
            case measure => simp [intOf]; omega
        · have fr1 : s.fr i = false := by
            cases q : s.fr i with
            | false => rfl
            | true => exact absurd (fr_iff.1 q).2 q2
          rw [fr1] at hfs
          replace hcs := Lib.hid hcs
          replace hfs := Lib.hid hfs
          replace hd1 := Lib.hid hd1
          replace fr1 := Lib.hid fr1
          cases rm
          all_goals
            go_wp2_with (go_at_call 38; refine (word_c _ t b s _ (hT.out.drewN _) ok.out).mono ?_; rintro e w2 ⟨rfl, hb2⟩; rw [hW.out]; have hB2 := (below_drewN' hB.out).trans (hb2.mono hB.out.size); have z3 := (hC.out.below hB2 hC.out.lt).cell (i := 3) rfl; have z1 := ((r1.out.next hB2).cell hlt).1; have z2 := ((r2.out.next hB2).cell hlt).1; replace hB2 := Lib.hid hB2; replace hb2 := Lib.hid hb2)
            go_roundw
            case rel => exact ⟨i + 1, by omega, by rw [hcs.out]; rfl, by first | (rw [hfs.out]; rfl) | (rw [hfs.out, decide_eq_false (Int.not_lt.2 q2)]; rfl), by go_num, hB2.out⟩
            case measure => simp [intOf]; omega
    · have : i = n := by omega
      subst this
      have hW1 : wordV s (-1) = 0 := by unfold wordV; rw [if_neg (fun c => by have := c.1; omega)]
      have hW2 : wordV s (i : Int) = 0 := by unfold wordV; rw [if_neg (fun c => by have := c.2; rw [hn.out] at this; omega)]
      have hH : cnt s.hd s.n = cnt s.hd i := by rw [hn.out]
      have hR : decide (s.at_ < s.n) = decide (fst s.fr i < i) := by unfold Rt.at_; rw [hn.out]
      have hT := Lib.hid (h0.out.next hB)
      replace hB := Lib.hid hB
      replace hW1 := Lib.hid hW1
      replace hW2 := Lib.hid hW2
      replace hH := Lib.hid hH
      replace hR := Lib.hid hR
      generalize hrm : decide (fst s.fr i < i) = rm at *
      clear hrm
      go_wp2_with (first
        | (go_at_call 30; refine (held_c _ t b s hT.out ok.out).mono ?_; rintro e w2 ⟨rfl, hb2⟩; rw [hH.out]; have hB2 := hB.out.trans (hb2.mono hB.out.size); have hT2 := Lib.hid (hT.out.next hb2); replace hB2 := Lib.hid hB2; replace hb2 := Lib.hid hb2)
        | (go_at_call 31; refine (room_c _ t b s hT2.out ok.out).mono ?_; rintro e w3 ⟨rfl, hb3⟩; rw [hR.out]; have hB3 := hB2.out.trans (hb3.mono hB2.out.size); have hT3 := Lib.hid (hT2.out.next hb3); replace hB3 := Lib.hid hB3; replace hb3 := Lib.hid hb3)
        | (go_at_call 38; with_reducible (show Calls Try.prog 38 _ w4 _); refine (word_c _ t b s (i : Int) hT4.out ok.out).mono ?_; rintro e w5 ⟨rfl, hb5⟩; rw [hW2.out]; have hB5 := hB4.out.trans (hb5.mono hB4.out.size); replace hB5 := Lib.hid hB5; replace hb5 := Lib.hid hb5)
        | (go_at_call 38; refine (word_c _ t b s (-1) hT3.out ok.out).mono ?_; rintro e w4 ⟨rfl, hb4⟩; rw [hW1.out]; have hB4 := hB3.out.trans (hb4.mono hB3.out.size); have hT4 := Lib.hid (hT3.out.next hb4); have z3 := (hC.out.below hB4 hC.out.lt).cell (i := 3) rfl; replace hB4 := Lib.hid hB4; replace hb4 := Lib.hid hb4))
      go_ret
      exact ⟨rfl, hB0.out.trans (hB5.out.mono hB0.out.size)⟩
end Go.Proofs.Ytljfpkdbooineaa.RootI
