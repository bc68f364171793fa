/-
  A config made right (layer 6's reference), and the law RootFull's walk; no condition.
-/
import Derived.Test.YtljfpkdbooineaaRootD
import Derived.Test.YtljfpkdbooineaaPRootFullx1
set_option linter.unusedVariables false
namespace Go.Proofs.Ytljfpkdbooineaa.RootE
open Go.RowKit Go.Proofs.YtljfpkdbooineaaW.PrintWords Go.Proofs.YtljfpkdbooineaaW.PrintLast Go.Proofs.Ytljfpkdbooineaa.Blk Go.Proofs.Ytljfpkdbooineaa.Core Go.Proofs.Ytljfpkdbooineaa.RootP Go.Proofs.Ytljfpkdbooineaa.RootA Go.Proofs.Ytljfpkdbooineaa.RootB Go.Proofs.Ytljfpkdbooineaa.RootC Go.Proofs.Ytljfpkdbooineaa.RootN Go.Proofs.Ytljfpkdbooineaa.RootD
/-- What Fit makes. -/
def Small (S A C H G K : Int) : Prop := (1 ≤ S ∧ S ≤ 12) ∧ (0 ≤ A ∧ A ≤ 4) ∧ (1 ≤ C ∧ C ≤ 4) ∧ (1 ≤ H ∧ H ≤ 4) ∧ (1 ≤ G ∧ G ≤ 40) ∧ (0 ≤ K ∧ K ≤ 6)
theorem fit_f (a lo hi : Int) (h0 : 0 ≤ lo) (h1 : lo ≤ hi) (h2 : hi ≤ 100) : ∃ v, PRootFull.withyref06_fit.f a lo hi = some v ∧ lo ≤ v ∧ v ≤ hi := by
  unfold PRootFull.withyref06_fit.f
  have e1 : wrap64 (hi - lo) = hi - lo := wrap64_id _ (by omega) (by omega)
  have e2 : wrap64 (hi - lo + 1) = hi - lo + 1 := wrap64_id _ (by omega) (by omega)
  have e3 : IntKind.u64.wrap (hi - lo + 1) = hi - lo + 1 := wrap_u64_id _ (by omega) (by omega)
  have e4 : 0 ≤ IntKind.u64.wrap a := by rw [Core.wrap_u64]; omega
  rw [e1, e2, e3, if_neg (by omega), Int.tmod_eq_emod_of_nonneg e4]
  have h3 := Int.emod_nonneg (IntKind.u64.wrap a) (show hi - lo + 1 ≠ 0 by omega)
  have h4 := Int.emod_lt_of_pos (IntKind.u64.wrap a) (show 0 < hi - lo + 1 by omega)
  generalize IntKind.u64.wrap a % (hi - lo + 1) = r at *
  rw [wrap64_id r (by omega) (by omega), wrap64_id _ (by omega) (by omega)]
  exact ⟨_, rfl, by omega, by omega⟩
theorem Fit_f (a0 a1 a2 a3 a4 a5 : Int) : ∃ S A C H G K, PRootFull.withyref06_Fit.f a0 a1 a2 a3 a4 a5 = some (S, A, C, H, G, K) ∧ Small S A C H G K := by
  unfold PRootFull.withyref06_Fit.f Small
  obtain ⟨v0, e0, h0⟩ := fit_f a0 1 12 (by omega) (by omega) (by omega)
  obtain ⟨v1, e1, h1⟩ := fit_f a1 0 4 (by omega) (by omega) (by omega)
  obtain ⟨v2, e2, h2⟩ := fit_f a2 1 4 (by omega) (by omega) (by omega)
  obtain ⟨v3, e3, h3⟩ := fit_f a3 1 4 (by omega) (by omega) (by omega)
  obtain ⟨v4, e4, h4⟩ := fit_f a4 1 40 (by omega) (by omega) (by omega)
  obtain ⟨v5, e5, h5⟩ := fit_f a5 0 6 (by omega) (by omega) (by omega)
  exact ⟨v0, v1, v2, v3, v4, v5, by simp [e0, e1, e2, e3, e4, e5], h0, h1, h2, h3, h4, h5⟩
def cfg (S A C H G K : Int) : Value := .agg #[.int .i64 S, .int .i64 A, .int .i64 C, .int .i64 H, .int .i64 G, .int .i64 K]
theorem fit_c (a0 a1 a2 a3 a4 a5 : Int) (w : World) : Calls Try.prog 26 #[.agg #[.int .i64 a0, .int .i64 a1, .int .i64 a2, .int .i64 a3, .int .i64 a4, .int .i64 a5]] w fun e w' => ∃ S A C G K : Int, ∃ n : Nat, e = .returned (.agg #[.int .i64 S, .int .i64 A, .int .i64 C, .int .i64 (n : Int), .int .i64 G, .int .i64 K]) ∧ Small S A C (n : Int) G K ∧ Below w.heap.size w w' := by
  obtain ⟨S, A, C, H, G, K, e, hs⟩ := Fit_f a0 a1 a2 a3 a4 a5
  refine (PRootFull.withyref06_Fit.calls a0 a1 a2 a3 a4 a5 S A C H G K w e).mono ?_
  rintro e w' ⟨rfl, hb⟩
  have hs' := hs
  unfold Small at hs'
  obtain ⟨n, rfl⟩ := Int.eq_ofNat_of_zero_le (show 0 ≤ H by omega)
  exact ⟨S, A, C, G, K, n, rfl, hs, hb⟩
theorem small_right {S A C H G K : Int} (hs : Small S A C H G K) : rightB S A C H G K = true := by
  unfold Small at hs
  rw [right_iff]; omega
/-- The table when the first i entries have taken. -/
structure Full (s : Rt) (S : Int) (n i : Nat) : Prop where
  S : s.S = S
  n : s.n = n
  who : s.who = 0
  had : ∀ j, j < i → 0 ≤ s.slot j ∧ s.slot j < 64 ∧ s.tag j = 1
  free : ∀ j, i ≤ j → s.slot j = -1 ∧ s.tag j = 0
theorem Full.ok {s : Rt} {S : Int} {n i : Nat} (h : Full s S n i) (hn : n ≤ 16) : Okr s := by
  refine ⟨by rw [h.n]; exact hn, fun j _ => ?_, fun j _ => ?_⟩
  · rcases Nat.lt_or_ge j i with g | g
    · have := (h.had j g).2.2; omega
    · have := (h.free j g).2; omega
  · rcases Nat.lt_or_ge j i with g | g
    · have := h.had j g; omega
    · have := (h.free j g).1; omega
theorem Full.at_ {s : Rt} {S : Int} {n i : Nat} (h : Full s S n i) (hi : i < n) : s.at_ = i := by
  refine fst_eq (by rw [h.n]; exact hi) (fr_iff.2 ?_) (fun j hj => ?_)
  · have := h.free i (Nat.le_refl _); omega
  · cases q : s.fr j with
    | false => rfl
    | true => have := (fr_iff.1 q).1; have := (h.had j hj).1; omega
theorem Full.none {s : Rt} {S : Int} {n : Nat} (h : Full s S n n) : s.at_ = n := by
  have := fst_none (p := s.fr) (n := s.n) (fun j hj => ?_)
  · exact this.trans h.n
  · rw [h.n] at hj
    cases q : s.fr j with
    | false => rfl
    | true => have := (fr_iff.1 q).1; have := (h.had j hj).1; omega
theorem Full.take {s : Rt} {S : Int} {n i : Nat} (h : Full s S n i) (hi : i < n) {k : Int} (k0 : 0 ≤ k) (k1 : k < S) (hS : S ≤ 64) : takeB s k = true ∧ takeI s k = i ∧ Full (takeS s k) S n (i + 1) := by
  have ha := h.at_ hi
  have hB : takeB s k = true := takeB_iff.2 ⟨by rw [ha, h.n]; exact hi, k0, by rw [h.S]; exact k1⟩
  have e : takeS s k = { s with tag := upd s.tag i (s.tag i + 1), slot := upd s.slot i k } := by unfold takeS; rw [if_pos hB, ha]
  refine ⟨hB, by unfold takeI; rw [if_pos hB, ha], ?_⟩
  rw [e]
  refine ⟨h.S, h.n, h.who, fun j hj => ?_, fun j hj => ?_⟩
  · show 0 ≤ upd s.slot i k j ∧ upd s.slot i k j < 64 ∧ upd s.tag i (s.tag i + 1) j = 1
    unfold upd
    by_cases c : j = i
    · subst c; rw [if_pos rfl, if_pos rfl]; have := (h.free j (Nat.le_refl _)).2; omega
    · rw [if_neg c, if_neg c]; exact h.had j (by omega)
  · show upd s.slot i k j = -1 ∧ upd s.tag i (s.tag i + 1) j = 0
    unfold upd
    rw [if_neg (by omega), if_neg (by omega)]; exact h.free j (by omega)
theorem cnt_full {p : Nat → Bool} {i : Nat} (h1 : ∀ j, j < i → p j = true) (h2 : ∀ j, i ≤ j → p j = false) : ∀ n, cnt p n = min n i
  | 0 => by simp [cnt]
  | n + 1 => by
    rw [cnt, cnt_full h1 h2 n]
    rcases Nat.lt_or_ge n i with g | g
    · rw [if_pos (h1 n g)]; omega
    · rw [if_neg (by rw [h2 n g]; decide)]; omega
theorem Full.held {s : Rt} {S : Int} {n i : Nat} (h : Full s S n i) (hi : i ≤ n) : cnt s.hd s.n = i := by
  rw [cnt_full (p := s.hd) (i := i) (fun j hj => decide_eq_true (h.had j hj).1) (fun j hj => decide_eq_false (by have := (h.free j hj).1; omega)), h.n]
  omega
theorem cnt_but {p : Nat → Bool} {k : Nat} (h1 : ∀ j, j ≠ k → p j = true) (h2 : p k = false) : ∀ n, cnt p n + (if k < n then 1 else 0) = n
  | 0 => by simp [cnt]
  | n + 1 => by
    have ih := cnt_but h1 h2 n
    rw [cnt]
    by_cases c : n = k
    · subst c
      rw [if_neg (Nat.lt_irrefl n)] at ih
      rw [if_neg (by rw [h2]; decide), if_pos (Nat.lt_succ_self n)]
      omega
    · rw [if_pos (h1 n c)]
      by_cases d : k < n
      · rw [if_pos d] at ih; rw [if_pos (by omega)]; omega
      · rw [if_neg d] at ih; rw [if_neg (by omega)]; omega
theorem cnt_congr {p q : Nat → Bool} : ∀ n, (∀ j, j < n → p j = q j) → cnt p n = cnt q n
  | 0, _ => rfl
  | n + 1, h => by rw [cnt, cnt, cnt_congr n (fun j hj => h j (by omega)), h n (Nat.lt_succ_self n)]
/-- A full table of which one entry is dropped, and takes again. -/
theorem Full.drop {s : Rt} {S : Int} {n : Nat} (h : Full s S n n) (hn : n ≤ 16) (hS : 0 < S) {k : Nat} (hk : k < n) :
    dropB s (k : Int) = true ∧ Okr (dropS s (k : Int)) ∧ decide ((dropS s (k : Int)).at_ < (dropS s (k : Int)).n) = true ∧ cnt (dropS s (k : Int)).hd (dropS s (k : Int)).n = n - 1 ∧
    takeB (dropS s (k : Int)) 0 = true ∧ takeI (dropS s (k : Int)) 0 = k ∧ Okr (takeS (dropS s (k : Int)) 0) ∧ decide ((takeS (dropS s (k : Int)) 0).at_ < (takeS (dropS s (k : Int)) 0).n) = false := by
  have hB : dropB s (k : Int) = true := dropB_iff.2 ⟨⟨by omega, by rw [h.n]; omega⟩, by rw [Int.toNat_natCast]; exact (h.had k hk).1⟩
  have e : dropS s (k : Int) = { s with slot := upd s.slot k (-1) } := by unfold dropS; rw [if_pos hB, Int.toNat_natCast]
  rw [e]
  have hat : Rt.at_ { s with slot := upd s.slot k (-1) } = k := by
    refine fst_eq (by show k < s.n; rw [h.n]; exact hk) (fr_iff.2 ?_) (fun j hj => ?_)
    · show upd s.slot k (-1) k < 0 ∧ s.tag k < 4294967295
      have := h.had k hk
      unfold upd; rw [if_pos rfl]; omega
    · cases q : Rt.fr { s with slot := upd s.slot k (-1) } j with
      | false => rfl
      | true =>
        have q1 : upd s.slot k (-1) j < 0 := (fr_iff.1 q).1
        unfold upd at q1
        rw [if_neg (by omega)] at q1
        have := (h.had j (by omega)).1
        omega
  have hnn : Rt.n { s with slot := upd s.slot k (-1) } = n := h.n
  have tB : takeB { s with slot := upd s.slot k (-1) } 0 = true := takeB_iff.2 ⟨by rw [hat, hnn]; exact hk, Int.le_refl 0, by show 0 < s.S; rw [h.S]; exact hS⟩
  have eT : takeS { s with slot := upd s.slot k (-1) } 0 = { s with tag := upd s.tag k (s.tag k + 1), slot := upd (upd s.slot k (-1)) k 0 } := by
    unfold takeS; rw [if_pos tB, hat]
  refine ⟨hB, ?_, decide_eq_true (by rw [hat, hnn]; exact hk), ?_, tB, by unfold takeI; rw [if_pos tB, hat], ?_, ?_⟩
  · refine ⟨by rw [hnn]; exact hn, fun j hj => ?_, fun j hj => ?_⟩
    · rw [hnn] at hj
      have := h.had j hj
      show 0 ≤ s.tag j ∧ s.tag j ≤ _; omega
    · rw [hnn] at hj
      have := h.had j hj
      show -1 ≤ upd s.slot k (-1) j ∧ upd s.slot k (-1) j < 64
      unfold upd
      split <;> omega
  · have := cnt_but (p := fun j => decide (j ≠ k)) (k := k) (fun j hj => decide_eq_true hj) (by simp) n
    rw [if_pos hk] at this
    rw [hnn, cnt_congr (q := fun j => decide (j ≠ k)) n (fun j hj => ?_)]
    · omega
    · show decide (0 ≤ upd s.slot k (-1) j) = decide (j ≠ k)
      unfold upd
      by_cases c : j = k
      · subst c; rw [if_pos rfl]; simp
      · rw [if_neg c]
        have := (h.had j hj).1
        rw [decide_eq_true this, decide_eq_true c]
  · rw [eT]
    refine ⟨by show s.n ≤ 16; rw [h.n]; exact hn, fun j hj => ?_, fun j hj => ?_⟩
    · have hj' : j < n := by rw [← h.n]; exact hj
      have := h.had j hj'
      have := h.had k hk
      show 0 ≤ upd s.tag k (s.tag k + 1) j ∧ upd s.tag k (s.tag k + 1) j ≤ _
      unfold upd
      split <;> omega
    · have hj' : j < n := by rw [← h.n]; exact hj
      have := h.had j hj'
      show -1 ≤ upd (upd s.slot k (-1)) k 0 j ∧ upd (upd s.slot k (-1)) k 0 j < 64
      unfold upd
      split
      · omega
      · omega
  · rw [eT]
    refine decide_eq_false ?_
    have : Rt.at_ { s with tag := upd s.tag k (s.tag k + 1), slot := upd (upd s.slot k (-1)) k 0 } = n := by
      refine (fst_none (fun j hj => ?_)).trans h.n
      have hj' : j < n := by rw [← h.n]; exact hj
      cases q : Rt.fr { s with tag := upd s.tag k (s.tag k + 1), slot := upd (upd s.slot k (-1)) k 0 } j with
      | false => rfl
      | true =>
        have q1 : upd (upd s.slot k (-1)) k 0 j < 0 := (fr_iff.1 q).1
        unfold upd at q1
        by_cases c : j = k
        · rw [if_pos c] at q1; omega
        · rw [if_neg c, if_neg c] at q1
          have := (h.had j hj').1
          omega
    rw [this]
    show ¬ n < s.n
    rw [h.n]; omega
end Go.Proofs.Ytljfpkdbooineaa.RootE
