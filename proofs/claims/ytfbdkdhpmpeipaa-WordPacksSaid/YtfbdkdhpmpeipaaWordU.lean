/-
  The numbers of any word, of any sizes: the law WordUnpacks's walk; condition: the sizes' row as it is read.
-/
import Derived.Test.YtfbdkdhpmpeipaaWordB
set_option linter.unusedVariables false
namespace Go.Proofs.Ytfbdkdhpmpeipaa.WordC
open Go.RowKit Go.Proofs.Ytfbdkdhpmpeipaa.PTagHandles Go.Proofs.YtfbdkdhpmpeipaaW.PrintWords Go.Proofs.YtfbdkdhpmpeipaaW.PrintLast Go.Proofs.Ytfbdkdhpmpeipaa.Core
/-- How many bits the first j sizes have. -/
def atJ (l : List Int) (j : Nat) : Int := (l.take j).sum
theorem atJ_0 (l : List Int) : atJ l 0 = 0 := by simp [atJ]
theorem rd_cons (n : Int) (l : List Int) (j : Nat) : rd (n :: l) ((j + 1 : Nat) : Int) = rd l (j : Int) := by simp [rd]
theorem rd_zero (n : Int) (l : List Int) : rd (n :: l) ((0 : Nat) : Int) = n := by simp [rd]
theorem atJ_cons (n : Int) (l : List Int) (j : Nat) : atJ (n :: l) (j + 1) = n + atJ l j := by simp [atJ]
theorem atJ_step (l : List Int) : ∀ j, j < l.length → atJ l (j + 1) = atJ l j + rd l (j : Int) := by
  induction l with
  | nil => intro j h; simp at h
  | cons n l ih =>
    intro j h
    match j with
    | 0 => rw [atJ_cons, atJ_0, atJ_0, rd_zero]; omega
    | j + 1 =>
      rw [atJ_cons, atJ_cons, rd_cons, ih j (by simpa using h)]; omega
/-- What Unpack's answer is: all the numbers, or nothing. -/
theorem unp_spec (w : Int) (l : List Int) : ∀ (a : Int) (acc : List Int),
    (∃ vals, unpF w l a acc = (acc ++ vals, true) ∧ vals.length = l.length ∧ ∀ j, j < l.length → okB (a + atJ l j) (rd l (j : Int)) = true ∧ rd vals (j : Int) = getV w (a + atJ l j) (rd l (j : Int))) ∨
    (unpF w l a acc = ([], false) ∧ ∃ m, m < l.length ∧ (∀ j, j < m → okB (a + atJ l j) (rd l (j : Int)) = true) ∧ okB (a + atJ l m) (rd l (m : Int)) = false) := by
  induction l with
  | nil => intro a acc; exact Or.inl ⟨[], by simp [unpF], rfl, fun j h => by simp at h⟩
  | cons n l ih =>
    intro a acc
    simp only [unpF]
    cases c : okB a n with
    | false =>
      refine Or.inr ⟨by simp, 0, by simp, fun j h => by omega, ?_⟩
      rw [atJ_0, rd_zero, Int.add_zero]; exact c
    | true =>
      rw [if_pos rfl]
      rcases ih (a + n) (acc ++ [getV w a n]) with ⟨vals, e, hl, h⟩ | ⟨e, m, hm, h, hf⟩
      · refine Or.inl ⟨getV w a n :: vals, by rw [e]; simp, by simp [hl], fun j hj => ?_⟩
        match j with
        | 0 => rw [atJ_0, rd_zero, rd_zero, Int.add_zero]; exact ⟨c, rfl⟩
        | j + 1 =>
          rw [atJ_cons, rd_cons, rd_cons, ← Int.add_assoc]
          exact h j (by simpa using hj)
      · refine Or.inr ⟨e, m + 1, by simpa using hm, fun j hj => ?_, ?_⟩
        · match j with
          | 0 => rw [atJ_0, rd_zero, Int.add_zero]; exact c
          | j + 1 =>
            rw [atJ_cons, rd_cons, ← Int.add_assoc]
            exact h j (by omega)
        · rw [atJ_cons, rd_cons, ← Int.add_assoc]; exact hf
theorem atJ_bd (l : List Int) (m : Nat) (hm : m ≤ l.length) (h : ∀ j, j < m → okB (atJ l j) (rd l (j : Int)) = true) : 0 ≤ atJ l m ∧ atJ l m ≤ 64 := by
  match m with
  | 0 => rw [atJ_0]; omega
  | m + 1 =>
    have := okB_iff.1 (h m (by omega))
    rw [atJ_step l m (by omega)]
    omega
set_option maxHeartbeats 2000000 in
theorem unp_yes (x : Int) (A : Option Addr) (c : Nat) (l vals : List Int) (h0 : 0 ≤ x) (h1 : x < 18446744073709551616) (hl : l.length < 17592186044416) (w : World) (hr : Kd.C (Kd.int .i64) w A l.length l) (hc : l.length ≤ c)
    (e : unpF x l 0 [] = (vals, true)) (hv : vals.length = l.length) (h : ∀ j, j < l.length → okB (atJ l j) (rd l (j : Int)) = true ∧ rd vals (j : Int) = getV x (atJ l j) (rd l (j : Int))) :
    Calls Try.prog 8 #[.int .u64 x, .slice A l.length c] w fun e w' => e = .returned (.bool true) ∧ Below w.heap.size w w' := by
  have hp := Lib.hid (show word_Unpack.f (l.length + 1) x l = some (vals, true) from by rw [p_Unpack (l.length + 1) x l (by omega) hl h0 h1, e])
  have HR := Lib.hid hr
  have HC := Lib.hid hc
  have H := Lib.hid h
  clear hr hc e h
  go_enter Try.func8, Try.ntmps8
  go_wp2_with (go_at_call 24; refine (word_Unpack.calls (l.length + 1) x A c l vals true _ HR.out HC.out hp.out).mono ?_; rintro e w1 ⟨v0, rfl, hv0, hb1⟩; obtain ⟨A1, c1, rfl, hc1, hC1⟩ := Kd.R_reads hv0; replace hC1 := Lib.hid hC1; replace hb1 := Lib.hid hb1; clear hv0)
  have hs := Lib.hid (Kd.C_below HR.out hb1.out)
  go_loopw [7, 8, 9] (fun u v z wr => ∃ j : Nat, j ≤ l.length ∧ u = .int .i64 (atJ l j) ∧ v = .bool true ∧ z = .int .i64 (j : Int) ∧ Drawn0 w1 wr) (fun _ _ z _ => l.length - (intOf z).toNat)
  case atStart => exact ⟨0, Nat.zero_le _, by rw [atJ_0], rfl, rfl, Drawn0.refl _⟩
  case round =>
    obtain ⟨j, hj, rfl, rfl, rfl, ⟨nd0, rfl⟩⟩ := hrel
    by_cases hlt : j < l.length
    · obtain ⟨hok, hget⟩ := H.out j hlt
      have hst := Lib.hid (atJ_step l j hlt)
      have hbd := atJ_bd l j (by omega) (fun i hi => (H.out i (by omega)).1)
      have hbd' := atJ_bd l (j + 1) (by omega) (fun i hi => (H.out i (by omega)).1)
      rw [hst.out] at hbd'
      obtain ⟨ad, ea, hx⟩ := Kd.at_int hs.out (j : Int) (by omega) (by omega)
      obtain ⟨ad1, ea1, hx1⟩ := Kd.at_int hC1.out (j : Int) (by omega) (by omega)
      subst ea ea1
      rw [Int.toNat_natCast] at hx hx1
      replace hok := Lib.hid hok
      replace hget := Lib.hid hget
      obtain ⟨b0, b1⟩ := hbd
      obtain ⟨b2, b3⟩ := hbd'
      go_wp2_with (first | (go_at_call 25; refine (rSome_c _ _ _).mono ?_; rintro e w' ⟨rfl, ⟨nd, rfl⟩⟩; rw [hok.out]) | (go_at_call 16; refine (rGet_c _ _ _ h0 h1 _).mono ?_; rintro e w' ⟨rfl, ⟨nd, rfl⟩⟩; rw [← hget.out]))
      go_quiet ((go_at_call 16; refine (rGet_c _ _ _ h0 h1 _).mono ?_; rintro e w' ⟨rfl, ⟨nd, rfl⟩⟩; rw [← hget.out]; first | exact ⟨rfl, _, World.drewN_drewN _ _ _⟩ | exact ⟨rfl, _, Eq.trans (World.drewN_drewN _ _ _) (congrArg (World.drewN _) (Nat.add_assoc _ _ _))⟩))
      go_wp2
      go_roundw
      case rel => exact ⟨j + 1, by omega, congrArg (Value.int .i64) hst.out.symm, rfl, by go_num, ⟨_, rfl⟩⟩
      case measure => simp [intOf]; omega
    · have : j = l.length := by omega
      subst this
      go_wp2_with (go_at_call 17; refine (awake_c _).mono ?_; rintro e w' ⟨rfl, hb⟩; replace hb := Lib.hid hb)
      go_ret
      exact ⟨rfl, (pw_below_drewN hb1.out _).trans (hb.out.mono (by simpa using hb1.out.size))⟩
set_option maxHeartbeats 2000000 in
theorem unp_no (x : Int) (A : Option Addr) (c : Nat) (l : List Int) (m : Nat) (h0 : 0 ≤ x) (h1 : x < 18446744073709551616) (hl : l.length < 17592186044416) (w : World) (hr : Kd.C (Kd.int .i64) w A l.length l) (hc : l.length ≤ c)
    (e : unpF x l 0 [] = ([], false)) (hm : m < l.length) (h : ∀ j, j < m → okB (atJ l j) (rd l (j : Int)) = true) (hf : okB (atJ l m) (rd l (m : Int)) = false) :
    Calls Try.prog 8 #[.int .u64 x, .slice A l.length c] w fun e w' => e = .returned (.bool true) ∧ Below w.heap.size w w' := by
  have hp := Lib.hid (show word_Unpack.f (l.length + 1) x l = some ([], false) from by rw [p_Unpack (l.length + 1) x l (by omega) hl h0 h1, e])
  have HR := Lib.hid hr
  have HC := Lib.hid hc
  have H := Lib.hid h
  have HF := Lib.hid hf
  clear hr hc e h hf
  go_enter Try.func8, Try.ntmps8
  go_wp2_with (go_at_call 24; refine (word_Unpack.calls (l.length + 1) x A c l [] false _ HR.out HC.out hp.out).mono ?_; rintro e w1 ⟨v0, rfl, hv0, hb1⟩; obtain ⟨A1, c1, rfl, hc1, hC1⟩ := Kd.R_reads hv0; rw [List.length_nil]; replace hb1 := Lib.hid hb1; clear hv0)
  have hs := Lib.hid (Kd.C_below HR.out hb1.out)
  go_loopw [7, 8, 9] (fun u v z wr => ∃ (j : Nat) (b : Bool), j ≤ m ∧ u = .int .i64 (atJ l j) ∧ v = .bool b ∧ z = .int .i64 (j : Int) ∧ Drawn0 w1 wr) (fun _ _ z _ => m - (intOf z).toNat)
  case atStart => exact ⟨0, true, Nat.zero_le _, by rw [atJ_0], rfl, rfl, Drawn0.refl _⟩
  case round =>
    obtain ⟨j, b, hj, rfl, rfl, rfl, ⟨nd0, rfl⟩⟩ := hrel
    obtain ⟨ad, ea, hx⟩ := Kd.at_int hs.out (j : Int) (by omega) (by omega)
    subst ea
    rw [Int.toNat_natCast] at hx
    by_cases hlt : j < m
    · have hok := H.out j hlt
      have hst := Lib.hid (atJ_step l j (by omega))
      have hbd := atJ_bd l j (by omega) (fun i hi => H.out i (by omega))
      have hbd' := atJ_bd l (j + 1) (by omega) (fun i hi => H.out i (by omega))
      rw [hst.out] at hbd'
      replace hok := Lib.hid hok
      obtain ⟨b0, b1⟩ := hbd
      obtain ⟨b2, b3⟩ := hbd'
      have hj0 : decide ((j : Int) < 0) = false := decide_eq_false (by omega)
      cases b
      all_goals
        go_wp2_with (first | (go_at_call 25; refine (rSome_c _ _ _).mono ?_; rintro e w' ⟨rfl, ⟨nd, rfl⟩⟩; rw [hok.out]))
        go_quiet (fail)
        go_wp2
        go_roundw
        case rel => exact ⟨j + 1, _, by omega, congrArg (Value.int .i64) hst.out.symm, rfl, by go_num, ⟨_, rfl⟩⟩
        case measure => simp [intOf]; omega
    · have : j = m := by omega
      subst this
      go_wp2_with (first | (go_at_call 25; refine (rSome_c _ _ _).mono ?_; rintro e w' ⟨rfl, ⟨nd, rfl⟩⟩; rw [HF.out]) | (go_at_call 17; refine (awake_c _).mono ?_; rintro e w' ⟨rfl, hb⟩; replace hb := Lib.hid hb))
      go_ret
      exact ⟨rfl, (pw_below_drewN hb1.out _).trans (hb.out.mono (by simpa using hb1.out.size))⟩
theorem unpacks_c (x : Int) (A : Option Addr) (c : Nat) (l : List Int) (h0 : 0 ≤ x) (h1 : x < 18446744073709551616) (hl : l.length < 17592186044416) (w : World) (hr : Kd.C (Kd.int .i64) w A l.length l) (hc : l.length ≤ c) :
    Calls Try.prog 8 #[.int .u64 x, .slice A l.length c] w fun e w' => e = .returned (.bool true) ∧ Below w.heap.size w w' := by
  have := unp_spec x l 0 []
  simp only [Int.zero_add, List.nil_append] at this
  rcases this with ⟨vals, e, hv, h⟩ | ⟨e, m, hm, h, hf⟩
  · exact unp_yes x A c l vals h0 h1 hl w hr hc e hv h
  · exact unp_no x A c l m h0 h1 hl w hr hc e hm h hf
end Go.Proofs.Ytfbdkdhpmpeipaa.WordC
