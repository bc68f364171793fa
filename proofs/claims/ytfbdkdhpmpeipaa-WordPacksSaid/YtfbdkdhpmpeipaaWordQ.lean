/-
  The word of any values; what was packed is unpacked: the law WordPacks's walk; condition: the values' row as it is read.
-/
import Derived.Test.YtfbdkdhpmpeipaaWordP
set_option linter.unusedVariables false
namespace Go.Proofs.Ytfbdkdhpmpeipaa.WordC
open Go.RowKit Go.Proofs.Ytfbdkdhpmpeipaa.PTagHandles Go.Proofs.YtfbdkdhpmpeipaaW.PrintWords Go.Proofs.YtfbdkdhpmpeipaaW.PrintLast Go.Proofs.Ytfbdkdhpmpeipaa.Core
/-- The sizes. -/
def NS (l : List S36) : List Int := l.map (fun b => b.f0)
theorem NS_len (l : List S36) : (NS l).length = l.length := by simp [NS]
theorem NS_take (l : List S36) (j : Nat) (h : j < l.length) : (NS l).take (j + 1) = (NS l).take j ++ [(rd_T36 l (j : Int)).f0] := by
  rw [List.take_add_one, ← rd_map]
  congr 1
  have hj : j < (NS l).length := by rw [NS_len]; exact h
  unfold rd
  rw [List.getD_eq_getElem?_getD, Int.toNat_natCast]
  show (NS l)[j]?.toList = [(NS l)[j]?.getD 0]
  rw [List.getElem?_eq_getElem hj]
  rfl
set_option maxHeartbeats 4000000 in
theorem packs_yes (A : Option Addr) (c : Nat) (l : List S36) (pv : Int) (vals : List Int) (hl : l.length < 8796093022208) (w : World) (hr : Kd.C k36 w A l.length l) (hc : l.length ≤ c)
    (hp : word_Pack.f (l.length + 1) l = some (pv, true))
    (hR : ∀ w, Kd.C k36 w A l.length l → Calls Try.prog 23 #[.slice A l.length c] w fun e w' => e = .returned (.tuple #[.int .u64 pv, .bool true]) ∧ Drawn0 w w')
    (hu : word_Unpack.f (l.length + 1) pv (NS l) = some (vals, true)) (hn : vals.length = l.length) (hv : ∀ j, j < l.length → rd vals (j : Int) = (rd_T36 l (j : Int)).f1) :
    Calls Try.prog 7 #[.slice A l.length c] w fun e w' => e = .returned (.bool true) ∧ Below w.heap.size w w' := by
  have HR := Lib.hid hr
  have HC := Lib.hid hc
  have HP := Lib.hid hp
  have HRP := Lib.hid hR
  have HU := Lib.hid hu
  have HV := Lib.hid hv
  clear hr hc hp hR hu hv
  go_enter Try.func7, Try.ntmps7
  go_wp2_with (first | (go_at_call 22; refine (word_Pack.calls (l.length + 1) A c l pv true _ HR.out HC.out HP.out).mono ?_; rintro e w1 ⟨rfl, hb1⟩; have HR1 := Lib.hid (Kd.C_below HR.out hb1); replace hb1 := Lib.hid hb1) | (go_at_call 23; refine (HRP.out _ HR1.out).mono ?_; rintro e w' ⟨rfl, ⟨nd, rfl⟩⟩))
  go_loopw [7, 8] (fun u z wr => ∃ j : Nat, j ≤ l.length ∧ Kd.R (Kd.int .i64) 3 wr w.heap.size (fun _ => True) u ((NS l).take j) ∧ z = .int .i64 (j : Int) ∧ Below w.heap.size w wr) (fun _ z _ => l.length - (intOf z).toNat)
  case atStart => exact ⟨0, Nat.zero_le _, Kd.R_nil _ _ _ _ _, rfl, pw_below_drewN hb1.out _⟩
  case round =>
    obtain ⟨j, hj, hRj, rfl, hBj⟩ := hrel
    replace hRj := Lib.hid hRj
    replace hBj := Lib.hid hBj
    by_cases hlt : j < l.length
    · obtain ⟨ad, ea, hx, hy⟩ := at_T36 (Kd.C_below HR.out hBj.out) (j : Int) (by omega) (by omega)
      subst ea
      rw [Int.toNat_natCast] at hx hy
      have htk := Lib.hid (NS_take l j hlt)
      go_wp2_with ((with_reducible refine gate_builtin (b := .append) (xs := #[.tmp 36, .tmp 42]) rfl ?_); at_builtin; refine Kd.R_append (Kd.int .i64) (w0 := w) w.heap.size rfl (.tmp 36) (.tmp 42) 34 3 (.int .i64 0) 8 rfl Try.underlying34 info3 rfl (by decide) (by omega) _ ((NS l).take j) (rd_T36 l (j : Int)).f0 [.int .i64 (rd_T36 l (j : Int)).f0] (fun _ => True) (fun _ => False) rfl rfl rfl (fun _ hk => hk.elim) (fun _ _ => trivial) hRj.out hBj.out hBj.out.size (by have := NS_len l; simp only [List.length_take]; omega) ?_; intro v1 w10 ho hb hg hat; rw [← htk.out] at ho; replace ho := Lib.hid ho; replace hb := Lib.hid hb; clear hg hat)
      go_roundw
      case rel => exact ⟨j + 1, by omega, ho.out, by go_num, hb.out⟩
      case measure => simp [intOf]; omega
    · have : j = l.length := by omega
      subst this
      obtain ⟨A2, c2, hA2, hc2, hC2⟩ := Kd.R_reads hRj.out
      rw [List.take_of_length_le (by rw [NS_len]; exact Nat.le_refl _)] at hA2 hc2 hC2
      subst hA2
      rw [NS_len]
      replace hC2 := Lib.hid hC2
      replace hc2 := Lib.hid hc2
      have hlen := Lib.hid (NS_len l)
      go_wp2_with ((go_at_call 24; rw [← hlen.out]; refine (word_Unpack.calls (l.length + 1) pv A2 c2 (NS l) vals true _ hC2.out hc2.out HU.out).mono ?_; rintro e w2 ⟨v0, rfl, hv0, hb2⟩; obtain ⟨A3, c3, rfl, hc3, hC3⟩ := Kd.R_reads hv0; rw [hn, hlen.out]; replace hC3 := Lib.hid hC3; replace hb2 := Lib.hid (hBj.out.trans (hb2.mono hBj.out.size)); clear hv0))
      go_loopw [11] (fun z wr => ∃ j : Nat, j ≤ l.length ∧ z = .int .i64 (j : Int) ∧ Drawn0 w2 wr) (fun z _ => l.length - (intOf z).toNat)
      case atStart => exact ⟨0, Nat.zero_le _, rfl, Drawn0.refl _⟩
      case round =>
        obtain ⟨j, hj, rfl, ⟨nd0, rfl⟩⟩ := hrel
        by_cases hlt : j < l.length
        · obtain ⟨ad, ea, hx, hy⟩ := at_T36 (Kd.C_below HR.out hb2.out) (j : Int) (by omega) (by omega)
          obtain ⟨ad3, ea3, hx3⟩ := Kd.at_int hC3.out (j : Int) (by omega) (by rw [hn]; omega)
          subst ea ea3
          rw [HV.out j hlt] at hx3
          rw [Int.toNat_natCast] at hx hy hx3
          go_wp2
          go_quiet (fail)
          go_wp2
          go_roundw
          case rel => exact ⟨j + 1, by omega, by go_num, ⟨_, rfl⟩⟩
          case measure => simp [intOf]; omega
        · have : j = l.length := by omega
          subst this
          go_wp2_with (go_at_call 17; refine (awake_c _).mono ?_; rintro e w' ⟨rfl, hb⟩; replace hb := Lib.hid hb)
          go_ret
          exact ⟨rfl, (pw_below_drewN hb2.out _).trans (hb.out.mono (by simpa using hb2.out.size))⟩
set_option maxHeartbeats 4000000 in
theorem packs_no (A : Option Addr) (c : Nat) (l : List S36) (vals : List Int) (ub : Bool) (hl : l.length < 8796093022208) (w : World) (hr : Kd.C k36 w A l.length l) (hc : l.length ≤ c)
    (hp : word_Pack.f (l.length + 1) l = some (0, false))
    (hR : ∀ w, Kd.C k36 w A l.length l → Calls Try.prog 23 #[.slice A l.length c] w fun e w' => e = .returned (.tuple #[.int .u64 0, .bool false]) ∧ Drawn0 w w')
    (hu : word_Unpack.f (l.length + 1) 0 (NS l) = some (vals, ub)) :
    Calls Try.prog 7 #[.slice A l.length c] w fun e w' => e = .returned (.bool true) ∧ Below w.heap.size w w' := by
  have HR := Lib.hid hr
  have HC := Lib.hid hc
  have HP := Lib.hid hp
  have HRP := Lib.hid hR
  have HU := Lib.hid hu
  clear hr hc hp hR hu
  go_enter Try.func7, Try.ntmps7
  go_wp2_with (first | (go_at_call 22; refine (word_Pack.calls (l.length + 1) A c l 0 false _ HR.out HC.out HP.out).mono ?_; rintro e w1 ⟨rfl, hb1⟩; have HR1 := Lib.hid (Kd.C_below HR.out hb1); replace hb1 := Lib.hid hb1) | (go_at_call 23; refine (HRP.out _ HR1.out).mono ?_; rintro e w' ⟨rfl, ⟨nd, rfl⟩⟩))
  go_loopw [7, 8] (fun u z wr => ∃ j : Nat, j ≤ l.length ∧ Kd.R (Kd.int .i64) 3 wr w.heap.size (fun _ => True) u ((NS l).take j) ∧ z = .int .i64 (j : Int) ∧ Below w.heap.size w wr) (fun _ z _ => l.length - (intOf z).toNat)
  case atStart => exact ⟨0, Nat.zero_le _, Kd.R_nil _ _ _ _ _, rfl, pw_below_drewN hb1.out _⟩
  case round =>
    obtain ⟨j, hj, hRj, rfl, hBj⟩ := hrel
    replace hRj := Lib.hid hRj
    replace hBj := Lib.hid hBj
    by_cases hlt : j < l.length
    · obtain ⟨ad, ea, hx, hy⟩ := at_T36 (Kd.C_below HR.out hBj.out) (j : Int) (by omega) (by omega)
      subst ea
      rw [Int.toNat_natCast] at hx hy
      have htk := Lib.hid (NS_take l j hlt)
      go_wp2_with ((with_reducible refine gate_builtin (b := .append) (xs := #[.tmp 36, .tmp 42]) rfl ?_); at_builtin; refine Kd.R_append (Kd.int .i64) (w0 := w) w.heap.size rfl (.tmp 36) (.tmp 42) 34 3 (.int .i64 0) 8 rfl Try.underlying34 info3 rfl (by decide) (by omega) _ ((NS l).take j) (rd_T36 l (j : Int)).f0 [.int .i64 (rd_T36 l (j : Int)).f0] (fun _ => True) (fun _ => False) rfl rfl rfl (fun _ hk => hk.elim) (fun _ _ => trivial) hRj.out hBj.out hBj.out.size (by have := NS_len l; simp only [List.length_take]; omega) ?_; intro v1 w10 ho hb hg hat; rw [← htk.out] at ho; replace ho := Lib.hid ho; replace hb := Lib.hid hb; clear hg hat)
      go_roundw
      case rel => exact ⟨j + 1, by omega, ho.out, by go_num, hb.out⟩
      case measure => simp [intOf]; omega
    · have : j = l.length := by omega
      subst this
      obtain ⟨A2, c2, hA2, hc2, hC2⟩ := Kd.R_reads hRj.out
      rw [List.take_of_length_le (by rw [NS_len]; exact Nat.le_refl _)] at hA2 hc2 hC2
      subst hA2
      rw [NS_len]
      replace hC2 := Lib.hid hC2
      replace hc2 := Lib.hid hc2
      have hlen := Lib.hid (NS_len l)
      go_wp2_with ((go_at_call 24; rw [← hlen.out]; refine (word_Unpack.calls (l.length + 1) 0 A2 c2 (NS l) vals ub _ hC2.out hc2.out HU.out).mono ?_; rintro e w2 ⟨v0, rfl, hv0, hb2⟩; obtain ⟨A3, c3, rfl, hc3, hC3⟩ := Kd.R_reads hv0; rw [hlen.out]; replace hC3 := Lib.hid hC3; replace hb2 := Lib.hid (hBj.out.trans (hb2.mono hBj.out.size)); clear hv0))
      go_loopw [11] (fun z wr => z = .int .i64 0 ∧ Drawn0 w2 wr) (fun z _ => 0)
      case atStart => exact ⟨rfl, Drawn0.refl _⟩
      case round =>
        obtain ⟨rfl, ⟨nd0, rfl⟩⟩ := hrel
        by_cases hlt : 0 < l.length
        all_goals
          go_wp2_with (go_at_call 17; refine (awake_c _).mono ?_; rintro e w' ⟨rfl, hb⟩; replace hb := Lib.hid hb)
          go_ret
          exact ⟨rfl, (pw_below_drewN hb2.out _).trans (hb.out.mono (by simpa using hb2.out.size))⟩
theorem packs_c (A : Option Addr) (c : Nat) (l : List S36) (hl : l.length < 8796093022208) (hV : V64 l) (hV' : ∀ b ∈ l, 0 ≤ b.f1 ∧ b.f1 < 18446744073709551616) (w : World) (hr : Kd.C k36 w A l.length l) (hc : l.length ≤ c) :
    Calls Try.prog 7 #[.slice A l.length c] w fun e w' => e = .returned (.bool true) ∧ Below w.heap.size w w' := by
  have hp := p_Pack (l.length + 1) l (by omega) (by omega) hV'
  rcases least (good l) l.length with h | ⟨m, hm, h, hb⟩
  · rw [pack_all l h] at hp
    obtain ⟨_, hb2, hw0, hw1⟩ := WJ_bd l hV l.length (Nat.le_refl _) h
    have hw2 := Int.lt_of_lt_of_le hw1 (pow_le64 _ (by omega))
    have hu := p_Unpack (l.length + 1) (WJ l l.length) (NS l) (by rw [NS_len]; omega) (by rw [NS_len]; omega) hw0 hw2
    have hsp := unp_spec (WJ l l.length) (NS l) 0 []
    simp only [Int.zero_add, List.nil_append] at hsp
    rcases hsp with ⟨vals, e, hv, hh⟩ | ⟨e, m, hm, _, hf⟩
    · rw [e] at hu
      refine packs_yes A c l _ vals hl w hr hc hp (fun w hr => rPack_yes A c l (by omega) w hr hc hV h) hu (by rw [hv, NS_len]) (fun j hj => ?_)
      have hj' := (hh j (by rw [NS_len]; exact hj)).2
      have e1 : rd (NS l) (j : Int) = (rd_T36 l (j : Int)).f0 := rd_map l j
      rw [e1] at hj'
      rw [hj']
      exact get_eq l hV h j hj
    · exfalso
      have g := (h m (by rw [NS_len] at hm; exact hm)).1
      have e1 : rd (NS l) (m : Int) = (rd_T36 l (m : Int)).f0 := rd_map l m
      rw [e1] at hf
      have : okB (NJ l m) (rd_T36 l (m : Int)).f0 = false := hf
      rw [g] at this
      cases this
  · rw [pack_bad l m hm h hb] at hp
    have hu := p_Unpack (l.length + 1) 0 (NS l) (by rw [NS_len]; omega) (by rw [NS_len]; omega) (by decide) (by decide)
    exact packs_no A c l _ _ hl w hr hc hp (fun w hr => rPack_no A c m l (by omega) w hr hc hV hm h hb) hu
end Go.Proofs.Ytfbdkdhpmpeipaa.WordC
