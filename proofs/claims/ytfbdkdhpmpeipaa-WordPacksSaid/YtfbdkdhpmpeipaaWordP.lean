/-
  The word of any values, as the code and the document have it: plain lemmas; condition: the values are numbers of 64 bits.
-/
import Derived.Test.YtfbdkdhpmpeipaaWordU
set_option linter.unusedVariables false
namespace Go.Proofs.Ytfbdkdhpmpeipaa.WordC
open Go.RowKit Go.Proofs.Ytfbdkdhpmpeipaa.PTagHandles Go.Proofs.YtfbdkdhpmpeipaaW.PrintWords Go.Proofs.YtfbdkdhpmpeipaaW.PrintLast Go.Proofs.Ytfbdkdhpmpeipaa.Core
/-- How many bits the first j values have. -/
def NJ (l : List S36) (j : Nat) : Int := atJ (l.map (fun b => b.f0)) j
/-- The word of the first j values. -/
def WJ (l : List S36) : Nat → Int
  | 0 => 0
  | j + 1 => WJ l j + (rd_T36 l (j : Int)).f1 * 2 ^ (NJ l j).toNat
def good (l : List S36) (j : Nat) : Prop := okB (NJ l j) (rd_T36 l (j : Int)).f0 = true ∧ fitsB (rd_T36 l (j : Int)).f1 (rd_T36 l (j : Int)).f0 = true
theorem rd_map (l : List S36) (j : Nat) : rd (l.map (fun b => b.f0)) (j : Int) = (rd_T36 l (j : Int)).f0 := by
  unfold rd rd_T36
  rw [Int.toNat_natCast, List.getD_eq_getElem?_getD, List.getD_eq_getElem?_getD, List.getElem?_map]
  cases l[j]? <;> rfl
theorem NJ_0 (l : List S36) : NJ l 0 = 0 := atJ_0 _
theorem NJ_step (l : List S36) (j : Nat) (h : j < l.length) : NJ l (j + 1) = NJ l j + (rd_T36 l (j : Int)).f0 := by
  unfold NJ
  rw [atJ_step _ j (by simpa using h), rd_map]
theorem drop_cons (l : List S36) (j : Nat) (h : j < l.length) : l.drop j = rd_T36 l (j : Int) :: l.drop (j + 1) := by
  rw [List.drop_eq_getElem_cons h]
  congr 1
  unfold rd_T36
  rw [Int.toNat_natCast, List.getD_eq_getElem?_getD, List.getElem?_eq_getElem h]
  rfl
/-- All values are numbers of 64 bits. -/
def V64 (l : List S36) : Prop := ∀ j, j < l.length → 0 ≤ (rd_T36 l (j : Int)).f1 ∧ (rd_T36 l (j : Int)).f1 < 18446744073709551616
theorem fits_lt {v n : Int} (hv : fitsB v n = true) (h : n ≤ 64) (h1 : v < 18446744073709551616) : v < 2 ^ n.toNat := by
  simp only [fitsB, Bool.and_eq_true, Bool.or_eq_true, decide_eq_true_eq] at hv
  rcases hv.2 with h2 | h2
  · rw [show n = 64 from by omega]; exact h1
  · exact h2
theorem WJ_bd (l : List S36) (hv : V64 l) : ∀ j, j ≤ l.length → (∀ i, i < j → good l i) → 0 ≤ NJ l j ∧ NJ l j ≤ 64 ∧ 0 ≤ WJ l j ∧ WJ l j < 2 ^ (NJ l j).toNat := by
  intro j
  induction j with
  | zero => intro _ _; rw [NJ_0]; simp [WJ]
  | succ j ih =>
    intro hj h
    obtain ⟨h1, h2, h3, h4⟩ := ih (by omega) (fun i hi => h i (by omega))
    obtain ⟨g1, g2⟩ := h j (by omega)
    obtain ⟨v1, v2⟩ := hv j (by omega)
    have hp := pack_step g1 g2 h3 h4 v1 v2
    have g1' := okB_iff.1 g1
    rw [NJ_step l j (by omega)]
    refine ⟨by omega, by omega, hp.2.2, hp.2.1⟩
theorem pack_steps (l : List S36) : ∀ j, j ≤ l.length → (∀ i, i < j → good l i) → packF l 0 0 = packF (l.drop j) (WJ l j) (NJ l j) := by
  intro j
  induction j with
  | zero => intro _ _; rw [NJ_0]; simp [WJ]
  | succ j ih =>
    intro hj h
    rw [ih (by omega) (fun i hi => h i (by omega)), drop_cons l j (by omega)]
    simp only [packF]
    have g := h j (by omega)
    unfold good at g
    rw [if_pos g, NJ_step l j (by omega)]
    rfl
theorem pack_all (l : List S36) (h : ∀ i, i < l.length → good l i) : packF l 0 0 = (WJ l l.length, true) := by
  rw [pack_steps l l.length (Nat.le_refl _) h, List.drop_length]; rfl
theorem pack_bad (l : List S36) (m : Nat) (hm : m < l.length) (h : ∀ i, i < m → good l i) (hb : ¬ good l m) : packF l 0 0 = (0, false) := by
  rw [pack_steps l m (by omega) h, drop_cons l m hm]
  simp only [packF]
  unfold good at hb
  rw [if_neg hb]
theorem least (p : Nat → Prop) (n : Nat) : (∀ i, i < n → p i) ∨ ∃ m, m < n ∧ (∀ i, i < m → p i) ∧ ¬ p m := by
  induction n with
  | zero => exact Or.inl (fun i h => by omega)
  | succ n ih =>
    rcases ih with h | ⟨m, hm, h, hb⟩
    · by_cases c : p n
      · exact Or.inl (fun i hi => by by_cases e : i = n; { subst e; exact c }; exact h i (by omega))
      · exact Or.inr ⟨n, by omega, h, c⟩
    · exact Or.inr ⟨m, by omega, h, hb⟩
/-- Set, where nothing stood. -/
theorem set_eq (l : List S36) (hv : V64 l) (j : Nat) (hj : j < l.length) (h : ∀ i, i ≤ j → good l i) : setV (WJ l j) (NJ l j) (rd_T36 l (j : Int)).f0 (rd_T36 l (j : Int)).f1 = WJ l (j + 1) := by
  obtain ⟨h1, h2, h3, h4⟩ := WJ_bd l hv j (by omega) (fun i hi => h i (by omega))
  obtain ⟨g1, g2⟩ := h j (by omega)
  obtain ⟨v1, v2⟩ := hv j hj
  have g3 := okB_iff.1 g1
  have hlt := fits_lt g2 (by omega) v2
  show _ = WJ l j + (rd_T36 l (j : Int)).f1 * 2 ^ (NJ l j).toNat
  unfold setV
  rw [if_pos g1]
  generalize (rd_T36 l (j : Int)).f1 = v at *
  generalize (rd_T36 l (j : Int)).f0 = n at *
  generalize NJ l j = a at *
  generalize WJ l j = x at *
  obtain ⟨x, rfl⟩ := Int.eq_ofNat_of_zero_le h3
  obtain ⟨v, rfl⟩ := Int.eq_ofNat_of_zero_le v1
  obtain ⟨a, rfl⟩ := Int.eq_ofNat_of_zero_le h1
  obtain ⟨n, rfl⟩ := Int.eq_ofNat_of_zero_le (show 0 ≤ n by omega)
  simp only [Int.toNat_natCast] at *
  have hx : x < 2 ^ a := by exact_mod_cast h4
  have hw : v < 2 ^ n := by exact_mod_cast hlt
  have e : setN x a n v = x + v * 2 ^ a := by
    have hx2 : x < 2 ^ (a + n) := Nat.lt_of_lt_of_le hx (Nat.pow_le_pow_right (by decide) (by omega))
    unfold setN
    rw [Nat.div_eq_of_lt hx2, Nat.mod_eq_of_lt hw, Nat.mod_eq_of_lt hx, Nat.mul_zero, Nat.zero_add, Nat.mul_comm, Nat.add_comm]
  rw [e]
  simp
theorem NJ_mono (l : List S36) (n : Nat) (hn : n ≤ l.length) (h : ∀ i, i < n → good l i) (j : Nat) (hj : j ≤ n) : NJ l j ≤ NJ l n := by
  induction n with
  | zero => rw [show j = 0 from by omega]; exact Int.le_refl _
  | succ n ih =>
    by_cases e : j = n + 1
    · rw [e]; exact Int.le_refl _
    · have := ih (by omega) (fun i hi => h i (by omega)) (by omega)
      have g := okB_iff.1 (h n (by omega)).1
      rw [NJ_step l n (by omega)]
      omega
/-- The lowest bits stay. -/
theorem WJ_mod (l : List S36) (hv : V64 l) (j : Nat) : ∀ n, n ≤ l.length → j ≤ n → (∀ i, i < n → good l i) → WJ l n % 2 ^ (NJ l j).toNat = WJ l j := by
  intro n
  induction n with
  | zero =>
    intro _ hj _
    rw [show j = 0 from by omega]
    simp [WJ]
  | succ n ih =>
    intro hn hj h
    by_cases e : j = n + 1
    · rw [e]
      have := WJ_bd l hv (n + 1) hn h
      exact Int.emod_eq_of_lt this.2.2.1 this.2.2.2
    · have hi := ih (by omega) (by omega) (fun i hi => h i (by omega))
      have hm := NJ_mono l n (by omega) (fun i hi => h i (by omega)) j (by omega)
      show (WJ l n + (rd_T36 l (n : Int)).f1 * 2 ^ (NJ l n).toNat) % 2 ^ (NJ l j).toNat = WJ l j
      have e2 : (2 : Int) ^ (NJ l n).toNat = 2 ^ (NJ l j).toNat * 2 ^ ((NJ l n).toNat - (NJ l j).toNat) := by rw [← Int.pow_add, Nat.add_sub_cancel' (by omega)]
      rw [e2, Int.mul_left_comm, Int.add_mul_emod_self_left, hi]
theorem get_eq (l : List S36) (hv : V64 l) (h : ∀ i, i < l.length → good l i) (j : Nat) (hj : j < l.length) : getV (WJ l l.length) (NJ l j) (rd_T36 l (j : Int)).f0 = (rd_T36 l (j : Int)).f1 := by
  have hm := WJ_mod l hv (j + 1) l.length (Nat.le_refl _) (by omega) h
  obtain ⟨h1, h2, h3, h4⟩ := WJ_bd l hv j (by omega) (fun i hi => h i (by omega))
  have hw := WJ_bd l hv l.length (Nat.le_refl _) h
  obtain ⟨g1, g2⟩ := h j hj
  obtain ⟨v1, v2⟩ := hv j hj
  have g3 := okB_iff.1 g1
  rw [NJ_step l j hj] at hm
  have hmm : WJ l l.length % 2 ^ (NJ l j + (rd_T36 l (j : Int)).f0).toNat = WJ l j + (rd_T36 l (j : Int)).f1 * 2 ^ (NJ l j).toNat := hm
  unfold getV
  rw [if_pos g1]
  generalize (rd_T36 l (j : Int)).f1 = v at *
  generalize (rd_T36 l (j : Int)).f0 = n at *
  generalize NJ l j = a at *
  generalize WJ l j = x at *
  generalize WJ l l.length = y at *
  obtain ⟨x, rfl⟩ := Int.eq_ofNat_of_zero_le h3
  obtain ⟨y, rfl⟩ := Int.eq_ofNat_of_zero_le hw.2.2.1
  obtain ⟨v, rfl⟩ := Int.eq_ofNat_of_zero_le v1
  obtain ⟨a, rfl⟩ := Int.eq_ofNat_of_zero_le h1
  obtain ⟨n, rfl⟩ := Int.eq_ofNat_of_zero_le (show 0 ≤ n by omega)
  rw [show ((a : Int) + (n : Int)).toNat = a + n from by omega] at hmm
  simp only [Int.toNat_natCast] at *
  have hmN : y % 2 ^ (a + n) = x + v * 2 ^ a := by exact_mod_cast hmm
  have hx : x < 2 ^ a := by exact_mod_cast h4
  have e : y / 2 ^ a % 2 ^ n = v := by
    have e1 : y / 2 ^ a % 2 ^ n = (y % 2 ^ (a + n)) / 2 ^ a := by rw [Nat.pow_add, Nat.mod_mul_right_div_self]
    rw [e1, hmN, Nat.add_mul_div_right _ _ (Nat.two_pow_pos a), Nat.div_eq_of_lt hx, Nat.zero_add]
  rw [← e]
  simp
set_option maxHeartbeats 2000000 in
theorem rPack_yes (A : Option Addr) (c : Nat) (l : List S36) (hl : l.length < 17592186044416) (w : World) (hr : Kd.C k36 w A l.length l) (hc : l.length ≤ c) (hv : V64 l) (h : ∀ i, i < l.length → good l i) :
    Calls Try.prog 23 #[.slice A l.length c] w fun e w' => e = .returned (.tuple #[.int .u64 (WJ l l.length), .bool true]) ∧ Drawn0 w w' := by
  have HR := Lib.hid hr
  have HC := Lib.hid hc
  have H := Lib.hid h
  have HV := Lib.hid hv
  clear hr hc h hv
  go_enter Try.func23, Try.ntmps23
  go_wp2
  go_loopw [4, 5, 6] (fun u v z wr => ∃ j : Nat, j ≤ l.length ∧ u = .int .u64 (WJ l j) ∧ v = .int .i64 (NJ l j) ∧ z = .int .i64 (j : Int) ∧ Drawn0 w wr) (fun _ _ z _ => l.length - (intOf z).toNat)
  case atStart => exact ⟨0, Nat.zero_le _, rfl, by rw [NJ_0], rfl, Drawn0.refl _⟩
  case round =>
    obtain ⟨j, hj, rfl, rfl, rfl, ⟨nd0, rfl⟩⟩ := hrel
    by_cases hlt : j < l.length
    · obtain ⟨g1, g2⟩ := H.out j hlt
      have hst := Lib.hid (NJ_step l j hlt)
      have hset := Lib.hid (set_eq l HV.out j hlt (fun i hi => H.out i (by omega)))
      obtain ⟨v1, v2⟩ := HV.out j hlt
      obtain ⟨d1, d2, d3, d4⟩ := WJ_bd l HV.out j (by omega) (fun i hi => H.out i (by omega))
      have d5 := Int.lt_of_lt_of_le d4 (pow_le64 _ (by omega))
      obtain ⟨d6, d7, _, _⟩ := WJ_bd l HV.out (j + 1) (by omega) (fun i hi => H.out i (by omega))
      rw [hst.out] at d6 d7
      clear d4
      obtain ⟨ad, ea, hx, hy⟩ := at_T36 HR.out (j : Int) (by omega) (by omega)
      subst ea
      rw [Int.toNat_natCast] at hx hy
      replace g1 := Lib.hid g1
      replace g2 := Lib.hid g2
      go_wp2
      go_quiet (first | (go_at_call 25; refine (rSome_c _ _ _).mono ?_; rintro e w' ⟨rfl, ⟨nd, rfl⟩⟩; rw [g1.out]; first | exact ⟨rfl, _, World.drewN_drewN _ _ _⟩ | exact ⟨rfl, _, Eq.trans (World.drewN_drewN _ _ _) (congrArg (World.drewN _) (Nat.add_assoc _ _ _))⟩) | (go_at_call 21; refine (rFits_c _ _ _).mono ?_; rintro e w' ⟨rfl, ⟨nd, rfl⟩⟩; rw [g2.out]; first | exact ⟨rfl, _, World.drewN_drewN _ _ _⟩ | exact ⟨rfl, _, Eq.trans (World.drewN_drewN _ _ _) (congrArg (World.drewN _) (Nat.add_assoc _ _ _))⟩))
      go_wp2
      go_quiet ((go_at_call 19; refine (rSet_c _ _ _ _ (by omega) (by omega) (by omega) (by omega) _).mono ?_; rintro e w' ⟨rfl, ⟨nd, rfl⟩⟩; rw [hset.out]; first | exact ⟨rfl, _, World.drewN_drewN _ _ _⟩ | exact ⟨rfl, _, Eq.trans (World.drewN_drewN _ _ _) (congrArg (World.drewN _) (Nat.add_assoc _ _ _))⟩))
      go_wp2
      go_roundw
      case rel => exact ⟨j + 1, by omega, rfl, congrArg (Value.int .i64) hst.out.symm, by go_num, ⟨_, rfl⟩⟩
      case measure => simp [intOf]; omega
    · have : j = l.length := by omega
      subst this
      go_wp2
      go_ret2
      exact ⟨rfl, ⟨_, rfl⟩⟩
set_option maxHeartbeats 2000000 in
theorem rPack_no (A : Option Addr) (c : Nat) (m : Nat) (l : List S36) (hl : l.length < 17592186044416) (w : World) (hr : Kd.C k36 w A l.length l) (hc : l.length ≤ c) (hv : V64 l) (hm : m < l.length) (h : ∀ i, i < m → good l i) (hb : ¬ good l m) :
    Calls Try.prog 23 #[.slice A l.length c] w fun e w' => e = .returned (.tuple #[.int .u64 0, .bool false]) ∧ Drawn0 w w' := by
  have HR := Lib.hid hr
  have HC := Lib.hid hc
  have H := Lib.hid h
  have HV := Lib.hid hv
  clear hr hc h hv
  go_enter Try.func23, Try.ntmps23
  go_wp2
  go_loopw [4, 5, 6] (fun u v z wr => ∃ j : Nat, j ≤ m ∧ u = .int .u64 (WJ l j) ∧ v = .int .i64 (NJ l j) ∧ z = .int .i64 (j : Int) ∧ Drawn0 w wr) (fun _ _ z _ => m - (intOf z).toNat)
  case atStart => exact ⟨0, Nat.zero_le _, rfl, by rw [NJ_0], rfl, Drawn0.refl _⟩
  case round =>
    obtain ⟨j, hj, rfl, rfl, rfl, ⟨nd0, rfl⟩⟩ := hrel
    by_cases hlt : j < m
    · obtain ⟨g1, g2⟩ := H.out j hlt
      have hst := Lib.hid (NJ_step l j (by omega))
      have hset := Lib.hid (set_eq l HV.out j (by omega) (fun i hi => H.out i (by omega)))
      obtain ⟨v1, v2⟩ := HV.out j (by omega)
      obtain ⟨d1, d2, d3, d4⟩ := WJ_bd l HV.out j (by omega) (fun i hi => H.out i (by omega))
      have d5 := Int.lt_of_lt_of_le d4 (pow_le64 _ (by omega))
      obtain ⟨d6, d7, _, _⟩ := WJ_bd l HV.out (j + 1) (by omega) (fun i hi => H.out i (by omega))
      rw [hst.out] at d6 d7
      clear d4
      obtain ⟨ad, ea, hx, hy⟩ := at_T36 HR.out (j : Int) (by omega) (by omega)
      subst ea
      rw [Int.toNat_natCast] at hx hy
      replace g1 := Lib.hid g1
      replace g2 := Lib.hid g2
      go_wp2
      go_quiet (first | (go_at_call 25; refine (rSome_c _ _ _).mono ?_; rintro e w' ⟨rfl, ⟨nd, rfl⟩⟩; rw [g1.out]; first | exact ⟨rfl, _, World.drewN_drewN _ _ _⟩ | exact ⟨rfl, _, Eq.trans (World.drewN_drewN _ _ _) (congrArg (World.drewN _) (Nat.add_assoc _ _ _))⟩) | (go_at_call 21; refine (rFits_c _ _ _).mono ?_; rintro e w' ⟨rfl, ⟨nd, rfl⟩⟩; rw [g2.out]; first | exact ⟨rfl, _, World.drewN_drewN _ _ _⟩ | exact ⟨rfl, _, Eq.trans (World.drewN_drewN _ _ _) (congrArg (World.drewN _) (Nat.add_assoc _ _ _))⟩))
      go_wp2
      go_quiet ((go_at_call 19; refine (rSet_c _ _ _ _ (by omega) (by omega) (by omega) (by omega) _).mono ?_; rintro e w' ⟨rfl, ⟨nd, rfl⟩⟩; rw [hset.out]; first | exact ⟨rfl, _, World.drewN_drewN _ _ _⟩ | exact ⟨rfl, _, Eq.trans (World.drewN_drewN _ _ _) (congrArg (World.drewN _) (Nat.add_assoc _ _ _))⟩))
      go_wp2
      go_roundw
      case rel => exact ⟨j + 1, by omega, rfl, congrArg (Value.int .i64) hst.out.symm, by go_num, ⟨_, rfl⟩⟩
      case measure => simp [intOf]; omega
    · have : j = m := by omega
      subst this
      obtain ⟨ad, ea, hx, hy⟩ := at_T36 HR.out (j : Int) (by omega) (by omega)
      subst ea
      rw [Int.toNat_natCast] at hx hy
      unfold good at hb
      by_cases c1 : okB (NJ l j) (rd_T36 l (j : Int)).f0 = true
      · have c2 : fitsB (rd_T36 l (j : Int)).f1 (rd_T36 l (j : Int)).f0 = false := by
          cases e : fitsB (rd_T36 l (j : Int)).f1 (rd_T36 l (j : Int)).f0 with
          | false => rfl
          | true => exact absurd ⟨c1, e⟩ hb
        clear hb
        replace c1 := Lib.hid c1
        replace c2 := Lib.hid c2
        go_wp2
        go_quiet (first | (go_at_call 25; refine (rSome_c _ _ _).mono ?_; rintro e w' ⟨rfl, ⟨nd, rfl⟩⟩; rw [c1.out]; first | exact ⟨rfl, _, World.drewN_drewN _ _ _⟩ | exact ⟨rfl, _, Eq.trans (World.drewN_drewN _ _ _) (congrArg (World.drewN _) (Nat.add_assoc _ _ _))⟩) | (go_at_call 21; refine (rFits_c _ _ _).mono ?_; rintro e w' ⟨rfl, ⟨nd, rfl⟩⟩; rw [c2.out]; first | exact ⟨rfl, _, World.drewN_drewN _ _ _⟩ | exact ⟨rfl, _, Eq.trans (World.drewN_drewN _ _ _) (congrArg (World.drewN _) (Nat.add_assoc _ _ _))⟩))
        go_wp2
        go_ret2
        exact ⟨rfl, ⟨_, World.drewN_drewN _ _ _⟩⟩
      · replace c1 := Lib.hid (Bool.eq_false_iff.mpr c1)
        clear hb
        go_wp2
        go_quiet (first | (go_at_call 25; refine (rSome_c _ _ _).mono ?_; rintro e w' ⟨rfl, ⟨nd, rfl⟩⟩; rw [c1.out]; first | exact ⟨rfl, _, World.drewN_drewN _ _ _⟩ | exact ⟨rfl, _, Eq.trans (World.drewN_drewN _ _ _) (congrArg (World.drewN _) (Nat.add_assoc _ _ _))⟩))
        go_wp2
        go_ret2
        exact ⟨rfl, ⟨_, World.drewN_drewN _ _ _⟩⟩
end Go.Proofs.Ytfbdkdhpmpeipaa.WordC
