/-
  The law RootPlays's walk, at a right config: what each act answers, and what all entries are behind it; condition: the acts' row as it is read.
-/
import Derived.Test.YtljfpkdbooineaaRootJ
import Derived.Test.YtljfpkdbooineaaRootL
set_option linter.unusedVariables false
namespace Go.Proofs.Ytljfpkdbooineaa.RootK
open Go.RowKit Go.Proofs.YtljfpkdbooineaaW.PrintWords Go.Proofs.Ytljfpkdbooineaa.Blk Go.Proofs.Ytljfpkdbooineaa.Core Go.Proofs.Ytljfpkdbooineaa.RootP Go.Proofs.Ytljfpkdbooineaa.RootA Go.Proofs.Ytljfpkdbooineaa.RootB Go.Proofs.Ytljfpkdbooineaa.RootC Go.Proofs.Ytljfpkdbooineaa.RootN Go.Proofs.Ytljfpkdbooineaa.RootD Go.Proofs.Ytljfpkdbooineaa.RootE Go.Proofs.Ytljfpkdbooineaa.RootH Go.Proofs.Ytljfpkdbooineaa.RootI Go.Proofs.Ytljfpkdbooineaa.RootJ Go.Proofs.Ytljfpkdbooineaa.RootL Go.Proofs.Ytljfpkdbooineaa.Opens
/-- What holds of a table behind each act. -/
structure Pl (s : Rt) (m : Nat) (Z who : Int) : Prop where
  S : s.S = Z
  n : s.n = m
  who : s.who = who
  tag : ∀ i : Nat, i < m → 0 ≤ s.tag i ∧ s.tag i ≤ 4294967295
  slot : ∀ i : Nat, i < m → -1 ≤ s.slot i ∧ s.slot i < Z
theorem Pl.ok {s : Rt} {m : Nat} {Z who : Int} (h : Pl s m Z who) (hn : m ≤ 16) (hZ : Z ≤ 64) : Okr s := by
  refine ⟨by rw [h.n]; exact hn, fun i hi => ?_, fun i hi => ?_⟩
  · rw [h.n] at hi; exact h.tag i hi
  · rw [h.n] at hi; have := h.slot i hi; omega
theorem Pl.take {s : Rt} {m : Nat} {Z who : Int} (h : Pl s m Z who) (x : Int) : Pl (takeS s x) m Z who := by
  unfold takeS
  split
  · rename_i c
    obtain ⟨i2, x0, x1⟩ := takeB_iff.1 c
    rw [h.S] at x1
    obtain ⟨g1, g2⟩ := fr_iff.1 (show s.fr s.at_ = true from fst_is i2)
    generalize s.at_ = j at *
    refine ⟨h.S, h.n, h.who, fun i hi => ?_, fun i hi => ?_⟩
    · have := h.tag i hi
      show 0 ≤ upd s.tag j (s.tag j + 1) i ∧ upd s.tag j (s.tag j + 1) i ≤ 4294967295
      unfold upd
      by_cases c : i = j
      · subst c
        rw [if_pos rfl]
        omega
      · rw [if_neg c]; exact this
    · have := h.slot i hi
      show -1 ≤ upd s.slot j x i ∧ upd s.slot j x i < Z
      unfold upd; split <;> omega
  · exact h
theorem Pl.drop {s : Rt} {m : Nat} {Z who : Int} (h : Pl s m Z who) (hZ : 0 ≤ Z) (x : Int) : Pl (dropS s x) m Z who := by
  unfold dropS
  split
  · refine ⟨h.S, h.n, h.who, h.tag, fun i hi => ?_⟩
    have := h.slot i hi
    show -1 ≤ upd s.slot x.toNat (-1) i ∧ upd s.slot x.toNat (-1) i < Z
    unfold upd; split <;> omega
  · exact h
theorem rowK_congr {ty : TypeId} {k : IntKind} {w : World} {b n : Nat} {f g : Nat → Int} (h : RowK ty k w b n f) (he : ∀ i, i < n → f i = g i) : RowK ty k w b n g := by
  obtain ⟨cs, h4, h5⟩ := h.row
  exact ⟨cs, h4, fun i hi => by rw [← he i hi]; exact h5 i hi⟩
/-- The first i are x. -/
def fl (x : Int) (i : Nat) : Nat → Int := fun j => if j < i then x else 0
theorem fl_succ (x : Int) (i : Nat) : upd (fl x i) i x = fl x (i + 1) := by
  funext j
  unfold upd fl
  by_cases c : j = i
  · subst c; rw [if_pos rfl, if_pos (Nat.lt_succ_self j)]
  · rw [if_neg c]
    by_cases d : j < i
    · rw [if_pos d, if_pos (by omega)]
    · rw [if_neg d, if_neg (by omega)]
theorem fl_all (x : Int) (n i : Nat) (h : i < n) : fl x n i = x := if_pos h
set_option maxHeartbeats 400000000 in
set_option maxRecDepth 100000 in
theorem plays_in (S A C G K who tag : Int) (n : Nat) (AA : Option Addr) (len cap : Nat) (q : Nat → A3) (w : World) (hq : Acts3 w AA len q) (hc : len ≤ cap) (t0 : 0 ≤ tag) (hlen : len ≤ 200) (hgood : (rightB S A C (n : Int) G K = true ∧ 0 ≤ who ∧ who < C) ∧ tag ≤ 4294967295) :
    Calls Try.prog 9 #[.agg #[.int .i64 S, .int .i64 A, .int .i64 C, .int .i64 (n : Int), .int .i64 G, .int .i64 K], .int .i64 who, .int .u64 tag, .slice AA len cap] w fun e w' => e = .returned (.bool true) ∧ Below w.heap.size w w' := by
  have hf := Lib.hid (Blk.new w 48 #[.int .i64 S, .int .i64 A, .int .i64 C, .int .i64 (n : Int), .int .i64 G, .int .i64 K])
  obtain ⟨⟨g0, g1, g2⟩, g3⟩ := hgood
  have hr := right_iff.1 g0
  obtain ⟨s0, s1, s2, s3, s4, s5, s6, s7, s8, s9, s10, s11⟩ := hr
  have sn : n ≤ 16 := by omega
  replace g0 := Lib.hid g0
  replace hq := Lib.hid hq
  have m1 := fun w => make64 n (by omega) w
  have m2 := fun w => make63 n (by omega) w
  go_enter Try.func9, Try.ntmps9
  generalize hCFe : w.heap.size = CF at *
  go_wp2_with (first
    | (go_at_call 27; refine (new_c S A C G K who tag n _ t0 ⟨g0.out, g1, g2⟩ g3).mono ?_; rintro e w1 ⟨t, b, rfl, hT1, ht, hb, hb1⟩; have hf1 := hf.out.below hb1 hf.out.lt; have k0 := hf1.cell (i := 0) rfl; have k1 := hf1.cell (i := 1) rfl; have k2 := hf1.cell (i := 2) rfl; have k3 := hf1.cell (i := 3) rfl; have k4 := hf1.cell (i := 4) rfl; have k5 := hf1.cell (i := 5) rfl; replace hf1 := Lib.hid hf1; replace hT1 := Lib.hid hT1; replace hb1 := Lib.hid hb1)
    | (go_at_call 33; refine (rRight_c _ _ _ _ _ _ _).mono ?_; rintro e w2 ⟨rfl, hb2⟩; rw [g0.out]; have hf2 := hf1.out.below hb2 hf1.out.lt; have l2 := hf2.cell (i := 2) rfl; have hT2 := Lib.hid (hT1.out.next hb2); replace hf2 := Lib.hid hf2; replace hb2 := Lib.hid hb2)
    | (go_at_call 28; refine (awake_c _).mono ?_; rintro e w3 ⟨rfl, hb3⟩; have hf3 := hf2.out.below hb3 hf2.out.lt; have j3 := hf3.cell (i := 3) rfl; have j3' := (hf3.alloc (.cells (rowF .u64 n (fun _ => 0)) 26)).cell (i := 3) rfl; have hT3 := Lib.hid (hT2.out.next hb3); replace hf3 := Lib.hid hf3; replace hb3 := Lib.hid hb3))
  have hl3 := hf3.out.lt
  have z1 := hb1.out.size
  have z2 := hb2.out.size
  have z3 := hb3.out.size
  have lt3 := hT3.out.lm
  have lb3 := hT3.out.lb
  have gt : CF < t := by simp at ht; omega
  have gb : CF < b := by simp at hb; omega
  have hW1 : Below CF w w1 := hCFe ▸ below_pre hb1.out
  have hW3 : Below CF w w3 := (hW1.trans (hb2.out.mono (by simp at z1; omega))).trans (hb3.out.mono (by simp at z1; omega))
  have sza : (w3.alloc (.cells (rowF .u64 n (fun _ => 0)) 26)).heap.size = w3.heap.size + 1 := by simp
  have hf5 := Lib.hid ((hf3.out.alloc (.cells (rowF .u64 n (fun _ => 0)) 26)).alloc (.cells (rowF .i64 n (fun _ => 0)) 3))
  have hT5 := Lib.hid ((hT3.out.alloc (.cells (rowF .u64 n (fun _ => 0)) 26)).alloc (.cells (rowF .i64 n (fun _ => 0)) 3))
  have r1 := Lib.hid ((rowK_new 26 .u64 n w3).next ((Below.refl _ _).alloc (Nat.le_refl _) (.cells (rowF .i64 n (fun _ => 0)) 3)))
  have r2 := rowK_new 3 .i64 n (w3.alloc (.cells (rowF .u64 n (fun _ => 0)) 26))
  rw [sza] at r2
  have hW5 : Below CF w ((w3.alloc (.cells (rowF .u64 n (fun _ => 0)) 26)).alloc (.cells (rowF .i64 n (fun _ => 0)) 3)) := (hW3.alloc (by omega) _).alloc (by rw [sza]; omega) _
  have sz5 : ((w3.alloc (.cells (rowF .u64 n (fun _ => 0)) 26)).alloc (.cells (rowF .i64 n (fun _ => 0)) 3)).heap.size = w3.heap.size + 2 := by simp
  clear k0 k1 k2 k3 k4 k5 l2 j3 j3' hf1 hT1 hb1 hf2 hT2 hb2 hf3 hT3 hb3 hW1 hW3 sza z1 z2 z3 m1 m2 hf
  generalize hB1e : w3.heap.size = B1 at *
  generalize (w3.alloc (.cells (rowF .u64 n (fun _ => 0)) 26)).alloc (.cells (rowF .i64 n (fun _ => 0)) 3) = w5 at *
  replace r2 := Lib.hid r2
  replace hW5 := Lib.hid hW5
  go_loopw [12] (fun z wr => ∃ i : Nat, i ≤ n ∧ z = .int .i64 (i : Int) ∧ RowK 26 .u64 wr B1 n (fl tag i) ∧ RowK 3 .i64 wr (B1 + 1) n (fl (-1) i) ∧ Fr (fun k => k = B1 ∨ k = B1 + 1) w5 wr) (fun z _ => n - (intOf z).toNat)
  case atStart => exact ⟨0, Nat.zero_le _, rfl, r1.out, r2.out, Fr.refl _ _⟩
  case round =>
    obtain ⟨i, hi, rfl, hr1, hr2, hF⟩ := hrel
    have hC := hf5.out.fr hF (fun c => c.elim (fun e => by omega) (fun e => by omega))
    have c3 := hC.cell (i := 3) rfl
    by_cases hlt : i < n
    · obtain ⟨x1, y1⟩ := hr1.cell hlt
      obtain ⟨x2, y2⟩ := hr2.cell hlt
      replace hr1 := Lib.hid hr1
      replace hr2 := Lib.hid hr2
      replace hF := Lib.hid hF
      replace hC := Lib.hid hC
      have ne1 : ¬ B1 = B1 + 1 := by omega
      have ne2 : ¬ B1 + 1 = B1 := by omega
      go_wp2
      go_roundw
      case rel =>
        have f1 := Fr.set (fun k => k = B1 ∨ k = B1 + 1) wr (p := ⟨B1, i, none⟩) (Or.inl rfl) (.int .u64 tag)
        have f2 := Fr.set (fun k => k = B1 ∨ k = B1 + 1) (wr.setCell ⟨B1, i, none⟩ (.int .u64 tag)) (p := ⟨B1 + 1, i, none⟩) (Or.inr rfl) (.int .i64 (-1))
        have e1 := (hr1.out.set hlt tag).fr (Fr.set (fun k => k = B1 + 1) (wr.setCell ⟨B1, i, none⟩ (.int .u64 tag)) (p := ⟨B1 + 1, i, none⟩) rfl (.int .i64 (-1))) (by omega)
        have e2 := (hr2.out.fr (Fr.set (fun k => k = B1) wr (p := ⟨B1, i, none⟩) rfl (.int .u64 tag)) (by omega)).set hlt (-1)
        rw [fl_succ] at e1 e2
        exact ⟨i + 1, by omega, by go_num, e1, e2, (hF.out.trans f1).trans f2⟩
      case measure => simp [intOf]; omega
    · have : i = n := by omega
      subst this
      have hT6 := hT5.out.fr hF (fun c => c.elim (fun e => by omega) (fun e => by omega)) (fun c => c.elim (fun e => by omega) (fun e => by omega))
      have hW6 := hW5.out.trans (hF.below (fun k hk => ⟨by omega, fun c => c.elim (fun e => by omega) (fun e => by omega)⟩))
      have p1 := rowK_congr hr1 (g := (Rt.new S A C (i : Int) G K who i tag).tag) (fun j hj => fl_all _ _ _ hj)
      have p2 := rowK_congr hr2 (g := (Rt.new S A C (i : Int) G K who i tag).slot) (fun j hj => fl_all _ _ _ hj)
      have hXs : B1 + 2 ≤ wr.heap.size := by have := hF.size; omega
      have hP0 : Pl (Rt.new S A C (i : Int) G K who i tag) i S who := ⟨rfl, rfl, rfl, fun j _ => ⟨t0, g3⟩, fun j _ => ⟨Int.le_refl _, by show (-1 : Int) < S; omega⟩⟩
      replace p1 := Lib.hid p1
      replace p2 := Lib.hid p2
      replace hT6 := Lib.hid hT6
      replace hW6 := Lib.hid hW6
      replace hC := Lib.hid hC
      clear hr1 hr2 hF r1 r2 hT5 hf5 hW5
      go_wp2
      have nC : ¬ two t b CF := fun c => c.elim (fun e => by omega) (fun e => by omega)
      have n1 : ¬ two t b B1 := fun c => c.elim (fun e => by omega) (fun e => by omega)
      have n2 : ¬ two t b (B1 + 1) := fun c => c.elim (fun e => by omega) (fun e => by omega)
      have nX : ∀ k, B1 + 2 ≤ k → ¬ two t b k := fun k hk c => c.elim (fun e => by omega) (fun e => by omega)
      have gt' : CF ≤ t := by omega
      have gb' : CF ≤ b := by omega
      go_loopw [13, 14] (fun v z wr => ∃ (k : Nat) (s : Rt) (L : List Int), k ≤ len ∧ wr.ownsRow (B1 + 2) 26 1 v L.length (L.map (Value.int .u64)) ∧ L.length ≤ k ∧ (∀ x ∈ L, 0 ≤ x ∧ x < 18446744073709551616) ∧ z = .int .i64 (k : Int) ∧ TabB wr t b s ∧ Pl s i S who ∧ RowK 26 .u64 wr B1 i s.tag ∧ RowK 3 .i64 wr (B1 + 1) i s.slot ∧ Blk wr CF 48 #[.int .i64 S, .int .i64 A, .int .i64 C, .int .i64 (i : Int), .int .i64 G, .int .i64 K] ∧ Below CF w wr ∧ B1 + 2 ≤ wr.heap.size) (fun _ z _ => len - (intOf z).toNat)
      case atStart => exact ⟨0, _, [], Nat.zero_le _, World.ownsRow_nil _ _ _ _, Nat.le_refl _, (by intro x hx; cases hx), rfl, hT6.out, hP0, p1.out, p2.out, hC.out, hW6.out, hXs⟩
      case round =>
        obtain ⟨k, s, L, hk, hO, hLk, hLb, rfl, hT, hP, hr1, hr2, hCf, hB, hX⟩ := hrel
        obtain ⟨A1, c1, rfl, hLc, hrd⟩ := owns_reads hO
        have ok := Lib.hid (hP.ok sn (by omega))
        by_cases hlt : k < len
        · obtain ⟨bl, off, hbl, rfl, x0, x1, x2⟩ := hq.out.far hlt
          have hrk := hq.out.r k hlt
          have hnk := hq.out.nn k hlt
          generalize q k = act at *
          obtain ⟨ak, an, ar⟩ := act
          dsimp only at x0 x1 x2 hrk hnk
          have y0 := (hB.cell (p := ⟨bl, off + k * 3, none⟩) (show bl < CF by omega)).trans x0
          have y1 := (hB.cell (p := ⟨bl, off + k * 3 + 1, none⟩) (show bl < CF by omega)).trans x1
          have y2 := (hB.cell (p := ⟨bl, off + k * 3 + 2, none⟩) (show bl < CF by omega)).trans x2
          have hBa := Lib.hid (hB.alloc (by omega) (.cells #[.int .i64 ak, .int .i64 an, .int .u64 ar] 61))
          have hTa := Lib.hid (hT.alloc (.cells #[.int .i64 ak, .int .i64 an, .int .u64 ar] 61))
          have hr1a := Lib.hid (hr1.next ((Below.refl _ wr).alloc (Nat.le_refl _) (.cells #[.int .i64 ak, .int .i64 an, .int .u64 ar] 61)))
          have hr2a := Lib.hid (hr2.next ((Below.refl _ wr).alloc (Nat.le_refl _) (.cells #[.int .i64 ak, .int .i64 an, .int .u64 ar] 61)))
          have hCa := Lib.hid (hCf.alloc (.cells #[.int .i64 ak, .int .i64 an, .int .u64 ar] 61))
          have hOa := Lib.hid (owns_below hO ((Below.refl _ wr).alloc (Nat.le_refl _) (.cells #[.int .i64 ak, .int .i64 an, .int .u64 ar] 61)) (Nat.le_refl _))
          have hAa := Lib.hid (Blk.new wr 61 #[.int .i64 ak, .int .i64 an, .int .u64 ar])
          have hXa : B1 + 2 ≤ (wr.alloc (.cells #[.int .i64 ak, .int .i64 an, .int .u64 ar] 61)).heap.size := by simp; omega
          clear x0 x1 x2 hT hr1 hr2 hCf hO hrd hB
          by_cases a0 : ak = 0
          · subst a0
            have hai : s.at_ ≤ i := Nat.le_trans (fst_le s.fr s.n) (by rw [hP.n]; exact Nat.le_refl _)
            cases eB : takeB s an with
            | true =>
              obtain ⟨i2, u0, u1⟩ := takeB_iff.1 eB
              rw [hP.n] at i2
              rw [hP.S] at u1
              have eI : takeI s an = (s.at_ : Int) := by unfold takeI; rw [if_pos eB]
              have eH : takeH s an = (handleV who s.at_ (s.tag s.at_ + 1)).1 := by unfold takeH; rw [if_pos eB, hP.who]
              have eS : takeS s an = { s with tag := upd s.tag s.at_ (s.tag s.at_ + 1), slot := upd s.slot s.at_ an } := by unfold takeS; rw [if_pos eB]
              have hP1 := hP.take an
              have ok1 := Lib.hid (hP1.ok sn (by omega))
              obtain ⟨u2, u3⟩ := fr_iff.1 (show s.fr s.at_ = true from fst_is (show s.at_ < s.n by rw [hP.n]; exact i2))
              have tj := hP.tag _ i2
              have hhb : 0 ≤ takeH s an ∧ takeH s an < 18446744073709551616 := by
                rw [eH, handleV_yes (by omega)]
                show 0 ≤ 72057594037927936 * (who + 1) + 281474976710656 * (s.at_ : Int) + (s.tag s.at_ + 1) ∧ _
                omega
              replace eB := Lib.hid eB
              replace eI := Lib.hid eI
              replace eS := Lib.hid eS
              replace eH := Lib.hid eH
              replace u2 := Lib.hid u2
              replace hP1 := Lib.hid hP1
              go_upto_region 37 with (go_at_call 29; refine (take_c _ t b s _ hTa.out ok.out).mono ?_; rintro e w7 ⟨rfl, hT7, hF7⟩; rw [eB.out, eI.out]; have hr17 := Lib.hid (hr1a.out.fr hF7 n1); have hr27 := Lib.hid (hr2a.out.fr hF7 n2); have hC7 := Lib.hid (hCa.out.fr hF7 nC); have hB7 := Lib.hid (below_two hBa.out hF7 gt' gb' (by omega)); have hO7 := Lib.hid (owns_fr hOa.out hF7 nX); have hA7 := Lib.hid (hAa.out.fr hF7 (nX _ hX)); have hX7 := Nat.le_trans hXa hF7.size; replace hT7 := Lib.hid hT7; replace hF7 := Lib.hid hF7)
              generalize takeH s an = hh at *
              go_loopw [19] (fun z wr => ∃ j : Nat, j ≤ s.at_ ∧ z = .int .i64 (j : Int) ∧ Drawn0 w7 wr) (fun z _ => s.at_ - (intOf z).toNat)
              case atStart => exact ⟨0, Nat.zero_le _, rfl, Drawn0.refl _⟩
              case round =>
                obtain ⟨j, hj, rfl, ⟨nd, rfl⟩⟩ := hrel
                have d0 := hC7.out.cell (i := 0) rfl
                have d1 := hC7.out.cell (i := 1) rfl
                have d2 := hC7.out.cell (i := 2) rfl
                have d3 := hC7.out.cell (i := 3) rfl
                have d4 := hC7.out.cell (i := 4) rfl
                have d5 := hC7.out.cell (i := 5) rfl
                have e0 := hA7.out.cell (i := 0) rfl
                have e1 := hA7.out.cell (i := 1) rfl
                have e2 := hA7.out.cell (i := 2) rfl
                by_cases hja : j < s.at_
                · have hji : j < i := by omega
                  have v1 := (hr17.out.cell hji).1
                  have v2 := (hr27.out.cell hji).1
                  have hfj : s.fr j = false := fst_not hja
                  by_cases q1 : s.slot j < 0
                  · have tj := hP.tag j hji
                    have q3 : (s.tag j == 4294967295) = true := by
                      rw [beq_iff_eq]
                      rcases Int.lt_or_le (s.tag j) 4294967295 with g | g
                      · rw [fr_iff.2 ⟨q1, g⟩] at hfj; cases hfj
                      · omega
                    replace hfj := Lib.hid hfj
                    go_wp2
                    go_roundw
                    case rel => exact ⟨j + 1, by omega, by go_num, ⟨_, rfl⟩⟩
                    case measure => simp [intOf]; omega
                  · replace hfj := Lib.hid hfj
                    go_wp2
                    go_roundw
                    case rel => exact ⟨j + 1, by omega, by go_num, ⟨_, rfl⟩⟩
                    case measure => simp [intOf]; omega
                · have hje : s.at_ = j := by omega
                  have v1 := (hr17.out.cell i2).1
                  have v2 := (hr27.out.cell i2).1
                  have f1 := (hr17.out.cell i2).2
                  have f2 := (hr27.out.cell i2).2
                  have q1 := u2.out
                  rw [hje] at v1 v2 f1 f2 q1 i2 u3 tj
                  have q3 : (s.tag j == 4294967295) = false := beq_eq_false_iff_ne.2 (by omega)
                  have q4 : ((j : Int) == (i : Int)) = false := beq_eq_false_iff_ne.2 (by omega)
                  have ew : IntKind.u64.wrap (s.tag j + 1) = s.tag j + 1 := Core.wrap_u64_id _ (by omega) (by omega)
                  have ne1 : ¬ B1 = B1 + 1 := by omega
                  have ne2 : ¬ B1 + 1 = B1 := by omega
                  have ne3 : ¬ wr.heap.size = B1 := by omega
                  have ne4 : ¬ B1 = wr.heap.size := by omega
                  have ne5 : ¬ wr.heap.size = B1 + 1 := by omega
                  have ne6 : ¬ B1 + 1 = wr.heap.size := by omega
                  replace hje := Lib.hid hje
                  as_aux_lemma =>
                    go_upto_region 44 with (fail)
                    have hr1d := hr17.out.fr (Fr.drewN (fun _ => False) _ nd) id
                    have hr2d := hr27.out.fr (Fr.drewN (fun _ => False) _ nd) id
                    have x1' := (hr1d.set i2 (s.tag j + 1)).fr (Fr.set (fun k => k = B1 + 1) ((w7.drewN nd).setCell ⟨B1, j, none⟩ (.int .u64 (s.tag j + 1))) (p := ⟨B1 + 1, j, none⟩) rfl (.int .i64 an)) (by omega)
                    have x2' := (hr2d.fr (Fr.set (fun k => k = B1) (w7.drewN nd) (p := ⟨B1, j, none⟩) rfl (.int .u64 (s.tag j + 1))) (by omega)).set i2 an
                    have hF8 : Fr (fun k => k = B1 ∨ k = B1 + 1) w7 (((w7.drewN nd).setCell ⟨B1, j, none⟩ (.int .u64 (s.tag j + 1))).setCell ⟨B1 + 1, j, none⟩ (.int .i64 an)) := ((Fr.drewN _ w7 nd).trans (Fr.set (fun k => k = B1 ∨ k = B1 + 1) _ (p := ⟨B1, j, none⟩) (Or.inl rfl) _)).trans (Fr.set (fun k => k = B1 ∨ k = B1 + 1) _ (p := ⟨B1 + 1, j, none⟩) (Or.inr rfl) _)
                    clear v1 v2 f1 f2 d0 d1 d2 d3 d4 d5 e0 e1 e2 hr1d hr2d
                    generalize World.setCell (World.setCell (w7.drewN nd) ⟨B1, j, none⟩ (.int .u64 (s.tag j + 1))) ⟨B1 + 1, j, none⟩ (.int .i64 an) = w8 at *
                    have hT8 := Lib.hid (hT7.out.fr hF8 (fun c => c.elim (fun e => by omega) (fun e => by omega)) (fun c => c.elim (fun e => by omega) (fun e => by omega)))
                    have hC8 := hC7.out.fr hF8 (fun c => c.elim (fun e => by omega) (fun e => by omega))
                    have hO8 := Lib.hid (owns_fr hO7.out hF8 (fun k hk c => c.elim (fun e => by omega) (fun e => by omega)))
                    have hB8 := Lib.hid (hB7.out.trans (hF8.below (n := CF) (fun k hk => ⟨by have := hC7.out.lt; omega, fun c => c.elim (fun e => by omega) (fun e => by omega)⟩)))
                    have hX8 := Nat.le_trans hX7 hF8.size
                    have d3 := hC8.cell (i := 3) rfl
                    have v1 : w8.cell? ⟨B1, j, none⟩ = some (.int .u64 (s.tag j + 1)) := (x1'.cell i2).1.trans (congrArg (fun x => some (Value.int .u64 x)) (if_pos rfl))
                    have t1 : (takeS s an).tag = upd s.tag j (s.tag j + 1) := by rw [eS.out, hje.out]
                    have t2 : (takeS s an).slot = upd s.slot j an := by rw [eS.out, hje.out]
                    have R1 := Lib.hid (rowK_congr x1' (fun l _ => (congrFun t1 l).symm))
                    have R2 := Lib.hid (rowK_congr x2' (fun l _ => (congrFun t2 l).symm))
                    have eHj : hh = (handleV who j (s.tag j + 1)).1 := by rw [eH.out, hje.out]
                    replace eHj := Lib.hid eHj
                    clear x1' x2' t1 t2 eS
                    generalize takeS s an = s1 at *
                    replace hF8 := Lib.hid hF8
                    replace hC8 := Lib.hid hC8
                    go_wp2_with (first
                      | (go_at_call 34; refine (rHandle_c _ _ _ _ (by omega)).mono ?_; rintro e w' ⟨rfl, ⟨nd2, rfl⟩⟩; rw [← eHj.out])
                      | ((with_reducible refine gate_builtin (b := .append) (xs := #[.tmp 278, .tmp 280]) rfl ?_); at_builtin; refine print_append_cells (w0 := w8) (B1 + 2) rfl (.tmp 278) (.tmp 280) 22 26 (.int .u64 0) 1 8 rfl Try.underlying22 RootH.info26 rfl (by decide) (by decide) _ L.length (L.map (Value.int .u64)) [.int .u64 hh] rfl rfl rfl (by simp [Value.oneCell']) (owns_fr hO8.out (Fr.drewN (fun _ => False) _ _) (fun _ _ => id)) (below_drewN' (Below.refl _ _)) hX8 (by omega) ?_; intro vv w10 ho hb10 hg hat; have hT10 := Lib.hid (hT8.out.below hb10 (by omega) (by omega)); have hC10 := hC8.out.below hb10 (by omega); have R1' := Lib.hid (R1.out.below hb10 (by omega)); have R2' := Lib.hid (R2.out.below hb10 (by omega)); have hB10 := Lib.hid (hB8.out.trans (hb10.mono (by omega))); have hX10 := Nat.le_trans hX8 hb10.size; have d0 := hC10.cell (i := 0) rfl; have d1 := hC10.cell (i := 1) rfl; have d2 := hC10.cell (i := 2) rfl; have d3 := hC10.cell (i := 3) rfl; have d4 := hC10.cell (i := 4) rfl; have d5 := hC10.cell (i := 5) rfl; replace hC10 := Lib.hid hC10; replace ho := Lib.hid ho; clear hg hat hb10)
                      | (go_at_call 36; refine (same_c _ t b s1 S A C G K i B1 (B1 + 1) i i hT10.out ok1.out hP1.out.n R1'.out R2'.out (Nat.le_refl _) (Nat.le_refl _)).mono ?_; rintro e w9 ⟨rfl, hb9⟩; replace hb9 := Lib.hid hb9))
                    go_roundw
                    case rel => exact ⟨k + 1, s1, L ++ [hh], by omega, by rw [List.length_append, List.map_append]; exact owns_below ho.out hb9.out (Nat.le_refl _), by rw [List.length_append]; simp; omega, (by intro x hx; rcases List.mem_append.1 hx with hx | hx; exact hLb x hx; rw [List.mem_singleton.1 hx]; exact hhb), by go_num, hT10.out.next hb9.out, hP1.out, R1'.out.next hb9.out, R2'.out.next hb9.out, hC10.out.below hb9.out hC10.out.lt, hB10.out.trans (hb9.out.mono (by omega)), Nat.le_trans hX10 hb9.out.size⟩
                    case measure => simp [intOf]; omega
            | false =>
              have eI : takeI s an = 0 := by unfold takeI; rw [eB]; rfl
              have eH : takeH s an = 0 := by unfold takeH; rw [eB]; rfl
              have hTS : takeS s an = s := by unfold takeS; rw [eB]; rfl
              have hbad : s.at_ < i → 0 ≤ an → ¬ an < S := fun h1 h2 h3 => by rw [takeB_iff.2 ⟨by rw [hP.n]; exact h1, h2, by rw [hP.S]; exact h3⟩] at eB; cases eB
              replace eB := Lib.hid eB
              replace eI := Lib.hid eI
              replace hTS := Lib.hid hTS
              replace hbad := Lib.hid hbad
              go_upto_region 37 with (go_at_call 29; refine (take_c _ t b s _ hTa.out ok.out).mono ?_; rintro e w7 ⟨rfl, hT7, hF7⟩; rw [eB.out, eI.out, eH]; have hr17 := Lib.hid (hr1a.out.fr hF7 n1); have hr27 := Lib.hid (hr2a.out.fr hF7 n2); have hC7 := Lib.hid (hCa.out.fr hF7 nC); have hB7 := Lib.hid (below_two hBa.out hF7 gt' gb' (by omega)); have hO7 := Lib.hid (owns_fr hOa.out hF7 nX); have hA7 := Lib.hid (hAa.out.fr hF7 (nX _ hX)); have hX7 := Nat.le_trans hXa hF7.size; replace hT7 := Lib.hid hT7; replace hF7 := Lib.hid hF7)
              go_loopw [19] (fun z wr => ∃ j : Nat, j ≤ s.at_ ∧ z = .int .i64 (j : Int) ∧ Drawn0 w7 wr) (fun z _ => s.at_ - (intOf z).toNat)
              case atStart => exact ⟨0, Nat.zero_le _, rfl, Drawn0.refl _⟩
              case round =>
                obtain ⟨j, hj, rfl, ⟨nd, rfl⟩⟩ := hrel
                have d0 := hC7.out.cell (i := 0) rfl
                have d1 := hC7.out.cell (i := 1) rfl
                have d2 := hC7.out.cell (i := 2) rfl
                have d3 := hC7.out.cell (i := 3) rfl
                have d4 := hC7.out.cell (i := 4) rfl
                have d5 := hC7.out.cell (i := 5) rfl
                have e0 := hA7.out.cell (i := 0) rfl
                have e1 := hA7.out.cell (i := 1) rfl
                have e2 := hA7.out.cell (i := 2) rfl
                by_cases hja : j < s.at_
                · have hji : j < i := by omega
                  have v1 := (hr17.out.cell hji).1
                  have v2 := (hr27.out.cell hji).1
                  have hfj : s.fr j = false := fst_not hja
                  by_cases q1 : s.slot j < 0
                  · have tj := hP.tag j hji
                    have q3 : (s.tag j == 4294967295) = true := by
                      rw [beq_iff_eq]
                      rcases Int.lt_or_le (s.tag j) 4294967295 with g | g
                      · rw [fr_iff.2 ⟨q1, g⟩] at hfj; cases hfj
                      · omega
                    replace hfj := Lib.hid hfj
                    go_wp2
                    go_roundw
                    case rel => exact ⟨j + 1, by omega, by go_num, ⟨_, rfl⟩⟩
                    case measure => simp [intOf]; omega
                  · replace hfj := Lib.hid hfj
                    go_wp2
                    go_roundw
                    case rel => exact ⟨j + 1, by omega, by go_num, ⟨_, rfl⟩⟩
                    case measure => simp [intOf]; omega
                · have hje : s.at_ = j := by omega
                  by_cases hji : j < i
                  · have v1 := (hr17.out.cell hji).1
                    have v2 := (hr27.out.cell hji).1
                    obtain ⟨q1, q2⟩ := fr_iff.1 (show s.fr s.at_ = true from fst_is (show s.at_ < s.n by rw [hP.n]; omega))
                    rw [hje] at q1 q2
                    have q3 : (s.tag j == 4294967295) = false := beq_eq_false_iff_ne.2 (by omega)
                    have q4 : ((j : Int) == (i : Int)) = false := beq_eq_false_iff_ne.2 (by omega)
                    by_cases u0 : 0 ≤ an
                    · have u1 := hbad.out (by omega) u0
                      replace hje := Lib.hid hje
                      as_aux_lemma =>
                        have hTs : TabB w7 t b s := hTS.out ▸ hT7.out
                        go_wp2_with (go_at_call 36; refine (same_c _ t b s S A C G K i B1 (B1 + 1) i i (hTs.drewN _) ok.out hP.n (hr17.out.fr (Fr.drewN (fun _ => False) _ _) id) (hr27.out.fr (Fr.drewN (fun _ => False) _ _) id) (Nat.le_refl _) (Nat.le_refl _)).mono ?_; rintro e w9 ⟨rfl, hb9⟩; replace hb9 := Lib.hid hb9)
                        go_roundw
                        case rel =>
                          have hb := (below_drewN' (k := nd) (Below.refl w7.heap.size w7)).trans hb9.out
                          exact ⟨k + 1, s, L, by omega, owns_below hO7.out hb (Nat.le_refl _), by omega, hLb, by go_num, hTs.next hb, hP, hr17.out.next hb, hr27.out.next hb, hC7.out.below hb hC7.out.lt, hB7.out.trans (hb.mono (by omega)), Nat.le_trans hX7 hb.size⟩
                        case measure => simp [intOf]; omega
                    · replace hje := Lib.hid hje
                      as_aux_lemma =>
                        have hTs : TabB w7 t b s := hTS.out ▸ hT7.out
                        go_wp2_with (go_at_call 36; refine (same_c _ t b s S A C G K i B1 (B1 + 1) i i (hTs.drewN _) ok.out hP.n (hr17.out.fr (Fr.drewN (fun _ => False) _ _) id) (hr27.out.fr (Fr.drewN (fun _ => False) _ _) id) (Nat.le_refl _) (Nat.le_refl _)).mono ?_; rintro e w9 ⟨rfl, hb9⟩; replace hb9 := Lib.hid hb9)
                        go_roundw
                        case rel =>
                          have hb := (below_drewN' (k := nd) (Below.refl w7.heap.size w7)).trans hb9.out
                          exact ⟨k + 1, s, L, by omega, owns_below hO7.out hb (Nat.le_refl _), by omega, hLb, by go_num, hTs.next hb, hP, hr17.out.next hb, hr27.out.next hb, hC7.out.below hb hC7.out.lt, hB7.out.trans (hb.mono (by omega)), Nat.le_trans hX7 hb.size⟩
                        case measure => simp [intOf]; omega
                  · have hji' : j = i := by omega
                    have q4 : ((j : Int) == (i : Int)) = true := beq_iff_eq.2 (by rw [hji'])
                    replace hje := Lib.hid hje
                    replace hji' := Lib.hid hji'
                    as_aux_lemma =>
                      have hTs : TabB w7 t b s := hTS.out ▸ hT7.out
                      go_wp2_with (go_at_call 36; refine (same_c _ t b s S A C G K i B1 (B1 + 1) i i (hTs.drewN _) ok.out hP.n (hr17.out.fr (Fr.drewN (fun _ => False) _ _) id) (hr27.out.fr (Fr.drewN (fun _ => False) _ _) id) (Nat.le_refl _) (Nat.le_refl _)).mono ?_; rintro e w9 ⟨rfl, hb9⟩; replace hb9 := Lib.hid hb9)
                      go_roundw
                      case rel =>
                        have hb := (below_drewN' (k := nd) (Below.refl w7.heap.size w7)).trans hb9.out
                        exact ⟨k + 1, s, L, by omega, owns_below hO7.out hb (Nat.le_refl _), by omega, hLb, by go_num, hTs.next hb, hP, hr17.out.next hb, hr27.out.next hb, hC7.out.below hb hC7.out.lt, hB7.out.trans (hb.mono (by omega)), Nat.le_trans hX7 hb.size⟩
                      case measure => simp [intOf]; omega
          · by_cases a1 : ak = 1
            · subst a1
              cases eB : dropB s an with
              | true =>
                obtain ⟨⟨u0, u1⟩, u2⟩ := dropB_iff.1 eB
                obtain ⟨j, rfl⟩ := Int.eq_ofNat_of_zero_le u0
                rw [Int.toNat_natCast] at u2
                rw [hP.n] at u1
                have j2 : j < i := by omega
                have eS : (dropS s (j : Int)).tag = s.tag ∧ (dropS s (j : Int)).slot = upd s.slot j (-1) := by
                  unfold dropS
                  rw [if_pos eB]
                  exact ⟨rfl, rfl⟩
                have hP1 := Lib.hid (hP.drop (by omega) (j : Int))
                have ok1 := Lib.hid (hP1.out.ok sn (by omega))
                replace eB := Lib.hid eB
                replace eS := Lib.hid eS
                have ne3 : ¬ wr.heap.size = B1 + 1 := by omega
                have ne4 : ¬ B1 + 1 = wr.heap.size := by omega
                as_aux_lemma =>
                  go_upto_region 53 with (go_at_call 32; refine (drop_c _ t b s _ hTa.out ok.out).mono ?_; rintro e w7 ⟨rfl, hT7, hF7⟩; rw [eB.out]; have hr17 := Lib.hid (hr1a.out.fr hF7 n1); have hr27 := hr2a.out.fr hF7 n2; have v2 := (hr27.cell j2).1; have f2 := (hr27.cell j2).2; replace hr27 := Lib.hid hr27; have hC7 := hCa.out.fr hF7 nC; have d3 := hC7.cell (i := 3) rfl; replace hC7 := Lib.hid hC7; have hB7 := Lib.hid (below_two hBa.out hF7 gt' gb' (by omega)); have hO7 := Lib.hid (owns_fr hOa.out hF7 nX); have hA7 := hAa.out.fr hF7 (nX _ hX); have e1 := hA7.cell (i := 1) rfl; replace hA7 := Lib.hid hA7; have hX7 := Nat.le_trans hXa hF7.size; replace hT7 := Lib.hid hT7; replace hF7 := Lib.hid hF7)
                  have x2' := hr27.out.set j2 (-1)
                  have hF8 : Fr (fun k => k = B1 + 1) w7 (World.setCell w7 ⟨B1 + 1, j, none⟩ (.int .i64 (-1))) := Fr.set (fun k => k = B1 + 1) _ (p := ⟨B1 + 1, j, none⟩) rfl _
                  clear v2 f2 d3 e1
                  generalize World.setCell w7 ⟨B1 + 1, j, none⟩ (.int .i64 (-1)) = w8 at *
                  have x1' := hr17.out.fr hF8 (show ¬ B1 = B1 + 1 by omega)
                  have hT8 := Lib.hid (hT7.out.fr hF8 (show ¬ t = B1 + 1 by omega) (show ¬ b = B1 + 1 by omega))
                  have hC8 := hC7.out.fr hF8 (show ¬ CF = B1 + 1 by omega)
                  have hO8 := Lib.hid (owns_fr hO7.out hF8 (fun k hk c => by omega))
                  have hB8 := Lib.hid (hB7.out.trans (hF8.below (n := CF) (fun k hk => ⟨by have := hC7.out.lt; omega, fun c => by omega⟩)))
                  have hX8 := Nat.le_trans hX7 hF8.size
                  have R1 := Lib.hid (rowK_congr x1' (g := (dropS s (j : Int)).tag) (fun l _ => (congrFun eS.out.1 l).symm))
                  have R2 := Lib.hid (rowK_congr x2' (g := (dropS s (j : Int)).slot) (fun l _ => (congrFun eS.out.2 l).symm))
                  clear x1' x2' eS
                  generalize dropS s (j : Int) = s1 at *
                  have d0 := hC8.cell (i := 0) rfl
                  have d1 := hC8.cell (i := 1) rfl
                  have d2 := hC8.cell (i := 2) rfl
                  have d3 := hC8.cell (i := 3) rfl
                  have d4 := hC8.cell (i := 4) rfl
                  have d5 := hC8.cell (i := 5) rfl
                  replace hC8 := Lib.hid hC8
                  replace hF8 := Lib.hid hF8
                  go_wp2_with (go_at_call 36; refine (same_c _ t b s1 S A C G K i B1 (B1 + 1) i i hT8.out ok1.out hP1.out.n R1.out R2.out (Nat.le_refl _) (Nat.le_refl _)).mono ?_; rintro e w9 ⟨rfl, hb9⟩; replace hb9 := Lib.hid hb9)
                  go_roundw
                  case rel => exact ⟨k + 1, s1, L, by omega, owns_below hO8.out hb9.out (Nat.le_refl _), by omega, hLb, by go_num, hT8.out.next hb9.out, hP1.out, R1.out.next hb9.out, R2.out.next hb9.out, hC8.out.below hb9.out hC8.out.lt, hB8.out.trans (hb9.out.mono (by omega)), Nat.le_trans hX8 hb9.out.size⟩
                  case measure => simp [intOf]; omega
              | false =>
                have eS : dropS s an = s := by unfold dropS; rw [eB]; rfl
                have hbad : ¬ ((0 ≤ an ∧ an < (i : Int)) ∧ 0 ≤ s.slot an.toNat) := fun c => by rw [dropB_iff.2 ⟨⟨c.1.1, by rw [hP.n]; exact c.1.2⟩, c.2⟩] at eB; cases eB
                replace eB := Lib.hid eB
                replace eS := Lib.hid eS
                by_cases u0 : 0 ≤ an
                · obtain ⟨j, rfl⟩ := Int.eq_ofNat_of_zero_le u0
                  rw [Int.toNat_natCast] at hbad
                  by_cases u1 : j < i
                  · have u2 : s.slot j < 0 := by
                      rcases Int.lt_or_le (s.slot j) 0 with g | g
                      · exact g
                      · exact absurd ⟨⟨u0, by omega⟩, g⟩ hbad
                    clear hbad
                    as_aux_lemma =>
                      go_wp2_with (first
                        | (go_at_call 32; refine (drop_c _ t b s _ hTa.out ok.out).mono ?_; rintro e w7 ⟨rfl, hT7, hF7⟩; rw [eB.out]; rw [eS.out] at hT7; have hr17 := Lib.hid (hr1a.out.fr hF7 n1); have hr27 := hr2a.out.fr hF7 n2; have v2 := (hr27.cell u1).1; replace hr27 := Lib.hid hr27; have hC7 := hCa.out.fr hF7 nC; have d0 := hC7.cell (i := 0) rfl; have d1 := hC7.cell (i := 1) rfl; have d2 := hC7.cell (i := 2) rfl; have d3 := hC7.cell (i := 3) rfl; have d4 := hC7.cell (i := 4) rfl; have d5 := hC7.cell (i := 5) rfl; replace hC7 := Lib.hid hC7; have hB7 := Lib.hid (below_two hBa.out hF7 gt' gb' (by omega)); have hO7 := Lib.hid (owns_fr hOa.out hF7 nX); have hA7 := hAa.out.fr hF7 (nX _ hX); have e1 := hA7.cell (i := 1) rfl; replace hA7 := Lib.hid hA7; have hX7 := Nat.le_trans hXa hF7.size; replace hT7 := Lib.hid hT7; replace hF7 := Lib.hid hF7)
                        | (go_at_call 36; refine (same_c _ t b s S A C G K i B1 (B1 + 1) i i hT7.out ok.out hP.n hr17.out hr27.out (Nat.le_refl _) (Nat.le_refl _)).mono ?_; rintro e w9 ⟨rfl, hb9⟩; replace hb9 := Lib.hid hb9))
                      go_roundw
                      case rel => exact ⟨k + 1, s, L, by omega, owns_below hO7.out hb9.out (Nat.le_refl _), by omega, hLb, by go_num, hT7.out.next hb9.out, hP, hr17.out.next hb9.out, hr27.out.next hb9.out, hC7.out.below hb9.out hC7.out.lt, hB7.out.trans (hb9.out.mono (by omega)), Nat.le_trans hX7 hb9.out.size⟩
                      case measure => simp [intOf]; omega
                  · clear hbad
                    as_aux_lemma =>
                      go_wp2_with (first
                        | (go_at_call 32; refine (drop_c _ t b s _ hTa.out ok.out).mono ?_; rintro e w7 ⟨rfl, hT7, hF7⟩; rw [eB.out]; rw [eS.out] at hT7; have hr17 := Lib.hid (hr1a.out.fr hF7 n1); have hr27 := Lib.hid (hr2a.out.fr hF7 n2); have hC7 := hCa.out.fr hF7 nC; have d0 := hC7.cell (i := 0) rfl; have d1 := hC7.cell (i := 1) rfl; have d2 := hC7.cell (i := 2) rfl; have d3 := hC7.cell (i := 3) rfl; have d4 := hC7.cell (i := 4) rfl; have d5 := hC7.cell (i := 5) rfl; replace hC7 := Lib.hid hC7; have hB7 := Lib.hid (below_two hBa.out hF7 gt' gb' (by omega)); have hO7 := Lib.hid (owns_fr hOa.out hF7 nX); have hA7 := hAa.out.fr hF7 (nX _ hX); have e1 := hA7.cell (i := 1) rfl; replace hA7 := Lib.hid hA7; have hX7 := Nat.le_trans hXa hF7.size; replace hT7 := Lib.hid hT7; replace hF7 := Lib.hid hF7)
                        | (go_at_call 36; refine (same_c _ t b s S A C G K i B1 (B1 + 1) i i hT7.out ok.out hP.n hr17.out hr27.out (Nat.le_refl _) (Nat.le_refl _)).mono ?_; rintro e w9 ⟨rfl, hb9⟩; replace hb9 := Lib.hid hb9))
                      go_roundw
                      case rel => exact ⟨k + 1, s, L, by omega, owns_below hO7.out hb9.out (Nat.le_refl _), by omega, hLb, by go_num, hT7.out.next hb9.out, hP, hr17.out.next hb9.out, hr27.out.next hb9.out, hC7.out.below hb9.out hC7.out.lt, hB7.out.trans (hb9.out.mono (by omega)), Nat.le_trans hX7 hb9.out.size⟩
                      case measure => simp [intOf]; omega
                · clear hbad
                  as_aux_lemma =>
                    go_wp2_with (first
                      | (go_at_call 32; refine (drop_c _ t b s _ hTa.out ok.out).mono ?_; rintro e w7 ⟨rfl, hT7, hF7⟩; rw [eB.out]; rw [eS.out] at hT7; have hr17 := Lib.hid (hr1a.out.fr hF7 n1); have hr27 := Lib.hid (hr2a.out.fr hF7 n2); have hC7 := hCa.out.fr hF7 nC; have d0 := hC7.cell (i := 0) rfl; have d1 := hC7.cell (i := 1) rfl; have d2 := hC7.cell (i := 2) rfl; have d3 := hC7.cell (i := 3) rfl; have d4 := hC7.cell (i := 4) rfl; have d5 := hC7.cell (i := 5) rfl; replace hC7 := Lib.hid hC7; have hB7 := Lib.hid (below_two hBa.out hF7 gt' gb' (by omega)); have hO7 := Lib.hid (owns_fr hOa.out hF7 nX); have hA7 := hAa.out.fr hF7 (nX _ hX); have e1 := hA7.cell (i := 1) rfl; replace hA7 := Lib.hid hA7; have hX7 := Nat.le_trans hXa hF7.size; replace hT7 := Lib.hid hT7; replace hF7 := Lib.hid hF7)
                      | (go_at_call 36; refine (same_c _ t b s S A C G K i B1 (B1 + 1) i i hT7.out ok.out hP.n hr17.out hr27.out (Nat.le_refl _) (Nat.le_refl _)).mono ?_; rintro e w9 ⟨rfl, hb9⟩; replace hb9 := Lib.hid hb9))
                    go_roundw
                    case rel => exact ⟨k + 1, s, L, by omega, owns_below hO7.out hb9.out (Nat.le_refl _), by omega, hLb, by go_num, hT7.out.next hb9.out, hP, hr17.out.next hb9.out, hr27.out.next hb9.out, hC7.out.below hb9.out hC7.out.lt, hB7.out.trans (hb9.out.mono (by omega)), Nat.le_trans hX7 hb9.out.size⟩
                    case measure => simp [intOf]; omega
            · have b0 : (ak == 0) = false := beq_eq_false_iff_ne.2 a0
              have b1 : (ak == 1) = false := beq_eq_false_iff_ne.2 a1
              by_cases hw : 0 < L.length ∧ 0 ≤ an
              · obtain ⟨hw1, hw2⟩ := hw
                obtain ⟨A5, c5, e5, _, hrd5⟩ := owns_reads hOa.out
                cases e5
                have em : an.tmod (L.length : Int) = ((an % (L.length : Int)).toNat : Int) := by
                  rw [Int.tmod_eq_emod_of_nonneg hw2]
                  have := Int.emod_nonneg an (show (L.length : Int) ≠ 0 by omega)
                  omega
                have hm : (an % (L.length : Int)).toNat < L.length := by
                  have := Int.emod_nonneg an (show (L.length : Int) ≠ 0 by omega)
                  have := Int.emod_lt_of_pos an (show 0 < (L.length : Int) by omega)
                  omega
                generalize (an % (L.length : Int)).toNat = mm at *
                obtain ⟨g, e6, y6⟩ := hrd5 mm hm
                cases e6
                obtain ⟨hv0, hv1⟩ := hLb (L.getD mm 0) (by rw [List.getD_eq_getElem?_getD, List.getElem?_eq_getElem hm]; exact List.getElem_mem hm)
                generalize L.getD mm 0 = hv at *
                have hl0 : ¬ (L.length : Int) = 0 := by omega
                have hl0' : ¬ L.length = 0 := by omega
                go_wp2_with (go_at_call 35; refine (find_c _ t b s hv hTa.out ok.out hv0 hv1).mono ?_; rintro e w7 ⟨rfl, hb7⟩; have hT7 := Lib.hid (hTa.out.next hb7); have hr17 := Lib.hid (hr1a.out.next hb7); have hr27 := Lib.hid (hr2a.out.next hb7); have hC7 := Lib.hid (hCa.out.below hb7 hCa.out.lt); have hB7 := Lib.hid (hBa.out.trans (hb7.mono (by omega))); have hO7 := Lib.hid (owns_below hOa.out hb7 (Nat.le_refl _)); have hX7 := Nat.le_trans hXa hb7.size; replace hb7 := Lib.hid hb7)
                go_loopw [28, 29] (fun u z wr => ∃ j : Nat, j ≤ i ∧ u = .int .i64 (atV s hv j) ∧ z = .int .i64 (j : Int) ∧ Drawn0 w7 wr) (fun _ z _ => i - (intOf z).toNat)
                case atStart => exact ⟨0, Nat.zero_le _, by rw [atV_0 s hv0], rfl, Drawn0.refl _⟩
                case round =>
                  obtain ⟨j, hj, rfl, rfl, ⟨nd, rfl⟩⟩ := hrel
                  have d3 := hC7.out.cell (i := 3) rfl
                  by_cases hji : j < i
                  · have v1 := (hr17.out.cell hji).1
                    have v2 := (hr27.out.cell hji).1
                    have tj := hP.tag j hji
                    have key := find_at hP.n (h := hv) hji
                    rw [hP.who] at key
                    cases E2 : (handleV who j (s.tag j)).2 with
                    | false =>
                      have an := atV_no (s := s) (h := hv) (l := j) (fun c => by have := (key.2 c).1; rw [E2] at this; cases this)
                      replace E2 := Lib.hid E2
                      replace key := Lib.hid key
                      replace an := Lib.hid an
                      as_aux_lemma =>
                        go_wp2_with (go_at_call 34; refine (rHandle_c _ _ _ _ tj.1).mono ?_; rintro e w' ⟨rfl, ⟨nd2, rfl⟩⟩; rw [E2.out])
                        go_roundw
                        case rel => exact ⟨j + 1, by omega, by rw [an.out], by go_num, ⟨_, rfl⟩⟩
                        case measure => simp [intOf]; omega
                    | true =>
                      by_cases q1 : (handleV who j (s.tag j)).1 = hv
                      · by_cases q2 : 0 ≤ s.slot j
                        · have an := atV_yes (s := s) (h := hv) (l := j) (key.1 ⟨E2, q1, q2⟩)
                          replace E2 := Lib.hid E2
                          replace key := Lib.hid key
                          replace an := Lib.hid an
                          as_aux_lemma =>
                            go_wp2_with (go_at_call 34; refine (rHandle_c _ _ _ _ tj.1).mono ?_; rintro e w' ⟨rfl, ⟨nd2, rfl⟩⟩; rw [E2.out])
                            go_roundw
                            case rel => exact ⟨j + 1, by omega, by rw [an.out], by go_num, ⟨_, rfl⟩⟩
                            case measure => simp [intOf]; omega
                        · have an := atV_no (s := s) (h := hv) (l := j) (fun c => q2 (key.2 c).2.2)
                          replace E2 := Lib.hid E2
                          replace key := Lib.hid key
                          replace an := Lib.hid an
                          as_aux_lemma =>
                            go_wp2_with (go_at_call 34; refine (rHandle_c _ _ _ _ tj.1).mono ?_; rintro e w' ⟨rfl, ⟨nd2, rfl⟩⟩; rw [E2.out])
                            go_roundw
                            case rel => exact ⟨j + 1, by omega, by rw [an.out], by go_num, ⟨_, rfl⟩⟩
                            case measure => simp [intOf]; omega
                      · have an := atV_no (s := s) (h := hv) (l := j) (fun c => q1 (key.2 c).2.1)
                        have q1' : ((handleV who j (s.tag j)).1 == hv) = false := beq_eq_false_iff_ne.2 q1
                        replace q1 := Lib.hid q1
                        replace E2 := Lib.hid E2
                        replace key := Lib.hid key
                        replace an := Lib.hid an
                        as_aux_lemma =>
                          go_wp2_with (go_at_call 34; refine (rHandle_c _ _ _ _ tj.1).mono ?_; rintro e w' ⟨rfl, ⟨nd2, rfl⟩⟩; rw [E2.out])
                          go_roundw
                          case rel => exact ⟨j + 1, by omega, by rw [an.out], by go_num, ⟨_, rfl⟩⟩
                          case measure => simp [intOf]; omega
                  · have hje : j = i := by omega
                    have d0 := hC7.out.cell (i := 0) rfl
                    have d1 := hC7.out.cell (i := 1) rfl
                    have d2 := hC7.out.cell (i := 2) rfl
                    have d4 := hC7.out.cell (i := 4) rfl
                    have d5 := hC7.out.cell (i := 5) rfl
                    cases fB : findB s hv with
                    | true =>
                      obtain ⟨e, he, p1, p2, p3, p4⟩ := atV_end hP.n fB
                      rw [← hje] at p1
                      have v2 := (hr27.out.cell he).1
                      replace hje := Lib.hid hje
                      as_aux_lemma =>
                        go_wp2_with (go_at_call 36; refine (same_c _ t b s S A C G K i B1 (B1 + 1) i i (hT7.out.drewN _) ok.out hP.n (hr17.out.fr (Fr.drewN (fun _ => False) _ _) id) (hr27.out.fr (Fr.drewN (fun _ => False) _ _) id) (Nat.le_refl _) (Nat.le_refl _)).mono ?_; rintro e w9 ⟨rfl, hb9⟩; replace hb9 := Lib.hid hb9)
                        go_roundw
                        case rel =>
                          have hb := (below_drewN' (k := nd) (Below.refl w7.heap.size w7)).trans hb9.out
                          exact ⟨k + 1, s, L, by omega, (by first | exact owns_below hO7.out hb (Nat.le_refl _) | (rw [show (Value.slice A1 0 c1) = Value.slice A1 L.length c1 from by rw [hw2]]; exact owns_below hO7.out hb (Nat.le_refl _))), by omega, hLb, by go_num, hT7.out.next hb, hP, hr17.out.next hb, hr27.out.next hb, hC7.out.below hb hC7.out.lt, hB7.out.trans (hb.mono (by omega)), Nat.le_trans hX7 hb.size⟩
                        case measure => simp [intOf]; omega
                    | false =>
                      obtain ⟨p1, p2, p3⟩ := atV_none j fB
                      replace hje := Lib.hid hje
                      as_aux_lemma =>
                        go_wp2_with (go_at_call 36; refine (same_c _ t b s S A C G K i B1 (B1 + 1) i i (hT7.out.drewN _) ok.out hP.n (hr17.out.fr (Fr.drewN (fun _ => False) _ _) id) (hr27.out.fr (Fr.drewN (fun _ => False) _ _) id) (Nat.le_refl _) (Nat.le_refl _)).mono ?_; rintro e w9 ⟨rfl, hb9⟩; replace hb9 := Lib.hid hb9)
                        go_roundw
                        case rel =>
                          have hb := (below_drewN' (k := nd) (Below.refl w7.heap.size w7)).trans hb9.out
                          exact ⟨k + 1, s, L, by omega, (by first | exact owns_below hO7.out hb (Nat.le_refl _) | (rw [show (Value.slice A1 0 c1) = Value.slice A1 L.length c1 from by rw [hw2]]; exact owns_below hO7.out hb (Nat.le_refl _))), by omega, hLb, by go_num, hT7.out.next hb, hP, hr17.out.next hb, hr27.out.next hb, hC7.out.below hb hC7.out.lt, hB7.out.trans (hb.mono (by omega)), Nat.le_trans hX7 hb.size⟩
                        case measure => simp [intOf]; omega
              · obtain ⟨hv0, hv1⟩ := hrk
                by_cases hw1 : 0 < L.length
                · have hw2 : an < 0 := by omega
                  go_wp2_with (go_at_call 35; refine (find_c _ t b s ar hTa.out ok.out hv0 hv1).mono ?_; rintro e w7 ⟨rfl, hb7⟩; have hT7 := Lib.hid (hTa.out.next hb7); have hr17 := Lib.hid (hr1a.out.next hb7); have hr27 := Lib.hid (hr2a.out.next hb7); have hC7 := Lib.hid (hCa.out.below hb7 hCa.out.lt); have hB7 := Lib.hid (hBa.out.trans (hb7.mono (by omega))); have hO7 := Lib.hid (owns_below hOa.out hb7 (Nat.le_refl _)); have hX7 := Nat.le_trans hXa hb7.size; replace hb7 := Lib.hid hb7)
                  go_loopw [28, 29] (fun u z wr => ∃ j : Nat, j ≤ i ∧ u = .int .i64 (atV s ar j) ∧ z = .int .i64 (j : Int) ∧ Drawn0 w7 wr) (fun _ z _ => i - (intOf z).toNat)
                  case atStart => exact ⟨0, Nat.zero_le _, by rw [atV_0 s hv0], rfl, Drawn0.refl _⟩
                  case round =>
                    obtain ⟨j, hj, rfl, rfl, ⟨nd, rfl⟩⟩ := hrel
                    have d3 := hC7.out.cell (i := 3) rfl
                    by_cases hji : j < i
                    · have v1 := (hr17.out.cell hji).1
                      have v2 := (hr27.out.cell hji).1
                      have tj := hP.tag j hji
                      have key := find_at hP.n (h := ar) hji
                      rw [hP.who] at key
                      cases E2 : (handleV who j (s.tag j)).2 with
                      | false =>
                        have an := atV_no (s := s) (h := ar) (l := j) (fun c => by have := (key.2 c).1; rw [E2] at this; cases this)
                        replace E2 := Lib.hid E2
                        replace key := Lib.hid key
                        replace an := Lib.hid an
                        as_aux_lemma =>
                          go_wp2_with (go_at_call 34; refine (rHandle_c _ _ _ _ tj.1).mono ?_; rintro e w' ⟨rfl, ⟨nd2, rfl⟩⟩; rw [E2.out])
                          go_roundw
                          case rel => exact ⟨j + 1, by omega, by rw [an.out], by go_num, ⟨_, rfl⟩⟩
                          case measure => simp [intOf]; omega
                      | true =>
                        by_cases q1 : (handleV who j (s.tag j)).1 = ar
                        · by_cases q2 : 0 ≤ s.slot j
                          · have an := atV_yes (s := s) (h := ar) (l := j) (key.1 ⟨E2, q1, q2⟩)
                            replace E2 := Lib.hid E2
                            replace key := Lib.hid key
                            replace an := Lib.hid an
                            as_aux_lemma =>
                              go_wp2_with (go_at_call 34; refine (rHandle_c _ _ _ _ tj.1).mono ?_; rintro e w' ⟨rfl, ⟨nd2, rfl⟩⟩; rw [E2.out])
                              go_roundw
                              case rel => exact ⟨j + 1, by omega, by rw [an.out], by go_num, ⟨_, rfl⟩⟩
                              case measure => simp [intOf]; omega
                          · have an := atV_no (s := s) (h := ar) (l := j) (fun c => q2 (key.2 c).2.2)
                            replace E2 := Lib.hid E2
                            replace key := Lib.hid key
                            replace an := Lib.hid an
                            as_aux_lemma =>
                              go_wp2_with (go_at_call 34; refine (rHandle_c _ _ _ _ tj.1).mono ?_; rintro e w' ⟨rfl, ⟨nd2, rfl⟩⟩; rw [E2.out])
                              go_roundw
                              case rel => exact ⟨j + 1, by omega, by rw [an.out], by go_num, ⟨_, rfl⟩⟩
                              case measure => simp [intOf]; omega
                        · have an := atV_no (s := s) (h := ar) (l := j) (fun c => q1 (key.2 c).2.1)
                          have q1' : ((handleV who j (s.tag j)).1 == ar) = false := beq_eq_false_iff_ne.2 q1
                          replace q1 := Lib.hid q1
                          replace E2 := Lib.hid E2
                          replace key := Lib.hid key
                          replace an := Lib.hid an
                          as_aux_lemma =>
                            go_wp2_with (go_at_call 34; refine (rHandle_c _ _ _ _ tj.1).mono ?_; rintro e w' ⟨rfl, ⟨nd2, rfl⟩⟩; rw [E2.out])
                            go_roundw
                            case rel => exact ⟨j + 1, by omega, by rw [an.out], by go_num, ⟨_, rfl⟩⟩
                            case measure => simp [intOf]; omega
                    · have hje : j = i := by omega
                      have d0 := hC7.out.cell (i := 0) rfl
                      have d1 := hC7.out.cell (i := 1) rfl
                      have d2 := hC7.out.cell (i := 2) rfl
                      have d4 := hC7.out.cell (i := 4) rfl
                      have d5 := hC7.out.cell (i := 5) rfl
                      cases fB : findB s ar with
                      | true =>
                        obtain ⟨e, he, p1, p2, p3, p4⟩ := atV_end hP.n fB
                        rw [← hje] at p1
                        have v2 := (hr27.out.cell he).1
                        replace hje := Lib.hid hje
                        as_aux_lemma =>
                          go_wp2_with (go_at_call 36; refine (same_c _ t b s S A C G K i B1 (B1 + 1) i i (hT7.out.drewN _) ok.out hP.n (hr17.out.fr (Fr.drewN (fun _ => False) _ _) id) (hr27.out.fr (Fr.drewN (fun _ => False) _ _) id) (Nat.le_refl _) (Nat.le_refl _)).mono ?_; rintro e w9 ⟨rfl, hb9⟩; replace hb9 := Lib.hid hb9)
                          go_roundw
                          case rel =>
                            have hb := (below_drewN' (k := nd) (Below.refl w7.heap.size w7)).trans hb9.out
                            exact ⟨k + 1, s, L, by omega, (by first | exact owns_below hO7.out hb (Nat.le_refl _) | (rw [show (Value.slice A1 0 c1) = Value.slice A1 L.length c1 from by rw [hw2]]; exact owns_below hO7.out hb (Nat.le_refl _))), by omega, hLb, by go_num, hT7.out.next hb, hP, hr17.out.next hb, hr27.out.next hb, hC7.out.below hb hC7.out.lt, hB7.out.trans (hb.mono (by omega)), Nat.le_trans hX7 hb.size⟩
                          case measure => simp [intOf]; omega
                      | false =>
                        obtain ⟨p1, p2, p3⟩ := atV_none j fB
                        replace hje := Lib.hid hje
                        as_aux_lemma =>
                          go_wp2_with (go_at_call 36; refine (same_c _ t b s S A C G K i B1 (B1 + 1) i i (hT7.out.drewN _) ok.out hP.n (hr17.out.fr (Fr.drewN (fun _ => False) _ _) id) (hr27.out.fr (Fr.drewN (fun _ => False) _ _) id) (Nat.le_refl _) (Nat.le_refl _)).mono ?_; rintro e w9 ⟨rfl, hb9⟩; replace hb9 := Lib.hid hb9)
                          go_roundw
                          case rel =>
                            have hb := (below_drewN' (k := nd) (Below.refl w7.heap.size w7)).trans hb9.out
                            exact ⟨k + 1, s, L, by omega, (by first | exact owns_below hO7.out hb (Nat.le_refl _) | (rw [show (Value.slice A1 0 c1) = Value.slice A1 L.length c1 from by rw [hw2]]; exact owns_below hO7.out hb (Nat.le_refl _))), by omega, hLb, by go_num, hT7.out.next hb, hP, hr17.out.next hb, hr27.out.next hb, hC7.out.below hb hC7.out.lt, hB7.out.trans (hb.mono (by omega)), Nat.le_trans hX7 hb.size⟩
                          case measure => simp [intOf]; omega
                · have hw2 : L.length = 0 := by omega
                  clear hw
                  go_wp2_with (go_at_call 35; refine (find_c _ t b s ar hTa.out ok.out hv0 hv1).mono ?_; rintro e w7 ⟨rfl, hb7⟩; have hT7 := Lib.hid (hTa.out.next hb7); have hr17 := Lib.hid (hr1a.out.next hb7); have hr27 := Lib.hid (hr2a.out.next hb7); have hC7 := Lib.hid (hCa.out.below hb7 hCa.out.lt); have hB7 := Lib.hid (hBa.out.trans (hb7.mono (by omega))); have hO7 := Lib.hid (owns_below hOa.out hb7 (Nat.le_refl _)); have hX7 := Nat.le_trans hXa hb7.size; replace hb7 := Lib.hid hb7)
                  go_loopw [28, 29] (fun u z wr => ∃ j : Nat, j ≤ i ∧ u = .int .i64 (atV s ar j) ∧ z = .int .i64 (j : Int) ∧ Drawn0 w7 wr) (fun _ z _ => i - (intOf z).toNat)
                  case atStart => exact ⟨0, Nat.zero_le _, by rw [atV_0 s hv0], rfl, Drawn0.refl _⟩
                  case round =>
                    obtain ⟨j, hj, rfl, rfl, ⟨nd, rfl⟩⟩ := hrel
                    have d3 := hC7.out.cell (i := 3) rfl
                    by_cases hji : j < i
                    · have v1 := (hr17.out.cell hji).1
                      have v2 := (hr27.out.cell hji).1
                      have tj := hP.tag j hji
                      have key := find_at hP.n (h := ar) hji
                      rw [hP.who] at key
                      cases E2 : (handleV who j (s.tag j)).2 with
                      | false =>
                        have an := atV_no (s := s) (h := ar) (l := j) (fun c => by have := (key.2 c).1; rw [E2] at this; cases this)
                        replace E2 := Lib.hid E2
                        replace key := Lib.hid key
                        replace an := Lib.hid an
                        as_aux_lemma =>
                          go_wp2_with (go_at_call 34; refine (rHandle_c _ _ _ _ tj.1).mono ?_; rintro e w' ⟨rfl, ⟨nd2, rfl⟩⟩; rw [E2.out])
                          go_roundw
                          case rel => exact ⟨j + 1, by omega, by rw [an.out], by go_num, ⟨_, rfl⟩⟩
                          case measure => simp [intOf]; omega
                      | true =>
                        by_cases q1 : (handleV who j (s.tag j)).1 = ar
                        · by_cases q2 : 0 ≤ s.slot j
                          · have an := atV_yes (s := s) (h := ar) (l := j) (key.1 ⟨E2, q1, q2⟩)
                            replace E2 := Lib.hid E2
                            replace key := Lib.hid key
                            replace an := Lib.hid an
                            as_aux_lemma =>
                              go_wp2_with (go_at_call 34; refine (rHandle_c _ _ _ _ tj.1).mono ?_; rintro e w' ⟨rfl, ⟨nd2, rfl⟩⟩; rw [E2.out])
                              go_roundw
                              case rel => exact ⟨j + 1, by omega, by rw [an.out], by go_num, ⟨_, rfl⟩⟩
                              case measure => simp [intOf]; omega
                          · have an := atV_no (s := s) (h := ar) (l := j) (fun c => q2 (key.2 c).2.2)
                            replace E2 := Lib.hid E2
                            replace key := Lib.hid key
                            replace an := Lib.hid an
                            as_aux_lemma =>
                              go_wp2_with (go_at_call 34; refine (rHandle_c _ _ _ _ tj.1).mono ?_; rintro e w' ⟨rfl, ⟨nd2, rfl⟩⟩; rw [E2.out])
                              go_roundw
                              case rel => exact ⟨j + 1, by omega, by rw [an.out], by go_num, ⟨_, rfl⟩⟩
                              case measure => simp [intOf]; omega
                        · have an := atV_no (s := s) (h := ar) (l := j) (fun c => q1 (key.2 c).2.1)
                          have q1' : ((handleV who j (s.tag j)).1 == ar) = false := beq_eq_false_iff_ne.2 q1
                          replace q1 := Lib.hid q1
                          replace E2 := Lib.hid E2
                          replace key := Lib.hid key
                          replace an := Lib.hid an
                          as_aux_lemma =>
                            go_wp2_with (go_at_call 34; refine (rHandle_c _ _ _ _ tj.1).mono ?_; rintro e w' ⟨rfl, ⟨nd2, rfl⟩⟩; rw [E2.out])
                            go_roundw
                            case rel => exact ⟨j + 1, by omega, by rw [an.out], by go_num, ⟨_, rfl⟩⟩
                            case measure => simp [intOf]; omega
                    · have hje : j = i := by omega
                      have d0 := hC7.out.cell (i := 0) rfl
                      have d1 := hC7.out.cell (i := 1) rfl
                      have d2 := hC7.out.cell (i := 2) rfl
                      have d4 := hC7.out.cell (i := 4) rfl
                      have d5 := hC7.out.cell (i := 5) rfl
                      cases fB : findB s ar with
                      | true =>
                        obtain ⟨e, he, p1, p2, p3, p4⟩ := atV_end hP.n fB
                        rw [← hje] at p1
                        have v2 := (hr27.out.cell he).1
                        replace hje := Lib.hid hje
                        as_aux_lemma =>
                          go_wp2_with (go_at_call 36; refine (same_c _ t b s S A C G K i B1 (B1 + 1) i i (hT7.out.drewN _) ok.out hP.n (hr17.out.fr (Fr.drewN (fun _ => False) _ _) id) (hr27.out.fr (Fr.drewN (fun _ => False) _ _) id) (Nat.le_refl _) (Nat.le_refl _)).mono ?_; rintro e w9 ⟨rfl, hb9⟩; replace hb9 := Lib.hid hb9)
                          go_roundw
                          case rel =>
                            have hb := (below_drewN' (k := nd) (Below.refl w7.heap.size w7)).trans hb9.out
                            exact ⟨k + 1, s, L, by omega, (by first | exact owns_below hO7.out hb (Nat.le_refl _) | (rw [show (Value.slice A1 0 c1) = Value.slice A1 L.length c1 from by rw [hw2]]; exact owns_below hO7.out hb (Nat.le_refl _))), by omega, hLb, by go_num, hT7.out.next hb, hP, hr17.out.next hb, hr27.out.next hb, hC7.out.below hb hC7.out.lt, hB7.out.trans (hb.mono (by omega)), Nat.le_trans hX7 hb.size⟩
                          case measure => simp [intOf]; omega
                      | false =>
                        obtain ⟨p1, p2, p3⟩ := atV_none j fB
                        replace hje := Lib.hid hje
                        as_aux_lemma =>
                          go_wp2_with (go_at_call 36; refine (same_c _ t b s S A C G K i B1 (B1 + 1) i i (hT7.out.drewN _) ok.out hP.n (hr17.out.fr (Fr.drewN (fun _ => False) _ _) id) (hr27.out.fr (Fr.drewN (fun _ => False) _ _) id) (Nat.le_refl _) (Nat.le_refl _)).mono ?_; rintro e w9 ⟨rfl, hb9⟩; replace hb9 := Lib.hid hb9)
                          go_roundw
                          case rel =>
                            have hb := (below_drewN' (k := nd) (Below.refl w7.heap.size w7)).trans hb9.out
                            exact ⟨k + 1, s, L, by omega, (by first | exact owns_below hO7.out hb (Nat.le_refl _) | (rw [show (Value.slice A1 0 c1) = Value.slice A1 L.length c1 from by rw [hw2]]; exact owns_below hO7.out hb (Nat.le_refl _))), by omega, hLb, by go_num, hT7.out.next hb, hP, hr17.out.next hb, hr27.out.next hb, hC7.out.below hb hC7.out.lt, hB7.out.trans (hb.mono (by omega)), Nat.le_trans hX7 hb.size⟩
                          case measure => simp [intOf]; omega
        · have : k = len := by omega
          subst this
          have hB' := hB
          replace hT := Lib.hid hT
          replace hB := Lib.hid hB
          go_wp2
          go_ret
          exact ⟨rfl, hCFe ▸ hB.out⟩
end Go.Proofs.Ytljfpkdbooineaa.RootK
