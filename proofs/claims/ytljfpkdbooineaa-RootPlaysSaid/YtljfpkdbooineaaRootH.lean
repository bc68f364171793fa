/-
  The law RootFresh's walk: no handle is told twice, however often entries take and drop; condition: the numbers' row as it is read.
-/
import Derived.Test.YtljfpkdbooineaaRootE
import Derived.Test.YtljfpkdbooineaaOpen
set_option linter.unusedVariables false
namespace Go.Proofs.Ytljfpkdbooineaa.RootH
open Go.RowKit Go.Proofs.YtljfpkdbooineaaW.PrintWords Go.Proofs.Ytljfpkdbooineaa.Blk Go.Proofs.Ytljfpkdbooineaa.Core Go.Proofs.Ytljfpkdbooineaa.RootP Go.Proofs.Ytljfpkdbooineaa.RootA Go.Proofs.Ytljfpkdbooineaa.RootB Go.Proofs.Ytljfpkdbooineaa.RootC Go.Proofs.Ytljfpkdbooineaa.RootN Go.Proofs.Ytljfpkdbooineaa.RootD Go.Proofs.Ytljfpkdbooineaa.RootE Go.Proofs.Ytljfpkdbooineaa.Opens
theorem info26 : (Try.prog.info? 26).map (fun i => (i.zero, i.size, i.bytes)) = some (some (.int .u64 0), 1, 8) := by kernel_rfl
/-- A row of one's own stays where only other blocks change. -/
theorem owns_fr {S : Nat → Prop} {w w' : World} {base e sz : Nat} {v : Value} {n : Nat} {xs : List Value} (h : w.ownsRow base e sz v n xs) (hf : Fr S w w') (hS : ∀ k, base ≤ k → ¬ S k) : w'.ownsRow base e sz v n xs := by
  refine ⟨h.1, ?_⟩
  rcases h.2 with hn | ⟨g, cap, cur, hv, hb, hgg, rest⟩
  · exact .inl hn
  · exact .inr ⟨g, cap, cur, hv, hb, by rw [hf.keep g (Array.getElem?_eq_some_iff.1 hgg).1 (hS g hb)]; exact hgg, rest⟩
theorem owns_below {w w' : World} {base e sz N : Nat} {v : Value} {n : Nat} {xs : List Value} (h : w.ownsRow base e sz v n xs) (hb : Below N w w') (hN : w.heap.size ≤ N) : w'.ownsRow base e sz v n xs :=
  owns_fr h (Fr.of_below (S := fun _ => False) hb (fun k hk _ => Nat.lt_of_lt_of_le hk hN)) (fun _ _ => id)
/-- What a row of numbers of one's own reads. -/
theorem owns_reads {w : World} {base : Nat} {v : Value} {L : List Int} (h : w.ownsRow base 26 1 v L.length (L.map (Value.int .u64))) : ∃ A c, v = .slice A L.length c ∧ L.length ≤ c ∧ ∀ i, i < L.length → ∃ g, A = some ⟨g, 0, none⟩ ∧ w.cell? ⟨g, i, none⟩ = some (.int .u64 (L.getD i 0)) := by
  rcases h.2 with ⟨hv, hn⟩ | ⟨g, cap, cur, hv, hb, hg, hn, hc, hs, ht⟩
  · rw [hn] at *
    exact ⟨none, 0, hv, Nat.le_refl _, fun i hi => absurd hi (Nat.not_lt_zero i)⟩
  · refine ⟨_, cap, hv, hn, fun i hi => ⟨g, rfl, ?_⟩⟩
    have := congrArg (fun l => l[i]?) ht
    simp only [List.getElem?_take, Nat.mul_one, hi, if_true] at this
    rw [Array.getElem?_toList, List.getElem?_map, List.getElem?_eq_getElem hi] at this
    rw [Blk.cell (t := 26) hg this]
    simp [List.getD, hi]
theorem h0_c (w : World) (t b : Nat) (s : Rt) (h : TabB w t b s) (ok : Okr s) : Calls Try.prog 37 #[.pointer (some ⟨t, 0, none⟩)] w fun e w' => e = .returned (.bool true) ∧ Below w.heap.size w w' := by
  have hf : findB s 0 = false := by
    cases q : findB s 0 with
    | false => rfl
    | true => have := (findB_iff.1 q).1; rw [show (partsV 0).2.2.2 = false from by decide] at this; cases this
  replace hf := Lib.hid hf
  go_enter Try.func37, Try.ntmps37
  go_wp2_with (first
    | (go_at_call 35; refine (find_c _ t b s 0 h ok (by decide) (by decide)).mono ?_; rintro e w1 ⟨rfl, hb1⟩; rw [hf.out]; replace hb1 := Lib.hid hb1)
    | (go_at_call 28; refine (awake_c _).mono ?_; rintro e w2 ⟨rfl, hb2⟩; replace hb2 := Lib.hid hb2))
  go_ret
  exact ⟨rfl, hb1.out.trans (hb2.out.mono hb1.out.size)⟩
structure Fresh (s : Rt) (m : Nat) (Z : Int) (k : Nat) (L : List Int) : Prop where
  S : s.S = Z
  n : s.n = m
  who : s.who = 0
  tag : ∀ i : Nat, i < m → 0 ≤ s.tag i ∧ s.tag i ≤ k
  slot : ∀ i : Nat, i < m → -1 ≤ s.slot i ∧ s.slot i < Z
  told : ∀ x ∈ L, ∃ (i : Nat) (t : Int), i < m ∧ 1 ≤ t ∧ t ≤ s.tag i ∧ x = 72057594037927936 + 281474976710656 * (i : Int) + t
theorem Fresh.ok {s : Rt} {n : Nat} {S : Int} {k : Nat} {L : List Int} (h : Fresh s n S k L) (hn : n ≤ 16) (hS : S ≤ 64) (hk : k ≤ 1000) : Okr s := by
  refine ⟨by rw [h.n]; exact hn, fun i hi => ?_, fun i hi => ?_⟩
  · rw [h.n] at hi; have := h.tag i hi; omega
  · rw [h.n] at hi; have := h.slot i hi; omega
theorem Fresh.new (S A C G K : Int) (n : Nat) (hS : 0 ≤ S) : Fresh (Rt.new S A C (n : Int) G K 0 n 0) n S 0 [] :=
  ⟨rfl, rfl, rfl, fun i _ => ⟨Int.le_refl 0, Int.le_refl 0⟩, fun i _ => ⟨Int.le_refl _, by show (-1 : Int) < S; omega⟩, fun x hx => by cases hx⟩
theorem Fresh.take {s : Rt} {n : Nat} {S : Int} {k : Nat} {L : List Int} (h : Fresh s n S k L) (hn : n ≤ 16) (hk : k ≤ 1000) {x : Int} (ht : takeB s x = true) : Fresh (takeS s x) n S (k + 1) (L ++ [takeH s x]) ∧ (∀ y ∈ L, y ≠ takeH s x) ∧ 0 ≤ takeH s x ∧ takeH s x < 18446744073709551616 := by
  obtain ⟨i2, x0, x1⟩ := takeB_iff.1 ht
  rw [h.n] at i2
  rw [h.S] at x1
  have g := h.tag _ i2
  have eH : takeH s x = 72057594037927936 + 281474976710656 * (s.at_ : Int) + (s.tag s.at_ + 1) := by
    unfold takeH
    rw [if_pos ht, h.who, handleV_yes (by omega)]
    show 72057594037927936 * ((0 : Int) + 1) + _ + _ = _
    omega
  have eS : takeS s x = { s with tag := upd s.tag s.at_ (s.tag s.at_ + 1), slot := upd s.slot s.at_ x } := by unfold takeS; rw [if_pos ht]
  rw [eS, eH]
  generalize s.at_ = j at *
  refine ⟨⟨h.S, h.n, h.who, fun i hi => ?_, fun i hi => ?_, fun y hy => ?_⟩, fun y hy e => ?_, by omega, by omega⟩
  · have := h.tag i hi
    show 0 ≤ upd s.tag j (s.tag j + 1) i ∧ upd s.tag j (s.tag j + 1) i ≤ ((k + 1 : Nat) : Int)
    unfold upd; split <;> omega
  · have := h.slot i hi
    show -1 ≤ upd s.slot j x i ∧ upd s.slot j x i < S
    unfold upd; split <;> omega
  · rcases List.mem_append.1 hy with hy | hy
    · obtain ⟨i, t, hi, h1, h2, h3⟩ := h.told y hy
      refine ⟨i, t, hi, h1, ?_, h3⟩
      show t ≤ upd s.tag j (s.tag j + 1) i
      unfold upd
      by_cases c : i = j
      · subst c; rw [if_pos rfl]; omega
      · rw [if_neg c]; exact h2
    · rw [List.mem_singleton] at hy
      refine ⟨j, s.tag j + 1, i2, by omega, ?_, hy⟩
      show s.tag j + 1 ≤ upd s.tag j (s.tag j + 1) j
      unfold upd; rw [if_pos rfl]; exact Int.le_refl _
  · obtain ⟨i, t, hi, h1, h2, h3⟩ := h.told y hy
    have := h.tag i hi
    have hij : i = j := by omega
    subst hij
    omega
theorem Fresh.mono {s : Rt} {n : Nat} {S : Int} {k k' : Nat} {L : List Int} (h : Fresh s n S k L) (hk : k ≤ k') : Fresh s n S k' L := ⟨h.S, h.n, h.who, fun i hi => by have := h.tag i hi; omega, h.slot, h.told⟩
theorem Fresh.drop {s : Rt} {n : Nat} {S : Int} {k : Nat} {L : List Int} (h : Fresh s n S k L) (hS : 0 ≤ S) (x : Int) : Fresh (dropS s x) n S (k + 1) L := by
  unfold dropS
  split
  · refine ⟨h.S, h.n, h.who, fun i hi => ?_, fun i hi => ?_, h.told⟩
    · have := h.tag i hi
      show 0 ≤ s.tag i ∧ s.tag i ≤ ((k + 1 : Nat) : Int); omega
    · have := h.slot i hi
      show -1 ≤ upd s.slot x.toNat (-1) i ∧ upd s.slot x.toNat (-1) i < S
      unfold upd; split <;> omega
  · exact h.mono (Nat.le_succ k)
set_option maxHeartbeats 4000000 in
set_option maxRecDepth 100000 in
theorem fresh_c (a0 a1 a2 a3 a4 a5 : Int) (AA : Option Addr) (len cap : Nat) (q : Nat → Int) (w : World) (hl : Sl w AA len 1 (fun i _ => .int .i64 (q i))) (hc : len ≤ cap) (hz : len ≤ 1152921504606846976) :
    Calls Try.prog 10 #[.agg #[.int .i64 a0, .int .i64 a1, .int .i64 a2, .int .i64 a3, .int .i64 a4, .int .i64 a5], .slice AA len cap] w fun e w' => e = .returned (.bool true) ∧ Below w.heap.size w w' := by
  replace hl := Lib.hid hl
  go_enter Try.func10, Try.ntmps10
  have hf := Lib.hid (Blk.new w 48 #[.int .i64 a0, .int .i64 a1, .int .i64 a2, .int .i64 a3, .int .i64 a4, .int .i64 a5])
  go_upto_region 2 with (go_at_call 26; refine (fit_c _ _ _ _ _ _ _).mono ?_; rintro e w1 ⟨S, A, C, G, K, n, rfl, hs, hb1⟩; have hf1 := hf.out.below hb1 hf.out.lt; have c0 := hf1.cell (i := 0) rfl; have c1 := hf1.cell (i := 1) rfl; have c2 := hf1.cell (i := 2) rfl; have c3 := hf1.cell (i := 3) rfl; have c4 := hf1.cell (i := 4) rfl; have c5 := hf1.cell (i := 5) rfl; have z0 := hf1.frozen 0; have z1 := hf1.frozen 1; have z2 := hf1.frozen 2; have z3 := hf1.frozen 3; have z4 := hf1.frozen 4; have z5 := hf1.frozen 5; replace hf1 := Lib.hid hf1; replace hb1 := Lib.hid (below_pre hb1); replace hs := Lib.hid hs)
  have hc2 : Blk (World.setCell (World.setCell (World.setCell (World.setCell (World.setCell (World.setCell w1 ⟨w.heap.size, 0, none⟩ (.int .i64 S)) ⟨w.heap.size, 1, none⟩ (.int .i64 A)) ⟨w.heap.size, 2, none⟩ (.int .i64 C)) ⟨w.heap.size, 3, none⟩ (.int .i64 (n : Int))) ⟨w.heap.size, 4, none⟩ (.int .i64 G)) ⟨w.heap.size, 5, none⟩ (.int .i64 K)) w.heap.size 48 #[.int .i64 S, .int .i64 A, .int .i64 C, .int .i64 (n : Int), .int .i64 G, .int .i64 K] := (((((hf1.out.set 0 _).set 1 _).set 2 _).set 3 _).set 4 _).set 5 _
  have hB2 : Below w.heap.size w (World.setCell (World.setCell (World.setCell (World.setCell (World.setCell (World.setCell w1 ⟨w.heap.size, 0, none⟩ (.int .i64 S)) ⟨w.heap.size, 1, none⟩ (.int .i64 A)) ⟨w.heap.size, 2, none⟩ (.int .i64 C)) ⟨w.heap.size, 3, none⟩ (.int .i64 (n : Int))) ⟨w.heap.size, 4, none⟩ (.int .i64 G)) ⟨w.heap.size, 5, none⟩ (.int .i64 K)) := (((((hb1.out.setCell (p := ⟨w.heap.size, 0, none⟩) (Nat.le_refl _) _).setCell (p := ⟨w.heap.size, 1, none⟩) (Nat.le_refl _) _).setCell (p := ⟨w.heap.size, 2, none⟩) (Nat.le_refl _) _).setCell (p := ⟨w.heap.size, 3, none⟩) (Nat.le_refl _) _).setCell (p := ⟨w.heap.size, 4, none⟩) (Nat.le_refl _) _).setCell (p := ⟨w.heap.size, 5, none⟩) (Nat.le_refl _) _
  clear c0 c1 c2 c3 c4 c5 z0 z1 z2 z3 z4 z5
  generalize World.setCell (World.setCell (World.setCell (World.setCell (World.setCell (World.setCell w1 ⟨w.heap.size, 0, none⟩ (.int .i64 S)) ⟨w.heap.size, 1, none⟩ (.int .i64 A)) ⟨w.heap.size, 2, none⟩ (.int .i64 C)) ⟨w.heap.size, 3, none⟩ (.int .i64 (n : Int))) ⟨w.heap.size, 4, none⟩ (.int .i64 G)) ⟨w.heap.size, 5, none⟩ (.int .i64 K) = w2 at *
  have hCF := hc2.lt
  have c0 := hc2.cell (i := 0) rfl
  have c1 := hc2.cell (i := 1) rfl
  have c2 := hc2.cell (i := 2) rfl
  have c3 := hc2.cell (i := 3) rfl
  have c4 := hc2.cell (i := 4) rfl
  have c5 := hc2.cell (i := 5) rfl
  have hs' := hs.out
  obtain ⟨⟨s0, s1⟩, ⟨s2, s3⟩, ⟨s4, s5⟩, ⟨s6, s7⟩, ⟨s8, s9⟩, ⟨s10, s11⟩⟩ := hs'
  clear hb1 hf hf1
  generalize hCFe : w.heap.size = CF at *
  replace hc2 := Lib.hid hc2
  replace hB2 := Lib.hid hB2
  by_cases hlen : len ≤ 200
  · go_wp2_with (first
      | (go_at_call 27; refine (new_c S A C G K 0 0 n w2 (Int.le_refl 0) ⟨small_right hs.out, Int.le_refl 0, by omega⟩ (by decide)).mono ?_; rintro e w3 ⟨t, b, rfl, hT3, ht, hb, hb3⟩; have hc3 := Lib.hid (hc2.out.below hb3 hc2.out.lt); replace hT3 := Lib.hid hT3; replace hb3 := Lib.hid hb3)
      | (go_at_call 28; refine (awake_c _).mono ?_; rintro e w4 ⟨rfl, hb4⟩; have hc4 := Lib.hid (hc3.out.below hb4 hc3.out.lt); have hT4 := Lib.hid (hT3.out.next hb4); replace hb4 := Lib.hid hb4))
    have sz2 : CF ≤ w2.heap.size := by omega
    have hB4 := Lib.hid ((hB2.out.trans (hb3.out.mono sz2)).trans (hb4.out.mono (Nat.le_trans sz2 hb3.out.size)))
    have gt : CF ≤ t := by omega
    have gb : CF ≤ b := by omega
    have nC : ¬ two t b CF := fun c => c.elim (fun e => by omega) (fun e => by omega)
    have hF0 := Fresh.new S A C G K n (by omega)
    have lt4 : t < w4.heap.size := hT4.out.lm
    have lb4 : b < w4.heap.size := hT4.out.lb
    have sn : n ≤ 16 := by omega
    clear c0 c1 c2 c3 c4 c5 hc2 hc3 hT3 hb3 hb4 hB2
    generalize hX : w4.heap.size = X at *
    have nX : ∀ k, X ≤ k → ¬ two t b k := fun k hk c => c.elim (fun e => by omega) (fun e => by omega)
    go_wp2
    go_loopw [6, 7] (fun v z wr => ∃ (k : Nat) (s : Rt) (L : List Int), k ≤ len ∧ wr.ownsRow X 26 1 v L.length (L.map (Value.int .u64)) ∧ L.length ≤ k ∧ z = .int .i64 (k : Int) ∧ TabB wr t b s ∧ Fresh s n S k L ∧ Blk wr CF 48 #[.int .i64 S, .int .i64 A, .int .i64 C, .int .i64 (n : Int), .int .i64 G, .int .i64 K] ∧ Below CF w wr ∧ X ≤ wr.heap.size) (fun _ z _ => len - (intOf z).toNat)
    case atStart => exact ⟨0, _, [], Nat.zero_le _, World.ownsRow_nil _ _ _ _, Nat.le_refl _, rfl, hT4.out, hF0, hc4.out, hB4.out, by omega⟩
    case round =>
      obtain ⟨k, s, L, hk, hO, hLk, rfl, hT, hF, hC, hB, hXs⟩ := hrel
      obtain ⟨A1, c1, rfl, hLc, hrd⟩ := owns_reads hO
      have ok := Lib.hid (hF.ok sn (by omega) (by omega))
      have c0 := hC.cell (i := 0) rfl
      have c3 := hC.cell (i := 3) rfl
      by_cases hlt : k < len
      · obtain ⟨bl, off, rfl, hbl, x0⟩ := hl.out.num hlt
        have y0 := (hB.cell (p := ⟨bl, off + k, none⟩) (show bl < CF by omega)).trans x0
        obtain ⟨x, hx⟩ : ∃ x, IntKind.i64.wrap ((IntKind.u64.wrap (q k)).tmod S) = x := ⟨_, rfl⟩
        obtain ⟨y, hy⟩ : ∃ y, IntKind.i64.wrap ((IntKind.u64.wrap (q k)).tmod (n : Int)) = y := ⟨_, rfl⟩
        have hSw : IntKind.u64.wrap S = S := Core.wrap_u64_id _ (by omega) (by omega)
        have hS0 : ¬ S = 0 := by omega
        have hnw : IntKind.u64.wrap (n : Int) = (n : Int) := Core.wrap_u64_id _ (by omega) (by omega)
        have hn0 : ¬ (n : Int) = 0 := by omega
        have hn0' : ¬ n = 0 := by omega
        replace x0 := Lib.hid x0
        replace hT := Lib.hid hT
        replace hB := Lib.hid hB
        replace hC := Lib.hid hC
        replace hO := Lib.hid hO
        replace hrd := Lib.hid hrd
        cases hTB : takeB s x with
        | true =>
          obtain ⟨hF1, hne, _, _⟩ := hF.take sn (by omega) hTB
          replace hTB := Lib.hid hTB
          replace hF := Lib.hid hF
          replace hF1 := Lib.hid hF1
          replace hne := Lib.hid hne
          have hX0 := And.intro y0 (show wr.cell? ⟨CF, 0, none⟩ = some (.int .i64 S) from c0)
          go_wp2
          go_region_held3 (fun w' => w'.cell? ⟨bl, off + k, none⟩ = some (.int .i64 (q k)) ∧ w'.cell? ⟨CF, 0, none⟩ = some (.int .i64 S)) (assumption) (first
            | (go_at_call 29; (try rw [hx]); refine (take_c _ t b s _ hT.out.drew ok.out).mono ?_; rintro e w5 ⟨rfl, hT5, hF5'⟩; rw [hTB.out]; have hF5 := (Fr.drew (two t b) wr).trans hF5'; clear hF5'; have hC5 := hC.out.fr hF5 nC; have d0 : w5.cell? ⟨CF, 0, none⟩ = some (.int .i64 S) := hC5.cell (i := 0) rfl; replace hC5 := Lib.hid hC5; have hB5 := below_two hB.out hF5 gt gb (by omega); have hX5' := And.intro ((hB5.cell (p := ⟨bl, off + k, none⟩) (show bl < CF by omega)).trans x0.out) d0; replace hB5 := Lib.hid hB5; have hO5 := Lib.hid (owns_fr hO.out hF5 nX); replace hT5 := Lib.hid hT5; have hX5 : X ≤ w5.heap.size := Nat.le_trans hXs hF5.size; replace hF5 := Lib.hid hF5))
          all_goals go_wp2
          generalize takeS s x = s5 at *
          generalize takeH s x = hh at *
          obtain ⟨A5, c5', e5, _, hrd5⟩ := owns_reads hO5.out
          cases e5
          replace hrd5 := Lib.hid hrd5
          go_loopw [11] (fun z wr => ∃ i : Nat, i ≤ L.length ∧ z = .int .i64 (i : Int) ∧ Drawn0 w5 wr) (fun z _ => L.length - (intOf z).toNat)
          case atStart => exact ⟨0, Nat.zero_le _, rfl, Drawn0.refl _⟩
          case round =>
            obtain ⟨i, hi, rfl, ⟨nd, rfl⟩⟩ := hrel
            by_cases hli : i < L.length
            · obtain ⟨g, e6, y6⟩ := hrd5.out i hli
              cases e6
              have hcmp := hne.out _ (show L.getD i 0 ∈ L from by rw [List.getD_eq_getElem?_getD, List.getElem?_eq_getElem hli]; exact List.getElem_mem hli)
              generalize L.getD i 0 = zz at *
              have hcmp' : (zz == hh) = false := beq_eq_false_iff_ne.2 hcmp
              replace hcmp := Lib.hid hcmp
              go_wp2
              go_roundw
              case rel => exact ⟨i + 1, by omega, by go_num, ⟨_, rfl⟩⟩
              case measure => simp [intOf]; omega
            · have : i = L.length := by omega
              subst this
              go_wp2_with ((with_reducible refine gate_builtin (b := .append) (xs := #[.tmp 81, .tmp 83]) rfl ?_); at_builtin; refine print_append_cells (w0 := w5) X rfl (.tmp 81) (.tmp 83) 22 26 (.int .u64 0) 1 8 rfl Try.underlying22 info26 rfl (by decide) (by decide) _ L.length (L.map (Value.int .u64)) [.int .u64 hh] rfl rfl rfl (by simp [Value.oneCell']) (owns_fr hO5.out (Fr.drewN (fun _ => False) _ nd) (fun _ _ => id)) (below_drewN' (Below.refl _ _)) hX5 (by omega) ?_; intro v1 w10 ho hb10 hg hat; have hb10 := Lib.hid hb10; replace ho := Lib.hid ho; clear hg hat)
              go_roundw
              case rel =>
                have hb5 : Below X w5 w10 := hb10.out
                exact ⟨k + 1, _, L ++ [hh], by omega, by rw [List.length_append, List.map_append]; exact ho.out, by rw [List.length_append]; simp; omega, by go_num, hT5.out.below hb5 lt4 lb4, hF1.out, hC5.out.below hb5 (by omega), hB5.out.trans (hb5.mono (by omega)), Nat.le_trans hX5 hb5.size⟩
              case measure => simp [intOf]; omega
        | false =>
          have hTS : takeS s x = s := by unfold takeS; rw [hTB]; rfl
          have hF1 := Lib.hid (hF.drop (by omega) y)
          replace hTB := Lib.hid hTB
          replace hTS := Lib.hid hTS
          replace hF := Lib.hid hF
          have hX0 := And.intro y0 (show wr.cell? ⟨CF, 0, none⟩ = some (.int .i64 S) from c0)
          go_wp2
          go_region_held3 (fun w' => w'.cell? ⟨bl, off + k, none⟩ = some (.int .i64 (q k)) ∧ w'.cell? ⟨CF, 0, none⟩ = some (.int .i64 S)) (assumption) (first
            | (go_at_call 29; (try rw [hx]); refine (take_c _ t b s _ hT.out.drew ok.out).mono ?_; rintro e w5 ⟨rfl, hT5, hF5'⟩; rw [hTB.out]; rw [hTS.out] at hT5; have hF5 := (Fr.drew (two t b) wr).trans hF5'; clear hF5'; have hC5 := hC.out.fr hF5 nC; have d0 : w5.cell? ⟨CF, 0, none⟩ = some (.int .i64 S) := hC5.cell (i := 0) rfl; have d3 : w5.cell? ⟨CF, 3, none⟩ = some (.int .i64 (n : Int)) := hC5.cell (i := 3) rfl; replace hC5 := Lib.hid hC5; have hB5 := below_two hB.out hF5 gt gb (by omega); have y5 := (hB5.cell (p := ⟨bl, off + k, none⟩) (show bl < CF by omega)).trans x0.out; have hX5' := And.intro y5 d0; have hX5'' := And.intro y5 d3; replace hB5 := Lib.hid hB5; have hO5 := Lib.hid (owns_fr hO.out hF5 nX); replace hT5 := Lib.hid hT5; have hX5 : X ≤ w5.heap.size := Nat.le_trans hXs hF5.size; replace hF5 := Lib.hid hF5))
          all_goals
            go_wp2
            go_region_held3 (fun w' => w'.cell? ⟨bl, off + k, none⟩ = some (.int .i64 (q k)) ∧ w'.cell? ⟨CF, 3, none⟩ = some (.int .i64 (n : Int))) (assumption) (first
              | (go_at_call 32; (try rw [hy]); refine (drop_c _ t b s _ hT5.out.drew ok.out).mono ?_; rintro e w6 ⟨rfl, hT6, hF6'⟩; have hF6 := (Fr.drew (two t b) w5).trans hF6'; clear hF6'; have hC6 := hC5.out.fr hF6 nC; have e3 : w6.cell? ⟨CF, 3, none⟩ = some (.int .i64 (n : Int)) := hC6.cell (i := 3) rfl; replace hC6 := Lib.hid hC6; have hB6 := below_two hB5.out hF6 gt gb (by omega); have hX6' := And.intro ((hB6.cell (p := ⟨bl, off + k, none⟩) (show bl < CF by omega)).trans x0.out) e3; replace hB6 := Lib.hid hB6; have hO6 := Lib.hid (owns_fr hO5.out hF6 nX); replace hT6 := Lib.hid hT6; have hX6 : X ≤ w6.heap.size := Nat.le_trans hX5 hF6.size; replace hF6 := Lib.hid hF6))
          all_goals go_wp2
          all_goals
            go_roundw
            case rel => exact ⟨k + 1, _, L, by omega, hO6.out, by omega, by go_num, hT6.out, hF1.out, hC6.out, hB6.out, hX6⟩
            case measure => simp [intOf]; omega
      · have : k = len := by omega
        subst this
        replace hT := Lib.hid hT
        replace hB := Lib.hid hB
        replace hC := Lib.hid hC
        replace hO := Lib.hid hO
        replace hrd := Lib.hid hrd
        replace hF := Lib.hid hF
        go_wp2_with (go_at_call 37; refine (h0_c _ t b s hT.out ok.out).mono ?_; rintro e w5 ⟨rfl, hb5⟩; replace hb5 := Lib.hid hb5)
        go_ret
        exact ⟨rfl, hCFe ▸ (hB.out.trans (hb5.out.mono (by omega)))⟩
  · have hlen' : (200 : Int) < len := by omega
    go_wp2_with (first
      | (go_at_call 27; refine (new_c S A C G K 0 0 n w2 (Int.le_refl 0) ⟨small_right hs.out, Int.le_refl 0, by omega⟩ (by decide)).mono ?_; rintro e w3 ⟨t, b, rfl, hT3, ht, hb, hb3⟩; replace hT3 := Lib.hid hT3; replace hb3 := Lib.hid hb3)
      | (go_at_call 28; refine (awake_c _).mono ?_; rintro e w4 ⟨rfl, hb4⟩; replace hb4 := Lib.hid hb4))
    go_ret
    have sz2 : CF ≤ w2.heap.size := by omega
    exact ⟨rfl, hCFe ▸ ((hB2.out.trans (hb3.out.mono sz2)).trans (hb4.out.mono (Nat.le_trans sz2 hb3.out.size)))⟩
end Go.Proofs.Ytljfpkdbooineaa.RootH
