/-
  Layer 7 (stack): lists of numbers that are compared and searched, and stack.List of any words; condition: a right config, as many words as it has.
-/
import Derived.Test.YtijfkpoofpcacaaStackS
set_option linter.unusedVariables false
namespace Go.Proofs.Ytijfkpoofpcacaa.StackT
open Go.RowKit Go.Proofs.YtijfkpoofpcacaaW.PrintWords Go.Proofs.Ytijfkpoofpcacaa.Blk Go.Proofs.Ytijfkpoofpcacaa.Core Go.Proofs.Ytijfkpoofpcacaa.MemC Go.Proofs.Ytijfkpoofpcacaa.MemD Go.Proofs.Ytijfkpoofpcacaa.MemT Go.Proofs.Ytijfkpoofpcacaa.PlanC Go.Proofs.Ytijfkpoofpcacaa.PlanD Go.Proofs.Ytijfkpoofpcacaa.StackC Go.Proofs.Ytijfkpoofpcacaa.StackL Go.Proofs.Ytijfkpoofpcacaa.StackS Go.Proofs.Ytijfkpoofpcacaa.Opens
theorem Li.cell {w : World} {B : Nat} {v : Value} {l : List Int} (h : Li w B v l) : ∃ A cc, v = .slice A l.length cc ∧ l.length ≤ cc ∧ l.length ≤ 100000 ∧ ∀ i, i < l.length → ∃ b o, A = some ⟨b, o, none⟩ ∧ w.cell? ⟨b, o + i, none⟩ = some (.int .i64 (l.getD i 0)) := by
  obtain ⟨A, cc, e, hc, hS, hB, hl⟩ := h
  refine ⟨A, cc, e, hc, hl, fun i hi => ?_⟩
  obtain ⟨b, o, e', _, hcl⟩ := hS (by omega)
  have := hcl i hi 0 (by decide)
  rw [Nat.mul_one] at this
  exact ⟨b, o, e', this⟩
theorem getD_eq {l : List Int} {i : Nat} (h : i < l.length) : l.getD i 0 = l[i] := by rw [List.getD_eq_getElem?_getD, List.getElem?_eq_getElem h]; rfl
theorem take_ext {l k : List Int} (hl : l.length = k.length) (h : ∀ i, i < l.length → l.getD i 0 = k.getD i 0) : l = k := by
  apply List.ext_getElem hl
  intro i h1 h2
  have := h i h1
  rwa [getD_eq h1, getD_eq h2] at this
theorem sameC (w : World) (B B' : Nat) (u v : Value) (l k : List Int) (hu : Li w B u l) (hv : Li w B' v k) : Calls Try.prog 28 #[u, v] w fun e w' => e = .returned (.bool (decide (l = k))) ∧ Below w.heap.size w w' := by
  by_cases hlen : l.length = k.length
  · have key : ∀ w', Below w.heap.size w w' → (∃ A cc, u = .slice A l.length cc ∧ l.length ≤ cc ∧ l.length ≤ 100000 ∧ ∀ i, i < l.length → ∃ b o, A = some ⟨b, o, none⟩ ∧ w'.cell? ⟨b, o + i, none⟩ = some (.int .i64 (l.getD i 0))) ∧ ∃ A cc, v = .slice A k.length cc ∧ k.length ≤ cc ∧ k.length ≤ 100000 ∧ ∀ i, i < k.length → ∃ b o, A = some ⟨b, o, none⟩ ∧ w'.cell? ⟨b, o + i, none⟩ = some (.int .i64 (k.getD i 0)) := fun w' hb => ⟨Li.cell (hu.below hb), Li.cell (hv.below hb)⟩
    obtain ⟨A, cc, rfl, hc, hl, _⟩ := Li.cell hu
    obtain ⟨A', cc', rfl, hc', hl', _⟩ := Li.cell hv
    replace key := Lib.hid key
    rw [← hlen] at hc' hl'
    have hd : ∀ i, l.length = i → (∀ j, j < i → l.getD j 0 = k.getD j 0) → decide (l = k) = true := fun i hi h => decide_eq_true (take_ext hlen (fun j hj => h j (by omega)))
    have hne : ∀ i, i < l.length → l.getD i 0 ≠ k.getD i 0 → decide (l = k) = false := fun i hi h => decide_eq_false (fun e => h (by rw [e]))
    replace hd := Lib.hid hd
    replace hne := Lib.hid hne
    clear hu hv
    obtain ⟨r, hr⟩ : ∃ r, decide (l = k) = r := ⟨_, rfl⟩
    rw [hr, ← hlen]
    rw [hr] at hd hne
    replace hr := Lib.hid hr
    rw [← hlen] at key
    replace hlen := Lib.hid hlen
    generalize l.length = n at *
    go_enter Try.func28, Try.ntmps28
    go_wp2
    go_loopw [5] (fun z wr => ∃ i : Nat, i ≤ n ∧ z = .int .i64 (i : Int) ∧ Below w.heap.size w wr ∧ ∀ j, j < i → l.getD j 0 = k.getD j 0) (fun z _ => n - (intOf z).toNat)
    case atStart => exact ⟨0, Nat.zero_le _, rfl, Below.refl _ _, fun j hj => absurd hj (by omega)⟩
    case round =>
      obtain ⟨i, hi, rfl, hB, hj⟩ := hrel
      by_cases hlt : i < n
      · obtain ⟨⟨_, _, e1, _, _, h1⟩, ⟨_, _, e2, _, _, h2⟩⟩ := key.out _ hB
        cases e1
        cases e2
        obtain ⟨b1, o1, rfl, x1⟩ := h1 i hlt
        obtain ⟨b2, o2, rfl, x2⟩ := h2 i hlt
        clear h1 h2
        replace hB := Lib.hid hB
        replace hj := Lib.hid hj
        by_cases he : l.getD i 0 = k.getD i 0
        · have hE := Lib.hid he
          rw [← he] at x2
          clear he
          go_wp2
          go_quiet (fail)
          go_wp2
          go_roundw
          case rel => exact ⟨i + 1, by omega, by go_num, pw_below_drewN hB.out _, fun j hj' => by
            rcases Nat.lt_or_ge j i with q | q
            · exact hj.out j q
            · obtain rfl : j = i := by omega
              exact hE.out⟩
          case measure => simp [intOf]; omega
        · have hf := hne.out i hlt he
          have he' : (l.getD i 0 == k.getD i 0) = false := beq_eq_false_iff_ne.2 he
          generalize l.getD i 0 = y1 at *
          generalize k.getD i 0 = y2 at *
          subst hf
          go_wp2
          go_quiet (fail)
          go_wp2
          go_ret
          exact ⟨rfl, pw_below_drewN hB.out _⟩
      · have hT := hd.out i (by omega) hj
        replace hB := Lib.hid hB
        replace hj := Lib.hid hj
        subst hT
        go_wp2
        go_ret
        exact ⟨rfl, hB.out⟩
  · rw [decide_eq_false (fun e => hlen (by rw [e]))]
    obtain ⟨A, cc, rfl, hc, hl, _⟩ := Li.cell hu
    obtain ⟨A', cc', rfl, hc', hl', _⟩ := Li.cell hv
    have e1 : decide ((l.length : Int) = k.length) = false := decide_eq_false (by omega)
    have e2 : ((l.length : Int) == k.length) = false := beq_eq_false_iff_ne.2 (by omega)
    clear hu hv
    go_enter Try.func28, Try.ntmps28
    go_wp2
    go_ret
    exact ⟨rfl, Below.refl _ _⟩
theorem hasC (w : World) (B : Nat) (v : Value) (l : List Int) (x : Int) (hv : Li w B v l) : Calls Try.prog 49 #[v, .int .i64 x] w fun e w' => e = .returned (.bool (decide (x ∈ l))) ∧ w = w' := by
  obtain ⟨A, cc, rfl, hc, hl, h1⟩ := Li.cell hv
  have hd : ∀ i, l.length = i → (∀ j, j < i → l.getD j 0 ≠ x) → decide (x ∈ l) = false := fun i hi h => decide_eq_false (fun hm => by
    obtain ⟨j, hj, e⟩ := List.getElem_of_mem hm
    exact h j (by omega) (by rw [getD_eq hj]; exact e))
  have hy : ∀ i, i < l.length → l.getD i 0 = x → decide (x ∈ l) = true := fun i hi h => decide_eq_true (by rw [← h, getD_eq hi]; exact List.getElem_mem hi)
  clear hv
  obtain ⟨r, hr⟩ : ∃ r, decide (x ∈ l) = r := ⟨_, rfl⟩
  rw [hr] at hd hy ⊢
  replace hd := Lib.hid hd
  replace hy := Lib.hid hy
  replace h1 := Lib.hid h1
  replace hr := Lib.hid hr
  generalize l.length = n at *
  go_enter Try.func49, Try.ntmps49
  go_wp2
  go_loopw [5] (fun z wr => ∃ i : Nat, i ≤ n ∧ z = .int .i64 (i : Int) ∧ w = wr ∧ ∀ j, j < i → l.getD j 0 ≠ x) (fun z _ => n - (intOf z).toNat)
  case atStart => exact ⟨0, Nat.zero_le _, rfl, rfl, fun j hj => absurd hj (by omega)⟩
  case round =>
    obtain ⟨i, hi, rfl, rfl, hj⟩ := hrel
    by_cases hlt : i < n
    · obtain ⟨b1, o1, rfl, x1⟩ := h1.out i hlt
      replace hj := Lib.hid hj
      by_cases he : l.getD i 0 = x
      · have hT := hy.out i hlt he
        rw [he] at x1
        subst hT
        clear he
        go_wp2
        go_ret
        exact ⟨rfl, rfl⟩
      · have he' : (l.getD i 0 == x) = false := beq_eq_false_iff_ne.2 he
        have hE := Lib.hid he
        clear he
        generalize l.getD i 0 = y at x1 he'
        go_wp2
        go_roundw
        case measure => simp [intOf]; omega
        refine ⟨i + 1, by omega, by go_num, trivial, fun j hj' => ?_⟩
        rcases Nat.lt_or_ge j i with q | q
        · exact hj.out j q
        · obtain rfl : j = i := by omega
          exact hE.out
    · have hT := hd.out i (by omega) hj
      subst hT
      replace hj := Lib.hid hj
      go_wp2
      go_ret
      exact ⟨rfl, rfl⟩

theorem own_mono {w : World} {base base' : Nat} {e : TypeId} {size : Nat} {v : Value} {n : Nat} {xs : List Value} (h : w.ownsRow base e size v n xs) (hb : base' ≤ base) : w.ownsRow base' e size v n xs :=
  ⟨h.1, h.2.imp id fun ⟨g, cap, cur, h1, h2, h3⟩ => ⟨g, cap, cur, h1, Nat.le_trans hb h2, h3⟩⟩
theorem infoI : (Try.prog.info? 3).map (fun i => (i.zero, i.size, i.bytes)) = some (some (.int .i64 0), 1, 8) := by kernel_rfl
theorem li_of_own {w : World} {B : Nat} {v : Value} {xs : List Int} (h : w.ownsRow B 3 1 v xs.length (nums .i64 xs)) (hl : xs.length ≤ 100000) : Li w B v xs := by
  have hb := own_base h
  obtain ⟨h1, h2⟩ := h
  rcases h2 with ⟨rfl, h0⟩ | ⟨g, cap, cur, rfl, hg, hh, hc, hm, hs, ht⟩
  · have hx : xs = [] := by cases xs with
      | nil => rfl
      | cons a l => simp at h0
    subst hx
    exact ⟨none, 0, rfl, Nat.le_refl _, fun h => absurd h (by decide), fun b o e => (by cases e), hl⟩
  · refine ⟨_, cap, rfl, hc, fun hn => ⟨g, 0, rfl, (Array.getElem?_eq_some_iff.1 hh).1, fun i hi j hj => ?_⟩, fun b o e _ => by cases e; exact hg, hl⟩
    obtain rfl : j = 0 := by omega
    have := congrArg (fun l => l[i]?) ht
    simp only [List.getElem?_take, Nat.mul_one, hi, if_true] at this
    have e2 : cur[i]? = some (.int .i64 (xs.getD i 0)) := by
      rw [← Array.getElem?_toList, this]
      simp [nums, List.getElem?_map, List.getD_eq_getElem?_getD, List.getElem?_eq_getElem hi]
    simp only [World.cell?, hh]
    simpa using e2
def curI (S x : Int) : Int := if 1 ≤ x ∧ x ≤ S then x - 1 else -1
theorem cur_first (S y : Int) (h0 : 0 ≤ y) (hS : 0 ≤ S) : firstI S y = curI S (y % 65536) := by
  unfold firstI curI
  by_cases h : S ≤ y % 65536 - 1
  · rw [if_pos h, if_neg (by omega)]
  · rw [if_neg h]
    by_cases h1 : 1 ≤ y % 65536
    · rw [if_pos ⟨h1, by omega⟩]
    · rw [if_neg (fun q => h1 q.1)]; omega
theorem cur_linked (S x : Int) (h0 : 0 ≤ x) (hS : 0 ≤ S) : linkedI S x = curI S x := by
  unfold linkedI curI
  by_cases h : S < x
  · rw [if_pos h, if_neg (by omega)]
  · rw [if_neg h]
    by_cases h1 : 1 ≤ x
    · rw [if_pos ⟨h1, by omega⟩]
    · rw [if_neg (fun q => h1 q.1)]; omega
set_option maxHeartbeats 4000000 in
set_option maxRecDepth 100000 in
theorem listR (c : Cf) (w : World) (cc b off n : Nat) (f : Nat → Int) (hf : U f) (h : c.right = true) (hn : (n : Int) = c.size) (hc : n ≤ cc) (hR : RdB w b off n f) : Calls Try.prog 29 #[.agg #[.int .i64 c.S, .int .i64 c.A, .int .i64 c.C, .int .i64 c.H, .int .i64 c.G, .int .i64 c.K], .slice (some ⟨b, off, none⟩) n cc] w fun e w' =>
    ∃ v, e = .returned v ∧ Li w' w.heap.size v (listV c f) ∧ Below w.heap.size w w' := by
  have hr := right_iff.1 h
  have hbd := size_bd h
  have hbd' : 9 ≤ (n : Int) ∧ (n : Int) ≤ 800 := by rw [hn]; unfold Cf.size; omega
  obtain ⟨k, hk⟩ := Int.eq_ofNat_of_zero_le (show 0 ≤ c.S by omega)
  have hk64 : k ≤ 64 := by omega
  have hk1 : 1 ≤ k := by omega
  have f3 := hf 3
  have e1 : decide ((n : Int) = c.size) = true := decide_eq_true hn
  have e2 : ((n : Int) == c.size) = true := beq_iff_eq.2 hn
  have x3 := hR.cell 3 (by omega)
  have hbx := Lib.hid (Blk.new w 23 #[.int .i64 c.S, .int .i64 c.A, .int .i64 c.C, .int .i64 c.H, .int .i64 c.G, .int .i64 c.K])
  have hR1 := hR.alloc (.cells #[.int .i64 c.S, .int .i64 c.A, .int .i64 c.C, .int .i64 c.H, .int .i64 c.G, .int .i64 c.K] 23)
  have hL : chain c f k (f 3 % 65536) = listV c f := by unfold listV; rw [hk]; rfl
  replace hR := Lib.hid hR
  replace hR1 := Lib.hid hR1
  have h9 : 3 < n := by omega
  have h9' : (3 : Int) < (n : Int) := by omega
  have hlk := fun s (s0 : 0 ≤ s) (s1 : s < c.S) => link_lt h s0 s1
  replace hlk := Lib.hid hlk
  replace h := Lib.hid h
  replace hn := Lib.hid hn
  replace hf := Lib.hid hf
  replace hL := Lib.hid hL
  replace hk := Lib.hid hk
  replace e1 := Lib.hid e1
  replace e2 := Lib.hid e2
  clear hr hbd hbd' x3
  go_enter Try.func29, Try.ntmps29
  generalize hCFe : w.heap.size = CF at *
  go_wp2_with (first
    | (go_at_call 66; refine (rightC c _).mono ?_; rintro e w1 ⟨rfl, hb1⟩; rw [h.out]; have hf1 := hbx.out.below hb1 hbx.out.lt; obtain ⟨k0, k1, k2, k3, k4, k5⟩ := cfgs hf1; have hR2 := Lib.hid (hR1.out.below hb1); replace hf1 := Lib.hid hf1; replace hb1 := Lib.hid hb1)
    | (go_at_call 67; refine (sizeC c _ h.out).mono ?_; rintro e w2 ⟨rfl, hb2⟩; rw [← hn.out]; have hf2 := hf1.out.below hb2 hf1.out.lt; have hX := cfgs hf2.drew; have hR3 := hR2.out.below hb2; have x3 := hR3.cell 3 h9; replace hR3 := Lib.hid hR3.drew; replace hf2 := Lib.hid hf2.drew; replace hb2 := Lib.hid hb2))
  have hX1 : (w2.drew.cell? ⟨CF, 0, none⟩ = some (.int .i64 c.S) ∧ w2.drew.cell? ⟨CF, 1, none⟩ = some (.int .i64 c.A) ∧ w2.drew.cell? ⟨CF, 2, none⟩ = some (.int .i64 c.C) ∧ w2.drew.cell? ⟨CF, 3, none⟩ = some (.int .i64 c.H) ∧ w2.drew.cell? ⟨CF, 4, none⟩ = some (.int .i64 c.G) ∧ w2.drew.cell? ⟨CF, 5, none⟩ = some (.int .i64 c.K)) ∧ w2.drew.cell? ⟨b, off + 3, none⟩ = some (.int .u64 (f 3)) := ⟨hX, x3⟩
  have hT := Lib.hid (bT (below_pre hb1.out) hb2.out).drew
  clear k0 k1 k2 k3 k4 k5 hX x3 hf1 hR1 hR2 hb1 hb2 hbx hR
  go_region_held3 (fun w' => (w'.cell? ⟨CF, 0, none⟩ = some (.int .i64 c.S) ∧ w'.cell? ⟨CF, 1, none⟩ = some (.int .i64 c.A) ∧ w'.cell? ⟨CF, 2, none⟩ = some (.int .i64 c.C) ∧ w'.cell? ⟨CF, 3, none⟩ = some (.int .i64 c.H) ∧ w'.cell? ⟨CF, 4, none⟩ = some (.int .i64 c.G) ∧ w'.cell? ⟨CF, 5, none⟩ = some (.int .i64 c.K)) ∧ w'.cell? ⟨b, off + 3, none⟩ = some (.int .u64 (f 3))) (assumption) (first
    | (go_at_call 75; refine (firstC c _ (f 3) f3.1 f3.2).mono ?_; rintro e w4 ⟨rfl, hb⟩; have hf4 := hf2.out.below hb hf2.out.lt; have hR4 := hR3.out.below hb; have hY := And.intro (cfgs hf4) (hR4.cell 3 h9); replace hf4 := Lib.hid hf4; replace hR4 := Lib.hid hR4; replace hT := Lib.hid (bT hT.out hb); clear hb))
  rw [cur_first c.S (f 3) f3.1 (by rw [hk.out]; omega)]
  clear hX1 hY hf2 hR3
  have hsz := hT.out.size
  go_wp2
  generalize hB : w4.heap.size = B at *
  have hO : w4.ownsRow B 3 1 (.slice none 0 0) 0 (nums .i64 []) := World.ownsRow_nil _ _ _ _
  replace hO := Lib.hid hO
  go_loopw [5, 6] (fun v z wr => ∃ (acc : List Int) (d : Nat) (x : Int), acc.length + d = k ∧ 0 ≤ x ∧ x < 18446744073709551616 ∧ acc ++ chain c f d x = listV c f ∧ z = .int .i64 (curI c.S x) ∧ wr.ownsRow B 3 1 v acc.length (nums .i64 acc) ∧ Below B w4 wr) (fun v _ _ => k - (match v with | .slice _ n _ => n | _ => 0))
  case atStart => exact ⟨[], k, f 3 % 65536, by simp, by omega, by omega, hL.out, rfl, hO.out, Below.refl _ _⟩
  case round =>
    obtain ⟨acc, d, x, hd, x0, x1, hc, rfl, ho, hB4⟩ := hrel
    obtain ⟨AL, cL, rfl, _⟩ := own_reads ho
    have hf5 := hf4.out.below hB4 (by rw [← hB]; exact hf4.out.lt)
    have hR5 := hR4.out.below (hB ▸ hB4)
    have hsz5 := hB4.size
    have hS : c.S = k := hk.out
    by_cases hx : 1 ≤ x ∧ x ≤ c.S
    · have ec : curI c.S x = x - 1 := if_pos hx
      rw [ec]
      cases d with
      | succ d =>
        have hlt : acc.length < k := by omega
        unfold chain at hc
        rw [if_pos hx] at hc
        obtain ⟨q1, q2⟩ := hlk.out (x - 1) (by omega) (by omega)
        obtain ⟨ix, hix⟩ := Int.eq_ofNat_of_zero_le (show 0 ≤ c.link (x - 1) by omega)
        have hln : ix < n := by have := hn.out; omega
        have hlc := fun w => linkC c w (x - 1)
        rw [hix] at hlc
        rw [hix, Int.toNat_natCast] at hc
        have hk0 := hf5.cell (i := 0) rfl
        have fx := hf.out ix
        have g1 : 0 ≤ x - 1 := by omega
        have g2 : (acc.length : Int) < c.S := by omega
        replace hf5 := Lib.hid hf5
        replace hR5 := Lib.hid hR5
        replace ho := Lib.hid ho
        replace hB4 := Lib.hid hB4
        replace hc := Lib.hid hc
        replace hlc := Lib.hid hlc
        replace hS := Lib.hid hS
        clear hix q1 q2 ec
        go_wp2_with ((with_reducible refine gate_builtin (b := .append) (xs := #[.tmp 39, .tmp 41]) rfl ?_); at_builtin; refine print_append_num (w0 := w4) B rfl (.tmp 39) (.tmp 41) 35 3 .i64 8 rfl Try.underlying35 infoI (by decide) (.slice AL acc.length cL) acc (x - 1) rfl rfl ho.out hB4.out (by omega) (by omega) ?_; intro v1 w10 ho1 hb10 _ _; obtain ⟨AN, cN, rfl, _⟩ := own_reads ho1; have hf10 := (hf4.out.below hb10 (by rw [← hB]; exact hf4.out.lt)).drew; have hR10 := (hR4.out.below (hB ▸ hb10)).drew; have hX := And.intro (cfgs hf10) (hR10.cell ix hln); replace ho1 := Lib.hid ho1; replace hf10 := Lib.hid hf10; replace hR10 := Lib.hid hR10; replace hb10 := Lib.hid hb10)
        clear ho hB4 hf5 hR5 hk0
        have hX1 : (w10.drew.cell? ⟨CF, 0, none⟩ = some (.int .i64 c.S) ∧ w10.drew.cell? ⟨CF, 1, none⟩ = some (.int .i64 c.A) ∧ w10.drew.cell? ⟨CF, 2, none⟩ = some (.int .i64 c.C) ∧ w10.drew.cell? ⟨CF, 3, none⟩ = some (.int .i64 c.H) ∧ w10.drew.cell? ⟨CF, 4, none⟩ = some (.int .i64 c.G) ∧ w10.drew.cell? ⟨CF, 5, none⟩ = some (.int .i64 c.K)) ∧ w10.drew.cell? ⟨b, off + ix, none⟩ = some (.int .u64 (f ix)) := hX
        clear hX
        have l1 : (0 : Int) ≤ (ix : Int) := by omega
        have l2 : (ix : Int) < (n : Int) := by omega
        go_region_held3 (fun w' => (w'.cell? ⟨CF, 0, none⟩ = some (.int .i64 c.S) ∧ w'.cell? ⟨CF, 1, none⟩ = some (.int .i64 c.A) ∧ w'.cell? ⟨CF, 2, none⟩ = some (.int .i64 c.C) ∧ w'.cell? ⟨CF, 3, none⟩ = some (.int .i64 c.H) ∧ w'.cell? ⟨CF, 4, none⟩ = some (.int .i64 c.G) ∧ w'.cell? ⟨CF, 5, none⟩ = some (.int .i64 c.K)) ∧ w'.cell? ⟨b, off + ix, none⟩ = some (.int .u64 (f ix))) (assumption) (first
          | (go_at_call 69; refine (hlc.out _).mono ?_; rintro e w11 ⟨rfl, hb⟩; have hf11 := hf10.out.below hb hf10.out.lt; have hR11 := hR10.out.below hb; have hY := And.intro (cfgs hf11) (hR11.cell ix hln); have hU := Lib.hid hb; replace hf11 := Lib.hid hf11; replace hR11 := Lib.hid hR11; clear hb)
          | (go_at_call 76; refine (linkedC c _ h.out (f ix) fx.1 fx.2).mono ?_; rintro e w12 ⟨rfl, hb⟩; have hf12 := hf11.out.below hb hf11.out.lt; have hR12 := hR11.out.below hb; have hZ := And.intro (cfgs hf12) (hR12.cell ix hln); have hV := Lib.hid hb; clear hf12 hR12 hb))
        rw [cur_linked c.S (f ix) fx.1 (by rw [hS.out]; omega)]
        go_wp2
        go_roundw
        case rel =>
          have hbw := hb10.out.drew
          have hz := hbw.size
          have hbx := (hbw.trans (hU.out.mono (by show B ≤ w10.heap.size; have := hb10.out.size; omega)))
          have hby := hbx.trans (hV.out.mono (by have := hU.out.size; have : w10.drew.heap.size = w10.heap.size := rfl; have := hb10.out.size; omega))
          refine ⟨acc ++ [x - 1], d, f ix, by simp; omega, fx.1, fx.2, by rw [List.append_assoc]; exact hc.out, rfl, ?_, hby⟩
          have e : (acc ++ [x - 1]).length = acc.length + 1 := by simp
          have ho2 := pw_own_below ho1.out (bT (w := w10) (below_undrew (w := w10) (n := w10.heap.size) hU.out) hV.out)
          rw [e] at ho2 ⊢
          exact ho2
        case measure => simp; omega
      | zero =>
        have hdec : decide ((acc.length : Int) < c.S) = false := decide_eq_false (by omega)
        have hk0 := hf5.cell (i := 0) rfl
        have g1 : 0 ≤ x - 1 := by omega
        have g2 : ¬ (acc.length : Int) < c.S := by omega
        unfold chain at hc
        rw [List.append_nil] at hc
        replace ho := Lib.hid ho
        replace hB4 := Lib.hid hB4
        replace hc := Lib.hid hc
        replace hS := Lib.hid hS
        clear ec hf5 hR5
        go_wp2
        go_ret
        rw [← hc.out]
        have hz := hT.out.size
        exact ⟨_, rfl, li_of_own (own_mono ho.out (by omega)) (by omega), hCFe ▸ hT.out.trans (hB4.out.mono (by omega))⟩
    · have ec : curI c.S x = -1 := if_neg hx
      rw [ec]
      have hch : chain c f d x = [] := by cases d with
        | zero => rfl
        | succ d => unfold chain; rw [if_neg hx]
      rw [hch, List.append_nil] at hc
      replace ho := Lib.hid ho
      replace hB4 := Lib.hid hB4
      replace hc := Lib.hid hc
      replace hS := Lib.hid hS
      clear ec hf5 hR5 hch hx
      go_wp2
      go_ret
      rw [← hc.out]
      have hz := hT.out.size
      exact ⟨_, rfl, li_of_own (own_mono ho.out (by omega)) (by omega), hCFe ▸ hT.out.trans (hB4.out.mono (by omega))⟩
theorem listC (c : Cf) (w : World) (A : Option Addr) (cc b n : Nat) (f : Nat → Int) (hf : U f) (h : c.right = true) (hn : (n : Int) = c.size) (hR : RowB w A cc b n f) : Calls Try.prog 29 #[.agg #[.int .i64 c.S, .int .i64 c.A, .int .i64 c.C, .int .i64 c.H, .int .i64 c.G, .int .i64 c.K], .slice A n cc] w fun e w' =>
    ∃ v, e = .returned v ∧ Li w' w.heap.size v (listV c f) ∧ Below w.heap.size w w' := by
  have hb := size_bd h
  obtain ⟨rfl, hc, hR'⟩ := rd_of_row hR (by unfold Cf.size at hn; omega)
  exact listR c w cc b 0 n f hf h hn hc hR'
end Go.Proofs.Ytijfkpoofpcacaa.StackT
