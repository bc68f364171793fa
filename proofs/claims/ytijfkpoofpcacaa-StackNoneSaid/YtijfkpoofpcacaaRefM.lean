/-
  Layer 6, the document's memory (withyref06.Memory): its words are those of plan.Memory; condition: a right config.
-/
import Derived.Test.YtijfkpoofpcacaaPlanC
import Derived.Test.YtijfkpoofpcacaaOpen
import Derived.Deep.QuietTactic
import Derived.BigQuiet
set_option linter.unusedVariables false
namespace Go.Proofs.Ytijfkpoofpcacaa.RefM
open Go.RowKit Go.Proofs.Ytijfkpoofpcacaa.PArenaPlays Go.Proofs.YtijfkpoofpcacaaW.PrintWords Go.Proofs.Ytijfkpoofpcacaa.Blk Go.Proofs.Ytijfkpoofpcacaa.Core Go.Proofs.Ytijfkpoofpcacaa.PuArenaPlays Go.Proofs.Ytijfkpoofpcacaa.MemC Go.Proofs.Ytijfkpoofpcacaa.MemD Go.Proofs.Ytijfkpoofpcacaa.MemT Go.Proofs.Ytijfkpoofpcacaa.Memory Go.Proofs.Ytijfkpoofpcacaa.PlanC Go.Proofs.Ytijfkpoofpcacaa.Opens
abbrev Wd := S91
def rdW (l : List Wd) (j : Nat) : Wd := rd_T91 l (j : Int)
def linkN : List UInt8 := [108, 105, 110, 107]
def isL (x : Wd) : Bool := x.f0.data.toList == linkN
def wrd (x : Wd) : Nat → Value := fun c => if c = 0 then .string x.f0 else if c = 1 then .int .i64 x.f1 else .int .i64 x.f2
theorem sl_of_C {w : World} {A : Option Addr} {n : Nat} {xs : List Wd} (h : Kd.C k91 w A n xs) : Sl w A n 3 (fun i c => wrd (rdW xs i) c) := by
  intro hn
  obtain ⟨ad, e, c0, _, _⟩ := at_T91 h 0 (Int.le_refl 0) (by omega)
  obtain ⟨b, o, spot⟩ := ad
  have hspot : spot = none := by simpa [Addr.add] using World.cell?_spot c0
  subst hspot
  refine ⟨b, o, e, ?_, fun i hi j hj => ?_⟩
  · rw [Go.WideShapes.add_plain] at c0; exact cell_lt c0
  · obtain ⟨ad', e', x0, x1, x2⟩ := at_T91 h (i : Int) (by omega) (by omega)
    rw [e] at e'
    obtain rfl := (Option.some.inj e').symm
    rw [Int.toNat_natCast, Go.WideShapes.add_plain] at x0 x1 x2
    match j, hj with
    | 0, _ => exact x0
    | 1, _ => exact x1
    | 2, _ => exact x2
theorem _root_.Go.Proofs.Ytijfkpoofpcacaa.Opens.Sl.fr {P : Nat → Prop} {w w' : World} {A n m V} (h : Sl w A n m V) (hf : Fr P w w') (hb : ∀ b o, A = some ⟨b, o, none⟩ → 0 < n → ¬ P b) : Sl w' A n m V := by
  intro hn
  obtain ⟨b, off, e, hl, hc⟩ := h hn
  refine ⟨b, off, e, Nat.lt_of_lt_of_le hl hf.size, fun i hi j hj => ?_⟩
  have := hf.keep b hl (hb b off e hn)
  have h2 := hc i hi j hj
  simp only [World.cell?] at h2 ⊢
  rw [this]; exact h2
/-- The words behind i rounds. -/
def refF (L : List Wd) (S : Int) (i : Nat) : Nat → Int := fun j => if j = 0 then 1 else if j = 3 then 1 else if j < i ∧ isL (rdW L j) = true ∧ (rdW L j).f1 + 1 < S then (rdW L j).f1 + 2 else 0
theorem refF_yes {L : List Wd} {S : Int} {i : Nat} (h0 : i ≠ 0) (h3 : i ≠ 3) (h1 : isL (rdW L i) = true) (h2 : (rdW L i).f1 + 1 < S) : upd (refF L S i) i ((rdW L i).f1 + 2) = refF L S (i + 1) := by
  funext j
  unfold upd refF
  by_cases c : j = i
  · subst c; rw [if_pos rfl, if_neg h0, if_neg h3, if_pos ⟨Nat.lt_succ_self j, h1, h2⟩]
  · rw [if_neg c]
    by_cases j0 : j = 0
    · rw [if_pos j0, if_pos j0]
    · rw [if_neg j0, if_neg j0]
      by_cases j3 : j = 3
      · rw [if_pos j3, if_pos j3]
      · rw [if_neg j3, if_neg j3]
        by_cases d : j < i
        · by_cases d2 : isL (rdW L j) = true ∧ (rdW L j).f1 + 1 < S
          · rw [if_pos ⟨d, d2⟩, if_pos ⟨by omega, d2⟩]
          · rw [if_neg (fun x => d2 x.2), if_neg (fun x => d2 x.2)]
        · rw [if_neg (fun x => d x.1), if_neg (fun x => by have := x.1; omega)]
theorem refF_no {L : List Wd} {S : Int} {i : Nat} (h : ¬ (isL (rdW L i) = true ∧ (rdW L i).f1 + 1 < S)) : refF L S i = refF L S (i + 1) := by
  funext j
  unfold refF
  by_cases j0 : j = 0
  · rw [if_pos j0, if_pos j0]
  · rw [if_neg j0, if_neg j0]
    by_cases j3 : j = 3
    · rw [if_pos j3, if_pos j3]
    · rw [if_neg j3, if_neg j3]
      by_cases d2 : isL (rdW L j) = true ∧ (rdW L j).f1 + 1 < S
      · by_cases d : j < i
        · rw [if_pos ⟨d, d2⟩, if_pos ⟨by omega, d2⟩]
        · rw [if_neg (fun x => d x.1), if_neg (fun x => by
            have h1 := x.1
            obtain rfl : j = i := by omega
            exact h d2)]
      · rw [if_neg (fun x => d2 x.2), if_neg (fun x => d2 x.2)]
theorem refF_0 (L : List Wd) (S : Int) : upd (upd (fun _ => 0) 0 1) 3 1 = refF L S 0 := by
  funext j
  unfold upd refF
  by_cases j3 : j = 3
  · subst j3; rfl
  · rw [if_neg j3]
    by_cases j0 : j = 0
    · rw [if_pos j0, if_pos j0]
    · rw [if_neg j0, if_neg j0, if_neg j3, if_neg (by omega)]
theorem rdW_get {L : List Wd} {j : Nat} {x : Wd} (h : L[j]? = some x) : rdW L j = x := by
  unfold rdW rd_T91
  rw [Int.toNat_natCast, List.getD_eq_getElem?_getD, h]
  rfl
theorem link_is {S C H R : Nat} {j : Nat} (hj : j < (wordsL S C H R).length) (h : isL (rdW (wordsL S C H R) j) = true) : (j : Int) = 4 + (C : Int) * (1 + H + 2) + (rdW (wordsL S C H R) j).f1 * (2 + R) + 1 ∧ 0 ≤ (rdW (wordsL S C H R) j).f1 ∧ (rdW (wordsL S C H R) j).f1 < S := by
  have hg := List.getElem?_eq_getElem hj
  have hm := List.getElem_mem hj
  have hp := idx_words S C H R j _ hg
  have e := rdW_get hg
  rw [e] at h ⊢
  generalize (wordsL S C H R)[j] = x at *
  have hx : x = ⟨⟨#[108, 105, 110, 107]⟩, x.f1, x.f2⟩ := by
    obtain ⟨⟨⟨s⟩⟩, a, b⟩ := x
    simp [isL, linkN] at h
    simp [h]
  rw [mem_words] at hm
  rcases hm with h1 | ⟨c, _, h1⟩ | ⟨c, i, _, _, h1⟩ | ⟨c, _, h1⟩ | ⟨s, hs, h1 | ⟨i, _, h1⟩⟩
  · simp [headsW] at h1; rcases h1 with h1 | h1 | h1 | h1 <;> (rw [h1] at h; simp [isL, linkN] at h)
  · rw [h1] at h; simp [isL, linkN, pinW] at h
  · rw [h1] at h; simp [isL, linkN, entW] at h
  · simp [vsW] at h1; rcases h1 with h1 | h1 <;> (rw [h1] at h; simp [isL, linkN] at h)
  · simp [hlW] at h1
    rcases h1 with h1 | h1
    · rw [h1] at h; simp [isL, linkN] at h
    · subst h1
      simp [posW] at hp
      refine ⟨?_, by simp, by simp; exact hs⟩
      show (j : Int) = 4 + (C : Int) * (1 + H + 2) + (s : Int) * (2 + R) + 1
      omega
  · rw [h1] at h; simp [isL, linkN, bodyW] at h
theorem is_link {S C H R : Nat} {j s : Nat} (hs : s < S) (hj : (j : Int) = 4 + (C : Int) * (1 + H + 2) + (s : Int) * (2 + R) + 1) : isL (rdW (wordsL S C H R) j) = true ∧ (rdW (wordsL S C H R) j).f1 = s := by
  have hm : (⟨⟨#[108, 105, 110, 107]⟩, (s : Int), 0⟩ : Wd) ∈ wordsL S C H R := mem_link.2 ⟨by omega, by omega⟩
  obtain ⟨i, hi, he⟩ := List.getElem_of_mem hm
  have hg : (wordsL S C H R)[i]? = some ⟨⟨#[108, 105, 110, 107]⟩, (s : Int), 0⟩ := by rw [List.getElem?_eq_getElem hi, he]
  have hp := idx_words S C H R i _ hg
  simp [posW] at hp
  have : i = j := by omega
  subst this
  rw [rdW_get hg]
  exact ⟨by simp [isL, linkN], rfl⟩
theorem ref_mem {S C H : Nat} {A : Int} (hA : 0 ≤ A) (hS : 1 ≤ S) {j : Nat} (hj : j < (wordsL S C H (roomN A)).length) : refF (wordsL S C H (roomN A)) (S : Int) (wordsL S C H (roomN A)).length j = memF A C H ((S : Int) - 1).toNat j := by
  have hr : (2 : Int) + (roomN A : Nat) = roomV A := by unfold roomN roomV; split <;> omega
  have h5 : 5 ≤ roomV A := by unfold roomV; split <;> omega
  unfold refF memF
  by_cases j0 : j = 0
  · rw [if_pos j0, if_pos j0]
  · rw [if_neg j0, if_neg j0]
    by_cases j3 : j = 3
    · rw [if_pos j3, if_pos j3]
    · rw [if_neg j3, if_neg j3]
      by_cases c : isL (rdW (wordsL S C H (roomN A)) j) = true ∧ (rdW (wordsL S C H (roomN A)) j).f1 + 1 < S
      · rw [if_pos ⟨hj, c⟩]
        obtain ⟨e, e0, e1⟩ := link_is hj c.1
        have c2 := c.2
        generalize (rdW (wordsL S C H (roomN A)) j).f1 = s at *
        rw [hr] at e
        have e2 : (j : Int) - slotsV C H = 1 + s * roomV A := by unfold slotsV; omega
        rw [e2]
        have q1 : (1 + s * roomV A) % roomV A = 1 := by rw [Int.add_mul_emod_self_right, Int.emod_eq_of_lt (by omega) (by omega)]
        have q2 : (1 + s * roomV A) / roomV A = s := by rw [Int.add_mul_ediv_right _ _ (by omega), Int.ediv_eq_zero_of_lt (by omega) (by omega)]; omega
        have q3 : 0 ≤ s * roomV A := Int.mul_nonneg e0 (by omega)
        rw [q1, q2, if_pos ⟨by omega, rfl, by omega⟩]
      · rw [if_neg (fun x => c x.2), if_neg]
        rintro ⟨d0, d1, d2⟩
        have hd := Int.mul_ediv_add_emod ((j : Int) - slotsV C H) (roomV A)
        have hn := Int.ediv_nonneg d0 (show 0 ≤ roomV A by omega)
        obtain ⟨s, es⟩ := Int.eq_ofNat_of_zero_le hn
        rw [d1, es, Int.mul_comm] at hd
        rw [es] at d2
        obtain ⟨g1, g2⟩ := is_link (S := S) (C := C) (H := H) (R := roomN A) (j := j) (s := s) (by omega) (by rw [hr]; unfold slotsV at hd; omega)
        exact c ⟨g1, by rw [g2]; omega⟩
theorem isL_s {x : Wd} {b : Bool} (h : isL x = b) : (x.f0.toList == linkN) = b := by rw [Core.toList_data]; exact h
set_option maxHeartbeats 4000000 in
set_option maxRecDepth 100000 in
theorem refMemory_c (S C H : Nat) (A G K : Int) (w : World) (h : rightB S A C H G K = true) : Calls Try.prog 25 #[.agg #[.int .i64 (S : Int), .int .i64 A, .int .i64 (C : Int), .int .i64 (H : Int), .int .i64 G, .int .i64 K]] w fun e w' =>
    ∃ AA c b n, e = .returned (.slice AA n c) ∧ (n : Int) = sizeV S A C H ∧ w.heap.size ≤ b ∧ RowB w' AA c b n (memF A C H ((S : Int) - 1).toNat) ∧ Below w.heap.size w w' := by
  have hbd := size_bd h
  have hr := right_iff.1 h
  have hsz := sizes_eq S C H A
  have hmem : ∀ j, j < (wordsL S C H (roomN A)).length → refF (wordsL S C H (roomN A)) (S : Int) (wordsL S C H (roomN A)).length j = memF A C H ((S : Int) - 1).toNat j := fun j hj => ref_mem (by omega) (by omega) hj
  have hw := fun w => withyref06_Words.calls 2000 (S : Int) A (C : Int) (H : Int) G K _ w (p_rWords 2000 S C H A G K (by decide) (by omega) (by omega) (by omega) (by omega))
  have hlink : ∀ j, j < (wordsL S C H (roomN A)).length → isL (rdW (wordsL S C H (roomN A)) j) = true → 4 ≤ j ∧ 0 ≤ (rdW (wordsL S C H (roomN A)) j).f1 ∧ (rdW (wordsL S C H (roomN A)) j).f1 < 64 := by
    intro j hj hl
    obtain ⟨e, e0, e1⟩ := link_is hj hl
    have := mul_le2 (a := (rdW (wordsL S C H (roomN A)) j).f1) (b := 2 + (roomN A : Int)) (m := 64) (n := 100) e0 (by omega) (by omega) (by have := roomN_le (A := A) (by omega); omega)
    have h1 := Int.mul_nonneg (show (0 : Int) ≤ C by omega) (show 0 ≤ 1 + (H : Int) + 2 by omega)
    omega
  generalize wordsL S C H (roomN A) = L at *
  generalize hn : L.length = n at *
  have hf := Lib.hid (Blk.new w 23 #[.int .i64 (S : Int), .int .i64 A, .int .i64 (C : Int), .int .i64 (H : Int), .int .i64 G, .int .i64 K])
  have m1 : ∀ w : World, (Instr.makeSlice 29 (.int .i64 (n : Int)) (.int .i64 (n : Int))).run Try.prog w = .ok (.slice (some ⟨w.heap.size, 0, none⟩) n n) (w.alloc (.cells (rowF .u64 n (fun _ => 0)) 33)) := fun w => make_run (n : Int) (by omega) (by omega) w
  rw [← hsz] at hbd
  obtain ⟨_, _, _, _, n4, n5⟩ := hbd
  have n4' : 9 ≤ n := by omega
  have n5' : n ≤ 800 := by omega
  clear n4 n5
  replace hsz := Lib.hid hsz
  replace hmem := Lib.hid hmem
  replace hlink := Lib.hid hlink
  replace hw := Lib.hid hw
  replace h := Lib.hid h
  replace hn := Lib.hid hn
  obtain ⟨q1, q2⟩ : 1 ≤ (S : Int) ∧ (S : Int) ≤ 64 := by omega
  clear hr
  go_enter Try.func25, Try.ntmps25
  generalize hCFe : w.heap.size = CF at *
  go_wp2_with (first
    | (go_at_call 65; refine (hw.out _).mono ?_; rintro e w1 ⟨v, rfl, hR, hb1⟩; obtain ⟨AW, cW, rfl, hcw, hCw⟩ := Kd.R_reads hR; rw [hn.out] at hcw hCw ⊢; have hSl := sl_of_C hCw; clear hR hCw; have hf1 := hf.out.below hb1 hf.out.lt; have hR2 := rowB_new w1 n (fun _ => 0); obtain ⟨_, x0, y0⟩ := hR2.cell (show 0 < n by omega); have hR3 := rowB_put w1 n 0 (fun _ => 0) 1; obtain ⟨_, x3, y3⟩ := hR3.cell (show 3 < n by omega); replace hf1 := Lib.hid hf1; replace hb1 := Lib.hid hb1; replace hSl := Lib.hid hSl; replace hR2 := Lib.hid hR2; replace hR3 := Lib.hid hR3))
  have hR4 := rowB_new w1 n (upd (upd (fun _ => 0) 0 1) 3 1)
  rw [← rowF_set, ← rowF_set, refF_0 L (S : Int)] at hR4
  have hf4 := hf1.out.alloc (.cells (((rowF .u64 n (fun _ => 0)).setIfInBounds 0 (.int .u64 1)).setIfInBounds 3 (.int .u64 1)) 33)
  have hSl4 := hSl.out.fr (P := fun _ => False) (Fr.alloc _ w1 (.cells (((rowF .u64 n (fun _ => 0)).setIfInBounds 0 (.int .u64 1)).setIfInBounds 3 (.int .u64 1)) 33)) (fun _ _ _ _ => id)
  have z1 := hb1.out.size
  have szb : ∀ o : Obj, (w.alloc o).heap.size = CF + 1 := fun o => by rw [← hCFe]; simp
  rw [szb] at z1
  have hW4 : Below CF w (w1.alloc (.cells (((rowF .u64 n (fun _ => 0)).setIfInBounds 0 (.int .u64 1)).setIfInBounds 3 (.int .u64 1)) 33)) := by
    have g1 : Below CF w w1 := hCFe ▸ below_pre hb1.out
    exact g1.alloc (by omega) _
  have hB0 : CF < w1.heap.size := by omega
  obtain ⟨gS, offS, rfl, hgl, _⟩ := hSl.out (by omega)
  have ne2 : ¬ gS = w1.heap.size := by omega
  have sz4 : w1.heap.size < (w1.alloc (.cells (((rowF .u64 n (fun _ => 0)).setIfInBounds 0 (.int .u64 1)).setIfInBounds 3 (.int .u64 1)) 33)).heap.size := by simp
  clear x0 y0 x3 y3 hR2 hR3 hSl hf1 hb1 hf z1 szb m1 hw hgl
  generalize w1.heap.size = B at *
  generalize w1.alloc (.cells (((rowF .u64 n (fun _ => 0)).setIfInBounds 0 (.int .u64 1)).setIfInBounds 3 (.int .u64 1)) 33) = w4 at *
  replace hR4 := Lib.hid hR4
  replace hf4 := Lib.hid hf4
  replace hSl4 := Lib.hid hSl4
  replace hW4 := Lib.hid hW4
  go_loopw [5] (fun z wr => ∃ i : Nat, i ≤ n ∧ z = .int .i64 (i : Int) ∧ RowB wr (some ⟨B, 0, none⟩) n B n (refF L (S : Int) i) ∧ Fr (fun k => k = B) w4 wr) (fun z _ => n - (intOf z).toNat)
  case atStart => exact ⟨0, Nat.zero_le _, rfl, hR4.out, Fr.refl _ _⟩
  case round =>
    obtain ⟨i, hi, rfl, hRi, hF⟩ := hrel
    by_cases hlt : i < n
    · obtain ⟨_, x5, y5⟩ := hRi.cell hlt
      have hSi := hSl4.out.fr hF (fun b o e _ => by injection e with e; injection e with e1; show ¬ b = B; rw [← e1]; exact ne2)
      obtain ⟨_, _, e, _, hc⟩ := hSi (by omega)
      cases e
      have c0 : wr.cell? ⟨gS, offS + i * 3, none⟩ = some (.string (rdW L i).f0) := hc i hlt 0 (by decide)
      have c1 : wr.cell? ⟨gS, offS + i * 3 + 1, none⟩ = some (.int .i64 (rdW L i).f1) := hc i hlt 1 (by decide)
      have hCi := hf4.out.fr hF (fun c => by have c' : CF = B := c; omega)
      have k0 := hCi.cell (i := 0) rfl
      have hl := hlink.out i hlt
      have hy := @refF_yes L (S : Int) i
      have hno := @refF_no L (S : Int) i
      generalize rdW L i = x at *
      clear hc hSi hCi
      replace hRi := Lib.hid hRi
      replace hF := Lib.hid hF
      replace hy := Lib.hid hy
      replace hno := Lib.hid hno
      cases hx : isL x with
      | true =>
        obtain ⟨l1, l2, l3⟩ := hl hx
        have hS := isL_s hx
        unfold linkN at hS
        replace hx := Lib.hid hx
        clear hl
        by_cases hc2 : x.f1 + 1 < S
        · have ew : IntKind.u64.wrap (x.f1 + 2) = x.f1 + 2 := Core.wrap_u64_id _ (by omega) (by omega)
          go_wp2
          go_quiet (fail)
          go_wp2
          go_roundw
          case rel =>
            have hR8 := (hRi.out.fr (Fr.drewN (fun _ => False) wr nq) id).set i hlt (x.f1 + 2)
            rw [hy.out (by omega) (by omega) hx.out hc2] at hR8
            exact ⟨i + 1, by omega, by go_num, hR8, (hF.out.trans (Fr.drewN _ _ _)).trans (Fr.set (fun k => k = B) _ (p := ⟨B, i, none⟩) rfl _)⟩
          case measure => simp [intOf]; omega
        · go_wp2
          go_quiet (fail)
          go_wp2
          go_roundw
          case rel =>
            have hR8 := hRi.out.fr (Fr.drewN (fun _ => False) wr nq) id
            rw [hno.out (fun y => by have := y.2; omega)] at hR8
            exact ⟨i + 1, by omega, by go_num, hR8, hF.out.trans (Fr.drewN _ _ _)⟩
          case measure => simp [intOf]; omega
      | false =>
        have hS := isL_s hx
        unfold linkN at hS
        replace hx := Lib.hid hx
        clear hl
        go_wp2
        go_quiet (fail)
        go_wp2
        go_roundw
        case rel =>
          have hR8 := hRi.out.fr (Fr.drewN (fun _ => False) wr nq) id
          rw [hno.out (fun c => by rw [hx.out] at c; exact absurd c.1 (by decide))] at hR8
          exact ⟨i + 1, by omega, by go_num, hR8, hF.out.trans (Fr.drewN _ _ _)⟩
        case measure => simp [intOf]; omega
    · have : i = n := by omega
      subst this
      replace hRi := Lib.hid hRi
      replace hF := Lib.hid hF
      go_wp2
      go_ret
      refine ⟨_, _, B, _, rfl, hsz.out, by omega, ?_, hW4.out.trans (hF.out.below (fun k hk => ⟨by omega, fun c => by omega⟩))⟩
      obtain ⟨e, cs, h4, h5⟩ := hRi.out.row (by omega)
      exact ⟨hRi.out.cap, fun _ => ⟨e, cs, h4, fun j hj => by rw [h5 j hj, hmem.out j hj]; rw [show ((S : Int) - 1).toNat = S - 1 from by omega]⟩⟩
end Go.Proofs.Ytijfkpoofpcacaa.RefM
