/-
  What the law ArenaBodies needs of the seat's texts (RefM, ArenaW, ArenaX, CoreRow): the words and functions that the kit's print.sh printed, and our own; no condition of its own.
-/
import Derived.Deep.QuietTactic
import Derived.BigQuiet
import Derived.Lib.SliceRun
import Derived.Deep.Fields
import Derived.ChangeSame
import Derived.WideShapes
import Derived.ChangeArms
import Derived.RowKit
import Derived.Test.YtijfkpoofpcacaaZArenaBodies3
set_option linter.unusedVariables false
set_option linter.unusedSectionVars false
set_option linter.unusedSimpArgs false
section
set_option linter.unusedVariables false
namespace Go.Proofs.Ytijfkpoofpcacaa.RefM
open Go.RowKit Go.Proofs.Ytijfkpoofpcacaa.PArenaPlays Go.Proofs.YtijfkpoofpcacaaW.PrintWords Go.Proofs.Ytijfkpoofpcacaa.Blk Go.Proofs.Ytijfkpoofpcacaa.Core Go.Proofs.Ytijfkpoofpcacaa.PuArenaPlays Go.Proofs.Ytijfkpoofpcacaa.MemC Go.Proofs.Ytijfkpoofpcacaa.MemD Go.Proofs.Ytijfkpoofpcacaa.MemT Go.Proofs.Ytijfkpoofpcacaa.Memory Go.Proofs.Ytijfkpoofpcacaa.PlanC Go.Proofs.Ytijfkpoofpcacaa.Opens
abbrev Wd := S91
def rdW (l : List Wd) (j : Nat) : Wd := rd_T91 l (j : Int)
def linkN : List UInt8 := [108, 105, 110, 107]
def isL (x : Wd) : Bool := x.f0.data.toList == linkN
def wrd (x : Wd) : Nat → Value := fun c => if c = 0 then .string x.f0 else if c = 1 then .int .i64 x.f1 else .int .i64 x.f2
theorem sl_of_C {w : World} {A : Option Addr} {n : Nat} {xs : List Wd} (h : Kd.C k91 w A n xs) : Sl w A n 3 (fun i c => wrd (rdW xs i) c) := by
  intro hn
  obtain ⟨ad, e, c0, _, _⟩ := at_T91 h 0 (Int.le_refl 0) (by omega)
  obtain ⟨b, o, spot⟩ := ad
  have hspot : spot = none := by simpa [Addr.add] using World.cell?_spot c0
  subst hspot
  refine ⟨b, o, e, ?_, fun i hi j hj => ?_⟩
  · rw [Go.WideShapes.add_plain] at c0; exact cell_lt c0
  · obtain ⟨ad', e', x0, x1, x2⟩ := at_T91 h (i : Int) (by omega) (by omega)
    rw [e] at e'
    obtain rfl := (Option.some.inj e').symm
    rw [Int.toNat_natCast, Go.WideShapes.add_plain] at x0 x1 x2
    match j, hj with
    | 0, _ => exact x0
    | 1, _ => exact x1
    | 2, _ => exact x2
theorem _root_.Go.Proofs.Ytijfkpoofpcacaa.Opens.Sl.fr {P : Nat → Prop} {w w' : World} {A n m V} (h : Sl w A n m V) (hf : Fr P w w') (hb : ∀ b o, A = some ⟨b, o, none⟩ → 0 < n → ¬ P b) : Sl w' A n m V := by
  intro hn
  obtain ⟨b, off, e, hl, hc⟩ := h hn
  refine ⟨b, off, e, Nat.lt_of_lt_of_le hl hf.size, fun i hi j hj => ?_⟩
  have := hf.keep b hl (hb b off e hn)
  have h2 := hc i hi j hj
  simp only [World.cell?] at h2 ⊢
  rw [this]; exact h2
def refF (L : List Wd) (S : Int) (i : Nat) : Nat → Int := fun j => if j = 0 then 1 else if j = 3 then 1 else if j < i ∧ isL (rdW L j) = true ∧ (rdW L j).f1 + 1 < S then (rdW L j).f1 + 2 else 0
theorem refF_yes {L : List Wd} {S : Int} {i : Nat} (h0 : i ≠ 0) (h3 : i ≠ 3) (h1 : isL (rdW L i) = true) (h2 : (rdW L i).f1 + 1 < S) : upd (refF L S i) i ((rdW L i).f1 + 2) = refF L S (i + 1) := by
  funext j
  unfold upd refF
  by_cases c : j = i
  · subst c; rw [if_pos rfl, if_neg h0, if_neg h3, if_pos ⟨Nat.lt_succ_self j, h1, h2⟩]
  · rw [if_neg c]
    by_cases j0 : j = 0
    · rw [if_pos j0, if_pos j0]
    · rw [if_neg j0, if_neg j0]
      by_cases j3 : j = 3
      · rw [if_pos j3, if_pos j3]
      · rw [if_neg j3, if_neg j3]
        by_cases d : j < i
        · by_cases d2 : isL (rdW L j) = true ∧ (rdW L j).f1 + 1 < S
          · rw [if_pos ⟨d, d2⟩, if_pos ⟨by omega, d2⟩]
          · rw [if_neg (fun x => d2 x.2), if_neg (fun x => d2 x.2)]
        · rw [if_neg (fun x => d x.1), if_neg (fun x => by have := x.1; omega)]
theorem refF_no {L : List Wd} {S : Int} {i : Nat} (h : ¬ (isL (rdW L i) = true ∧ (rdW L i).f1 + 1 < S)) : refF L S i = refF L S (i + 1) := by
  funext j
  unfold refF
  by_cases j0 : j = 0
  · rw [if_pos j0, if_pos j0]
  · rw [if_neg j0, if_neg j0]
    by_cases j3 : j = 3
    · rw [if_pos j3, if_pos j3]
    · rw [if_neg j3, if_neg j3]
      by_cases d2 : isL (rdW L j) = true ∧ (rdW L j).f1 + 1 < S
      · by_cases d : j < i
        · rw [if_pos ⟨d, d2⟩, if_pos ⟨by omega, d2⟩]
        · rw [if_neg (fun x => d x.1), if_neg (fun x => by
            have h1 := x.1
            obtain rfl : j = i := by omega
            exact h d2)]
      · rw [if_neg (fun x => d2 x.2), if_neg (fun x => d2 x.2)]
theorem refF_0 (L : List Wd) (S : Int) : upd (upd (fun _ => 0) 0 1) 3 1 = refF L S 0 := by
  funext j
  unfold upd refF
  by_cases j3 : j = 3
  · subst j3; rfl
  · rw [if_neg j3]
    by_cases j0 : j = 0
    · rw [if_pos j0, if_pos j0]
    · rw [if_neg j0, if_neg j0, if_neg j3, if_neg (by omega)]
theorem rdW_get {L : List Wd} {j : Nat} {x : Wd} (h : L[j]? = some x) : rdW L j = x := by
  unfold rdW rd_T91
  rw [Int.toNat_natCast, List.getD_eq_getElem?_getD, h]
  rfl
theorem link_is {S C H R : Nat} {j : Nat} (hj : j < (wordsL S C H R).length) (h : isL (rdW (wordsL S C H R) j) = true) : (j : Int) = 4 + (C : Int) * (1 + H + 2) + (rdW (wordsL S C H R) j).f1 * (2 + R) + 1 ∧ 0 ≤ (rdW (wordsL S C H R) j).f1 ∧ (rdW (wordsL S C H R) j).f1 < S := by
  have hg := List.getElem?_eq_getElem hj
  have hm := List.getElem_mem hj
  have hp := idx_words S C H R j _ hg
  have e := rdW_get hg
  rw [e] at h ⊢
  generalize (wordsL S C H R)[j] = x at *
  have hx : x = ⟨⟨#[108, 105, 110, 107]⟩, x.f1, x.f2⟩ := by
    obtain ⟨⟨⟨s⟩⟩, a, b⟩ := x
    simp [isL, linkN] at h
    simp [h]
  rw [mem_words] at hm
  rcases hm with h1 | ⟨c, _, h1⟩ | ⟨c, i, _, _, h1⟩ | ⟨c, _, h1⟩ | ⟨s, hs, h1 | ⟨i, _, h1⟩⟩
  · simp [headsW] at h1; rcases h1 with h1 | h1 | h1 | h1 <;> (rw [h1] at h; simp [isL, linkN] at h)
  · rw [h1] at h; simp [isL, linkN, pinW] at h
  · rw [h1] at h; simp [isL, linkN, entW] at h
  · simp [vsW] at h1; rcases h1 with h1 | h1 <;> (rw [h1] at h; simp [isL, linkN] at h)
  · simp [hlW] at h1
    rcases h1 with h1 | h1
    · rw [h1] at h; simp [isL, linkN] at h
    · subst h1
      simp [posW] at hp
      refine ⟨?_, by simp, by simp; exact hs⟩
      show (j : Int) = 4 + (C : Int) * (1 + H + 2) + (s : Int) * (2 + R) + 1
      omega
  · rw [h1] at h; simp [isL, linkN, bodyW] at h
theorem is_link {S C H R : Nat} {j s : Nat} (hs : s < S) (hj : (j : Int) = 4 + (C : Int) * (1 + H + 2) + (s : Int) * (2 + R) + 1) : isL (rdW (wordsL S C H R) j) = true ∧ (rdW (wordsL S C H R) j).f1 = s := by
  have hm : (⟨⟨#[108, 105, 110, 107]⟩, (s : Int), 0⟩ : Wd) ∈ wordsL S C H R := mem_link.2 ⟨by omega, by omega⟩
  obtain ⟨i, hi, he⟩ := List.getElem_of_mem hm
  have hg : (wordsL S C H R)[i]? = some ⟨⟨#[108, 105, 110, 107]⟩, (s : Int), 0⟩ := by rw [List.getElem?_eq_getElem hi, he]
  have hp := idx_words S C H R i _ hg
  simp [posW] at hp
  have : i = j := by omega
  subst this
  rw [rdW_get hg]
  exact ⟨by simp [isL, linkN], rfl⟩
theorem ref_mem {S C H : Nat} {A : Int} (hA : 0 ≤ A) (hS : 1 ≤ S) {j : Nat} (hj : j < (wordsL S C H (roomN A)).length) : refF (wordsL S C H (roomN A)) (S : Int) (wordsL S C H (roomN A)).length j = memF A C H ((S : Int) - 1).toNat j := by
  have hr : (2 : Int) + (roomN A : Nat) = roomV A := by unfold roomN roomV; split <;> omega
  have h5 : 5 ≤ roomV A := by unfold roomV; split <;> omega
  unfold refF memF
  by_cases j0 : j = 0
  · rw [if_pos j0, if_pos j0]
  · rw [if_neg j0, if_neg j0]
    by_cases j3 : j = 3
    · rw [if_pos j3, if_pos j3]
    · rw [if_neg j3, if_neg j3]
      by_cases c : isL (rdW (wordsL S C H (roomN A)) j) = true ∧ (rdW (wordsL S C H (roomN A)) j).f1 + 1 < S
      · rw [if_pos ⟨hj, c⟩]
        obtain ⟨e, e0, e1⟩ := link_is hj c.1
        have c2 := c.2
        generalize (rdW (wordsL S C H (roomN A)) j).f1 = s at *
        rw [hr] at e
        have e2 : (j : Int) - slotsV C H = 1 + s * roomV A := by unfold slotsV; omega
        rw [e2]
        have q1 : (1 + s * roomV A) % roomV A = 1 := by rw [Int.add_mul_emod_self_right, Int.emod_eq_of_lt (by omega) (by omega)]
        have q2 : (1 + s * roomV A) / roomV A = s := by rw [Int.add_mul_ediv_right _ _ (by omega), Int.ediv_eq_zero_of_lt (by omega) (by omega)]; omega
        have q3 : 0 ≤ s * roomV A := Int.mul_nonneg e0 (by omega)
        rw [q1, q2, if_pos ⟨by omega, rfl, by omega⟩]
      · rw [if_neg (fun x => c x.2), if_neg]
        rintro ⟨d0, d1, d2⟩
        have hd := Int.mul_ediv_add_emod ((j : Int) - slotsV C H) (roomV A)
        have hn := Int.ediv_nonneg d0 (show 0 ≤ roomV A by omega)
        obtain ⟨s, es⟩ := Int.eq_ofNat_of_zero_le hn
        rw [d1, es, Int.mul_comm] at hd
        rw [es] at d2
        obtain ⟨g1, g2⟩ := is_link (S := S) (C := C) (H := H) (R := roomN A) (j := j) (s := s) (by omega) (by rw [hr]; unfold slotsV at hd; omega)
        exact c ⟨g1, by rw [g2]; omega⟩
theorem isL_s {x : Wd} {b : Bool} (h : isL x = b) : (x.f0.toList == linkN) = b := by rw [Core.toList_data]; exact h
set_option maxHeartbeats 4000000 in
set_option maxRecDepth 100000 in
theorem refMemory_c (S C H : Nat) (A G K : Int) (w : World) (h : rightB S A C H G K = true) : Calls Try.prog 25 #[.agg #[.int .i64 (S : Int), .int .i64 A, .int .i64 (C : Int), .int .i64 (H : Int), .int .i64 G, .int .i64 K]] w fun e w' =>
    ∃ AA c b n, e = .returned (.slice AA n c) ∧ (n : Int) = sizeV S A C H ∧ w.heap.size ≤ b ∧ RowB w' AA c b n (memF A C H ((S : Int) - 1).toNat) ∧ Below w.heap.size w w' := by
  have hbd := size_bd h
  have hr := right_iff.1 h
  have hsz := sizes_eq S C H A
  have hmem : ∀ j, j < (wordsL S C H (roomN A)).length → refF (wordsL S C H (roomN A)) (S : Int) (wordsL S C H (roomN A)).length j = memF A C H ((S : Int) - 1).toNat j := fun j hj => ref_mem (by omega) (by omega) hj
  have hw := fun w => withyref06_Words.calls 2000 (S : Int) A (C : Int) (H : Int) G K _ w (p_rWords 2000 S C H A G K (by decide) (by omega) (by omega) (by omega) (by omega))
  have hlink : ∀ j, j < (wordsL S C H (roomN A)).length → isL (rdW (wordsL S C H (roomN A)) j) = true → 4 ≤ j ∧ 0 ≤ (rdW (wordsL S C H (roomN A)) j).f1 ∧ (rdW (wordsL S C H (roomN A)) j).f1 < 64 := by
    intro j hj hl
    obtain ⟨e, e0, e1⟩ := link_is hj hl
    have := mul_le2 (a := (rdW (wordsL S C H (roomN A)) j).f1) (b := 2 + (roomN A : Int)) (m := 64) (n := 100) e0 (by omega) (by omega) (by have := roomN_le (A := A) (by omega); omega)
    have h1 := Int.mul_nonneg (show (0 : Int) ≤ C by omega) (show 0 ≤ 1 + (H : Int) + 2 by omega)
    omega
  generalize wordsL S C H (roomN A) = L at *
  generalize hn : L.length = n at *
  have hf := Lib.hid (Blk.new w 23 #[.int .i64 (S : Int), .int .i64 A, .int .i64 (C : Int), .int .i64 (H : Int), .int .i64 G, .int .i64 K])
  have m1 : ∀ w : World, (Instr.makeSlice 29 (.int .i64 (n : Int)) (.int .i64 (n : Int))).run Try.prog w = .ok (.slice (some ⟨w.heap.size, 0, none⟩) n n) (w.alloc (.cells (rowF .u64 n (fun _ => 0)) 33)) := fun w => make_run (n : Int) (by omega) (by omega) w
  rw [← hsz] at hbd
  obtain ⟨_, _, _, _, n4, n5⟩ := hbd
  have n4' : 9 ≤ n := by omega
  have n5' : n ≤ 800 := by omega
  clear n4 n5
  replace hsz := Lib.hid hsz
  replace hmem := Lib.hid hmem
  replace hlink := Lib.hid hlink
  replace hw := Lib.hid hw
  replace h := Lib.hid h
  replace hn := Lib.hid hn
  obtain ⟨q1, q2⟩ : 1 ≤ (S : Int) ∧ (S : Int) ≤ 64 := by omega
  clear hr
  go_enter Try.func25, Try.ntmps25
  generalize hCFe : w.heap.size = CF at *
  go_wp2_with (first
    | (go_at_call 65; refine (hw.out _).mono ?_; rintro e w1 ⟨v, rfl, hR, hb1⟩; obtain ⟨AW, cW, rfl, hcw, hCw⟩ := Kd.R_reads hR; rw [hn.out] at hcw hCw ⊢; have hSl := sl_of_C hCw; clear hR hCw; have hf1 := hf.out.below hb1 hf.out.lt; have hR2 := rowB_new w1 n (fun _ => 0); obtain ⟨_, x0, y0⟩ := hR2.cell (show 0 < n by omega); have hR3 := rowB_put w1 n 0 (fun _ => 0) 1; obtain ⟨_, x3, y3⟩ := hR3.cell (show 3 < n by omega); replace hf1 := Lib.hid hf1; replace hb1 := Lib.hid hb1; replace hSl := Lib.hid hSl; replace hR2 := Lib.hid hR2; replace hR3 := Lib.hid hR3))
  have hR4 := rowB_new w1 n (upd (upd (fun _ => 0) 0 1) 3 1)
  rw [← rowF_set, ← rowF_set, refF_0 L (S : Int)] at hR4
  have hf4 := hf1.out.alloc (.cells (((rowF .u64 n (fun _ => 0)).setIfInBounds 0 (.int .u64 1)).setIfInBounds 3 (.int .u64 1)) 33)
  have hSl4 := hSl.out.fr (P := fun _ => False) (Fr.alloc _ w1 (.cells (((rowF .u64 n (fun _ => 0)).setIfInBounds 0 (.int .u64 1)).setIfInBounds 3 (.int .u64 1)) 33)) (fun _ _ _ _ => id)
  have z1 := hb1.out.size
  have szb : ∀ o : Obj, (w.alloc o).heap.size = CF + 1 := fun o => by rw [← hCFe]; simp
  rw [szb] at z1
  have hW4 : Below CF w (w1.alloc (.cells (((rowF .u64 n (fun _ => 0)).setIfInBounds 0 (.int .u64 1)).setIfInBounds 3 (.int .u64 1)) 33)) := by
    have g1 : Below CF w w1 := hCFe ▸ below_pre hb1.out
    exact g1.alloc (by omega) _
  have hB0 : CF < w1.heap.size := by omega
  obtain ⟨gS, offS, rfl, hgl, _⟩ := hSl.out (by omega)
  have ne2 : ¬ gS = w1.heap.size := by omega
  have sz4 : w1.heap.size < (w1.alloc (.cells (((rowF .u64 n (fun _ => 0)).setIfInBounds 0 (.int .u64 1)).setIfInBounds 3 (.int .u64 1)) 33)).heap.size := by simp
  clear x0 y0 x3 y3 hR2 hR3 hSl hf1 hb1 hf z1 szb m1 hw hgl
  generalize w1.heap.size = B at *
  generalize w1.alloc (.cells (((rowF .u64 n (fun _ => 0)).setIfInBounds 0 (.int .u64 1)).setIfInBounds 3 (.int .u64 1)) 33) = w4 at *
  replace hR4 := Lib.hid hR4
  replace hf4 := Lib.hid hf4
  replace hSl4 := Lib.hid hSl4
  replace hW4 := Lib.hid hW4
  go_loopw [5] (fun z wr => ∃ i : Nat, i ≤ n ∧ z = .int .i64 (i : Int) ∧ RowB wr (some ⟨B, 0, none⟩) n B n (refF L (S : Int) i) ∧ Fr (fun k => k = B) w4 wr) (fun z _ => n - (intOf z).toNat)
  case atStart => exact ⟨0, Nat.zero_le _, rfl, hR4.out, Fr.refl _ _⟩
  case round =>
    obtain ⟨i, hi, rfl, hRi, hF⟩ := hrel
    by_cases hlt : i < n
    · obtain ⟨_, x5, y5⟩ := hRi.cell hlt
      have hSi := hSl4.out.fr hF (fun b o e _ => by injection e with e; injection e with e1; show ¬ b = B; rw [← e1]; exact ne2)
      obtain ⟨_, _, e, _, hc⟩ := hSi (by omega)
      cases e
      have c0 : wr.cell? ⟨gS, offS + i * 3, none⟩ = some (.string (rdW L i).f0) := hc i hlt 0 (by decide)
      have c1 : wr.cell? ⟨gS, offS + i * 3 + 1, none⟩ = some (.int .i64 (rdW L i).f1) := hc i hlt 1 (by decide)
      have hCi := hf4.out.fr hF (fun c => by have c' : CF = B := c; omega)
      have k0 := hCi.cell (i := 0) rfl
      have hl := hlink.out i hlt
      have hy := @refF_yes L (S : Int) i
      have hno := @refF_no L (S : Int) i
      generalize rdW L i = x at *
      clear hc hSi hCi
      replace hRi := Lib.hid hRi
      replace hF := Lib.hid hF
      replace hy := Lib.hid hy
      replace hno := Lib.hid hno
      cases hx : isL x with
      | true =>
        obtain ⟨l1, l2, l3⟩ := hl hx
        have hS := isL_s hx
        unfold linkN at hS
        replace hx := Lib.hid hx
        clear hl
        by_cases hc2 : x.f1 + 1 < S
        · have ew : IntKind.u64.wrap (x.f1 + 2) = x.f1 + 2 := Core.wrap_u64_id _ (by omega) (by omega)
          go_wp2
          go_quiet (fail)
          go_wp2
          go_roundw
          case rel =>
            have hR8 := (hRi.out.fr (Fr.drewN (fun _ => False) wr nq) id).set i hlt (x.f1 + 2)
            rw [hy.out (by omega) (by omega) hx.out hc2] at hR8
            exact ⟨i + 1, by omega, by go_num, hR8, (hF.out.trans (Fr.drewN _ _ _)).trans (Fr.set (fun k => k = B) _ (p := ⟨B, i, none⟩) rfl _)⟩
          case measure => simp [intOf]; omega
        · go_wp2
          go_quiet (fail)
          go_wp2
          go_roundw
          case rel =>
            have hR8 := hRi.out.fr (Fr.drewN (fun _ => False) wr nq) id
            rw [hno.out (fun y => by have := y.2; omega)] at hR8
            exact ⟨i + 1, by omega, by go_num, hR8, hF.out.trans (Fr.drewN _ _ _)⟩
          case measure => simp [intOf]; omega
      | false =>
        have hS := isL_s hx
        unfold linkN at hS
        replace hx := Lib.hid hx
        clear hl
        go_wp2
        go_quiet (fail)
        go_wp2
        go_roundw
        case rel =>
          have hR8 := hRi.out.fr (Fr.drewN (fun _ => False) wr nq) id
          rw [hno.out (fun c => by rw [hx.out] at c; exact absurd c.1 (by decide))] at hR8
          exact ⟨i + 1, by omega, by go_num, hR8, hF.out.trans (Fr.drewN _ _ _)⟩
        case measure => simp [intOf]; omega
    · have : i = n := by omega
      subst this
      replace hRi := Lib.hid hRi
      replace hF := Lib.hid hF
      go_wp2
      go_ret
      refine ⟨_, _, B, _, rfl, hsz.out, by omega, ?_, hW4.out.trans (hF.out.below (fun k hk => ⟨by omega, fun c => by omega⟩))⟩
      obtain ⟨e, cs, h4, h5⟩ := hRi.out.row (by omega)
      exact ⟨hRi.out.cap, fun _ => ⟨e, cs, h4, fun j hj => by rw [h5 j hj, hmem.out j hj]; rw [show ((S : Int) - 1).toNat = S - 1 from by omega]⟩⟩
end Go.Proofs.Ytijfkpoofpcacaa.RefM
end
section
set_option linter.unusedVariables false
set_option linter.unusedSectionVars false
set_option linter.unusedSimpArgs false
namespace Go.Proofs.Ytijfkpoofpcacaa.ArenaW
open Go.RowKit Go.Proofs.YtijfkpoofpcacaaW.PrintWords Go.Proofs.Ytijfkpoofpcacaa.PArenaPlays Go.Proofs.Ytijfkpoofpcacaa.PuArenaPlays Go.Proofs.Ytijfkpoofpcacaa.Blk Go.Proofs.Ytijfkpoofpcacaa.Core Go.Proofs.Ytijfkpoofpcacaa.MemC Go.Proofs.Ytijfkpoofpcacaa.MemD Go.Proofs.Ytijfkpoofpcacaa.MemT Go.Proofs.Ytijfkpoofpcacaa.Memory Go.Proofs.Ytijfkpoofpcacaa.PlanC Go.Proofs.Ytijfkpoofpcacaa.PlanD Go.Proofs.Ytijfkpoofpcacaa.RefM Go.Proofs.Ytijfkpoofpcacaa.StackC Go.Proofs.Ytijfkpoofpcacaa.StackL Go.Proofs.Ytijfkpoofpcacaa.StackS Go.Proofs.Ytijfkpoofpcacaa.StackF Go.Proofs.Ytijfkpoofpcacaa.StackP Go.Proofs.Ytijfkpoofpcacaa.StackG Go.Proofs.Ytijfkpoofpcacaa.HeadC Go.Proofs.Ytijfkpoofpcacaa.ArenaC Go.Proofs.Ytijfkpoofpcacaa.ArenaM Go.Proofs.Ytijfkpoofpcacaa.ArenaN Go.Proofs.Ytijfkpoofpcacaa.ArenaP Go.Proofs.Ytijfkpoofpcacaa.ArenaL Go.Proofs.Ytijfkpoofpcacaa.ArenaR Go.Proofs.Ytijfkpoofpcacaa.ArenaQ Go.Proofs.Ytijfkpoofpcacaa.ArenaS Go.Proofs.Ytijfkpoofpcacaa.ArenaT Go.Proofs.Ytijfkpoofpcacaa.ArenaU Go.Proofs.Ytijfkpoofpcacaa.Opens
theorem rWordsC (c : Cf) (w : World) (h : c.right = true) : Calls Try.prog 65 #[.agg #[.int .i64 c.S, .int .i64 c.A, .int .i64 c.C, .int .i64 c.H, .int .i64 c.G, .int .i64 c.K]] w fun e w' => ∃ A N cc, e = .returned (.slice A N cc) ∧ (N : Int) = c.size ∧ Below w.heap.size w w' := by
  obtain ⟨S, X, C, H, G, K⟩ := c
  have h' : rightB S X C H G K = true := h
  have hr := right_iff.1 h'
  obtain ⟨s, rfl⟩ := Int.eq_ofNat_of_zero_le (show 0 ≤ S by omega)
  obtain ⟨c, rfl⟩ := Int.eq_ofNat_of_zero_le (show 0 ≤ C by omega)
  obtain ⟨hh, rfl⟩ := Int.eq_ofNat_of_zero_le (show 0 ≤ H by omega)
  refine (withyref06_Words.calls 2000 (s : Int) X (c : Int) (hh : Int) G K _ w (p_rWords 2000 s c hh X G K (by decide) (by omega) (by omega) (by omega) (by omega))).mono ?_
  rintro e w' ⟨v, rfl, hR, hb⟩
  obtain ⟨A, cc, rfl, _, _⟩ := Kd.R_reads hR
  exact ⟨A, _, cc, rfl, sizes_eq s c hh X, hb⟩
theorem refBodyC (c : Cf) (w : World) (s : Int) : Calls Try.prog 56 #[.agg #[.int .i64 c.S, .int .i64 c.A, .int .i64 c.C, .int .i64 c.H, .int .i64 c.G, .int .i64 c.K], .agg #[.string ⟨#[98, 111, 100, 121]⟩, .int .i64 s, .int .i64 0]] w fun e w' => e = .returned (.int .i64 (c.body s 0)) ∧ Below w.heap.size w w' := by
  obtain ⟨S, X, C, H, G, K⟩ := c
  by_cases h : rightB S X C H G K = true
  · have hr := right_iff.1 h
    obtain ⟨s', rfl⟩ := Int.eq_ofNat_of_zero_le (show 0 ≤ S by omega)
    obtain ⟨c, rfl⟩ := Int.eq_ofNat_of_zero_le (show 0 ≤ C by omega)
    obtain ⟨hh, rfl⟩ := Int.eq_ofNat_of_zero_le (show 0 ≤ H by omega)
    refine withyref06_At.calls 2000 s' X c hh G K ⟨#[98, 111, 100, 121]⟩ s 0 _ w ?_
    have hR : (2 : Int) + (roomN X : Nat) = roomV X := by unfold roomN roomV; split <;> omega
    have hR5 : 5 ≤ roomV X := by have := size_bd h; omega
    rw [p_rAt 2000 s' c hh X G K ⟨#[98, 111, 100, 121]⟩ s 0 (by decide) h (0 ≤ s ∧ s < s' ∧ (0 : Int) ≤ 0 ∧ (0 : Int) < roomN X) mem_body]
    unfold Cf.body Cf.right
    congr 1
    by_cases d : 0 ≤ s ∧ s < s'
    · rw [if_pos ⟨d.1, d.2, Int.le_refl 0, by omega⟩, if_pos ⟨h, d.1, d.2, Int.le_refl 0, show (2 : Int) + 0 < roomV X by omega⟩]
      simp [posW, slotsV, hR]
    · rw [if_neg (fun x => d ⟨x.1, x.2.1⟩), if_neg (fun x => d ⟨x.2.1, x.2.2.1⟩)]
  · refine withyref06_At.calls 2000 S X C H G K ⟨#[98, 111, 100, 121]⟩ s 0 _ w ?_
    rw [p_rAt_no 2000 S C H X G K _ _ _ h]
    unfold Cf.body Cf.right
    rw [if_neg (fun x => h x.1)]
set_option maxHeartbeats 2000000 in
set_option maxRecDepth 100000 in
theorem cloneR (w : World) (c b off n : Nat) (f : Nat → Int) (h : RdB w b off n f) (hn : n ≤ 65536) : Calls Try.prog 74 #[.slice (some ⟨b, off, none⟩) n c] w fun e w' => ∃ A' c' b', e = .returned (.slice A' n c') ∧ w.heap.size ≤ b' ∧ RowB w' A' c' b' n f ∧ Below w.heap.size w w' := by
  obtain ⟨i0, hi, e0⟩ := Option.map_eq_some_iff.1 infoW
  simp only [Prod.mk.injEq] at e0
  obtain ⟨hz0, hz1, hz2⟩ := e0
  have q22 : ∀ (w : World) (a : Option Addr) (n c n' c' : Nat), (binOp .eql 29 (.slice a n c) (.slice none n' c')).run Try.prog w = .ok (.bool a.isNone) w := fun w a n c n' c' => Lib.run_eql_slice_nil w _ _ a n c n' c' Try.underlying29
  have hA := Lib.hid h
  clear h
  go_enter Try.func74, Try.ntmps74
  go_wp2_with (at_builtin; refine wpList_append_own _ rfl _ _ 29 rfl w.heap.size 33 i0 (.int .u64 0) 1 8 Try.underlying29 hi hz0 hz1 hz2 rfl (by decide) _ _ _ rfl (World.ownsRow_made w #[] 0 (Nat.le_refl _) (Nat.zero_le _) rfl) ⟨b, off, none⟩ n c ((List.range n).map (fun i => Value.int .u64 (f i))) rfl ?qc1 ?qc2 ?qc3 ?qc4 ?qc5 ?qc6 ?_)
  case qc1 => simp
  case qc2 =>
    intro j u hj
    have hjn : j < n := by
      have := (List.getElem?_eq_some_iff.1 hj).1
      simpa using this
    rw [Go.WideShapes.add_plain]
    refine Lib.cell?_alloc_some _ ?_
    rw [hA.out.cell j hjn]
    simpa [hjn] using hj
  case qc3 => intro u hu; obtain ⟨x, _, rfl⟩ := List.mem_map.1 hu; rfl
  case qc4 => unfold maxLen; omega
  case qc5 => omega
  case qc6 => simp
  intro v' w1 hown hgrow hnil
  go_wp2
  go_ret
  obtain ⟨A', c', b', rfl, h1, h2⟩ := RowB.of_owns (by simpa using hown)
  exact ⟨A', c', b', rfl, h1, h2, ((Below.refl _ w).alloc (Nat.le_refl _) _).grown hgrow (by simp) (by intro k hk; simp [Value.ownBlock] at hk; omega)⟩
theorem sameR (w : World) (A : Option Addr) (c d a b off n : Nat) (f : Nat → Int) (h1 : RowB w A c a n f) (h2 : RdB w b off n f) (hn : n ≤ 65536) : Calls Try.prog 23 #[.slice A n c, .slice (some ⟨b, off, none⟩) n d] w fun e w' => e = .returned (.bool true) ∧ Below w.heap.size w w' := by
  have e1 : decide ((n : Int) = n) = true := decide_eq_true rfl
  go_enter Try.func23, Try.ntmps23
  go_wp2
  go_loopw [5] (fun z wr => ∃ i : Nat, i ≤ n ∧ z = .int .i64 (i : Int) ∧ Below w.heap.size w wr) (fun z _ => n - (intOf z).toNat)
  case atStart => exact ⟨0, Nat.zero_le _, rfl, Below.refl _ _⟩
  case round =>
    obtain ⟨i, hi, rfl, hB⟩ := hrel
    by_cases hlt : i < n
    · obtain ⟨rfl, x0, _⟩ := (h1.below hB (Nat.le_refl _)).cell hlt
      have x1 := (h2.below hB).cell i hlt
      have g1 := h1.cap
      replace hB := Lib.hid hB
      go_wp2
      go_quiet (fail)
      go_wp2
      go_roundw
      case rel => exact ⟨i + 1, by omega, by go_num, pw_below_drewN hB.out _⟩
      case measure => simp [intOf]; omega
    · replace hB := Lib.hid hB
      go_wp2
      go_ret
      exact ⟨rfl, hB.out⟩
theorem cut_u64 (b off n cc p r : Nat) (h : p + r ≤ n) (hc : n ≤ cc) (hr : 0 < r) (W : World) : (Instr.slice 29 (.slice (some ⟨b, off, none⟩) n cc) (some (.int .i64 (p : Int))) (some (.int .i64 ((p : Int) + (r : Int)))) none).run Try.prog W = .ok (.slice (some ⟨b, off + p, none⟩) r (cc - p)) W := by
  obtain ⟨i, hi, e⟩ := Option.map_eq_some_iff.1 infoW
  simp only [Prod.mk.injEq] at e
  obtain ⟨e0, e1, e2⟩ := e
  have := cut_mid (P := Try.prog) 29 33 .i64 .i64 Try.underlying29 hi 1 e1 (some ⟨b, off, none⟩) n cc (p : Int) ((p : Int) + (r : Int)) (by omega) (by omega) (by omega) hc W
  rw [this]
  have h1 : (p : Int).toNat = p := by omega
  have h2 : ((p : Int) + (r : Int)).toNat - p = r := by omega
  rw [h1, h2, if_neg (by omega), Nat.mul_one, Option.map_some, Go.WideShapes.add_plain]
theorem rd_cut {w : World} {b off n : Nat} {f : Nat → Int} (h : RdB w b off n f) {p r : Nat} (hp : p + r ≤ n) : RdB w b (off + p) r (fun j => f (p + j)) :=
  ⟨h.lt, fun i hi => by have := h.cell (p + i) (by omega); rw [show off + p + i = off + (p + i) by omega]; exact this⟩
theorem body_at {c : Cf} (hr : c.right = true) {s : Int} (hs : 0 ≤ s ∧ s < c.S) : ∃ p : Nat, (p : Int) = c.body s 0 ∧ (p : Int) + roomI c ≤ c.size ∧ 4 ≤ p ∧ p ≤ 800 := by
  have hb := room_bd hr
  have hi := room_i hr
  have h := pl_bd hr hs (o := roomV c.A - 1) ⟨by omega, by omega⟩
  have h2 := pl_bd hr hs (o := 2) ⟨by omega, by omega⟩
  have e := body_pl hr hs (i := 0) ⟨Int.le_refl 0, by omega⟩
  have h3 := size_bd hr
  unfold Cf.pl Cf.size at *
  refine ⟨(c.body s 0).toNat, ?_, ?_, ?_, ?_⟩ <;> rw [e] <;> omega
theorem body_lo {c : Cf} (hr : c.right = true) {s : Int} (hs : 0 ≤ s ∧ s < c.S) {i : Nat} (hi : i < roomI c) : 0 ≤ c.body s i := by
  have h1 := room_i hr
  have h2 := pl_bd hr hs (o := 2 + (i : Int)) ⟨by omega, by omega⟩
  rw [body_pl hr hs ⟨by omega, by omega⟩]; omega
theorem body_neg {c : Cf} {s : Int} (h : ¬ (c.right = true ∧ 0 ≤ s ∧ s < c.S)) : c.body s 0 = -1 := by
  unfold Cf.body; rw [if_neg (fun x => h ⟨x.1, x.2.1, x.2.2.1⟩)]
set_option maxHeartbeats 2000000 in
set_option maxRecDepth 100000 in
theorem bodyNo (c : Cf) (w : World) (A : Option Addr) (n cc : Nat) (s : Int) (h : ¬ ((c.right = true ∧ 0 ≤ s ∧ s < c.S) ∧ (n : Int) = c.size)) : Calls Try.prog 64 #[.agg #[.int .i64 c.S, .int .i64 c.A, .int .i64 c.C, .int .i64 c.H, .int .i64 c.G, .int .i64 c.K], .slice A n cc, .int .i64 s] w fun e w' => e = .returned (.slice none 0 0) ∧ Below w.heap.size w w' := by
  have hf := Lib.hid (Blk.new w 23 #[.int .i64 c.S, .int .i64 c.A, .int .i64 c.C, .int .i64 c.H, .int .i64 c.G, .int .i64 c.K])
  by_cases h1 : c.right = true ∧ 0 ≤ s ∧ s < c.S
  · have hne : ((n : Int) != c.size) = true := by
      have : ¬ (n : Int) = c.size := fun e => h ⟨h1, e⟩
      simpa using this
    obtain ⟨p, hp, _⟩ := body_at h1.1 h1.2
    have hr := Lib.hid h1.1
    replace hp := Lib.hid hp
    clear h h1
    go_enter Try.func64, Try.ntmps64
    go_wp2_with (first
      | (go_at_call 85; refine (bodyC c _ s 0).mono ?_; rintro e w1 ⟨rfl, hb⟩; rw [← hp.out]; have hf1 := hf.out.below hb hf.out.lt; obtain ⟨k0, k1, k2, k3, k4, k5⟩ := cfgs hf1; clear hf1; replace hb := Lib.hid (below_pre hb))
      | (go_at_call 67; refine (sizeC c _ hr.out).mono ?_; rintro e w2 ⟨rfl, hb2⟩; replace hb2 := Lib.hid hb2))
    go_ret
    exact ⟨rfl, MemT.bT hb.out hb2.out⟩
  · have hp := Lib.hid (body_neg h1)
    clear h h1
    go_enter Try.func64, Try.ntmps64
    go_wp2_with (go_at_call 85; refine (bodyC c _ s 0).mono ?_; rintro e w1 ⟨rfl, hb⟩; rw [hp.out]; replace hb := Lib.hid (below_pre hb))
    go_ret
    exact ⟨rfl, hb.out⟩
set_option maxHeartbeats 2000000 in
set_option maxRecDepth 100000 in
theorem bodyYes (c : Cf) (w : World) (b off n cc p : Nat) (f : Nat → Int) (s : Int) (hr : c.right = true) (hs : 0 ≤ s ∧ s < c.S) (hn : (n : Int) = c.size) (hc : n ≤ cc) (hp : (p : Int) = c.body s 0) (hpn : p + roomI c ≤ n) (hR : RdB w b off n f) : Calls Try.prog 64 #[.agg #[.int .i64 c.S, .int .i64 c.A, .int .i64 c.C, .int .i64 c.H, .int .i64 c.G, .int .i64 c.K], .slice (some ⟨b, off, none⟩) n cc, .int .i64 s] w fun e w' => ∃ A' c' b', e = .returned (.slice A' (roomI c) c') ∧ RowB w' A' c' b' (roomI c) (fun j => f (p + j)) ∧ Below w.heap.size w w' := by
  have hf := Lib.hid (Blk.new w 23 #[.int .i64 c.S, .int .i64 c.A, .int .i64 c.C, .int .i64 c.H, .int .i64 c.G, .int .i64 c.K])
  have hT0 := Lib.hid ((Below.refl w.heap.size w).alloc (Nat.le_refl _) (.cells #[.int .i64 c.S, .int .i64 c.A, .int .i64 c.C, .int .i64 c.H, .int .i64 c.G, .int .i64 c.K] 23))
  have hri := room_i hr
  have hb8 := size_bd hr
  have hn8 : n ≤ 800 := by unfold Cf.size at hn; omega
  obtain ⟨hr3, hr8, _⟩ := hri
  obtain ⟨R, hRR⟩ : ∃ R, R = roomI c := ⟨_, rfl⟩
  have hby : ∀ i : Nat, i < R → 0 ≤ c.body s i := fun i hi => body_lo hr hs (hRR ▸ hi)
  have hbn : c.body s R < 0 := hRR ▸ body_no hr
  rw [← hRR] at hr3 hr8 hpn ⊢
  have hne : ((n : Int) != (n : Int)) = false := by simp
  have hRd := Lib.hid hR
  replace hRR := Lib.hid hRR
  replace hr := Lib.hid hr
  replace hby := Lib.hid hby
  replace hbn := Lib.hid hbn
  replace hp := Lib.hid hp
  replace hn := Lib.hid hn
  clear hR hb8
  go_enter Try.func64, Try.ntmps64
  generalize hCFe : w.heap.size = CF at *
  go_wp2_with (first
      | (go_at_call 85; refine (bodyC c _ s 0).mono ?_; rintro e w1 ⟨rfl, hb⟩; rw [← hp.out]; replace hf := Lib.hid (hf.out.below hb hf.out.lt); obtain ⟨k0, k1, k2, k3, k4, k5⟩ := cfgs hf.out; replace hT0 := Lib.hid (hT0.out.trans (hb.mono (by have := hT0.out.size; omega))); clear hb)
      | (go_at_call 67; refine (sizeC c _ hr.out).mono ?_; rintro e w2 ⟨rfl, hb⟩; rw [← hn.out]; replace hf := Lib.hid (hf.out.below hb hf.out.lt); replace hT0 := Lib.hid (hT0.out.trans (hb.mono (by have := hT0.out.size; omega))); clear hb))
  clear k0 k1 k2 k3 k4 k5
  go_loopw [8] (fun z wr => ∃ i : Nat, i ≤ R ∧ z = .int .i64 (i : Int) ∧ Blk wr CF 23 #[.int .i64 c.S, .int .i64 c.A, .int .i64 c.C, .int .i64 c.H, .int .i64 c.G, .int .i64 c.K] ∧ Below CF w wr) (fun z _ => R - (intOf z).toNat)
  case atStart => exact ⟨0, Nat.zero_le _, rfl, hf.out, hT0.out⟩
  case round =>
    obtain ⟨i, hi, rfl, hcs, hWs⟩ := hrel
    obtain ⟨k0, k1, k2, k3, k4, k5⟩ := cfgs hcs
    replace hcs := Lib.hid hcs
    replace hWs := Lib.hid hWs
    by_cases hlt : i < R
    · have hy := hby.out i hlt
      go_wp2_with (go_at_call 85; refine (bodyC c _ s i).mono ?_; rintro e w2 ⟨rfl, hb2⟩; replace hcs := Lib.hid (hcs.out.below hb2 hcs.out.lt); replace hWs := Lib.hid (hWs.out.trans (hb2.mono (by have := hcs.out.lt; have := hWs.out.size; omega))); clear hb2)
      go_roundw
      case rel => exact ⟨i + 1, by omega, by go_num, hcs.out, hWs.out⟩
      case measure => simp [intOf]; omega
    · have hiR : i = R := by omega
      subst hiR
      have hn' := hbn.out
      have hpn' : (p : Int) + (i : Int) ≤ (n : Int) := by omega
      have hnc : (n : Int) ≤ (cc : Int) := by omega
      have hpc : (p : Int) + (i : Int) ≤ (cc : Int) := by omega
      have hpp : (p : Int) ≤ (p : Int) + (i : Int) := by omega
      have hp0 : 0 ≤ (p : Int) := by omega
      go_upto_region 7 with (go_at_call 85; refine (bodyC c _ s i).mono ?_; rintro e w2 ⟨rfl, hb2⟩; replace hcs := Lib.hid (hcs.out.below hb2 hcs.out.lt); replace hWs := Lib.hid (hWs.out.trans (hb2.mono (by have := hcs.out.lt; have := hWs.out.size; omega))); clear hb2)
      have hct := cut_u64 b off n cc p i (by omega) hc (by omega)
      have hRw := Lib.hid (rd_cut (hRd.out.below (hCFe.symm ▸ hWs.out)) (p := p) (r := i) hpn)
      have hsz := hWs.out.size
      go_wp2_with (go_at_call 74; refine (cloneR _ _ _ _ _ _ hRw.out (by omega)).mono ?_; rintro e w3 ⟨A3, c3, b3, rfl, _, hR3, hb3⟩; replace hR3 := Lib.hid hR3; replace hWs := Lib.hid (hWs.out.trans (hb3.mono (by omega))); clear hb3)
      go_ret
      exact ⟨A3, c3, b3, rfl, hR3.out, hWs.out⟩
end Go.Proofs.Ytijfkpoofpcacaa.ArenaW
end
section
set_option linter.unusedVariables false
set_option linter.unusedSimpArgs false
namespace Go.Proofs.Ytijfkpoofpcacaa.ArenaX
open Go.RowKit Go.Proofs.YtijfkpoofpcacaaW.PrintWords Go.Proofs.Ytijfkpoofpcacaa.Blk Go.Proofs.Ytijfkpoofpcacaa.Core Go.Proofs.Ytijfkpoofpcacaa.MemC Go.Proofs.Ytijfkpoofpcacaa.MemD Go.Proofs.Ytijfkpoofpcacaa.MemT Go.Proofs.Ytijfkpoofpcacaa.Memory Go.Proofs.Ytijfkpoofpcacaa.PlanC Go.Proofs.Ytijfkpoofpcacaa.PlanD Go.Proofs.Ytijfkpoofpcacaa.RefM Go.Proofs.Ytijfkpoofpcacaa.StackC Go.Proofs.Ytijfkpoofpcacaa.StackL Go.Proofs.Ytijfkpoofpcacaa.StackS Go.Proofs.Ytijfkpoofpcacaa.StackF Go.Proofs.Ytijfkpoofpcacaa.StackP Go.Proofs.Ytijfkpoofpcacaa.StackG Go.Proofs.Ytijfkpoofpcacaa.HeadC Go.Proofs.Ytijfkpoofpcacaa.ArenaC Go.Proofs.Ytijfkpoofpcacaa.ArenaM Go.Proofs.Ytijfkpoofpcacaa.ArenaN Go.Proofs.Ytijfkpoofpcacaa.ArenaP Go.Proofs.Ytijfkpoofpcacaa.ArenaL Go.Proofs.Ytijfkpoofpcacaa.ArenaR Go.Proofs.Ytijfkpoofpcacaa.ArenaQ Go.Proofs.Ytijfkpoofpcacaa.ArenaS Go.Proofs.Ytijfkpoofpcacaa.ArenaT Go.Proofs.Ytijfkpoofpcacaa.ArenaU Go.Proofs.Ytijfkpoofpcacaa.ArenaW Go.Proofs.Ytijfkpoofpcacaa.Opens
theorem refMemC (c : Cf) (w : World) (h : c.right = true) : Calls Try.prog 25 #[.agg #[.int .i64 c.S, .int .i64 c.A, .int .i64 c.C, .int .i64 c.H, .int .i64 c.G, .int .i64 c.K]] w fun e w' =>
    ∃ AA cc b n, e = .returned (.slice AA n cc) ∧ (n : Int) = c.size ∧ w.heap.size ≤ b ∧ RowB w' AA cc b n (memF c.A c.C c.H (c.S - 1).toNat) ∧ Below w.heap.size w w' := by
  obtain ⟨S, X, C, H, G, K⟩ := c
  have h' : rightB S X C H G K = true := h
  have hr := right_iff.1 h'
  obtain ⟨s, rfl⟩ := Int.eq_ofNat_of_zero_le (show 0 ≤ S by omega)
  obtain ⟨c, rfl⟩ := Int.eq_ofNat_of_zero_le (show 0 ≤ C by omega)
  obtain ⟨hh, rfl⟩ := Int.eq_ofNat_of_zero_le (show 0 ≤ H by omega)
  exact refMemory_c s c hh X G K w h
set_option maxHeartbeats 4000000 in
set_option maxRecDepth 100000 in
theorem long (c : Cf) (s : Int) (w : World) (A : Option Addr) (n cc : Nat) (ft : Bool) (h : 700 < n) : Calls Try.prog 19 #[.agg #[.int .i64 c.S, .int .i64 c.A, .int .i64 c.C, .int .i64 c.H, .int .i64 c.G, .int .i64 c.K], .slice A n cc, .int .i64 s, .bool ft] w fun e w' => e = .returned (.bool true) ∧ Below w.heap.size w w' := by
  have hf := Lib.hid (Blk.new w 23 #[.int .i64 c.S, .int .i64 c.A, .int .i64 c.C, .int .i64 c.H, .int .i64 c.G, .int .i64 c.K])
  have hT := Lib.hid ((Below.refl w.heap.size w).alloc (Nat.le_refl _) (.cells #[.int .i64 c.S, .int .i64 c.A, .int .i64 c.C, .int .i64 c.H, .int .i64 c.G, .int .i64 c.K] 23))
  have h' : (700 : Int) < (n : Int) := by omega
  clear h
  go_enter Try.func19, Try.ntmps19
  generalize hCFe : w.heap.size = CF at *
  go_wp2_with (go_at_call 53; refine (awake12C _).mono ?_; rintro e w9 ⟨rfl, hb⟩; replace hT := Lib.hid (hT.out.trans (hb.mono (by have := hT.out.size; omega))); clear hb)
  go_ret
  exact ⟨rfl, hCFe ▸ hT.out⟩
set_option maxHeartbeats 4000000 in
set_option maxRecDepth 100000 in
theorem case_a (c : Cf) (s : Int) (w : World) (A : Option Addr) (n cc : Nat) (ft : Bool) (q : Nat → Int) (h : n ≤ 700) (hcc0 : n ≤ cc) (hS : Sl w A n 1 (fun i _ => .int .u64 (q i))) (hft : ft = false) : Calls Try.prog 19 #[.agg #[.int .i64 c.S, .int .i64 c.A, .int .i64 c.C, .int .i64 c.H, .int .i64 c.G, .int .i64 c.K], .slice A n cc, .int .i64 s, .bool ft] w fun e w' => e = .returned (.bool true) ∧ Below w.heap.size w w' := by
  have hf := Lib.hid (Blk.new w 23 #[.int .i64 c.S, .int .i64 c.A, .int .i64 c.C, .int .i64 c.H, .int .i64 c.G, .int .i64 c.K])
  have hT := Lib.hid ((Below.refl w.heap.size w).alloc (Nat.le_refl _) (.cells #[.int .i64 c.S, .int .i64 c.A, .int .i64 c.C, .int .i64 c.H, .int .i64 c.G, .int .i64 c.K] 23))
  have h' : ¬ (700 : Int) < (n : Int) := by omega
  have hRd0 : (n : Int) = c.size → c.right = true → ∃ bb oo, A = some ⟨bb, oo, none⟩ ∧ RdB w bb oo n q := fun e hr => by
    have h8 := size_bd hr
    obtain ⟨b, o, e1, hl, hc⟩ := hS (by unfold Cf.size at e; omega)
    exact ⟨b, o, e1, hl, fun i hi => by have := hc i hi 0 (by decide); rw [Nat.mul_one] at this; exact this⟩
  replace hRd0 := Lib.hid hRd0
  clear hS
  subst hft
  go_enter Try.func19, Try.ntmps19
  generalize hCFe : w.heap.size = CF at *
  go_upto_region 10 with (fail)
  by_cases h1 : c.right = true ∧ 0 ≤ s ∧ s < c.S
  rotate_left
  · have hno := Lib.hid (show ¬ ((c.right = true ∧ 0 ≤ s ∧ s < c.S) ∧ (n : Int) = c.size) from fun x => h1 x.1)
    have hbn := Lib.hid (body_neg h1)
    replace h1 := Lib.hid h1
    go_wp2_with (first
      | (go_at_call 64; refine (bodyNo c _ A n cc s hno.out).mono ?_; rintro e w5 ⟨rfl, hb⟩; replace hf := Lib.hid (hf.out.below hb hf.out.lt); obtain ⟨k0, k1, k2, k3, k4, k5⟩ := cfgs hf.out; replace hT := Lib.hid (hT.out.trans (hb.mono (by have := hT.out.size; omega))); clear hb)
      | (go_at_call 56; refine (refBodyC c _ s).mono ?_; rintro e w6 ⟨rfl, hb⟩; rw [hbn.out]; replace hf := Lib.hid (hf.out.below hb hf.out.lt); obtain ⟨k0, k1, k2, k3, k4, k5⟩ := cfgs hf.out; replace hT := Lib.hid (hT.out.trans (hb.mono (by have := hT.out.size; omega))); clear hb)
      | (go_at_call 53; refine (awake12C _).mono ?_; rintro e w9 ⟨rfl, hb⟩; replace hT := Lib.hid (hT.out.trans (hb.mono (by have := hT.out.size; omega))); clear hb))
    go_ret
    exact ⟨rfl, hCFe ▸ hT.out⟩
  by_cases h2 : (n : Int) = c.size
  rotate_left
  · have hno := Lib.hid (show ¬ ((c.right = true ∧ 0 ≤ s ∧ s < c.S) ∧ (n : Int) = c.size) from fun x => h2 x.2)
    obtain ⟨p, hp, _⟩ := body_at h1.1 h1.2
    have hr2 := Lib.hid h1.1
    replace hp := Lib.hid hp
    replace h2 := Lib.hid h2
    replace h1 := Lib.hid h1
    go_wp2_with (first
      | (go_at_call 64; refine (bodyNo c _ A n cc s hno.out).mono ?_; rintro e w5 ⟨rfl, hb⟩; replace hf := Lib.hid (hf.out.below hb hf.out.lt); obtain ⟨k0, k1, k2, k3, k4, k5⟩ := cfgs hf.out; replace hT := Lib.hid (hT.out.trans (hb.mono (by have := hT.out.size; omega))); clear hb)
      | (go_at_call 56; refine (refBodyC c _ s).mono ?_; rintro e w6 ⟨rfl, hb⟩; rw [← hp.out]; replace hf := Lib.hid (hf.out.below hb hf.out.lt); obtain ⟨k0, k1, k2, k3, k4, k5⟩ := cfgs hf.out; replace hT := Lib.hid (hT.out.trans (hb.mono (by have := hT.out.size; omega))); clear hb)
      | (go_at_call 65; refine (rWordsC c _ hr2.out).mono ?_; rintro e w7 ⟨AW, NW, cW, rfl, hNW, hb⟩; have hne : ((n : Int) != (NW : Int)) = true := (by rw [hNW]; simpa using h2.out); replace hNW := Lib.hid hNW; replace hf := Lib.hid (hf.out.below hb hf.out.lt); obtain ⟨k0, k1, k2, k3, k4, k5⟩ := cfgs hf.out; replace hT := Lib.hid (hT.out.trans (hb.mono (by have := hT.out.size; omega))); clear hb)
      | (go_at_call 53; refine (awake12C _).mono ?_; rintro e w9 ⟨rfl, hb⟩; replace hT := Lib.hid (hT.out.trans (hb.mono (by have := hT.out.size; omega))); clear hb))
    go_ret
    exact ⟨rfl, hCFe ▸ hT.out⟩
  · obtain ⟨bb, oo, rfl, hRw⟩ := hRd0.out h2 h1.1
    have hRd := Lib.hid (hRw.below (hCFe.symm ▸ hT.out))
    have hcc : n ≤ cc := hcc0
    obtain ⟨p, hp, hpn, _, _⟩ := body_at h1.1 h1.2
    have hr2 := Lib.hid h1.1
    have hr3 := (room_i h1.1).1
    have hr8 := (room_i h1.1).2.1
    have hs2 := Lib.hid h1.2
    have hpn2 : p + roomI c ≤ n := by omega
    replace hpn := Lib.hid hpn
    replace hp := Lib.hid hp
    have hct := cut_u64 bb oo n cc p (roomI c) hpn2 hcc (by omega)
    have h2' : (n : Int) = c.size := h2
    replace h2 := Lib.hid h2
    replace h1 := Lib.hid h1
    replace h2' := Lib.hid h2'
    generalize hRI : roomI c = R at *
    replace hRI := Lib.hid hRI
    go_wp2_with (first
      | (go_at_call 64; refine (bodyYes c _ bb oo n cc p q s hr2.out hs2.out h2'.out hcc hp.out (by rw [hRI.out]; exact hpn2) hRd.out).mono ?_; rintro e w5 ⟨A5, c5, b5, rfl, hR5, hb⟩; rw [hRI.out] at hR5 ⊢; replace hRd := Lib.hid (hRd.out.below hb); replace hR5 := Lib.hid hR5; replace hf := Lib.hid (hf.out.below hb hf.out.lt); obtain ⟨k0, k1, k2, k3, k4, k5⟩ := cfgs hf.out; replace hT := Lib.hid (hT.out.trans (hb.mono (by have := hT.out.size; omega))); clear hb)
      | (go_at_call 56; refine (refBodyC c _ s).mono ?_; rintro e w6 ⟨rfl, hb⟩; rw [← hp.out]; replace hRd := Lib.hid (hRd.out.below hb); replace hR5 := Lib.hid (hR5.out.below hb (Nat.le_refl _)); replace hf := Lib.hid (hf.out.below hb hf.out.lt); obtain ⟨k0, k1, k2, k3, k4, k5⟩ := cfgs hf.out; replace hT := Lib.hid (hT.out.trans (hb.mono (by have := hT.out.size; omega))); clear hb)
      | (go_at_call 65; refine (rWordsC c _ hr2.out).mono ?_; rintro e w7 ⟨AW, NW, cW, rfl, hNW, hb⟩; have hne : ((n : Int) != (NW : Int)) = false := (by rw [hNW, ← h2'.out]; simp); replace hNW := Lib.hid hNW; replace hRd := Lib.hid (hRd.out.below hb); replace hR5 := Lib.hid (hR5.out.below hb (Nat.le_refl _)); replace hf := Lib.hid (hf.out.below hb hf.out.lt); obtain ⟨k0, k1, k2, k3, k4, k5⟩ := cfgs hf.out; replace hT := Lib.hid (hT.out.trans (hb.mono (by have := hT.out.size; omega))); clear hb)
      | (go_at_call 50; refine (rRoomC c _ hr2.out).mono ?_; rintro e w8 ⟨rfl, hb⟩; rw [hRI.out]; replace hRd := Lib.hid (hRd.out.below hb); replace hR5 := Lib.hid (hR5.out.below hb (Nat.le_refl _)); replace hf := Lib.hid (hf.out.below hb hf.out.lt); obtain ⟨k0, k1, k2, k3, k4, k5⟩ := cfgs hf.out; replace hT := Lib.hid (hT.out.trans (hb.mono (by have := hT.out.size; omega))); clear hb)
      | (go_at_call 23; refine (sameR _ _ _ _ _ _ _ _ _ hR5.out (rd_cut hRd.out hpn2) (by omega)).mono ?_; rintro e w10 ⟨rfl, hb⟩; replace hf := Lib.hid (hf.out.below hb hf.out.lt); obtain ⟨k0, k1, k2, k3, k4, k5⟩ := cfgs hf.out; replace hT := Lib.hid (hT.out.trans (hb.mono (by have := hT.out.size; omega))); clear hb)
      | (go_at_call 53; refine (awake12C _).mono ?_; rintro e w9 ⟨rfl, hb⟩; replace hT := Lib.hid (hT.out.trans (hb.mono (by have := hT.out.size; omega))); clear hb))
    go_ret
    exact ⟨rfl, hCFe ▸ hT.out⟩
set_option maxHeartbeats 4000000 in
set_option maxRecDepth 100000 in
theorem case_b (c : Cf) (s : Int) (w : World) (A : Option Addr) (n cc : Nat) (ft : Bool) (q : Nat → Int) (h : n ≤ 700) (hcc0 : n ≤ cc) (hS : Sl w A n 1 (fun i _ => .int .u64 (q i))) (hft : ft = true) (hr : c.right = false) : Calls Try.prog 19 #[.agg #[.int .i64 c.S, .int .i64 c.A, .int .i64 c.C, .int .i64 c.H, .int .i64 c.G, .int .i64 c.K], .slice A n cc, .int .i64 s, .bool ft] w fun e w' => e = .returned (.bool true) ∧ Below w.heap.size w w' := by
  have hf := Lib.hid (Blk.new w 23 #[.int .i64 c.S, .int .i64 c.A, .int .i64 c.C, .int .i64 c.H, .int .i64 c.G, .int .i64 c.K])
  have hT := Lib.hid ((Below.refl w.heap.size w).alloc (Nat.le_refl _) (.cells #[.int .i64 c.S, .int .i64 c.A, .int .i64 c.C, .int .i64 c.H, .int .i64 c.G, .int .i64 c.K] 23))
  have h' : ¬ (700 : Int) < (n : Int) := by omega
  have hRd0 : (n : Int) = c.size → c.right = true → ∃ bb oo, A = some ⟨bb, oo, none⟩ ∧ RdB w bb oo n q := fun e hr => by
    have h8 := size_bd hr
    obtain ⟨b, o, e1, hl, hc⟩ := hS (by unfold Cf.size at e; omega)
    exact ⟨b, o, e1, hl, fun i hi => by have := hc i hi 0 (by decide); rw [Nat.mul_one] at this; exact this⟩
  replace hRd0 := Lib.hid hRd0
  clear hS
  subst hft
  replace hr := Lib.hid hr
  go_enter Try.func19, Try.ntmps19
  generalize hCFe : w.heap.size = CF at *
  go_upto_region 10 with (go_at_call 21; refine (rRightC c _).mono ?_; rintro e w1 ⟨rfl, hb⟩; rw [hr.out]; replace hf := Lib.hid (hf.out.below hb hf.out.lt); obtain ⟨k0, k1, k2, k3, k4, k5⟩ := cfgs hf.out; replace hT := Lib.hid (hT.out.trans (hb.mono (by have := hT.out.size; omega))); clear hb)
  by_cases h1 : c.right = true ∧ 0 ≤ s ∧ s < c.S
  rotate_left
  · have hno := Lib.hid (show ¬ ((c.right = true ∧ 0 ≤ s ∧ s < c.S) ∧ (n : Int) = c.size) from fun x => h1 x.1)
    have hbn := Lib.hid (body_neg h1)
    replace h1 := Lib.hid h1
    go_wp2_with (first
      | (go_at_call 64; refine (bodyNo c _ A n cc s hno.out).mono ?_; rintro e w5 ⟨rfl, hb⟩; replace hf := Lib.hid (hf.out.below hb hf.out.lt); obtain ⟨k0, k1, k2, k3, k4, k5⟩ := cfgs hf.out; replace hT := Lib.hid (hT.out.trans (hb.mono (by have := hT.out.size; omega))); clear hb)
      | (go_at_call 56; refine (refBodyC c _ s).mono ?_; rintro e w6 ⟨rfl, hb⟩; rw [hbn.out]; replace hf := Lib.hid (hf.out.below hb hf.out.lt); obtain ⟨k0, k1, k2, k3, k4, k5⟩ := cfgs hf.out; replace hT := Lib.hid (hT.out.trans (hb.mono (by have := hT.out.size; omega))); clear hb)
      | (go_at_call 53; refine (awake12C _).mono ?_; rintro e w9 ⟨rfl, hb⟩; replace hT := Lib.hid (hT.out.trans (hb.mono (by have := hT.out.size; omega))); clear hb))
    go_ret
    exact ⟨rfl, hCFe ▸ hT.out⟩
  by_cases h2 : (n : Int) = c.size
  rotate_left
  · have hno := Lib.hid (show ¬ ((c.right = true ∧ 0 ≤ s ∧ s < c.S) ∧ (n : Int) = c.size) from fun x => h2 x.2)
    obtain ⟨p, hp, _⟩ := body_at h1.1 h1.2
    have hr2 := Lib.hid h1.1
    replace hp := Lib.hid hp
    replace h2 := Lib.hid h2
    replace h1 := Lib.hid h1
    go_wp2_with (first
      | (go_at_call 64; refine (bodyNo c _ A n cc s hno.out).mono ?_; rintro e w5 ⟨rfl, hb⟩; replace hf := Lib.hid (hf.out.below hb hf.out.lt); obtain ⟨k0, k1, k2, k3, k4, k5⟩ := cfgs hf.out; replace hT := Lib.hid (hT.out.trans (hb.mono (by have := hT.out.size; omega))); clear hb)
      | (go_at_call 56; refine (refBodyC c _ s).mono ?_; rintro e w6 ⟨rfl, hb⟩; rw [← hp.out]; replace hf := Lib.hid (hf.out.below hb hf.out.lt); obtain ⟨k0, k1, k2, k3, k4, k5⟩ := cfgs hf.out; replace hT := Lib.hid (hT.out.trans (hb.mono (by have := hT.out.size; omega))); clear hb)
      | (go_at_call 65; refine (rWordsC c _ hr2.out).mono ?_; rintro e w7 ⟨AW, NW, cW, rfl, hNW, hb⟩; have hne : ((n : Int) != (NW : Int)) = true := (by rw [hNW]; simpa using h2.out); replace hNW := Lib.hid hNW; replace hf := Lib.hid (hf.out.below hb hf.out.lt); obtain ⟨k0, k1, k2, k3, k4, k5⟩ := cfgs hf.out; replace hT := Lib.hid (hT.out.trans (hb.mono (by have := hT.out.size; omega))); clear hb)
      | (go_at_call 53; refine (awake12C _).mono ?_; rintro e w9 ⟨rfl, hb⟩; replace hT := Lib.hid (hT.out.trans (hb.mono (by have := hT.out.size; omega))); clear hb))
    go_ret
    exact ⟨rfl, hCFe ▸ hT.out⟩
  · obtain ⟨bb, oo, rfl, hRw⟩ := hRd0.out h2 h1.1
    have hRd := Lib.hid (hRw.below (hCFe.symm ▸ hT.out))
    have hcc : n ≤ cc := hcc0
    obtain ⟨p, hp, hpn, _, _⟩ := body_at h1.1 h1.2
    have hr2 := Lib.hid h1.1
    have hr3 := (room_i h1.1).1
    have hr8 := (room_i h1.1).2.1
    have hs2 := Lib.hid h1.2
    have hpn2 : p + roomI c ≤ n := by omega
    replace hpn := Lib.hid hpn
    replace hp := Lib.hid hp
    have hct := cut_u64 bb oo n cc p (roomI c) hpn2 hcc (by omega)
    have h2' : (n : Int) = c.size := h2
    replace h2 := Lib.hid h2
    replace h1 := Lib.hid h1
    replace h2' := Lib.hid h2'
    generalize hRI : roomI c = R at *
    replace hRI := Lib.hid hRI
    go_wp2_with (first
      | (go_at_call 64; refine (bodyYes c _ bb oo n cc p q s hr2.out hs2.out h2'.out hcc hp.out (by rw [hRI.out]; exact hpn2) hRd.out).mono ?_; rintro e w5 ⟨A5, c5, b5, rfl, hR5, hb⟩; rw [hRI.out] at hR5 ⊢; replace hRd := Lib.hid (hRd.out.below hb); replace hR5 := Lib.hid hR5; replace hf := Lib.hid (hf.out.below hb hf.out.lt); obtain ⟨k0, k1, k2, k3, k4, k5⟩ := cfgs hf.out; replace hT := Lib.hid (hT.out.trans (hb.mono (by have := hT.out.size; omega))); clear hb)
      | (go_at_call 56; refine (refBodyC c _ s).mono ?_; rintro e w6 ⟨rfl, hb⟩; rw [← hp.out]; replace hRd := Lib.hid (hRd.out.below hb); replace hR5 := Lib.hid (hR5.out.below hb (Nat.le_refl _)); replace hf := Lib.hid (hf.out.below hb hf.out.lt); obtain ⟨k0, k1, k2, k3, k4, k5⟩ := cfgs hf.out; replace hT := Lib.hid (hT.out.trans (hb.mono (by have := hT.out.size; omega))); clear hb)
      | (go_at_call 65; refine (rWordsC c _ hr2.out).mono ?_; rintro e w7 ⟨AW, NW, cW, rfl, hNW, hb⟩; have hne : ((n : Int) != (NW : Int)) = false := (by rw [hNW, ← h2'.out]; simp); replace hNW := Lib.hid hNW; replace hRd := Lib.hid (hRd.out.below hb); replace hR5 := Lib.hid (hR5.out.below hb (Nat.le_refl _)); replace hf := Lib.hid (hf.out.below hb hf.out.lt); obtain ⟨k0, k1, k2, k3, k4, k5⟩ := cfgs hf.out; replace hT := Lib.hid (hT.out.trans (hb.mono (by have := hT.out.size; omega))); clear hb)
      | (go_at_call 50; refine (rRoomC c _ hr2.out).mono ?_; rintro e w8 ⟨rfl, hb⟩; rw [hRI.out]; replace hRd := Lib.hid (hRd.out.below hb); replace hR5 := Lib.hid (hR5.out.below hb (Nat.le_refl _)); replace hf := Lib.hid (hf.out.below hb hf.out.lt); obtain ⟨k0, k1, k2, k3, k4, k5⟩ := cfgs hf.out; replace hT := Lib.hid (hT.out.trans (hb.mono (by have := hT.out.size; omega))); clear hb)
      | (go_at_call 23; refine (sameR _ _ _ _ _ _ _ _ _ hR5.out (rd_cut hRd.out hpn2) (by omega)).mono ?_; rintro e w10 ⟨rfl, hb⟩; replace hf := Lib.hid (hf.out.below hb hf.out.lt); obtain ⟨k0, k1, k2, k3, k4, k5⟩ := cfgs hf.out; replace hT := Lib.hid (hT.out.trans (hb.mono (by have := hT.out.size; omega))); clear hb)
      | (go_at_call 53; refine (awake12C _).mono ?_; rintro e w9 ⟨rfl, hb⟩; replace hT := Lib.hid (hT.out.trans (hb.mono (by have := hT.out.size; omega))); clear hb))
    go_ret
    exact ⟨rfl, hCFe ▸ hT.out⟩
set_option maxHeartbeats 4000000 in
set_option maxRecDepth 100000 in
theorem case_c (c : Cf) (s : Int) (w : World) (A : Option Addr) (n cc : Nat) (ft : Bool) (q : Nat → Int) (h : n ≤ 700) (hcc0 : n ≤ cc) (hS : Sl w A n 1 (fun i _ => .int .u64 (q i))) (hft : ft = true) (hr : c.right = true) (hs : ¬ c.S ≤ 20) : Calls Try.prog 19 #[.agg #[.int .i64 c.S, .int .i64 c.A, .int .i64 c.C, .int .i64 c.H, .int .i64 c.G, .int .i64 c.K], .slice A n cc, .int .i64 s, .bool ft] w fun e w' => e = .returned (.bool true) ∧ Below w.heap.size w w' := by
  have hf := Lib.hid (Blk.new w 23 #[.int .i64 c.S, .int .i64 c.A, .int .i64 c.C, .int .i64 c.H, .int .i64 c.G, .int .i64 c.K])
  have hT := Lib.hid ((Below.refl w.heap.size w).alloc (Nat.le_refl _) (.cells #[.int .i64 c.S, .int .i64 c.A, .int .i64 c.C, .int .i64 c.H, .int .i64 c.G, .int .i64 c.K] 23))
  have h' : ¬ (700 : Int) < (n : Int) := by omega
  have hRd0 : (n : Int) = c.size → c.right = true → ∃ bb oo, A = some ⟨bb, oo, none⟩ ∧ RdB w bb oo n q := fun e hr => by
    have h8 := size_bd hr
    obtain ⟨b, o, e1, hl, hc⟩ := hS (by unfold Cf.size at e; omega)
    exact ⟨b, o, e1, hl, fun i hi => by have := hc i hi 0 (by decide); rw [Nat.mul_one] at this; exact this⟩
  replace hRd0 := Lib.hid hRd0
  clear hS
  subst hft
  have hd : decide (c.S ≤ 20) = false := decide_eq_false hs
  replace hr := Lib.hid hr
  go_enter Try.func19, Try.ntmps19
  generalize hCFe : w.heap.size = CF at *
  go_upto_region 10 with (go_at_call 21; refine (rRightC c _).mono ?_; rintro e w1 ⟨rfl, hb⟩; rw [hr.out]; replace hf := Lib.hid (hf.out.below hb hf.out.lt); obtain ⟨k0, k1, k2, k3, k4, k5⟩ := cfgs hf.out; replace hT := Lib.hid (hT.out.trans (hb.mono (by have := hT.out.size; omega))); clear hb)
  by_cases h1 : c.right = true ∧ 0 ≤ s ∧ s < c.S
  rotate_left
  · have hno := Lib.hid (show ¬ ((c.right = true ∧ 0 ≤ s ∧ s < c.S) ∧ (n : Int) = c.size) from fun x => h1 x.1)
    have hbn := Lib.hid (body_neg h1)
    replace h1 := Lib.hid h1
    go_wp2_with (first
      | (go_at_call 64; refine (bodyNo c _ A n cc s hno.out).mono ?_; rintro e w5 ⟨rfl, hb⟩; replace hf := Lib.hid (hf.out.below hb hf.out.lt); obtain ⟨k0, k1, k2, k3, k4, k5⟩ := cfgs hf.out; replace hT := Lib.hid (hT.out.trans (hb.mono (by have := hT.out.size; omega))); clear hb)
      | (go_at_call 56; refine (refBodyC c _ s).mono ?_; rintro e w6 ⟨rfl, hb⟩; rw [hbn.out]; replace hf := Lib.hid (hf.out.below hb hf.out.lt); obtain ⟨k0, k1, k2, k3, k4, k5⟩ := cfgs hf.out; replace hT := Lib.hid (hT.out.trans (hb.mono (by have := hT.out.size; omega))); clear hb)
      | (go_at_call 53; refine (awake12C _).mono ?_; rintro e w9 ⟨rfl, hb⟩; replace hT := Lib.hid (hT.out.trans (hb.mono (by have := hT.out.size; omega))); clear hb))
    go_ret
    exact ⟨rfl, hCFe ▸ hT.out⟩
  by_cases h2 : (n : Int) = c.size
  rotate_left
  · have hno := Lib.hid (show ¬ ((c.right = true ∧ 0 ≤ s ∧ s < c.S) ∧ (n : Int) = c.size) from fun x => h2 x.2)
    obtain ⟨p, hp, _⟩ := body_at h1.1 h1.2
    have hr2 := Lib.hid h1.1
    replace hp := Lib.hid hp
    replace h2 := Lib.hid h2
    replace h1 := Lib.hid h1
    go_wp2_with (first
      | (go_at_call 64; refine (bodyNo c _ A n cc s hno.out).mono ?_; rintro e w5 ⟨rfl, hb⟩; replace hf := Lib.hid (hf.out.below hb hf.out.lt); obtain ⟨k0, k1, k2, k3, k4, k5⟩ := cfgs hf.out; replace hT := Lib.hid (hT.out.trans (hb.mono (by have := hT.out.size; omega))); clear hb)
      | (go_at_call 56; refine (refBodyC c _ s).mono ?_; rintro e w6 ⟨rfl, hb⟩; rw [← hp.out]; replace hf := Lib.hid (hf.out.below hb hf.out.lt); obtain ⟨k0, k1, k2, k3, k4, k5⟩ := cfgs hf.out; replace hT := Lib.hid (hT.out.trans (hb.mono (by have := hT.out.size; omega))); clear hb)
      | (go_at_call 65; refine (rWordsC c _ hr2.out).mono ?_; rintro e w7 ⟨AW, NW, cW, rfl, hNW, hb⟩; have hne : ((n : Int) != (NW : Int)) = true := (by rw [hNW]; simpa using h2.out); replace hNW := Lib.hid hNW; replace hf := Lib.hid (hf.out.below hb hf.out.lt); obtain ⟨k0, k1, k2, k3, k4, k5⟩ := cfgs hf.out; replace hT := Lib.hid (hT.out.trans (hb.mono (by have := hT.out.size; omega))); clear hb)
      | (go_at_call 53; refine (awake12C _).mono ?_; rintro e w9 ⟨rfl, hb⟩; replace hT := Lib.hid (hT.out.trans (hb.mono (by have := hT.out.size; omega))); clear hb))
    go_ret
    exact ⟨rfl, hCFe ▸ hT.out⟩
  · obtain ⟨bb, oo, rfl, hRw⟩ := hRd0.out h2 h1.1
    have hRd := Lib.hid (hRw.below (hCFe.symm ▸ hT.out))
    have hcc : n ≤ cc := hcc0
    obtain ⟨p, hp, hpn, _, _⟩ := body_at h1.1 h1.2
    have hr2 := Lib.hid h1.1
    have hr3 := (room_i h1.1).1
    have hr8 := (room_i h1.1).2.1
    have hs2 := Lib.hid h1.2
    have hpn2 : p + roomI c ≤ n := by omega
    replace hpn := Lib.hid hpn
    replace hp := Lib.hid hp
    have hct := cut_u64 bb oo n cc p (roomI c) hpn2 hcc (by omega)
    have h2' : (n : Int) = c.size := h2
    replace h2 := Lib.hid h2
    replace h1 := Lib.hid h1
    replace h2' := Lib.hid h2'
    generalize hRI : roomI c = R at *
    replace hRI := Lib.hid hRI
    go_wp2_with (first
      | (go_at_call 64; refine (bodyYes c _ bb oo n cc p q s hr2.out hs2.out h2'.out hcc hp.out (by rw [hRI.out]; exact hpn2) hRd.out).mono ?_; rintro e w5 ⟨A5, c5, b5, rfl, hR5, hb⟩; rw [hRI.out] at hR5 ⊢; replace hRd := Lib.hid (hRd.out.below hb); replace hR5 := Lib.hid hR5; replace hf := Lib.hid (hf.out.below hb hf.out.lt); obtain ⟨k0, k1, k2, k3, k4, k5⟩ := cfgs hf.out; replace hT := Lib.hid (hT.out.trans (hb.mono (by have := hT.out.size; omega))); clear hb)
      | (go_at_call 56; refine (refBodyC c _ s).mono ?_; rintro e w6 ⟨rfl, hb⟩; rw [← hp.out]; replace hRd := Lib.hid (hRd.out.below hb); replace hR5 := Lib.hid (hR5.out.below hb (Nat.le_refl _)); replace hf := Lib.hid (hf.out.below hb hf.out.lt); obtain ⟨k0, k1, k2, k3, k4, k5⟩ := cfgs hf.out; replace hT := Lib.hid (hT.out.trans (hb.mono (by have := hT.out.size; omega))); clear hb)
      | (go_at_call 65; refine (rWordsC c _ hr2.out).mono ?_; rintro e w7 ⟨AW, NW, cW, rfl, hNW, hb⟩; have hne : ((n : Int) != (NW : Int)) = false := (by rw [hNW, ← h2'.out]; simp); replace hNW := Lib.hid hNW; replace hRd := Lib.hid (hRd.out.below hb); replace hR5 := Lib.hid (hR5.out.below hb (Nat.le_refl _)); replace hf := Lib.hid (hf.out.below hb hf.out.lt); obtain ⟨k0, k1, k2, k3, k4, k5⟩ := cfgs hf.out; replace hT := Lib.hid (hT.out.trans (hb.mono (by have := hT.out.size; omega))); clear hb)
      | (go_at_call 50; refine (rRoomC c _ hr2.out).mono ?_; rintro e w8 ⟨rfl, hb⟩; rw [hRI.out]; replace hRd := Lib.hid (hRd.out.below hb); replace hR5 := Lib.hid (hR5.out.below hb (Nat.le_refl _)); replace hf := Lib.hid (hf.out.below hb hf.out.lt); obtain ⟨k0, k1, k2, k3, k4, k5⟩ := cfgs hf.out; replace hT := Lib.hid (hT.out.trans (hb.mono (by have := hT.out.size; omega))); clear hb)
      | (go_at_call 23; refine (sameR _ _ _ _ _ _ _ _ _ hR5.out (rd_cut hRd.out hpn2) (by omega)).mono ?_; rintro e w10 ⟨rfl, hb⟩; replace hf := Lib.hid (hf.out.below hb hf.out.lt); obtain ⟨k0, k1, k2, k3, k4, k5⟩ := cfgs hf.out; replace hT := Lib.hid (hT.out.trans (hb.mono (by have := hT.out.size; omega))); clear hb)
      | (go_at_call 53; refine (awake12C _).mono ?_; rintro e w9 ⟨rfl, hb⟩; replace hT := Lib.hid (hT.out.trans (hb.mono (by have := hT.out.size; omega))); clear hb))
    go_ret
    exact ⟨rfl, hCFe ▸ hT.out⟩
set_option maxHeartbeats 4000000 in
set_option maxRecDepth 100000 in
theorem case_d (c : Cf) (s : Int) (w : World) (A : Option Addr) (n cc : Nat) (ft : Bool) (q : Nat → Int) (h : n ≤ 700) (hcc0 : n ≤ cc) (hS : Sl w A n 1 (fun i _ => .int .u64 (q i))) (hft : ft = true) (hr : c.right = true) (hs : c.S ≤ 20) : Calls Try.prog 19 #[.agg #[.int .i64 c.S, .int .i64 c.A, .int .i64 c.C, .int .i64 c.H, .int .i64 c.G, .int .i64 c.K], .slice A n cc, .int .i64 s, .bool ft] w fun e w' => e = .returned (.bool true) ∧ Below w.heap.size w w' := by
  subst hft
  have hf := Lib.hid (Blk.new w 23 #[.int .i64 c.S, .int .i64 c.A, .int .i64 c.C, .int .i64 c.H, .int .i64 c.G, .int .i64 c.K])
  have hT := Lib.hid ((Below.refl w.heap.size w).alloc (Nat.le_refl _) (.cells #[.int .i64 c.S, .int .i64 c.A, .int .i64 c.C, .int .i64 c.H, .int .i64 c.G, .int .i64 c.K] 23))
  have h' : ¬ (700 : Int) < (n : Int) := by omega
  have hd : decide (c.S ≤ 20) = true := decide_eq_true hs
  have hS0 := Lib.hid hS
  replace hr := Lib.hid hr
  clear hS
  go_enter Try.func19, Try.ntmps19
  generalize hCFe : w.heap.size = CF at *
  go_wp2_with (first
    | (go_at_call 21; refine (rRightC c _).mono ?_; rintro e w1 ⟨rfl, hb⟩; rw [hr.out]; replace hf := Lib.hid (hf.out.below hb hf.out.lt); obtain ⟨k0, k1, k2, k3, k4, k5⟩ := cfgs hf.out; replace hT := Lib.hid (hT.out.trans (hb.mono (by have := hT.out.size; omega))); clear hb)
    | (go_at_call 25; refine (refMemC c _ hr.out).mono ?_; rintro e w2 ⟨AA, ca, b, N, rfl, hN, hb0, hR, hb⟩; have gCF : CF < b := (Nat.lt_of_lt_of_le hf.out.lt hb0); replace hR := Lib.hid hR; replace hN := Lib.hid hN; replace hf := Lib.hid (hf.out.below hb hf.out.lt); obtain ⟨k0, k1, k2, k3, k4, k5⟩ := cfgs hf.out; replace hT := Lib.hid (hT.out.trans (hb.mono (by have := hT.out.size; omega))); clear hb; clear k0 k1 k2 k3 k4 k5))
  have hN8 : 9 ≤ N ∧ N ≤ 800 := by have := size_bd hr.out; have := hN.out; unfold Cf.size at this; omega
  obtain ⟨eAA, hca, _⟩ := rd_of_row hR.out (by omega)
  subst eAA
  go_loopw [10] (fun z wr => ∃ (i : Nat) (fF : Nat → Int), i ≤ n ∧ i ≤ N ∧ z = .int .i64 (i : Int) ∧ RowB wr (some ⟨b, 0, none⟩) ca b N fF ∧ Blk wr CF 23 #[.int .i64 c.S, .int .i64 c.A, .int .i64 c.C, .int .i64 c.H, .int .i64 c.G, .int .i64 c.K] ∧ Below CF w wr) (fun z _ => n - (intOf z).toNat)
  case atStart => exact ⟨0, _, Nat.zero_le _, Nat.zero_le _, rfl, hR.out, hf.out, hT.out⟩
  case round =>
    obtain ⟨i, fF, hi, hi2, rfl, hRi, hC, hW⟩ := hrel
    clear hf hT hR
    have hf := Lib.hid hC
    have hT := Lib.hid hW
    by_cases hlt : i < n
    · by_cases hlt2 : i < N
      · obtain ⟨j, hj⟩ : ∃ j, j = N - 1 - i := ⟨_, rfl⟩
        have hjN : j < N := by omega
        have e1 : (N : Int) - 1 - (i : Int) = (j : Int) := by omega
        obtain ⟨_, x5, y5⟩ := hRi.cell hjN
        obtain ⟨g, o, rfl, _, hcl⟩ := (hS0.out.below (hCFe.symm ▸ hW) (Nat.le_refl _)) (by omega)
        have x6 := hcl i hlt 0 (by decide)
        rw [Nat.mul_one] at x6
        have x6' : wr.cell? ⟨g, o + i, none⟩ = some (.int .u64 (q i)) := x6
        clear hcl x6 hC hW
        have hj' := Lib.hid hj
        clear hj
        replace hRi := Lib.hid hRi
        go_wp2
        go_roundw
        case rel => exact ⟨i + 1, _, by omega, by omega, by go_num, hRi.out.set j hjN (q i), hf.out.other ⟨b, j, none⟩ (by show CF ≠ b; omega) _, hT.out.setCell (p := ⟨b, j, none⟩) (by show CF ≤ b; omega) _⟩
        case measure => simp [intOf]; omega
      · have e1 : i = N := by omega
        have hlt' : (i : Int) < (n : Int) := by omega
        have hlt3 : ¬ (i : Int) < (N : Int) := by omega
        clear hC hW
        have hRd := Lib.hid (rd_of_row hRi (by omega)).2.2
        have hN2 := Lib.hid hN.out
        replace e1 := Lib.hid e1
        obtain ⟨k0, k1, k2, k3, k4, k5⟩ := cfgs hf.out
        go_upto_region 10 with (fail)
        by_cases h1 : c.right = true ∧ 0 ≤ s ∧ s < c.S
        rotate_left
        · have hno := Lib.hid (show ¬ ((c.right = true ∧ 0 ≤ s ∧ s < c.S) ∧ (N : Int) = c.size) from fun x => h1 x.1)
          have hbn := Lib.hid (body_neg h1)
          replace h1 := Lib.hid h1
          go_wp2_with (first
      | (go_at_call 64; refine (bodyNo c _ (some ⟨b, 0, none⟩) N ca s hno.out).mono ?_; rintro e w5 ⟨rfl, hb⟩; replace hf := Lib.hid (hf.out.below hb hf.out.lt); obtain ⟨k0, k1, k2, k3, k4, k5⟩ := cfgs hf.out; replace hT := Lib.hid (hT.out.trans (hb.mono (by have := hT.out.size; omega))); clear hb)
      | (go_at_call 56; refine (refBodyC c _ s).mono ?_; rintro e w6 ⟨rfl, hb⟩; rw [hbn.out]; replace hf := Lib.hid (hf.out.below hb hf.out.lt); obtain ⟨k0, k1, k2, k3, k4, k5⟩ := cfgs hf.out; replace hT := Lib.hid (hT.out.trans (hb.mono (by have := hT.out.size; omega))); clear hb)
      | (go_at_call 53; refine (awake12C _).mono ?_; rintro e w9 ⟨rfl, hb⟩; replace hT := Lib.hid (hT.out.trans (hb.mono (by have := hT.out.size; omega))); clear hb))
          go_ret
          exact ⟨rfl, hCFe ▸ hT.out⟩
        have h2 : (N : Int) = c.size := hN2.out
        · obtain ⟨p, hp, hpn, _, _⟩ := body_at h1.1 h1.2
          have hr2 := Lib.hid h1.1
          have hr3 := (room_i h1.1).1
          have hr8 := (room_i h1.1).2.1
          have hs2 := Lib.hid h1.2
          have hpn2 : p + roomI c ≤ N := by omega
          replace hpn := Lib.hid hpn
          replace hp := Lib.hid hp
          have hct := cut_u64 b 0 N ca p (roomI c) hpn2 hca (by omega)
          have h2' : (N : Int) = c.size := h2
          replace h2 := Lib.hid h2
          replace h1 := Lib.hid h1
          replace h2' := Lib.hid h2'
          generalize hRI : roomI c = R at *
          replace hRI := Lib.hid hRI
          go_wp2_with (first
      | (go_at_call 64; refine (bodyYes c _ b 0 N ca p fF s hr2.out hs2.out h2'.out hca hp.out (by rw [hRI.out]; exact hpn2) hRd.out).mono ?_; rintro e w5 ⟨A5, c5, b5, rfl, hR5, hb⟩; rw [hRI.out] at hR5 ⊢; replace hRd := Lib.hid (hRd.out.below hb); replace hR5 := Lib.hid hR5; replace hf := Lib.hid (hf.out.below hb hf.out.lt); obtain ⟨k0, k1, k2, k3, k4, k5⟩ := cfgs hf.out; replace hT := Lib.hid (hT.out.trans (hb.mono (by have := hT.out.size; omega))); clear hb)
      | (go_at_call 56; refine (refBodyC c _ s).mono ?_; rintro e w6 ⟨rfl, hb⟩; rw [← hp.out]; replace hRd := Lib.hid (hRd.out.below hb); replace hR5 := Lib.hid (hR5.out.below hb (Nat.le_refl _)); replace hf := Lib.hid (hf.out.below hb hf.out.lt); obtain ⟨k0, k1, k2, k3, k4, k5⟩ := cfgs hf.out; replace hT := Lib.hid (hT.out.trans (hb.mono (by have := hT.out.size; omega))); clear hb)
      | (go_at_call 65; refine (rWordsC c _ hr2.out).mono ?_; rintro e w7 ⟨AW, NW, cW, rfl, hNW, hb⟩; have hne : ((N : Int) != (NW : Int)) = false := (by rw [hNW, ← h2'.out]; simp); replace hNW := Lib.hid hNW; replace hRd := Lib.hid (hRd.out.below hb); replace hR5 := Lib.hid (hR5.out.below hb (Nat.le_refl _)); replace hf := Lib.hid (hf.out.below hb hf.out.lt); obtain ⟨k0, k1, k2, k3, k4, k5⟩ := cfgs hf.out; replace hT := Lib.hid (hT.out.trans (hb.mono (by have := hT.out.size; omega))); clear hb)
      | (go_at_call 50; refine (rRoomC c _ hr2.out).mono ?_; rintro e w8 ⟨rfl, hb⟩; rw [hRI.out]; replace hRd := Lib.hid (hRd.out.below hb); replace hR5 := Lib.hid (hR5.out.below hb (Nat.le_refl _)); replace hf := Lib.hid (hf.out.below hb hf.out.lt); obtain ⟨k0, k1, k2, k3, k4, k5⟩ := cfgs hf.out; replace hT := Lib.hid (hT.out.trans (hb.mono (by have := hT.out.size; omega))); clear hb)
      | (go_at_call 23; refine (sameR _ _ _ _ _ b p R (fun j => fF (p + j)) hR5.out (by have := rd_cut hRd.out hpn2; rwa [Nat.zero_add] at this) (by omega)).mono ?_; rintro e w10 ⟨rfl, hb⟩; replace hf := Lib.hid (hf.out.below hb hf.out.lt); obtain ⟨k0, k1, k2, k3, k4, k5⟩ := cfgs hf.out; replace hT := Lib.hid (hT.out.trans (hb.mono (by have := hT.out.size; omega))); clear hb)
      | (go_at_call 53; refine (awake12C _).mono ?_; rintro e w9 ⟨rfl, hb⟩; replace hT := Lib.hid (hT.out.trans (hb.mono (by have := hT.out.size; omega))); clear hb))
          go_ret
          exact ⟨rfl, hCFe ▸ hT.out⟩
    · have hlt3 : ¬ (i : Int) < (n : Int) := by omega
      clear hC hW
      have hRd := Lib.hid (rd_of_row hRi (by omega)).2.2
      have hN2 := Lib.hid hN.out
      obtain ⟨k0, k1, k2, k3, k4, k5⟩ := cfgs hf.out
      go_upto_region 10 with (fail)
      by_cases h1 : c.right = true ∧ 0 ≤ s ∧ s < c.S
      rotate_left
      · have hno := Lib.hid (show ¬ ((c.right = true ∧ 0 ≤ s ∧ s < c.S) ∧ (N : Int) = c.size) from fun x => h1 x.1)
        have hbn := Lib.hid (body_neg h1)
        replace h1 := Lib.hid h1
        go_wp2_with (first
      | (go_at_call 64; refine (bodyNo c _ (some ⟨b, 0, none⟩) N ca s hno.out).mono ?_; rintro e w5 ⟨rfl, hb⟩; replace hf := Lib.hid (hf.out.below hb hf.out.lt); obtain ⟨k0, k1, k2, k3, k4, k5⟩ := cfgs hf.out; replace hT := Lib.hid (hT.out.trans (hb.mono (by have := hT.out.size; omega))); clear hb)
      | (go_at_call 56; refine (refBodyC c _ s).mono ?_; rintro e w6 ⟨rfl, hb⟩; rw [hbn.out]; replace hf := Lib.hid (hf.out.below hb hf.out.lt); obtain ⟨k0, k1, k2, k3, k4, k5⟩ := cfgs hf.out; replace hT := Lib.hid (hT.out.trans (hb.mono (by have := hT.out.size; omega))); clear hb)
      | (go_at_call 53; refine (awake12C _).mono ?_; rintro e w9 ⟨rfl, hb⟩; replace hT := Lib.hid (hT.out.trans (hb.mono (by have := hT.out.size; omega))); clear hb))
        go_ret
        exact ⟨rfl, hCFe ▸ hT.out⟩
      have h2 : (N : Int) = c.size := hN2.out
      · obtain ⟨p, hp, hpn, _, _⟩ := body_at h1.1 h1.2
        have hr2 := Lib.hid h1.1
        have hr3 := (room_i h1.1).1
        have hr8 := (room_i h1.1).2.1
        have hs2 := Lib.hid h1.2
        have hpn2 : p + roomI c ≤ N := by omega
        replace hpn := Lib.hid hpn
        replace hp := Lib.hid hp
        have hct := cut_u64 b 0 N ca p (roomI c) hpn2 hca (by omega)
        have h2' : (N : Int) = c.size := h2
        replace h2 := Lib.hid h2
        replace h1 := Lib.hid h1
        replace h2' := Lib.hid h2'
        generalize hRI : roomI c = R at *
        replace hRI := Lib.hid hRI
        go_wp2_with (first
      | (go_at_call 64; refine (bodyYes c _ b 0 N ca p fF s hr2.out hs2.out h2'.out hca hp.out (by rw [hRI.out]; exact hpn2) hRd.out).mono ?_; rintro e w5 ⟨A5, c5, b5, rfl, hR5, hb⟩; rw [hRI.out] at hR5 ⊢; replace hRd := Lib.hid (hRd.out.below hb); replace hR5 := Lib.hid hR5; replace hf := Lib.hid (hf.out.below hb hf.out.lt); obtain ⟨k0, k1, k2, k3, k4, k5⟩ := cfgs hf.out; replace hT := Lib.hid (hT.out.trans (hb.mono (by have := hT.out.size; omega))); clear hb)
      | (go_at_call 56; refine (refBodyC c _ s).mono ?_; rintro e w6 ⟨rfl, hb⟩; rw [← hp.out]; replace hRd := Lib.hid (hRd.out.below hb); replace hR5 := Lib.hid (hR5.out.below hb (Nat.le_refl _)); replace hf := Lib.hid (hf.out.below hb hf.out.lt); obtain ⟨k0, k1, k2, k3, k4, k5⟩ := cfgs hf.out; replace hT := Lib.hid (hT.out.trans (hb.mono (by have := hT.out.size; omega))); clear hb)
      | (go_at_call 65; refine (rWordsC c _ hr2.out).mono ?_; rintro e w7 ⟨AW, NW, cW, rfl, hNW, hb⟩; have hne : ((N : Int) != (NW : Int)) = false := (by rw [hNW, ← h2'.out]; simp); replace hNW := Lib.hid hNW; replace hRd := Lib.hid (hRd.out.below hb); replace hR5 := Lib.hid (hR5.out.below hb (Nat.le_refl _)); replace hf := Lib.hid (hf.out.below hb hf.out.lt); obtain ⟨k0, k1, k2, k3, k4, k5⟩ := cfgs hf.out; replace hT := Lib.hid (hT.out.trans (hb.mono (by have := hT.out.size; omega))); clear hb)
      | (go_at_call 50; refine (rRoomC c _ hr2.out).mono ?_; rintro e w8 ⟨rfl, hb⟩; rw [hRI.out]; replace hRd := Lib.hid (hRd.out.below hb); replace hR5 := Lib.hid (hR5.out.below hb (Nat.le_refl _)); replace hf := Lib.hid (hf.out.below hb hf.out.lt); obtain ⟨k0, k1, k2, k3, k4, k5⟩ := cfgs hf.out; replace hT := Lib.hid (hT.out.trans (hb.mono (by have := hT.out.size; omega))); clear hb)
      | (go_at_call 23; refine (sameR _ _ _ _ _ b p R (fun j => fF (p + j)) hR5.out (by have := rd_cut hRd.out hpn2; rwa [Nat.zero_add] at this) (by omega)).mono ?_; rintro e w10 ⟨rfl, hb⟩; replace hf := Lib.hid (hf.out.below hb hf.out.lt); obtain ⟨k0, k1, k2, k3, k4, k5⟩ := cfgs hf.out; replace hT := Lib.hid (hT.out.trans (hb.mono (by have := hT.out.size; omega))); clear hb)
      | (go_at_call 53; refine (awake12C _).mono ?_; rintro e w9 ⟨rfl, hb⟩; replace hT := Lib.hid (hT.out.trans (hb.mono (by have := hT.out.size; omega))); clear hb))
        go_ret
        exact ⟨rfl, hCFe ▸ hT.out⟩
theorem bodiesC (c : Cf) (s : Int) (w : World) (A : Option Addr) (n cc : Nat) (ft : Bool) (q : Nat → Int) (hcc0 : n ≤ cc) (hS : Sl w A n 1 (fun i _ => .int .u64 (q i))) : Calls Try.prog 19 #[.agg #[.int .i64 c.S, .int .i64 c.A, .int .i64 c.C, .int .i64 c.H, .int .i64 c.G, .int .i64 c.K], .slice A n cc, .int .i64 s, .bool ft] w fun e w' => e = .returned (.bool true) ∧ Below w.heap.size w w' := by
  rcases Nat.lt_or_ge 700 n with h | h
  · exact long c s w A n cc ft h
  · cases ft with
    | false => exact case_a c s w A n cc false q h hcc0 hS rfl
    | true =>
      cases hr : c.right with
      | false => exact case_b c s w A n cc true q h hcc0 hS rfl hr
      | true =>
        by_cases hs : c.S ≤ 20
        · exact case_d c s w A n cc true q h hcc0 hS rfl hr hs
        · exact case_c c s w A n cc true q h hcc0 hS rfl hr hs
end Go.Proofs.Ytijfkpoofpcacaa.ArenaX
end
section
namespace Go.Proofs.Ytijfkpoofpcacaa.CoreRow
open Go.ChangeShapes Go.WideShapes Go.RowKit Go.Deep
section
variable {H : Type} {enc : TypeId × Value → H} {P : Program} {w : World} {base : Nat} {spare : Nat → Bool} {held : Bool}
theorem open_cells {r : Reach} {b0 : Nat} {t : TypeId} {fs : Array Field} {v : Value} {d : DataW H} {p : List MemPlace} (hs : P.underlying t = some (.struct fs)) (hone : oneCellFields P fs = true) (hC : P.cellsOf t = fs.size)
    (hv : Value.okWide P w r b0 t v) (h : DataW.Trod enc P w base spare held t v d p) :
    ∃ cs : List Value, v = .agg cs.toArray ∧ cs.length = fs.size ∧ ∀ (j : Nat) (f : Field), fs[j]? = some f → ∃ (n : Nat) (y : DataW H × List MemPlace), DataW.trod enc P w base spare held n f.type [cs.getD j undef] = some y := by
  obtain ⟨⟨cs⟩, rfl, hsz⟩ := okWide_struct hs hv
  obtain ⟨fuel, hf⟩ := h
  obtain ⟨xs, n, _, hx, _, hlen, hg⟩ := DataW.trod_struct hs hf
  have hcl : cs.length = fs.size := hsz.trans hC
  refine ⟨cs, rfl, hcl, fun j f hj => ?_⟩
  obtain ⟨ho, hk⟩ := hone_of hone j f hj
  have hjl : j < fs.size := (Array.getElem?_eq_some_iff.1 hj).1
  have h1 := hg j f hj
  rw [ho, hk] at h1
  have e := take1_drop cs j undef (by omega)
  have h2 : DataW.trod enc P w base spare held n f.type [cs.getD j undef] = xs[j]? := by rw [← e]; exact h1
  exact ⟨n, _, h2.trans (List.getElem?_eq_getElem (by omega))⟩
theorem cell_int {fs : Array Field} {cs : List Value} {k : IntKind} {ti : TypeId} (hi : P.underlying ti = some (.int k)) (hg : ∀ (j : Nat) (f : Field), fs[j]? = some f → ∃ (n : Nat) (y : DataW H × List MemPlace), DataW.trod enc P w base spare held n f.type [cs.getD j undef] = some y)
    (j : Nat) (ht : (fs.map (·.type))[j]? = some ti) : ∃ a : Int, cs.getD j undef = .int k a ∧ (Lit.int k a).wf = true := by
  rw [Array.getElem?_map] at ht
  obtain ⟨f, hf, ht⟩ := Option.map_eq_some_iff.1 ht
  obtain ⟨n, y, hy⟩ := hg j f hf
  rw [ht] at hy
  obtain ⟨a, ha, _, hw⟩ := DataW.trod_int hi hy
  exact ⟨a, (List.cons.inj ha).1, hw⟩
theorem open_ints6 {r : Reach} {b0 : Nat} {t ti : TypeId} {fs : Array Field} {v : Value} {d : DataW H} {p : List MemPlace} (hs : P.underlying t = some (.struct fs)) (hi : P.underlying ti = some (.int .i64)) (hone : oneCellFields P fs = true) (hC : P.cellsOf t = fs.size) (h6 : fs.map (·.type) = #[ti, ti, ti, ti, ti, ti])
    (hv : Value.okWide P w r b0 t v) (h : DataW.Trod enc P w base spare held t v d p) :
    ∃ a0 a1 a2 a3 a4 a5 : Int, v = .agg #[.int .i64 a0, .int .i64 a1, .int .i64 a2, .int .i64 a3, .int .i64 a4, .int .i64 a5] ∧ (Lit.int .i64 a0).wf = true ∧ (Lit.int .i64 a1).wf = true ∧ (Lit.int .i64 a2).wf = true ∧ (Lit.int .i64 a3).wf = true ∧ (Lit.int .i64 a4).wf = true ∧ (Lit.int .i64 a5).wf = true := by
  obtain ⟨cs, rfl, hl, hg⟩ := open_cells hs hone hC hv h
  have h6' : fs.size = 6 := by have := congrArg Array.size h6; simpa using this
  obtain ⟨a0, e0, w0⟩ := cell_int hi hg 0 (by rw [h6]; rfl)
  obtain ⟨a1, e1, w1⟩ := cell_int hi hg 1 (by rw [h6]; rfl)
  obtain ⟨a2, e2, w2⟩ := cell_int hi hg 2 (by rw [h6]; rfl)
  obtain ⟨a3, e3, w3⟩ := cell_int hi hg 3 (by rw [h6]; rfl)
  obtain ⟨a4, e4, w4⟩ := cell_int hi hg 4 (by rw [h6]; rfl)
  obtain ⟨a5, e5, w5⟩ := cell_int hi hg 5 (by rw [h6]; rfl)
  refine ⟨a0, a1, a2, a3, a4, a5, ?_, w0, w1, w2, w3, w4, w5⟩
  rw [h6'] at hl
  match cs, hl with
  | [c0, c1, c2, c3, c4, c5], _ =>
    simp at e0 e1 e2 e3 e4 e5
    subst e0 e1 e2 e3 e4 e5
    rfl
end
end Go.Proofs.Ytijfkpoofpcacaa.CoreRow
end
