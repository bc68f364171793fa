-- PRINTED BY print.sh 35421559b90ae4d0a3588c463048766b98c2df88dd9212a6774a882060cdf62d: not written by this session
import Derived.Test.YtijfkpoofpcacaaPArenaPlaysx0
import Derived.Test.YtijfkpoofpcacaaPArenaPlaysx3
namespace Go.Proofs.Ytijfkpoofpcacaa.PArenaPlays
open Go.RowKit Go.Proofs.YtijfkpoofpcacaaW.PrintWords Go.Proofs.YtijfkpoofpcacaaW.PrintLast Go.Proofs.YtijfkpoofpcacaaW.PrintMore
attribute [local go_sem] max2_int min2_int max_two min_two max_three min_three max_four min_four   -- for this text's walks alone
set_option linter.unusedVariables false
set_option linter.unusedSimpArgs false

/-! ### withyref06_Words: function 65 -/
mutual
def withyref06_Words.l0 : Nat → List (S91) → Int → Int → Int → Int → Int → Int → Int → Option ((List (S91)))
  | 0, _, _, _, _, _, _, _, _ => none
  | k + 1, x3, x4, x140000, x140001, x140002, x140003, x140004, x140005 => if x4 < x140002 then (if x3.length < 4398046511104 then (withyref06_Words.l0 k (x3 ++ [(⟨(⟨#[112, 105, 110]⟩ : ByteArray), x4, 0⟩ : S91)]) (wrap64 (x4 + 1)) x140000 x140001 x140002 x140003 x140004 x140005) else (none)) else (withyref06_Words.l1 k x3 0 x140000 x140001 x140002 x140003 x140004 x140005)
def withyref06_Words.l1 : Nat → List (S91) → Int → Int → Int → Int → Int → Int → Int → Option ((List (S91)))
  | 0, _, _, _, _, _, _, _, _ => none
  | k + 1, x3, x5, x140000, x140001, x140002, x140003, x140004, x140005 => if x5 < x140002 then (withyref06_Words.l2 k x3 x5 0 x140000 x140001 x140002 x140003 x140004 x140005) else (withyref06_Words.l3 k x3 0 x140000 x140001 x140002 x140003 x140004 x140005)
def withyref06_Words.l2 : Nat → List (S91) → Int → Int → Int → Int → Int → Int → Int → Int → Option ((List (S91)))
  | 0, _, _, _, _, _, _, _, _, _ => none
  | k + 1, x3, x5, x6, x140000, x140001, x140002, x140003, x140004, x140005 => if x6 < x140003 then (if x3.length < 4398046511104 then (withyref06_Words.l2 k (x3 ++ [(⟨(⟨#[101, 110, 116, 114, 121]⟩ : ByteArray), x5, x6⟩ : S91)]) x5 (wrap64 (x6 + 1)) x140000 x140001 x140002 x140003 x140004 x140005) else (none)) else (withyref06_Words.l1 k x3 (wrap64 (x5 + 1)) x140000 x140001 x140002 x140003 x140004 x140005)
def withyref06_Words.l3 : Nat → List (S91) → Int → Int → Int → Int → Int → Int → Int → Option ((List (S91)))
  | 0, _, _, _, _, _, _, _, _ => none
  | k + 1, x3, x7, x140000, x140001, x140002, x140003, x140004, x140005 => if x7 < x140002 then ((some (([(⟨(⟨#[118, 105, 101, 119]⟩ : ByteArray), x7, 0⟩ : S91), (⟨(⟨#[115, 116, 97, 114, 116]⟩ : ByteArray), x7, 0⟩ : S91)] : List (S91)) : List (S91))).bind fun y149 => (if x3.length + y149.length < 4398046511104 then (withyref06_Words.l3 k (x3 ++ y149) (wrap64 (x7 + 1)) x140000 x140001 x140002 x140003 x140004 x140005) else (none))) else (withyref06_Words.l4 k x3 0 x140000 x140001 x140002 x140003 x140004 x140005)
def withyref06_Words.l4 : Nat → List (S91) → Int → Int → Int → Int → Int → Int → Int → Option ((List (S91)))
  | 0, _, _, _, _, _, _, _, _ => none
  | k + 1, x3, x8, x140000, x140001, x140002, x140003, x140004, x140005 => if x8 < x140000 then ((some (([(⟨(⟨#[104, 101, 97, 100, 101, 114]⟩ : ByteArray), x8, 0⟩ : S91), (⟨(⟨#[108, 105, 110, 107]⟩ : ByteArray), x8, 0⟩ : S91)] : List (S91)) : List (S91))).bind fun y155 => (if x3.length + y155.length < 4398046511104 then (withyref06_Words.l5 k (x3 ++ y155) x8 0 x140000 x140001 x140002 x140003 x140004 x140005) else (none))) else (some x3)
def withyref06_Words.l5 : Nat → List (S91) → Int → Int → Int → Int → Int → Int → Int → Int → Option ((List (S91)))
  | 0, _, _, _, _, _, _, _, _, _ => none
  | k + 1, x3, x8, x9, x140000, x140001, x140002, x140003, x140004, x140005 => (withyref06_Room.f x140000 x140001 x140002 x140003 x140004 x140005).bind fun t161 => (if x9 < t161 then (if x3.length < 4398046511104 then (withyref06_Words.l5 k (x3 ++ [(⟨(⟨#[98, 111, 100, 121]⟩ : ByteArray), x8, x9⟩ : S91)]) x8 (wrap64 (x9 + 1)) x140000 x140001 x140002 x140003 x140004 x140005) else (none)) else (withyref06_Words.l4 k x3 (wrap64 (x8 + 1)) x140000 x140001 x140002 x140003 x140004 x140005))
end
def withyref06_Words.f (k : Nat) (a0_0 : Int) (a0_1 : Int) (a0_2 : Int) (a0_3 : Int) (a0_4 : Int) (a0_5 : Int) : Option ((List (S91))) := withyref06_Words.l0 k (([(⟨(⟨#[99, 108, 111, 99, 107]⟩ : ByteArray), 0, 0⟩ : S91), (⟨(⟨#[101, 112, 111, 99, 104]⟩ : ByteArray), 0, 0⟩ : S91), (⟨(⟨#[103, 114, 97, 121, 115]⟩ : ByteArray), 0, 0⟩ : S91), (⟨(⟨#[116, 111, 112]⟩ : ByteArray), 0, 0⟩ : S91)] : List (S91))) 0 a0_0 a0_1 a0_2 a0_3 a0_4 a0_5
theorem withyref06_Words.mono_l : ∀ k, (∀ y0 y1 y2 y3 y4 y5 y6 y7, LeO (withyref06_Words.l0 k y0 y1 y2 y3 y4 y5 y6 y7) (withyref06_Words.l0 (k + 1) y0 y1 y2 y3 y4 y5 y6 y7)) ∧ (∀ y0 y1 y2 y3 y4 y5 y6 y7, LeO (withyref06_Words.l1 k y0 y1 y2 y3 y4 y5 y6 y7) (withyref06_Words.l1 (k + 1) y0 y1 y2 y3 y4 y5 y6 y7)) ∧ (∀ y0 y1 y2 y3 y4 y5 y6 y7 y8, LeO (withyref06_Words.l2 k y0 y1 y2 y3 y4 y5 y6 y7 y8) (withyref06_Words.l2 (k + 1) y0 y1 y2 y3 y4 y5 y6 y7 y8)) ∧ (∀ y0 y1 y2 y3 y4 y5 y6 y7, LeO (withyref06_Words.l3 k y0 y1 y2 y3 y4 y5 y6 y7) (withyref06_Words.l3 (k + 1) y0 y1 y2 y3 y4 y5 y6 y7)) ∧ (∀ y0 y1 y2 y3 y4 y5 y6 y7, LeO (withyref06_Words.l4 k y0 y1 y2 y3 y4 y5 y6 y7) (withyref06_Words.l4 (k + 1) y0 y1 y2 y3 y4 y5 y6 y7)) ∧ (∀ y0 y1 y2 y3 y4 y5 y6 y7 y8, LeO (withyref06_Words.l5 k y0 y1 y2 y3 y4 y5 y6 y7 y8) (withyref06_Words.l5 (k + 1) y0 y1 y2 y3 y4 y5 y6 y7 y8))
  | 0 => ⟨fun _ _ _ _ _ _ _ _ r h => by simp [withyref06_Words.l0] at h, fun _ _ _ _ _ _ _ _ r h => by simp [withyref06_Words.l1] at h, fun _ _ _ _ _ _ _ _ _ r h => by simp [withyref06_Words.l2] at h, fun _ _ _ _ _ _ _ _ r h => by simp [withyref06_Words.l3] at h, fun _ _ _ _ _ _ _ _ r h => by simp [withyref06_Words.l4] at h, fun _ _ _ _ _ _ _ _ _ r h => by simp [withyref06_Words.l5] at h⟩
  | k + 1 => by
    obtain ⟨ih0, ih1, ih2, ih3, ih4, ih5⟩ := withyref06_Words.mono_l k
    refine ⟨?_, ?_, ?_, ?_, ?_, ?_⟩
    · intro y0 y1 y2 y3 y4 y5 y6 y7
      unfold withyref06_Words.l0
      repeat' first
      | (with_reducible exact ih0 _ _ _ _ _ _ _ _)
      | (with_reducible exact ih1 _ _ _ _ _ _ _ _)
      | (with_reducible exact ih2 _ _ _ _ _ _ _ _ _)
      | (with_reducible exact ih3 _ _ _ _ _ _ _ _)
      | (with_reducible exact ih4 _ _ _ _ _ _ _ _)
      | (with_reducible exact ih5 _ _ _ _ _ _ _ _ _)
      | (with_reducible exact LeO.refl _)
      | (with_reducible exact LeO.none _)
      | (with_reducible refine LeO.ite ?_ ?_)
      | (with_reducible refine LeO.bind ?_ (fun _ => ?_))
      | exact ih0 _ _ _ _ _ _ _ _
      | exact ih1 _ _ _ _ _ _ _ _
      | exact ih2 _ _ _ _ _ _ _ _ _
      | exact ih3 _ _ _ _ _ _ _ _
      | exact ih4 _ _ _ _ _ _ _ _
      | exact ih5 _ _ _ _ _ _ _ _ _
      | exact LeO.none _
      | refine LeO.ite ?_ ?_
      | refine LeO.bind ?_ (fun _ => ?_)
    · intro y0 y1 y2 y3 y4 y5 y6 y7
      unfold withyref06_Words.l1
      repeat' first
      | (with_reducible exact ih0 _ _ _ _ _ _ _ _)
      | (with_reducible exact ih1 _ _ _ _ _ _ _ _)
      | (with_reducible exact ih2 _ _ _ _ _ _ _ _ _)
      | (with_reducible exact ih3 _ _ _ _ _ _ _ _)
      | (with_reducible exact ih4 _ _ _ _ _ _ _ _)
      | (with_reducible exact ih5 _ _ _ _ _ _ _ _ _)
      | (with_reducible exact LeO.refl _)
      | (with_reducible exact LeO.none _)
      | (with_reducible refine LeO.ite ?_ ?_)
      | (with_reducible refine LeO.bind ?_ (fun _ => ?_))
      | exact ih0 _ _ _ _ _ _ _ _
      | exact ih1 _ _ _ _ _ _ _ _
      | exact ih2 _ _ _ _ _ _ _ _ _
      | exact ih3 _ _ _ _ _ _ _ _
      | exact ih4 _ _ _ _ _ _ _ _
      | exact ih5 _ _ _ _ _ _ _ _ _
      | exact LeO.none _
      | refine LeO.ite ?_ ?_
      | refine LeO.bind ?_ (fun _ => ?_)
    · intro y0 y1 y2 y3 y4 y5 y6 y7 y8
      unfold withyref06_Words.l2
      repeat' first
      | (with_reducible exact ih0 _ _ _ _ _ _ _ _)
      | (with_reducible exact ih1 _ _ _ _ _ _ _ _)
      | (with_reducible exact ih2 _ _ _ _ _ _ _ _ _)
      | (with_reducible exact ih3 _ _ _ _ _ _ _ _)
      | (with_reducible exact ih4 _ _ _ _ _ _ _ _)
      | (with_reducible exact ih5 _ _ _ _ _ _ _ _ _)
      | (with_reducible exact LeO.refl _)
      | (with_reducible exact LeO.none _)
      | (with_reducible refine LeO.ite ?_ ?_)
      | (with_reducible refine LeO.bind ?_ (fun _ => ?_))
      | exact ih0 _ _ _ _ _ _ _ _
      | exact ih1 _ _ _ _ _ _ _ _
      | exact ih2 _ _ _ _ _ _ _ _ _
      | exact ih3 _ _ _ _ _ _ _ _
      | exact ih4 _ _ _ _ _ _ _ _
      | exact ih5 _ _ _ _ _ _ _ _ _
      | exact LeO.none _
      | refine LeO.ite ?_ ?_
      | refine LeO.bind ?_ (fun _ => ?_)
    · intro y0 y1 y2 y3 y4 y5 y6 y7
      unfold withyref06_Words.l3
      repeat' first
      | (with_reducible exact ih0 _ _ _ _ _ _ _ _)
      | (with_reducible exact ih1 _ _ _ _ _ _ _ _)
      | (with_reducible exact ih2 _ _ _ _ _ _ _ _ _)
      | (with_reducible exact ih3 _ _ _ _ _ _ _ _)
      | (with_reducible exact ih4 _ _ _ _ _ _ _ _)
      | (with_reducible exact ih5 _ _ _ _ _ _ _ _ _)
      | (with_reducible exact LeO.refl _)
      | (with_reducible exact LeO.none _)
      | (with_reducible refine LeO.ite ?_ ?_)
      | (with_reducible refine LeO.bind ?_ (fun _ => ?_))
      | exact ih0 _ _ _ _ _ _ _ _
      | exact ih1 _ _ _ _ _ _ _ _
      | exact ih2 _ _ _ _ _ _ _ _ _
      | exact ih3 _ _ _ _ _ _ _ _
      | exact ih4 _ _ _ _ _ _ _ _
      | exact ih5 _ _ _ _ _ _ _ _ _
      | exact LeO.none _
      | refine LeO.ite ?_ ?_
      | refine LeO.bind ?_ (fun _ => ?_)
    · intro y0 y1 y2 y3 y4 y5 y6 y7
      unfold withyref06_Words.l4
      repeat' first
      | (with_reducible exact ih0 _ _ _ _ _ _ _ _)
      | (with_reducible exact ih1 _ _ _ _ _ _ _ _)
      | (with_reducible exact ih2 _ _ _ _ _ _ _ _ _)
      | (with_reducible exact ih3 _ _ _ _ _ _ _ _)
      | (with_reducible exact ih4 _ _ _ _ _ _ _ _)
      | (with_reducible exact ih5 _ _ _ _ _ _ _ _ _)
      | (with_reducible exact LeO.refl _)
      | (with_reducible exact LeO.none _)
      | (with_reducible refine LeO.ite ?_ ?_)
      | (with_reducible refine LeO.bind ?_ (fun _ => ?_))
      | exact ih0 _ _ _ _ _ _ _ _
      | exact ih1 _ _ _ _ _ _ _ _
      | exact ih2 _ _ _ _ _ _ _ _ _
      | exact ih3 _ _ _ _ _ _ _ _
      | exact ih4 _ _ _ _ _ _ _ _
      | exact ih5 _ _ _ _ _ _ _ _ _
      | exact LeO.none _
      | refine LeO.ite ?_ ?_
      | refine LeO.bind ?_ (fun _ => ?_)
    · intro y0 y1 y2 y3 y4 y5 y6 y7 y8
      unfold withyref06_Words.l5
      repeat' first
      | (with_reducible exact ih0 _ _ _ _ _ _ _ _)
      | (with_reducible exact ih1 _ _ _ _ _ _ _ _)
      | (with_reducible exact ih2 _ _ _ _ _ _ _ _ _)
      | (with_reducible exact ih3 _ _ _ _ _ _ _ _)
      | (with_reducible exact ih4 _ _ _ _ _ _ _ _)
      | (with_reducible exact ih5 _ _ _ _ _ _ _ _ _)
      | (with_reducible exact LeO.refl _)
      | (with_reducible exact LeO.none _)
      | (with_reducible refine LeO.ite ?_ ?_)
      | (with_reducible refine LeO.bind ?_ (fun _ => ?_))
      | exact ih0 _ _ _ _ _ _ _ _
      | exact ih1 _ _ _ _ _ _ _ _
      | exact ih2 _ _ _ _ _ _ _ _ _
      | exact ih3 _ _ _ _ _ _ _ _
      | exact ih4 _ _ _ _ _ _ _ _
      | exact ih5 _ _ _ _ _ _ _ _ _
      | exact LeO.none _
      | refine LeO.ite ?_ ?_
      | refine LeO.bind ?_ (fun _ => ?_)
theorem withyref06_Words.mono : ∀ a0 a1 a2 a3 a4 a5 k, LeO (withyref06_Words.f k a0 a1 a2 a3 a4 a5) (withyref06_Words.f (k + 1) a0 a1 a2 a3 a4 a5) := by
  intro a0 a1 a2 a3 a4 a5 k
  obtain ⟨ih0, ih1, ih2, ih3, ih4, ih5⟩ := withyref06_Words.mono_l k
  unfold withyref06_Words.f
  repeat' first
      | (with_reducible exact ih0 _ _ _ _ _ _ _ _)
      | (with_reducible exact ih1 _ _ _ _ _ _ _ _)
      | (with_reducible exact ih2 _ _ _ _ _ _ _ _ _)
      | (with_reducible exact ih3 _ _ _ _ _ _ _ _)
      | (with_reducible exact ih4 _ _ _ _ _ _ _ _)
      | (with_reducible exact ih5 _ _ _ _ _ _ _ _ _)
      | (with_reducible exact LeO.refl _)
      | (with_reducible exact LeO.none _)
      | (with_reducible refine LeO.ite ?_ ?_)
      | (with_reducible refine LeO.bind ?_ (fun _ => ?_))
      | exact ih0 _ _ _ _ _ _ _ _
      | exact ih1 _ _ _ _ _ _ _ _
      | exact ih2 _ _ _ _ _ _ _ _ _
      | exact ih3 _ _ _ _ _ _ _ _
      | exact ih4 _ _ _ _ _ _ _ _
      | exact ih5 _ _ _ _ _ _ _ _ _
      | exact LeO.none _
      | refine LeO.ite ?_ ?_
      | refine LeO.bind ?_ (fun _ => ?_)
set_option maxHeartbeats 8000000 in
set_option maxRecDepth 100000 in
theorem withyref06_Words.calls (k : Nat) (a0_0 : Int) (a0_1 : Int) (a0_2 : Int) (a0_3 : Int) (a0_4 : Int) (a0_5 : Int) (r : List (S91)) (w : World) (h : withyref06_Words.f k a0_0 a0_1 a0_2 a0_3 a0_4 a0_5 = some r) :
    Calls Try.prog 65 #[.agg #[.int .i64 a0_0, .int .i64 a0_1, .int .i64 a0_2, .int .i64 a0_3, .int .i64 a0_4, .int .i64 a0_5]] w fun e w' => ∃ v0_ : Value, e = .returned (v0_) ∧ Kd.R k91 91 w' w.heap.size (fun _ => True) v0_ r ∧ Below w.heap.size w w' := by
  have hu23 := Try.underlying23
  have hu91 := Try.underlying91
  have HB := Aside0.mk (Below.refl w.heap.size w)
  have H : (withyref06_Words.l0 k (([(⟨(⟨#[99, 108, 111, 99, 107]⟩ : ByteArray), 0, 0⟩ : S91), (⟨(⟨#[101, 112, 111, 99, 104]⟩ : ByteArray), 0, 0⟩ : S91), (⟨(⟨#[103, 114, 97, 121, 115]⟩ : ByteArray), 0, 0⟩ : S91), (⟨(⟨#[116, 111, 112]⟩ : ByteArray), 0, 0⟩ : S91)] : List (S91))) 0 a0_0 a0_1 a0_2 a0_3 a0_4 a0_5) = some r := h
  clear h
  obtain ⟨y140, hy140⟩ : ∃ y_ : List (S91), y_ = (([(⟨(⟨#[99, 108, 111, 99, 107]⟩ : ByteArray), 0, 0⟩ : S91), (⟨(⟨#[101, 112, 111, 99, 104]⟩ : ByteArray), 0, 0⟩ : S91), (⟨(⟨#[103, 114, 97, 121, 115]⟩ : ByteArray), 0, 0⟩ : S91), (⟨(⟨#[116, 111, 112]⟩ : ByteArray), 0, 0⟩ : S91)] : List (S91))) := ⟨_, rfl⟩
  replace H : (withyref06_Words.l0 k y140 0 a0_0 a0_1 a0_2 a0_3 a0_4 a0_5) = some r := by first | (rw [hy140]; with_reducible exact H) | (have H2_ := (Option.bind_some _ _).symm.trans H; rw [hy140]; with_reducible exact H2_) | (have H2_ := (Option.bind_some _ _).symm.trans H; with_reducible exact H2_) | with_reducible exact H | (rw [hy140]; exact H) | exact H
  have Ny140 := Aside0.mk hy140
  clear hy140
  have H' := Aside0.mk H
  clear H
  go_enter Try.func65, Try.ntmps65
  go_wp2_with (first | ((with_reducible refine gate_dst (N := 1) rfl ?_); refine box_event ?hg (N := 1) ?hd (cs := #[.int .i64 a0_0, .int .i64 a0_1, .int .i64 a0_2, .int .i64 a0_3, .int .i64 a0_4, .int .i64 a0_5]) (t := 23) ?hr ?_; (case hd => rfl); (case hg => rfl); (case hr => first | (go_simp; done) | (go_simp; rfl)); intro gb139 hg w2 hbox hb; have n0_ := Aside0.mk (below_step (by repeat (first | (with_reducible first | exact HB.out | apply below_alloc | apply pw_below_drewN | apply below_drew1) | exact HB.out)) hb); have n1_ := Aside0.mk (hbox); have n2_ := Aside0.mk ((by rw [hg]; exact (below_size (by repeat (first | (with_reducible first | exact HB.out | apply below_alloc | apply pw_below_drewN | apply below_drew1) | exact HB.out))) : w.heap.size ≤ gb139)); have n3_ := Aside0.mk ((by rw [hg]; exact (below_size (by repeat (first | (with_reducible first | exact HB.out | apply below_alloc | apply pw_below_drewN | apply below_drew1) | exact HB.out))) : w.heap.size ≤ gb139)); clear HB; have HB := n0_; have BK139 := n1_; have GW139 := n2_; have GE139 := n3_; clear n0_ n1_ n2_ n3_; clear hb hbox hg) | ((with_reducible refine gate_dst (N := 14) rfl ?_); refine Kd.R_lit k91 _ 91 ?hg (N := 14) ?hd (xs := ([(⟨(⟨#[99, 108, 111, 99, 107]⟩ : ByteArray), 0, 0⟩ : S91), (⟨(⟨#[101, 112, 111, 99, 104]⟩ : ByteArray), 0, 0⟩ : S91), (⟨(⟨#[103, 114, 97, 121, 115]⟩ : ByteArray), 0, 0⟩ : S91), (⟨(⟨#[116, 111, 112]⟩ : ByteArray), 0, 0⟩ : S91)] : List (S91))) (inner := [.string (⟨#[99, 108, 111, 99, 107]⟩ : ByteArray), .int .i64 0, .int .i64 0, .string (⟨#[101, 112, 111, 99, 104]⟩ : ByteArray), .int .i64 0, .int .i64 0, .string (⟨#[103, 114, 97, 121, 115]⟩ : ByteArray), .int .i64 0, .int .i64 0, .string (⟨#[116, 111, 112]⟩ : ByteArray), .int .i64 0, .int .i64 0]) (ok := fun _ => True) (okp := fun _ => True) ?hr ?hp (fun _ hk => hk) trivial (Below.refl _ _) (Nat.le_refl _) (by simp) ?_; (case hd => rfl); (case hg => rfl); (case hr => first | (go_simp; done) | (go_simp; rfl)); (case hp => exact (Reps.c3 (show Kd.M k91 _ _ _ (⟨(⟨#[99, 108, 111, 99, 107]⟩ : ByteArray), 0, 0⟩ : S91) [.string (⟨#[99, 108, 111, 99, 107]⟩ : ByteArray), .int .i64 0, .int .i64 0] from (k91_mkM _ _ _ (⟨(⟨#[99, 108, 111, 99, 107]⟩ : ByteArray), 0, 0⟩ : S91) )) (Reps.c3 (show Kd.M k91 _ _ _ (⟨(⟨#[101, 112, 111, 99, 104]⟩ : ByteArray), 0, 0⟩ : S91) [.string (⟨#[101, 112, 111, 99, 104]⟩ : ByteArray), .int .i64 0, .int .i64 0] from (k91_mkM _ _ _ (⟨(⟨#[101, 112, 111, 99, 104]⟩ : ByteArray), 0, 0⟩ : S91) )) (Reps.c3 (show Kd.M k91 _ _ _ (⟨(⟨#[103, 114, 97, 121, 115]⟩ : ByteArray), 0, 0⟩ : S91) [.string (⟨#[103, 114, 97, 121, 115]⟩ : ByteArray), .int .i64 0, .int .i64 0] from (k91_mkM _ _ _ (⟨(⟨#[103, 114, 97, 121, 115]⟩ : ByteArray), 0, 0⟩ : S91) )) (Reps.c3 (show Kd.M k91 _ _ _ (⟨(⟨#[116, 111, 112]⟩ : ByteArray), 0, 0⟩ : S91) [.string (⟨#[116, 111, 112]⟩ : ByteArray), .int .i64 0, .int .i64 0] from (k91_mkM _ _ _ (⟨(⟨#[116, 111, 112]⟩ : ByteArray), 0, 0⟩ : S91) )) (Reps.none _ _)))))); intro v141 w3 ho4 hb hg_ hnew_; clear hg_ hnew_; (first | rw [← Ny140.out] at ho4 | (simp only [Int.reduceToNat] at ho4; rw [← Ny140.out] at ho4)); have n0_ := Aside0.mk (Kd.R_lower ho4 (below_size (by repeat (first | (with_reducible first | exact HB.out | apply below_alloc | apply pw_below_drewN | apply below_drew1 | refine below_set ?_ GE139.out) | exact HB.out)))); have n1_ := Aside0.mk (blk_below (g := gb139) (o := .cells #[.int .i64 a0_0, .int .i64 a0_1, .int .i64 a0_2, .int .i64 a0_3, .int .i64 a0_4, .int .i64 a0_5] 23 (0, 0)) (by (with_reducible repeat (first | refine blk_drewN ?_ _ | refine blk_drew ?_ | refine blk_alloc ?_ _)); exact BK139.out) hb); have n2_ := Aside0.mk (below_step (by repeat (first | (with_reducible first | exact HB.out | apply below_alloc | apply pw_below_drewN | apply below_drew1 | refine below_set ?_ GE139.out) | exact HB.out)) hb); clear BK139; clear HB; have HO142 := n0_; have BK139 := n1_; have HB := n2_; clear n0_ n1_ n2_; clear hb ho4))
  go_loopg [3, 4] k (fun kq v3 v4 w' => ∃ (x3_1 : List (S91)) (x4_1 : Int), v4 = .int .i64 x4_1 ∧ Aside0 (withyref06_Words.l0 kq x3_1 x4_1 a0_0 a0_1 a0_2 a0_3 a0_4 a0_5 = some r) ∧ Aside0 (kq ≤ k) ∧ Aside0 (Kd.R k91 91 w' w.heap.size (fun _ => True) v3 x3_1) ∧ Aside0 (w'.heap[gb139]? = some (.cells #[.int .i64 a0_0, .int .i64 a0_1, .int .i64 a0_2, .int .i64 a0_3, .int .i64 a0_4, .int .i64 a0_5] 23 (0, 0))) ∧ Aside0 (Below w.heap.size w w'))
  case atStart => exact ⟨(y140), (0), (by first | rfl | (simp; done) | (simp [*]; done)), H', ⟨Nat.le_refl _⟩, ⟨by (with_reducible repeat (first | apply Kd.R_alloc | apply Kd.R_drewN | apply Kd.R_drew)); exact HO142.out⟩, ⟨by (with_reducible repeat (first | refine blk_drewN ?_ _ | refine blk_drew ?_ | refine blk_alloc ?_ _)); exact BK139.out⟩, ⟨by repeat (first | (with_reducible first | exact HB.out | apply below_alloc | apply pw_below_drewN | apply below_drew1 | refine below_set ?_ GE139.out) | exact HB.out)⟩⟩
  case round =>
    clear H'
    try clear p2
    try clear c3
    obtain ⟨x3_1, x4_1, rfl, HA, HK1, HO_3, BK139, HB⟩ := hrel
    cases gk with
    | zero => exact absurd HA.out (by simp [withyref06_Words.l0])
    | succ k1 =>
      have H := HA.out
      clear HA
      simp only [withyref06_Words.l0] at H
      by_cases c5 : x4_1 < a0_2
      · rw [if_pos c5] at H
        have c5b0 : decide (x4_1 < a0_2) = true := decide_eq_true c5
        clear c5
        by_cases c6 : x3_1.length < 4398046511104
        · rw [if_pos c6] at H
          have LMc6 := Aside0.mk c6
          clear c6
          obtain ⟨y143, hy143⟩ : ∃ y_ : List (S91), y_ = (x3_1 ++ [(⟨(⟨#[112, 105, 110]⟩ : ByteArray), x4_1, 0⟩ : S91)]) := ⟨_, rfl⟩
          replace H : (withyref06_Words.l0 k1 y143 (wrap64 (x4_1 + 1)) a0_0 a0_1 a0_2 a0_3 a0_4 a0_5) = some r := by first | (rw [hy143]; with_reducible exact H) | (have H2_ := (Option.bind_some _ _).symm.trans H; rw [hy143]; with_reducible exact H2_) | (have H2_ := (Option.bind_some _ _).symm.trans H; with_reducible exact H2_) | with_reducible exact H | (rw [hy143]; exact H) | exact H
          have Ny143 := Aside0.mk hy143
          clear hy143
          have H' := Aside0.mk H
          clear H
          have hcz7_0 : wr.cell? ⟨gb139, 0, none⟩ = some (.int .i64 a0_0) := (blk_cell BK139.out 0).trans rfl
          have hcz7_1 : wr.cell? ⟨gb139, 1, none⟩ = some (.int .i64 a0_1) := (blk_cell BK139.out 1).trans rfl
          have hcz7_2 : wr.cell? ⟨gb139, 2, none⟩ = some (.int .i64 a0_2) := (blk_cell BK139.out 2).trans rfl
          have hcz7_3 : wr.cell? ⟨gb139, 3, none⟩ = some (.int .i64 a0_3) := (blk_cell BK139.out 3).trans rfl
          have hcz7_4 : wr.cell? ⟨gb139, 4, none⟩ = some (.int .i64 a0_4) := (blk_cell BK139.out 4).trans rfl
          have hcz7_5 : wr.cell? ⟨gb139, 5, none⟩ = some (.int .i64 a0_5) := (blk_cell BK139.out 5).trans rfl
          have hfz7_0 := blk_frozen BK139.out 0
          have hfz7_1 := blk_frozen BK139.out 1
          have hfz7_2 := blk_frozen BK139.out 2
          have hfz7_3 := blk_frozen BK139.out 3
          have hfz7_4 := blk_frozen BK139.out 4
          have hfz7_5 := blk_frozen BK139.out 5
          go_wp2_with (first | ((with_reducible refine gate_builtin (b := .append) (xs := #[.tmp 21, .tmp 24]) rfl ?_); at_builtin; refine Kd.R_append k91 (w0 := w) w.heap.size rfl (.tmp 21) (.tmp 24) 114 91 (.agg #[(.string ⟨#[]⟩), (.int .i64 0), (.int .i64 0)]) 32 rfl Try.underlying114 info91 rfl (by decide) (by omega) u3 x3_1 (⟨(⟨#[112, 105, 110]⟩ : ByteArray), x4_1, 0⟩ : S91) [.string (⟨#[112, 105, 110]⟩ : ByteArray), .int .i64 x4_1, .int .i64 0] (fun _ => True) (fun _ => False) rfl rfl ?aP (fun _ hk => hk.elim) ?aF ?aO ?aB ?aS ?aL ?_; (case aP => exact k91_mkM _ _ _ (⟨(⟨#[112, 105, 110]⟩ : ByteArray), x4_1, 0⟩ : S91)); (case aB => exact (by repeat (first | (with_reducible first | exact HB.out | apply below_alloc | apply pw_below_drewN | apply below_drew1 | refine below_set ?_ GE139.out) | exact HB.out))); (case aF => exact (fun _ _ => trivial)); (case aO => exact (by (with_reducible repeat (first | apply Kd.R_alloc | apply Kd.R_drewN | apply Kd.R_drew)); exact HO_3.out)); (case aS => exact (below_size (by repeat (first | (with_reducible first | exact HB.out | apply below_alloc | apply pw_below_drewN | apply below_drew1 | refine below_set ?_ GE139.out) | exact HB.out)))); (case aL => have := LMc6.out; omega); intro v144 w8 ho hb hg hat; rw [← Ny143.out] at ho; have n0_ := Aside0.mk (blk_grown (g := gb139) (o := .cells #[.int .i64 a0_0, .int .i64 a0_1, .int .i64 a0_2, .int .i64 a0_3, .int .i64 a0_4, .int .i64 a0_5] 23 (0, 0)) (by (with_reducible repeat (first | refine blk_drewN ?_ _ | refine blk_drew ?_ | refine blk_alloc ?_ _)); exact BK139.out) hg (Kd.R_ne HO_3.out BK139.out (by decide))); have n1_ := Aside0.mk (hb); have n2_ := Aside0.mk (ho); clear BK139; clear HB; clear HO_3; have BK139 := n0_; have HB := n1_; have HO145 := n2_; clear n0_ n1_ n2_; clear ho hb hg hat))
          go_roundg k1
          case measure => have := HK1.out; omega
          case rel => exact ⟨(y143), (wrap64 (x4_1 + 1)), (by first | rfl | (simp; done) | (simp [*]; done)), H', ⟨by have := HK1.out; omega⟩, ⟨by (with_reducible repeat (first | apply Kd.R_alloc | apply Kd.R_drewN | apply Kd.R_drew)); exact HO145.out⟩, ⟨by (with_reducible repeat (first | refine blk_drewN ?_ _ | refine blk_drew ?_ | refine blk_alloc ?_ _)); exact BK139.out⟩, ⟨by repeat (first | (with_reducible first | exact HB.out | apply below_alloc | apply pw_below_drewN | apply below_drew1 | refine below_set ?_ GE139.out) | exact HB.out)⟩⟩
        · rw [if_neg c6] at H
          exact absurd H (by simp)
      · rw [if_neg c5] at H
        have c5b0 : decide (x4_1 < a0_2) = false := decide_eq_false c5
        clear c5
        have H' := Aside0.mk H
        clear H
        have hcz9_0 : wr.cell? ⟨gb139, 0, none⟩ = some (.int .i64 a0_0) := (blk_cell BK139.out 0).trans rfl
        have hcz9_1 : wr.cell? ⟨gb139, 1, none⟩ = some (.int .i64 a0_1) := (blk_cell BK139.out 1).trans rfl
        have hcz9_2 : wr.cell? ⟨gb139, 2, none⟩ = some (.int .i64 a0_2) := (blk_cell BK139.out 2).trans rfl
        have hcz9_3 : wr.cell? ⟨gb139, 3, none⟩ = some (.int .i64 a0_3) := (blk_cell BK139.out 3).trans rfl
        have hcz9_4 : wr.cell? ⟨gb139, 4, none⟩ = some (.int .i64 a0_4) := (blk_cell BK139.out 4).trans rfl
        have hcz9_5 : wr.cell? ⟨gb139, 5, none⟩ = some (.int .i64 a0_5) := (blk_cell BK139.out 5).trans rfl
        have hfz9_0 := blk_frozen BK139.out 0
        have hfz9_1 := blk_frozen BK139.out 1
        have hfz9_2 := blk_frozen BK139.out 2
        have hfz9_3 := blk_frozen BK139.out 3
        have hfz9_4 := blk_frozen BK139.out 4
        have hfz9_5 := blk_frozen BK139.out 5
        go_wp2
        go_loopg [3, 5] k1 (fun kq v3 v5 w' => ∃ (x3_2 : List (S91)) (x5_2 : Int), v5 = .int .i64 x5_2 ∧ Aside0 (withyref06_Words.l1 kq x3_2 x5_2 a0_0 a0_1 a0_2 a0_3 a0_4 a0_5 = some r) ∧ Aside0 (kq ≤ k1) ∧ Aside0 (Kd.R k91 91 w' w.heap.size (fun _ => True) v3 x3_2) ∧ Aside0 (w'.heap[gb139]? = some (.cells #[.int .i64 a0_0, .int .i64 a0_1, .int .i64 a0_2, .int .i64 a0_3, .int .i64 a0_4, .int .i64 a0_5] 23 (0, 0))) ∧ Aside0 (Below w.heap.size w w'))
        case atStart => exact ⟨(x3_1), (0), (by first | rfl | (simp; done) | (simp [*]; done)), H', ⟨Nat.le_refl _⟩, ⟨by (with_reducible repeat (first | apply Kd.R_alloc | apply Kd.R_drewN | apply Kd.R_drew)); exact HO_3.out⟩, ⟨by (with_reducible repeat (first | refine blk_drewN ?_ _ | refine blk_drew ?_ | refine blk_alloc ?_ _)); exact BK139.out⟩, ⟨by repeat (first | (with_reducible first | exact HB.out | apply below_alloc | apply pw_below_drewN | apply below_drew1 | refine below_set ?_ GE139.out) | exact HB.out)⟩⟩
        case round =>
          clear H'
          try clear p2
          try clear c3
          try clear c5
          try clear c5b0
          try clear c6
          try clear p6
          try clear hcz7_0
          try clear hcz7_1
          try clear hcz7_2
          try clear hcz7_3
          try clear hcz7_4
          try clear hcz7_5
          try clear hcz9_0
          try clear hcz9_1
          try clear hcz9_2
          try clear hcz9_3
          try clear hcz9_4
          try clear hcz9_5
          try clear hfz7_0
          try clear hfz7_1
          try clear hfz7_2
          try clear hfz7_3
          try clear hfz7_4
          try clear hfz7_5
          try clear hfz9_0
          try clear hfz9_1
          try clear hfz9_2
          try clear hfz9_3
          try clear hfz9_4
          try clear hfz9_5
          try clear p2
          obtain ⟨x3_2, x5_2, rfl, HA, HK2, HO_3, BK139, HB⟩ := hrel
          cases gk with
          | zero => exact absurd HA.out (by simp [withyref06_Words.l1])
          | succ k2 =>
            have H := HA.out
            clear HA
            simp only [withyref06_Words.l1] at H
            by_cases c10 : x5_2 < a0_2
            · rw [if_pos c10] at H
              have c10b0 : decide (x5_2 < a0_2) = true := decide_eq_true c10
              clear c10
              have H' := Aside0.mk H
              clear H
              have hcz11_0 : wr.cell? ⟨gb139, 0, none⟩ = some (.int .i64 a0_0) := (blk_cell BK139.out 0).trans rfl
              have hcz11_1 : wr.cell? ⟨gb139, 1, none⟩ = some (.int .i64 a0_1) := (blk_cell BK139.out 1).trans rfl
              have hcz11_2 : wr.cell? ⟨gb139, 2, none⟩ = some (.int .i64 a0_2) := (blk_cell BK139.out 2).trans rfl
              have hcz11_3 : wr.cell? ⟨gb139, 3, none⟩ = some (.int .i64 a0_3) := (blk_cell BK139.out 3).trans rfl
              have hcz11_4 : wr.cell? ⟨gb139, 4, none⟩ = some (.int .i64 a0_4) := (blk_cell BK139.out 4).trans rfl
              have hcz11_5 : wr.cell? ⟨gb139, 5, none⟩ = some (.int .i64 a0_5) := (blk_cell BK139.out 5).trans rfl
              have hfz11_0 := blk_frozen BK139.out 0
              have hfz11_1 := blk_frozen BK139.out 1
              have hfz11_2 := blk_frozen BK139.out 2
              have hfz11_3 := blk_frozen BK139.out 3
              have hfz11_4 := blk_frozen BK139.out 4
              have hfz11_5 := blk_frozen BK139.out 5
              go_wp2
              go_loopg [3, 6] k2 (fun kq v3 v6 w' => ∃ (x3_3 : List (S91)) (x6_3 : Int), v6 = .int .i64 x6_3 ∧ Aside0 (withyref06_Words.l2 kq x3_3 x5_2 x6_3 a0_0 a0_1 a0_2 a0_3 a0_4 a0_5 = some r) ∧ Aside0 (kq ≤ k2) ∧ Aside0 (Kd.R k91 91 w' w.heap.size (fun _ => True) v3 x3_3) ∧ Aside0 (w'.heap[gb139]? = some (.cells #[.int .i64 a0_0, .int .i64 a0_1, .int .i64 a0_2, .int .i64 a0_3, .int .i64 a0_4, .int .i64 a0_5] 23 (0, 0))) ∧ Aside0 (Below w.heap.size w w'))
              case atStart => exact ⟨(x3_2), (0), (by first | rfl | (simp; done) | (simp [*]; done)), H', ⟨Nat.le_refl _⟩, ⟨by (with_reducible repeat (first | apply Kd.R_alloc | apply Kd.R_drewN | apply Kd.R_drew)); exact HO_3.out⟩, ⟨by (with_reducible repeat (first | refine blk_drewN ?_ _ | refine blk_drew ?_ | refine blk_alloc ?_ _)); exact BK139.out⟩, ⟨by repeat (first | (with_reducible first | exact HB.out | apply below_alloc | apply pw_below_drewN | apply below_drew1 | refine below_set ?_ GE139.out) | exact HB.out)⟩⟩
              case round =>
                clear H'
                try clear c1
                try clear p2
                try clear c3
                try clear c5
                try clear c5b0
                try clear c6
                try clear p6
                try clear c10
                try clear c10b0
                try clear hcz11_0
                try clear hcz11_1
                try clear hcz11_2
                try clear hcz11_3
                try clear hcz11_4
                try clear hcz11_5
                try clear hcz7_0
                try clear hcz7_1
                try clear hcz7_2
                try clear hcz7_3
                try clear hcz7_4
                try clear hcz7_5
                try clear hcz9_0
                try clear hcz9_1
                try clear hcz9_2
                try clear hcz9_3
                try clear hcz9_4
                try clear hcz9_5
                try clear hfz11_0
                try clear hfz11_1
                try clear hfz11_2
                try clear hfz11_3
                try clear hfz11_4
                try clear hfz11_5
                try clear hfz7_0
                try clear hfz7_1
                try clear hfz7_2
                try clear hfz7_3
                try clear hfz7_4
                try clear hfz7_5
                try clear hfz9_0
                try clear hfz9_1
                try clear hfz9_2
                try clear hfz9_3
                try clear hfz9_4
                try clear hfz9_5
                try clear p2
                try clear p6
                obtain ⟨x3_3, x6_3, rfl, HA, HK3, HO_3, BK139, HB⟩ := hrel
                cases gk with
                | zero => exact absurd HA.out (by simp [withyref06_Words.l2])
                | succ k3 =>
                  have H := HA.out
                  clear HA
                  simp only [withyref06_Words.l2] at H
                  by_cases c12 : x6_3 < a0_3
                  · rw [if_pos c12] at H
                    have c12b0 : decide (x6_3 < a0_3) = true := decide_eq_true c12
                    clear c12
                    by_cases c13 : x3_3.length < 4398046511104
                    · rw [if_pos c13] at H
                      have LMc13 := Aside0.mk c13
                      clear c13
                      obtain ⟨y146, hy146⟩ : ∃ y_ : List (S91), y_ = (x3_3 ++ [(⟨(⟨#[101, 110, 116, 114, 121]⟩ : ByteArray), x5_2, x6_3⟩ : S91)]) := ⟨_, rfl⟩
                      replace H : (withyref06_Words.l2 k3 y146 x5_2 (wrap64 (x6_3 + 1)) a0_0 a0_1 a0_2 a0_3 a0_4 a0_5) = some r := by first | (rw [hy146]; with_reducible exact H) | (have H2_ := (Option.bind_some _ _).symm.trans H; rw [hy146]; with_reducible exact H2_) | (have H2_ := (Option.bind_some _ _).symm.trans H; with_reducible exact H2_) | with_reducible exact H | (rw [hy146]; exact H) | exact H
                      have Ny146 := Aside0.mk hy146
                      clear hy146
                      have H' := Aside0.mk H
                      clear H
                      have hcz14_0 : wr.cell? ⟨gb139, 0, none⟩ = some (.int .i64 a0_0) := (blk_cell BK139.out 0).trans rfl
                      have hcz14_1 : wr.cell? ⟨gb139, 1, none⟩ = some (.int .i64 a0_1) := (blk_cell BK139.out 1).trans rfl
                      have hcz14_2 : wr.cell? ⟨gb139, 2, none⟩ = some (.int .i64 a0_2) := (blk_cell BK139.out 2).trans rfl
                      have hcz14_3 : wr.cell? ⟨gb139, 3, none⟩ = some (.int .i64 a0_3) := (blk_cell BK139.out 3).trans rfl
                      have hcz14_4 : wr.cell? ⟨gb139, 4, none⟩ = some (.int .i64 a0_4) := (blk_cell BK139.out 4).trans rfl
                      have hcz14_5 : wr.cell? ⟨gb139, 5, none⟩ = some (.int .i64 a0_5) := (blk_cell BK139.out 5).trans rfl
                      have hfz14_0 := blk_frozen BK139.out 0
                      have hfz14_1 := blk_frozen BK139.out 1
                      have hfz14_2 := blk_frozen BK139.out 2
                      have hfz14_3 := blk_frozen BK139.out 3
                      have hfz14_4 := blk_frozen BK139.out 4
                      have hfz14_5 := blk_frozen BK139.out 5
                      go_wp2_with (first | ((with_reducible refine gate_builtin (b := .append) (xs := #[.tmp 38, .tmp 42]) rfl ?_); at_builtin; refine Kd.R_append k91 (w0 := w) w.heap.size rfl (.tmp 38) (.tmp 42) 114 91 (.agg #[(.string ⟨#[]⟩), (.int .i64 0), (.int .i64 0)]) 32 rfl Try.underlying114 info91 rfl (by decide) (by omega) u3 x3_3 (⟨(⟨#[101, 110, 116, 114, 121]⟩ : ByteArray), x5_2, x6_3⟩ : S91) [.string (⟨#[101, 110, 116, 114, 121]⟩ : ByteArray), .int .i64 x5_2, .int .i64 x6_3] (fun _ => True) (fun _ => False) rfl rfl ?aP (fun _ hk => hk.elim) ?aF ?aO ?aB ?aS ?aL ?_; (case aP => exact k91_mkM _ _ _ (⟨(⟨#[101, 110, 116, 114, 121]⟩ : ByteArray), x5_2, x6_3⟩ : S91)); (case aB => exact (by repeat (first | (with_reducible first | exact HB.out | apply below_alloc | apply pw_below_drewN | apply below_drew1 | refine below_set ?_ GE139.out) | exact HB.out))); (case aF => exact (fun _ _ => trivial)); (case aO => exact (by (with_reducible repeat (first | apply Kd.R_alloc | apply Kd.R_drewN | apply Kd.R_drew)); exact HO_3.out)); (case aS => exact (below_size (by repeat (first | (with_reducible first | exact HB.out | apply below_alloc | apply pw_below_drewN | apply below_drew1 | refine below_set ?_ GE139.out) | exact HB.out)))); (case aL => have := LMc13.out; omega); intro v147 w15 ho hb hg hat; rw [← Ny146.out] at ho; have n0_ := Aside0.mk (blk_grown (g := gb139) (o := .cells #[.int .i64 a0_0, .int .i64 a0_1, .int .i64 a0_2, .int .i64 a0_3, .int .i64 a0_4, .int .i64 a0_5] 23 (0, 0)) (by (with_reducible repeat (first | refine blk_drewN ?_ _ | refine blk_drew ?_ | refine blk_alloc ?_ _)); exact BK139.out) hg (Kd.R_ne HO_3.out BK139.out (by decide))); have n1_ := Aside0.mk (hb); have n2_ := Aside0.mk (ho); clear BK139; clear HB; clear HO_3; have BK139 := n0_; have HB := n1_; have HO148 := n2_; clear n0_ n1_ n2_; clear ho hb hg hat))
                      go_roundg k3
                      case measure => have := HK1.out; have := HK2.out; have := HK3.out; omega
                      case rel => exact ⟨(y146), (wrap64 (x6_3 + 1)), (by first | rfl | (simp; done) | (simp [*]; done)), H', ⟨by have := HK1.out; have := HK2.out; have := HK3.out; omega⟩, ⟨by (with_reducible repeat (first | apply Kd.R_alloc | apply Kd.R_drewN | apply Kd.R_drew)); exact HO148.out⟩, ⟨by (with_reducible repeat (first | refine blk_drewN ?_ _ | refine blk_drew ?_ | refine blk_alloc ?_ _)); exact BK139.out⟩, ⟨by repeat (first | (with_reducible first | exact HB.out | apply below_alloc | apply pw_below_drewN | apply below_drew1 | refine below_set ?_ GE139.out) | exact HB.out)⟩⟩
                    · rw [if_neg c13] at H
                      exact absurd H (by simp)
                  · rw [if_neg c12] at H
                    have c12b0 : decide (x6_3 < a0_3) = false := decide_eq_false c12
                    clear c12
                    have H' := Aside0.mk H
                    clear H
                    have hcz16_0 : wr.cell? ⟨gb139, 0, none⟩ = some (.int .i64 a0_0) := (blk_cell BK139.out 0).trans rfl
                    have hcz16_1 : wr.cell? ⟨gb139, 1, none⟩ = some (.int .i64 a0_1) := (blk_cell BK139.out 1).trans rfl
                    have hcz16_2 : wr.cell? ⟨gb139, 2, none⟩ = some (.int .i64 a0_2) := (blk_cell BK139.out 2).trans rfl
                    have hcz16_3 : wr.cell? ⟨gb139, 3, none⟩ = some (.int .i64 a0_3) := (blk_cell BK139.out 3).trans rfl
                    have hcz16_4 : wr.cell? ⟨gb139, 4, none⟩ = some (.int .i64 a0_4) := (blk_cell BK139.out 4).trans rfl
                    have hcz16_5 : wr.cell? ⟨gb139, 5, none⟩ = some (.int .i64 a0_5) := (blk_cell BK139.out 5).trans rfl
                    have hfz16_0 := blk_frozen BK139.out 0
                    have hfz16_1 := blk_frozen BK139.out 1
                    have hfz16_2 := blk_frozen BK139.out 2
                    have hfz16_3 := blk_frozen BK139.out 3
                    have hfz16_4 := blk_frozen BK139.out 4
                    have hfz16_5 := blk_frozen BK139.out 5
                    go_wp2
                    go_roundg k3
                    case measure => have := HK1.out; have := HK2.out; have := HK3.out; omega
                    case rel => exact ⟨(x3_3), (wrap64 (x5_2 + 1)), (by first | rfl | (simp; done) | (simp [*]; done)), H', ⟨by have := HK1.out; have := HK2.out; have := HK3.out; omega⟩, ⟨by (with_reducible repeat (first | apply Kd.R_alloc | apply Kd.R_drewN | apply Kd.R_drew)); exact HO_3.out⟩, ⟨by (with_reducible repeat (first | refine blk_drewN ?_ _ | refine blk_drew ?_ | refine blk_alloc ?_ _)); exact BK139.out⟩, ⟨by repeat (first | (with_reducible first | exact HB.out | apply below_alloc | apply pw_below_drewN | apply below_drew1 | refine below_set ?_ GE139.out) | exact HB.out)⟩⟩
            · rw [if_neg c10] at H
              have c10b0 : decide (x5_2 < a0_2) = false := decide_eq_false c10
              clear c10
              have H' := Aside0.mk H
              clear H
              have hcz17_0 : wr.cell? ⟨gb139, 0, none⟩ = some (.int .i64 a0_0) := (blk_cell BK139.out 0).trans rfl
              have hcz17_1 : wr.cell? ⟨gb139, 1, none⟩ = some (.int .i64 a0_1) := (blk_cell BK139.out 1).trans rfl
              have hcz17_2 : wr.cell? ⟨gb139, 2, none⟩ = some (.int .i64 a0_2) := (blk_cell BK139.out 2).trans rfl
              have hcz17_3 : wr.cell? ⟨gb139, 3, none⟩ = some (.int .i64 a0_3) := (blk_cell BK139.out 3).trans rfl
              have hcz17_4 : wr.cell? ⟨gb139, 4, none⟩ = some (.int .i64 a0_4) := (blk_cell BK139.out 4).trans rfl
              have hcz17_5 : wr.cell? ⟨gb139, 5, none⟩ = some (.int .i64 a0_5) := (blk_cell BK139.out 5).trans rfl
              have hfz17_0 := blk_frozen BK139.out 0
              have hfz17_1 := blk_frozen BK139.out 1
              have hfz17_2 := blk_frozen BK139.out 2
              have hfz17_3 := blk_frozen BK139.out 3
              have hfz17_4 := blk_frozen BK139.out 4
              have hfz17_5 := blk_frozen BK139.out 5
              go_wp2
              go_loopg [3, 7] k2 (fun kq v3 v7 w' => ∃ (x3_3 : List (S91)) (x7_3 : Int), v7 = .int .i64 x7_3 ∧ Aside0 (withyref06_Words.l3 kq x3_3 x7_3 a0_0 a0_1 a0_2 a0_3 a0_4 a0_5 = some r) ∧ Aside0 (kq ≤ k2) ∧ Aside0 (Kd.R k91 91 w' w.heap.size (fun _ => True) v3 x3_3) ∧ Aside0 (w'.heap[gb139]? = some (.cells #[.int .i64 a0_0, .int .i64 a0_1, .int .i64 a0_2, .int .i64 a0_3, .int .i64 a0_4, .int .i64 a0_5] 23 (0, 0))) ∧ Aside0 (Below w.heap.size w w'))
              case atStart => exact ⟨(x3_2), (0), (by first | rfl | (simp; done) | (simp [*]; done)), H', ⟨Nat.le_refl _⟩, ⟨by (with_reducible repeat (first | apply Kd.R_alloc | apply Kd.R_drewN | apply Kd.R_drew)); exact HO_3.out⟩, ⟨by (with_reducible repeat (first | refine blk_drewN ?_ _ | refine blk_drew ?_ | refine blk_alloc ?_ _)); exact BK139.out⟩, ⟨by repeat (first | (with_reducible first | exact HB.out | apply below_alloc | apply pw_below_drewN | apply below_drew1 | refine below_set ?_ GE139.out) | exact HB.out)⟩⟩
              case round =>
                clear H'
                try clear c1
                try clear p2
                try clear c3
                try clear c5
                try clear c5b0
                try clear c6
                try clear p6
                try clear c10
                try clear c10b0
                try clear c12
                try clear c12b0
                try clear c13
                try clear hcz11_0
                try clear hcz11_1
                try clear hcz11_2
                try clear hcz11_3
                try clear hcz11_4
                try clear hcz11_5
                try clear hcz14_0
                try clear hcz14_1
                try clear hcz14_2
                try clear hcz14_3
                try clear hcz14_4
                try clear hcz14_5
                try clear hcz16_0
                try clear hcz16_1
                try clear hcz16_2
                try clear hcz16_3
                try clear hcz16_4
                try clear hcz16_5
                try clear hcz17_0
                try clear hcz17_1
                try clear hcz17_2
                try clear hcz17_3
                try clear hcz17_4
                try clear hcz17_5
                try clear hcz7_0
                try clear hcz7_1
                try clear hcz7_2
                try clear hcz7_3
                try clear hcz7_4
                try clear hcz7_5
                try clear hcz9_0
                try clear hcz9_1
                try clear hcz9_2
                try clear hcz9_3
                try clear hcz9_4
                try clear hcz9_5
                try clear hfz11_0
                try clear hfz11_1
                try clear hfz11_2
                try clear hfz11_3
                try clear hfz11_4
                try clear hfz11_5
                try clear hfz14_0
                try clear hfz14_1
                try clear hfz14_2
                try clear hfz14_3
                try clear hfz14_4
                try clear hfz14_5
                try clear hfz16_0
                try clear hfz16_1
                try clear hfz16_2
                try clear hfz16_3
                try clear hfz16_4
                try clear hfz16_5
                try clear hfz17_0
                try clear hfz17_1
                try clear hfz17_2
                try clear hfz17_3
                try clear hfz17_4
                try clear hfz17_5
                try clear hfz7_0
                try clear hfz7_1
                try clear hfz7_2
                try clear hfz7_3
                try clear hfz7_4
                try clear hfz7_5
                try clear hfz9_0
                try clear hfz9_1
                try clear hfz9_2
                try clear hfz9_3
                try clear hfz9_4
                try clear hfz9_5
                try clear p2
                try clear p6
                obtain ⟨x3_3, x7_3, rfl, HA, HK3, HO_3, BK139, HB⟩ := hrel
                cases gk with
                | zero => exact absurd HA.out (by simp [withyref06_Words.l3])
                | succ k3 =>
                  have H := HA.out
                  clear HA
                  simp only [withyref06_Words.l3] at H
                  by_cases c18 : x7_3 < a0_2
                  · rw [if_pos c18] at H
                    have c18b0 : decide (x7_3 < a0_2) = true := decide_eq_true c18
                    clear c18
                    obtain ⟨y149, hy149⟩ : ∃ y_ : List (S91), y_ = (([(⟨(⟨#[118, 105, 101, 119]⟩ : ByteArray), x7_3, 0⟩ : S91), (⟨(⟨#[115, 116, 97, 114, 116]⟩ : ByteArray), x7_3, 0⟩ : S91)] : List (S91))) := ⟨_, rfl⟩
                    replace H : (if x3_3.length + y149.length < 4398046511104 then (withyref06_Words.l3 k3 (x3_3 ++ y149) (wrap64 (x7_3 + 1)) a0_0 a0_1 a0_2 a0_3 a0_4 a0_5) else (none)) = some r := by first | (rw [hy149]; with_reducible exact H) | (have H2_ := (Option.bind_some _ _).symm.trans H; rw [hy149]; with_reducible exact H2_) | (have H2_ := (Option.bind_some _ _).symm.trans H; with_reducible exact H2_) | with_reducible exact H | (rw [hy149]; exact H) | exact H
                    have Ny149 := Aside0.mk hy149
                    clear hy149
                    by_cases c19 : x3_3.length + y149.length < 4398046511104
                    · rw [if_pos c19] at H
                      have LMc19 := Aside0.mk c19
                      clear c19
                      obtain ⟨y152, hy152⟩ : ∃ y_ : List (S91), y_ = (x3_3 ++ y149) := ⟨_, rfl⟩
                      replace H : (withyref06_Words.l3 k3 y152 (wrap64 (x7_3 + 1)) a0_0 a0_1 a0_2 a0_3 a0_4 a0_5) = some r := by first | (rw [hy152]; with_reducible exact H) | (have H2_ := (Option.bind_some _ _).symm.trans H; rw [hy152]; with_reducible exact H2_) | (have H2_ := (Option.bind_some _ _).symm.trans H; with_reducible exact H2_) | with_reducible exact H | (rw [hy152]; exact H) | exact H
                      have Ny152 := Aside0.mk hy152
                      clear hy152
                      have H' := Aside0.mk H
                      clear H
                      have hcz20_0 : wr.cell? ⟨gb139, 0, none⟩ = some (.int .i64 a0_0) := (blk_cell BK139.out 0).trans rfl
                      have hcz20_1 : wr.cell? ⟨gb139, 1, none⟩ = some (.int .i64 a0_1) := (blk_cell BK139.out 1).trans rfl
                      have hcz20_2 : wr.cell? ⟨gb139, 2, none⟩ = some (.int .i64 a0_2) := (blk_cell BK139.out 2).trans rfl
                      have hcz20_3 : wr.cell? ⟨gb139, 3, none⟩ = some (.int .i64 a0_3) := (blk_cell BK139.out 3).trans rfl
                      have hcz20_4 : wr.cell? ⟨gb139, 4, none⟩ = some (.int .i64 a0_4) := (blk_cell BK139.out 4).trans rfl
                      have hcz20_5 : wr.cell? ⟨gb139, 5, none⟩ = some (.int .i64 a0_5) := (blk_cell BK139.out 5).trans rfl
                      have hfz20_0 := blk_frozen BK139.out 0
                      have hfz20_1 := blk_frozen BK139.out 1
                      have hfz20_2 := blk_frozen BK139.out 2
                      have hfz20_3 := blk_frozen BK139.out 3
                      have hfz20_4 := blk_frozen BK139.out 4
                      have hfz20_5 := blk_frozen BK139.out 5
                      go_wp2_with (first | ((with_reducible refine gate_dst (N := 55) rfl ?_); refine Kd.R_lit k91 _ 91 ?hg (N := 55) ?hd (xs := ([(⟨(⟨#[118, 105, 101, 119]⟩ : ByteArray), x7_3, 0⟩ : S91), (⟨(⟨#[115, 116, 97, 114, 116]⟩ : ByteArray), x7_3, 0⟩ : S91)] : List (S91))) (inner := [.string (⟨#[118, 105, 101, 119]⟩ : ByteArray), .int .i64 x7_3, .int .i64 0, .string (⟨#[115, 116, 97, 114, 116]⟩ : ByteArray), .int .i64 x7_3, .int .i64 0]) (ok := fun _ => True) (okp := fun _ => True) ?hr ?hp (fun _ hk => hk) trivial (Below.refl _ _) (Nat.le_refl _) (by simp) ?_; (case hd => rfl); (case hg => rfl); (case hr => first | (go_simp; done) | (go_simp; rfl)); (case hp => exact (Reps.c3 (show Kd.M k91 _ _ _ (⟨(⟨#[118, 105, 101, 119]⟩ : ByteArray), x7_3, 0⟩ : S91) [.string (⟨#[118, 105, 101, 119]⟩ : ByteArray), .int .i64 x7_3, .int .i64 0] from (k91_mkM _ _ _ (⟨(⟨#[118, 105, 101, 119]⟩ : ByteArray), x7_3, 0⟩ : S91) )) (Reps.c3 (show Kd.M k91 _ _ _ (⟨(⟨#[115, 116, 97, 114, 116]⟩ : ByteArray), x7_3, 0⟩ : S91) [.string (⟨#[115, 116, 97, 114, 116]⟩ : ByteArray), .int .i64 x7_3, .int .i64 0] from (k91_mkM _ _ _ (⟨(⟨#[115, 116, 97, 114, 116]⟩ : ByteArray), x7_3, 0⟩ : S91) )) (Reps.none _ _)))); intro v150 w21 ho22 hb hg_ hnew_; clear hg_ hnew_; (first | rw [← Ny149.out] at ho22 | (simp only [Int.reduceToNat] at ho22; rw [← Ny149.out] at ho22)); have n0_ := Aside0.mk (Kd.R_elder' (by (with_reducible repeat (first | apply Kd.R_alloc | apply Kd.R_drewN | apply Kd.R_drew)); exact HO_3.out) (Kd.R_base ho22) hb); have n1_ := Aside0.mk (Kd.R_lower (Kd.R_new' ho22 (Kd.R_lt (by (with_reducible repeat (first | apply Kd.R_alloc | apply Kd.R_drewN | apply Kd.R_drew)); exact HO_3.out))) (below_size (by repeat (first | (with_reducible first | exact HB.out | apply below_alloc | apply pw_below_drewN | apply below_drew1 | refine below_set ?_ GE139.out) | exact HB.out)))); have n2_ := Aside0.mk (blk_below (g := gb139) (o := .cells #[.int .i64 a0_0, .int .i64 a0_1, .int .i64 a0_2, .int .i64 a0_3, .int .i64 a0_4, .int .i64 a0_5] 23 (0, 0)) (by (with_reducible repeat (first | refine blk_drewN ?_ _ | refine blk_drew ?_ | refine blk_alloc ?_ _)); exact BK139.out) hb); have n3_ := Aside0.mk (below_step (by repeat (first | (with_reducible first | exact HB.out | apply below_alloc | apply pw_below_drewN | apply below_drew1 | refine below_set ?_ GE139.out) | exact HB.out)) hb); clear HO_3; clear BK139; clear HB; have HO_3 := n0_; have HO151 := n1_; have BK139 := n2_; have HB := n3_; clear n0_ n1_ n2_ n3_; clear hb ho22; obtain ⟨Ao24, co24, eo24⟩ := Kd.R_slice HO151.out; subst eo24) | ((with_reducible refine gate_builtin (b := .append) (xs := #[.tmp 50, .tmp 55]) rfl ?_); at_builtin; refine Kd.R_append_rows k91 (w0 := w) w.heap.size rfl (.tmp 50) (.tmp 55) 114 91 (.agg #[(.string ⟨#[]⟩), (.int .i64 0), (.int .i64 0)]) 32 rfl Try.underlying114 info91 rfl (by decide) (by omega) u3 x3_3 y149 _ _ _ (fun k_ => some k_ ≠ (.slice Ao24 y149.length co24 : Value).ownBlock) (fun _ => False) rfl rfl ?aO ?aR (fun _ _ h => h) (fun _ h => h.elim) ?aF ?aB ?aS ?aL ?_; (case aR => repeat (first | exact (Kd.R_reads' HO151.out).2.2 | (with_reducible refine Kd.C_alloc ?_ _) | (with_reducible refine Kd.C_drewN ?_ _) | (with_reducible refine Kd.C_drew ?_))); (case aB => exact (by repeat (first | (with_reducible first | exact HB.out | apply below_alloc | apply pw_below_drewN | apply below_drew1 | refine below_set ?_ GE139.out) | exact HB.out))); (case aF => exact (fun k_ hk => Kd.fresh' (Kd.R_lt (by (with_reducible repeat (first | apply Kd.R_alloc | apply Kd.R_drewN | apply Kd.R_drew)); exact HO151.out)) k_ hk)); (case aO => exact (by (with_reducible repeat (first | apply Kd.R_alloc | apply Kd.R_drewN | apply Kd.R_drew)); exact Kd.R_mono HO_3.out (fun _ hk => hk.2))); (case aS => exact (below_size (by repeat (first | (with_reducible first | exact HB.out | apply below_alloc | apply pw_below_drewN | apply below_drew1 | refine below_set ?_ GE139.out) | exact HB.out)))); (case aL => have := LMc19.out; omega); intro v153 w23 ho hb hg hat; rw [← Ny152.out] at ho; have n0_ := Aside0.mk (blk_grown (g := gb139) (o := .cells #[.int .i64 a0_0, .int .i64 a0_1, .int .i64 a0_2, .int .i64 a0_3, .int .i64 a0_4, .int .i64 a0_5] 23 (0, 0)) (by (with_reducible repeat (first | refine blk_drewN ?_ _ | refine blk_drew ?_ | refine blk_alloc ?_ _)); exact BK139.out) hg (Kd.R_ne HO_3.out BK139.out (by decide))); have n1_ := Aside0.mk (Kd.R_after (ok := (fun _ => True)) (by (with_reducible repeat (first | apply Kd.R_alloc | apply Kd.R_drewN | apply Kd.R_drew)); exact HO151.out) hg hat); have n2_ := Aside0.mk (hb); have n3_ := Aside0.mk (ho); clear BK139; clear HO151; clear HB; clear HO_3; have BK139 := n0_; have HO151 := n1_; have HB := n2_; have HO154 := n3_; clear n0_ n1_ n2_ n3_; clear ho hb hg hat))
                      go_roundg k3
                      case measure => have := HK1.out; have := HK2.out; have := HK3.out; omega
                      case rel => exact ⟨(y152), (wrap64 (x7_3 + 1)), (by first | rfl | (simp; done) | (simp [*]; done)), H', ⟨by have := HK1.out; have := HK2.out; have := HK3.out; omega⟩, ⟨by (with_reducible repeat (first | apply Kd.R_alloc | apply Kd.R_drewN | apply Kd.R_drew)); exact Kd.R_mono HO154.out (fun _ hk => trivial)⟩, ⟨by (with_reducible repeat (first | refine blk_drewN ?_ _ | refine blk_drew ?_ | refine blk_alloc ?_ _)); exact BK139.out⟩, ⟨by repeat (first | (with_reducible first | exact HB.out | apply below_alloc | apply pw_below_drewN | apply below_drew1 | refine below_set ?_ GE139.out) | exact HB.out)⟩⟩
                    · rw [if_neg c19] at H
                      exact absurd H (by simp)
                  · rw [if_neg c18] at H
                    have c18b0 : decide (x7_3 < a0_2) = false := decide_eq_false c18
                    clear c18
                    have H' := Aside0.mk H
                    clear H
                    have hcz25_0 : wr.cell? ⟨gb139, 0, none⟩ = some (.int .i64 a0_0) := (blk_cell BK139.out 0).trans rfl
                    have hcz25_1 : wr.cell? ⟨gb139, 1, none⟩ = some (.int .i64 a0_1) := (blk_cell BK139.out 1).trans rfl
                    have hcz25_2 : wr.cell? ⟨gb139, 2, none⟩ = some (.int .i64 a0_2) := (blk_cell BK139.out 2).trans rfl
                    have hcz25_3 : wr.cell? ⟨gb139, 3, none⟩ = some (.int .i64 a0_3) := (blk_cell BK139.out 3).trans rfl
                    have hcz25_4 : wr.cell? ⟨gb139, 4, none⟩ = some (.int .i64 a0_4) := (blk_cell BK139.out 4).trans rfl
                    have hcz25_5 : wr.cell? ⟨gb139, 5, none⟩ = some (.int .i64 a0_5) := (blk_cell BK139.out 5).trans rfl
                    have hfz25_0 := blk_frozen BK139.out 0
                    have hfz25_1 := blk_frozen BK139.out 1
                    have hfz25_2 := blk_frozen BK139.out 2
                    have hfz25_3 := blk_frozen BK139.out 3
                    have hfz25_4 := blk_frozen BK139.out 4
                    have hfz25_5 := blk_frozen BK139.out 5
                    go_wp2
                    go_loopg [3, 8] k3 (fun kq v3 v8 w' => ∃ (x3_4 : List (S91)) (x8_4 : Int), v8 = .int .i64 x8_4 ∧ Aside0 (withyref06_Words.l4 kq x3_4 x8_4 a0_0 a0_1 a0_2 a0_3 a0_4 a0_5 = some r) ∧ Aside0 (kq ≤ k3) ∧ Aside0 (Kd.R k91 91 w' w.heap.size (fun _ => True) v3 x3_4) ∧ Aside0 (w'.heap[gb139]? = some (.cells #[.int .i64 a0_0, .int .i64 a0_1, .int .i64 a0_2, .int .i64 a0_3, .int .i64 a0_4, .int .i64 a0_5] 23 (0, 0))) ∧ Aside0 (Below w.heap.size w w'))
                    case atStart => exact ⟨(x3_3), (0), (by first | rfl | (simp; done) | (simp [*]; done)), H', ⟨Nat.le_refl _⟩, ⟨by (with_reducible repeat (first | apply Kd.R_alloc | apply Kd.R_drewN | apply Kd.R_drew)); exact HO_3.out⟩, ⟨by (with_reducible repeat (first | refine blk_drewN ?_ _ | refine blk_drew ?_ | refine blk_alloc ?_ _)); exact BK139.out⟩, ⟨by repeat (first | (with_reducible first | exact HB.out | apply below_alloc | apply pw_below_drewN | apply below_drew1 | refine below_set ?_ GE139.out) | exact HB.out)⟩⟩
                    case round =>
                      clear H'
                      try clear c1
                      try clear p2
                      try clear c3
                      try clear c5
                      try clear c5b0
                      try clear c6
                      try clear p6
                      try clear c10
                      try clear c10b0
                      try clear c12
                      try clear c12b0
                      try clear c13
                      try clear c18
                      try clear c18b0
                      try clear c19
                      try clear hcz11_0
                      try clear hcz11_1
                      try clear hcz11_2
                      try clear hcz11_3
                      try clear hcz11_4
                      try clear hcz11_5
                      try clear hcz14_0
                      try clear hcz14_1
                      try clear hcz14_2
                      try clear hcz14_3
                      try clear hcz14_4
                      try clear hcz14_5
                      try clear hcz16_0
                      try clear hcz16_1
                      try clear hcz16_2
                      try clear hcz16_3
                      try clear hcz16_4
                      try clear hcz16_5
                      try clear hcz17_0
                      try clear hcz17_1
                      try clear hcz17_2
                      try clear hcz17_3
                      try clear hcz17_4
                      try clear hcz17_5
                      try clear hcz20_0
                      try clear hcz20_1
                      try clear hcz20_2
                      try clear hcz20_3
                      try clear hcz20_4
                      try clear hcz20_5
                      try clear hcz25_0
                      try clear hcz25_1
                      try clear hcz25_2
                      try clear hcz25_3
                      try clear hcz25_4
                      try clear hcz25_5
                      try clear hcz7_0
                      try clear hcz7_1
                      try clear hcz7_2
                      try clear hcz7_3
                      try clear hcz7_4
                      try clear hcz7_5
                      try clear hcz9_0
                      try clear hcz9_1
                      try clear hcz9_2
                      try clear hcz9_3
                      try clear hcz9_4
                      try clear hcz9_5
                      try clear hfz11_0
                      try clear hfz11_1
                      try clear hfz11_2
                      try clear hfz11_3
                      try clear hfz11_4
                      try clear hfz11_5
                      try clear hfz14_0
                      try clear hfz14_1
                      try clear hfz14_2
                      try clear hfz14_3
                      try clear hfz14_4
                      try clear hfz14_5
                      try clear hfz16_0
                      try clear hfz16_1
                      try clear hfz16_2
                      try clear hfz16_3
                      try clear hfz16_4
                      try clear hfz16_5
                      try clear hfz17_0
                      try clear hfz17_1
                      try clear hfz17_2
                      try clear hfz17_3
                      try clear hfz17_4
                      try clear hfz17_5
                      try clear hfz20_0
                      try clear hfz20_1
                      try clear hfz20_2
                      try clear hfz20_3
                      try clear hfz20_4
                      try clear hfz20_5
                      try clear hfz25_0
                      try clear hfz25_1
                      try clear hfz25_2
                      try clear hfz25_3
                      try clear hfz25_4
                      try clear hfz25_5
                      try clear hfz7_0
                      try clear hfz7_1
                      try clear hfz7_2
                      try clear hfz7_3
                      try clear hfz7_4
                      try clear hfz7_5
                      try clear hfz9_0
                      try clear hfz9_1
                      try clear hfz9_2
                      try clear hfz9_3
                      try clear hfz9_4
                      try clear hfz9_5
                      try clear p2
                      try clear p6
                      obtain ⟨x3_4, x8_4, rfl, HA, HK4, HO_3, BK139, HB⟩ := hrel
                      cases gk with
                      | zero => exact absurd HA.out (by simp [withyref06_Words.l4])
                      | succ k4 =>
                        have H := HA.out
                        clear HA
                        simp only [withyref06_Words.l4] at H
                        by_cases c26 : x8_4 < a0_0
                        · rw [if_pos c26] at H
                          have c26b0 : decide (x8_4 < a0_0) = true := decide_eq_true c26
                          clear c26
                          obtain ⟨y155, hy155⟩ : ∃ y_ : List (S91), y_ = (([(⟨(⟨#[104, 101, 97, 100, 101, 114]⟩ : ByteArray), x8_4, 0⟩ : S91), (⟨(⟨#[108, 105, 110, 107]⟩ : ByteArray), x8_4, 0⟩ : S91)] : List (S91))) := ⟨_, rfl⟩
                          replace H : (if x3_4.length + y155.length < 4398046511104 then (withyref06_Words.l5 k4 (x3_4 ++ y155) x8_4 0 a0_0 a0_1 a0_2 a0_3 a0_4 a0_5) else (none)) = some r := by first | (rw [hy155]; with_reducible exact H) | (have H2_ := (Option.bind_some _ _).symm.trans H; rw [hy155]; with_reducible exact H2_) | (have H2_ := (Option.bind_some _ _).symm.trans H; with_reducible exact H2_) | with_reducible exact H | (rw [hy155]; exact H) | exact H
                          have Ny155 := Aside0.mk hy155
                          clear hy155
                          by_cases c27 : x3_4.length + y155.length < 4398046511104
                          · rw [if_pos c27] at H
                            have LMc27 := Aside0.mk c27
                            clear c27
                            obtain ⟨y158, hy158⟩ : ∃ y_ : List (S91), y_ = (x3_4 ++ y155) := ⟨_, rfl⟩
                            replace H : (withyref06_Words.l5 k4 y158 x8_4 0 a0_0 a0_1 a0_2 a0_3 a0_4 a0_5) = some r := by first | (rw [hy158]; with_reducible exact H) | (have H2_ := (Option.bind_some _ _).symm.trans H; rw [hy158]; with_reducible exact H2_) | (have H2_ := (Option.bind_some _ _).symm.trans H; with_reducible exact H2_) | with_reducible exact H | (rw [hy158]; exact H) | exact H
                            have Ny158 := Aside0.mk hy158
                            clear hy158
                            have H' := Aside0.mk H
                            clear H
                            have hcz28_0 : wr.cell? ⟨gb139, 0, none⟩ = some (.int .i64 a0_0) := (blk_cell BK139.out 0).trans rfl
                            have hcz28_1 : wr.cell? ⟨gb139, 1, none⟩ = some (.int .i64 a0_1) := (blk_cell BK139.out 1).trans rfl
                            have hcz28_2 : wr.cell? ⟨gb139, 2, none⟩ = some (.int .i64 a0_2) := (blk_cell BK139.out 2).trans rfl
                            have hcz28_3 : wr.cell? ⟨gb139, 3, none⟩ = some (.int .i64 a0_3) := (blk_cell BK139.out 3).trans rfl
                            have hcz28_4 : wr.cell? ⟨gb139, 4, none⟩ = some (.int .i64 a0_4) := (blk_cell BK139.out 4).trans rfl
                            have hcz28_5 : wr.cell? ⟨gb139, 5, none⟩ = some (.int .i64 a0_5) := (blk_cell BK139.out 5).trans rfl
                            have hfz28_0 := blk_frozen BK139.out 0
                            have hfz28_1 := blk_frozen BK139.out 1
                            have hfz28_2 := blk_frozen BK139.out 2
                            have hfz28_3 := blk_frozen BK139.out 3
                            have hfz28_4 := blk_frozen BK139.out 4
                            have hfz28_5 := blk_frozen BK139.out 5
                            go_wp2_with (first | ((with_reducible refine gate_dst (N := 68) rfl ?_); refine Kd.R_lit k91 _ 91 ?hg (N := 68) ?hd (xs := ([(⟨(⟨#[104, 101, 97, 100, 101, 114]⟩ : ByteArray), x8_4, 0⟩ : S91), (⟨(⟨#[108, 105, 110, 107]⟩ : ByteArray), x8_4, 0⟩ : S91)] : List (S91))) (inner := [.string (⟨#[104, 101, 97, 100, 101, 114]⟩ : ByteArray), .int .i64 x8_4, .int .i64 0, .string (⟨#[108, 105, 110, 107]⟩ : ByteArray), .int .i64 x8_4, .int .i64 0]) (ok := fun _ => True) (okp := fun _ => True) ?hr ?hp (fun _ hk => hk) trivial (Below.refl _ _) (Nat.le_refl _) (by simp) ?_; (case hd => rfl); (case hg => rfl); (case hr => first | (go_simp; done) | (go_simp; rfl)); (case hp => exact (Reps.c3 (show Kd.M k91 _ _ _ (⟨(⟨#[104, 101, 97, 100, 101, 114]⟩ : ByteArray), x8_4, 0⟩ : S91) [.string (⟨#[104, 101, 97, 100, 101, 114]⟩ : ByteArray), .int .i64 x8_4, .int .i64 0] from (k91_mkM _ _ _ (⟨(⟨#[104, 101, 97, 100, 101, 114]⟩ : ByteArray), x8_4, 0⟩ : S91) )) (Reps.c3 (show Kd.M k91 _ _ _ (⟨(⟨#[108, 105, 110, 107]⟩ : ByteArray), x8_4, 0⟩ : S91) [.string (⟨#[108, 105, 110, 107]⟩ : ByteArray), .int .i64 x8_4, .int .i64 0] from (k91_mkM _ _ _ (⟨(⟨#[108, 105, 110, 107]⟩ : ByteArray), x8_4, 0⟩ : S91) )) (Reps.none _ _)))); intro v156 w29 ho30 hb hg_ hnew_; clear hg_ hnew_; (first | rw [← Ny155.out] at ho30 | (simp only [Int.reduceToNat] at ho30; rw [← Ny155.out] at ho30)); have n0_ := Aside0.mk (Kd.R_elder' (by (with_reducible repeat (first | apply Kd.R_alloc | apply Kd.R_drewN | apply Kd.R_drew)); exact HO_3.out) (Kd.R_base ho30) hb); have n1_ := Aside0.mk (Kd.R_lower (Kd.R_new' ho30 (Kd.R_lt (by (with_reducible repeat (first | apply Kd.R_alloc | apply Kd.R_drewN | apply Kd.R_drew)); exact HO_3.out))) (below_size (by repeat (first | (with_reducible first | exact HB.out | apply below_alloc | apply pw_below_drewN | apply below_drew1 | refine below_set ?_ GE139.out) | exact HB.out)))); have n2_ := Aside0.mk (blk_below (g := gb139) (o := .cells #[.int .i64 a0_0, .int .i64 a0_1, .int .i64 a0_2, .int .i64 a0_3, .int .i64 a0_4, .int .i64 a0_5] 23 (0, 0)) (by (with_reducible repeat (first | refine blk_drewN ?_ _ | refine blk_drew ?_ | refine blk_alloc ?_ _)); exact BK139.out) hb); have n3_ := Aside0.mk (below_step (by repeat (first | (with_reducible first | exact HB.out | apply below_alloc | apply pw_below_drewN | apply below_drew1 | refine below_set ?_ GE139.out) | exact HB.out)) hb); clear HO_3; clear BK139; clear HB; have HO_3 := n0_; have HO157 := n1_; have BK139 := n2_; have HB := n3_; clear n0_ n1_ n2_ n3_; clear hb ho30; obtain ⟨Ao32, co32, eo32⟩ := Kd.R_slice HO157.out; subst eo32) | ((with_reducible refine gate_builtin (b := .append) (xs := #[.tmp 63, .tmp 68]) rfl ?_); at_builtin; refine Kd.R_append_rows k91 (w0 := w) w.heap.size rfl (.tmp 63) (.tmp 68) 114 91 (.agg #[(.string ⟨#[]⟩), (.int .i64 0), (.int .i64 0)]) 32 rfl Try.underlying114 info91 rfl (by decide) (by omega) u3 x3_4 y155 _ _ _ (fun k_ => some k_ ≠ (.slice Ao32 y155.length co32 : Value).ownBlock) (fun _ => False) rfl rfl ?aO ?aR (fun _ _ h => h) (fun _ h => h.elim) ?aF ?aB ?aS ?aL ?_; (case aR => repeat (first | exact (Kd.R_reads' HO157.out).2.2 | (with_reducible refine Kd.C_alloc ?_ _) | (with_reducible refine Kd.C_drewN ?_ _) | (with_reducible refine Kd.C_drew ?_))); (case aB => exact (by repeat (first | (with_reducible first | exact HB.out | apply below_alloc | apply pw_below_drewN | apply below_drew1 | refine below_set ?_ GE139.out) | exact HB.out))); (case aF => exact (fun k_ hk => Kd.fresh' (Kd.R_lt (by (with_reducible repeat (first | apply Kd.R_alloc | apply Kd.R_drewN | apply Kd.R_drew)); exact HO157.out)) k_ hk)); (case aO => exact (by (with_reducible repeat (first | apply Kd.R_alloc | apply Kd.R_drewN | apply Kd.R_drew)); exact Kd.R_mono HO_3.out (fun _ hk => hk.2))); (case aS => exact (below_size (by repeat (first | (with_reducible first | exact HB.out | apply below_alloc | apply pw_below_drewN | apply below_drew1 | refine below_set ?_ GE139.out) | exact HB.out)))); (case aL => have := LMc27.out; omega); intro v159 w31 ho hb hg hat; rw [← Ny158.out] at ho; have n0_ := Aside0.mk (blk_grown (g := gb139) (o := .cells #[.int .i64 a0_0, .int .i64 a0_1, .int .i64 a0_2, .int .i64 a0_3, .int .i64 a0_4, .int .i64 a0_5] 23 (0, 0)) (by (with_reducible repeat (first | refine blk_drewN ?_ _ | refine blk_drew ?_ | refine blk_alloc ?_ _)); exact BK139.out) hg (Kd.R_ne HO_3.out BK139.out (by decide))); have n1_ := Aside0.mk (Kd.R_after (ok := (fun _ => True)) (by (with_reducible repeat (first | apply Kd.R_alloc | apply Kd.R_drewN | apply Kd.R_drew)); exact HO157.out) hg hat); have n2_ := Aside0.mk (hb); have n3_ := Aside0.mk (ho); clear BK139; clear HO157; clear HB; clear HO_3; have BK139 := n0_; have HO157 := n1_; have HB := n2_; have HO160 := n3_; clear n0_ n1_ n2_ n3_; clear ho hb hg hat))
                            go_loopg [3, 9] k4 (fun kq v3 v9 w' => ∃ (x3_5 : List (S91)) (x9_5 : Int), v9 = .int .i64 x9_5 ∧ Aside0 (withyref06_Words.l5 kq x3_5 x8_4 x9_5 a0_0 a0_1 a0_2 a0_3 a0_4 a0_5 = some r) ∧ Aside0 (kq ≤ k4) ∧ Aside0 (Kd.R k91 91 w' w.heap.size (fun _ => True) v3 x3_5) ∧ Aside0 (w'.heap[gb139]? = some (.cells #[.int .i64 a0_0, .int .i64 a0_1, .int .i64 a0_2, .int .i64 a0_3, .int .i64 a0_4, .int .i64 a0_5] 23 (0, 0))) ∧ Aside0 (Below w.heap.size w w'))
                            case atStart => exact ⟨(y158), (0), (by first | rfl | (simp; done) | (simp [*]; done)), H', ⟨Nat.le_refl _⟩, ⟨by (with_reducible repeat (first | apply Kd.R_alloc | apply Kd.R_drewN | apply Kd.R_drew)); exact Kd.R_mono HO160.out (fun _ hk => trivial)⟩, ⟨by (with_reducible repeat (first | refine blk_drewN ?_ _ | refine blk_drew ?_ | refine blk_alloc ?_ _)); exact BK139.out⟩, ⟨by repeat (first | (with_reducible first | exact HB.out | apply below_alloc | apply pw_below_drewN | apply below_drew1 | refine below_set ?_ GE139.out) | exact HB.out)⟩⟩
                            case round =>
                              clear H'
                              try clear c1
                              try clear c2
                              try clear p2
                              try clear c3
                              try clear c5
                              try clear c5b0
                              try clear c6
                              try clear p6
                              try clear c10
                              try clear c10b0
                              try clear c12
                              try clear c12b0
                              try clear c13
                              try clear c18
                              try clear c18b0
                              try clear c19
                              try clear c26
                              try clear c26b0
                              try clear c27
                              try clear hcz11_0
                              try clear hcz11_1
                              try clear hcz11_2
                              try clear hcz11_3
                              try clear hcz11_4
                              try clear hcz11_5
                              try clear hcz14_0
                              try clear hcz14_1
                              try clear hcz14_2
                              try clear hcz14_3
                              try clear hcz14_4
                              try clear hcz14_5
                              try clear hcz16_0
                              try clear hcz16_1
                              try clear hcz16_2
                              try clear hcz16_3
                              try clear hcz16_4
                              try clear hcz16_5
                              try clear hcz17_0
                              try clear hcz17_1
                              try clear hcz17_2
                              try clear hcz17_3
                              try clear hcz17_4
                              try clear hcz17_5
                              try clear hcz20_0
                              try clear hcz20_1
                              try clear hcz20_2
                              try clear hcz20_3
                              try clear hcz20_4
                              try clear hcz20_5
                              try clear hcz25_0
                              try clear hcz25_1
                              try clear hcz25_2
                              try clear hcz25_3
                              try clear hcz25_4
                              try clear hcz25_5
                              try clear hcz28_0
                              try clear hcz28_1
                              try clear hcz28_2
                              try clear hcz28_3
                              try clear hcz28_4
                              try clear hcz28_5
                              try clear hcz7_0
                              try clear hcz7_1
                              try clear hcz7_2
                              try clear hcz7_3
                              try clear hcz7_4
                              try clear hcz7_5
                              try clear hcz9_0
                              try clear hcz9_1
                              try clear hcz9_2
                              try clear hcz9_3
                              try clear hcz9_4
                              try clear hcz9_5
                              try clear hfz11_0
                              try clear hfz11_1
                              try clear hfz11_2
                              try clear hfz11_3
                              try clear hfz11_4
                              try clear hfz11_5
                              try clear hfz14_0
                              try clear hfz14_1
                              try clear hfz14_2
                              try clear hfz14_3
                              try clear hfz14_4
                              try clear hfz14_5
                              try clear hfz16_0
                              try clear hfz16_1
                              try clear hfz16_2
                              try clear hfz16_3
                              try clear hfz16_4
                              try clear hfz16_5
                              try clear hfz17_0
                              try clear hfz17_1
                              try clear hfz17_2
                              try clear hfz17_3
                              try clear hfz17_4
                              try clear hfz17_5
                              try clear hfz20_0
                              try clear hfz20_1
                              try clear hfz20_2
                              try clear hfz20_3
                              try clear hfz20_4
                              try clear hfz20_5
                              try clear hfz25_0
                              try clear hfz25_1
                              try clear hfz25_2
                              try clear hfz25_3
                              try clear hfz25_4
                              try clear hfz25_5
                              try clear hfz28_0
                              try clear hfz28_1
                              try clear hfz28_2
                              try clear hfz28_3
                              try clear hfz28_4
                              try clear hfz28_5
                              try clear hfz7_0
                              try clear hfz7_1
                              try clear hfz7_2
                              try clear hfz7_3
                              try clear hfz7_4
                              try clear hfz7_5
                              try clear hfz9_0
                              try clear hfz9_1
                              try clear hfz9_2
                              try clear hfz9_3
                              try clear hfz9_4
                              try clear hfz9_5
                              try clear p2
                              try clear p6
                              obtain ⟨x3_5, x9_5, rfl, HA, HK5, HO_3, BK139, HB⟩ := hrel
                              cases gk with
                              | zero => exact absurd HA.out (by simp [withyref06_Words.l5])
                              | succ k5 =>
                                have H := HA.out
                                clear HA
                                simp only [withyref06_Words.l5] at H
                                replace H := Option.bind_eq_some_iff.mp H
                                obtain ⟨t161, A330, H⟩ := H
                                replace H : (if x9_5 < t161 then (if x3_5.length < 4398046511104 then (withyref06_Words.l5 k5 (x3_5 ++ [(⟨(⟨#[98, 111, 100, 121]⟩ : ByteArray), x8_4, x9_5⟩ : S91)]) x8_4 (wrap64 (x9_5 + 1)) a0_0 a0_1 a0_2 a0_3 a0_4 a0_5) else (none)) else (withyref06_Words.l4 k5 x3_5 (wrap64 (x8_4 + 1)) a0_0 a0_1 a0_2 a0_3 a0_4 a0_5)) = some r := H
                                have A33 := Aside0.mk A330
                                clear A330
                                by_cases c34 : x9_5 < t161
                                · rw [if_pos c34] at H
                                  have c34b0 : decide (x9_5 < t161) = true := decide_eq_true c34
                                  clear c34
                                  by_cases c35 : x3_5.length < 4398046511104
                                  · rw [if_pos c35] at H
                                    have LMc35 := Aside0.mk c35
                                    clear c35
                                    obtain ⟨y162, hy162⟩ : ∃ y_ : List (S91), y_ = (x3_5 ++ [(⟨(⟨#[98, 111, 100, 121]⟩ : ByteArray), x8_4, x9_5⟩ : S91)]) := ⟨_, rfl⟩
                                    replace H : (withyref06_Words.l5 k5 y162 x8_4 (wrap64 (x9_5 + 1)) a0_0 a0_1 a0_2 a0_3 a0_4 a0_5) = some r := by first | (rw [hy162]; with_reducible exact H) | (have H2_ := (Option.bind_some _ _).symm.trans H; rw [hy162]; with_reducible exact H2_) | (have H2_ := (Option.bind_some _ _).symm.trans H; with_reducible exact H2_) | with_reducible exact H | (rw [hy162]; exact H) | exact H
                                    have Ny162 := Aside0.mk hy162
                                    clear hy162
                                    have H' := Aside0.mk H
                                    clear H
                                    have hcz36_0 : wr.cell? ⟨gb139, 0, none⟩ = some (.int .i64 a0_0) := (blk_cell BK139.out 0).trans rfl
                                    have hcz36_1 : wr.cell? ⟨gb139, 1, none⟩ = some (.int .i64 a0_1) := (blk_cell BK139.out 1).trans rfl
                                    have hcz36_2 : wr.cell? ⟨gb139, 2, none⟩ = some (.int .i64 a0_2) := (blk_cell BK139.out 2).trans rfl
                                    have hcz36_3 : wr.cell? ⟨gb139, 3, none⟩ = some (.int .i64 a0_3) := (blk_cell BK139.out 3).trans rfl
                                    have hcz36_4 : wr.cell? ⟨gb139, 4, none⟩ = some (.int .i64 a0_4) := (blk_cell BK139.out 4).trans rfl
                                    have hcz36_5 : wr.cell? ⟨gb139, 5, none⟩ = some (.int .i64 a0_5) := (blk_cell BK139.out 5).trans rfl
                                    have hfz36_0 := blk_frozen BK139.out 0
                                    have hfz36_1 := blk_frozen BK139.out 1
                                    have hfz36_2 := blk_frozen BK139.out 2
                                    have hfz36_3 := blk_frozen BK139.out 3
                                    have hfz36_4 := blk_frozen BK139.out 4
                                    have hfz36_5 := blk_frozen BK139.out 5
                                    go_wp2_with (first | ((with_reducible refine gate_callee (f := 50) rfl ?_); refine goesL_ (some 72) rfl rfl Try.func50 (by kernel_rfl) rfl #[.agg #[.int .i64 a0_0, .int .i64 a0_1, .int .i64 a0_2, .int .i64 a0_3, .int .i64 a0_4, .int .i64 a0_5]] rfl (by (try simp only [List.map_toArray, List.map_cons, List.map_nil]); first | done | rfl | (simp only [List.length_drop, List.length_take]; rfl)) ?_; (with_reducible refine (withyref06_Room.calls a0_0 a0_1 a0_2 a0_3 a0_4 a0_5 t161 _ A33.out).mono ?_); rintro e w37 ⟨rfl, hb⟩; refine ⟨_, rfl, ?_⟩; have n0_ := Aside0.mk (Kd.R_below (by (with_reducible repeat (first | apply Kd.R_alloc | apply Kd.R_drewN | apply Kd.R_drew)); exact HO_3.out) hb); have n1_ := Aside0.mk (blk_below (g := gb139) (o := .cells #[.int .i64 a0_0, .int .i64 a0_1, .int .i64 a0_2, .int .i64 a0_3, .int .i64 a0_4, .int .i64 a0_5] 23 (0, 0)) (by (with_reducible repeat (first | refine blk_drewN ?_ _ | refine blk_drew ?_ | refine blk_alloc ?_ _)); exact BK139.out) hb); have n2_ := Aside0.mk (below_step (by repeat (first | (with_reducible first | exact HB.out | apply below_alloc | apply pw_below_drewN | apply below_drew1 | refine below_set ?_ GE139.out) | exact HB.out)) hb); clear HO_3; clear BK139; clear HB; have HO_3 := n0_; have BK139 := n1_; have HB := n2_; clear n0_ n1_ n2_; (try clear hb); (try clear hb2); (try clear hk); (try clear hi)) | ((with_reducible refine gate_builtin (b := .append) (xs := #[.tmp 76, .tmp 80]) rfl ?_); at_builtin; refine Kd.R_append k91 (w0 := w) w.heap.size rfl (.tmp 76) (.tmp 80) 114 91 (.agg #[(.string ⟨#[]⟩), (.int .i64 0), (.int .i64 0)]) 32 rfl Try.underlying114 info91 rfl (by decide) (by omega) u3 x3_5 (⟨(⟨#[98, 111, 100, 121]⟩ : ByteArray), x8_4, x9_5⟩ : S91) [.string (⟨#[98, 111, 100, 121]⟩ : ByteArray), .int .i64 x8_4, .int .i64 x9_5] (fun _ => True) (fun _ => False) rfl rfl ?aP (fun _ hk => hk.elim) ?aF ?aO ?aB ?aS ?aL ?_; (case aP => exact k91_mkM _ _ _ (⟨(⟨#[98, 111, 100, 121]⟩ : ByteArray), x8_4, x9_5⟩ : S91)); (case aB => exact (by repeat (first | (with_reducible first | exact HB.out | apply below_alloc | apply pw_below_drewN | apply below_drew1 | refine below_set ?_ GE139.out) | exact HB.out))); (case aF => exact (fun _ _ => trivial)); (case aO => exact (by (with_reducible repeat (first | apply Kd.R_alloc | apply Kd.R_drewN | apply Kd.R_drew)); exact HO_3.out)); (case aS => exact (below_size (by repeat (first | (with_reducible first | exact HB.out | apply below_alloc | apply pw_below_drewN | apply below_drew1 | refine below_set ?_ GE139.out) | exact HB.out)))); (case aL => have := LMc35.out; omega); intro v163 w38 ho hb hg hat; rw [← Ny162.out] at ho; have n0_ := Aside0.mk (blk_grown (g := gb139) (o := .cells #[.int .i64 a0_0, .int .i64 a0_1, .int .i64 a0_2, .int .i64 a0_3, .int .i64 a0_4, .int .i64 a0_5] 23 (0, 0)) (by (with_reducible repeat (first | refine blk_drewN ?_ _ | refine blk_drew ?_ | refine blk_alloc ?_ _)); exact BK139.out) hg (Kd.R_ne HO_3.out BK139.out (by decide))); have n1_ := Aside0.mk (hb); have n2_ := Aside0.mk (ho); clear BK139; clear HB; clear HO_3; have BK139 := n0_; have HB := n1_; have HO164 := n2_; clear n0_ n1_ n2_; clear ho hb hg hat))
                                    go_roundg k5
                                    case measure => have := HK1.out; have := HK2.out; have := HK3.out; have := HK4.out; have := HK5.out; omega
                                    case rel => exact ⟨(y162), (wrap64 (x9_5 + 1)), (by first | rfl | (simp; done) | (simp [*]; done)), H', ⟨by have := HK1.out; have := HK2.out; have := HK3.out; have := HK4.out; have := HK5.out; omega⟩, ⟨by (with_reducible repeat (first | apply Kd.R_alloc | apply Kd.R_drewN | apply Kd.R_drew)); exact HO164.out⟩, ⟨by (with_reducible repeat (first | refine blk_drewN ?_ _ | refine blk_drew ?_ | refine blk_alloc ?_ _)); exact BK139.out⟩, ⟨by repeat (first | (with_reducible first | exact HB.out | apply below_alloc | apply pw_below_drewN | apply below_drew1 | refine below_set ?_ GE139.out) | exact HB.out)⟩⟩
                                  · rw [if_neg c35] at H
                                    exact absurd H (by simp)
                                · rw [if_neg c34] at H
                                  have c34b0 : decide (x9_5 < t161) = false := decide_eq_false c34
                                  clear c34
                                  have H' := Aside0.mk H
                                  clear H
                                  have hcz39_0 : wr.cell? ⟨gb139, 0, none⟩ = some (.int .i64 a0_0) := (blk_cell BK139.out 0).trans rfl
                                  have hcz39_1 : wr.cell? ⟨gb139, 1, none⟩ = some (.int .i64 a0_1) := (blk_cell BK139.out 1).trans rfl
                                  have hcz39_2 : wr.cell? ⟨gb139, 2, none⟩ = some (.int .i64 a0_2) := (blk_cell BK139.out 2).trans rfl
                                  have hcz39_3 : wr.cell? ⟨gb139, 3, none⟩ = some (.int .i64 a0_3) := (blk_cell BK139.out 3).trans rfl
                                  have hcz39_4 : wr.cell? ⟨gb139, 4, none⟩ = some (.int .i64 a0_4) := (blk_cell BK139.out 4).trans rfl
                                  have hcz39_5 : wr.cell? ⟨gb139, 5, none⟩ = some (.int .i64 a0_5) := (blk_cell BK139.out 5).trans rfl
                                  have hfz39_0 := blk_frozen BK139.out 0
                                  have hfz39_1 := blk_frozen BK139.out 1
                                  have hfz39_2 := blk_frozen BK139.out 2
                                  have hfz39_3 := blk_frozen BK139.out 3
                                  have hfz39_4 := blk_frozen BK139.out 4
                                  have hfz39_5 := blk_frozen BK139.out 5
                                  go_wp2_with (first | ((with_reducible refine gate_callee (f := 50) rfl ?_); refine goesL_ (some 72) rfl rfl Try.func50 (by kernel_rfl) rfl #[.agg #[.int .i64 a0_0, .int .i64 a0_1, .int .i64 a0_2, .int .i64 a0_3, .int .i64 a0_4, .int .i64 a0_5]] rfl (by (try simp only [List.map_toArray, List.map_cons, List.map_nil]); first | done | rfl | (simp only [List.length_drop, List.length_take]; rfl)) ?_; (with_reducible refine (withyref06_Room.calls a0_0 a0_1 a0_2 a0_3 a0_4 a0_5 t161 _ A33.out).mono ?_); rintro e w40 ⟨rfl, hb⟩; refine ⟨_, rfl, ?_⟩; have n0_ := Aside0.mk (Kd.R_below (by (with_reducible repeat (first | apply Kd.R_alloc | apply Kd.R_drewN | apply Kd.R_drew)); exact HO_3.out) hb); have n1_ := Aside0.mk (blk_below (g := gb139) (o := .cells #[.int .i64 a0_0, .int .i64 a0_1, .int .i64 a0_2, .int .i64 a0_3, .int .i64 a0_4, .int .i64 a0_5] 23 (0, 0)) (by (with_reducible repeat (first | refine blk_drewN ?_ _ | refine blk_drew ?_ | refine blk_alloc ?_ _)); exact BK139.out) hb); have n2_ := Aside0.mk (below_step (by repeat (first | (with_reducible first | exact HB.out | apply below_alloc | apply pw_below_drewN | apply below_drew1 | refine below_set ?_ GE139.out) | exact HB.out)) hb); clear HO_3; clear BK139; clear HB; have HO_3 := n0_; have BK139 := n1_; have HB := n2_; clear n0_ n1_ n2_; (try clear hb); (try clear hb2); (try clear hk); (try clear hi)))
                                  go_roundg k5
                                  case measure => have := HK1.out; have := HK2.out; have := HK3.out; have := HK4.out; have := HK5.out; omega
                                  case rel => exact ⟨(x3_5), (wrap64 (x8_4 + 1)), (by first | rfl | (simp; done) | (simp [*]; done)), H', ⟨by have := HK1.out; have := HK2.out; have := HK3.out; have := HK4.out; have := HK5.out; omega⟩, ⟨by (with_reducible repeat (first | apply Kd.R_alloc | apply Kd.R_drewN | apply Kd.R_drew)); exact HO_3.out⟩, ⟨by (with_reducible repeat (first | refine blk_drewN ?_ _ | refine blk_drew ?_ | refine blk_alloc ?_ _)); exact BK139.out⟩, ⟨by repeat (first | (with_reducible first | exact HB.out | apply below_alloc | apply pw_below_drewN | apply below_drew1 | refine below_set ?_ GE139.out) | exact HB.out)⟩⟩
                          · rw [if_neg c27] at H
                            exact absurd H (by simp)
                        · rw [if_neg c26] at H
                          have c26b0 : decide (x8_4 < a0_0) = false := decide_eq_false c26
                          clear c26
                          obtain rfl := Option.some.inj H
                          have hcz41_0 : wr.cell? ⟨gb139, 0, none⟩ = some (.int .i64 a0_0) := (blk_cell BK139.out 0).trans rfl
                          have hcz41_1 : wr.cell? ⟨gb139, 1, none⟩ = some (.int .i64 a0_1) := (blk_cell BK139.out 1).trans rfl
                          have hcz41_2 : wr.cell? ⟨gb139, 2, none⟩ = some (.int .i64 a0_2) := (blk_cell BK139.out 2).trans rfl
                          have hcz41_3 : wr.cell? ⟨gb139, 3, none⟩ = some (.int .i64 a0_3) := (blk_cell BK139.out 3).trans rfl
                          have hcz41_4 : wr.cell? ⟨gb139, 4, none⟩ = some (.int .i64 a0_4) := (blk_cell BK139.out 4).trans rfl
                          have hcz41_5 : wr.cell? ⟨gb139, 5, none⟩ = some (.int .i64 a0_5) := (blk_cell BK139.out 5).trans rfl
                          have hfz41_0 := blk_frozen BK139.out 0
                          have hfz41_1 := blk_frozen BK139.out 1
                          have hfz41_2 := blk_frozen BK139.out 2
                          have hfz41_3 := blk_frozen BK139.out 3
                          have hfz41_4 := blk_frozen BK139.out 4
                          have hfz41_5 := blk_frozen BK139.out 5
                          go_wp2
                          go_ret
                          exact ⟨_, by first | rfl | (simp [errW_none, errW_some] <;> rfl) | (simp [*, errW_none, errW_some] <;> rfl), by (with_reducible repeat (first | apply Kd.R_alloc | apply Kd.R_drewN | apply Kd.R_drew)); exact HO_3.out, by repeat (first | (with_reducible first | exact HB.out | apply below_alloc | apply pw_below_drewN | apply below_drew1 | refine below_set ?_ GE139.out) | exact HB.out)⟩

end Go.Proofs.Ytijfkpoofpcacaa.PArenaPlays
