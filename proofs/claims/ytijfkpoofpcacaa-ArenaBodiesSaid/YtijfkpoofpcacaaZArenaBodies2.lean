/-
  What the law ArenaBodies needs of the seat's texts (MemC, MemD, MemT, MemF, PlanC, PArenaPlaysx6, PvArenaPlays, PlanD, StackC, Open, StackL, StackS, PArenaPlaysx7, PwArenaPlays): the words and functions that the kit's print.sh printed, and our own; no condition of its own.
-/
import Derived.Test.YtijfkpoofpcacaaRows
import Derived.WalkKit
import Derived.WalkSpells
import Derived.WalkLawsBesides
import Derived.Laws.MakeOwn
import Derived.KernelRfl
import Derived.Lib.Hide
import Derived.Outline
import Derived.Lib.SliceRun
import Derived.Lib.Walk
import Derived.Laws.AppendOwn
import Derived.Deep.RegionHeld3
import Derived.IntWalk
import Derived.Deep.Slices
import Derived.Deep.Fields
import Derived.ChangeSame
import Derived.ChangeShapes
import Derived.SizedLaws
import Derived.Below
import Derived.RowKit
import Derived.Deep.QuietTactic
import Derived.BigQuiet
import Derived.Test.YtijfkpoofpcacaaZArenaBodies1
set_option linter.unusedVariables false
set_option linter.unusedSectionVars false
set_option linter.unusedSimpArgs false
section
set_option linter.unusedVariables false
namespace Go.Proofs.Ytijfkpoofpcacaa.MemC
open Go.RowKit Go.Proofs.Ytijfkpoofpcacaa.Blk Go.Proofs.Ytijfkpoofpcacaa.Core
structure Ms where
  n : Nat
  f : Nat → Int
  t : Int
  k : Int
  a : Int
  was : Int
  now : Int
def U (f : Nat → Int) : Prop := ∀ i, 0 ≤ f i ∧ f i < 18446744073709551616
structure Ok (s : Ms) : Prop where
  f : U s.f
  t0 : 0 ≤ s.t
  t1 : s.t < 1152921504606846976
  n : s.n ≤ 65536
structure MemB (w : World) (m b : Nat) (s : Ms) : Prop where
  ne : 0 < s.n → m ≠ b
  lb : b < w.heap.size
  blk : ∃ A c, Blk w m 124 #[.slice A s.n c, .int .i64 s.t, .int .i64 s.k, .int .i64 s.a, .int .u64 s.was, .int .u64 s.now] ∧ s.n ≤ c ∧ (0 < s.n → A = some ⟨b, 0, none⟩ ∧ ∃ cs, Blk w b 33 cs ∧ ∀ i, i < s.n → cs[i]? = some (.int .u64 (s.f i)))
def two (m b : Nat) : Nat → Prop := fun k => k = m ∨ k = b
theorem MemB.fr {S : Nat → Prop} {w w' : World} {m b : Nat} {s : Ms} (h : MemB w m b s) (hf : Fr S w w') (hm : ¬ S m) (hb : ¬ S b) : MemB w' m b s := by
  obtain ⟨A, c, h1, h2, h3⟩ := h.blk
  refine ⟨h.ne, Nat.lt_of_lt_of_le h.lb hf.size, A, c, h1.fr hf hm, h2, fun hn => ?_⟩
  obtain ⟨e, cs, h4, h5⟩ := h3 hn
  exact ⟨e, cs, h4.fr hf hb, h5⟩
theorem MemB.lm {w : World} {m b : Nat} {s : Ms} (h : MemB w m b s) : m < w.heap.size := by
  obtain ⟨A, c, h1, h2, h3⟩ := h.blk
  exact h1.lt
theorem MemB.alloc {w : World} {m b : Nat} {s : Ms} (h : MemB w m b s) (o : Obj) : MemB (w.alloc o) m b s := h.fr (S := fun _ => False) (Fr.alloc _ w o) id id
theorem MemB.below {w w' : World} {m b : Nat} {s : Ms} {n : Nat} (h : MemB w m b s) (hb : Below n w w') (h1 : m < n) (h2 : b < n) : MemB w' m b s := h.fr (S := fun k => ¬ k < n) (Fr.of_below hb (fun k _ hs => Classical.byContradiction hs)) (fun c => c h1) (fun c => c h2)
theorem MemB.drewN {w : World} {m b : Nat} {s : Ms} (h : MemB w m b s) (n : Nat) : MemB (w.drewN n) m b s := h.fr (S := fun _ => False) (Fr.drewN _ w n) id id
theorem MemB.drew {w : World} {m b : Nat} {s : Ms} (h : MemB w m b s) : MemB w.drew m b s := h.fr (S := fun _ => False) (Fr.drew _ w) id id
def Ms.touch (s : Ms) (kind at_ now : Int) : Ms := ⟨s.n, upd s.f at_.toNat now, s.t + 1, kind, at_, s.f at_.toNat, now⟩
theorem size_c (w : World) (m b : Nat) (s : Ms) (h : MemB w m b s) : Calls Try.prog 97 #[.pointer (some ⟨m, 0, none⟩)] w fun e w' => e = .returned (.int .i64 s.n) ∧ w = w' := by
  obtain ⟨A, c, h1, h2, h3⟩ := h.blk
  have x0 := h1.cell (i := 0) rfl
  go_enter Try.func97, Try.ntmps97
  go_wp2
  go_ret
  exact ⟨rfl, rfl⟩
theorem there_c (w : World) (m b : Nat) (s : Ms) (a : Int) (h : MemB w m b s) : Calls Try.prog 79 #[.pointer (some ⟨m, 0, none⟩), .int .i64 a] w fun e w' => e = .returned (.bool (decide (0 ≤ a) && decide (a < s.n))) ∧ w = w' := by
  by_cases c : 0 ≤ a
  · rw [decide_eq_true c, Bool.true_and]
    go_enter Try.func79, Try.ntmps79
    go_wp2_with (go_at_call 97; refine (size_c _ m b s h).mono ?_; rintro e w' ⟨rfl, rfl⟩)
    go_ret
    exact ⟨rfl, rfl⟩
  · rw [decide_eq_false c, Bool.false_and]
    go_enter Try.func79, Try.ntmps79
    go_wp2
    go_ret
    exact ⟨rfl, rfl⟩
theorem touch_world (w : World) (m b : Nat) (s : Ms) (kind a now : Int) (c : Nat) (cs : Array Value)
    (h2 : Blk w m 124 #[.slice (some ⟨b, 0, none⟩) s.n c, .int .i64 s.t, .int .i64 s.k, .int .i64 s.a, .int .u64 s.was, .int .u64 s.now]) (h3 : s.n ≤ c)
    (h5 : Blk w b 33 cs) (h6 : ∀ i, i < s.n → cs[i]? = some (.int .u64 (s.f i))) (ne : m ≠ b) (h0 : 0 ≤ a) (h1 : a < s.n) :
    MemB ((((((w.setCell ⟨m, 1, none⟩ (.int .i64 (s.t + 1))).setCell ⟨m, 2, none⟩ (.int .i64 kind)).setCell ⟨m, 3, none⟩ (.int .i64 a)).setCell ⟨m, 4, none⟩ (.int .u64 (s.f a.toNat))).setCell ⟨m, 5, none⟩ (.int .u64 now)).setCell ⟨b, a.toNat, none⟩ (.int .u64 now)) m b (s.touch kind a now) ∧
    Fr (two m b) w ((((((w.setCell ⟨m, 1, none⟩ (.int .i64 (s.t + 1))).setCell ⟨m, 2, none⟩ (.int .i64 kind)).setCell ⟨m, 3, none⟩ (.int .i64 a)).setCell ⟨m, 4, none⟩ (.int .u64 (s.f a.toNat))).setCell ⟨m, 5, none⟩ (.int .u64 now)).setCell ⟨b, a.toNat, none⟩ (.int .u64 now)) := by
  have hm : two m b m := Or.inl rfl
  have hb : two m b b := Or.inr rfl
  refine ⟨⟨fun _ => ne, by simpa [World.setCell] using h5.lt, some ⟨b, 0, none⟩, c, ?_, h3, fun _ => ⟨rfl, cs.setIfInBounds a.toNat (.int .u64 now), ?_, fun i hi => ?_⟩⟩, ?_⟩
  · exact (((((h2.set 1 _).set 2 _).set 3 _).set 4 _).set 5 _).other ⟨b, a.toNat, none⟩ ne _
  · exact (((((h5.other ⟨m, 1, none⟩ ne.symm _).other ⟨m, 2, none⟩ ne.symm _).other ⟨m, 3, none⟩ ne.symm _).other ⟨m, 4, none⟩ ne.symm _).other ⟨m, 5, none⟩ ne.symm _).set _ _
  · rw [Array.getElem?_setIfInBounds]
    have hl : a.toNat < cs.size := by
      have := h6 a.toNat (by omega)
      rcases Nat.lt_or_ge a.toNat cs.size with h | h
      · exact h
      · rw [Array.getElem?_eq_none h] at this; cases this
    show _ = some (Value.int .u64 (upd s.f a.toNat now i))
    unfold upd
    by_cases c : a.toNat = i
    · rw [if_pos c, if_pos hl, if_pos c.symm]
    · rw [if_neg c, if_neg (fun h => c h.symm)]; exact h6 i hi
  · exact (((((Fr.set _ w (p := ⟨m, 1, none⟩) hm _).trans (Fr.set _ _ (p := ⟨m, 2, none⟩) hm _)).trans (Fr.set _ _ (p := ⟨m, 3, none⟩) hm _)).trans (Fr.set _ _ (p := ⟨m, 4, none⟩) hm _)).trans (Fr.set _ _ (p := ⟨m, 5, none⟩) hm _)).trans (Fr.set _ _ (p := ⟨b, a.toNat, none⟩) hb _)
theorem touch_c (w : World) (m b : Nat) (s : Ms) (kind a now : Int) (h : MemB w m b s) (ok : Ok s) (h0 : 0 ≤ a) (h1 : a < s.n) :
    Calls Try.prog 80 #[.pointer (some ⟨m, 0, none⟩), .int .i64 kind, .int .i64 a, .int .u64 now] w fun e w' => e = .returned (.tuple #[]) ∧ MemB w' m b (s.touch kind a now) ∧ Fr (two m b) w w' := by
  obtain ⟨A, c, h2, h3, h4⟩ := h.blk
  obtain ⟨rfl, cs, h5, h6⟩ := h4 (by omega)
  have x0 := h2.cell (i := 0) rfl
  have x1 := h2.cell (i := 1) rfl
  have x2 := h2.cell (i := 2) rfl
  have x3 := h2.cell (i := 3) rfl
  have x4 := h2.cell (i := 4) rfl
  have x5 := h2.cell (i := 5) rfl
  have y := h5.cell (h6 a.toNat (by omega))
  have z0 := h2.frozen 0
  have z1 := h2.frozen 1
  have z2 := h2.frozen 2
  have z3 := h2.frozen 3
  have z4 := h2.frozen 4
  have z5 := h2.frozen 5
  have z6 := h5.frozen a.toNat
  have t0 := ok.t0
  have t1 := ok.t1
  have ne := h.ne (by omega)
  go_enter Try.func80, Try.ntmps80
  go_wp2
  go_end0
  exact ⟨rfl, touch_world w m b s kind a now c cs h2 h3 h5 h6 ne h0 h1⟩
theorem upd_at (f : Nat → Int) (i : Nat) (x : Int) : upd f i x i = x := if_pos rfl
theorem MemB.words {w : World} {m b : Nat} {s : Ms} (h : MemB w m b s) {a : Int} (h0 : 0 ≤ a) (h1 : a < s.n) : ∃ c, w.cell? ⟨m, 0, none⟩ = some (.slice (some ⟨b, 0, none⟩) s.n c) ∧ s.n ≤ c ∧ w.cell? ⟨b, a.toNat, none⟩ = some (.int .u64 (s.f a.toNat)) := by
  obtain ⟨A, c, h2, h3, h4⟩ := h.blk
  obtain ⟨rfl, cs, h5, h6⟩ := h4 (by omega)
  exact ⟨c, h2.cell (i := 0) rfl, h3, h5.cell (h6 a.toNat (by omega))⟩
def Ms.inn (s : Ms) (a : Int) : Bool := decide (0 ≤ a) && decide (a < s.n)
theorem inn_iff {s : Ms} {a : Int} : s.inn a = true ↔ 0 ≤ a ∧ a < s.n := by simp [Ms.inn]
def Ms.ldV (s : Ms) (a : Int) : Int := if s.inn a = true then s.f a.toNat else 0
def Ms.ldS (s : Ms) (a : Int) : Ms := if s.inn a = true then s.touch 1 a (s.f a.toNat) else s
def Ms.stS (s : Ms) (a v : Int) : Ms := if s.inn a = true then s.touch 2 a v else s
def Ms.swV (s : Ms) (a old : Int) : Bool := s.inn a && decide (s.f a.toNat = old)
def Ms.swS (s : Ms) (a old now : Int) : Ms := if s.inn a = true then s.touch 3 a (if s.f a.toNat = old then now else s.f a.toNat) else s
def Ms.adS (s : Ms) (a by_ : Int) : Ms := if s.inn a = true then s.touch 4 a ((s.f a.toNat + by_) % 18446744073709551616) else s
section
variable (w : World) (m b : Nat) (s : Ms) (a : Int) (h : MemB w m b s) (ok : Ok s)
include h ok
theorem load_c : Calls Try.prog 35 #[.pointer (some ⟨m, 0, none⟩), .int .i64 a] w fun e w' => e = .returned (.int .u64 (s.ldV a)) ∧ MemB w' m b (s.ldS a) ∧ Fr (two m b) w w' := by
  unfold Ms.ldV Ms.ldS
  cases c : s.inn a with
  | false =>
    rw [if_neg (by decide), if_neg (by decide)]
    replace c := Lib.hid c
    go_enter Try.func35, Try.ntmps35
    go_wp2_with (go_at_call 79; refine (there_c _ m b s a h).mono ?_; rintro e w' ⟨rfl, rfl⟩; rw [show (decide (0 ≤ a) && decide (a < s.n)) = false from c.out])
    go_ret
    exact ⟨rfl, h, Fr.refl _ _⟩
  | true =>
    rw [if_pos rfl, if_pos rfl]
    have c' := inn_iff.1 c
    obtain ⟨h0, h1⟩ := c'
    obtain ⟨cp, x0, x1, y⟩ := h.words h0 h1
    replace c := Lib.hid c
    go_enter Try.func35, Try.ntmps35
    go_wp2_with (first | (go_at_call 79; refine (there_c _ m b s a h).mono ?_; rintro e w' ⟨rfl, rfl⟩; rw [show (decide (0 ≤ a) && decide (a < s.n)) = true from c.out]) | (go_at_call 80; refine (touch_c _ m b s _ _ _ h ok h0 h1).mono ?_; rintro e w' ⟨rfl, hM, hF⟩; obtain ⟨cp', z0, z1, z2⟩ := hM.words (a := a) h0 h1; replace hM := Lib.hid hM; replace hF := Lib.hid hF; replace z2 := z2.trans (by rw [show (s.touch 1 a (s.f a.toNat)).f a.toNat = s.f a.toNat from upd_at _ _ _]); replace z0 : w'.cell? ⟨m, 0, none⟩ = some (.slice (some ⟨b, 0, none⟩) s.n cp') := z0))
    go_ret
    exact ⟨rfl, hM.out, hF.out⟩
theorem store_c (v : Int) : Calls Try.prog 57 #[.pointer (some ⟨m, 0, none⟩), .int .i64 a, .int .u64 v] w fun e w' => e = .returned (.bool (s.inn a)) ∧ MemB w' m b (s.stS a v) ∧ Fr (two m b) w w' := by
  unfold Ms.stS
  cases c : s.inn a with
  | false =>
    rw [if_neg (by decide)]
    replace c := Lib.hid c
    go_enter Try.func57, Try.ntmps57
    go_wp2_with (go_at_call 79; refine (there_c _ m b s a h).mono ?_; rintro e w' ⟨rfl, rfl⟩; rw [show (decide (0 ≤ a) && decide (a < s.n)) = false from c.out])
    go_ret
    exact ⟨rfl, h, Fr.refl _ _⟩
  | true =>
    rw [if_pos rfl]
    have c' := inn_iff.1 c
    obtain ⟨h0, h1⟩ := c'
    replace c := Lib.hid c
    go_enter Try.func57, Try.ntmps57
    go_wp2_with (first | (go_at_call 79; refine (there_c _ m b s a h).mono ?_; rintro e w' ⟨rfl, rfl⟩; rw [show (decide (0 ≤ a) && decide (a < s.n)) = true from c.out]) | (go_at_call 80; refine (touch_c _ m b s _ _ _ h ok h0 h1).mono ?_; rintro e w' ⟨rfl, hM, hF⟩; replace hM := Lib.hid hM; replace hF := Lib.hid hF))
    go_ret
    exact ⟨rfl, hM.out, hF.out⟩
theorem swap_c (old now : Int) : Calls Try.prog 82 #[.pointer (some ⟨m, 0, none⟩), .int .i64 a, .int .u64 old, .int .u64 now] w fun e w' => e = .returned (.bool (s.swV a old)) ∧ MemB w' m b (s.swS a old now) ∧ Fr (two m b) w w' := by
  unfold Ms.swS Ms.swV
  cases c : s.inn a with
  | false =>
    rw [if_neg (by decide), Bool.false_and]
    replace c := Lib.hid c
    go_enter Try.func82, Try.ntmps82
    go_wp2_with (go_at_call 79; refine (there_c _ m b s a h).mono ?_; rintro e w' ⟨rfl, rfl⟩; rw [show (decide (0 ≤ a) && decide (a < s.n)) = false from c.out])
    go_ret
    exact ⟨rfl, h, Fr.refl _ _⟩
  | true =>
    rw [if_pos rfl, Bool.true_and]
    have c' := inn_iff.1 c
    obtain ⟨h0, h1⟩ := c'
    obtain ⟨cp, x0, x1, y⟩ := h.words h0 h1
    replace c := Lib.hid c
    by_cases hc : s.f a.toNat = old
    · rw [if_pos hc, decide_eq_true hc]
      have e1 : (s.f a.toNat == old) = true := beq_iff_eq.2 hc
      replace hc := Lib.hid hc
      go_enter Try.func82, Try.ntmps82
      go_wp2_with (first | (go_at_call 79; refine (there_c _ m b s a h).mono ?_; rintro e w' ⟨rfl, rfl⟩; rw [show (decide (0 ≤ a) && decide (a < s.n)) = true from c.out]) | (go_at_call 80; refine (touch_c _ m b s _ _ _ h ok h0 h1).mono ?_; rintro e w' ⟨rfl, hM, hF⟩; replace hM := Lib.hid hM; replace hF := Lib.hid hF))
      go_ret
      exact ⟨rfl, hM.out, hF.out⟩
    · rw [if_neg hc, decide_eq_false hc]
      have e1 : (s.f a.toNat == old) = false := beq_eq_false_iff_ne.2 hc
      go_enter Try.func82, Try.ntmps82
      go_wp2_with (first | (go_at_call 79; refine (there_c _ m b s a h).mono ?_; rintro e w' ⟨rfl, rfl⟩; rw [show (decide (0 ≤ a) && decide (a < s.n)) = true from c.out]) | (go_at_call 80; refine (touch_c _ m b s _ _ _ h ok h0 h1).mono ?_; rintro e w' ⟨rfl, hM, hF⟩; replace hM := Lib.hid hM; replace hF := Lib.hid hF))
      go_ret
      exact ⟨rfl, hM.out, hF.out⟩
end
def Ms.new (n : Nat) : Ms := ⟨n, fun _ => 0, 0, 0, 0, 0, 0⟩
theorem infoW : (Try.prog.info? 33).map (fun i => (i.zero, i.size, i.bytes)) = some (some (.int .u64 0), 1, 8) := by kernel_rfl
theorem made_row (n : Nat) : madeCells (Value.int .u64 0).cells (n * 1) = rowF .u64 n (fun _ => 0) := by
  refine Array.ext_getElem? fun j => ?_
  rw [Nat.mul_one]
  by_cases hj : j < n
  · rw [rowF_get hj]
    have : j < (madeCells (Value.int .u64 0).cells n).size := by rw [size_madeCells]; exact hj
    rw [Array.getElem?_eq_getElem this]
    simp [madeCells, Value.cells, Nat.mod_one]
  · rw [rowF_none hj, Array.getElem?_eq_none]
    rw [size_madeCells]; omega
theorem make_run (n : Int) (h0 : 0 ≤ n) (h1 : n ≤ 100000) (w : World) : (Instr.makeSlice 29 (.int .i64 n) (.int .i64 n)).run Try.prog w = .ok (.slice (some ⟨w.heap.size, 0, none⟩) n.toNat n.toNat) (w.alloc (.cells (rowF .u64 n.toNat (fun _ => 0)) 33)) := by
  obtain ⟨i, hi, e⟩ := Option.map_eq_some_iff.1 infoW
  simp only [Prod.mk.injEq] at e
  obtain ⟨e0, e1, e2⟩ := e
  have := run_make w 29 33 i (.int .u64 0) Try.underlying29 hi e0 .i64 .i64 n n h0 (Int.le_refl _) (by rw [e2]; omega) (by omega)
  rw [e1, made_row] at this
  exact this
end Go.Proofs.Ytijfkpoofpcacaa.MemC
end
section
set_option linter.unusedVariables false
namespace Go.Proofs.Ytijfkpoofpcacaa.MemD
open Go.RowKit Go.Lib Go.Proofs.Ytijfkpoofpcacaa.Blk Go.Proofs.Ytijfkpoofpcacaa.Core Go.Proofs.Ytijfkpoofpcacaa.MemC
structure RowB (w : World) (A : Option Addr) (c b n : Nat) (f : Nat → Int) : Prop where
  cap : n ≤ c
  row : 0 < n → A = some ⟨b, 0, none⟩ ∧ ∃ cs, Blk w b 33 cs ∧ ∀ i, i < n → cs[i]? = some (.int .u64 (f i))
theorem RowB.fr {S : Nat → Prop} {w w' : World} {A c b n f} (h : RowB w A c b n f) (hf : Fr S w w') (hb : ¬ S b) : RowB w' A c b n f := by
  refine ⟨h.cap, fun hn => ?_⟩
  obtain ⟨e, cs, h4, h5⟩ := h.row hn
  exact ⟨e, cs, h4.fr hf hb, h5⟩
theorem RowB.cell {w : World} {A c b n f} (h : RowB w A c b n f) {i : Nat} (hi : i < n) : A = some ⟨b, 0, none⟩ ∧ w.cell? ⟨b, i, none⟩ = some (.int .u64 (f i)) ∧ w.frozen? ⟨b, i, none⟩ = false := by
  obtain ⟨e, cs, h4, h5⟩ := h.row (by omega)
  exact ⟨e, h4.cell (h5 i hi), h4.frozen i⟩
theorem RowB.alloc {w : World} {A c b n f} (h : RowB w A c b n f) (o : Obj) : RowB (w.alloc o) A c b n f := by
  refine ⟨h.cap, fun hn => ?_⟩
  obtain ⟨e, cs, h4, h5⟩ := h.row hn
  exact ⟨e, cs, h4.alloc _, h5⟩
theorem RowB.of_owns {w : World} {base : Nat} {v : Value} {n : Nat} {f : Nat → Int} (h : w.ownsRow base 33 1 v n ((List.range n).map (fun i => Value.int .u64 (f i)))) : ∃ A c b, v = .slice A n c ∧ base ≤ b ∧ RowB w A c b n f := by
  rcases h.2 with ⟨rfl, rfl⟩ | ⟨g, cap, cur, rfl, hb, hg, hn, hc, hs, ht⟩
  · exact ⟨none, 0, base, rfl, Nat.le_refl _, Nat.le_refl _, fun h => absurd h (by decide)⟩
  · refine ⟨_, cap, g, rfl, hb, hn, fun _ => ⟨rfl, cur, hg, fun i hi => ?_⟩⟩
    have := congrArg (fun l => l[i]?) ht
    simp only [List.getElem?_take, Nat.mul_one, hi, if_true] at this
    simpa [hi] using this
set_option maxHeartbeats 2000000 in
set_option maxRecDepth 100000 in
theorem clone_c (w : World) (A : Option Addr) (c b n : Nat) (f : Nat → Int) (h : RowB w A c b n f) (hn : n ≤ 65536) : Calls Try.prog 74 #[.slice A n c] w fun e w' => ∃ A' c' b', e = .returned (.slice A' n c') ∧ w.heap.size ≤ b' ∧ RowB w' A' c' b' n f ∧ Below w.heap.size w w' := by
  obtain ⟨i0, hi, e0⟩ := Option.map_eq_some_iff.1 infoW
  simp only [Prod.mk.injEq] at e0
  obtain ⟨hz0, hz1, hz2⟩ := e0
  have q22 : ∀ (w : World) (a : Option Addr) (n c n' c' : Nat), (binOp .eql 29 (.slice a n c) (.slice none n' c')).run Try.prog w = .ok (.bool a.isNone) w := fun w a n c n' c' => Lib.run_eql_slice_nil w _ _ a n c n' c' Try.underlying29
  cases A with
  | none =>
    have n0 : n = 0 := by
      rcases Nat.eq_zero_or_pos n with e | e
      · exact e
      · exact absurd (h.row e).1 (by simp)
    subst n0
    go_enter Try.func74, Try.ntmps74
    go_wp2
    go_ret
    exact ⟨none, 0, w.heap.size, rfl, Nat.le_refl _, ⟨Nat.le_refl _, fun h => absurd h (by decide)⟩, Below.refl _ _⟩
  | some a =>
    have hA := Lib.hid h
    clear h
    go_enter Try.func74, Try.ntmps74
    go_wp2_with (at_builtin; refine wpList_append_own _ rfl _ _ 29 rfl w.heap.size 33 i0 (.int .u64 0) 1 8 Try.underlying29 hi hz0 hz1 hz2 rfl (by decide) _ _ _ rfl (World.ownsRow_made w #[] 0 (Nat.le_refl _) (Nat.zero_le _) rfl) a n c ((List.range n).map (fun i => Value.int .u64 (f i))) rfl ?qc1 ?qc2 ?qc3 ?qc4 ?qc5 ?qc6 ?_)
    case qc1 => simp
    case qc2 =>
      intro j u hj
      have hjn : j < n := by
        have := (List.getElem?_eq_some_iff.1 hj).1
        simpa using this
      obtain ⟨e, cs, h4, h5⟩ := hA.out.row (by omega)
      cases e
      rw [Addr.add_lit]
      refine Lib.cell?_alloc_some _ ?_
      rw [Nat.zero_add, h4.cell (h5 j hjn)]
      simpa [hjn] using hj
    case qc3 => intro u hu; obtain ⟨x, _, rfl⟩ := List.mem_map.1 hu; rfl
    case qc4 => unfold maxLen; omega
    case qc5 => omega
    case qc6 => simp
    intro v' w1 hown hgrow hnil
    go_wp2
    go_ret
    obtain ⟨A', c', b', rfl, h1, h2⟩ := RowB.of_owns (by simpa using hown)
    exact ⟨A', c', b', rfl, h1, h2, ((Below.refl _ w).alloc (Nat.le_refl _) _).grown hgrow (by simp) (by intro k hk; simp [Value.ownBlock] at hk; omega)⟩
theorem MemB.rowB {w : World} {m b : Nat} {s : Ms} (h : MemB w m b s) : ∃ A c, Blk w m 124 #[.slice A s.n c, .int .i64 s.t, .int .i64 s.k, .int .i64 s.a, .int .u64 s.was, .int .u64 s.now] ∧ RowB w A c b s.n s.f := by
  obtain ⟨A, c, h1, h2, h3⟩ := h.blk
  exact ⟨A, c, h1, h2, h3⟩
theorem RowB.drew {w : World} {A c b n f} (h : RowB w A c b n f) : RowB w.drew A c b n f := ⟨h.cap, h.row⟩
theorem words_c (w : World) (m b : Nat) (s : Ms) (h : MemB w m b s) (hn : s.n ≤ 65536) : Calls Try.prog 24 #[.pointer (some ⟨m, 0, none⟩)] w fun e w' => ∃ A c b', e = .returned (.slice A s.n c) ∧ w.heap.size ≤ b' ∧ RowB w' A c b' s.n s.f ∧ Below w.heap.size w w' := by
  obtain ⟨A, c, h1, h2⟩ := MemB.rowB h
  have x0 := h1.cell (i := 0) rfl
  replace h2 := Lib.hid h2
  go_enter Try.func24, Try.ntmps24
  go_wp2_with (go_at_call 74; refine (clone_c _ _ _ _ _ _ h2.out hn).mono ?_; rintro e w' ⟨A', c', b', rfl, g1, g2, g3⟩; replace g2 := Lib.hid g2; replace g3 := Lib.hid g3)
  go_ret
  exact ⟨A', c', b', rfl, g1, g2.out, g3.out⟩
def Ms.of (n : Nat) (f : Nat → Int) : Ms := ⟨n, f, 0, 0, 0, 0, 0⟩
theorem RowB.lt {w : World} {A c b n f} (h : RowB w A c b n f) (hn : 0 < n) : b < w.heap.size := by
  obtain ⟨e, cs, h4, h5⟩ := h.row hn
  exact h4.lt
theorem mk_mem (w0 w : World) (A : Option Addr) (c b n : Nat) (f : Nat → Int) (t k a was now : Int) (h : RowB w A c b n f) (hb : w0.heap.size ≤ b) (hw : Below w0.heap.size w0 w) :
    ∃ m' b', (⟨w.heap.size, 0, none⟩ : Addr) = ⟨m', 0, none⟩ ∧ MemB (w.alloc (.cells #[.slice A n c, .int .i64 t, .int .i64 k, .int .i64 a, .int .u64 was, .int .u64 now] 124)) m' b' ⟨n, f, t, k, a, was, now⟩ ∧ w0.heap.size ≤ m' ∧ w0.heap.size ≤ b' ∧ Below w0.heap.size w0 (w.alloc (.cells #[.slice A n c, .int .i64 t, .int .i64 k, .int .i64 a, .int .u64 was, .int .u64 now] 124)) := by
  have lt := hw.size
  rcases Nat.eq_zero_or_pos n with e | e
  · subst e
    exact ⟨w.heap.size, w.heap.size, rfl, ⟨fun h => absurd h (Nat.lt_irrefl 0), by simp, A, c, Blk.new w 124 _, h.cap, fun h => absurd h (Nat.lt_irrefl 0)⟩, lt, lt, hw.alloc lt _⟩
  · have := h.lt e
    refine ⟨w.heap.size, b, rfl, ⟨fun _ => by omega, by simp; omega, A, c, Blk.new w 124 _, h.cap, (h.alloc _).row⟩, lt, hb, hw.alloc lt _⟩
theorem of_c (w : World) (A : Option Addr) (c b n : Nat) (f : Nat → Int) (h : RowB w A c b n f) (hn : n ≤ 65536) : Calls Try.prog 70 #[.slice A n c] w fun e w' => ∃ m b', e = .returned (.pointer (some ⟨m, 0, none⟩)) ∧ MemB w' m b' (Ms.of n f) ∧ w.heap.size ≤ m ∧ w.heap.size ≤ b' ∧ Below w.heap.size w w' := by
  replace h := Lib.hid h
  go_enter Try.func70, Try.ntmps70
  go_wp2_with (go_at_call 74; refine (clone_c _ _ _ _ _ _ h.out hn).mono ?_; rintro e w' ⟨A', c', b', rfl, g1, g2, g3⟩; replace g2 := Lib.hid g2; replace g3 := Lib.hid g3)
  go_ret
  obtain ⟨m', b'', e, r⟩ := mk_mem w w' A' c' b' n f 0 0 0 0 0 g2.out g1 g3.out
  exact ⟨m', b'', by rw [← e]; rfl, r⟩
end Go.Proofs.Ytijfkpoofpcacaa.MemD
end
section
set_option linter.unusedVariables false
namespace Go.Proofs.Ytijfkpoofpcacaa.MemT
open Go.RowKit Go.Proofs.Ytijfkpoofpcacaa.Blk Go.Proofs.Ytijfkpoofpcacaa.Core Go.Proofs.Ytijfkpoofpcacaa.MemC Go.Proofs.Ytijfkpoofpcacaa.MemD
theorem Ok.of {s : Ms} (h : U s.f) (h0 : 0 ≤ s.t) (h1 : s.t ≤ 1000) (hn : s.n ≤ 65536) : Ok s := ⟨h, h0, by omega, hn⟩
theorem U.upd {f : Nat → Int} (h : U f) (i : Nat) {x : Int} (x0 : 0 ≤ x) (x1 : x < 18446744073709551616) : U (upd f i x) := by
  intro j
  unfold Blk.upd
  split
  · exact ⟨x0, x1⟩
  · exact h j
structure Fine (s : Ms) (n t : Nat) : Prop where
  u : U s.f
  n : s.n = n
  t0 : 0 ≤ s.t
  t : s.t ≤ t
theorem Fine.ok {s : Ms} {n t : Nat} (h : Fine s n t) (hn : n ≤ 65536) (ht : t ≤ 100000000) : Ok s := ⟨h.u, h.t0, by have := h.t; omega, by rw [h.n]; exact hn⟩
theorem Fine.mono {s : Ms} {n t t' : Nat} (h : Fine s n t) (ht : t ≤ t') : Fine s n t' := ⟨h.u, h.n, h.t0, by have := h.t; omega⟩
theorem Fine.touch {s : Ms} {n t : Nat} (h : Fine s n t) (k a : Int) {v : Int} (v0 : 0 ≤ v) (v1 : v < 18446744073709551616) : Fine (s.touch k a v) n (t + 1) := by
  have h0 := h.t0
  have h1 := h.t
  exact ⟨U.upd h.u _ v0 v1, h.n, by show 0 ≤ s.t + 1; omega, by show s.t + 1 ≤ _; omega⟩
theorem Fine.ld {s : Ms} {n t : Nat} (h : Fine s n t) (a : Int) : Fine (s.ldS a) n (t + 1) := by
  unfold Ms.ldS
  split
  · exact h.touch _ _ (h.u _).1 (h.u _).2
  · exact h.mono (Nat.le_succ _)
theorem Fine.st {s : Ms} {n t : Nat} (h : Fine s n t) (a : Int) {v : Int} (v0 : 0 ≤ v) (v1 : v < 18446744073709551616) : Fine (s.stS a v) n (t + 1) := by
  unfold Ms.stS
  split
  · exact h.touch _ _ v0 v1
  · exact h.mono (Nat.le_succ _)
theorem Fine.sw {s : Ms} {n t : Nat} (h : Fine s n t) (a o : Int) {v : Int} (v0 : 0 ≤ v) (v1 : v < 18446744073709551616) : Fine (s.swS a o v) n (t + 1) := by
  unfold Ms.swS
  split
  · split
    · exact h.touch _ _ v0 v1
    · exact h.touch _ _ (h.u _).1 (h.u _).2
  · exact h.mono (Nat.le_succ _)
theorem Fine.ad {s : Ms} {n t : Nat} (h : Fine s n t) (a v : Int) : Fine (s.adS a v) n (t + 1) := by
  unfold Ms.adS
  split
  · exact h.touch _ _ (by omega) (by omega)
  · exact h.mono (Nat.le_succ _)
theorem Fine.new (n : Nat) : Fine (Ms.new n) n 0 := ⟨fun _ => ⟨Int.le_refl 0, by show (0 : Int) < _; decide⟩, rfl, Int.le_refl 0, Int.le_refl 0⟩
theorem words_n (w : World) (m b n : Nat) (s : Ms) (h : MemB w m b s) (e : s.n = n) (hn : n ≤ 65536) : Calls Try.prog 24 #[.pointer (some ⟨m, 0, none⟩)] w fun e w' => ∃ A c b', e = .returned (.slice A n c) ∧ w.heap.size ≤ b' ∧ RowB w' A c b' n s.f ∧ Below w.heap.size w w' := by
  subst e
  exact words_c w m b s h hn
theorem _root_.Go.Proofs.Ytijfkpoofpcacaa.MemD.RowB.set {w : World} {A c b n f} (h : RowB w A c b n f) (i : Nat) (hi : i < n) (x : Int) : RowB (w.setCell ⟨b, i, none⟩ (.int .u64 x)) A c b n (upd f i x) := by
  obtain ⟨e, cs, h4, h5⟩ := h.row (by omega)
  refine ⟨h.cap, fun _ => ⟨e, cs.setIfInBounds i (.int .u64 x), h4.set i _, fun j hj => ?_⟩⟩
  have hl : i < cs.size := by
    have := h5 i hi
    rcases Nat.lt_or_ge i cs.size with h | h
    · exact h
    · rw [Array.getElem?_eq_none h] at this; cases this
  rw [Array.getElem?_setIfInBounds]
  unfold upd
  by_cases c : i = j
  · rw [if_pos c, if_pos hl, if_pos c.symm]
  · rw [if_neg c, if_neg (fun h => c h.symm)]; exact h5 j hj
theorem _root_.Go.Proofs.Ytijfkpoofpcacaa.MemD.RowB.below {w w' : World} {A c b n f N} (h : RowB w A c b n f) (hb : Below N w w') (hN : w.heap.size ≤ N) : RowB w' A c b n f := by
  refine ⟨h.cap, fun hn => ?_⟩
  obtain ⟨e, cs, h4, h5⟩ := h.row hn
  exact ⟨e, cs, h4.below hb (Nat.lt_of_lt_of_le h4.lt hN), h5⟩
theorem _root_.Go.Proofs.Ytijfkpoofpcacaa.MemC.MemB.next {w w' : World} {m b : Nat} {s : Ms} (h : MemB w m b s) (hb : Below w.heap.size w w') : MemB w' m b s := h.below hb h.lm h.lb
theorem below_pre {w w' : World} {o : Obj} (h : Below (w.alloc o).heap.size (w.alloc o) w') : Below w.heap.size w w' := ((Below.refl w.heap.size w).alloc (Nat.le_refl _) o).trans (h.mono (by simp))
theorem fr_below {S : Nat → Prop} {w w' : World} (h : Below w.heap.size w w') : Fr S w w' := Fr.of_below h (fun k hk _ => hk)
theorem bT {w w1 w2 : World} (h : Below w.heap.size w w1) (k : Below w1.heap.size w1 w2) : Below w.heap.size w w2 := h.trans (k.mono h.size)
theorem cfgs {w : World} {b t : Nat} {S A C H G K : Int} (h : Blk w b t #[.int .i64 S, .int .i64 A, .int .i64 C, .int .i64 H, .int .i64 G, .int .i64 K]) : w.cell? ⟨b, 0, none⟩ = some (.int .i64 S) ∧ w.cell? ⟨b, 1, none⟩ = some (.int .i64 A) ∧ w.cell? ⟨b, 2, none⟩ = some (.int .i64 C) ∧ w.cell? ⟨b, 3, none⟩ = some (.int .i64 H) ∧ w.cell? ⟨b, 4, none⟩ = some (.int .i64 G) ∧ w.cell? ⟨b, 5, none⟩ = some (.int .i64 K) :=
  ⟨h.cell (i := 0) rfl, h.cell (i := 1) rfl, h.cell (i := 2) rfl, h.cell (i := 3) rfl, h.cell (i := 4) rfl, h.cell (i := 5) rfl⟩
end Go.Proofs.Ytijfkpoofpcacaa.MemT
end
section
namespace Go.Proofs.Ytijfkpoofpcacaa.Memory
open Go.RowKit Go.Proofs.Ytijfkpoofpcacaa.Blk Go.Proofs.Ytijfkpoofpcacaa.Core
def memF (A C H : Int) (j : Nat) : Nat → Int := fun k => if k = 0 then 1 else if k = 3 then 1 else
  if 0 ≤ (k : Int) - slotsV C H ∧ ((k : Int) - slotsV C H) % roomV A = 1 ∧ ((k : Int) - slotsV C H) / roomV A < (j : Int) then ((k : Int) - slotsV C H) / roomV A + 2 else 0
theorem memF_link {A C H : Int} {j s : Nat} (h4 : 4 ≤ slotsV C H) (hr : 5 ≤ roomV A) (hs : s < j) : memF A C H j (slotsV C H + s * roomV A + 1).toNat = s + 2 := by
  have hm : 0 ≤ (s : Int) * roomV A := Int.mul_nonneg (by omega) (by omega)
  unfold memF
  have e : (((slotsV C H + s * roomV A + 1).toNat : Nat) : Int) - slotsV C H = 1 + s * roomV A := by omega
  rw [if_neg (by omega), if_neg (by omega), e]
  have e1 : (1 + (s : Int) * roomV A) % roomV A = 1 := by rw [Int.add_mul_emod_self_right, Int.emod_eq_of_lt (by omega) (by omega)]
  have e2 : (1 + (s : Int) * roomV A) / roomV A = s := by rw [Int.add_mul_ediv_right _ _ (by omega), Int.ediv_eq_zero_of_lt (by omega) (by omega)]; omega
  rw [e1, e2, if_pos ⟨by omega, rfl, by omega⟩]
theorem memF_succ {A C H : Int} {j : Nat} (h4 : 4 ≤ slotsV C H) (hr : 5 ≤ roomV A) : upd (memF A C H j) (slotsV C H + j * roomV A + 1).toNat ((j : Int) + 2) = memF A C H (j + 1) := by
  have hm : 0 ≤ (j : Int) * roomV A := Int.mul_nonneg (by omega) (by omega)
  funext k
  unfold upd
  by_cases c : k = (slotsV C H + j * roomV A + 1).toNat
  · rw [if_pos c, c, memF_link h4 hr (Nat.lt_succ_self j)]
  · rw [if_neg c]
    unfold memF
    by_cases k0 : k = 0
    · rw [if_pos k0, if_pos k0]
    · rw [if_neg k0, if_neg k0]
      by_cases k3 : k = 3
      · rw [if_pos k3, if_pos k3]
      · rw [if_neg k3, if_neg k3]
        by_cases d : 0 ≤ (k : Int) - slotsV C H ∧ ((k : Int) - slotsV C H) % roomV A = 1 ∧ ((k : Int) - slotsV C H) / roomV A < (j : Int)
        · rw [if_pos d, if_pos ⟨d.1, d.2.1, by have := d.2.2; omega⟩]
        · rw [if_neg d, if_neg (fun x => d ⟨x.1, x.2.1, by
            have h1 := x.2.2
            rcases Int.lt_or_le (((k : Int) - slotsV C H) / roomV A) (j : Int) with g | g
            · exact g
            · exfalso
              have e : ((k : Int) - slotsV C H) / roomV A = j := by omega
              have := Int.mul_ediv_add_emod ((k : Int) - slotsV C H) (roomV A)
              rw [e, x.2.1, Int.mul_comm] at this
              exact c (by omega)⟩)]
end Go.Proofs.Ytijfkpoofpcacaa.Memory
end
section
set_option linter.unusedVariables false
namespace Go.Proofs.Ytijfkpoofpcacaa.PlanC
open Go.RowKit Go.Proofs.Ytijfkpoofpcacaa.PArenaPlays Go.Proofs.YtijfkpoofpcacaaW.PrintWords Go.Proofs.Ytijfkpoofpcacaa.Blk Go.Proofs.Ytijfkpoofpcacaa.Core Go.Proofs.Ytijfkpoofpcacaa.PuArenaPlays Go.Proofs.Ytijfkpoofpcacaa.MemC Go.Proofs.Ytijfkpoofpcacaa.MemD Go.Proofs.Ytijfkpoofpcacaa.MemT Go.Proofs.Ytijfkpoofpcacaa.Memory
section
variable (S A C H G K : Int) (w : World)
theorem right_c : Calls Try.prog 66 #[.agg #[.int .i64 S, .int .i64 A, .int .i64 C, .int .i64 H, .int .i64 G, .int .i64 K]] w fun e w' => e = .returned (.bool (rightB S A C H G K)) ∧ Below w.heap.size w w' :=
  plan_Right.calls S A C H G K _ w (p_pRight S A C H G K)
theorem rRight_c : Calls Try.prog 21 #[.agg #[.int .i64 S, .int .i64 A, .int .i64 C, .int .i64 H, .int .i64 G, .int .i64 K]] w fun e w' => e = .returned (.bool (rightB S A C H G K)) ∧ Below w.heap.size w w' :=
  withyref06_Right.calls S A C H G K _ w (p_rRight S A C H G K)
theorem size_c : Calls Try.prog 67 #[.agg #[.int .i64 S, .int .i64 A, .int .i64 C, .int .i64 H, .int .i64 G, .int .i64 K]] w fun e w' => e = .returned (.int .i64 (if rightB S A C H G K = true then sizeV S A C H else 0)) ∧ Below w.heap.size w w' :=
  plan_Size.calls S A C H G K _ w (p_pSize S A C H G K)
theorem size_yes (h : rightB S A C H G K = true) : Calls Try.prog 67 #[.agg #[.int .i64 S, .int .i64 A, .int .i64 C, .int .i64 H, .int .i64 G, .int .i64 K]] w fun e w' => e = .returned (.int .i64 (sizeV S A C H)) ∧ Below w.heap.size w w' :=
  plan_Size.calls S A C H G K _ w (by have := p_pSize S A C H G K; rw [if_pos h] at this; exact this)
theorem link_c (h : rightB S A C H G K = true) (s : Int) (s0 : 0 ≤ s) (s1 : s < S) : Calls Try.prog 69 #[.agg #[.int .i64 S, .int .i64 A, .int .i64 C, .int .i64 H, .int .i64 G, .int .i64 K], .int .i64 s] w fun e w' => e = .returned (.int .i64 (slotsV C H + s * roomV A + 1)) ∧ Below w.heap.size w w' :=
  plan_Link.calls 1 S A C H G K s _ w (by rw [p_pLink 1 S A C H G K s (by decide), if_pos ⟨h, s0, s1⟩])
end
theorem top_c (w : World) : Calls Try.prog 68 #[.int .u64 0, .int .i64 0] w fun e w' => e = .returned (.tuple #[.int .u64 1, .bool true]) ∧ Below w.heap.size w w' :=
  tag_Top.calls 5 0 0 _ _ w (by rw [p_Top 5 0 0 (by decide) (by decide) (by decide)]; rfl)
theorem size_bd {S A C H G K : Int} (h : rightB S A C H G K = true) : 4 ≤ slotsV C H ∧ slotsV C H ≤ 156 ∧ 5 ≤ roomV A ∧ roomV A ≤ 10 ∧ slotsV C H + 5 ≤ sizeV S A C H ∧ sizeV S A C H ≤ 800 := by
  have hr := right_iff.1 h
  have h1 := slotsV_bd (C := C) (H := H) (by omega) (by omega) (by omega) (by omega)
  have h2 := roomV_bd (A := A) (by omega) (by omega)
  have h3 := mul_le2 (a := S) (b := roomV A) (m := 64) (n := 10) (by omega) (by omega) (by omega) (by omega)
  have h4 : 1 * roomV A ≤ S * roomV A := Int.mul_le_mul_of_nonneg_right (by omega) (by omega)
  unfold sizeV
  omega
theorem at_bd {S A C H G K : Int} (h : rightB S A C H G K = true) {s i : Int} (s0 : 0 ≤ s) (s1 : s < S) (i0 : 0 ≤ i) (i1 : i < roomV A) : 0 ≤ s * roomV A ∧ slotsV C H + s * roomV A + i < sizeV S A C H := by
  have hb := size_bd h
  have h4 : (s + 1) * roomV A ≤ S * roomV A := Int.mul_le_mul_of_nonneg_right (by omega) (by omega)
  rw [Int.add_mul] at h4
  unfold sizeV
  exact ⟨Int.mul_nonneg s0 (by omega), by omega⟩
theorem f0_upd (A C H : Int) : upd (upd (fun _ => 0) 0 1) 3 1 = memF A C H 0 := by
  funext k
  unfold memF upd
  by_cases k3 : k = 3
  · subst k3; rfl
  · rw [if_neg k3]
    by_cases k0 : k = 0
    · rw [if_pos k0, if_pos k0]
    · rw [if_neg k0, if_neg k0, if_neg k3, if_neg]
      intro d
      have h1 := d.1
      have h2 := d.2.2
      rcases Int.lt_trichotomy (roomV A) 0 with g | g | g
      · unfold roomV at g; split at g <;> omega
      · unfold roomV at g; split at g <;> omega
      · have := Int.ediv_nonneg h1 (Int.le_of_lt g)
        omega
theorem rowB_new (w : World) (n : Nat) (f : Nat → Int) : RowB (w.alloc (.cells (rowF .u64 n f) 33)) (some ⟨w.heap.size, 0, none⟩) n w.heap.size n f :=
  ⟨Nat.le_refl _, fun _ => ⟨rfl, _, Blk.new w _ _, fun i hi => rowF_get hi⟩⟩
theorem rowB_put (w : World) (n i : Nat) (f : Nat → Int) (x : Int) : RowB (w.alloc (.cells ((rowF .u64 n f).setIfInBounds i (.int .u64 x)) 33)) (some ⟨w.heap.size, 0, none⟩) n w.heap.size n (upd f i x) := by
  rw [rowF_set]; exact rowB_new w n _
set_option maxHeartbeats 4000000 in
set_option maxRecDepth 100000 in
theorem memory_c (S A C H G K : Int) (w : World) (h : rightB S A C H G K = true) : Calls Try.prog 20 #[.agg #[.int .i64 S, .int .i64 A, .int .i64 C, .int .i64 H, .int .i64 G, .int .i64 K]] w fun e w' =>
    ∃ m b, e = .returned (.pointer (some ⟨m, 0, none⟩)) ∧ MemB w' m b (Ms.of (sizeV S A C H).toNat (memF A C H (S - 1).toNat)) ∧ w.heap.size ≤ m ∧ w.heap.size ≤ b ∧ Below w.heap.size w w' := by
  have hbd := size_bd h
  have hr := right_iff.1 h
  obtain ⟨n, hn⟩ := Int.eq_ofNat_of_zero_le (show 0 ≤ sizeV S A C H by omega)
  have hsz := Lib.hid hn
  have hat := fun (s : Int) (s0 : 0 ≤ s) (s1 : s < S) => at_bd h s0 s1 (i := 1) (by decide) (by omega)
  have hlk := fun (s : Int) (s0 : 0 ≤ s) (s1 : s < S) (w : World) => link_c S A C H G K w h s s0 s1
  obtain ⟨s4, s5, r4, r5, n4, n5⟩ := hbd
  rw [hn] at n4 n5
  rw [hn] at hat
  have m1 : ∀ w : World, (Instr.makeSlice 29 (.int .i64 (n : Int)) (.int .i64 (n : Int))).run Try.prog w = .ok (.slice (some ⟨w.heap.size, 0, none⟩) n n) (w.alloc (.cells (rowF .u64 n (fun _ => 0)) 33)) := fun w => make_run (n : Int) (by omega) (by omega) w
  have hf := Lib.hid (Blk.new w 23 #[.int .i64 S, .int .i64 A, .int .i64 C, .int .i64 H, .int .i64 G, .int .i64 K])
  replace hat := Lib.hid hat
  replace hlk := Lib.hid hlk
  replace h := Lib.hid h
  clear hn
  rw [hsz.out]
  obtain ⟨q1, q2, q3, q4⟩ : 1 ≤ S ∧ S ≤ 64 ∧ 0 ≤ A ∧ A ≤ 8 := by omega
  clear hr
  go_enter Try.func20, Try.ntmps20
  generalize hCFe : w.heap.size = CF at *
  go_wp2_with (first
    | (go_at_call 66; refine (right_c _ _ _ _ _ _ _).mono ?_; rintro e w1 ⟨rfl, hb1⟩; rw [h.out]; have hf1 := hf.out.below hb1 hf.out.lt; have k0 := hf1.cell (i := 0) rfl; have k1 := hf1.cell (i := 1) rfl; have k2 := hf1.cell (i := 2) rfl; have k3 := hf1.cell (i := 3) rfl; have k4 := hf1.cell (i := 4) rfl; have k5 := hf1.cell (i := 5) rfl; replace hf1 := Lib.hid hf1; replace hb1 := Lib.hid hb1)
    | (go_at_call 67; refine (size_yes _ _ _ _ _ _ _ h.out).mono ?_; rintro e w2 ⟨rfl, hb2⟩; rw [hsz.out]; have hf2 := hf1.out.below hb2 hf1.out.lt; replace hf2 := Lib.hid hf2; replace hb2 := Lib.hid hb2; have hR2 := rowB_new w2 n (fun _ => 0); obtain ⟨_, x0, y0⟩ := hR2.cell (show 0 < n by omega); replace hR2 := Lib.hid hR2)
    | (go_at_call 68; refine (top_c _).mono ?_; rintro e w4 ⟨rfl, hb4⟩; have hR4 := (rowB_put w2 n 0 (fun _ => 0) 1).below hb4 (Nat.le_refl _); have hf4 := (hf2.out.alloc _).below hb4 (hf2.out.alloc _).lt; obtain ⟨_, x3, y3⟩ := hR4.cell (show 3 < n by omega); have k4' := hf4.cell (i := 0) rfl; have ne1 : ¬ CF = w2.heap.size := fun c => absurd hf2.out.lt (by rw [c]; exact Nat.lt_irrefl _); replace hR4 := Lib.hid hR4; replace hf4 := Lib.hid hf4; replace hb4 := Lib.hid hb4))
  have hR5 := hR4.out.set 3 (by omega) 1
  rw [f0_upd A C H] at hR5
  have hf5 := hf4.out.other ⟨w2.heap.size, 3, none⟩ ne1 (.int .u64 1)
  have z1 := hb1.out.size
  have z2 := hb2.out.size
  have z4 := hb4.out.size
  have sza : ∀ o : Obj, (w2.alloc o).heap.size = w2.heap.size + 1 := fun o => by simp
  have szb : ∀ o : Obj, (w.alloc o).heap.size = CF + 1 := fun o => by rw [← hCFe]; simp
  rw [sza] at z4
  rw [szb] at z1
  have hW : Below CF w (w4.setCell ⟨w2.heap.size, 3, none⟩ (.int .u64 1)) := by
    have g1 : Below CF w w1 := hCFe ▸ below_pre hb1.out
    have g2 := g1.trans (hb2.out.mono (by omega))
    have g3 := (g2.alloc (by omega) (.cells ((rowF .u64 n (fun _ => 0)).setIfInBounds 0 (.int .u64 1)) 33)).trans (hb4.out.mono (by rw [sza]; omega))
    exact g3.setCell (p := ⟨w2.heap.size, 3, none⟩) (by show CF ≤ w2.heap.size; omega) _
  have hB0 : CF < w2.heap.size := by omega
  have hs5 : w2.heap.size < (w4.setCell ⟨w2.heap.size, 3, none⟩ (.int .u64 1)).heap.size := hR5.lt (by omega)
  clear hR4 hf4 hR2 hf2 hf1 hf hb4 hb2 hb1 x0 y0 x3 y3 k4' k0 k1 k2 k3 k4 k5 z1 z2 z4 m1 ne1 sza szb
  generalize w2.heap.size = B at *
  generalize w4.setCell ⟨B, 3, none⟩ (.int .u64 1) = w5 at *
  replace hR5 := Lib.hid hR5
  replace hf5 := Lib.hid hf5
  replace hW := Lib.hid hW
  go_loopw [22] (fun z wr => ∃ i : Nat, (i : Int) ≤ S - 1 ∧ z = .int .i64 (i : Int) ∧ RowB wr (some ⟨B, 0, none⟩) n B n (memF A C H i) ∧ Blk wr CF 23 #[.int .i64 S, .int .i64 A, .int .i64 C, .int .i64 H, .int .i64 G, .int .i64 K] ∧ Below CF w wr) (fun z _ => S.toNat - (intOf z).toNat)
  case atStart => exact ⟨0, by omega, rfl, hR5.out, hf5.out, hW.out⟩
  case round =>
    obtain ⟨i, hi, rfl, hRi, hCi, hWi⟩ := hrel
    have hlt' := hRi.lt (by omega)
    by_cases hlt : (i : Int) < S - 1
    · obtain ⟨p1, p2⟩ := hat.out i (by omega) (by omega)
      obtain ⟨ix, hix⟩ := Int.eq_ofNat_of_zero_le (show 0 ≤ slotsV C H + i * roomV A + 1 by omega)
      have hl := hlk.out i (by omega) (by omega)
      rw [hix] at hl p2
      have hix' := Lib.hid hix
      clear hix p1
      have k0 := hCi.cell (i := 0) rfl
      have k1 := hCi.cell (i := 1) rfl
      have k2 := hCi.cell (i := 2) rfl
      have k3 := hCi.cell (i := 3) rfl
      have k4 := hCi.cell (i := 4) rfl
      have k5 := hCi.cell (i := 5) rfl
      have p3 : ix < n := by omega
      replace hRi := Lib.hid hRi
      replace hCi := Lib.hid hCi
      replace hWi := Lib.hid hWi
      have ew : IntKind.u64.wrap ((i : Int) + 2) = (i : Int) + 2 := Core.wrap_u64_id _ (by omega) (by omega)
      go_wp2_with (go_at_call 69; refine (hl _).mono ?_; rintro e w7 ⟨rfl, hb7⟩; have hR7 := hRi.out.below hb7 (Nat.le_refl _); have hC7 := hCi.out.below hb7 hCi.out.lt; obtain ⟨_, x7, y7⟩ := hR7.cell p3; replace hR7 := Lib.hid hR7; replace hC7 := Lib.hid hC7; replace hb7 := Lib.hid hb7)
      go_roundw
      case rel =>
        have hR8 := hR7.out.set ix p3 ((i : Int) + 2)
        have e : ix = (slotsV C H + (i : Int) * roomV A + 1).toNat := by have := hix'.out; omega
        rw [e, memF_succ s4 r4, ← e] at hR8
        have sz := hb7.out.size
        exact ⟨i + 1, by omega, by go_num, hR8, hC7.out.other ⟨B, ix, none⟩ (by show ¬ CF = B; omega) _, (hWi.out.trans (hb7.out.mono (by omega))).setCell (p := ⟨B, ix, none⟩) (by show CF ≤ B; omega) _⟩
      case measure => simp [intOf]; omega
    · have hj : i = (S - 1).toNat := by omega
      replace hRi := Lib.hid hRi
      replace hCi := Lib.hid hCi
      replace hWi := Lib.hid hWi
      go_wp2_with (go_at_call 70; refine (of_c _ _ _ _ _ _ hRi.out (by omega)).mono ?_; rintro e w8 ⟨m, b, rfl, hM, hm, hb, hb8⟩; replace hM := Lib.hid hM; replace hb8 := Lib.hid hb8)
      go_ret
      rw [← hj]
      exact ⟨m, b, rfl, hM.out, by omega, by omega, hWi.out.trans (hb8.out.mono (by omega))⟩
end Go.Proofs.Ytijfkpoofpcacaa.PlanC
end
section
namespace Go.Proofs.Ytijfkpoofpcacaa.PArenaPlays
open Go.RowKit Go.Proofs.YtijfkpoofpcacaaW.PrintWords Go.Proofs.YtijfkpoofpcacaaW.PrintLast Go.Proofs.YtijfkpoofpcacaaW.PrintMore
attribute [local go_sem] max2_int min2_int max_two min_two max_three min_three max_four min_four
set_option linter.unusedVariables false
set_option linter.unusedSimpArgs false
def plan_Body.f (k : Nat) (a0_0 : Int) (a0_1 : Int) (a0_2 : Int) (a0_3 : Int) (a0_4 : Int) (a0_5 : Int) (a1 : Int) (a2 : Int) : Option (Int) := if a2 < 0 then (some (-1)) else (if a2 > 8 then (some (-1)) else ((plan_within.f k a0_0 a0_1 a0_2 a0_3 a0_4 a0_5 a1 (wrap64 (2 + a2))).bind fun t196 => (some t196)))
set_option maxHeartbeats 8000000 in
set_option maxRecDepth 100000 in
theorem plan_Body.calls (k : Nat) (a0_0 : Int) (a0_1 : Int) (a0_2 : Int) (a0_3 : Int) (a0_4 : Int) (a0_5 : Int) (a1 : Int) (a2 : Int) (r : Int) (w : World) (h : plan_Body.f k a0_0 a0_1 a0_2 a0_3 a0_4 a0_5 a1 a2 = some r) :
    Calls Try.prog 85 #[.agg #[.int .i64 a0_0, .int .i64 a0_1, .int .i64 a0_2, .int .i64 a0_3, .int .i64 a0_4, .int .i64 a0_5], .int .i64 a1, .int .i64 a2] w fun e w' => e = .returned (.int .i64 r) ∧ Below w.heap.size w w' := by
  have hu23 := Try.underlying23
  have HB := Aside0.mk (Below.refl w.heap.size w)
  have H : (if a2 < 0 then (some (-1)) else (if a2 > 8 then (some (-1)) else ((plan_within.f k a0_0 a0_1 a0_2 a0_3 a0_4 a0_5 a1 (wrap64 (2 + a2))).bind fun t196 => (some t196)))) = some r := h
  clear h
  by_cases c4 : a2 < 0
  · rw [if_pos c4] at H
    have c4b0 : decide (a2 < 0) = true := decide_eq_true c4
    clear c4
    obtain rfl := Option.some.inj H
    go_enter Try.func85, Try.ntmps85
    go_wp2_with (first | ((with_reducible refine gate_dst (N := 3) rfl ?_); refine box_event ?hg (N := 3) ?hd (cs := #[.int .i64 a0_0, .int .i64 a0_1, .int .i64 a0_2, .int .i64 a0_3, .int .i64 a0_4, .int .i64 a0_5]) (t := 23) ?hr ?_; (case hd => rfl); (case hg => rfl); (case hr => first | (go_simp; done) | (go_simp; rfl)); intro gb195 hg w5 hbox hb; have n0_ := Aside0.mk (below_step (by repeat (first | (with_reducible first | exact HB.out | apply below_alloc | apply pw_below_drewN | apply below_drew1) | exact HB.out)) hb); have n1_ := Aside0.mk (hbox); have n2_ := Aside0.mk ((by rw [hg]; exact (below_size (by repeat (first | (with_reducible first | exact HB.out | apply below_alloc | apply pw_below_drewN | apply below_drew1) | exact HB.out))) : w.heap.size ≤ gb195)); have n3_ := Aside0.mk ((by rw [hg]; exact (below_size (by repeat (first | (with_reducible first | exact HB.out | apply below_alloc | apply pw_below_drewN | apply below_drew1) | exact HB.out))) : w.heap.size ≤ gb195)); clear HB; have HB := n0_; have BK195 := n1_; have GW195 := n2_; have GE195 := n3_; clear n0_ n1_ n2_ n3_; clear hb hbox hg))
    go_ret
    exact ⟨by first | rfl | (simp [errW_none, errW_some] <;> rfl) | (simp [*, errW_none, errW_some] <;> rfl), by repeat (first | (with_reducible first | exact HB.out | apply below_alloc | apply pw_below_drewN | apply below_drew1 | refine below_set ?_ GE195.out) | exact HB.out)⟩
  · rw [if_neg c4] at H
    have c4b0 : decide (a2 < 0) = false := decide_eq_false c4
    clear c4
    by_cases c6 : a2 > 8
    · rw [if_pos c6] at H
      have c6b0 : decide (8 < a2) = true := decide_eq_true c6
      clear c6
      obtain rfl := Option.some.inj H
      go_enter Try.func85, Try.ntmps85
      go_wp2_with (first | ((with_reducible refine gate_dst (N := 3) rfl ?_); refine box_event ?hg (N := 3) ?hd (cs := #[.int .i64 a0_0, .int .i64 a0_1, .int .i64 a0_2, .int .i64 a0_3, .int .i64 a0_4, .int .i64 a0_5]) (t := 23) ?hr ?_; (case hd => rfl); (case hg => rfl); (case hr => first | (go_simp; done) | (go_simp; rfl)); intro gb195 hg w7 hbox hb; have n0_ := Aside0.mk (below_step (by repeat (first | (with_reducible first | exact HB.out | apply below_alloc | apply pw_below_drewN | apply below_drew1) | exact HB.out)) hb); have n1_ := Aside0.mk (hbox); have n2_ := Aside0.mk ((by rw [hg]; exact (below_size (by repeat (first | (with_reducible first | exact HB.out | apply below_alloc | apply pw_below_drewN | apply below_drew1) | exact HB.out))) : w.heap.size ≤ gb195)); have n3_ := Aside0.mk ((by rw [hg]; exact (below_size (by repeat (first | (with_reducible first | exact HB.out | apply below_alloc | apply pw_below_drewN | apply below_drew1) | exact HB.out))) : w.heap.size ≤ gb195)); clear HB; have HB := n0_; have BK195 := n1_; have GW195 := n2_; have GE195 := n3_; clear n0_ n1_ n2_ n3_; clear hb hbox hg))
      go_ret
      exact ⟨by first | rfl | (simp [errW_none, errW_some] <;> rfl) | (simp [*, errW_none, errW_some] <;> rfl), by repeat (first | (with_reducible first | exact HB.out | apply below_alloc | apply pw_below_drewN | apply below_drew1 | refine below_set ?_ GE195.out) | exact HB.out)⟩
    · rw [if_neg c6] at H
      have c6b0 : decide (8 < a2) = false := decide_eq_false c6
      clear c6
      replace H := Option.bind_eq_some_iff.mp H
      obtain ⟨t196, A80, H⟩ := H
      replace H : (some t196) = some r := H
      have A8 := Aside0.mk A80
      clear A80
      obtain rfl := Option.some.inj H
      go_enter Try.func85, Try.ntmps85
      go_wp2_with (first | ((with_reducible refine gate_dst (N := 3) rfl ?_); refine box_event ?hg (N := 3) ?hd (cs := #[.int .i64 a0_0, .int .i64 a0_1, .int .i64 a0_2, .int .i64 a0_3, .int .i64 a0_4, .int .i64 a0_5]) (t := 23) ?hr ?_; (case hd => rfl); (case hg => rfl); (case hr => first | (go_simp; done) | (go_simp; rfl)); intro gb195 hg w9 hbox hb; have n0_ := Aside0.mk (below_step (by repeat (first | (with_reducible first | exact HB.out | apply below_alloc | apply pw_below_drewN | apply below_drew1) | exact HB.out)) hb); have n1_ := Aside0.mk (hbox); have n2_ := Aside0.mk ((by rw [hg]; exact (below_size (by repeat (first | (with_reducible first | exact HB.out | apply below_alloc | apply pw_below_drewN | apply below_drew1) | exact HB.out))) : w.heap.size ≤ gb195)); have n3_ := Aside0.mk ((by rw [hg]; exact (below_size (by repeat (first | (with_reducible first | exact HB.out | apply below_alloc | apply pw_below_drewN | apply below_drew1) | exact HB.out))) : w.heap.size ≤ gb195)); clear HB; have HB := n0_; have BK195 := n1_; have GW195 := n2_; have GE195 := n3_; clear n0_ n1_ n2_ n3_; clear hb hbox hg; have hcz10_0 : w9.cell? ⟨gb195, 0, none⟩ = some (.int .i64 a0_0) := (blk_cell BK195.out 0).trans rfl; have hcz10_1 : w9.cell? ⟨gb195, 1, none⟩ = some (.int .i64 a0_1) := (blk_cell BK195.out 1).trans rfl; have hcz10_2 : w9.cell? ⟨gb195, 2, none⟩ = some (.int .i64 a0_2) := (blk_cell BK195.out 2).trans rfl; have hcz10_3 : w9.cell? ⟨gb195, 3, none⟩ = some (.int .i64 a0_3) := (blk_cell BK195.out 3).trans rfl; have hcz10_4 : w9.cell? ⟨gb195, 4, none⟩ = some (.int .i64 a0_4) := (blk_cell BK195.out 4).trans rfl; have hcz10_5 : w9.cell? ⟨gb195, 5, none⟩ = some (.int .i64 a0_5) := (blk_cell BK195.out 5).trans rfl; have hfz10_0 := blk_frozen BK195.out 0; have hfz10_1 := blk_frozen BK195.out 1; have hfz10_2 := blk_frozen BK195.out 2; have hfz10_3 := blk_frozen BK195.out 3; have hfz10_4 := blk_frozen BK195.out 4; have hfz10_5 := blk_frozen BK195.out 5) | ((with_reducible refine gate_callee (f := 95) rfl ?_); refine goesL_ (some 17) rfl rfl Try.func95 (by kernel_rfl) rfl #[.agg #[.int .i64 a0_0, .int .i64 a0_1, .int .i64 a0_2, .int .i64 a0_3, .int .i64 a0_4, .int .i64 a0_5], .int .i64 a1, .int .i64 (wrap64 (2 + a2))] rfl (by (try simp only [List.map_toArray, List.map_cons, List.map_nil]); first | done | rfl | (simp only [List.length_drop, List.length_take]; rfl)) ?_; (with_reducible refine (plan_within.calls k a0_0 a0_1 a0_2 a0_3 a0_4 a0_5 a1 (wrap64 (2 + a2)) t196 _ A8.out).mono ?_); rintro e w11 ⟨rfl, hb⟩; refine ⟨_, rfl, ?_⟩; have n0_ := Aside0.mk (blk_below (g := gb195) (o := .cells #[.int .i64 a0_0, .int .i64 a0_1, .int .i64 a0_2, .int .i64 a0_3, .int .i64 a0_4, .int .i64 a0_5] 23 (0, 0)) (by (with_reducible repeat (first | refine blk_drewN ?_ _ | refine blk_drew ?_ | refine blk_alloc ?_ _)); exact BK195.out) hb); have n1_ := Aside0.mk (below_step (by repeat (first | (with_reducible first | exact HB.out | apply below_alloc | apply pw_below_drewN | apply below_drew1 | refine below_set ?_ GE195.out) | exact HB.out)) hb); clear BK195; clear HB; have BK195 := n0_; have HB := n1_; clear n0_ n1_; (try clear hb); (try clear hb2); (try clear hk); (try clear hi)))
      go_ret
      exact ⟨by first | rfl | (simp [errW_none, errW_some] <;> rfl) | (simp [*, errW_none, errW_some] <;> rfl), by repeat (first | (with_reducible first | exact HB.out | apply below_alloc | apply pw_below_drewN | apply below_drew1 | refine below_set ?_ GE195.out) | exact HB.out)⟩
def word_mask.f (a0 : Int) : Option (Int) := if 0 ≤ a0 then (some (IntKind.u64.wrap ((shl .u64 1 a0) - 1))) else (none)
set_option maxHeartbeats 8000000 in
set_option maxRecDepth 100000 in
theorem word_mask.calls (a0 : Int) (r : Int) (w : World) (h : word_mask.f a0 = some r) :
    Calls Try.prog 111 #[.int .i64 a0] w fun e w' => e = .returned (.int .u64 r) ∧ Drawn0 w w' := by
  have H : (if 0 ≤ a0 then (some (IntKind.u64.wrap ((shl .u64 1 a0) - 1))) else (none)) = some r := h
  clear h
  by_cases c2 : 0 ≤ a0
  · rw [if_pos c2] at H
    have c2b0 := eq_true c2
    have c2b1 : decide (0 ≤ a0) = true := decide_eq_true c2
    clear c2
    obtain ⟨ji3, hji3⟩ : ∃ j_ : Int, (shl .u64 1 a0) = j_ := ⟨_, rfl⟩
    replace H : (some (IntKind.u64.wrap ((ji3) - 1))) = some r := by first | (rw [hji3] at H; exact H) | (simp only [hji3] at H ⊢; exact H)
    have hji3_ : (IntKind.u64.wrap (1 * 2 ^ min a0.toNat 64)) = ji3 := hji3
    have hji3z : a0 ≤ 64 → (IntKind.u64.wrap (1 * 2 ^ a0.toNat)) = ji3 := shl_small hji3
    have hji3u : (IntKind.u64.wrap (2 ^ min a0.toNat 64)) = ji3 := by have h_ := hji3_; rw [Int.one_mul] at h_; exact h_
    have hji3v : a0 ≤ 64 → (IntKind.u64.wrap (2 ^ a0.toNat)) = ji3 := fun hle_ => by have h_ := hji3z hle_; rw [Int.one_mul] at h_; exact h_
    obtain rfl := Option.some.inj H
    go_enter Try.func111, Try.ntmps111
    go_wp2
    go_ret
    exact ⟨by first | rfl | (simp; done) | (simp only [← hji3] <;> (first | rfl | simp)) | (simp [*]; done), by repeat (first | exact Drawn0.refl _ | apply Drawn0.step)⟩
  · rw [if_neg c2] at H
    exact absurd H (by simp)
def word_Get.f (a0 : Int) (a1 : Int) (a2 : Int) : Option (Int) := (word_some.f a1 a2).bind fun t198 => (if t198 = true then (if 0 ≤ a1 then ((word_mask.f a2).bind fun t199 => (some (Go.bits .and .u64 (shr .u64 a0 a1) t199))) else (none)) else (some 0))
set_option maxHeartbeats 8000000 in
set_option maxRecDepth 100000 in
theorem word_Get.calls (a0 : Int) (a1 : Int) (a2 : Int) (r : Int) (w : World) (h : word_Get.f a0 a1 a2 = some r) :
    Calls Try.prog 104 #[.int .u64 a0, .int .i64 a1, .int .i64 a2] w fun e w' => e = .returned (.int .u64 r) ∧ Drawn0 w w' := by
  have H : ((word_some.f a1 a2).bind fun t198 => (if t198 = true then (if 0 ≤ a1 then ((word_mask.f a2).bind fun t199 => (some (Go.bits .and .u64 (shr .u64 a0 a1) t199))) else (none)) else (some 0))) = some r := h
  clear h
  replace H := Option.bind_eq_some_iff.mp H
  obtain ⟨t198, A40, H⟩ := H
  replace H : (if t198 = true then (if 0 ≤ a1 then ((word_mask.f a2).bind fun t199 => (some (Go.bits .and .u64 (shr .u64 a0 a1) t199))) else (none)) else (some 0)) = some r := H
  have A4 := Aside0.mk A40
  clear A40
  by_cases c5 : t198 = true
  · subst c5
    have H1 : (if 0 ≤ a1 then ((word_mask.f a2).bind fun t199 => (some (Go.bits .and .u64 (shr .u64 a0 a1) t199))) else (none)) = some r := by rw [if_pos rfl] at H; exact H
    clear H
    have H := H1
    clear H1
    by_cases c6 : 0 ≤ a1
    · rw [if_pos c6] at H
      have c6b0 := eq_true c6
      have c6b1 : decide (0 ≤ a1) = true := decide_eq_true c6
      clear c6
      obtain ⟨ji7, hji7⟩ : ∃ j_ : Int, (shr .u64 a0 a1) = j_ := ⟨_, rfl⟩
      replace H : ((word_mask.f a2).bind fun t199 => (some (Go.bits .and .u64 (ji7) t199))) = some r := by first | (rw [hji7] at H; exact H) | (simp only [hji7] at H ⊢; exact H)
      (try rw [hji7] at A4)
      have hji7_ : (a0 / 2 ^ min a1.toNat 64) = ji7 := hji7
      have hji7z : a1 ≤ 64 → (a0 / 2 ^ a1.toNat) = ji7 := shr_small hji7
      replace H := Option.bind_eq_some_iff.mp H
      obtain ⟨t199, A80, H⟩ := H
      replace H : (some (Go.bits .and .u64 (ji7) t199)) = some r := H
      have A8 := Aside0.mk A80
      clear A80
      obtain rfl := Option.some.inj H
      go_enter Try.func104, Try.ntmps104
      go_wp2_with (first | (go_at_call 105; (with_reducible refine (word_some.calls a1 a2 true _ A4.out).mono ?_); rintro e w' ⟨rfl, ⟨nd, rfl⟩⟩; (try first | exact ⟨rfl, _, World.drewN_drewN _ _ _⟩ | exact ⟨rfl, _, Eq.trans (World.drewN_drewN _ _ _) (congrArg (World.drewN _) (Nat.add_assoc _ _ _))⟩)) | (go_at_call 111; (with_reducible refine (word_mask.calls a2 t199 _ A8.out).mono ?_); rintro e w' ⟨rfl, ⟨nd, rfl⟩⟩; (try first | exact ⟨rfl, _, World.drewN_drewN _ _ _⟩ | exact ⟨rfl, _, Eq.trans (World.drewN_drewN _ _ _) (congrArg (World.drewN _) (Nat.add_assoc _ _ _))⟩)))
      repeat (go_quiet (first | (go_at_call 105; (with_reducible refine (word_some.calls a1 a2 true _ A4.out).mono ?_); rintro e w' ⟨rfl, ⟨nd, rfl⟩⟩; (try first | exact ⟨rfl, _, World.drewN_drewN _ _ _⟩ | exact ⟨rfl, _, Eq.trans (World.drewN_drewN _ _ _) (congrArg (World.drewN _) (Nat.add_assoc _ _ _))⟩)) | (go_at_call 111; (with_reducible refine (word_mask.calls a2 t199 _ A8.out).mono ?_); rintro e w' ⟨rfl, ⟨nd, rfl⟩⟩; (try first | exact ⟨rfl, _, World.drewN_drewN _ _ _⟩ | exact ⟨rfl, _, Eq.trans (World.drewN_drewN _ _ _) (congrArg (World.drewN _) (Nat.add_assoc _ _ _))⟩))); try go_wp2_with (first | (go_at_call 105; (with_reducible refine (word_some.calls a1 a2 true _ A4.out).mono ?_); rintro e w' ⟨rfl, ⟨nd, rfl⟩⟩; (try first | exact ⟨rfl, _, World.drewN_drewN _ _ _⟩ | exact ⟨rfl, _, Eq.trans (World.drewN_drewN _ _ _) (congrArg (World.drewN _) (Nat.add_assoc _ _ _))⟩)) | (go_at_call 111; (with_reducible refine (word_mask.calls a2 t199 _ A8.out).mono ?_); rintro e w' ⟨rfl, ⟨nd, rfl⟩⟩; (try first | exact ⟨rfl, _, World.drewN_drewN _ _ _⟩ | exact ⟨rfl, _, Eq.trans (World.drewN_drewN _ _ _) (congrArg (World.drewN _) (Nat.add_assoc _ _ _))⟩))))
      go_ret
      exact ⟨by first | rfl | (simp; done) | (simp only [← hji7] <;> (first | rfl | simp)) | (simp [*]; done), by repeat (first | exact Drawn0.refl _ | apply Drawn0.step)⟩
    · rw [if_neg c6] at H
      exact absurd H (by simp)
  · replace c5 := Bool.eq_false_iff.mpr c5
    subst c5
    have H1 : (some 0) = some r := by rw [if_neg (show ¬ (false = true) by decide)] at H; exact H
    clear H
    have H := H1
    clear H1
    obtain rfl := Option.some.inj H
    go_enter Try.func104, Try.ntmps104
    go_wp2_with (first | (go_at_call 105; (with_reducible refine (word_some.calls a1 a2 false _ A4.out).mono ?_); rintro e w' ⟨rfl, ⟨nd, rfl⟩⟩; (try first | exact ⟨rfl, _, World.drewN_drewN _ _ _⟩ | exact ⟨rfl, _, Eq.trans (World.drewN_drewN _ _ _) (congrArg (World.drewN _) (Nat.add_assoc _ _ _))⟩)))
    repeat (go_quiet (first | (go_at_call 105; (with_reducible refine (word_some.calls a1 a2 false _ A4.out).mono ?_); rintro e w' ⟨rfl, ⟨nd, rfl⟩⟩; (try first | exact ⟨rfl, _, World.drewN_drewN _ _ _⟩ | exact ⟨rfl, _, Eq.trans (World.drewN_drewN _ _ _) (congrArg (World.drewN _) (Nat.add_assoc _ _ _))⟩))); try go_wp2_with (first | (go_at_call 105; (with_reducible refine (word_some.calls a1 a2 false _ A4.out).mono ?_); rintro e w' ⟨rfl, ⟨nd, rfl⟩⟩; (try first | exact ⟨rfl, _, World.drewN_drewN _ _ _⟩ | exact ⟨rfl, _, Eq.trans (World.drewN_drewN _ _ _) (congrArg (World.drewN _) (Nat.add_assoc _ _ _))⟩))))
    go_ret
    exact ⟨by first | rfl | (simp; done) | (simp [*]; done), by repeat (first | exact Drawn0.refl _ | apply Drawn0.step)⟩
def tag_TopParts.f (a0 : Int) : Option (Int × Int) := (word_Get.f a0 16 48).bind fun t200 => ((word_Get.f a0 0 16).bind fun t201 => (some (t200, wrap64 ((wrap64 (t201)) - 1))))
set_option maxHeartbeats 8000000 in
set_option maxRecDepth 100000 in
theorem tag_TopParts.calls (a0 : Int) (r1 : Int) (r2 : Int) (w : World) (h : tag_TopParts.f a0 = some (r1, r2)) :
    Calls Try.prog 96 #[.int .u64 a0] w fun e w' => e = .returned (.tuple #[.int .u64 r1, .int .i64 r2]) ∧ Drawn0 w w' := by
  have H : ((word_Get.f a0 16 48).bind fun t200 => ((word_Get.f a0 0 16).bind fun t201 => (some (t200, wrap64 ((wrap64 (t201)) - 1))))) = some (r1, r2) := h
  clear h
  replace H := Option.bind_eq_some_iff.mp H
  obtain ⟨t200, A20, H⟩ := H
  replace H : ((word_Get.f a0 0 16).bind fun t201 => (some (t200, wrap64 ((wrap64 (t201)) - 1)))) = some (r1, r2) := H
  have A2 := Aside0.mk A20
  clear A20
  replace H := Option.bind_eq_some_iff.mp H
  obtain ⟨t201, A30, H⟩ := H
  replace H : (some (t200, wrap64 ((wrap64 (t201)) - 1))) = some (r1, r2) := H
  have A3 := Aside0.mk A30
  clear A30
  simp only [Option.some.injEq, Prod.mk.injEq] at H
  obtain ⟨rfl, rfl⟩ := H
  go_enter Try.func96, Try.ntmps96
  go_wp2_with (first | ((with_reducible refine gate_callee (f := 104) rfl ?_); refine goesL_ (some 5) rfl rfl Try.func104 (by kernel_rfl) rfl #[.int .u64 a0, .int .i64 16, .int .i64 48] rfl (by (try simp only [List.map_toArray, List.map_cons, List.map_nil]); first | done | rfl | (simp only [List.length_drop, List.length_take]; rfl)) ?_; (with_reducible refine (word_Get.calls a0 16 48 t200 _ A2.out).mono ?_); rintro e w' ⟨rfl, ⟨nd, rfl⟩⟩; refine ⟨_, rfl, ?_⟩) | ((with_reducible refine gate_callee (f := 104) rfl ?_); refine goesL_ (some 7) rfl rfl Try.func104 (by kernel_rfl) rfl #[.int .u64 a0, .int .i64 0, .int .i64 16] rfl (by (try simp only [List.map_toArray, List.map_cons, List.map_nil]); first | done | rfl | (simp only [List.length_drop, List.length_take]; rfl)) ?_; (with_reducible refine (word_Get.calls a0 0 16 t201 _ A3.out).mono ?_); rintro e w' ⟨rfl, ⟨nd, rfl⟩⟩; refine ⟨_, rfl, ?_⟩))
  go_ret2
  exact ⟨by first | rfl | (simp; done) | (simp [*]; done), by repeat (first | exact Drawn0.refl _ | apply Drawn0.step)⟩
def stack_first.f (a0_0 : Int) (a0_1 : Int) (a0_2 : Int) (a0_3 : Int) (a0_4 : Int) (a0_5 : Int) (a1 : Int) : Option (Int) := (tag_TopParts.f a1).bind fun bt203 => (if bt203.2 ≥ a0_0 then (some (-1)) else (some bt203.2))
set_option maxHeartbeats 8000000 in
set_option maxRecDepth 100000 in
theorem stack_first.calls (a0_0 : Int) (a0_1 : Int) (a0_2 : Int) (a0_3 : Int) (a0_4 : Int) (a0_5 : Int) (a1 : Int) (r : Int) (w : World) (h : stack_first.f a0_0 a0_1 a0_2 a0_3 a0_4 a0_5 a1 = some r) :
    Calls Try.prog 75 #[.agg #[.int .i64 a0_0, .int .i64 a0_1, .int .i64 a0_2, .int .i64 a0_3, .int .i64 a0_4, .int .i64 a0_5], .int .u64 a1] w fun e w' => e = .returned (.int .i64 r) ∧ Below w.heap.size w w' := by
  have hu23 := Try.underlying23
  have HB := Aside0.mk (Below.refl w.heap.size w)
  have H : ((tag_TopParts.f a1).bind fun bt203 => (if bt203.2 ≥ a0_0 then (some (-1)) else (some bt203.2))) = some r := h
  clear h
  replace H := Option.bind_eq_some_iff.mp H
  obtain ⟨⟨t203, t204⟩, A30, H⟩ := H
  replace H : (if t204 ≥ a0_0 then (some (-1)) else (some t204)) = some r := H
  have A3 := Aside0.mk A30
  clear A30
  by_cases c4 : t204 ≥ a0_0
  · rw [if_pos c4] at H
    have c4b0 : decide (a0_0 ≤ t204) = true := decide_eq_true c4
    clear c4
    obtain rfl := Option.some.inj H
    go_enter Try.func75, Try.ntmps75
    go_wp2_with (first | ((with_reducible refine gate_dst (N := 2) rfl ?_); refine box_event ?hg (N := 2) ?hd (cs := #[.int .i64 a0_0, .int .i64 a0_1, .int .i64 a0_2, .int .i64 a0_3, .int .i64 a0_4, .int .i64 a0_5]) (t := 23) ?hr ?_; (case hd => rfl); (case hg => rfl); (case hr => first | (go_simp; done) | (go_simp; rfl)); intro gb202 hg w5 hbox hb; have n0_ := Aside0.mk (below_step (by repeat (first | (with_reducible first | exact HB.out | apply below_alloc | apply pw_below_drewN | apply below_drew1) | exact HB.out)) hb); have n1_ := Aside0.mk (hbox); have n2_ := Aside0.mk ((by rw [hg]; exact (below_size (by repeat (first | (with_reducible first | exact HB.out | apply below_alloc | apply pw_below_drewN | apply below_drew1) | exact HB.out))) : w.heap.size ≤ gb202)); have n3_ := Aside0.mk ((by rw [hg]; exact (below_size (by repeat (first | (with_reducible first | exact HB.out | apply below_alloc | apply pw_below_drewN | apply below_drew1) | exact HB.out))) : w.heap.size ≤ gb202)); clear HB; have HB := n0_; have BK202 := n1_; have GW202 := n2_; have GE202 := n3_; clear n0_ n1_ n2_ n3_; clear hb hbox hg) | ((with_reducible refine gate_callee (f := 96) rfl ?_); refine goesL_ (some 9) rfl rfl Try.func96 (by kernel_rfl) rfl #[.int .u64 a1] rfl (by (try simp only [List.map_toArray, List.map_cons, List.map_nil]); first | done | rfl | (simp only [List.length_drop, List.length_take]; rfl)) ?_; (with_reducible refine (tag_TopParts.calls a1 t203 t204 _ A3.out).mono ?_); rintro e w' ⟨rfl, ⟨nd, rfl⟩⟩; refine ⟨_, rfl, ?_⟩; have hcz6_0 : w5.cell? ⟨gb202, 0, none⟩ = some (.int .i64 a0_0) := (blk_cell BK202.out 0).trans rfl; have hcz6_1 : w5.cell? ⟨gb202, 1, none⟩ = some (.int .i64 a0_1) := (blk_cell BK202.out 1).trans rfl; have hcz6_2 : w5.cell? ⟨gb202, 2, none⟩ = some (.int .i64 a0_2) := (blk_cell BK202.out 2).trans rfl; have hcz6_3 : w5.cell? ⟨gb202, 3, none⟩ = some (.int .i64 a0_3) := (blk_cell BK202.out 3).trans rfl; have hcz6_4 : w5.cell? ⟨gb202, 4, none⟩ = some (.int .i64 a0_4) := (blk_cell BK202.out 4).trans rfl; have hcz6_5 : w5.cell? ⟨gb202, 5, none⟩ = some (.int .i64 a0_5) := (blk_cell BK202.out 5).trans rfl; have hfz6_0 := blk_frozen BK202.out 0; have hfz6_1 := blk_frozen BK202.out 1; have hfz6_2 := blk_frozen BK202.out 2; have hfz6_3 := blk_frozen BK202.out 3; have hfz6_4 := blk_frozen BK202.out 4; have hfz6_5 := blk_frozen BK202.out 5))
    go_ret
    exact ⟨by first | rfl | (simp [errW_none, errW_some] <;> rfl) | (simp [*, errW_none, errW_some] <;> rfl), by repeat (first | (with_reducible first | exact HB.out | apply below_alloc | apply pw_below_drewN | apply below_drew1 | refine below_set ?_ GE202.out) | exact HB.out)⟩
  · rw [if_neg c4] at H
    have c4b0 : decide (a0_0 ≤ t204) = false := decide_eq_false c4
    clear c4
    obtain rfl := Option.some.inj H
    go_enter Try.func75, Try.ntmps75
    go_wp2_with (first | ((with_reducible refine gate_dst (N := 2) rfl ?_); refine box_event ?hg (N := 2) ?hd (cs := #[.int .i64 a0_0, .int .i64 a0_1, .int .i64 a0_2, .int .i64 a0_3, .int .i64 a0_4, .int .i64 a0_5]) (t := 23) ?hr ?_; (case hd => rfl); (case hg => rfl); (case hr => first | (go_simp; done) | (go_simp; rfl)); intro gb202 hg w7 hbox hb; have n0_ := Aside0.mk (below_step (by repeat (first | (with_reducible first | exact HB.out | apply below_alloc | apply pw_below_drewN | apply below_drew1) | exact HB.out)) hb); have n1_ := Aside0.mk (hbox); have n2_ := Aside0.mk ((by rw [hg]; exact (below_size (by repeat (first | (with_reducible first | exact HB.out | apply below_alloc | apply pw_below_drewN | apply below_drew1) | exact HB.out))) : w.heap.size ≤ gb202)); have n3_ := Aside0.mk ((by rw [hg]; exact (below_size (by repeat (first | (with_reducible first | exact HB.out | apply below_alloc | apply pw_below_drewN | apply below_drew1) | exact HB.out))) : w.heap.size ≤ gb202)); clear HB; have HB := n0_; have BK202 := n1_; have GW202 := n2_; have GE202 := n3_; clear n0_ n1_ n2_ n3_; clear hb hbox hg) | ((with_reducible refine gate_callee (f := 96) rfl ?_); refine goesL_ (some 9) rfl rfl Try.func96 (by kernel_rfl) rfl #[.int .u64 a1] rfl (by (try simp only [List.map_toArray, List.map_cons, List.map_nil]); first | done | rfl | (simp only [List.length_drop, List.length_take]; rfl)) ?_; (with_reducible refine (tag_TopParts.calls a1 t203 t204 _ A3.out).mono ?_); rintro e w' ⟨rfl, ⟨nd, rfl⟩⟩; refine ⟨_, rfl, ?_⟩; have hcz8_0 : w7.cell? ⟨gb202, 0, none⟩ = some (.int .i64 a0_0) := (blk_cell BK202.out 0).trans rfl; have hcz8_1 : w7.cell? ⟨gb202, 1, none⟩ = some (.int .i64 a0_1) := (blk_cell BK202.out 1).trans rfl; have hcz8_2 : w7.cell? ⟨gb202, 2, none⟩ = some (.int .i64 a0_2) := (blk_cell BK202.out 2).trans rfl; have hcz8_3 : w7.cell? ⟨gb202, 3, none⟩ = some (.int .i64 a0_3) := (blk_cell BK202.out 3).trans rfl; have hcz8_4 : w7.cell? ⟨gb202, 4, none⟩ = some (.int .i64 a0_4) := (blk_cell BK202.out 4).trans rfl; have hcz8_5 : w7.cell? ⟨gb202, 5, none⟩ = some (.int .i64 a0_5) := (blk_cell BK202.out 5).trans rfl; have hfz8_0 := blk_frozen BK202.out 0; have hfz8_1 := blk_frozen BK202.out 1; have hfz8_2 := blk_frozen BK202.out 2; have hfz8_3 := blk_frozen BK202.out 3; have hfz8_4 := blk_frozen BK202.out 4; have hfz8_5 := blk_frozen BK202.out 5))
    go_ret
    exact ⟨by first | rfl | (simp [errW_none, errW_some] <;> rfl) | (simp [*, errW_none, errW_some] <;> rfl), by repeat (first | (with_reducible first | exact HB.out | apply below_alloc | apply pw_below_drewN | apply below_drew1 | refine below_set ?_ GE202.out) | exact HB.out)⟩
def stack_linked.f (a0_0 : Int) (a0_1 : Int) (a0_2 : Int) (a0_3 : Int) (a0_4 : Int) (a0_5 : Int) (a1 : Int) : Option (Int) := if a1 > (IntKind.u64.wrap (a0_0)) then (some (-1)) else (some (wrap64 ((wrap64 (a1)) - 1)))
set_option maxHeartbeats 8000000 in
set_option maxRecDepth 100000 in
theorem stack_linked.calls (a0_0 : Int) (a0_1 : Int) (a0_2 : Int) (a0_3 : Int) (a0_4 : Int) (a0_5 : Int) (a1 : Int) (r : Int) (w : World) (h : stack_linked.f a0_0 a0_1 a0_2 a0_3 a0_4 a0_5 a1 = some r) :
    Calls Try.prog 76 #[.agg #[.int .i64 a0_0, .int .i64 a0_1, .int .i64 a0_2, .int .i64 a0_3, .int .i64 a0_4, .int .i64 a0_5], .int .u64 a1] w fun e w' => e = .returned (.int .i64 r) ∧ Below w.heap.size w w' := by
  have hu23 := Try.underlying23
  have HB := Aside0.mk (Below.refl w.heap.size w)
  have H : (if a1 > (IntKind.u64.wrap (a0_0)) then (some (-1)) else (some (wrap64 ((wrap64 (a1)) - 1)))) = some r := h
  clear h
  by_cases c3 : a1 > (IntKind.u64.wrap (a0_0))
  · rw [if_pos c3] at H
    have c3b0 : decide ((IntKind.u64.wrap (a0_0)) < a1) = true := decide_eq_true c3
    clear c3
    obtain rfl := Option.some.inj H
    go_enter Try.func76, Try.ntmps76
    go_wp2_with (first | ((with_reducible refine gate_dst (N := 2) rfl ?_); refine box_event ?hg (N := 2) ?hd (cs := #[.int .i64 a0_0, .int .i64 a0_1, .int .i64 a0_2, .int .i64 a0_3, .int .i64 a0_4, .int .i64 a0_5]) (t := 23) ?hr ?_; (case hd => rfl); (case hg => rfl); (case hr => first | (go_simp; done) | (go_simp; rfl)); intro gb205 hg w4 hbox hb; have n0_ := Aside0.mk (below_step (by repeat (first | (with_reducible first | exact HB.out | apply below_alloc | apply pw_below_drewN | apply below_drew1) | exact HB.out)) hb); have n1_ := Aside0.mk (hbox); have n2_ := Aside0.mk ((by rw [hg]; exact (below_size (by repeat (first | (with_reducible first | exact HB.out | apply below_alloc | apply pw_below_drewN | apply below_drew1) | exact HB.out))) : w.heap.size ≤ gb205)); have n3_ := Aside0.mk ((by rw [hg]; exact (below_size (by repeat (first | (with_reducible first | exact HB.out | apply below_alloc | apply pw_below_drewN | apply below_drew1) | exact HB.out))) : w.heap.size ≤ gb205)); clear HB; have HB := n0_; have BK205 := n1_; have GW205 := n2_; have GE205 := n3_; clear n0_ n1_ n2_ n3_; clear hb hbox hg; have hcz5_0 : w4.cell? ⟨gb205, 0, none⟩ = some (.int .i64 a0_0) := (blk_cell BK205.out 0).trans rfl; have hcz5_1 : w4.cell? ⟨gb205, 1, none⟩ = some (.int .i64 a0_1) := (blk_cell BK205.out 1).trans rfl; have hcz5_2 : w4.cell? ⟨gb205, 2, none⟩ = some (.int .i64 a0_2) := (blk_cell BK205.out 2).trans rfl; have hcz5_3 : w4.cell? ⟨gb205, 3, none⟩ = some (.int .i64 a0_3) := (blk_cell BK205.out 3).trans rfl; have hcz5_4 : w4.cell? ⟨gb205, 4, none⟩ = some (.int .i64 a0_4) := (blk_cell BK205.out 4).trans rfl; have hcz5_5 : w4.cell? ⟨gb205, 5, none⟩ = some (.int .i64 a0_5) := (blk_cell BK205.out 5).trans rfl; have hfz5_0 := blk_frozen BK205.out 0; have hfz5_1 := blk_frozen BK205.out 1; have hfz5_2 := blk_frozen BK205.out 2; have hfz5_3 := blk_frozen BK205.out 3; have hfz5_4 := blk_frozen BK205.out 4; have hfz5_5 := blk_frozen BK205.out 5))
    go_ret
    exact ⟨by first | rfl | (simp [errW_none, errW_some] <;> rfl) | (simp [*, errW_none, errW_some] <;> rfl), by repeat (first | (with_reducible first | exact HB.out | apply below_alloc | apply pw_below_drewN | apply below_drew1 | refine below_set ?_ GE205.out) | exact HB.out)⟩
  · rw [if_neg c3] at H
    have c3b0 : decide ((IntKind.u64.wrap (a0_0)) < a1) = false := decide_eq_false c3
    clear c3
    obtain rfl := Option.some.inj H
    go_enter Try.func76, Try.ntmps76
    go_wp2_with (first | ((with_reducible refine gate_dst (N := 2) rfl ?_); refine box_event ?hg (N := 2) ?hd (cs := #[.int .i64 a0_0, .int .i64 a0_1, .int .i64 a0_2, .int .i64 a0_3, .int .i64 a0_4, .int .i64 a0_5]) (t := 23) ?hr ?_; (case hd => rfl); (case hg => rfl); (case hr => first | (go_simp; done) | (go_simp; rfl)); intro gb205 hg w6 hbox hb; have n0_ := Aside0.mk (below_step (by repeat (first | (with_reducible first | exact HB.out | apply below_alloc | apply pw_below_drewN | apply below_drew1) | exact HB.out)) hb); have n1_ := Aside0.mk (hbox); have n2_ := Aside0.mk ((by rw [hg]; exact (below_size (by repeat (first | (with_reducible first | exact HB.out | apply below_alloc | apply pw_below_drewN | apply below_drew1) | exact HB.out))) : w.heap.size ≤ gb205)); have n3_ := Aside0.mk ((by rw [hg]; exact (below_size (by repeat (first | (with_reducible first | exact HB.out | apply below_alloc | apply pw_below_drewN | apply below_drew1) | exact HB.out))) : w.heap.size ≤ gb205)); clear HB; have HB := n0_; have BK205 := n1_; have GW205 := n2_; have GE205 := n3_; clear n0_ n1_ n2_ n3_; clear hb hbox hg; have hcz7_0 : w6.cell? ⟨gb205, 0, none⟩ = some (.int .i64 a0_0) := (blk_cell BK205.out 0).trans rfl; have hcz7_1 : w6.cell? ⟨gb205, 1, none⟩ = some (.int .i64 a0_1) := (blk_cell BK205.out 1).trans rfl; have hcz7_2 : w6.cell? ⟨gb205, 2, none⟩ = some (.int .i64 a0_2) := (blk_cell BK205.out 2).trans rfl; have hcz7_3 : w6.cell? ⟨gb205, 3, none⟩ = some (.int .i64 a0_3) := (blk_cell BK205.out 3).trans rfl; have hcz7_4 : w6.cell? ⟨gb205, 4, none⟩ = some (.int .i64 a0_4) := (blk_cell BK205.out 4).trans rfl; have hcz7_5 : w6.cell? ⟨gb205, 5, none⟩ = some (.int .i64 a0_5) := (blk_cell BK205.out 5).trans rfl; have hfz7_0 := blk_frozen BK205.out 0; have hfz7_1 := blk_frozen BK205.out 1; have hfz7_2 := blk_frozen BK205.out 2; have hfz7_3 := blk_frozen BK205.out 3; have hfz7_4 := blk_frozen BK205.out 4; have hfz7_5 := blk_frozen BK205.out 5))
    go_ret
    exact ⟨by first | rfl | (simp [errW_none, errW_some] <;> rfl) | (simp [*, errW_none, errW_some] <;> rfl), by repeat (first | (with_reducible first | exact HB.out | apply below_alloc | apply pw_below_drewN | apply below_drew1 | refine below_set ?_ GE205.out) | exact HB.out)⟩
def tag_Moved.f (k : Nat) (a0 : Int) (a1 : Int) : Option (Int) := (tag_slots.f a1).bind fun t206 => (if t206 = true then ((tag_TopParts.f a0).bind fun bt207 => ((tag_Top.f k (Go.bits .and .u64 (IntKind.u64.wrap (bt207.1 + 1)) 281474976710655) a1).bind fun bt209 => (some bt209.1))) else ((tag_TopParts.f a0).bind fun bt211 => ((tag_Top.f k (Go.bits .and .u64 (IntKind.u64.wrap (bt211.1 + 1)) 281474976710655) (-1)).bind fun bt213 => (some bt213.1))))
set_option maxHeartbeats 8000000 in
set_option maxRecDepth 100000 in
theorem tag_Moved.calls (k : Nat) (a0 : Int) (a1 : Int) (r : Int) (w : World) (h : tag_Moved.f k a0 a1 = some r) :
    Calls Try.prog 83 #[.int .u64 a0, .int .i64 a1] w fun e w' => e = .returned (.int .u64 r) ∧ Below w.heap.size w w' := by
  have HB := Aside0.mk (Below.refl w.heap.size w)
  have H : ((tag_slots.f a1).bind fun t206 => (if t206 = true then ((tag_TopParts.f a0).bind fun bt207 => ((tag_Top.f k (Go.bits .and .u64 (IntKind.u64.wrap (bt207.1 + 1)) 281474976710655) a1).bind fun bt209 => (some bt209.1))) else ((tag_TopParts.f a0).bind fun bt211 => ((tag_Top.f k (Go.bits .and .u64 (IntKind.u64.wrap (bt211.1 + 1)) 281474976710655) (-1)).bind fun bt213 => (some bt213.1))))) = some r := h
  clear h
  replace H := Option.bind_eq_some_iff.mp H
  obtain ⟨t206, A30, H⟩ := H
  replace H : (if t206 = true then ((tag_TopParts.f a0).bind fun bt207 => ((tag_Top.f k (Go.bits .and .u64 (IntKind.u64.wrap (bt207.1 + 1)) 281474976710655) a1).bind fun bt209 => (some bt209.1))) else ((tag_TopParts.f a0).bind fun bt211 => ((tag_Top.f k (Go.bits .and .u64 (IntKind.u64.wrap (bt211.1 + 1)) 281474976710655) (-1)).bind fun bt213 => (some bt213.1)))) = some r := H
  have A3 := Aside0.mk A30
  clear A30
  by_cases c4 : t206 = true
  · subst c4
    have H1 : ((tag_TopParts.f a0).bind fun bt207 => ((tag_Top.f k (Go.bits .and .u64 (IntKind.u64.wrap (bt207.1 + 1)) 281474976710655) a1).bind fun bt209 => (some bt209.1))) = some r := by rw [if_pos rfl] at H; exact H
    clear H
    have H := H1
    clear H1
    replace H := Option.bind_eq_some_iff.mp H
    obtain ⟨⟨t207, t208⟩, A50, H⟩ := H
    replace H : ((tag_Top.f k (Go.bits .and .u64 (IntKind.u64.wrap (t207 + 1)) 281474976710655) a1).bind fun bt209 => (some bt209.1)) = some r := H
    have A5 := Aside0.mk A50
    clear A50
    replace H := Option.bind_eq_some_iff.mp H
    obtain ⟨⟨t209, t210⟩, A60, H⟩ := H
    replace H : (some t209) = some r := H
    have A6 := Aside0.mk A60
    clear A60
    obtain rfl := Option.some.inj H
    go_enter Try.func83, Try.ntmps83
    go_wp2_with (first | ((with_reducible refine gate_callee (f := 98) rfl ?_); refine goesL_ (some 10) rfl rfl Try.func98 (by kernel_rfl) rfl #[.int .i64 a1] rfl (by (try simp only [List.map_toArray, List.map_cons, List.map_nil]); first | done | rfl | (simp only [List.length_drop, List.length_take]; rfl)) ?_; (with_reducible refine (tag_slots.calls a1 true _ A3.out).mono ?_); rintro e w' ⟨rfl, ⟨nd, rfl⟩⟩; refine ⟨_, rfl, ?_⟩) | ((with_reducible refine gate_callee (f := 96) rfl ?_); refine goesL_ (some 14) rfl rfl Try.func96 (by kernel_rfl) rfl #[.int .u64 a0] rfl (by (try simp only [List.map_toArray, List.map_cons, List.map_nil]); first | done | rfl | (simp only [List.length_drop, List.length_take]; rfl)) ?_; (with_reducible refine (tag_TopParts.calls a0 t207 t208 _ A5.out).mono ?_); rintro e w' ⟨rfl, ⟨nd, rfl⟩⟩; refine ⟨_, rfl, ?_⟩) | ((with_reducible refine gate_callee (f := 68) rfl ?_); refine goesL_ (some 22) rfl rfl Try.func68 (by kernel_rfl) rfl #[.int .u64 (Go.bits .and .u64 (IntKind.u64.wrap (t207 + 1)) 281474976710655), .int .i64 a1] rfl (by (try simp only [List.map_toArray, List.map_cons, List.map_nil]); first | done | rfl | (simp only [List.length_drop, List.length_take]; rfl)) ?_; (with_reducible refine (tag_Top.calls k (Go.bits .and .u64 (IntKind.u64.wrap (t207 + 1)) 281474976710655) a1 t209 t210 _ A6.out).mono ?_); rintro e w7 ⟨rfl, hb⟩; refine ⟨_, rfl, ?_⟩; have n0_ := Aside0.mk (below_step (by repeat (first | (with_reducible first | exact HB.out | apply below_alloc | apply pw_below_drewN | apply below_drew1) | exact HB.out)) hb); clear HB; have HB := n0_; clear n0_; (try clear hb); (try clear hb2); (try clear hk); (try clear hi)))
    go_ret
    exact ⟨by first | rfl | (simp [errW_none, errW_some] <;> rfl) | (simp [*, errW_none, errW_some] <;> rfl), by repeat (first | (with_reducible first | exact HB.out | apply below_alloc | apply pw_below_drewN | apply below_drew1) | exact HB.out)⟩
  · replace c4 := Bool.eq_false_iff.mpr c4
    subst c4
    have H1 : ((tag_TopParts.f a0).bind fun bt211 => ((tag_Top.f k (Go.bits .and .u64 (IntKind.u64.wrap (bt211.1 + 1)) 281474976710655) (-1)).bind fun bt213 => (some bt213.1))) = some r := by rw [if_neg (show ¬ (false = true) by decide)] at H; exact H
    clear H
    have H := H1
    clear H1
    replace H := Option.bind_eq_some_iff.mp H
    obtain ⟨⟨t211, t212⟩, A80, H⟩ := H
    replace H : ((tag_Top.f k (Go.bits .and .u64 (IntKind.u64.wrap (t211 + 1)) 281474976710655) (-1)).bind fun bt213 => (some bt213.1)) = some r := H
    have A8 := Aside0.mk A80
    clear A80
    replace H := Option.bind_eq_some_iff.mp H
    obtain ⟨⟨t213, t214⟩, A90, H⟩ := H
    replace H : (some t213) = some r := H
    have A9 := Aside0.mk A90
    clear A90
    obtain rfl := Option.some.inj H
    go_enter Try.func83, Try.ntmps83
    go_wp2_with (first | ((with_reducible refine gate_callee (f := 98) rfl ?_); refine goesL_ (some 10) rfl rfl Try.func98 (by kernel_rfl) rfl #[.int .i64 a1] rfl (by (try simp only [List.map_toArray, List.map_cons, List.map_nil]); first | done | rfl | (simp only [List.length_drop, List.length_take]; rfl)) ?_; (with_reducible refine (tag_slots.calls a1 false _ A3.out).mono ?_); rintro e w' ⟨rfl, ⟨nd, rfl⟩⟩; refine ⟨_, rfl, ?_⟩) | ((with_reducible refine gate_callee (f := 96) rfl ?_); refine goesL_ (some 14) rfl rfl Try.func96 (by kernel_rfl) rfl #[.int .u64 a0] rfl (by (try simp only [List.map_toArray, List.map_cons, List.map_nil]); first | done | rfl | (simp only [List.length_drop, List.length_take]; rfl)) ?_; (with_reducible refine (tag_TopParts.calls a0 t211 t212 _ A8.out).mono ?_); rintro e w' ⟨rfl, ⟨nd, rfl⟩⟩; refine ⟨_, rfl, ?_⟩) | ((with_reducible refine gate_callee (f := 68) rfl ?_); refine goesL_ (some 22) rfl rfl Try.func68 (by kernel_rfl) rfl #[.int .u64 (Go.bits .and .u64 (IntKind.u64.wrap (t211 + 1)) 281474976710655), .int .i64 (-1)] rfl (by (try simp only [List.map_toArray, List.map_cons, List.map_nil]); first | done | rfl | (simp only [List.length_drop, List.length_take]; rfl)) ?_; (with_reducible refine (tag_Top.calls k (Go.bits .and .u64 (IntKind.u64.wrap (t211 + 1)) 281474976710655) (-1) t213 t214 _ A9.out).mono ?_); rintro e w10 ⟨rfl, hb⟩; refine ⟨_, rfl, ?_⟩; have n0_ := Aside0.mk (below_step (by repeat (first | (with_reducible first | exact HB.out | apply below_alloc | apply pw_below_drewN | apply below_drew1) | exact HB.out)) hb); clear HB; have HB := n0_; clear n0_; (try clear hb); (try clear hb2); (try clear hk); (try clear hi)))
    go_ret
    exact ⟨by first | rfl | (simp [errW_none, errW_some] <;> rfl) | (simp [*, errW_none, errW_some] <;> rfl), by repeat (first | (with_reducible first | exact HB.out | apply below_alloc | apply pw_below_drewN | apply below_drew1) | exact HB.out)⟩
def plan_Header.f (k : Nat) (a0_0 : Int) (a0_1 : Int) (a0_2 : Int) (a0_3 : Int) (a0_4 : Int) (a0_5 : Int) (a1 : Int) : Option (Int) := (plan_within.f k a0_0 a0_1 a0_2 a0_3 a0_4 a0_5 a1 0).bind fun t216 => (some t216)
set_option maxHeartbeats 8000000 in
set_option maxRecDepth 100000 in
theorem plan_Header.calls (k : Nat) (a0_0 : Int) (a0_1 : Int) (a0_2 : Int) (a0_3 : Int) (a0_4 : Int) (a0_5 : Int) (a1 : Int) (r : Int) (w : World) (h : plan_Header.f k a0_0 a0_1 a0_2 a0_3 a0_4 a0_5 a1 = some r) :
    Calls Try.prog 72 #[.agg #[.int .i64 a0_0, .int .i64 a0_1, .int .i64 a0_2, .int .i64 a0_3, .int .i64 a0_4, .int .i64 a0_5], .int .i64 a1] w fun e w' => e = .returned (.int .i64 r) ∧ Below w.heap.size w w' := by
  have hu23 := Try.underlying23
  have HB := Aside0.mk (Below.refl w.heap.size w)
  have H : ((plan_within.f k a0_0 a0_1 a0_2 a0_3 a0_4 a0_5 a1 0).bind fun t216 => (some t216)) = some r := h
  clear h
  replace H := Option.bind_eq_some_iff.mp H
  obtain ⟨t216, A30, H⟩ := H
  replace H : (some t216) = some r := H
  have A3 := Aside0.mk A30
  clear A30
  obtain rfl := Option.some.inj H
  go_enter Try.func72, Try.ntmps72
  go_wp2_with (first | ((with_reducible refine gate_dst (N := 2) rfl ?_); refine box_event ?hg (N := 2) ?hd (cs := #[.int .i64 a0_0, .int .i64 a0_1, .int .i64 a0_2, .int .i64 a0_3, .int .i64 a0_4, .int .i64 a0_5]) (t := 23) ?hr ?_; (case hd => rfl); (case hg => rfl); (case hr => first | (go_simp; done) | (go_simp; rfl)); intro gb215 hg w4 hbox hb; have n0_ := Aside0.mk (below_step (by repeat (first | (with_reducible first | exact HB.out | apply below_alloc | apply pw_below_drewN | apply below_drew1) | exact HB.out)) hb); have n1_ := Aside0.mk (hbox); have n2_ := Aside0.mk ((by rw [hg]; exact (below_size (by repeat (first | (with_reducible first | exact HB.out | apply below_alloc | apply pw_below_drewN | apply below_drew1) | exact HB.out))) : w.heap.size ≤ gb215)); have n3_ := Aside0.mk ((by rw [hg]; exact (below_size (by repeat (first | (with_reducible first | exact HB.out | apply below_alloc | apply pw_below_drewN | apply below_drew1) | exact HB.out))) : w.heap.size ≤ gb215)); clear HB; have HB := n0_; have BK215 := n1_; have GW215 := n2_; have GE215 := n3_; clear n0_ n1_ n2_ n3_; clear hb hbox hg; have hcz5_0 : w4.cell? ⟨gb215, 0, none⟩ = some (.int .i64 a0_0) := (blk_cell BK215.out 0).trans rfl; have hcz5_1 : w4.cell? ⟨gb215, 1, none⟩ = some (.int .i64 a0_1) := (blk_cell BK215.out 1).trans rfl; have hcz5_2 : w4.cell? ⟨gb215, 2, none⟩ = some (.int .i64 a0_2) := (blk_cell BK215.out 2).trans rfl; have hcz5_3 : w4.cell? ⟨gb215, 3, none⟩ = some (.int .i64 a0_3) := (blk_cell BK215.out 3).trans rfl; have hcz5_4 : w4.cell? ⟨gb215, 4, none⟩ = some (.int .i64 a0_4) := (blk_cell BK215.out 4).trans rfl; have hcz5_5 : w4.cell? ⟨gb215, 5, none⟩ = some (.int .i64 a0_5) := (blk_cell BK215.out 5).trans rfl; have hfz5_0 := blk_frozen BK215.out 0; have hfz5_1 := blk_frozen BK215.out 1; have hfz5_2 := blk_frozen BK215.out 2; have hfz5_3 := blk_frozen BK215.out 3; have hfz5_4 := blk_frozen BK215.out 4; have hfz5_5 := blk_frozen BK215.out 5) | ((with_reducible refine gate_callee (f := 95) rfl ?_); refine goesL_ (some 7) rfl rfl Try.func95 (by kernel_rfl) rfl #[.agg #[.int .i64 a0_0, .int .i64 a0_1, .int .i64 a0_2, .int .i64 a0_3, .int .i64 a0_4, .int .i64 a0_5], .int .i64 a1, .int .i64 0] rfl (by (try simp only [List.map_toArray, List.map_cons, List.map_nil]); first | done | rfl | (simp only [List.length_drop, List.length_take]; rfl)) ?_; (with_reducible refine (plan_within.calls k a0_0 a0_1 a0_2 a0_3 a0_4 a0_5 a1 0 t216 _ A3.out).mono ?_); rintro e w6 ⟨rfl, hb⟩; refine ⟨_, rfl, ?_⟩; have n0_ := Aside0.mk (blk_below (g := gb215) (o := .cells #[.int .i64 a0_0, .int .i64 a0_1, .int .i64 a0_2, .int .i64 a0_3, .int .i64 a0_4, .int .i64 a0_5] 23 (0, 0)) (by (with_reducible repeat (first | refine blk_drewN ?_ _ | refine blk_drew ?_ | refine blk_alloc ?_ _)); exact BK215.out) hb); have n1_ := Aside0.mk (below_step (by repeat (first | (with_reducible first | exact HB.out | apply below_alloc | apply pw_below_drewN | apply below_drew1 | refine below_set ?_ GE215.out) | exact HB.out)) hb); clear BK215; clear HB; have BK215 := n0_; have HB := n1_; clear n0_ n1_; (try clear hb); (try clear hb2); (try clear hk); (try clear hi)))
  go_ret
  exact ⟨by first | rfl | (simp [errW_none, errW_some] <;> rfl) | (simp [*, errW_none, errW_some] <;> rfl), by repeat (first | (with_reducible first | exact HB.out | apply below_alloc | apply pw_below_drewN | apply below_drew1 | refine below_set ?_ GE215.out) | exact HB.out)⟩
def word_Unpack.l0 : Nat → Int → List Int → Int → List Int → Int → Int → Option (List Int × Bool)
  | 0, _, _, _, _, _, _ => none
  | k + 1, x0, x6, x7, x10, x11, x12 => if x12 < x11 then (if 0 ≤ x12 then (if x12 < (x10.length : Int) then ((word_some.f x7 (rd x10 x12)).bind fun t218 => (if t218 = true then ((word_Get.f x0 x7 (rd x10 x12)).bind fun t219 => (if x6.length < 17592186044416 then (word_Unpack.l0 k x0 (x6 ++ [t219]) (wrap64 (x7 + (rd x10 x12))) x10 x11 (wrap64 (x12 + 1))) else (none))) else (some (([] : List Int), false)))) else (none)) else (none)) else (some (x6, true))
def word_Unpack.f (k : Nat) (a0 : Int) (l1 : List Int) : Option (List Int × Bool) := word_Unpack.l0 k a0 ([] : List Int) 0 l1 (l1.length : Int) 0
set_option maxHeartbeats 8000000 in
set_option maxRecDepth 100000 in
theorem word_Unpack.calls (k : Nat) (a0 : Int) (A1 : Option Addr) (c1 : Nat) (l1 : List Int) (r1 : List Int) (r2 : Bool) (w : World) (hr1 : Kd.C (Kd.int .i64) w A1 l1.length l1) (hc1 : l1.length ≤ c1) (h : word_Unpack.f k a0 l1 = some (r1, r2)) :
    Calls Try.prog 99 #[.int .u64 a0, .slice A1 l1.length c1] w fun e w' => ∃ v0_ : Value, e = .returned (.tuple #[v0_, .bool r2]) ∧ Kd.R (Kd.int .u64) 33 w' w.heap.size (fun _ => True) v0_ r1 ∧ Below w.heap.size w w' := by
  have HR1 := Aside0.mk hr1
  have HC1 := Aside0.mk hc1
  clear hr1 hc1
  have HB := Aside0.mk (Below.refl w.heap.size w)
  have H : (word_Unpack.l0 k a0 ([] : List Int) 0 l1 (l1.length : Int) 0) = some (r1, r2) := h
  clear h
  have H' := Aside0.mk H
  clear H
  go_enter Try.func99, Try.ntmps99
  go_wp2
  go_loopg [6, 7, 12] k (fun kq v6 v7 v12 w' => ∃ (x6_1 : List Int) (x7_1 : Int) (x12_1 : Int), v7 = .int .i64 x7_1 ∧ v12 = .int .i64 x12_1 ∧ Aside0 (word_Unpack.l0 kq a0 x6_1 x7_1 l1 (l1.length : Int) x12_1 = some (r1, r2)) ∧ Aside0 (kq ≤ k) ∧ Aside0 (Kd.R (Kd.int .u64) 33 w' w.heap.size (fun _ => True) v6 x6_1) ∧ Aside0 (Below w.heap.size w w'))
  case atStart => exact ⟨(([] : List Int)), (0), (0), (by first | rfl | (simp; done) | (simp [*]; done)), (by first | rfl | (simp; done) | (simp [*]; done)), H', ⟨Nat.le_refl _⟩, ⟨by first | exact Kd.R_nil _ _ _ _ _ | exact Kd.N_nil _ _ _ _ _ | exact Kd.V_nil _ _ _ _ _ | exact Kd.Q_nil _ _ _ _ _ | exact Kd.S_nil _ _ _ _ _⟩, ⟨by repeat (first | (with_reducible first | exact HB.out | apply below_alloc | apply pw_below_drewN | apply below_drew1) | exact HB.out)⟩⟩
  case round =>
    clear H'
    try clear c1
    try clear p2
    obtain ⟨x6_1, x7_1, x12_1, rfl, rfl, HA, HK1, HO_6, HB⟩ := hrel
    cases gk with
    | zero => exact absurd HA.out (by simp [word_Unpack.l0])
    | succ k1 =>
      have H := HA.out
      clear HA
      simp only [word_Unpack.l0] at H
      by_cases c3 : x12_1 < (l1.length : Int)
      · rw [if_pos c3] at H
        have c3b0 : decide (x12_1 < (l1.length : Int)) = true := decide_eq_true c3
        clear c3
        by_cases c4 : 0 ≤ x12_1
        · rw [if_pos c4] at H
          have c4b0 : decide (0 ≤ x12_1) = true := decide_eq_true c4
          clear c4
          by_cases c5 : x12_1 < (l1.length : Int)
          · rw [if_pos c5] at H
            have c5b0 : decide (x12_1 < (l1.length : Int)) = true := decide_eq_true c5
            clear c5
            replace H := Option.bind_eq_some_iff.mp H
            obtain ⟨t218, A60, H⟩ := H
            replace H : (if t218 = true then ((word_Get.f a0 x7_1 (rd l1 x12_1)).bind fun t219 => (if x6_1.length < 17592186044416 then (word_Unpack.l0 k1 a0 (x6_1 ++ [t219]) (wrap64 (x7_1 + (rd l1 x12_1))) l1 (l1.length : Int) (wrap64 (x12_1 + 1))) else (none))) else (some (([] : List Int), false))) = some (r1, r2) := H
            have A6 := Aside0.mk A60
            clear A60
            by_cases c7 : t218 = true
            · subst c7
              have H1 : ((word_Get.f a0 x7_1 (rd l1 x12_1)).bind fun t219 => (if x6_1.length < 17592186044416 then (word_Unpack.l0 k1 a0 (x6_1 ++ [t219]) (wrap64 (x7_1 + (rd l1 x12_1))) l1 (l1.length : Int) (wrap64 (x12_1 + 1))) else (none))) = some (r1, r2) := by rw [if_pos rfl] at H; exact H
              clear H
              have H := H1
              clear H1
              replace H := Option.bind_eq_some_iff.mp H
              obtain ⟨t219, A80, H⟩ := H
              replace H : (if x6_1.length < 17592186044416 then (word_Unpack.l0 k1 a0 (x6_1 ++ [t219]) (wrap64 (x7_1 + (rd l1 x12_1))) l1 (l1.length : Int) (wrap64 (x12_1 + 1))) else (none)) = some (r1, r2) := H
              have A8 := Aside0.mk A80
              clear A80
              by_cases c9 : x6_1.length < 17592186044416
              · rw [if_pos c9] at H
                have LMc9 := Aside0.mk c9
                clear c9
                obtain ⟨y220, hy220⟩ : ∃ y_ : List Int, y_ = (x6_1 ++ [t219]) := ⟨_, rfl⟩
                replace H : (word_Unpack.l0 k1 a0 y220 (wrap64 (x7_1 + (rd l1 x12_1))) l1 (l1.length : Int) (wrap64 (x12_1 + 1))) = some (r1, r2) := by first | (rw [hy220]; with_reducible exact H) | (have H2_ := (Option.bind_some _ _).symm.trans H; rw [hy220]; with_reducible exact H2_) | (have H2_ := (Option.bind_some _ _).symm.trans H; with_reducible exact H2_) | with_reducible exact H | (rw [hy220]; exact H) | exact H
                have Ny220 := Aside0.mk hy220
                clear hy220
                have H' := Aside0.mk H
                clear H
                have p217 : 0 ≤ (x12_1 : Int) := of_decide_eq_true (by first | (with_reducible assumption) | assumption)
                have q217 : x12_1 < (l1.length : Int) := of_decide_eq_true (by first | (with_reducible assumption) | assumption)
                obtain ⟨ad217, e217, hx217_0⟩ := Kd.at_int HR1.out x12_1 p217 q217
                cases e217
                replace hx217_0 := (HB.out.cell (World.block_lt_of_cell? w _ hx217_0)).trans hx217_0
                replace p217 := eq_true p217
                replace q217 := eq_true q217
                go_wp2_with (first | ((with_reducible refine gate_callee (f := 105) rfl ?_); refine goesL_ (some 18) rfl rfl Try.func105 (by kernel_rfl) rfl #[.int .i64 x7_1, .int .i64 (rd l1 x12_1)] rfl (by (try simp only [List.map_toArray, List.map_cons, List.map_nil]); first | done | rfl | (simp only [List.length_drop, List.length_take]; rfl)) ?_; (with_reducible refine (word_some.calls x7_1 (rd l1 x12_1) true _ A6.out).mono ?_); rintro e w' ⟨rfl, ⟨nd, rfl⟩⟩; refine ⟨_, rfl, ?_⟩) | ((with_reducible refine gate_callee (f := 104) rfl ?_); refine goesL_ (some 24) rfl rfl Try.func104 (by kernel_rfl) rfl #[.int .u64 a0, .int .i64 x7_1, .int .i64 (rd l1 x12_1)] rfl (by (try simp only [List.map_toArray, List.map_cons, List.map_nil]); first | done | rfl | (simp only [List.length_drop, List.length_take]; rfl)) ?_; (with_reducible refine (word_Get.calls a0 x7_1 (rd l1 x12_1) t219 _ A8.out).mono ?_); rintro e w' ⟨rfl, ⟨nd, rfl⟩⟩; refine ⟨_, rfl, ?_⟩) | ((with_reducible refine gate_builtin (b := .append) (xs := #[.tmp 20, .tmp 25]) rfl ?_); at_builtin; refine Kd.R_append (Kd.int .u64) (w0 := w) w.heap.size rfl (.tmp 20) (.tmp 25) 29 33 (.int .u64 0) 8 rfl Try.underlying29 info33 rfl (by decide) (by omega) u6 x6_1 t219 [.int .u64 t219] (fun _ => True) (fun _ => False) rfl rfl ?aP (fun _ hk => hk.elim) ?aF ?aO ?aB ?aS ?aL ?_; (case aP => exact rfl); (case aB => exact (by repeat (first | (with_reducible first | exact HB.out | apply below_alloc | apply pw_below_drewN | apply below_drew1) | exact HB.out))); (case aF => exact (fun _ _ => trivial)); (case aO => exact (by (with_reducible repeat (first | apply Kd.R_alloc | apply Kd.R_drewN | apply Kd.R_drew)); exact HO_6.out)); (case aS => exact (below_size (by repeat (first | (with_reducible first | exact HB.out | apply below_alloc | apply pw_below_drewN | apply below_drew1) | exact HB.out)))); (case aL => have := LMc9.out; omega); intro v221 w10 ho hb hg hat; rw [← Ny220.out] at ho; have n0_ := Aside0.mk (hb); have n1_ := Aside0.mk (ho); clear HB; clear HO_6; have HB := n0_; have HO222 := n1_; clear n0_ n1_; clear ho hb hg hat))
                go_roundg k1
                case measure => have := HK1.out; omega
                case rel => exact ⟨(y220), (wrap64 (x7_1 + (rd l1 x12_1))), (wrap64 (x12_1 + 1)), (by first | rfl | (simp; done) | (simp [*]; done)), (by first | rfl | (simp; done) | (simp [*]; done)), H', ⟨by have := HK1.out; omega⟩, ⟨by (with_reducible repeat (first | apply Kd.R_alloc | apply Kd.R_drewN | apply Kd.R_drew)); exact HO222.out⟩, ⟨by repeat (first | (with_reducible first | exact HB.out | apply below_alloc | apply pw_below_drewN | apply below_drew1) | exact HB.out)⟩⟩
              · rw [if_neg c9] at H
                exact absurd H (by simp)
            · replace c7 := Bool.eq_false_iff.mpr c7
              subst c7
              have H1 : (some (([] : List Int), false)) = some (r1, r2) := by rw [if_neg (show ¬ (false = true) by decide)] at H; exact H
              clear H
              have H := H1
              clear H1
              simp only [Option.some.injEq, Prod.mk.injEq] at H
              obtain ⟨rfl, rfl⟩ := H
              have p217 : 0 ≤ (x12_1 : Int) := of_decide_eq_true (by first | (with_reducible assumption) | assumption)
              have q217 : x12_1 < (l1.length : Int) := of_decide_eq_true (by first | (with_reducible assumption) | assumption)
              obtain ⟨ad217, e217, hx217_0⟩ := Kd.at_int HR1.out x12_1 p217 q217
              cases e217
              replace hx217_0 := (HB.out.cell (World.block_lt_of_cell? w _ hx217_0)).trans hx217_0
              replace p217 := eq_true p217
              replace q217 := eq_true q217
              go_wp2_with (first | ((with_reducible refine gate_callee (f := 105) rfl ?_); refine goesL_ (some 18) rfl rfl Try.func105 (by kernel_rfl) rfl #[.int .i64 x7_1, .int .i64 (rd l1 x12_1)] rfl (by (try simp only [List.map_toArray, List.map_cons, List.map_nil]); first | done | rfl | (simp only [List.length_drop, List.length_take]; rfl)) ?_; (with_reducible refine (word_some.calls x7_1 (rd l1 x12_1) false _ A6.out).mono ?_); rintro e w' ⟨rfl, ⟨nd, rfl⟩⟩; refine ⟨_, rfl, ?_⟩))
              go_ret2
              exact ⟨_, by first | rfl | (simp [errW_none, errW_some] <;> rfl) | (simp [*, errW_none, errW_some] <;> rfl), by first | exact Kd.R_nil _ _ _ _ _ | exact Kd.N_nil _ _ _ _ _ | exact Kd.V_nil _ _ _ _ _ | exact Kd.Q_nil _ _ _ _ _ | exact Kd.S_nil _ _ _ _ _, by repeat (first | (with_reducible first | exact HB.out | apply below_alloc | apply pw_below_drewN | apply below_drew1) | exact HB.out)⟩
          · rw [if_neg c5] at H
            exact absurd H (by simp)
        · rw [if_neg c4] at H
          exact absurd H (by simp)
      · rw [if_neg c3] at H
        have c3b0 : decide (x12_1 < (l1.length : Int)) = false := decide_eq_false c3
        clear c3
        simp only [Option.some.injEq, Prod.mk.injEq] at H
        obtain ⟨rfl, rfl⟩ := H
        go_wp2
        go_ret2
        exact ⟨_, by first | rfl | (simp [errW_none, errW_some] <;> rfl) | (simp [*, errW_none, errW_some] <;> rfl), by (with_reducible repeat (first | apply Kd.R_alloc | apply Kd.R_drewN | apply Kd.R_drew)); exact HO_6.out, by repeat (first | (with_reducible first | exact HB.out | apply below_alloc | apply pw_below_drewN | apply below_drew1) | exact HB.out)⟩
end Go.Proofs.Ytijfkpoofpcacaa.PArenaPlays
end
section
namespace Go.Proofs.Ytijfkpoofpcacaa.PvArenaPlays
open Go.RowKit Go.Proofs.Ytijfkpoofpcacaa.PArenaPlays Go.Proofs.YtijfkpoofpcacaaW.PrintWords Go.Proofs.YtijfkpoofpcacaaW.PrintLast Go.Proofs.Ytijfkpoofpcacaa.Core Go.Proofs.Ytijfkpoofpcacaa.PuArenaPlays
theorem p_pBody (k : Nat) (S A C H G K s i : Int) (hk : 1 ≤ k) : plan_Body.f k S A C H G K s i = some (if rightB S A C H G K = true ∧ 0 ≤ s ∧ s < S ∧ 0 ≤ i ∧ 2 + i < roomV A then slotsV C H + s * roomV A + (2 + i) else -1) := by
  unfold plan_Body.f
  have r : A ≤ 8 → roomV A ≤ 10 := by intro h; unfold roomV; split <;> omega
  by_cases h1 : i < 0
  · rw [if_pos h1, if_neg (by omega)]
  · rw [if_neg h1]
    by_cases h2 : i > 8
    · rw [if_pos h2, if_neg (by
        intro c
        have := right_iff.1 c.1
        have := r (by omega)
        omega)]
    · rw [if_neg h2, wrap64_id _ (by omega) (by omega), p_pWithin k S A C H G K s (2 + i) hk, Option.bind_some]
      by_cases h : rightB S A C H G K = true ∧ 0 ≤ s ∧ s < S ∧ 0 ≤ i ∧ 2 + i < roomV A
      · rw [if_pos h, if_pos ⟨h.1, h.2.1, h.2.2.1, by omega, h.2.2.2.2⟩]
      · rw [if_neg h, if_neg (fun c => h ⟨c.1, c.2.1, c.2.2.1, by omega, c.2.2.2.2⟩)]
theorem p_mask (n : Nat) (h : n ≤ 64) : word_mask.f (n : Int) = some ((2 ^ n - 1 : Nat) : Int) := by
  unfold word_mask.f shl
  rw [if_pos (by omega), Int.toNat_natCast, show IntKind.bits .u64 = 64 from rfl, Nat.min_eq_left h]
  have h1 := Nat.pow_le_pow_right (show 0 < 2 by decide) h
  rw [p64] at h1
  have h2 : ((2 ^ n : Nat) : Int) = (2 : Int) ^ n := by simp
  have h3 := Nat.two_pow_pos n
  rw [wrap_u64, wrap_u64, ← h2]
  congr 1
  omega
theorem p_Get (w a n : Int) (h0 : 0 ≤ w) (h1 : w < 18446744073709551616) : word_Get.f w a n = some (getV w a n) := by
  unfold word_Get.f getV
  rw [p_some, Option.bind_some]
  by_cases h : okB a n = true
  · rw [if_pos h, if_pos h]
    rw [okB_iff] at h
    obtain ⟨w, rfl⟩ := Int.eq_ofNat_of_zero_le h0
    obtain ⟨a, rfl⟩ := Int.eq_ofNat_of_zero_le h.2.2.1
    obtain ⟨n, rfl⟩ := Int.eq_ofNat_of_zero_le (show 0 ≤ n by omega)
    rw [if_pos (by omega), p_mask n (by omega), Option.bind_some]
    unfold shr
    rw [Int.toNat_natCast, Int.toNat_natCast, show IntKind.bits .u64 = 64 from rfl, Nat.min_eq_left (by omega)]
    have e1 : (w : Int) / 2 ^ a = ((w / 2 ^ a : Nat) : Int) := by simp
    have e2 : (w : Int) / 2 ^ a % 2 ^ n = ((w / 2 ^ a % 2 ^ n : Nat) : Int) := by simp
    have h2 := Nat.pow_le_pow_right (show 0 < 2 by decide) (show n ≤ 64 by omega)
    have h3 : w / 2 ^ a ≤ w := Nat.div_le_self _ _
    have h4 := Nat.two_pow_pos n
    rw [p64] at h2
    rw [e2, e1, bits_and _ _ (by rw [p64]; omega) (by rw [p64]; omega), Nat.and_two_pow_sub_one_eq_mod]
  · rw [if_neg h, if_neg h]
theorem p_TopParts (w : Int) (h0 : 0 ≤ w) (h1 : w < 18446744073709551616) : tag_TopParts.f w = some (w / 65536, w % 65536 - 1) := by
  unfold tag_TopParts.f
  rw [p_Get w 16 48 h0 h1, Option.bind_some, p_Get w 0 16 h0 h1, Option.bind_some]
  simp [getV, okB]
  rw [wrap64_id (w % 65536) (by omega) (by omega), wrap64_id _ (by omega) (by omega)]
  exact ⟨by omega, rfl⟩
theorem and48 (x : Int) (h0 : 0 ≤ x) (h1 : x < 18446744073709551616) : Go.bits .and .u64 x 281474976710655 = x % 281474976710656 := by
  obtain ⟨x, rfl⟩ := Int.eq_ofNat_of_zero_le h0
  have := bits_and x 281474976710655 (by rw [p64]; omega) (by rw [p64]; omega)
  rw [show (281474976710655 : Nat) = 2 ^ 48 - 1 from rfl, Nat.and_two_pow_sub_one_eq_mod] at this
  exact this
theorem p_Moved (k : Nat) (w s : Int) (hk : 3 ≤ k) (h0 : 0 ≤ w) (h1 : w < 18446744073709551616) : tag_Moved.f k w s = some (movedV w s) := by
  unfold tag_Moved.f movedV
  rw [p_slots, Option.bind_some, p_TopParts w h0 h1]
  simp only [Option.bind_some]
  rw [wrap_u64_id _ (by omega) (by omega), and48 _ (by omega) (by omega), p_Top k _ _ hk (by omega) (by omega), p_Top k _ _ hk (by omega) (by omega)]
  simp only [Option.bind_some]
  unfold topV
  by_cases h : -1 ≤ s ∧ s < 64
  · rw [if_pos (by simpa using h), if_pos h, if_pos (by omega)]
  · rw [if_neg (by simpa using h), if_neg h, if_pos (by omega)]
theorem p_pHeader (k : Nat) (S A C H G K s : Int) (hk : 1 ≤ k) : plan_Header.f k S A C H G K s = some (if rightB S A C H G K = true ∧ 0 ≤ s ∧ s < S then slotsV C H + s * roomV A else -1) := by
  unfold plan_Header.f
  rw [p_pWithin k S A C H G K s 0 hk, Option.bind_some]
  have r : 2 ≤ roomV A := by unfold roomV; split <;> omega
  by_cases h : rightB S A C H G K = true ∧ 0 ≤ s ∧ s < S
  · rw [if_pos h, if_pos ⟨h.1, h.2.1, h.2.2, by decide, by omega⟩]; simp
  · rw [if_neg h, if_neg (fun c => h ⟨c.1, c.2.1, c.2.2.1⟩)]
def unpF (w : Int) : List Int → Int → List Int → List Int × Bool
  | [], _, acc => (acc, true)
  | n :: l, a, acc => if okB a n = true then unpF w l (a + n) (acc ++ [getV w a n]) else ([], false)
theorem p_Unpack_l (w : Int) (h0 : 0 ≤ w) (h1 : w < 18446744073709551616) (l : List Int) : ∀ (pre : List Int) (k : Nat) (a : Int) (acc : List Int), l.length < k → (pre ++ l).length < 17592186044416 → acc.length ≤ pre.length →
    word_Unpack.l0 k w acc a (pre ++ l) ((pre ++ l).length : Int) (pre.length : Int) = some (unpF w l a acc) := by
  induction l with
  | nil =>
    intro pre k a acc hk hl ha
    obtain ⟨k, rfl⟩ : ∃ m, k = m + 1 := ⟨k - 1, by omega⟩
    simp only [word_Unpack.l0]
    rw [if_neg (by simp)]; rfl
  | cons n l ih =>
    intro pre k a acc hk hl ha
    obtain ⟨k, rfl⟩ : ∃ m, k = m + 1 := ⟨k - 1, by omega⟩
    have hlen : (pre ++ n :: l).length = pre.length + 1 + l.length := by simp; omega
    have hrd : rd (pre ++ n :: l) (pre.length : Int) = n := by simp [rd]
    simp only [word_Unpack.l0]
    rw [if_pos (by omega), if_pos (by omega), if_pos (by omega), hrd, p_some, Option.bind_some]
    simp only [unpF]
    by_cases c1 : okB a n = true
    · have c1' := okB_iff.1 c1
      rw [if_pos c1, if_pos c1, p_Get w a n h0 h1, Option.bind_some, if_pos (by omega), wrap64_id _ (by omega) (by omega), wrap64_id _ (by omega) (by omega)]
      have := ih (pre ++ [n]) k (a + n) (acc ++ [getV w a n]) (by simpa using hk) (by simpa using hl) (by simp; omega)
      simp only [List.append_assoc, List.cons_append, List.nil_append, List.length_append, List.length_cons, List.length_nil] at this
      rw [← this]
      simp
    · rw [if_neg c1, if_neg c1]
theorem p_Unpack (k : Nat) (w : Int) (l : List Int) (hk : l.length < k) (hl : l.length < 17592186044416) (h0 : 0 ≤ w) (h1 : w < 18446744073709551616) : word_Unpack.f k w l = some (unpF w l 0 []) :=
  p_Unpack_l w h0 h1 l [] k 0 [] hk hl (by decide)
end Go.Proofs.Ytijfkpoofpcacaa.PvArenaPlays
end
section
set_option linter.unusedVariables false
namespace Go.Proofs.Ytijfkpoofpcacaa.PlanD
open Go.RowKit Go.Proofs.Ytijfkpoofpcacaa.PArenaPlays Go.Proofs.YtijfkpoofpcacaaW.PrintWords Go.Proofs.Ytijfkpoofpcacaa.Blk Go.Proofs.Ytijfkpoofpcacaa.Core Go.Proofs.Ytijfkpoofpcacaa.PuArenaPlays Go.Proofs.Ytijfkpoofpcacaa.PvArenaPlays Go.Proofs.Ytijfkpoofpcacaa.MemC Go.Proofs.Ytijfkpoofpcacaa.MemT Go.Proofs.Ytijfkpoofpcacaa.PlanC
structure Cf where
  S : Int
  A : Int
  C : Int
  H : Int
  G : Int
  K : Int
def Cf.right (c : Cf) : Bool := rightB c.S c.A c.C c.H c.G c.K
def Cf.link (c : Cf) (s : Int) : Int := if c.right = true ∧ 0 ≤ s ∧ s < c.S then slotsV c.C c.H + s * roomV c.A + 1 else -1
def Cf.header (c : Cf) (s : Int) : Int := if c.right = true ∧ 0 ≤ s ∧ s < c.S then slotsV c.C c.H + s * roomV c.A else -1
def Cf.body (c : Cf) (s i : Int) : Int := if c.right = true ∧ 0 ≤ s ∧ s < c.S ∧ 0 ≤ i ∧ 2 + i < roomV c.A then slotsV c.C c.H + s * roomV c.A + (2 + i) else -1
def Cf.size (c : Cf) : Int := sizeV c.S c.A c.C c.H
def firstI (S x : Int) : Int := if S ≤ x % 65536 - 1 then -1 else x % 65536 - 1
def linkedI (S x : Int) : Int := if S < x then -1 else x - 1
section
variable (c : Cf) (w : World)
theorem rightC : Calls Try.prog 66 #[.agg #[.int .i64 c.S, .int .i64 c.A, .int .i64 c.C, .int .i64 c.H, .int .i64 c.G, .int .i64 c.K]] w fun e w' => e = .returned (.bool c.right) ∧ Below w.heap.size w w' := right_c _ _ _ _ _ _ w
theorem rRightC : Calls Try.prog 21 #[.agg #[.int .i64 c.S, .int .i64 c.A, .int .i64 c.C, .int .i64 c.H, .int .i64 c.G, .int .i64 c.K]] w fun e w' => e = .returned (.bool c.right) ∧ Below w.heap.size w w' := rRight_c _ _ _ _ _ _ w
theorem sizeC (h : c.right = true) : Calls Try.prog 67 #[.agg #[.int .i64 c.S, .int .i64 c.A, .int .i64 c.C, .int .i64 c.H, .int .i64 c.G, .int .i64 c.K]] w fun e w' => e = .returned (.int .i64 c.size) ∧ Below w.heap.size w w' := size_yes _ _ _ _ _ _ w h
theorem linkC (s : Int) : Calls Try.prog 69 #[.agg #[.int .i64 c.S, .int .i64 c.A, .int .i64 c.C, .int .i64 c.H, .int .i64 c.G, .int .i64 c.K], .int .i64 s] w fun e w' => e = .returned (.int .i64 (c.link s)) ∧ Below w.heap.size w w' :=
  plan_Link.calls 1 _ _ _ _ _ _ s _ w (p_pLink 1 c.S c.A c.C c.H c.G c.K s (by decide))
theorem headerC (s : Int) : Calls Try.prog 72 #[.agg #[.int .i64 c.S, .int .i64 c.A, .int .i64 c.C, .int .i64 c.H, .int .i64 c.G, .int .i64 c.K], .int .i64 s] w fun e w' => e = .returned (.int .i64 (c.header s)) ∧ Below w.heap.size w w' :=
  plan_Header.calls 1 _ _ _ _ _ _ s _ w (p_pHeader 1 c.S c.A c.C c.H c.G c.K s (by decide))
theorem bodyC (s i : Int) : Calls Try.prog 85 #[.agg #[.int .i64 c.S, .int .i64 c.A, .int .i64 c.C, .int .i64 c.H, .int .i64 c.G, .int .i64 c.K], .int .i64 s, .int .i64 i] w fun e w' => e = .returned (.int .i64 (c.body s i)) ∧ Below w.heap.size w w' :=
  plan_Body.calls 1 _ _ _ _ _ _ s i _ w (p_pBody 1 c.S c.A c.C c.H c.G c.K s i (by decide))
theorem firstC (x : Int) (x0 : 0 ≤ x) (x1 : x < 18446744073709551616) : Calls Try.prog 75 #[.agg #[.int .i64 c.S, .int .i64 c.A, .int .i64 c.C, .int .i64 c.H, .int .i64 c.G, .int .i64 c.K], .int .u64 x] w fun e w' => e = .returned (.int .i64 (firstI c.S x)) ∧ Below w.heap.size w w' :=
  stack_first.calls _ _ _ _ _ _ x _ w (by
    unfold stack_first.f firstI
    rw [p_TopParts x x0 x1, Option.bind_some]
    show (if x % 65536 - 1 ≥ c.S then some (-1) else some (x % 65536 - 1)) = _
    by_cases h : c.S ≤ x % 65536 - 1
    · rw [if_pos h, if_pos h]
    · rw [if_neg h, if_neg h])
theorem linkedC (h : c.right = true) (x : Int) (x0 : 0 ≤ x) (x1 : x < 18446744073709551616) : Calls Try.prog 76 #[.agg #[.int .i64 c.S, .int .i64 c.A, .int .i64 c.C, .int .i64 c.H, .int .i64 c.G, .int .i64 c.K], .int .u64 x] w fun e w' => e = .returned (.int .i64 (linkedI c.S x)) ∧ Below w.heap.size w w' :=
  stack_linked.calls _ _ _ _ _ _ x _ w (by
    have hr := right_iff.1 h
    unfold stack_linked.f linkedI
    rw [wrap_u64_id c.S (by omega) (by omega)]
    by_cases h : c.S < x
    · rw [if_pos h, if_pos h]
    · rw [if_neg h, if_neg h, wrap64_id x (by omega) (by omega), wrap64_id _ (by omega) (by omega)])
theorem movedC (x s : Int) (x0 : 0 ≤ x) (x1 : x < 18446744073709551616) : Calls Try.prog 83 #[.int .u64 x, .int .i64 s] w fun e w' => e = .returned (.int .u64 (movedV x s)) ∧ Below w.heap.size w w' :=
  tag_Moved.calls 5 x s _ w (p_Moved 5 x s (by decide) x0 x1)
end
theorem movedV_bd (x s : Int) (x0 : 0 ≤ x) : 0 ≤ movedV x s ∧ movedV x s < 18446744073709551616 := by
  unfold movedV
  split <;> omega
theorem firstI_bd (S x : Int) : -1 ≤ firstI S x ∧ (0 ≤ S → firstI S x < S) := by
  unfold firstI
  split <;> omega
end Go.Proofs.Ytijfkpoofpcacaa.PlanD
end
section
set_option linter.unusedVariables false
set_option linter.unusedSectionVars false
namespace Go.Proofs.Ytijfkpoofpcacaa.StackC
open Go.RowKit Go.Proofs.YtijfkpoofpcacaaW.PrintWords Go.Proofs.Ytijfkpoofpcacaa.Blk Go.Proofs.Ytijfkpoofpcacaa.Core Go.Proofs.Ytijfkpoofpcacaa.MemC Go.Proofs.Ytijfkpoofpcacaa.MemD Go.Proofs.Ytijfkpoofpcacaa.MemT Go.Proofs.Ytijfkpoofpcacaa.PlanC Go.Proofs.Ytijfkpoofpcacaa.PlanD
def three (p m b : Nat) : Nat → Prop := fun k => k = p ∨ two m b k
theorem two_three {p m b : Nat} {w w' : World} (h : Fr (two m b) w w') : Fr (three p m b) w w' := h.mono (fun _ x => .inr x)
theorem fr_p {p m b : Nat} (w : World) (i : Nat) (v : Value) : Fr (three p m b) w (w.setCell ⟨p, i, none⟩ v) := Fr.set (three p m b) w (p := ⟨p, i, none⟩) (.inl rfl) v
theorem _root_.Go.Proofs.Ytijfkpoofpcacaa.MemC.MemB.set {w : World} {m b : Nat} {M : Ms} (h : MemB w m b M) {p : Nat} (np : ¬ two m b p) (i : Nat) (v : Value) : MemB (w.setCell ⟨p, i, none⟩ v) m b M :=
  h.fr (Fr.set (fun k => k = p) w (p := ⟨p, i, none⟩) rfl v) (fun e => np (.inl e.symm)) (fun e => np (.inr e.symm))
theorem ldV_bd {M : Ms} (ok : Ok M) (a : Int) : 0 ≤ M.ldV a ∧ M.ldV a < 18446744073709551616 := by
  unfold Ms.ldV
  split
  · exact ok.f _
  · exact ⟨Int.le_refl 0, by decide⟩
theorem cell_off {w : World} {p i j : Nat} {v : Value} (h : i ≠ j) : (w.setCell ⟨p, i, none⟩ v).cell? ⟨p, j, none⟩ = w.cell? ⟨p, j, none⟩ := World.cell?_setCell_other _ _ _ _ (fun e => h (congrArg Addr.off e))
def popA (c : Cf) (sl : Int) (em : Bool) (a : Int) (tp : Int) (nx : Int) : Array Value := #[.int .i64 sl, .bool em, .int .i64 c.S, .int .i64 c.A, .int .i64 c.C, .int .i64 c.H, .int .i64 c.G, .int .i64 c.K, .int .i64 a, .int .u64 tp, .int .i64 nx]
theorem pop_cells {w : World} {p t : Nat} {c : Cf} {sl : Int} {em : Bool} {a : Int} {tp : Int} {nx : Int} (h : Blk w p t (popA c sl em a tp nx)) :
    w.cell? ⟨p, 0, none⟩ = some (.int .i64 sl) ∧ w.cell? ⟨p, 1, none⟩ = some (.bool em) ∧ w.cell? ⟨p, 2, none⟩ = some (.int .i64 c.S) ∧ w.cell? ⟨p, 3, none⟩ = some (.int .i64 c.A) ∧ w.cell? ⟨p, 4, none⟩ = some (.int .i64 c.C) ∧ w.cell? ⟨p, 5, none⟩ = some (.int .i64 c.H) ∧ w.cell? ⟨p, 6, none⟩ = some (.int .i64 c.G) ∧ w.cell? ⟨p, 7, none⟩ = some (.int .i64 c.K) ∧ w.cell? ⟨p, 8, none⟩ = some (.int .i64 a) ∧ w.cell? ⟨p, 9, none⟩ = some (.int .u64 tp) ∧ w.cell? ⟨p, 10, none⟩ = some (.int .i64 nx) :=
  ⟨h.cell (i := 0) rfl, h.cell (i := 1) rfl, h.cell (i := 2) rfl, h.cell (i := 3) rfl, h.cell (i := 4) rfl, h.cell (i := 5) rfl, h.cell (i := 6) rfl, h.cell (i := 7) rfl, h.cell (i := 8) rfl, h.cell (i := 9) rfl, h.cell (i := 10) rfl⟩
def pushA (c : Cf) (sl : Int) (a : Int) (tp : Int) : Array Value := #[.int .i64 c.S, .int .i64 c.A, .int .i64 c.C, .int .i64 c.H, .int .i64 c.G, .int .i64 c.K, .int .i64 sl, .int .i64 a, .int .u64 tp]
theorem push_cells {w : World} {p t : Nat} {c : Cf} {sl : Int} {a : Int} {tp : Int} (h : Blk w p t (pushA c sl a tp)) :
    w.cell? ⟨p, 0, none⟩ = some (.int .i64 c.S) ∧ w.cell? ⟨p, 1, none⟩ = some (.int .i64 c.A) ∧ w.cell? ⟨p, 2, none⟩ = some (.int .i64 c.C) ∧ w.cell? ⟨p, 3, none⟩ = some (.int .i64 c.H) ∧ w.cell? ⟨p, 4, none⟩ = some (.int .i64 c.G) ∧ w.cell? ⟨p, 5, none⟩ = some (.int .i64 c.K) ∧ w.cell? ⟨p, 6, none⟩ = some (.int .i64 sl) ∧ w.cell? ⟨p, 7, none⟩ = some (.int .i64 a) ∧ w.cell? ⟨p, 8, none⟩ = some (.int .u64 tp) :=
  ⟨h.cell (i := 0) rfl, h.cell (i := 1) rfl, h.cell (i := 2) rfl, h.cell (i := 3) rfl, h.cell (i := 4) rfl, h.cell (i := 5) rfl, h.cell (i := 6) rfl, h.cell (i := 7) rfl, h.cell (i := 8) rfl⟩
theorem pop_k10 {w : World} {p : Nat} {c : Cf} {sl : Int} {em : Bool} {a : Int} {tp : Int} {v : Value} (h : w.cell? ⟨p, 0, none⟩ = some (.int .i64 sl) ∧ w.cell? ⟨p, 1, none⟩ = some (.bool em) ∧ w.cell? ⟨p, 2, none⟩ = some (.int .i64 c.S) ∧ w.cell? ⟨p, 3, none⟩ = some (.int .i64 c.A) ∧ w.cell? ⟨p, 4, none⟩ = some (.int .i64 c.C) ∧ w.cell? ⟨p, 5, none⟩ = some (.int .i64 c.H) ∧ w.cell? ⟨p, 6, none⟩ = some (.int .i64 c.G) ∧ w.cell? ⟨p, 7, none⟩ = some (.int .i64 c.K) ∧ w.cell? ⟨p, 8, none⟩ = some (.int .i64 a) ∧ w.cell? ⟨p, 9, none⟩ = some (.int .u64 tp)) :
    (w.setCell ⟨p, 10, none⟩ v).cell? ⟨p, 0, none⟩ = some (.int .i64 sl) ∧ (w.setCell ⟨p, 10, none⟩ v).cell? ⟨p, 1, none⟩ = some (.bool em) ∧ (w.setCell ⟨p, 10, none⟩ v).cell? ⟨p, 2, none⟩ = some (.int .i64 c.S) ∧ (w.setCell ⟨p, 10, none⟩ v).cell? ⟨p, 3, none⟩ = some (.int .i64 c.A) ∧ (w.setCell ⟨p, 10, none⟩ v).cell? ⟨p, 4, none⟩ = some (.int .i64 c.C) ∧ (w.setCell ⟨p, 10, none⟩ v).cell? ⟨p, 5, none⟩ = some (.int .i64 c.H) ∧ (w.setCell ⟨p, 10, none⟩ v).cell? ⟨p, 6, none⟩ = some (.int .i64 c.G) ∧ (w.setCell ⟨p, 10, none⟩ v).cell? ⟨p, 7, none⟩ = some (.int .i64 c.K) ∧ (w.setCell ⟨p, 10, none⟩ v).cell? ⟨p, 8, none⟩ = some (.int .i64 a) ∧ (w.setCell ⟨p, 10, none⟩ v).cell? ⟨p, 9, none⟩ = some (.int .u64 tp) := by
  obtain ⟨x0, x1, x2, x3, x4, x5, x6, x7, x8, x9⟩ := h
  exact ⟨(cell_off (by decide)).trans x0, (cell_off (by decide)).trans x1, (cell_off (by decide)).trans x2, (cell_off (by decide)).trans x3, (cell_off (by decide)).trans x4, (cell_off (by decide)).trans x5, (cell_off (by decide)).trans x6, (cell_off (by decide)).trans x7, (cell_off (by decide)).trans x8, (cell_off (by decide)).trans x9⟩
theorem pop_k0 {w : World} {p : Nat} {c : Cf} {em : Bool} {tp : Int} {nx : Int} {v : Value} (h : w.cell? ⟨p, 1, none⟩ = some (.bool em) ∧ w.cell? ⟨p, 2, none⟩ = some (.int .i64 c.S) ∧ w.cell? ⟨p, 3, none⟩ = some (.int .i64 c.A) ∧ w.cell? ⟨p, 4, none⟩ = some (.int .i64 c.C) ∧ w.cell? ⟨p, 5, none⟩ = some (.int .i64 c.H) ∧ w.cell? ⟨p, 6, none⟩ = some (.int .i64 c.G) ∧ w.cell? ⟨p, 7, none⟩ = some (.int .i64 c.K) ∧ w.cell? ⟨p, 9, none⟩ = some (.int .u64 tp) ∧ w.cell? ⟨p, 10, none⟩ = some (.int .i64 nx)) :
    (w.setCell ⟨p, 0, none⟩ v).cell? ⟨p, 1, none⟩ = some (.bool em) ∧ (w.setCell ⟨p, 0, none⟩ v).cell? ⟨p, 2, none⟩ = some (.int .i64 c.S) ∧ (w.setCell ⟨p, 0, none⟩ v).cell? ⟨p, 3, none⟩ = some (.int .i64 c.A) ∧ (w.setCell ⟨p, 0, none⟩ v).cell? ⟨p, 4, none⟩ = some (.int .i64 c.C) ∧ (w.setCell ⟨p, 0, none⟩ v).cell? ⟨p, 5, none⟩ = some (.int .i64 c.H) ∧ (w.setCell ⟨p, 0, none⟩ v).cell? ⟨p, 6, none⟩ = some (.int .i64 c.G) ∧ (w.setCell ⟨p, 0, none⟩ v).cell? ⟨p, 7, none⟩ = some (.int .i64 c.K) ∧ (w.setCell ⟨p, 0, none⟩ v).cell? ⟨p, 9, none⟩ = some (.int .u64 tp) ∧ (w.setCell ⟨p, 0, none⟩ v).cell? ⟨p, 10, none⟩ = some (.int .i64 nx) := by
  obtain ⟨x1, x2, x3, x4, x5, x6, x7, x9, x10⟩ := h
  exact ⟨(cell_off (by decide)).trans x1, (cell_off (by decide)).trans x2, (cell_off (by decide)).trans x3, (cell_off (by decide)).trans x4, (cell_off (by decide)).trans x5, (cell_off (by decide)).trans x6, (cell_off (by decide)).trans x7, (cell_off (by decide)).trans x9, (cell_off (by decide)).trans x10⟩
theorem pop_k8 {w : World} {p : Nat} {c : Cf} {em : Bool} {tp : Int} {nx : Int} {v : Value} (h : w.cell? ⟨p, 1, none⟩ = some (.bool em) ∧ w.cell? ⟨p, 2, none⟩ = some (.int .i64 c.S) ∧ w.cell? ⟨p, 3, none⟩ = some (.int .i64 c.A) ∧ w.cell? ⟨p, 4, none⟩ = some (.int .i64 c.C) ∧ w.cell? ⟨p, 5, none⟩ = some (.int .i64 c.H) ∧ w.cell? ⟨p, 6, none⟩ = some (.int .i64 c.G) ∧ w.cell? ⟨p, 7, none⟩ = some (.int .i64 c.K) ∧ w.cell? ⟨p, 9, none⟩ = some (.int .u64 tp) ∧ w.cell? ⟨p, 10, none⟩ = some (.int .i64 nx)) :
    (w.setCell ⟨p, 8, none⟩ v).cell? ⟨p, 1, none⟩ = some (.bool em) ∧ (w.setCell ⟨p, 8, none⟩ v).cell? ⟨p, 2, none⟩ = some (.int .i64 c.S) ∧ (w.setCell ⟨p, 8, none⟩ v).cell? ⟨p, 3, none⟩ = some (.int .i64 c.A) ∧ (w.setCell ⟨p, 8, none⟩ v).cell? ⟨p, 4, none⟩ = some (.int .i64 c.C) ∧ (w.setCell ⟨p, 8, none⟩ v).cell? ⟨p, 5, none⟩ = some (.int .i64 c.H) ∧ (w.setCell ⟨p, 8, none⟩ v).cell? ⟨p, 6, none⟩ = some (.int .i64 c.G) ∧ (w.setCell ⟨p, 8, none⟩ v).cell? ⟨p, 7, none⟩ = some (.int .i64 c.K) ∧ (w.setCell ⟨p, 8, none⟩ v).cell? ⟨p, 9, none⟩ = some (.int .u64 tp) ∧ (w.setCell ⟨p, 8, none⟩ v).cell? ⟨p, 10, none⟩ = some (.int .i64 nx) := by
  obtain ⟨x1, x2, x3, x4, x5, x6, x7, x9, x10⟩ := h
  exact ⟨(cell_off (by decide)).trans x1, (cell_off (by decide)).trans x2, (cell_off (by decide)).trans x3, (cell_off (by decide)).trans x4, (cell_off (by decide)).trans x5, (cell_off (by decide)).trans x6, (cell_off (by decide)).trans x7, (cell_off (by decide)).trans x9, (cell_off (by decide)).trans x10⟩
section
variable (c : Cf) (w : World) (p m b : Nat) (M : Ms) (hc : c.right = true) (hM : MemB w m b M) (ok : Ok M) (np : ¬ two m b p) (sl : Int) (em : Bool) (tp nx : Int)
include hc hM ok np
set_option maxHeartbeats 4000000 in
set_option maxRecDepth 100000 in
theorem pop_0a (hx : firstI c.S (M.ldV 3) < 0) (hp : Blk w p 66 (popA c sl em 0 tp nx)) : Calls Try.prog 45 #[.pointer (some ⟨p, 0, none⟩), .pointer (some ⟨m, 0, none⟩)] w fun e w' =>
    e = .returned (.bool true) ∧ Blk w' p 66 (popA c sl true 3 ((M.ldV 3)) nx) ∧ MemB w' m b (M.ldS 3) ∧ Fr (three p m b) w w' := by
  have hF := Lib.hid (Fr.refl (three p m b) w)
  obtain ⟨k0, k1, k2, k3, k4, k5, k6, k7, k8, k9, k10⟩ := pop_cells hp
  obtain ⟨x0, x1⟩ := ldV_bd ok 3
  have hl := load_c w m b M 3 hM ok
  generalize M.ldV 3 = x at *
  replace hp := Lib.hid hp
  replace hM := Lib.hid hM
  go_enter Try.func45, Try.ntmps45
  go_wp2_with (go_at_call 35; refine (hl).mono ?_; rintro e w1 ⟨rfl, hM', hF'⟩; replace hp := Lib.hid (hp.out.fr hF' np); replace hM := Lib.hid hM'; replace hF := Lib.hid (hF.out.trans (two_three hF')); clear hM' hF'; obtain ⟨l0, l1, l2, l3, l4, l5, l6, l7, l8, l9, l10⟩ := pop_cells hp.out; have z8 := hp.out.frozen 8; have z9 := hp.out.frozen 9)
  have hp' : Blk ((w1.setCell ⟨p, 9, none⟩ (.int .u64 x)).setCell ⟨p, 8, none⟩ (.int .i64 1)) p 66 (popA c sl em 1 x nx) := ((hp.out.set 9 _).set 8 _)
  have hM' := ((hM.out.set np 9 (.int .u64 x)).set np 8 (.int .i64 1))
  have hF' := ((hF.out.trans (fr_p w1 9 (.int .u64 x))).trans (fr_p (w1.setCell ⟨p, 9, none⟩ (.int .u64 x)) 8 (.int .i64 1)))
  clear hp hM hF k0 k1 k2 k3 k4 k5 k6 k7 k8 k9 k10 l0 l1 l2 l3 l4 l5 l6 l7 l8 l9 l10 z8 z9 hl
  generalize (w1.setCell ⟨p, 9, none⟩ (.int .u64 x)).setCell ⟨p, 8, none⟩ (.int .i64 1) = w2 at *
  have hp := Lib.hid hp'
  have hM := Lib.hid hM'
  have hF := Lib.hid hF'
  clear hp' hM' hF'
  replace hp := Lib.hid hp.out.drew
  replace hM := Lib.hid hM.out.drew
  replace hF := Lib.hid (hF.out.trans (Fr.drew _ w2))
  have hX0 := pop_cells hp.out
  have hX : w2.drew.cell? ⟨p, 0, none⟩ = some (.int .i64 sl) ∧ w2.drew.cell? ⟨p, 1, none⟩ = some (.bool em) ∧ w2.drew.cell? ⟨p, 2, none⟩ = some (.int .i64 c.S) ∧ w2.drew.cell? ⟨p, 3, none⟩ = some (.int .i64 c.A) ∧ w2.drew.cell? ⟨p, 4, none⟩ = some (.int .i64 c.C) ∧ w2.drew.cell? ⟨p, 5, none⟩ = some (.int .i64 c.H) ∧ w2.drew.cell? ⟨p, 6, none⟩ = some (.int .i64 c.G) ∧ w2.drew.cell? ⟨p, 7, none⟩ = some (.int .i64 c.K) ∧ w2.drew.cell? ⟨p, 8, none⟩ = some (.int .i64 1) ∧ w2.drew.cell? ⟨p, 9, none⟩ = some (.int .u64 x) ∧ w2.drew.cell? ⟨p, 10, none⟩ = some (.int .i64 nx) := hX0
  clear hX0
  go_region_held3 (fun w' => w'.cell? ⟨p, 0, none⟩ = some (.int .i64 sl) ∧ w'.cell? ⟨p, 1, none⟩ = some (.bool em) ∧ w'.cell? ⟨p, 2, none⟩ = some (.int .i64 c.S) ∧ w'.cell? ⟨p, 3, none⟩ = some (.int .i64 c.A) ∧ w'.cell? ⟨p, 4, none⟩ = some (.int .i64 c.C) ∧ w'.cell? ⟨p, 5, none⟩ = some (.int .i64 c.H) ∧ w'.cell? ⟨p, 6, none⟩ = some (.int .i64 c.G) ∧ w'.cell? ⟨p, 7, none⟩ = some (.int .i64 c.K) ∧ w'.cell? ⟨p, 8, none⟩ = some (.int .i64 1) ∧ w'.cell? ⟨p, 9, none⟩ = some (.int .u64 x) ∧ w'.cell? ⟨p, 10, none⟩ = some (.int .i64 nx)) (assumption) (first
    | (go_at_call 75; refine (firstC c _ x x0 x1).mono ?_; rintro e w3 ⟨rfl, hb⟩; replace hp := Lib.hid (hp.out.below hb hp.out.lt); replace hM := Lib.hid (hM.out.next hb); replace hF := Lib.hid (hF.out.trans (fr_below hb)); have hY := pop_cells hp.out; clear hb; have z1 := hp.out.frozen 1; have z8 := hp.out.frozen 8))
  obtain ⟨l0, l1, l2, l3, l4, l5, l6, l7, l8, l9, l10⟩ := hY
  go_wp2
  go_ret
  exact ⟨rfl, (hp.out.set 1 _).set 8 _, (hM.out.set np 1 _).set np 8 _, (hF.out.trans (fr_p w3 1 (.bool true))).trans (fr_p _ 8 _)⟩
set_option maxHeartbeats 4000000 in
set_option maxRecDepth 100000 in
theorem pop_0b (hx : 0 ≤ firstI c.S (M.ldV 3)) (hp : Blk w p 66 (popA c sl em 0 tp nx)) : Calls Try.prog 45 #[.pointer (some ⟨p, 0, none⟩), .pointer (some ⟨m, 0, none⟩)] w fun e w' =>
    e = .returned (.bool false) ∧ Blk w' p 66 (popA c sl em 1 ((M.ldV 3)) nx) ∧ MemB w' m b (M.ldS 3) ∧ Fr (three p m b) w w' := by
  have hF := Lib.hid (Fr.refl (three p m b) w)
  obtain ⟨k0, k1, k2, k3, k4, k5, k6, k7, k8, k9, k10⟩ := pop_cells hp
  obtain ⟨x0, x1⟩ := ldV_bd ok 3
  have hl := load_c w m b M 3 hM ok
  generalize M.ldV 3 = x at *
  replace hp := Lib.hid hp
  replace hM := Lib.hid hM
  go_enter Try.func45, Try.ntmps45
  go_wp2_with (go_at_call 35; refine (hl).mono ?_; rintro e w1 ⟨rfl, hM', hF'⟩; replace hp := Lib.hid (hp.out.fr hF' np); replace hM := Lib.hid hM'; replace hF := Lib.hid (hF.out.trans (two_three hF')); clear hM' hF'; obtain ⟨l0, l1, l2, l3, l4, l5, l6, l7, l8, l9, l10⟩ := pop_cells hp.out; have z8 := hp.out.frozen 8; have z9 := hp.out.frozen 9)
  have hp' : Blk ((w1.setCell ⟨p, 9, none⟩ (.int .u64 x)).setCell ⟨p, 8, none⟩ (.int .i64 1)) p 66 (popA c sl em 1 x nx) := ((hp.out.set 9 _).set 8 _)
  have hM' := ((hM.out.set np 9 (.int .u64 x)).set np 8 (.int .i64 1))
  have hF' := ((hF.out.trans (fr_p w1 9 (.int .u64 x))).trans (fr_p (w1.setCell ⟨p, 9, none⟩ (.int .u64 x)) 8 (.int .i64 1)))
  clear hp hM hF k0 k1 k2 k3 k4 k5 k6 k7 k8 k9 k10 l0 l1 l2 l3 l4 l5 l6 l7 l8 l9 l10 z8 z9 hl
  generalize (w1.setCell ⟨p, 9, none⟩ (.int .u64 x)).setCell ⟨p, 8, none⟩ (.int .i64 1) = w2 at *
  have hp := Lib.hid hp'
  have hM := Lib.hid hM'
  have hF := Lib.hid hF'
  clear hp' hM' hF'
  replace hp := Lib.hid hp.out.drew
  replace hM := Lib.hid hM.out.drew
  replace hF := Lib.hid (hF.out.trans (Fr.drew _ w2))
  have hX0 := pop_cells hp.out
  have hX : w2.drew.cell? ⟨p, 0, none⟩ = some (.int .i64 sl) ∧ w2.drew.cell? ⟨p, 1, none⟩ = some (.bool em) ∧ w2.drew.cell? ⟨p, 2, none⟩ = some (.int .i64 c.S) ∧ w2.drew.cell? ⟨p, 3, none⟩ = some (.int .i64 c.A) ∧ w2.drew.cell? ⟨p, 4, none⟩ = some (.int .i64 c.C) ∧ w2.drew.cell? ⟨p, 5, none⟩ = some (.int .i64 c.H) ∧ w2.drew.cell? ⟨p, 6, none⟩ = some (.int .i64 c.G) ∧ w2.drew.cell? ⟨p, 7, none⟩ = some (.int .i64 c.K) ∧ w2.drew.cell? ⟨p, 8, none⟩ = some (.int .i64 1) ∧ w2.drew.cell? ⟨p, 9, none⟩ = some (.int .u64 x) ∧ w2.drew.cell? ⟨p, 10, none⟩ = some (.int .i64 nx) := hX0
  clear hX0
  go_region_held3 (fun w' => w'.cell? ⟨p, 0, none⟩ = some (.int .i64 sl) ∧ w'.cell? ⟨p, 1, none⟩ = some (.bool em) ∧ w'.cell? ⟨p, 2, none⟩ = some (.int .i64 c.S) ∧ w'.cell? ⟨p, 3, none⟩ = some (.int .i64 c.A) ∧ w'.cell? ⟨p, 4, none⟩ = some (.int .i64 c.C) ∧ w'.cell? ⟨p, 5, none⟩ = some (.int .i64 c.H) ∧ w'.cell? ⟨p, 6, none⟩ = some (.int .i64 c.G) ∧ w'.cell? ⟨p, 7, none⟩ = some (.int .i64 c.K) ∧ w'.cell? ⟨p, 8, none⟩ = some (.int .i64 1) ∧ w'.cell? ⟨p, 9, none⟩ = some (.int .u64 x) ∧ w'.cell? ⟨p, 10, none⟩ = some (.int .i64 nx)) (assumption) (first
    | (go_at_call 75; refine (firstC c _ x x0 x1).mono ?_; rintro e w3 ⟨rfl, hb⟩; replace hp := Lib.hid (hp.out.below hb hp.out.lt); replace hM := Lib.hid (hM.out.next hb); replace hF := Lib.hid (hF.out.trans (fr_below hb)); have hY := pop_cells hp.out; clear hb; have z1 := hp.out.frozen 1; have z8 := hp.out.frozen 8))
  obtain ⟨l0, l1, l2, l3, l4, l5, l6, l7, l8, l9, l10⟩ := hY
  go_wp2
  go_ret
  exact ⟨rfl, hp.out, hM.out, hF.out⟩
set_option maxHeartbeats 4000000 in
set_option maxRecDepth 100000 in
theorem pop_1 (t0 : 0 ≤ tp) (t1 : tp < 18446744073709551616) (hp : Blk w p 66 (popA c sl em 1 tp nx)) : Calls Try.prog 45 #[.pointer (some ⟨p, 0, none⟩), .pointer (some ⟨m, 0, none⟩)] w fun e w' =>
    e = .returned (.bool false) ∧ Blk w' p 66 (popA c sl em 2 tp ((linkedI c.S (M.ldV (c.link (firstI c.S tp)))))) ∧ MemB w' m b (M.ldS (c.link (firstI c.S tp))) ∧ Fr (three p m b) w w' := by
  obtain ⟨x0, x1⟩ := ldV_bd ok (c.link (firstI c.S tp))
  have hF := Lib.hid (Fr.refl (three p m b) w)
  obtain ⟨k0, k1, k2, k3, k4, k5, k6, k7, k8, k9, k10⟩ := pop_cells hp
  replace hp := Lib.hid hp
  replace hM := Lib.hid hM
  go_enter Try.func45, Try.ntmps45
  go_wp2
  clear k0 k1 k2 k3 k4 k5 k6 k7 k8 k9 k10
  replace hp := Lib.hid hp.out.drew
  replace hM := Lib.hid hM.out.drew
  replace hF := Lib.hid (hF.out.trans (Fr.drew _ w))
  have hX0 := pop_cells hp.out
  have hX : w.drew.cell? ⟨p, 0, none⟩ = some (.int .i64 sl) ∧ w.drew.cell? ⟨p, 1, none⟩ = some (.bool em) ∧ w.drew.cell? ⟨p, 2, none⟩ = some (.int .i64 c.S) ∧ w.drew.cell? ⟨p, 3, none⟩ = some (.int .i64 c.A) ∧ w.drew.cell? ⟨p, 4, none⟩ = some (.int .i64 c.C) ∧ w.drew.cell? ⟨p, 5, none⟩ = some (.int .i64 c.H) ∧ w.drew.cell? ⟨p, 6, none⟩ = some (.int .i64 c.G) ∧ w.drew.cell? ⟨p, 7, none⟩ = some (.int .i64 c.K) ∧ w.drew.cell? ⟨p, 8, none⟩ = some (.int .i64 1) ∧ w.drew.cell? ⟨p, 9, none⟩ = some (.int .u64 tp) := by
    obtain ⟨x0, x1, x2, x3, x4, x5, x6, x7, x8, x9, x10⟩ := hX0
    exact ⟨x0, x1, x2, x3, x4, x5, x6, x7, x8, x9⟩
  clear hX0
  go_region_held3 (fun w' => w'.cell? ⟨p, 0, none⟩ = some (.int .i64 sl) ∧ w'.cell? ⟨p, 1, none⟩ = some (.bool em) ∧ w'.cell? ⟨p, 2, none⟩ = some (.int .i64 c.S) ∧ w'.cell? ⟨p, 3, none⟩ = some (.int .i64 c.A) ∧ w'.cell? ⟨p, 4, none⟩ = some (.int .i64 c.C) ∧ w'.cell? ⟨p, 5, none⟩ = some (.int .i64 c.H) ∧ w'.cell? ⟨p, 6, none⟩ = some (.int .i64 c.G) ∧ w'.cell? ⟨p, 7, none⟩ = some (.int .i64 c.K) ∧ w'.cell? ⟨p, 8, none⟩ = some (.int .i64 1) ∧ w'.cell? ⟨p, 9, none⟩ = some (.int .u64 tp)) (first | assumption | (refine pop_k10 ?_; assumption)) (first
    | (go_at_call 75; refine (firstC c _ tp t0 t1).mono ?_; rintro e w3 ⟨rfl, hb⟩; replace hp := Lib.hid (hp.out.below hb hp.out.lt); replace hM := Lib.hid (hM.out.next hb); replace hF := Lib.hid (hF.out.trans (fr_below hb)); clear hb; have hY_w3 : w3.cell? ⟨p, 0, none⟩ = some (.int .i64 sl) ∧ w3.cell? ⟨p, 1, none⟩ = some (.bool em) ∧ w3.cell? ⟨p, 2, none⟩ = some (.int .i64 c.S) ∧ w3.cell? ⟨p, 3, none⟩ = some (.int .i64 c.A) ∧ w3.cell? ⟨p, 4, none⟩ = some (.int .i64 c.C) ∧ w3.cell? ⟨p, 5, none⟩ = some (.int .i64 c.H) ∧ w3.cell? ⟨p, 6, none⟩ = some (.int .i64 c.G) ∧ w3.cell? ⟨p, 7, none⟩ = some (.int .i64 c.K) ∧ w3.cell? ⟨p, 8, none⟩ = some (.int .i64 1) ∧ w3.cell? ⟨p, 9, none⟩ = some (.int .u64 tp) := (by obtain ⟨y0, y1, y2, y3, y4, y5, y6, y7, y8, y9, y10⟩ := pop_cells hp.out; exact ⟨y0, y1, y2, y3, y4, y5, y6, y7, y8, y9⟩))
    | (go_at_call 69; refine (linkC c _ (firstI c.S tp)).mono ?_; rintro e w4 ⟨rfl, hb⟩; replace hp := Lib.hid (hp.out.below hb hp.out.lt); replace hM := Lib.hid (hM.out.next hb); replace hF := Lib.hid (hF.out.trans (fr_below hb)); clear hb; have hY_w4 : w4.cell? ⟨p, 0, none⟩ = some (.int .i64 sl) ∧ w4.cell? ⟨p, 1, none⟩ = some (.bool em) ∧ w4.cell? ⟨p, 2, none⟩ = some (.int .i64 c.S) ∧ w4.cell? ⟨p, 3, none⟩ = some (.int .i64 c.A) ∧ w4.cell? ⟨p, 4, none⟩ = some (.int .i64 c.C) ∧ w4.cell? ⟨p, 5, none⟩ = some (.int .i64 c.H) ∧ w4.cell? ⟨p, 6, none⟩ = some (.int .i64 c.G) ∧ w4.cell? ⟨p, 7, none⟩ = some (.int .i64 c.K) ∧ w4.cell? ⟨p, 8, none⟩ = some (.int .i64 1) ∧ w4.cell? ⟨p, 9, none⟩ = some (.int .u64 tp) := (by obtain ⟨y0, y1, y2, y3, y4, y5, y6, y7, y8, y9, y10⟩ := pop_cells hp.out; exact ⟨y0, y1, y2, y3, y4, y5, y6, y7, y8, y9⟩))
    | (go_at_call 35; refine (load_c _ m b M (c.link (firstI c.S tp)) hM.out ok).mono ?_; rintro e w5 ⟨rfl, hM', hF'⟩; replace hp := Lib.hid (hp.out.fr hF' np); replace hM := Lib.hid hM'; replace hF := Lib.hid (hF.out.trans (two_three hF')); clear hM' hF'; have hY_w5 : w5.cell? ⟨p, 0, none⟩ = some (.int .i64 sl) ∧ w5.cell? ⟨p, 1, none⟩ = some (.bool em) ∧ w5.cell? ⟨p, 2, none⟩ = some (.int .i64 c.S) ∧ w5.cell? ⟨p, 3, none⟩ = some (.int .i64 c.A) ∧ w5.cell? ⟨p, 4, none⟩ = some (.int .i64 c.C) ∧ w5.cell? ⟨p, 5, none⟩ = some (.int .i64 c.H) ∧ w5.cell? ⟨p, 6, none⟩ = some (.int .i64 c.G) ∧ w5.cell? ⟨p, 7, none⟩ = some (.int .i64 c.K) ∧ w5.cell? ⟨p, 8, none⟩ = some (.int .i64 1) ∧ w5.cell? ⟨p, 9, none⟩ = some (.int .u64 tp) := (by obtain ⟨y0, y1, y2, y3, y4, y5, y6, y7, y8, y9, y10⟩ := pop_cells hp.out; exact ⟨y0, y1, y2, y3, y4, y5, y6, y7, y8, y9⟩))
    | (go_at_call 76; refine (linkedC c _ hc _ x0 x1).mono ?_; rintro e w6 ⟨rfl, hb⟩; replace hp := Lib.hid (hp.out.below hb hp.out.lt); replace hM := Lib.hid (hM.out.next hb); replace hF := Lib.hid (hF.out.trans (fr_below hb)); clear hb; have z8 := hp.out.frozen 8; have z10 := hp.out.frozen 10; have hY_w6 : w6.cell? ⟨p, 0, none⟩ = some (.int .i64 sl) ∧ w6.cell? ⟨p, 1, none⟩ = some (.bool em) ∧ w6.cell? ⟨p, 2, none⟩ = some (.int .i64 c.S) ∧ w6.cell? ⟨p, 3, none⟩ = some (.int .i64 c.A) ∧ w6.cell? ⟨p, 4, none⟩ = some (.int .i64 c.C) ∧ w6.cell? ⟨p, 5, none⟩ = some (.int .i64 c.H) ∧ w6.cell? ⟨p, 6, none⟩ = some (.int .i64 c.G) ∧ w6.cell? ⟨p, 7, none⟩ = some (.int .i64 c.K) ∧ w6.cell? ⟨p, 8, none⟩ = some (.int .i64 1) ∧ w6.cell? ⟨p, 9, none⟩ = some (.int .u64 tp) := (by obtain ⟨y0, y1, y2, y3, y4, y5, y6, y7, y8, y9, y10⟩ := pop_cells hp.out; exact ⟨y0, y1, y2, y3, y4, y5, y6, y7, y8, y9⟩); have l10 := hp.out.cell (i := 10) (v := .int .i64 nx) rfl))
  go_wp2
  go_ret
  exact ⟨rfl, (hp.out.set 10 _).set 8 _, (hM.out.set np 10 _).set np 8 _, (hF.out.trans (fr_p _ 10 _)).trans (fr_p _ 8 _)⟩
set_option maxHeartbeats 4000000 in
set_option maxRecDepth 100000 in
theorem pop_2a (t0 : 0 ≤ tp) (t1 : tp < 18446744073709551616) (hs : M.swV 3 tp = true) (hp : Blk w p 66 (popA c sl em 2 tp nx)) : Calls Try.prog 45 #[.pointer (some ⟨p, 0, none⟩), .pointer (some ⟨m, 0, none⟩)] w fun e w' =>
    e = .returned (.bool true) ∧ Blk w' p 66 (popA c ((firstI c.S tp)) em 3 tp nx) ∧ MemB w' m b (M.swS 3 tp (movedV tp nx)) ∧ Fr (three p m b) w w' := by
  obtain ⟨n0, n1⟩ := movedV_bd tp nx t0
  have z8 := hp.frozen 8
  have hF := Lib.hid (Fr.refl (three p m b) w)
  obtain ⟨k0, k1, k2, k3, k4, k5, k6, k7, k8, k9, k10⟩ := pop_cells hp
  replace hs := Lib.hid hs
  replace hp := Lib.hid hp
  replace hM := Lib.hid hM
  go_enter Try.func45, Try.ntmps45
  go_wp2
  have hp' : Blk (w.setCell ⟨p, 8, none⟩ (.int .i64 0)) p 66 (popA c sl em 0 tp nx) := (hp.out.set 8 _)
  have hM' := (hM.out.set np 8 (.int .i64 0))
  have hF' := (hF.out.trans (fr_p w 8 (.int .i64 0)))
  clear hp hM hF k0 k1 k2 k3 k4 k5 k6 k7 k8 k9 k10 z8
  generalize w.setCell ⟨p, 8, none⟩ (.int .i64 0) = w2 at *
  have hp := Lib.hid hp'
  have hM := Lib.hid hM'
  have hF := Lib.hid hF'
  clear hp' hM' hF'
  replace hp := Lib.hid hp.out.drew
  replace hM := Lib.hid hM.out.drew
  replace hF := Lib.hid (hF.out.trans (Fr.drew _ w2))
  have hX0 := pop_cells hp.out
  have hX : w2.drew.cell? ⟨p, 0, none⟩ = some (.int .i64 sl) ∧ w2.drew.cell? ⟨p, 1, none⟩ = some (.bool em) ∧ w2.drew.cell? ⟨p, 2, none⟩ = some (.int .i64 c.S) ∧ w2.drew.cell? ⟨p, 3, none⟩ = some (.int .i64 c.A) ∧ w2.drew.cell? ⟨p, 4, none⟩ = some (.int .i64 c.C) ∧ w2.drew.cell? ⟨p, 5, none⟩ = some (.int .i64 c.H) ∧ w2.drew.cell? ⟨p, 6, none⟩ = some (.int .i64 c.G) ∧ w2.drew.cell? ⟨p, 7, none⟩ = some (.int .i64 c.K) ∧ w2.drew.cell? ⟨p, 8, none⟩ = some (.int .i64 0) ∧ w2.drew.cell? ⟨p, 9, none⟩ = some (.int .u64 tp) ∧ w2.drew.cell? ⟨p, 10, none⟩ = some (.int .i64 nx) := hX0
  clear hX0
  go_region_held3 (fun w' => w'.cell? ⟨p, 0, none⟩ = some (.int .i64 sl) ∧ w'.cell? ⟨p, 1, none⟩ = some (.bool em) ∧ w'.cell? ⟨p, 2, none⟩ = some (.int .i64 c.S) ∧ w'.cell? ⟨p, 3, none⟩ = some (.int .i64 c.A) ∧ w'.cell? ⟨p, 4, none⟩ = some (.int .i64 c.C) ∧ w'.cell? ⟨p, 5, none⟩ = some (.int .i64 c.H) ∧ w'.cell? ⟨p, 6, none⟩ = some (.int .i64 c.G) ∧ w'.cell? ⟨p, 7, none⟩ = some (.int .i64 c.K) ∧ w'.cell? ⟨p, 8, none⟩ = some (.int .i64 0) ∧ w'.cell? ⟨p, 9, none⟩ = some (.int .u64 tp) ∧ w'.cell? ⟨p, 10, none⟩ = some (.int .i64 nx)) (assumption) (first
    | (go_at_call 83; refine (movedC _ tp nx t0 t1).mono ?_; rintro e w3 ⟨rfl, hb⟩; replace hp := Lib.hid (hp.out.below hb hp.out.lt); replace hM := Lib.hid (hM.out.next hb); replace hF := Lib.hid (hF.out.trans (fr_below hb)); clear hb; have hY_w3 : w3.cell? ⟨p, 0, none⟩ = some (.int .i64 sl) ∧ w3.cell? ⟨p, 1, none⟩ = some (.bool em) ∧ w3.cell? ⟨p, 2, none⟩ = some (.int .i64 c.S) ∧ w3.cell? ⟨p, 3, none⟩ = some (.int .i64 c.A) ∧ w3.cell? ⟨p, 4, none⟩ = some (.int .i64 c.C) ∧ w3.cell? ⟨p, 5, none⟩ = some (.int .i64 c.H) ∧ w3.cell? ⟨p, 6, none⟩ = some (.int .i64 c.G) ∧ w3.cell? ⟨p, 7, none⟩ = some (.int .i64 c.K) ∧ w3.cell? ⟨p, 8, none⟩ = some (.int .i64 0) ∧ w3.cell? ⟨p, 9, none⟩ = some (.int .u64 tp) ∧ w3.cell? ⟨p, 10, none⟩ = some (.int .i64 nx) := (by obtain ⟨y0, y1, y2, y3, y4, y5, y6, y7, y8, y9, y10⟩ := pop_cells hp.out; exact ⟨y0, y1, y2, y3, y4, y5, y6, y7, y8, y9, y10⟩))
    | (go_at_call 82; refine (swap_c _ m b M 3 hM.out ok tp (movedV tp nx)).mono ?_; rintro e w4 ⟨rfl, hM', hF'⟩; rw [hs.out]; replace hp := Lib.hid (hp.out.fr hF' np); replace hM := Lib.hid hM'; replace hF := Lib.hid (hF.out.trans (two_three hF')); clear hM' hF'; have z8 := hp.out.frozen 8; have z0 := hp.out.frozen 0; have hY_w4 : w4.cell? ⟨p, 0, none⟩ = some (.int .i64 sl) ∧ w4.cell? ⟨p, 1, none⟩ = some (.bool em) ∧ w4.cell? ⟨p, 2, none⟩ = some (.int .i64 c.S) ∧ w4.cell? ⟨p, 3, none⟩ = some (.int .i64 c.A) ∧ w4.cell? ⟨p, 4, none⟩ = some (.int .i64 c.C) ∧ w4.cell? ⟨p, 5, none⟩ = some (.int .i64 c.H) ∧ w4.cell? ⟨p, 6, none⟩ = some (.int .i64 c.G) ∧ w4.cell? ⟨p, 7, none⟩ = some (.int .i64 c.K) ∧ w4.cell? ⟨p, 8, none⟩ = some (.int .i64 0) ∧ w4.cell? ⟨p, 9, none⟩ = some (.int .u64 tp) ∧ w4.cell? ⟨p, 10, none⟩ = some (.int .i64 nx) := (by obtain ⟨y0, y1, y2, y3, y4, y5, y6, y7, y8, y9, y10⟩ := pop_cells hp.out; exact ⟨y0, y1, y2, y3, y4, y5, y6, y7, y8, y9, y10⟩)))
  go_wp2
  clear hX hY_w3 hY_w4 z8 z0
  replace hp := Lib.hid hp.out.drew
  replace hM := Lib.hid hM.out.drew
  replace hF := Lib.hid (hF.out.trans (Fr.drew _ w4))
  have hX0 := pop_cells hp.out
  have hX : w4.drew.cell? ⟨p, 1, none⟩ = some (.bool em) ∧ w4.drew.cell? ⟨p, 2, none⟩ = some (.int .i64 c.S) ∧ w4.drew.cell? ⟨p, 3, none⟩ = some (.int .i64 c.A) ∧ w4.drew.cell? ⟨p, 4, none⟩ = some (.int .i64 c.C) ∧ w4.drew.cell? ⟨p, 5, none⟩ = some (.int .i64 c.H) ∧ w4.drew.cell? ⟨p, 6, none⟩ = some (.int .i64 c.G) ∧ w4.drew.cell? ⟨p, 7, none⟩ = some (.int .i64 c.K) ∧ w4.drew.cell? ⟨p, 9, none⟩ = some (.int .u64 tp) ∧ w4.drew.cell? ⟨p, 10, none⟩ = some (.int .i64 nx) := by
    obtain ⟨x0, x1, x2, x3, x4, x5, x6, x7, x8, x9, x10⟩ := hX0
    exact ⟨x1, x2, x3, x4, x5, x6, x7, x9, x10⟩
  clear hX0
  go_region_held3 (fun w' => w'.cell? ⟨p, 1, none⟩ = some (.bool em) ∧ w'.cell? ⟨p, 2, none⟩ = some (.int .i64 c.S) ∧ w'.cell? ⟨p, 3, none⟩ = some (.int .i64 c.A) ∧ w'.cell? ⟨p, 4, none⟩ = some (.int .i64 c.C) ∧ w'.cell? ⟨p, 5, none⟩ = some (.int .i64 c.H) ∧ w'.cell? ⟨p, 6, none⟩ = some (.int .i64 c.G) ∧ w'.cell? ⟨p, 7, none⟩ = some (.int .i64 c.K) ∧ w'.cell? ⟨p, 9, none⟩ = some (.int .u64 tp) ∧ w'.cell? ⟨p, 10, none⟩ = some (.int .i64 nx)) (first | assumption | (refine pop_k0 ?_; assumption) | (refine pop_k8 ?_; assumption)) (first
    | (go_at_call 75; refine (firstC c _ tp t0 t1).mono ?_; rintro e w5 ⟨rfl, hb⟩; replace hp := Lib.hid (hp.out.below hb hp.out.lt); replace hM := Lib.hid (hM.out.next hb); replace hF := Lib.hid (hF.out.trans (fr_below hb)); clear hb; have z0 := hp.out.frozen 0; have z8 := hp.out.frozen 8; have hY_w5 : w5.cell? ⟨p, 1, none⟩ = some (.bool em) ∧ w5.cell? ⟨p, 2, none⟩ = some (.int .i64 c.S) ∧ w5.cell? ⟨p, 3, none⟩ = some (.int .i64 c.A) ∧ w5.cell? ⟨p, 4, none⟩ = some (.int .i64 c.C) ∧ w5.cell? ⟨p, 5, none⟩ = some (.int .i64 c.H) ∧ w5.cell? ⟨p, 6, none⟩ = some (.int .i64 c.G) ∧ w5.cell? ⟨p, 7, none⟩ = some (.int .i64 c.K) ∧ w5.cell? ⟨p, 9, none⟩ = some (.int .u64 tp) ∧ w5.cell? ⟨p, 10, none⟩ = some (.int .i64 nx) := (by obtain ⟨y0, y1, y2, y3, y4, y5, y6, y7, y8, y9, y10⟩ := pop_cells hp.out; exact ⟨y1, y2, y3, y4, y5, y6, y7, y9, y10⟩); have l0 := hp.out.cell (i := 0) (v := .int .i64 sl) rfl; have l8 := hp.out.cell (i := 8) (v := .int .i64 0) rfl))
  all_goals
    go_wp2
    go_ret
    exact ⟨rfl, (hp.out.set 0 _).set 8 _, (hM.out.set np 0 _).set np 8 _, (hF.out.trans (fr_p _ 0 _)).trans (fr_p _ 8 _)⟩
set_option maxHeartbeats 4000000 in
set_option maxRecDepth 100000 in
theorem pop_2b (t0 : 0 ≤ tp) (t1 : tp < 18446744073709551616) (hs : M.swV 3 tp = false) (hp : Blk w p 66 (popA c sl em 2 tp nx)) : Calls Try.prog 45 #[.pointer (some ⟨p, 0, none⟩), .pointer (some ⟨m, 0, none⟩)] w fun e w' =>
    e = .returned (.bool false) ∧ Blk w' p 66 (popA c sl em 0 tp nx) ∧ MemB w' m b (M.swS 3 tp (movedV tp nx)) ∧ Fr (three p m b) w w' := by
  obtain ⟨n0, n1⟩ := movedV_bd tp nx t0
  have z8 := hp.frozen 8
  have hF := Lib.hid (Fr.refl (three p m b) w)
  obtain ⟨k0, k1, k2, k3, k4, k5, k6, k7, k8, k9, k10⟩ := pop_cells hp
  replace hs := Lib.hid hs
  replace hp := Lib.hid hp
  replace hM := Lib.hid hM
  go_enter Try.func45, Try.ntmps45
  go_wp2
  have hp' : Blk (w.setCell ⟨p, 8, none⟩ (.int .i64 0)) p 66 (popA c sl em 0 tp nx) := (hp.out.set 8 _)
  have hM' := (hM.out.set np 8 (.int .i64 0))
  have hF' := (hF.out.trans (fr_p w 8 (.int .i64 0)))
  clear hp hM hF k0 k1 k2 k3 k4 k5 k6 k7 k8 k9 k10 z8
  generalize w.setCell ⟨p, 8, none⟩ (.int .i64 0) = w2 at *
  have hp := Lib.hid hp'
  have hM := Lib.hid hM'
  have hF := Lib.hid hF'
  clear hp' hM' hF'
  replace hp := Lib.hid hp.out.drew
  replace hM := Lib.hid hM.out.drew
  replace hF := Lib.hid (hF.out.trans (Fr.drew _ w2))
  have hX0 := pop_cells hp.out
  have hX : w2.drew.cell? ⟨p, 0, none⟩ = some (.int .i64 sl) ∧ w2.drew.cell? ⟨p, 1, none⟩ = some (.bool em) ∧ w2.drew.cell? ⟨p, 2, none⟩ = some (.int .i64 c.S) ∧ w2.drew.cell? ⟨p, 3, none⟩ = some (.int .i64 c.A) ∧ w2.drew.cell? ⟨p, 4, none⟩ = some (.int .i64 c.C) ∧ w2.drew.cell? ⟨p, 5, none⟩ = some (.int .i64 c.H) ∧ w2.drew.cell? ⟨p, 6, none⟩ = some (.int .i64 c.G) ∧ w2.drew.cell? ⟨p, 7, none⟩ = some (.int .i64 c.K) ∧ w2.drew.cell? ⟨p, 8, none⟩ = some (.int .i64 0) ∧ w2.drew.cell? ⟨p, 9, none⟩ = some (.int .u64 tp) ∧ w2.drew.cell? ⟨p, 10, none⟩ = some (.int .i64 nx) := hX0
  clear hX0
  go_region_held3 (fun w' => w'.cell? ⟨p, 0, none⟩ = some (.int .i64 sl) ∧ w'.cell? ⟨p, 1, none⟩ = some (.bool em) ∧ w'.cell? ⟨p, 2, none⟩ = some (.int .i64 c.S) ∧ w'.cell? ⟨p, 3, none⟩ = some (.int .i64 c.A) ∧ w'.cell? ⟨p, 4, none⟩ = some (.int .i64 c.C) ∧ w'.cell? ⟨p, 5, none⟩ = some (.int .i64 c.H) ∧ w'.cell? ⟨p, 6, none⟩ = some (.int .i64 c.G) ∧ w'.cell? ⟨p, 7, none⟩ = some (.int .i64 c.K) ∧ w'.cell? ⟨p, 8, none⟩ = some (.int .i64 0) ∧ w'.cell? ⟨p, 9, none⟩ = some (.int .u64 tp) ∧ w'.cell? ⟨p, 10, none⟩ = some (.int .i64 nx)) (assumption) (first
    | (go_at_call 83; refine (movedC _ tp nx t0 t1).mono ?_; rintro e w3 ⟨rfl, hb⟩; replace hp := Lib.hid (hp.out.below hb hp.out.lt); replace hM := Lib.hid (hM.out.next hb); replace hF := Lib.hid (hF.out.trans (fr_below hb)); clear hb; have hY_w3 : w3.cell? ⟨p, 0, none⟩ = some (.int .i64 sl) ∧ w3.cell? ⟨p, 1, none⟩ = some (.bool em) ∧ w3.cell? ⟨p, 2, none⟩ = some (.int .i64 c.S) ∧ w3.cell? ⟨p, 3, none⟩ = some (.int .i64 c.A) ∧ w3.cell? ⟨p, 4, none⟩ = some (.int .i64 c.C) ∧ w3.cell? ⟨p, 5, none⟩ = some (.int .i64 c.H) ∧ w3.cell? ⟨p, 6, none⟩ = some (.int .i64 c.G) ∧ w3.cell? ⟨p, 7, none⟩ = some (.int .i64 c.K) ∧ w3.cell? ⟨p, 8, none⟩ = some (.int .i64 0) ∧ w3.cell? ⟨p, 9, none⟩ = some (.int .u64 tp) ∧ w3.cell? ⟨p, 10, none⟩ = some (.int .i64 nx) := (by obtain ⟨y0, y1, y2, y3, y4, y5, y6, y7, y8, y9, y10⟩ := pop_cells hp.out; exact ⟨y0, y1, y2, y3, y4, y5, y6, y7, y8, y9, y10⟩))
    | (go_at_call 82; refine (swap_c _ m b M 3 hM.out ok tp (movedV tp nx)).mono ?_; rintro e w4 ⟨rfl, hM', hF'⟩; rw [hs.out]; replace hp := Lib.hid (hp.out.fr hF' np); replace hM := Lib.hid hM'; replace hF := Lib.hid (hF.out.trans (two_three hF')); clear hM' hF'; have z8 := hp.out.frozen 8; have z0 := hp.out.frozen 0; have hY_w4 : w4.cell? ⟨p, 0, none⟩ = some (.int .i64 sl) ∧ w4.cell? ⟨p, 1, none⟩ = some (.bool em) ∧ w4.cell? ⟨p, 2, none⟩ = some (.int .i64 c.S) ∧ w4.cell? ⟨p, 3, none⟩ = some (.int .i64 c.A) ∧ w4.cell? ⟨p, 4, none⟩ = some (.int .i64 c.C) ∧ w4.cell? ⟨p, 5, none⟩ = some (.int .i64 c.H) ∧ w4.cell? ⟨p, 6, none⟩ = some (.int .i64 c.G) ∧ w4.cell? ⟨p, 7, none⟩ = some (.int .i64 c.K) ∧ w4.cell? ⟨p, 8, none⟩ = some (.int .i64 0) ∧ w4.cell? ⟨p, 9, none⟩ = some (.int .u64 tp) ∧ w4.cell? ⟨p, 10, none⟩ = some (.int .i64 nx) := (by obtain ⟨y0, y1, y2, y3, y4, y5, y6, y7, y8, y9, y10⟩ := pop_cells hp.out; exact ⟨y0, y1, y2, y3, y4, y5, y6, y7, y8, y9, y10⟩)))
  obtain ⟨l0, l1, l2, l3, l4, l5, l6, l7, l8, l9, l10⟩ := hY_w4
  go_wp2
  go_ret
  exact ⟨rfl, hp.out, hM.out, hF.out⟩
set_option maxHeartbeats 4000000 in
set_option maxRecDepth 100000 in
theorem pop_3 (hp : Blk w p 66 (popA c sl em 3 tp nx)) : Calls Try.prog 45 #[.pointer (some ⟨p, 0, none⟩), .pointer (some ⟨m, 0, none⟩)] w fun e w' =>
    e = .returned (.bool true) ∧ Blk w' p 66 (popA c sl em 3 tp nx) ∧ MemB w' m b (M) ∧ Fr (three p m b) w w' := by
  have hF := Lib.hid (Fr.refl (three p m b) w)
  obtain ⟨k0, k1, k2, k3, k4, k5, k6, k7, k8, k9, k10⟩ := pop_cells hp
  replace hp := Lib.hid hp
  replace hM := Lib.hid hM
  go_enter Try.func45, Try.ntmps45
  go_wp2
  go_ret
  exact ⟨rfl, hp.out, hM.out, hF.out⟩
set_option maxHeartbeats 4000000 in
set_option maxRecDepth 100000 in
theorem push_0 (hp : Blk w p 137 (pushA c sl 0 tp)) : Calls Try.prog 47 #[.pointer (some ⟨p, 0, none⟩), .pointer (some ⟨m, 0, none⟩)] w fun e w' =>
    e = .returned (.bool false) ∧ Blk w' p 137 (pushA c sl 1 ((M.ldV 3))) ∧ MemB w' m b (M.ldS 3) ∧ Fr (three p m b) w w' := by
  have hF := Lib.hid (Fr.refl (three p m b) w)
  obtain ⟨k0, k1, k2, k3, k4, k5, k6, k7, k8⟩ := push_cells hp
  obtain ⟨x0, x1⟩ := ldV_bd ok 3
  have hl := load_c w m b M 3 hM ok
  generalize M.ldV 3 = x at *
  replace hp := Lib.hid hp
  replace hM := Lib.hid hM
  go_enter Try.func47, Try.ntmps47
  go_wp2_with (go_at_call 35; refine (hl).mono ?_; rintro e w1 ⟨rfl, hM', hF'⟩; replace hp := Lib.hid (hp.out.fr hF' np); replace hM := Lib.hid hM'; replace hF := Lib.hid (hF.out.trans (two_three hF')); clear hM' hF'; obtain ⟨l0, l1, l2, l3, l4, l5, l6, l7, l8⟩ := push_cells hp.out; have z7 := hp.out.frozen 7; have z8 := hp.out.frozen 8)
  go_ret
  exact ⟨rfl, (hp.out.set 8 _).set 7 _, (hM.out.set np 8 _).set np 7 _, (hF.out.trans (fr_p _ 8 _)).trans (fr_p _ 7 _)⟩
set_option maxHeartbeats 4000000 in
set_option maxRecDepth 100000 in
theorem push_1 (t0 : 0 ≤ tp) (t1 : tp < 18446744073709551616) (hp : Blk w p 137 (pushA c sl 1 tp)) : Calls Try.prog 47 #[.pointer (some ⟨p, 0, none⟩), .pointer (some ⟨m, 0, none⟩)] w fun e w' =>
    e = .returned (.bool false) ∧ Blk w' p 137 (pushA c sl 2 tp) ∧ MemB w' m b (M.stS (c.link sl) (firstI c.S tp + 1)) ∧ Fr (three p m b) w w' := by
  have e0 := firstI_bd c.S tp
  have e3 : firstI c.S tp < 65536 := by unfold firstI; split <;> omega
  have e1 : IntKind.i64.wrap (firstI c.S tp + 1) = firstI c.S tp + 1 := IntWalk.i64_in _ (by omega)
  have e2 : IntKind.u64.wrap (firstI c.S tp + 1) = firstI c.S tp + 1 := wrap_u64_id _ (by omega) (by omega)
  clear e0 e3
  have hF := Lib.hid (Fr.refl (three p m b) w)
  obtain ⟨k0, k1, k2, k3, k4, k5, k6, k7, k8⟩ := push_cells hp
  replace hp := Lib.hid hp
  replace hM := Lib.hid hM
  go_enter Try.func47, Try.ntmps47
  go_wp2
  clear k0 k1 k2 k3 k4 k5 k6 k7 k8
  replace hp := Lib.hid hp.out.drew
  replace hM := Lib.hid hM.out.drew
  replace hF := Lib.hid (hF.out.trans (Fr.drew _ w))
  have hX0 := push_cells hp.out
  have hX : w.drew.cell? ⟨p, 0, none⟩ = some (.int .i64 c.S) ∧ w.drew.cell? ⟨p, 1, none⟩ = some (.int .i64 c.A) ∧ w.drew.cell? ⟨p, 2, none⟩ = some (.int .i64 c.C) ∧ w.drew.cell? ⟨p, 3, none⟩ = some (.int .i64 c.H) ∧ w.drew.cell? ⟨p, 4, none⟩ = some (.int .i64 c.G) ∧ w.drew.cell? ⟨p, 5, none⟩ = some (.int .i64 c.K) ∧ w.drew.cell? ⟨p, 6, none⟩ = some (.int .i64 sl) ∧ w.drew.cell? ⟨p, 7, none⟩ = some (.int .i64 1) ∧ w.drew.cell? ⟨p, 8, none⟩ = some (.int .u64 tp) := hX0
  clear hX0
  go_region_held3 (fun w' => w'.cell? ⟨p, 0, none⟩ = some (.int .i64 c.S) ∧ w'.cell? ⟨p, 1, none⟩ = some (.int .i64 c.A) ∧ w'.cell? ⟨p, 2, none⟩ = some (.int .i64 c.C) ∧ w'.cell? ⟨p, 3, none⟩ = some (.int .i64 c.H) ∧ w'.cell? ⟨p, 4, none⟩ = some (.int .i64 c.G) ∧ w'.cell? ⟨p, 5, none⟩ = some (.int .i64 c.K) ∧ w'.cell? ⟨p, 6, none⟩ = some (.int .i64 sl) ∧ w'.cell? ⟨p, 7, none⟩ = some (.int .i64 1) ∧ w'.cell? ⟨p, 8, none⟩ = some (.int .u64 tp)) (assumption) (first
    | (go_at_call 75; refine (firstC c _ tp t0 t1).mono ?_; rintro e w3 ⟨rfl, hb⟩; replace hp := Lib.hid (hp.out.below hb hp.out.lt); replace hM := Lib.hid (hM.out.next hb); replace hF := Lib.hid (hF.out.trans (fr_below hb)); clear hb; have hY_w3 : w3.cell? ⟨p, 0, none⟩ = some (.int .i64 c.S) ∧ w3.cell? ⟨p, 1, none⟩ = some (.int .i64 c.A) ∧ w3.cell? ⟨p, 2, none⟩ = some (.int .i64 c.C) ∧ w3.cell? ⟨p, 3, none⟩ = some (.int .i64 c.H) ∧ w3.cell? ⟨p, 4, none⟩ = some (.int .i64 c.G) ∧ w3.cell? ⟨p, 5, none⟩ = some (.int .i64 c.K) ∧ w3.cell? ⟨p, 6, none⟩ = some (.int .i64 sl) ∧ w3.cell? ⟨p, 7, none⟩ = some (.int .i64 1) ∧ w3.cell? ⟨p, 8, none⟩ = some (.int .u64 tp) := (by obtain ⟨y0, y1, y2, y3, y4, y5, y6, y7, y8⟩ := push_cells hp.out; exact ⟨y0, y1, y2, y3, y4, y5, y6, y7, y8⟩))
    | (go_at_call 69; refine (linkC c _ sl).mono ?_; rintro e w4 ⟨rfl, hb⟩; replace hp := Lib.hid (hp.out.below hb hp.out.lt); replace hM := Lib.hid (hM.out.next hb); replace hF := Lib.hid (hF.out.trans (fr_below hb)); clear hb; have hY_w4 : w4.cell? ⟨p, 0, none⟩ = some (.int .i64 c.S) ∧ w4.cell? ⟨p, 1, none⟩ = some (.int .i64 c.A) ∧ w4.cell? ⟨p, 2, none⟩ = some (.int .i64 c.C) ∧ w4.cell? ⟨p, 3, none⟩ = some (.int .i64 c.H) ∧ w4.cell? ⟨p, 4, none⟩ = some (.int .i64 c.G) ∧ w4.cell? ⟨p, 5, none⟩ = some (.int .i64 c.K) ∧ w4.cell? ⟨p, 6, none⟩ = some (.int .i64 sl) ∧ w4.cell? ⟨p, 7, none⟩ = some (.int .i64 1) ∧ w4.cell? ⟨p, 8, none⟩ = some (.int .u64 tp) := (by obtain ⟨y0, y1, y2, y3, y4, y5, y6, y7, y8⟩ := push_cells hp.out; exact ⟨y0, y1, y2, y3, y4, y5, y6, y7, y8⟩))
    | (go_at_call 57; refine (store_c _ m b M (c.link sl) hM.out ok (firstI c.S tp + 1)).mono ?_; rintro e w5 ⟨rfl, hM', hF'⟩; replace hp := Lib.hid (hp.out.fr hF' np); replace hM := Lib.hid hM'; replace hF := Lib.hid (hF.out.trans (two_three hF')); clear hM' hF'; have z7 := hp.out.frozen 7; have hY_w5 : w5.cell? ⟨p, 0, none⟩ = some (.int .i64 c.S) ∧ w5.cell? ⟨p, 1, none⟩ = some (.int .i64 c.A) ∧ w5.cell? ⟨p, 2, none⟩ = some (.int .i64 c.C) ∧ w5.cell? ⟨p, 3, none⟩ = some (.int .i64 c.H) ∧ w5.cell? ⟨p, 4, none⟩ = some (.int .i64 c.G) ∧ w5.cell? ⟨p, 5, none⟩ = some (.int .i64 c.K) ∧ w5.cell? ⟨p, 6, none⟩ = some (.int .i64 sl) ∧ w5.cell? ⟨p, 7, none⟩ = some (.int .i64 1) ∧ w5.cell? ⟨p, 8, none⟩ = some (.int .u64 tp) := (by obtain ⟨y0, y1, y2, y3, y4, y5, y6, y7, y8⟩ := push_cells hp.out; exact ⟨y0, y1, y2, y3, y4, y5, y6, y7, y8⟩)))
  all_goals
    obtain ⟨l0, l1, l2, l3, l4, l5, l6, l7, l8⟩ := hY_w5
    go_wp2
    go_ret
    exact ⟨rfl, hp.out.set 7 _, hM.out.set np 7 _, hF.out.trans (fr_p _ 7 _)⟩
set_option maxHeartbeats 4000000 in
set_option maxRecDepth 100000 in
theorem push_2a (t0 : 0 ≤ tp) (t1 : tp < 18446744073709551616) (hs : M.swV 3 tp = true) (hp : Blk w p 137 (pushA c sl 2 tp)) : Calls Try.prog 47 #[.pointer (some ⟨p, 0, none⟩), .pointer (some ⟨m, 0, none⟩)] w fun e w' =>
    e = .returned (.bool true) ∧ Blk w' p 137 (pushA c sl 3 tp) ∧ MemB w' m b (M.swS 3 tp (movedV tp sl)) ∧ Fr (three p m b) w w' := by
  obtain ⟨n0, n1⟩ := movedV_bd tp sl t0
  have z7 := hp.frozen 7
  have hF := Lib.hid (Fr.refl (three p m b) w)
  obtain ⟨k0, k1, k2, k3, k4, k5, k6, k7, k8⟩ := push_cells hp
  replace hs := Lib.hid hs
  replace hp := Lib.hid hp
  replace hM := Lib.hid hM
  go_enter Try.func47, Try.ntmps47
  go_wp2
  have hp' : Blk (w.setCell ⟨p, 7, none⟩ (.int .i64 0)) p 137 (pushA c sl 0 tp) := (hp.out.set 7 _)
  have hM' := (hM.out.set np 7 (.int .i64 0))
  have hF' := (hF.out.trans (fr_p w 7 (.int .i64 0)))
  clear hp hM hF k0 k1 k2 k3 k4 k5 k6 k7 k8 z7
  generalize w.setCell ⟨p, 7, none⟩ (.int .i64 0) = w2 at *
  have hp := Lib.hid hp'
  have hM := Lib.hid hM'
  have hF := Lib.hid hF'
  clear hp' hM' hF'
  replace hp := Lib.hid hp.out.drew
  replace hM := Lib.hid hM.out.drew
  replace hF := Lib.hid (hF.out.trans (Fr.drew _ w2))
  have hX0 := push_cells hp.out
  have hX : w2.drew.cell? ⟨p, 0, none⟩ = some (.int .i64 c.S) ∧ w2.drew.cell? ⟨p, 1, none⟩ = some (.int .i64 c.A) ∧ w2.drew.cell? ⟨p, 2, none⟩ = some (.int .i64 c.C) ∧ w2.drew.cell? ⟨p, 3, none⟩ = some (.int .i64 c.H) ∧ w2.drew.cell? ⟨p, 4, none⟩ = some (.int .i64 c.G) ∧ w2.drew.cell? ⟨p, 5, none⟩ = some (.int .i64 c.K) ∧ w2.drew.cell? ⟨p, 6, none⟩ = some (.int .i64 sl) ∧ w2.drew.cell? ⟨p, 7, none⟩ = some (.int .i64 0) ∧ w2.drew.cell? ⟨p, 8, none⟩ = some (.int .u64 tp) := hX0
  clear hX0
  go_region_held3 (fun w' => w'.cell? ⟨p, 0, none⟩ = some (.int .i64 c.S) ∧ w'.cell? ⟨p, 1, none⟩ = some (.int .i64 c.A) ∧ w'.cell? ⟨p, 2, none⟩ = some (.int .i64 c.C) ∧ w'.cell? ⟨p, 3, none⟩ = some (.int .i64 c.H) ∧ w'.cell? ⟨p, 4, none⟩ = some (.int .i64 c.G) ∧ w'.cell? ⟨p, 5, none⟩ = some (.int .i64 c.K) ∧ w'.cell? ⟨p, 6, none⟩ = some (.int .i64 sl) ∧ w'.cell? ⟨p, 7, none⟩ = some (.int .i64 0) ∧ w'.cell? ⟨p, 8, none⟩ = some (.int .u64 tp)) (assumption) (first
    | (go_at_call 83; refine (movedC _ tp sl t0 t1).mono ?_; rintro e w3 ⟨rfl, hb⟩; replace hp := Lib.hid (hp.out.below hb hp.out.lt); replace hM := Lib.hid (hM.out.next hb); replace hF := Lib.hid (hF.out.trans (fr_below hb)); clear hb; have hY_w3 : w3.cell? ⟨p, 0, none⟩ = some (.int .i64 c.S) ∧ w3.cell? ⟨p, 1, none⟩ = some (.int .i64 c.A) ∧ w3.cell? ⟨p, 2, none⟩ = some (.int .i64 c.C) ∧ w3.cell? ⟨p, 3, none⟩ = some (.int .i64 c.H) ∧ w3.cell? ⟨p, 4, none⟩ = some (.int .i64 c.G) ∧ w3.cell? ⟨p, 5, none⟩ = some (.int .i64 c.K) ∧ w3.cell? ⟨p, 6, none⟩ = some (.int .i64 sl) ∧ w3.cell? ⟨p, 7, none⟩ = some (.int .i64 0) ∧ w3.cell? ⟨p, 8, none⟩ = some (.int .u64 tp) := (by obtain ⟨y0, y1, y2, y3, y4, y5, y6, y7, y8⟩ := push_cells hp.out; exact ⟨y0, y1, y2, y3, y4, y5, y6, y7, y8⟩))
    | (go_at_call 82; refine (swap_c _ m b M 3 hM.out ok tp (movedV tp sl)).mono ?_; rintro e w4 ⟨rfl, hM', hF'⟩; rw [hs.out]; replace hp := Lib.hid (hp.out.fr hF' np); replace hM := Lib.hid hM'; replace hF := Lib.hid (hF.out.trans (two_three hF')); clear hM' hF'; have z7 := hp.out.frozen 7; have hY_w4 : w4.cell? ⟨p, 0, none⟩ = some (.int .i64 c.S) ∧ w4.cell? ⟨p, 1, none⟩ = some (.int .i64 c.A) ∧ w4.cell? ⟨p, 2, none⟩ = some (.int .i64 c.C) ∧ w4.cell? ⟨p, 3, none⟩ = some (.int .i64 c.H) ∧ w4.cell? ⟨p, 4, none⟩ = some (.int .i64 c.G) ∧ w4.cell? ⟨p, 5, none⟩ = some (.int .i64 c.K) ∧ w4.cell? ⟨p, 6, none⟩ = some (.int .i64 sl) ∧ w4.cell? ⟨p, 7, none⟩ = some (.int .i64 0) ∧ w4.cell? ⟨p, 8, none⟩ = some (.int .u64 tp) := (by obtain ⟨y0, y1, y2, y3, y4, y5, y6, y7, y8⟩ := push_cells hp.out; exact ⟨y0, y1, y2, y3, y4, y5, y6, y7, y8⟩)))
  obtain ⟨l0, l1, l2, l3, l4, l5, l6, l7, l8⟩ := hY_w4
  go_wp2
  go_ret
  exact ⟨rfl, hp.out.set 7 _, hM.out.set np 7 _, hF.out.trans (fr_p _ 7 _)⟩
set_option maxHeartbeats 4000000 in
set_option maxRecDepth 100000 in
theorem push_2b (t0 : 0 ≤ tp) (t1 : tp < 18446744073709551616) (hs : M.swV 3 tp = false) (hp : Blk w p 137 (pushA c sl 2 tp)) : Calls Try.prog 47 #[.pointer (some ⟨p, 0, none⟩), .pointer (some ⟨m, 0, none⟩)] w fun e w' =>
    e = .returned (.bool false) ∧ Blk w' p 137 (pushA c sl 0 tp) ∧ MemB w' m b (M.swS 3 tp (movedV tp sl)) ∧ Fr (three p m b) w w' := by
  obtain ⟨n0, n1⟩ := movedV_bd tp sl t0
  have z7 := hp.frozen 7
  have hF := Lib.hid (Fr.refl (three p m b) w)
  obtain ⟨k0, k1, k2, k3, k4, k5, k6, k7, k8⟩ := push_cells hp
  replace hs := Lib.hid hs
  replace hp := Lib.hid hp
  replace hM := Lib.hid hM
  go_enter Try.func47, Try.ntmps47
  go_wp2
  have hp' : Blk (w.setCell ⟨p, 7, none⟩ (.int .i64 0)) p 137 (pushA c sl 0 tp) := (hp.out.set 7 _)
  have hM' := (hM.out.set np 7 (.int .i64 0))
  have hF' := (hF.out.trans (fr_p w 7 (.int .i64 0)))
  clear hp hM hF k0 k1 k2 k3 k4 k5 k6 k7 k8 z7
  generalize w.setCell ⟨p, 7, none⟩ (.int .i64 0) = w2 at *
  have hp := Lib.hid hp'
  have hM := Lib.hid hM'
  have hF := Lib.hid hF'
  clear hp' hM' hF'
  replace hp := Lib.hid hp.out.drew
  replace hM := Lib.hid hM.out.drew
  replace hF := Lib.hid (hF.out.trans (Fr.drew _ w2))
  have hX0 := push_cells hp.out
  have hX : w2.drew.cell? ⟨p, 0, none⟩ = some (.int .i64 c.S) ∧ w2.drew.cell? ⟨p, 1, none⟩ = some (.int .i64 c.A) ∧ w2.drew.cell? ⟨p, 2, none⟩ = some (.int .i64 c.C) ∧ w2.drew.cell? ⟨p, 3, none⟩ = some (.int .i64 c.H) ∧ w2.drew.cell? ⟨p, 4, none⟩ = some (.int .i64 c.G) ∧ w2.drew.cell? ⟨p, 5, none⟩ = some (.int .i64 c.K) ∧ w2.drew.cell? ⟨p, 6, none⟩ = some (.int .i64 sl) ∧ w2.drew.cell? ⟨p, 7, none⟩ = some (.int .i64 0) ∧ w2.drew.cell? ⟨p, 8, none⟩ = some (.int .u64 tp) := hX0
  clear hX0
  go_region_held3 (fun w' => w'.cell? ⟨p, 0, none⟩ = some (.int .i64 c.S) ∧ w'.cell? ⟨p, 1, none⟩ = some (.int .i64 c.A) ∧ w'.cell? ⟨p, 2, none⟩ = some (.int .i64 c.C) ∧ w'.cell? ⟨p, 3, none⟩ = some (.int .i64 c.H) ∧ w'.cell? ⟨p, 4, none⟩ = some (.int .i64 c.G) ∧ w'.cell? ⟨p, 5, none⟩ = some (.int .i64 c.K) ∧ w'.cell? ⟨p, 6, none⟩ = some (.int .i64 sl) ∧ w'.cell? ⟨p, 7, none⟩ = some (.int .i64 0) ∧ w'.cell? ⟨p, 8, none⟩ = some (.int .u64 tp)) (assumption) (first
    | (go_at_call 83; refine (movedC _ tp sl t0 t1).mono ?_; rintro e w3 ⟨rfl, hb⟩; replace hp := Lib.hid (hp.out.below hb hp.out.lt); replace hM := Lib.hid (hM.out.next hb); replace hF := Lib.hid (hF.out.trans (fr_below hb)); clear hb; have hY_w3 : w3.cell? ⟨p, 0, none⟩ = some (.int .i64 c.S) ∧ w3.cell? ⟨p, 1, none⟩ = some (.int .i64 c.A) ∧ w3.cell? ⟨p, 2, none⟩ = some (.int .i64 c.C) ∧ w3.cell? ⟨p, 3, none⟩ = some (.int .i64 c.H) ∧ w3.cell? ⟨p, 4, none⟩ = some (.int .i64 c.G) ∧ w3.cell? ⟨p, 5, none⟩ = some (.int .i64 c.K) ∧ w3.cell? ⟨p, 6, none⟩ = some (.int .i64 sl) ∧ w3.cell? ⟨p, 7, none⟩ = some (.int .i64 0) ∧ w3.cell? ⟨p, 8, none⟩ = some (.int .u64 tp) := (by obtain ⟨y0, y1, y2, y3, y4, y5, y6, y7, y8⟩ := push_cells hp.out; exact ⟨y0, y1, y2, y3, y4, y5, y6, y7, y8⟩))
    | (go_at_call 82; refine (swap_c _ m b M 3 hM.out ok tp (movedV tp sl)).mono ?_; rintro e w4 ⟨rfl, hM', hF'⟩; rw [hs.out]; replace hp := Lib.hid (hp.out.fr hF' np); replace hM := Lib.hid hM'; replace hF := Lib.hid (hF.out.trans (two_three hF')); clear hM' hF'; have z7 := hp.out.frozen 7; have hY_w4 : w4.cell? ⟨p, 0, none⟩ = some (.int .i64 c.S) ∧ w4.cell? ⟨p, 1, none⟩ = some (.int .i64 c.A) ∧ w4.cell? ⟨p, 2, none⟩ = some (.int .i64 c.C) ∧ w4.cell? ⟨p, 3, none⟩ = some (.int .i64 c.H) ∧ w4.cell? ⟨p, 4, none⟩ = some (.int .i64 c.G) ∧ w4.cell? ⟨p, 5, none⟩ = some (.int .i64 c.K) ∧ w4.cell? ⟨p, 6, none⟩ = some (.int .i64 sl) ∧ w4.cell? ⟨p, 7, none⟩ = some (.int .i64 0) ∧ w4.cell? ⟨p, 8, none⟩ = some (.int .u64 tp) := (by obtain ⟨y0, y1, y2, y3, y4, y5, y6, y7, y8⟩ := push_cells hp.out; exact ⟨y0, y1, y2, y3, y4, y5, y6, y7, y8⟩)))
  obtain ⟨l0, l1, l2, l3, l4, l5, l6, l7, l8⟩ := hY_w4
  go_wp2
  go_ret
  exact ⟨rfl, hp.out, hM.out, hF.out⟩
set_option maxHeartbeats 4000000 in
set_option maxRecDepth 100000 in
theorem push_3 (hp : Blk w p 137 (pushA c sl 3 tp)) : Calls Try.prog 47 #[.pointer (some ⟨p, 0, none⟩), .pointer (some ⟨m, 0, none⟩)] w fun e w' =>
    e = .returned (.bool true) ∧ Blk w' p 137 (pushA c sl 3 tp) ∧ MemB w' m b (M) ∧ Fr (three p m b) w w' := by
  have hF := Lib.hid (Fr.refl (three p m b) w)
  obtain ⟨k0, k1, k2, k3, k4, k5, k6, k7, k8⟩ := push_cells hp
  replace hp := Lib.hid hp
  replace hM := Lib.hid hM
  go_enter Try.func47, Try.ntmps47
  go_wp2
  go_ret
  exact ⟨rfl, hp.out, hM.out, hF.out⟩
end
end Go.Proofs.Ytijfkpoofpcacaa.StackC
end
section
namespace Go.Proofs.Ytijfkpoofpcacaa.Opens
open Go.ChangeShapes Go.WideShapes Go.Deep Go.RowKit
def Sl (w : World) (A : Option Addr) (n m : Nat) (V : Nat → Nat → Value) : Prop := 0 < n → ∃ b off, A = some ⟨b, off, none⟩ ∧ b < w.heap.size ∧ ∀ i, i < n → ∀ j, j < m → w.cell? ⟨b, off + i * m + j, none⟩ = some (V i j)
theorem cell_lt {w : World} {b i : Nat} {v : Value} (h : w.cell? ⟨b, i, none⟩ = some v) : b < w.heap.size := by
  rcases Nat.lt_or_ge b w.heap.size with hl | hl
  · exact hl
  · simp [World.cell?, Array.getElem?_eq_none hl] at h
theorem Sl.below {w w' : World} {A n m V} {N : Nat} (h : Sl w A n m V) (hb : Below N w w') (hN : w.heap.size ≤ N) : Sl w' A n m V := by
  intro hn
  obtain ⟨b, off, e, hl, hc⟩ := h hn
  refine ⟨b, off, e, Nat.lt_of_lt_of_le hl hb.size, fun i hi j hj => ?_⟩
  rw [hb.cell (p := ⟨b, off + i * m + j, none⟩) (Nat.lt_of_lt_of_le hl hN)]
  exact hc i hi j hj
theorem Sl.at_ {w : World} {A n m V} (h : Sl w A n m V) {i : Nat} (hi : i < n) : ∃ b off, A = some ⟨b, off, none⟩ ∧ ∀ j, j < m → w.cell? ⟨b, off + i * m + j, none⟩ = some (V i j) := by
  obtain ⟨b, off, e, _, hc⟩ := h (by omega)
  exact ⟨b, off, e, hc i hi⟩
theorem Sl.congr {w : World} {A n m V V'} (h : Sl w A n m V) (he : ∀ i, i < n → ∀ j, j < m → V i j = V' i j) : Sl w A n m V' := by
  intro hn
  obtain ⟨b, off, e, hl, hc⟩ := h hn
  exact ⟨b, off, e, hl, fun i hi j hj => by rw [← he i hi j hj]; exact hc i hi j hj⟩
section
variable {H : Type} {enc : TypeId × Value → H} {P : Program} {W : World} {base : Nat} {spare : Nat → Bool} {held : Bool}
theorem open_nums {t e : TypeId} {k : IntKind} {A : Option Addr} {len cap : Nat} {d : DataW H} {ps : List MemPlace} {ts : List TypeId} {ds : List (DataW H)} {jj : Nat}
    (ht : P.underlying t = some (.slice e)) (hs : P.underlying e = some (.int k)) (hC : P.cellsOf e = 1)
    (hsz : (DataW.weightsEach P ts ds).all (· ≤ reachBytes) = true) (hts : ts[jj]? = some t) (hds : ds[jj]? = some d) (h : DataW.Trod enc P W base spare held t (.slice A len cap) d ps) :
    len ≤ cap ∧ len * P.bytesOf e ≤ reachBytes ∧ ∃ q : Nat → Int, Sl W A len 1 (fun i _ => .int k (q i)) ∧ ∀ i, i < len → (Lit.int k (q i)).wf = true := by
  obtain ⟨fuel, hf⟩ := h
  rcases open_slice1 ht hC hf with ⟨hcs, _⟩ | ⟨x, l, c, m, n, V, D, Pl, hcs, _, hl, hm, hmm, hx, hall⟩
  · simp [Value.cells] at hcs
    obtain ⟨rfl, rfl, rfl⟩ := hcs
    exact ⟨Nat.le_refl _, by simp, fun _ => 0, fun h => absurd h (by decide), fun i hi => absurd hi (by omega)⟩
  · simp [Value.cells] at hcs
    obtain ⟨rfl, rfl, rfl⟩ := hcs
    have hlm : len ≤ m := by rw [hmm]; split <;> omega
    obtain ⟨hd, _⟩ := Prod.mk.inj hx
    subst hd
    have z := sized_slice hsz hts hds ht
    simp only [List.length_map, List.length_range] at z
    refine ⟨hl, Nat.le_trans (Nat.mul_le_mul_right _ (by omega)) z, ?_⟩
    have each : ∀ i, i < m → ∃ q : Int, W.cell? (x.add i) = some (.int k q) ∧ (Lit.int k q).wf = true := by
      intro i hi
      obtain ⟨h1, h2⟩ := hall i hi
      obtain ⟨n1, h3, _, hw⟩ := DataW.trod_int hs h2
      refine ⟨n1, ?_, hw⟩
      rw [h1]
      simpa using h3
    obtain ⟨q, hq⟩ := choose_lt each
    refine ⟨q, fun hn => ?_, fun i hi => (hq i (by omega)).2⟩
    have c0 := (hq 0 (by omega)).1
    obtain ⟨b, o, spot⟩ := x
    have hspot : spot = none := by simpa [Addr.add] using World.cell?_spot c0
    subst hspot
    refine ⟨b, o, rfl, ?_, fun i hi j hj => ?_⟩
    · rw [add_plain] at c0
      exact cell_lt c0
    · have := (hq i (by omega)).1
      rw [add_plain] at this
      obtain rfl : j = 0 := by omega
      rw [Nat.mul_one]
      exact this
end
end Go.Proofs.Ytijfkpoofpcacaa.Opens
end
section
set_option linter.unusedVariables false
namespace Go.Proofs.Ytijfkpoofpcacaa.StackL
open Go.RowKit Go.Proofs.Ytijfkpoofpcacaa.PArenaPlays Go.Proofs.YtijfkpoofpcacaaW.PrintWords Go.Proofs.Ytijfkpoofpcacaa.Blk Go.Proofs.Ytijfkpoofpcacaa.Core Go.Proofs.Ytijfkpoofpcacaa.PuArenaPlays Go.Proofs.Ytijfkpoofpcacaa.MemC Go.Proofs.Ytijfkpoofpcacaa.MemD Go.Proofs.Ytijfkpoofpcacaa.MemT Go.Proofs.Ytijfkpoofpcacaa.PlanC Go.Proofs.Ytijfkpoofpcacaa.PlanD Go.Proofs.Ytijfkpoofpcacaa.StackC Go.Proofs.Ytijfkpoofpcacaa.Opens
def chain (c : Cf) (f : Nat → Int) : Nat → Int → List Int
  | 0, _ => []
  | n + 1, x => if 1 ≤ x ∧ x ≤ c.S then (x - 1) :: chain c f n (f (c.link (x - 1)).toNat) else []
def Li (w : World) (base : Nat) (v : Value) (l : List Int) : Prop :=
  ∃ A cc, v = .slice A l.length cc ∧ l.length ≤ cc ∧ Sl w A l.length 1 (fun i _ => .int .i64 (l.getD i 0)) ∧ (∀ b o, A = some ⟨b, o, none⟩ → 0 < l.length → base ≤ b) ∧ l.length ≤ 100000
theorem Li.below {w w' : World} {B : Nat} {v : Value} {l : List Int} (h : Li w B v l) (hb : Below w.heap.size w w') : Li w' B v l := by
  obtain ⟨A, cc, e, hc, hS, hB, hl⟩ := h
  exact ⟨A, cc, e, hc, hS.below hb (Nat.le_refl _), hB, hl⟩
theorem Li.fr {P : Nat → Prop} {w w' : World} {B : Nat} {v : Value} {l : List Int} (h : Li w B v l) (hf : Fr P w w') (hP : ∀ k, P k → k < B) : Li w' B v l := by
  obtain ⟨A, cc, e, hc, hS, hB, hl⟩ := h
  refine ⟨A, cc, e, hc, fun hn => ?_, hB, hl⟩
  obtain ⟨b, off, e', hlt, hcl⟩ := hS hn
  refine ⟨b, off, e', Nat.lt_of_lt_of_le hlt hf.size, fun i hi j hj => ?_⟩
  have := hf.keep b hlt (fun q => by have := hP b q; have := hB b off e' hn; omega)
  have h2 := hcl i hi j hj
  simp only [World.cell?] at h2 ⊢
  rw [this]; exact h2
structure RdB (w : World) (b off n : Nat) (f : Nat → Int) : Prop where
  lt : b < w.heap.size
  cell : ∀ i, i < n → w.cell? ⟨b, off + i, none⟩ = some (.int .u64 (f i))
theorem RdB.below {w w' : World} {b off n : Nat} {f : Nat → Int} (h : RdB w b off n f) (hb : Below w.heap.size w w') : RdB w' b off n f :=
  ⟨Nat.lt_of_lt_of_le h.lt hb.size, fun i hi => (hb.cell (p := ⟨b, off + i, none⟩) h.lt).trans (h.cell i hi)⟩
theorem RdB.fr {P : Nat → Prop} {w w' : World} {b off n : Nat} {f : Nat → Int} (h : RdB w b off n f) (hf : Fr P w w') (hb : ¬ P b) : RdB w' b off n f := by
  refine ⟨Nat.lt_of_lt_of_le h.lt hf.size, fun i hi => ?_⟩
  have h2 := h.cell i hi
  simp only [World.cell?] at h2 ⊢
  rw [hf.keep b h.lt hb]; exact h2
theorem RdB.alloc {w : World} {b off n : Nat} {f : Nat → Int} (h : RdB w b off n f) (o : Obj) : RdB (w.alloc o) b off n f := h.fr (P := fun _ => False) (Fr.alloc _ w o) id
theorem RdB.drew {w : World} {b off n : Nat} {f : Nat → Int} (h : RdB w b off n f) : RdB w.drew b off n f := ⟨h.lt, h.cell⟩
theorem rd_of_row {w : World} {A : Option Addr} {c b n : Nat} {f : Nat → Int} (h : RowB w A c b n f) (hn : 0 < n) : A = some ⟨b, 0, none⟩ ∧ n ≤ c ∧ RdB w b 0 n f :=
  ⟨(h.cell hn).1, h.cap, h.lt hn, fun i hi => by rw [Nat.zero_add]; exact (h.cell hi).2.1⟩
theorem link_lt {c : Cf} (h : c.right = true) {s : Int} (s0 : 0 ≤ s) (s1 : s < c.S) : 4 ≤ c.link s ∧ c.link s < c.size := by
  have hb := size_bd h
  have ha := at_bd h s0 s1 (i := 1) (by decide) (by omega)
  unfold Cf.link
  rw [if_pos ⟨h, s0, s1⟩]
  unfold Cf.size
  omega
end Go.Proofs.Ytijfkpoofpcacaa.StackL
end
section
set_option linter.unusedVariables false
set_option linter.unusedSectionVars false
namespace Go.Proofs.Ytijfkpoofpcacaa.StackS
open Go.RowKit Go.Proofs.YtijfkpoofpcacaaW.PrintWords Go.Proofs.Ytijfkpoofpcacaa.Blk Go.Proofs.Ytijfkpoofpcacaa.Core Go.Proofs.Ytijfkpoofpcacaa.MemC Go.Proofs.Ytijfkpoofpcacaa.MemD Go.Proofs.Ytijfkpoofpcacaa.MemT Go.Proofs.Ytijfkpoofpcacaa.PlanC Go.Proofs.Ytijfkpoofpcacaa.PlanD Go.Proofs.Ytijfkpoofpcacaa.StackC Go.Proofs.Ytijfkpoofpcacaa.StackL Go.Proofs.Ytijfkpoofpcacaa.Opens
structure Pop where
  sl : Int
  em : Bool
  a : Int
  tp : Int
  nx : Int
structure Push where
  sl : Int
  a : Int
  tp : Int
def PopB (w : World) (p : Nat) (c : Cf) (q : Pop) : Prop := Blk w p 66 (popA c q.sl q.em q.a q.tp q.nx)
def PushB (w : World) (p : Nat) (c : Cf) (q : Push) : Prop := Blk w p 137 (pushA c q.sl q.a q.tp)
structure PopOk (q : Pop) : Prop where
  t0 : 0 ≤ q.tp
  t1 : q.tp < 18446744073709551616
  a : q.a = 0 ∨ q.a = 1 ∨ q.a = 2 ∨ q.a = 3
structure PushOk (q : Push) : Prop where
  t0 : 0 ≤ q.tp
  t1 : q.tp < 18446744073709551616
  a : q.a = 0 ∨ q.a = 1 ∨ q.a = 2 ∨ q.a = 3
def popS (c : Cf) (q : Pop) (M : Ms) : Pop :=
  if q.a = 0 then (if firstI c.S (M.ldV 3) < 0 then ⟨q.sl, true, 3, M.ldV 3, q.nx⟩ else ⟨q.sl, q.em, 1, M.ldV 3, q.nx⟩)
  else if q.a = 1 then ⟨q.sl, q.em, 2, q.tp, linkedI c.S (M.ldV (c.link (firstI c.S q.tp)))⟩
  else if q.a = 2 then (if M.swV 3 q.tp = true then ⟨firstI c.S q.tp, q.em, 3, q.tp, q.nx⟩ else ⟨q.sl, q.em, 0, q.tp, q.nx⟩)
  else q
def popM (c : Cf) (q : Pop) (M : Ms) : Ms :=
  if q.a = 0 then M.ldS 3 else if q.a = 1 then M.ldS (c.link (firstI c.S q.tp)) else if q.a = 2 then M.swS 3 q.tp (movedV q.tp q.nx) else M
def pushS (c : Cf) (q : Push) (M : Ms) : Push :=
  if q.a = 0 then ⟨q.sl, 1, M.ldV 3⟩ else if q.a = 1 then ⟨q.sl, 2, q.tp⟩
  else if q.a = 2 then (if M.swV 3 q.tp = true then ⟨q.sl, 3, q.tp⟩ else ⟨q.sl, 0, q.tp⟩) else q
def pushM (c : Cf) (q : Push) (M : Ms) : Ms :=
  if q.a = 0 then M.ldS 3 else if q.a = 1 then M.stS (c.link q.sl) (firstI c.S q.tp + 1) else if q.a = 2 then M.swS 3 q.tp (movedV q.tp q.sl) else M
def popD (c : Cf) (q : Pop) (M : Ms) : Bool := (popS c q M).a == 3
def pushD (c : Cf) (q : Push) (M : Ms) : Bool := (pushS c q M).a == 3
theorem PopOk.step {c : Cf} {q : Pop} {M : Ms} (h : PopOk q) (ok : Ok M) : PopOk (popS c q M) := by
  obtain ⟨x0, x1⟩ := ldV_bd ok 3
  have t0 := h.t0
  have t1 := h.t1
  unfold popS
  by_cases e0 : q.a = 0
  · rw [if_pos e0]; split
    · exact ⟨x0, x1, by simp⟩
    · exact ⟨x0, x1, by simp⟩
  · rw [if_neg e0]
    by_cases e1 : q.a = 1
    · rw [if_pos e1]; exact ⟨t0, t1, by simp⟩
    · rw [if_neg e1]
      by_cases e2 : q.a = 2
      · rw [if_pos e2]; split
        · exact ⟨t0, t1, by simp⟩
        · exact ⟨t0, t1, by simp⟩
      · rw [if_neg e2]; exact h
theorem PushOk.step {c : Cf} {q : Push} {M : Ms} (h : PushOk q) (ok : Ok M) : PushOk (pushS c q M) := by
  obtain ⟨x0, x1⟩ := ldV_bd ok 3
  have t0 := h.t0
  have t1 := h.t1
  unfold pushS
  by_cases e0 : q.a = 0
  · rw [if_pos e0]; exact ⟨x0, x1, by simp⟩
  · rw [if_neg e0]
    by_cases e1 : q.a = 1
    · rw [if_pos e1]; exact ⟨t0, t1, by simp⟩
    · rw [if_neg e1]
      by_cases e2 : q.a = 2
      · rw [if_pos e2]; split
        · exact ⟨t0, t1, by simp⟩
        · exact ⟨t0, t1, by simp⟩
      · rw [if_neg e2]; exact h
section
variable (c : Cf) (w : World) (p m b : Nat) (M : Ms) (hc : c.right = true) (hM : MemB w m b M) (ok : Ok M) (np : ¬ two m b p)
include hc hM ok np
theorem popC (q : Pop) (hp : PopB w p c q) (hq : PopOk q) : Calls Try.prog 45 #[.pointer (some ⟨p, 0, none⟩), .pointer (some ⟨m, 0, none⟩)] w fun e w' =>
    e = .returned (.bool (popD c q M)) ∧ PopB w' p c (popS c q M) ∧ MemB w' m b (popM c q M) ∧ Fr (three p m b) w w' := by
  obtain ⟨sl, em, a, tp, nx⟩ := q
  have t0 : 0 ≤ tp := hq.t0
  have t1 : tp < 18446744073709551616 := hq.t1
  have ha : a = 0 ∨ a = 1 ∨ a = 2 ∨ a = 3 := hq.a
  have hp' : Blk w p 66 (popA c sl em a tp nx) := hp
  rcases ha with rfl | rfl | rfl | rfl
  · rcases Int.lt_or_le (firstI c.S (M.ldV 3)) 0 with hx | hx
    · have := pop_0a c w p m b M hc hM ok np sl em tp nx hx hp'
      simpa [popD, popS, popM, PopB, hx] using this
    · have := pop_0b c w p m b M hc hM ok np sl em tp nx hx hp'
      have hx' : ¬ firstI c.S (M.ldV 3) < 0 := by omega
      simpa [popD, popS, popM, PopB, hx'] using this
  · have := pop_1 c w p m b M hc hM ok np sl em tp nx t0 t1 hp'
    simpa [popD, popS, popM, PopB] using this
  · cases hs : M.swV 3 tp with
    | true =>
      have := pop_2a c w p m b M hc hM ok np sl em tp nx t0 t1 hs hp'
      simpa [popD, popS, popM, PopB, hs] using this
    | false =>
      have := pop_2b c w p m b M hc hM ok np sl em tp nx t0 t1 hs hp'
      simpa [popD, popS, popM, PopB, hs] using this
  · have := pop_3 c w p m b M hc hM ok np sl em tp nx hp'
    simpa [popD, popS, popM, PopB] using this
theorem pushC (q : Push) (hp : PushB w p c q) (hq : PushOk q) : Calls Try.prog 47 #[.pointer (some ⟨p, 0, none⟩), .pointer (some ⟨m, 0, none⟩)] w fun e w' =>
    e = .returned (.bool (pushD c q M)) ∧ PushB w' p c (pushS c q M) ∧ MemB w' m b (pushM c q M) ∧ Fr (three p m b) w w' := by
  obtain ⟨sl, a, tp⟩ := q
  have t0 : 0 ≤ tp := hq.t0
  have t1 : tp < 18446744073709551616 := hq.t1
  have ha : a = 0 ∨ a = 1 ∨ a = 2 ∨ a = 3 := hq.a
  have hp' : Blk w p 137 (pushA c sl a tp) := hp
  rcases ha with rfl | rfl | rfl | rfl
  · have := push_0 c w p m b M hc hM ok np sl tp hp'
    simpa [pushD, pushS, pushM, PushB] using this
  · have := push_1 c w p m b M hc hM ok np sl tp t0 t1 hp'
    simpa [pushD, pushS, pushM, PushB] using this
  · cases hs : M.swV 3 tp with
    | true =>
      have := push_2a c w p m b M hc hM ok np sl tp t0 t1 hs hp'
      simpa [pushD, pushS, pushM, PushB, hs] using this
    | false =>
      have := push_2b c w p m b M hc hM ok np sl tp t0 t1 hs hp'
      simpa [pushD, pushS, pushM, PushB, hs] using this
  · have := push_3 c w p m b M hc hM ok np sl tp hp'
    simpa [pushD, pushS, pushM, PushB] using this
end
section
variable (c : Cf) (w : World)
theorem newPopC (h : c.right = true) : Calls Try.prog 44 #[.agg #[.int .i64 c.S, .int .i64 c.A, .int .i64 c.C, .int .i64 c.H, .int .i64 c.G, .int .i64 c.K]] w fun e w' =>
    ∃ p, e = .returned (.pointer (some ⟨p, 0, none⟩)) ∧ w.heap.size ≤ p ∧ PopB w' p c ⟨-1, false, 0, 0, 0⟩ ∧ Below w.heap.size w w' := by
  have hf := Lib.hid (Blk.new w 23 #[.int .i64 c.S, .int .i64 c.A, .int .i64 c.C, .int .i64 c.H, .int .i64 c.G, .int .i64 c.K])
  replace h := Lib.hid h
  go_enter Try.func44, Try.ntmps44
  go_wp2_with (go_at_call 66; refine (rightC c _).mono ?_; rintro e w1 ⟨rfl, hb⟩; rw [h.out]; have hf1 := hf.out.below hb hf.out.lt; obtain ⟨k0, k1, k2, k3, k4, k5⟩ := cfgs hf1; replace hb := Lib.hid (below_pre hb); clear hf1)
  go_ret
  have hs := hb.out.size
  exact ⟨w1.heap.size, rfl, hs, Blk.new w1 66 _, hb.out.alloc hs _⟩
theorem newPushC (s : Int) (h : c.right = true) (s0 : 0 ≤ s) (s1 : s < c.S) : Calls Try.prog 46 #[.agg #[.int .i64 c.S, .int .i64 c.A, .int .i64 c.C, .int .i64 c.H, .int .i64 c.G, .int .i64 c.K], .int .i64 s] w fun e w' =>
    ∃ p, e = .returned (.pointer (some ⟨p, 0, none⟩)) ∧ w.heap.size ≤ p ∧ PushB w' p c ⟨s, 0, 0⟩ ∧ Below w.heap.size w w' := by
  have hf := Lib.hid (Blk.new w 23 #[.int .i64 c.S, .int .i64 c.A, .int .i64 c.C, .int .i64 c.H, .int .i64 c.G, .int .i64 c.K])
  replace h := Lib.hid h
  go_enter Try.func46, Try.ntmps46
  go_wp2_with (go_at_call 66; refine (rightC c _).mono ?_; rintro e w1 ⟨rfl, hb⟩; rw [h.out]; have hf1 := hf.out.below hb hf.out.lt; obtain ⟨k0, k1, k2, k3, k4, k5⟩ := cfgs hf1; replace hb := Lib.hid (below_pre hb); clear hf1)
  go_ret
  have hs := hb.out.size
  exact ⟨w1.heap.size, rfl, hs, Blk.new w1 137 _, hb.out.alloc hs _⟩
end
end Go.Proofs.Ytijfkpoofpcacaa.StackS
end
section
namespace Go.Proofs.Ytijfkpoofpcacaa.PArenaPlays
open Go.RowKit Go.Proofs.YtijfkpoofpcacaaW.PrintWords Go.Proofs.YtijfkpoofpcacaaW.PrintLast Go.Proofs.YtijfkpoofpcacaaW.PrintMore
attribute [local go_sem] max2_int min2_int max_two min_two max_three min_three max_four min_four
set_option linter.unusedVariables false
set_option linter.unusedSimpArgs false
def head_Unpack.f (k : Nat) (a0 : Int) : Option (Int × Int × Bool × Int × Int × Int × Bool) := (word_Unpack.f k a0 (([3, 1, 1, 4, 7, 32, 16] : List Int))).bind fun bt227 => (if (bt227.1.length : Int) < 7 then (some (0, 0, false, 0, 0, 0, false)) else (if 0 < (bt227.1.length : Int) then (if (rd bt227.1 0) > 4 then (some (0, 0, false, 0, 0, 0, false)) else (if 4 < (bt227.1.length : Int) then (if (rd bt227.1 4) = 0 then (if 1 < (bt227.1.length : Int) then (if 2 < (bt227.1.length : Int) then (if 3 < (bt227.1.length : Int) then (if 5 < (bt227.1.length : Int) then (if 6 < (bt227.1.length : Int) then (some (wrap64 (rd bt227.1 0), wrap64 (rd bt227.1 1), ((rd bt227.1 2) == 1), wrap64 (rd bt227.1 3), wrap64 (rd bt227.1 5), wrap64 (rd bt227.1 6), true)) else (none)) else (none)) else (none)) else (none)) else (none)) else (some (0, 0, false, 0, 0, 0, false))) else (none))) else (none)))
def head_Unpack.T4 : Bool × List (List Nat × List Nat) := (true, [([], []), ([0], [0]), ([1], [1]), ([2], [2]), ([], []), ([4], [4]), ([5], [5]), ([6], [6]), ([], []), ([8], [8]), ([9], [9]), ([10], [10]), ([], []), ([12], [12]), ([13], [13]), ([14], [14]), ([], []), ([16], [16]), ([17], [17]), ([18], [18]), ([], []), ([20], [20]), ([21], [21]), ([22], [22]), ([3, 7, 11, 15, 19, 23], [3, 7, 11, 15, 19, 23]), ([24, 0, 1, 2, 3, 4, 5, 6, 7, 8, 9, 10, 11, 12, 13, 14, 15, 16, 17, 18, 19, 20, 21, 22, 23, 24], [24]), ([25, 0, 1, 2, 3, 4, 5, 6, 7, 8, 9, 10, 11, 12, 13, 14, 15, 16, 17, 18, 19, 20, 21, 22, 23, 24, 25], [])])
def head_Unpack.B4 : List Nat := [0, 1, 3, 7, 0, 16, 48, 112, 0, 256, 768, 1792, 0, 4096, 12288, 28672, 0, 65536, 196608, 458752, 0, 1048576, 3145728, 7340032, 16777215, 33554431, 67108863]
theorem head_Unpack.tab4 : rtab .any (opsOf Try.f86 4) = head_Unpack.T4 := by kernel_rfl
theorem head_Unpack.bits4 : waitsOk head_Unpack.T4.2 head_Unpack.B4 = true := by kernel_rfl
set_option maxHeartbeats 8000000 in
set_option maxRecDepth 100000 in
theorem head_Unpack.calls (k : Nat) (a0 : Int) (r1 : Int) (r2 : Int) (r3 : Bool) (r4 : Int) (r5 : Int) (r6 : Int) (r7 : Bool) (w : World) (h : head_Unpack.f k a0 = some (r1, r2, r3, r4, r5, r6, r7)) :
    Calls Try.prog 86 #[.int .u64 a0] w fun e w' => e = .returned (.tuple #[.agg #[.int .i64 r1, .int .i64 r2, .bool r3, .int .i64 r4, .int .i64 r5, .int .i64 r6], .bool r7]) ∧ Below w.heap.size w w' := by
  have hu85 := Try.underlying85
  have HB := Aside0.mk (Below.refl w.heap.size w)
  have H : ((word_Unpack.f k a0 (([3, 1, 1, 4, 7, 32, 16] : List Int))).bind fun bt227 => (if (bt227.1.length : Int) < 7 then (some (0, 0, false, 0, 0, 0, false)) else (if 0 < (bt227.1.length : Int) then (if (rd bt227.1 0) > 4 then (some (0, 0, false, 0, 0, 0, false)) else (if 4 < (bt227.1.length : Int) then (if (rd bt227.1 4) = 0 then (if 1 < (bt227.1.length : Int) then (if 2 < (bt227.1.length : Int) then (if 3 < (bt227.1.length : Int) then (if 5 < (bt227.1.length : Int) then (if 6 < (bt227.1.length : Int) then (some (wrap64 (rd bt227.1 0), wrap64 (rd bt227.1 1), ((rd bt227.1 2) == 1), wrap64 (rd bt227.1 3), wrap64 (rd bt227.1 5), wrap64 (rd bt227.1 6), true)) else (none)) else (none)) else (none)) else (none)) else (none)) else (some (0, 0, false, 0, 0, 0, false))) else (none))) else (none)))) = some (r1, r2, r3, r4, r5, r6, r7) := h
  clear h
  obtain ⟨y224, hy224⟩ : ∃ y_ : List Int, y_ = (([3, 1, 1, 4, 7, 32, 16] : List Int)) := ⟨_, rfl⟩
  replace H : ((word_Unpack.f k a0 y224).bind fun bt227 => (if (bt227.1.length : Int) < 7 then (some (0, 0, false, 0, 0, 0, false)) else (if 0 < (bt227.1.length : Int) then (if (rd bt227.1 0) > 4 then (some (0, 0, false, 0, 0, 0, false)) else (if 4 < (bt227.1.length : Int) then (if (rd bt227.1 4) = 0 then (if 1 < (bt227.1.length : Int) then (if 2 < (bt227.1.length : Int) then (if 3 < (bt227.1.length : Int) then (if 5 < (bt227.1.length : Int) then (if 6 < (bt227.1.length : Int) then (some (wrap64 (rd bt227.1 0), wrap64 (rd bt227.1 1), ((rd bt227.1 2) == 1), wrap64 (rd bt227.1 3), wrap64 (rd bt227.1 5), wrap64 (rd bt227.1 6), true)) else (none)) else (none)) else (none)) else (none)) else (none)) else (some (0, 0, false, 0, 0, 0, false))) else (none))) else (none)))) = some (r1, r2, r3, r4, r5, r6, r7) := by first | (rw [hy224]; with_reducible exact H) | (have H2_ := (Option.bind_some _ _).symm.trans H; rw [hy224]; with_reducible exact H2_) | (have H2_ := (Option.bind_some _ _).symm.trans H; with_reducible exact H2_) | with_reducible exact H | (rw [hy224]; exact H) | exact H
  have Ny224 := Aside0.mk hy224
  clear hy224
  replace H := Option.bind_eq_some_iff.mp H
  obtain ⟨⟨t227, t228⟩, A20, H⟩ := H
  replace H : (if (t227.length : Int) < 7 then (some (0, 0, false, 0, 0, 0, false)) else (if 0 < (t227.length : Int) then (if (rd t227 0) > 4 then (some (0, 0, false, 0, 0, 0, false)) else (if 4 < (t227.length : Int) then (if (rd t227 4) = 0 then (if 1 < (t227.length : Int) then (if 2 < (t227.length : Int) then (if 3 < (t227.length : Int) then (if 5 < (t227.length : Int) then (if 6 < (t227.length : Int) then (some (wrap64 (rd t227 0), wrap64 (rd t227 1), ((rd t227 2) == 1), wrap64 (rd t227 3), wrap64 (rd t227 5), wrap64 (rd t227 6), true)) else (none)) else (none)) else (none)) else (none)) else (none)) else (some (0, 0, false, 0, 0, 0, false))) else (none))) else (none))) = some (r1, r2, r3, r4, r5, r6, r7) := H
  have A2 := Aside0.mk A20
  clear A20
  by_cases c3 : (t227.length : Int) < 7
  · rw [if_pos c3] at H
    have c3b0 : decide ((t227.length : Int) < 7) = true := decide_eq_true c3
    have c3b1 : decide (t227.length < 7) = true := decide_eq_true (by omega)
    clear c3
    simp only [Option.some.injEq, Prod.mk.injEq] at H
    obtain ⟨rfl, rfl, rfl, rfl, rfl, rfl, rfl⟩ := H
    go_enter Try.func86, Try.ntmps86
    go_wp2_with (first | ((with_reducible refine gate_dst (N := 2) rfl ?_); refine box_event ?hg (N := 2) ?hd (cs := #[.int .i64 0, .int .i64 0, .bool false, .int .i64 0, .int .i64 0, .int .i64 0]) (t := 85) ?hr ?_; (case hd => rfl); (case hg => rfl); (case hr => first | (go_simp; done) | (go_simp; rfl)); intro gb223 hg w4 hbox hb; have n0_ := Aside0.mk (below_step (by repeat (first | (with_reducible first | exact HB.out | apply below_alloc | apply pw_below_drewN | apply below_drew1) | exact HB.out)) hb); have n1_ := Aside0.mk (hbox); have n2_ := Aside0.mk ((by rw [hg]; exact (below_size (by repeat (first | (with_reducible first | exact HB.out | apply below_alloc | apply pw_below_drewN | apply below_drew1) | exact HB.out))) : w.heap.size ≤ gb223)); have n3_ := Aside0.mk ((by rw [hg]; exact (below_size (by repeat (first | (with_reducible first | exact HB.out | apply below_alloc | apply pw_below_drewN | apply below_drew1) | exact HB.out))) : w.heap.size ≤ gb223)); clear HB; have HB := n0_; have BK223 := n1_; have GW223 := n2_; have GE223 := n3_; clear n0_ n1_ n2_ n3_; clear hb hbox hg) | ((with_reducible refine gate_dst (N := 8) rfl ?_); refine Kd.R_lit (Kd.int .i64) _ 3 ?hg (N := 8) ?hd (xs := ([3, 1, 1, 4, 7, 32, 16] : List Int)) (inner := [.int .i64 3, .int .i64 1, .int .i64 1, .int .i64 4, .int .i64 7, .int .i64 32, .int .i64 16]) (ok := fun _ => True) (okp := fun _ => True) ?hr ?hp (fun _ hk => hk) trivial (Below.refl _ _) (Nat.le_refl _) (by simp) ?_; (case hd => rfl); (case hg => rfl); (case hr => first | (go_simp; done) | (go_simp; rfl)); (case hp => exact (Reps.one (show Kd.M (Kd.int .i64) _ _ _ 3 [.int .i64 3] from rfl) (Reps.one (show Kd.M (Kd.int .i64) _ _ _ 1 [.int .i64 1] from rfl) (Reps.one (show Kd.M (Kd.int .i64) _ _ _ 1 [.int .i64 1] from rfl) (Reps.one (show Kd.M (Kd.int .i64) _ _ _ 4 [.int .i64 4] from rfl) (Reps.one (show Kd.M (Kd.int .i64) _ _ _ 7 [.int .i64 7] from rfl) (Reps.one (show Kd.M (Kd.int .i64) _ _ _ 32 [.int .i64 32] from rfl) (Reps.one (show Kd.M (Kd.int .i64) _ _ _ 16 [.int .i64 16] from rfl) (Reps.none _ _))))))))); intro v225 w5 ho6 hb hg_ hnew_; clear hg_ hnew_; (first | rw [← Ny224.out] at ho6 | (simp only [Int.reduceToNat] at ho6; rw [← Ny224.out] at ho6)); have n0_ := Aside0.mk (Kd.R_lower ho6 (below_size (by repeat (first | (with_reducible first | exact HB.out | apply below_alloc | apply pw_below_drewN | apply below_drew1 | refine below_set ?_ GE223.out) | exact HB.out)))); have n1_ := Aside0.mk (blk_below (g := gb223) (o := .cells #[.int .i64 0, .int .i64 0, .bool false, .int .i64 0, .int .i64 0, .int .i64 0] 85 (0, 0)) (by (with_reducible repeat (first | refine blk_drewN ?_ _ | refine blk_drew ?_ | refine blk_alloc ?_ _)); exact BK223.out) hb); have n2_ := Aside0.mk (below_step (by repeat (first | (with_reducible first | exact HB.out | apply below_alloc | apply pw_below_drewN | apply below_drew1 | refine below_set ?_ GE223.out) | exact HB.out)) hb); clear BK223; clear HB; have HO226 := n0_; have BK223 := n1_; have HB := n2_; clear n0_ n1_ n2_; clear hb ho6; obtain ⟨Ao7, co7, eo7⟩ := Kd.R_slice HO226.out; subst eo7) | ((with_reducible refine gate_callee (f := 99) rfl ?_); refine goesL_ (some 9) rfl rfl Try.func99 (by kernel_rfl) rfl #[.int .u64 a0, .slice Ao7 y224.length co7] rfl (by (try simp only [List.map_toArray, List.map_cons, List.map_nil]); first | done | rfl | (simp only [List.length_drop, List.length_take]; rfl)) ?_; (with_reducible refine (word_Unpack.calls k a0 _ _ y224 t227 t228 _ ?side1 ?side2 A2.out).mono ?_); (case side1 => repeat (first | exact (Kd.R_reads' HO226.out).2.2 | (with_reducible refine Kd.C_alloc ?_ _) | (with_reducible refine Kd.C_drewN ?_ _) | (with_reducible refine Kd.C_drew ?_))); (case side2 => exact (Kd.R_reads' HO226.out).2.1); rintro e w8 ⟨v229, rfl, ho0, hb⟩; refine ⟨_, rfl, ?_⟩; have n0_ := Aside0.mk (Kd.R_below (by (with_reducible repeat (first | apply Kd.R_alloc | apply Kd.R_drewN | apply Kd.R_drew)); exact HO226.out) hb); have n1_ := Aside0.mk (Kd.R_lower ho0 (below_size (by repeat (first | (with_reducible first | exact HB.out | apply below_alloc | apply pw_below_drewN | apply below_drew1 | refine below_set ?_ GE223.out) | exact HB.out)))); have n2_ := Aside0.mk (blk_below (g := gb223) (o := .cells #[.int .i64 0, .int .i64 0, .bool false, .int .i64 0, .int .i64 0, .int .i64 0] 85 (0, 0)) (by (with_reducible repeat (first | refine blk_drewN ?_ _ | refine blk_drew ?_ | refine blk_alloc ?_ _)); exact BK223.out) hb); have n3_ := Aside0.mk (below_step (by repeat (first | (with_reducible first | exact HB.out | apply below_alloc | apply pw_below_drewN | apply below_drew1 | refine below_set ?_ GE223.out) | exact HB.out)) hb); clear HO226; clear BK223; clear HB; have HO226 := n0_; have HO230 := n1_; have BK223 := n2_; have HB := n3_; clear n0_ n1_ n2_ n3_; (try clear hb); (try clear hb2); (try clear hk); (try clear hi); (try clear ho0); obtain ⟨Ao9, co9, eo9⟩ := Kd.R_slice HO230.out; subst eo9; have hcz10_0 : w8.cell? ⟨gb223, 0, none⟩ = some (.int .i64 0) := (blk_cell BK223.out 0).trans rfl; have hcz10_1 : w8.cell? ⟨gb223, 1, none⟩ = some (.int .i64 0) := (blk_cell BK223.out 1).trans rfl; have hcz10_2 : w8.cell? ⟨gb223, 2, none⟩ = some (.bool false) := (blk_cell BK223.out 2).trans rfl; have hcz10_3 : w8.cell? ⟨gb223, 3, none⟩ = some (.int .i64 0) := (blk_cell BK223.out 3).trans rfl; have hcz10_4 : w8.cell? ⟨gb223, 4, none⟩ = some (.int .i64 0) := (blk_cell BK223.out 4).trans rfl; have hcz10_5 : w8.cell? ⟨gb223, 5, none⟩ = some (.int .i64 0) := (blk_cell BK223.out 5).trans rfl; have hfz10_0 := blk_frozen BK223.out 0; have hfz10_1 := blk_frozen BK223.out 1; have hfz10_2 := blk_frozen BK223.out 2; have hfz10_3 := blk_frozen BK223.out 3; have hfz10_4 := blk_frozen BK223.out 4; have hfz10_5 := blk_frozen BK223.out 5))
    refine bodyPost_ret (results_ct rfl _ _ gb223 85 #[.int .i64 0, .int .i64 0, .bool false, .int .i64 0, .int .i64 0, .int .i64 0] (0, 0) _ rfl (by (with_reducible repeat (first | refine blk_drewN ?_ _ | refine blk_drew ?_ | refine blk_alloc ?_ _)); refine blk_put (cs := #[.int .i64 0, .int .i64 0, .bool false, .int .i64 0, .int .i64 0, .int .i64 0]) ?_ 5 _ rfl; (with_reducible repeat (first | refine blk_drewN ?_ _ | refine blk_drew ?_ | refine blk_alloc ?_ _)); refine blk_put (cs := #[.int .i64 0, .int .i64 0, .bool false, .int .i64 0, .int .i64 0, .int .i64 0]) ?_ 4 _ rfl; (with_reducible repeat (first | refine blk_drewN ?_ _ | refine blk_drew ?_ | refine blk_alloc ?_ _)); refine blk_put (cs := #[.int .i64 0, .int .i64 0, .bool false, .int .i64 0, .int .i64 0, .int .i64 0]) ?_ 3 _ rfl; (with_reducible repeat (first | refine blk_drewN ?_ _ | refine blk_drew ?_ | refine blk_alloc ?_ _)); refine blk_put (cs := #[.int .i64 0, .int .i64 0, .bool false, .int .i64 0, .int .i64 0, .int .i64 0]) ?_ 2 _ rfl; (with_reducible repeat (first | refine blk_drewN ?_ _ | refine blk_drew ?_ | refine blk_alloc ?_ _)); refine blk_put (cs := #[.int .i64 0, .int .i64 0, .bool false, .int .i64 0, .int .i64 0, .int .i64 0]) ?_ 1 _ rfl; (with_reducible repeat (first | refine blk_drewN ?_ _ | refine blk_drew ?_ | refine blk_alloc ?_ _)); refine blk_put (cs := #[.int .i64 0, .int .i64 0, .bool false, .int .i64 0, .int .i64 0, .int .i64 0]) ?_ 0 _ rfl; (with_reducible repeat (first | refine blk_drewN ?_ _ | refine blk_drew ?_ | refine blk_alloc ?_ _)); exact BK223.out) Try.underlying85 rfl (by kernel_rfl)) rfl ?_
    exact ⟨by first | rfl | (simp [errW_none, errW_some] <;> rfl) | (simp [*, errW_none, errW_some] <;> rfl), by repeat (first | (with_reducible first | exact HB.out | apply below_alloc | apply pw_below_drewN | apply below_drew1 | refine below_set ?_ GE223.out) | exact HB.out)⟩
  · rw [if_neg c3] at H
    have c3b0 : decide ((t227.length : Int) < 7) = false := decide_eq_false c3
    have c3b1 : decide (t227.length < 7) = false := decide_eq_false (by omega)
    clear c3
    by_cases c11 : 0 < (t227.length : Int)
    · rw [if_pos c11] at H
      have c11b0 : decide (0 < (t227.length : Int)) = true := decide_eq_true c11
      have c11b1 : decide (0 < t227.length) = true := decide_eq_true (by omega)
      clear c11
      by_cases c12 : (rd t227 0) > 4
      · rw [if_pos c12] at H
        have c12b0 : decide (4 < (rd t227 0)) = true := decide_eq_true c12
        clear c12
        simp only [Option.some.injEq, Prod.mk.injEq] at H
        obtain ⟨rfl, rfl, rfl, rfl, rfl, rfl, rfl⟩ := H
        go_enter Try.func86, Try.ntmps86
        go_wp2_with (first | ((with_reducible refine gate_dst (N := 2) rfl ?_); refine box_event ?hg (N := 2) ?hd (cs := #[.int .i64 0, .int .i64 0, .bool false, .int .i64 0, .int .i64 0, .int .i64 0]) (t := 85) ?hr ?_; (case hd => rfl); (case hg => rfl); (case hr => first | (go_simp; done) | (go_simp; rfl)); intro gb223 hg w13 hbox hb; have n0_ := Aside0.mk (below_step (by repeat (first | (with_reducible first | exact HB.out | apply below_alloc | apply pw_below_drewN | apply below_drew1) | exact HB.out)) hb); have n1_ := Aside0.mk (hbox); have n2_ := Aside0.mk ((by rw [hg]; exact (below_size (by repeat (first | (with_reducible first | exact HB.out | apply below_alloc | apply pw_below_drewN | apply below_drew1) | exact HB.out))) : w.heap.size ≤ gb223)); have n3_ := Aside0.mk ((by rw [hg]; exact (below_size (by repeat (first | (with_reducible first | exact HB.out | apply below_alloc | apply pw_below_drewN | apply below_drew1) | exact HB.out))) : w.heap.size ≤ gb223)); clear HB; have HB := n0_; have BK223 := n1_; have GW223 := n2_; have GE223 := n3_; clear n0_ n1_ n2_ n3_; clear hb hbox hg) | ((with_reducible refine gate_dst (N := 8) rfl ?_); refine Kd.R_lit (Kd.int .i64) _ 3 ?hg (N := 8) ?hd (xs := ([3, 1, 1, 4, 7, 32, 16] : List Int)) (inner := [.int .i64 3, .int .i64 1, .int .i64 1, .int .i64 4, .int .i64 7, .int .i64 32, .int .i64 16]) (ok := fun _ => True) (okp := fun _ => True) ?hr ?hp (fun _ hk => hk) trivial (Below.refl _ _) (Nat.le_refl _) (by simp) ?_; (case hd => rfl); (case hg => rfl); (case hr => first | (go_simp; done) | (go_simp; rfl)); (case hp => exact (Reps.one (show Kd.M (Kd.int .i64) _ _ _ 3 [.int .i64 3] from rfl) (Reps.one (show Kd.M (Kd.int .i64) _ _ _ 1 [.int .i64 1] from rfl) (Reps.one (show Kd.M (Kd.int .i64) _ _ _ 1 [.int .i64 1] from rfl) (Reps.one (show Kd.M (Kd.int .i64) _ _ _ 4 [.int .i64 4] from rfl) (Reps.one (show Kd.M (Kd.int .i64) _ _ _ 7 [.int .i64 7] from rfl) (Reps.one (show Kd.M (Kd.int .i64) _ _ _ 32 [.int .i64 32] from rfl) (Reps.one (show Kd.M (Kd.int .i64) _ _ _ 16 [.int .i64 16] from rfl) (Reps.none _ _))))))))); intro v225 w14 ho15 hb hg_ hnew_; clear hg_ hnew_; (first | rw [← Ny224.out] at ho15 | (simp only [Int.reduceToNat] at ho15; rw [← Ny224.out] at ho15)); have n0_ := Aside0.mk (Kd.R_lower ho15 (below_size (by repeat (first | (with_reducible first | exact HB.out | apply below_alloc | apply pw_below_drewN | apply below_drew1 | refine below_set ?_ GE223.out) | exact HB.out)))); have n1_ := Aside0.mk (blk_below (g := gb223) (o := .cells #[.int .i64 0, .int .i64 0, .bool false, .int .i64 0, .int .i64 0, .int .i64 0] 85 (0, 0)) (by (with_reducible repeat (first | refine blk_drewN ?_ _ | refine blk_drew ?_ | refine blk_alloc ?_ _)); exact BK223.out) hb); have n2_ := Aside0.mk (below_step (by repeat (first | (with_reducible first | exact HB.out | apply below_alloc | apply pw_below_drewN | apply below_drew1 | refine below_set ?_ GE223.out) | exact HB.out)) hb); clear BK223; clear HB; have HO226 := n0_; have BK223 := n1_; have HB := n2_; clear n0_ n1_ n2_; clear hb ho15; obtain ⟨Ao16, co16, eo16⟩ := Kd.R_slice HO226.out; subst eo16) | ((with_reducible refine gate_callee (f := 99) rfl ?_); refine goesL_ (some 9) rfl rfl Try.func99 (by kernel_rfl) rfl #[.int .u64 a0, .slice Ao16 y224.length co16] rfl (by (try simp only [List.map_toArray, List.map_cons, List.map_nil]); first | done | rfl | (simp only [List.length_drop, List.length_take]; rfl)) ?_; (with_reducible refine (word_Unpack.calls k a0 _ _ y224 t227 t228 _ ?side1 ?side2 A2.out).mono ?_); (case side1 => repeat (first | exact (Kd.R_reads' HO226.out).2.2 | (with_reducible refine Kd.C_alloc ?_ _) | (with_reducible refine Kd.C_drewN ?_ _) | (with_reducible refine Kd.C_drew ?_))); (case side2 => exact (Kd.R_reads' HO226.out).2.1); rintro e w17 ⟨v229, rfl, ho0, hb⟩; refine ⟨_, rfl, ?_⟩; have n0_ := Aside0.mk (Kd.R_below (by (with_reducible repeat (first | apply Kd.R_alloc | apply Kd.R_drewN | apply Kd.R_drew)); exact HO226.out) hb); have n1_ := Aside0.mk (Kd.R_lower ho0 (below_size (by repeat (first | (with_reducible first | exact HB.out | apply below_alloc | apply pw_below_drewN | apply below_drew1 | refine below_set ?_ GE223.out) | exact HB.out)))); have n2_ := Aside0.mk (blk_below (g := gb223) (o := .cells #[.int .i64 0, .int .i64 0, .bool false, .int .i64 0, .int .i64 0, .int .i64 0] 85 (0, 0)) (by (with_reducible repeat (first | refine blk_drewN ?_ _ | refine blk_drew ?_ | refine blk_alloc ?_ _)); exact BK223.out) hb); have n3_ := Aside0.mk (below_step (by repeat (first | (with_reducible first | exact HB.out | apply below_alloc | apply pw_below_drewN | apply below_drew1 | refine below_set ?_ GE223.out) | exact HB.out)) hb); clear HO226; clear BK223; clear HB; have HO226 := n0_; have HO230 := n1_; have BK223 := n2_; have HB := n3_; clear n0_ n1_ n2_ n3_; (try clear hb); (try clear hb2); (try clear hk); (try clear hi); (try clear ho0); obtain ⟨Ao18, co18, eo18⟩ := Kd.R_slice HO230.out; subst eo18; have p231 : 0 ≤ (0 : Int) := (by omega); have q231 : 0 < (t227.length : Int) := of_decide_eq_true (by first | (with_reducible assumption) | assumption); obtain ⟨ad231, e231, hx231_0⟩ := Kd.at_int (Kd.R_reads' HO230.out).2.2 0 p231 q231; cases e231; have qi231 : (0 < t227.length) = True := eq_true (by omega); (try rw [show ((0 : Int)).toNat = 0 from rfl] at hx231_0); (try rw [Addr.add_zero'] at hx231_0); replace p231 := eq_true p231; replace q231 := eq_true q231; have hcz19_0 : w17.cell? ⟨gb223, 0, none⟩ = some (.int .i64 0) := (blk_cell BK223.out 0).trans rfl; have hcz19_1 : w17.cell? ⟨gb223, 1, none⟩ = some (.int .i64 0) := (blk_cell BK223.out 1).trans rfl; have hcz19_2 : w17.cell? ⟨gb223, 2, none⟩ = some (.bool false) := (blk_cell BK223.out 2).trans rfl; have hcz19_3 : w17.cell? ⟨gb223, 3, none⟩ = some (.int .i64 0) := (blk_cell BK223.out 3).trans rfl; have hcz19_4 : w17.cell? ⟨gb223, 4, none⟩ = some (.int .i64 0) := (blk_cell BK223.out 4).trans rfl; have hcz19_5 : w17.cell? ⟨gb223, 5, none⟩ = some (.int .i64 0) := (blk_cell BK223.out 5).trans rfl; have hfz19_0 := blk_frozen BK223.out 0; have hfz19_1 := blk_frozen BK223.out 1; have hfz19_2 := blk_frozen BK223.out 2; have hfz19_3 := blk_frozen BK223.out 3; have hfz19_4 := blk_frozen BK223.out 4; have hfz19_5 := blk_frozen BK223.out 5))
        refine bodyPost_ret (results_ct rfl _ _ gb223 85 #[.int .i64 0, .int .i64 0, .bool false, .int .i64 0, .int .i64 0, .int .i64 0] (0, 0) _ rfl (by (with_reducible repeat (first | refine blk_drewN ?_ _ | refine blk_drew ?_ | refine blk_alloc ?_ _)); refine blk_put (cs := #[.int .i64 0, .int .i64 0, .bool false, .int .i64 0, .int .i64 0, .int .i64 0]) ?_ 5 _ rfl; (with_reducible repeat (first | refine blk_drewN ?_ _ | refine blk_drew ?_ | refine blk_alloc ?_ _)); refine blk_put (cs := #[.int .i64 0, .int .i64 0, .bool false, .int .i64 0, .int .i64 0, .int .i64 0]) ?_ 4 _ rfl; (with_reducible repeat (first | refine blk_drewN ?_ _ | refine blk_drew ?_ | refine blk_alloc ?_ _)); refine blk_put (cs := #[.int .i64 0, .int .i64 0, .bool false, .int .i64 0, .int .i64 0, .int .i64 0]) ?_ 3 _ rfl; (with_reducible repeat (first | refine blk_drewN ?_ _ | refine blk_drew ?_ | refine blk_alloc ?_ _)); refine blk_put (cs := #[.int .i64 0, .int .i64 0, .bool false, .int .i64 0, .int .i64 0, .int .i64 0]) ?_ 2 _ rfl; (with_reducible repeat (first | refine blk_drewN ?_ _ | refine blk_drew ?_ | refine blk_alloc ?_ _)); refine blk_put (cs := #[.int .i64 0, .int .i64 0, .bool false, .int .i64 0, .int .i64 0, .int .i64 0]) ?_ 1 _ rfl; (with_reducible repeat (first | refine blk_drewN ?_ _ | refine blk_drew ?_ | refine blk_alloc ?_ _)); refine blk_put (cs := #[.int .i64 0, .int .i64 0, .bool false, .int .i64 0, .int .i64 0, .int .i64 0]) ?_ 0 _ rfl; (with_reducible repeat (first | refine blk_drewN ?_ _ | refine blk_drew ?_ | refine blk_alloc ?_ _)); exact BK223.out) Try.underlying85 rfl (by kernel_rfl)) rfl ?_
        exact ⟨by first | rfl | (simp [errW_none, errW_some] <;> rfl) | (simp [*, errW_none, errW_some] <;> rfl), by repeat (first | (with_reducible first | exact HB.out | apply below_alloc | apply pw_below_drewN | apply below_drew1 | refine below_set ?_ GE223.out) | exact HB.out)⟩
      · rw [if_neg c12] at H
        have c12b0 : decide (4 < (rd t227 0)) = false := decide_eq_false c12
        clear c12
        by_cases c20 : 4 < (t227.length : Int)
        · rw [if_pos c20] at H
          have c20b0 : decide (4 < (t227.length : Int)) = true := decide_eq_true c20
          have c20b1 : decide (4 < t227.length) = true := decide_eq_true (by omega)
          clear c20
          by_cases c21 : (rd t227 4) = 0
          · rw [if_pos c21] at H
            have c21b0 : ((rd t227 4) == 0) = true := beq_iff_eq.mpr c21
            have c21b1 : ((rd t227 4) != 0) = false := bne_eq_false_iff_eq.mpr c21
            clear c21
            by_cases c22 : 1 < (t227.length : Int)
            · rw [if_pos c22] at H
              have c22b0 : decide (1 < (t227.length : Int)) = true := decide_eq_true c22
              have c22b1 : decide (1 < t227.length) = true := decide_eq_true (by omega)
              clear c22
              by_cases c23 : 2 < (t227.length : Int)
              · rw [if_pos c23] at H
                have c23b0 : decide (2 < (t227.length : Int)) = true := decide_eq_true c23
                have c23b1 : decide (2 < t227.length) = true := decide_eq_true (by omega)
                clear c23
                by_cases c24 : 3 < (t227.length : Int)
                · rw [if_pos c24] at H
                  have c24b0 : decide (3 < (t227.length : Int)) = true := decide_eq_true c24
                  have c24b1 : decide (3 < t227.length) = true := decide_eq_true (by omega)
                  clear c24
                  by_cases c25 : 5 < (t227.length : Int)
                  · rw [if_pos c25] at H
                    have c25b0 : decide (5 < (t227.length : Int)) = true := decide_eq_true c25
                    have c25b1 : decide (5 < t227.length) = true := decide_eq_true (by omega)
                    clear c25
                    by_cases c26 : 6 < (t227.length : Int)
                    · rw [if_pos c26] at H
                      have c26b0 : decide (6 < (t227.length : Int)) = true := decide_eq_true c26
                      have c26b1 : decide (6 < t227.length) = true := decide_eq_true (by omega)
                      clear c26
                      simp only [Option.some.injEq, Prod.mk.injEq] at H
                      obtain ⟨rfl, rfl, rfl, rfl, rfl, rfl, rfl⟩ := H
                      go_enter Try.func86, Try.ntmps86
                      try go_wp2_with (first | ((with_reducible refine gate_dst (N := 2) rfl ?_); refine box_event ?hg (N := 2) ?hd (cs := #[.int .i64 0, .int .i64 0, .bool false, .int .i64 0, .int .i64 0, .int .i64 0]) (t := 85) ?hr ?_; (case hd => rfl); (case hg => rfl); (case hr => first | (go_simp; done) | (go_simp; rfl)); intro gb223 hg w27 hbox hb; have n0_ := Aside0.mk (below_step (by repeat (first | (with_reducible first | exact HB.out | apply below_alloc | apply pw_below_drewN | apply below_drew1) | exact HB.out)) hb); have n1_ := Aside0.mk (hbox); have n2_ := Aside0.mk ((by rw [hg]; exact (below_size (by repeat (first | (with_reducible first | exact HB.out | apply below_alloc | apply pw_below_drewN | apply below_drew1) | exact HB.out))) : w.heap.size ≤ gb223)); have n3_ := Aside0.mk ((by rw [hg]; exact (below_size (by repeat (first | (with_reducible first | exact HB.out | apply below_alloc | apply pw_below_drewN | apply below_drew1) | exact HB.out))) : w.heap.size ≤ gb223)); clear HB; have HB := n0_; have BK223 := n1_; have GW223 := n2_; have GE223 := n3_; clear n0_ n1_ n2_ n3_; clear hb hbox hg) | ((with_reducible refine gate_dst (N := 8) rfl ?_); refine Kd.R_lit (Kd.int .i64) _ 3 ?hg (N := 8) ?hd (xs := ([3, 1, 1, 4, 7, 32, 16] : List Int)) (inner := [.int .i64 3, .int .i64 1, .int .i64 1, .int .i64 4, .int .i64 7, .int .i64 32, .int .i64 16]) (ok := fun _ => True) (okp := fun _ => True) ?hr ?hp (fun _ hk => hk) trivial (Below.refl _ _) (Nat.le_refl _) (by simp) ?_; (case hd => rfl); (case hg => rfl); (case hr => first | (go_simp; done) | (go_simp; rfl)); (case hp => exact (Reps.one (show Kd.M (Kd.int .i64) _ _ _ 3 [.int .i64 3] from rfl) (Reps.one (show Kd.M (Kd.int .i64) _ _ _ 1 [.int .i64 1] from rfl) (Reps.one (show Kd.M (Kd.int .i64) _ _ _ 1 [.int .i64 1] from rfl) (Reps.one (show Kd.M (Kd.int .i64) _ _ _ 4 [.int .i64 4] from rfl) (Reps.one (show Kd.M (Kd.int .i64) _ _ _ 7 [.int .i64 7] from rfl) (Reps.one (show Kd.M (Kd.int .i64) _ _ _ 32 [.int .i64 32] from rfl) (Reps.one (show Kd.M (Kd.int .i64) _ _ _ 16 [.int .i64 16] from rfl) (Reps.none _ _))))))))); intro v225 w28 ho29 hb hg_ hnew_; clear hg_ hnew_; (first | rw [← Ny224.out] at ho29 | (simp only [Int.reduceToNat] at ho29; rw [← Ny224.out] at ho29)); have n0_ := Aside0.mk (Kd.R_lower ho29 (below_size (by repeat (first | (with_reducible first | exact HB.out | apply below_alloc | apply pw_below_drewN | apply below_drew1 | refine below_set ?_ GE223.out) | exact HB.out)))); have n1_ := Aside0.mk (blk_below (g := gb223) (o := .cells #[.int .i64 0, .int .i64 0, .bool false, .int .i64 0, .int .i64 0, .int .i64 0] 85 (0, 0)) (by (with_reducible repeat (first | refine blk_drewN ?_ _ | refine blk_drew ?_ | refine blk_alloc ?_ _)); exact BK223.out) hb); have n2_ := Aside0.mk (below_step (by repeat (first | (with_reducible first | exact HB.out | apply below_alloc | apply pw_below_drewN | apply below_drew1 | refine below_set ?_ GE223.out) | exact HB.out)) hb); clear BK223; clear HB; have HO226 := n0_; have BK223 := n1_; have HB := n2_; clear n0_ n1_ n2_; clear hb ho29; obtain ⟨Ao30, co30, eo30⟩ := Kd.R_slice HO226.out; subst eo30) | ((with_reducible refine gate_callee (f := 99) rfl ?_); refine goesL_ (some 9) rfl rfl Try.func99 (by kernel_rfl) rfl #[.int .u64 a0, .slice Ao30 y224.length co30] rfl (by (try simp only [List.map_toArray, List.map_cons, List.map_nil]); first | done | rfl | (simp only [List.length_drop, List.length_take]; rfl)) ?_; (with_reducible refine (word_Unpack.calls k a0 _ _ y224 t227 t228 _ ?side1 ?side2 A2.out).mono ?_); (case side1 => repeat (first | exact (Kd.R_reads' HO226.out).2.2 | (with_reducible refine Kd.C_alloc ?_ _) | (with_reducible refine Kd.C_drewN ?_ _) | (with_reducible refine Kd.C_drew ?_))); (case side2 => exact (Kd.R_reads' HO226.out).2.1); rintro e w31 ⟨v229, rfl, ho0, hb⟩; refine ⟨_, rfl, ?_⟩; have n0_ := Aside0.mk (Kd.R_below (by (with_reducible repeat (first | apply Kd.R_alloc | apply Kd.R_drewN | apply Kd.R_drew)); exact HO226.out) hb); have n1_ := Aside0.mk (Kd.R_lower ho0 (below_size (by repeat (first | (with_reducible first | exact HB.out | apply below_alloc | apply pw_below_drewN | apply below_drew1 | refine below_set ?_ GE223.out) | exact HB.out)))); have n2_ := Aside0.mk (blk_below (g := gb223) (o := .cells #[.int .i64 0, .int .i64 0, .bool false, .int .i64 0, .int .i64 0, .int .i64 0] 85 (0, 0)) (by (with_reducible repeat (first | refine blk_drewN ?_ _ | refine blk_drew ?_ | refine blk_alloc ?_ _)); exact BK223.out) hb); have n3_ := Aside0.mk (below_step (by repeat (first | (with_reducible first | exact HB.out | apply below_alloc | apply pw_below_drewN | apply below_drew1 | refine below_set ?_ GE223.out) | exact HB.out)) hb); clear HO226; clear BK223; clear HB; have HO226 := n0_; have HO230 := n1_; have BK223 := n2_; have HB := n3_; clear n0_ n1_ n2_ n3_; (try clear hb); (try clear hb2); (try clear hk); (try clear hi); (try clear ho0); obtain ⟨Ao32, co32, eo32⟩ := Kd.R_slice HO230.out; subst eo32; have p231 : 0 ≤ (0 : Int) := (by omega); have q231 : 0 < (t227.length : Int) := of_decide_eq_true (by first | (with_reducible assumption) | assumption); obtain ⟨ad231, e231, hx231_0⟩ := Kd.at_int (Kd.R_reads' HO230.out).2.2 0 p231 q231; cases e231; have qi231 : (0 < t227.length) = True := eq_true (by omega); (try rw [show ((0 : Int)).toNat = 0 from rfl] at hx231_0); (try rw [Addr.add_zero'] at hx231_0); replace p231 := eq_true p231; replace q231 := eq_true q231; have p232 : 0 ≤ (4 : Int) := (by omega); have q232 : 4 < (t227.length : Int) := of_decide_eq_true (by first | (with_reducible assumption) | assumption); obtain ⟨ad232, e232, hx232_0⟩ := Kd.at_int (Kd.R_reads' HO230.out).2.2 4 p232 q232; obtain rfl : ad231 = ad232 := (by injection e232); (try simp only [show (4 : Int).toNat = 4 from rfl, Nat.reduceMul, Nat.reduceEqDiff, Go.Addr.add, ↓reduceIte] at hx232_0); have qi232 : (4 < t227.length) = True := eq_true (by omega); (try rw [show ((4 : Int)).toNat = 4 from rfl] at hx232_0); replace p232 := eq_true p232; replace q232 := eq_true q232))
                      have n0_ := Aside0.mk (Kd.R_drew HO226.out)
                      have n1_ := Aside0.mk (Kd.R_drew HO230.out)
                      have n2_ := Aside0.mk (blk_drew BK223.out)
                      have n3_ := Aside0.mk (below_drew1 HB.out)
                      clear HO226
                      clear HO230
                      clear BK223
                      clear HB
                      have HO226 := n0_
                      have HO230 := n1_
                      have BK223 := n2_
                      have HB := n3_
                      clear n0_ n1_ n2_ n3_
                      have p233 : 0 ≤ (0 : Int) := (by omega)
                      have q233 : 0 < (t227.length : Int) := of_decide_eq_true (by first | (with_reducible assumption) | assumption)
                      obtain ⟨ad233, e233, hx233_0⟩ := Kd.at_int (Kd.R_reads' HO230.out).2.2 0 p233 q233
                      obtain rfl : ad231 = ad233 := (by injection e233)
                      have qi233 : (0 < t227.length) = True := eq_true (by omega)
                      (try rw [show ((0 : Int)).toNat = 0 from rfl] at hx233_0)
                      (try rw [Addr.add_zero'] at hx233_0)
                      replace p233 := eq_true p233
                      replace q233 := eq_true q233
                      have p234 : 0 ≤ (1 : Int) := (by omega)
                      have q234 : 1 < (t227.length : Int) := of_decide_eq_true (by first | (with_reducible assumption) | assumption)
                      obtain ⟨ad234, e234, hx234_0⟩ := Kd.at_int (Kd.R_reads' HO230.out).2.2 1 p234 q234
                      obtain rfl : ad231 = ad234 := (by injection e234)
                      (try simp only [show (1 : Int).toNat = 1 from rfl, Nat.reduceMul, Nat.reduceEqDiff, Go.Addr.add, ↓reduceIte] at hx234_0)
                      have qi234 : (1 < t227.length) = True := eq_true (by omega)
                      (try rw [show ((1 : Int)).toNat = 1 from rfl] at hx234_0)
                      replace p234 := eq_true p234
                      replace q234 := eq_true q234
                      have p235 : 0 ≤ (2 : Int) := (by omega)
                      have q235 : 2 < (t227.length : Int) := of_decide_eq_true (by first | (with_reducible assumption) | assumption)
                      obtain ⟨ad235, e235, hx235_0⟩ := Kd.at_int (Kd.R_reads' HO230.out).2.2 2 p235 q235
                      obtain rfl : ad231 = ad235 := (by injection e235)
                      (try simp only [show (2 : Int).toNat = 2 from rfl, Nat.reduceMul, Nat.reduceEqDiff, Go.Addr.add, ↓reduceIte] at hx235_0)
                      have qi235 : (2 < t227.length) = True := eq_true (by omega)
                      (try rw [show ((2 : Int)).toNat = 2 from rfl] at hx235_0)
                      replace p235 := eq_true p235
                      replace q235 := eq_true q235
                      have p236 : 0 ≤ (3 : Int) := (by omega)
                      have q236 : 3 < (t227.length : Int) := of_decide_eq_true (by first | (with_reducible assumption) | assumption)
                      obtain ⟨ad236, e236, hx236_0⟩ := Kd.at_int (Kd.R_reads' HO230.out).2.2 3 p236 q236
                      obtain rfl : ad231 = ad236 := (by injection e236)
                      (try simp only [show (3 : Int).toNat = 3 from rfl, Nat.reduceMul, Nat.reduceEqDiff, Go.Addr.add, ↓reduceIte] at hx236_0)
                      have qi236 : (3 < t227.length) = True := eq_true (by omega)
                      (try rw [show ((3 : Int)).toNat = 3 from rfl] at hx236_0)
                      replace p236 := eq_true p236
                      replace q236 := eq_true q236
                      have p237 : 0 ≤ (5 : Int) := (by omega)
                      have q237 : 5 < (t227.length : Int) := of_decide_eq_true (by first | (with_reducible assumption) | assumption)
                      obtain ⟨ad237, e237, hx237_0⟩ := Kd.at_int (Kd.R_reads' HO230.out).2.2 5 p237 q237
                      obtain rfl : ad231 = ad237 := (by injection e237)
                      (try simp only [show (5 : Int).toNat = 5 from rfl, Nat.reduceMul, Nat.reduceEqDiff, Go.Addr.add, ↓reduceIte] at hx237_0)
                      have qi237 : (5 < t227.length) = True := eq_true (by omega)
                      (try rw [show ((5 : Int)).toNat = 5 from rfl] at hx237_0)
                      replace p237 := eq_true p237
                      replace q237 := eq_true q237
                      have p238 : 0 ≤ (6 : Int) := (by omega)
                      have q238 : 6 < (t227.length : Int) := of_decide_eq_true (by first | (with_reducible assumption) | assumption)
                      obtain ⟨ad238, e238, hx238_0⟩ := Kd.at_int (Kd.R_reads' HO230.out).2.2 6 p238 q238
                      obtain rfl : ad231 = ad238 := (by injection e238)
                      (try simp only [show (6 : Int).toNat = 6 from rfl, Nat.reduceMul, Nat.reduceEqDiff, Go.Addr.add, ↓reduceIte] at hx238_0)
                      have qi238 : (6 < t227.length) = True := eq_true (by omega)
                      (try rw [show ((6 : Int)).toNat = 6 from rfl] at hx238_0)
                      replace p238 := eq_true p238
                      replace q238 := eq_true q238
                      refine start_ (n := 27) (S := fun w' => w'.cell? ad231 = some (.int .u64 (rd t227 0)) ∧ w'.cell? ⟨ad231.block, ad231.off + 1, none⟩ = some (.int .u64 (rd t227 1)) ∧ w'.cell? ⟨ad231.block, ad231.off + 2, none⟩ = some (.int .u64 (rd t227 2)) ∧ w'.cell? ⟨ad231.block, ad231.off + 3, none⟩ = some (.int .u64 (rd t227 3)) ∧ w'.cell? ⟨ad231.block, ad231.off + 5, none⟩ = some (.int .u64 (rd t227 5)) ∧ w'.cell? ⟨ad231.block, ad231.off + 6, none⟩ = some (.int .u64 (rd t227 6))) (ds := []) #[false, false, false, false, false, false, false, false, false, false, false, false, false, false, false, false, false, false, false, false, false, false, false, false, false, false, false] (by kernel_rfl) rfl rfl ⟨hx233_0, hx234_0, hx235_0, hx236_0, hx237_0, hx238_0⟩ (fun hHeld => ?_); refine with_tabW head_Unpack.tab4 head_Unpack.bits4 (fun HT_ HW_ => ?_)
                      generalize w31.drew = w33 at HO226 HO230 BK223 HB hx233_0 hx234_0 hx235_0 hx236_0 hx237_0 hx238_0 hHeld ⊢
                      refine pure_ (i := 0) (N := some 28) (v := ?_) (a' := ?_) #[true, false, false, false, false, false, false, false, false, false, false, false, false, false, false, false, false, false, false, false, false, false, false, false, false, false, false] rfl rfl (any_of HT_.out (by kernel_rfl)) (fun _ _ _ h => h) (Or.inl ⟨by rfl, ?_⟩) ?_ ?_
                      rotate_left
                      · intro w'
                        go_simp
                        with_reducible rfl
                      rotate_left
                      · simp only [Act.put, List.setIfInBounds_toArray, List.set_cons_zero, List.set_cons_succ, i64_w, i32_w]
                        rfl
                      refine pure_ (i := 1) (N := some 29) (v := ?_) (a' := ?_) #[true, true, false, false, false, false, false, false, false, false, false, false, false, false, false, false, false, false, false, false, false, false, false, false, false, false, false] rfl rfl (any_of HT_.out (by kernel_rfl)) (fun _ _ _ h => h) (Or.inl ⟨by rfl, ?_⟩) ?_ ?_
                      rotate_left
                      · intro w'
                        go_simp
                        with_reducible rfl
                      rotate_left
                      · simp only [Act.put, List.setIfInBounds_toArray, List.set_cons_zero, List.set_cons_succ, i64_w, i32_w]
                        rfl
                      refine pure_ (i := 4) (N := some 32) (v := ?_) (a' := ?_) #[true, true, false, false, true, false, false, false, false, false, false, false, false, false, false, false, false, false, false, false, false, false, false, false, false, false, false] rfl rfl (any_of HT_.out (by kernel_rfl)) (fun _ _ _ h => h) (Or.inl ⟨by rfl, ?_⟩) ?_ ?_
                      rotate_left
                      · intro w'
                        go_simp
                        with_reducible rfl
                      rotate_left
                      · simp only [Act.put, List.setIfInBounds_toArray, List.set_cons_zero, List.set_cons_succ, i64_w, i32_w]
                        rfl
                      refine pure_ (i := 5) (N := some 33) (v := ?_) (a' := ?_) #[true, true, false, false, true, true, false, false, false, false, false, false, false, false, false, false, false, false, false, false, false, false, false, false, false, false, false] rfl rfl (any_of HT_.out (by kernel_rfl)) (fun _ _ _ h => h) (Or.inl ⟨by rfl, ?_⟩) ?_ ?_
                      rotate_left
                      · intro w'
                        go_simp
                        with_reducible rfl
                      rotate_left
                      · simp only [Act.put, List.setIfInBounds_toArray, List.set_cons_zero, List.set_cons_succ, i64_w, i32_w]
                        rfl
                      refine pure_ (i := 8) (N := some 36) (v := ?_) (a' := ?_) #[true, true, false, false, true, true, false, false, true, false, false, false, false, false, false, false, false, false, false, false, false, false, false, false, false, false, false] rfl rfl (any_of HT_.out (by kernel_rfl)) (fun _ _ _ h => h) (Or.inl ⟨by rfl, ?_⟩) ?_ ?_
                      rotate_left
                      · intro w'
                        go_simp
                        with_reducible rfl
                      rotate_left
                      · simp only [Act.put, List.setIfInBounds_toArray, List.set_cons_zero, List.set_cons_succ, i64_w, i32_w]
                        rfl
                      refine pure_ (i := 9) (N := some 37) (v := ?_) (a' := ?_) #[true, true, false, false, true, true, false, false, true, true, false, false, false, false, false, false, false, false, false, false, false, false, false, false, false, false, false] rfl rfl (any_of HT_.out (by kernel_rfl)) (fun _ _ _ h => h) (Or.inl ⟨by rfl, ?_⟩) ?_ ?_
                      rotate_left
                      · intro w'
                        go_simp
                        with_reducible rfl
                      rotate_left
                      · simp only [Act.put, List.setIfInBounds_toArray, List.set_cons_zero, List.set_cons_succ, i64_w, i32_w]
                        rfl
                      refine pure_ (i := 12) (N := some 40) (v := ?_) (a' := ?_) #[true, true, false, false, true, true, false, false, true, true, false, false, true, false, false, false, false, false, false, false, false, false, false, false, false, false, false] rfl rfl (any_of HT_.out (by kernel_rfl)) (fun _ _ _ h => h) (Or.inl ⟨by rfl, ?_⟩) ?_ ?_
                      rotate_left
                      · intro w'
                        go_simp
                        with_reducible rfl
                      rotate_left
                      · simp only [Act.put, List.setIfInBounds_toArray, List.set_cons_zero, List.set_cons_succ, i64_w, i32_w]
                        rfl
                      refine pure_ (i := 13) (N := some 41) (v := ?_) (a' := ?_) #[true, true, false, false, true, true, false, false, true, true, false, false, true, true, false, false, false, false, false, false, false, false, false, false, false, false, false] rfl rfl (any_of HT_.out (by kernel_rfl)) (fun _ _ _ h => h) (Or.inl ⟨by rfl, ?_⟩) ?_ ?_
                      rotate_left
                      · intro w'
                        go_simp
                        with_reducible rfl
                      rotate_left
                      · simp only [Act.put, List.setIfInBounds_toArray, List.set_cons_zero, List.set_cons_succ, i64_w, i32_w]
                        rfl
                      refine pure_ (i := 16) (N := some 44) (v := ?_) (a' := ?_) #[true, true, false, false, true, true, false, false, true, true, false, false, true, true, false, false, true, false, false, false, false, false, false, false, false, false, false] rfl rfl (any_of HT_.out (by kernel_rfl)) (fun _ _ _ h => h) (Or.inl ⟨by rfl, ?_⟩) ?_ ?_
                      rotate_left
                      · intro w'
                        go_simp
                        with_reducible rfl
                      rotate_left
                      · simp only [Act.put, List.setIfInBounds_toArray, List.set_cons_zero, List.set_cons_succ, i64_w, i32_w]
                        rfl
                      refine pure_ (i := 17) (N := some 45) (v := ?_) (a' := ?_) #[true, true, false, false, true, true, false, false, true, true, false, false, true, true, false, false, true, true, false, false, false, false, false, false, false, false, false] rfl rfl (any_of HT_.out (by kernel_rfl)) (fun _ _ _ h => h) (Or.inl ⟨by rfl, ?_⟩) ?_ ?_
                      rotate_left
                      · intro w'
                        go_simp
                        with_reducible rfl
                      rotate_left
                      · simp only [Act.put, List.setIfInBounds_toArray, List.set_cons_zero, List.set_cons_succ, i64_w, i32_w]
                        rfl
                      refine pure_ (i := 20) (N := some 48) (v := ?_) (a' := ?_) #[true, true, false, false, true, true, false, false, true, true, false, false, true, true, false, false, true, true, false, false, true, false, false, false, false, false, false] rfl rfl (any_of HT_.out (by kernel_rfl)) (fun _ _ _ h => h) (Or.inl ⟨by rfl, ?_⟩) ?_ ?_
                      rotate_left
                      · intro w'
                        go_simp
                        with_reducible rfl
                      rotate_left
                      · simp only [Act.put, List.setIfInBounds_toArray, List.set_cons_zero, List.set_cons_succ, i64_w, i32_w]
                        rfl
                      refine pure_ (i := 21) (N := some 49) (v := ?_) (a' := ?_) #[true, true, false, false, true, true, false, false, true, true, false, false, true, true, false, false, true, true, false, false, true, true, false, false, false, false, false] rfl rfl (any_of HT_.out (by kernel_rfl)) (fun _ _ _ h => h) (Or.inl ⟨by rfl, ?_⟩) ?_ ?_
                      rotate_left
                      · intro w'
                        go_simp
                        with_reducible rfl
                      rotate_left
                      · simp only [Act.put, List.setIfInBounds_toArray, List.set_cons_zero, List.set_cons_succ, i64_w, i32_w]
                        rfl
                      refine take_ (i := 2) (N := some 30) (v := ?_) (a' := ?_) #[true, true, true, false, true, true, false, false, true, true, false, false, true, true, false, false, true, true, false, false, true, true, false, false, false, false, false] rfl rfl (take_ofW HT_.out HW_.out (by kernel_rfl)) (fun _ _ _ h => h) (Or.inl ⟨by rfl, ?_⟩) hHeld ?_ ?_
                      rotate_left
                      · rintro w' ⟨s0, s1, s2, s3, s4, s5⟩
                        go_simp
                        with_reducible rfl
                      rotate_left
                      · simp only [Act.put, List.setIfInBounds_toArray, List.set_cons_zero, List.set_cons_succ, i64_w, i32_w]
                        rfl
                      refine pure_ (i := 3) (N := some 31) (v := ?_) (a' := ?_) #[true, true, true, true, true, true, false, false, true, true, false, false, true, true, false, false, true, true, false, false, true, true, false, false, false, false, false] rfl rfl (any_of HT_.out (by kernel_rfl)) (fun _ _ _ h => h) (Or.inl ⟨by rfl, ?_⟩) ?_ ?_
                      rotate_left
                      · intro w'
                        go_simp
                        with_reducible rfl
                      rotate_left
                      · simp only [Act.put, List.setIfInBounds_toArray, List.set_cons_zero, List.set_cons_succ, i64_w, i32_w]
                        rfl
                      refine take_ (i := 6) (N := some 34) (v := ?_) (a' := ?_) #[true, true, true, true, true, true, true, false, true, true, false, false, true, true, false, false, true, true, false, false, true, true, false, false, false, false, false] rfl rfl (take_ofW HT_.out HW_.out (by kernel_rfl)) (fun _ _ _ h => h) (Or.inl ⟨by rfl, ?_⟩) hHeld ?_ ?_
                      rotate_left
                      · rintro w' ⟨s0, s1, s2, s3, s4, s5⟩
                        go_simp
                        with_reducible rfl
                      rotate_left
                      · simp only [Act.put, List.setIfInBounds_toArray, List.set_cons_zero, List.set_cons_succ, i64_w, i32_w]
                        rfl
                      refine pure_ (i := 7) (N := some 35) (v := ?_) (a' := ?_) #[true, true, true, true, true, true, true, true, true, true, false, false, true, true, false, false, true, true, false, false, true, true, false, false, false, false, false] rfl rfl (any_of HT_.out (by kernel_rfl)) (fun _ _ _ h => h) (Or.inl ⟨by rfl, ?_⟩) ?_ ?_
                      rotate_left
                      · intro w'
                        go_simp
                        with_reducible rfl
                      rotate_left
                      · simp only [Act.put, List.setIfInBounds_toArray, List.set_cons_zero, List.set_cons_succ, i64_w, i32_w]
                        rfl
                      refine take_ (i := 10) (N := some 38) (v := ?_) (a' := ?_) #[true, true, true, true, true, true, true, true, true, true, true, false, true, true, false, false, true, true, false, false, true, true, false, false, false, false, false] rfl rfl (take_ofW HT_.out HW_.out (by kernel_rfl)) (fun _ _ _ h => h) (Or.inl ⟨by rfl, ?_⟩) hHeld ?_ ?_
                      rotate_left
                      · rintro w' ⟨s0, s1, s2, s3, s4, s5⟩
                        go_simp
                        with_reducible rfl
                      rotate_left
                      · simp only [Act.put, List.setIfInBounds_toArray, List.set_cons_zero, List.set_cons_succ, i64_w, i32_w]
                        rfl
                      refine pure_ (i := 11) (N := some 39) (v := ?_) (a' := ?_) #[true, true, true, true, true, true, true, true, true, true, true, true, true, true, false, false, true, true, false, false, true, true, false, false, false, false, false] rfl rfl (any_of HT_.out (by kernel_rfl)) (fun _ _ _ h => h) (Or.inl ⟨by rfl, ?_⟩) ?_ ?_
                      rotate_left
                      · intro w'
                        go_simp
                        with_reducible rfl
                      rotate_left
                      · simp only [Act.put, List.setIfInBounds_toArray, List.set_cons_zero, List.set_cons_succ, i64_w, i32_w]
                        rfl
                      refine take_ (i := 14) (N := some 42) (v := ?_) (a' := ?_) #[true, true, true, true, true, true, true, true, true, true, true, true, true, true, true, false, true, true, false, false, true, true, false, false, false, false, false] rfl rfl (take_ofW HT_.out HW_.out (by kernel_rfl)) (fun _ _ _ h => h) (Or.inl ⟨by rfl, ?_⟩) hHeld ?_ ?_
                      rotate_left
                      · rintro w' ⟨s0, s1, s2, s3, s4, s5⟩
                        go_simp
                        with_reducible rfl
                      rotate_left
                      · simp only [Act.put, List.setIfInBounds_toArray, List.set_cons_zero, List.set_cons_succ, i64_w, i32_w]
                        rfl
                      refine pure_ (i := 15) (N := some 43) (v := ?_) (a' := ?_) #[true, true, true, true, true, true, true, true, true, true, true, true, true, true, true, true, true, true, false, false, true, true, false, false, false, false, false] rfl rfl (any_of HT_.out (by kernel_rfl)) (fun _ _ _ h => h) (Or.inl ⟨by rfl, ?_⟩) ?_ ?_
                      rotate_left
                      · intro w'
                        go_simp
                        with_reducible rfl
                      rotate_left
                      · simp only [Act.put, List.setIfInBounds_toArray, List.set_cons_zero, List.set_cons_succ, i64_w, i32_w]
                        rfl
                      refine take_ (i := 18) (N := some 46) (v := ?_) (a' := ?_) #[true, true, true, true, true, true, true, true, true, true, true, true, true, true, true, true, true, true, true, false, true, true, false, false, false, false, false] rfl rfl (take_ofW HT_.out HW_.out (by kernel_rfl)) (fun _ _ _ h => h) (Or.inl ⟨by rfl, ?_⟩) hHeld ?_ ?_
                      rotate_left
                      · rintro w' ⟨s0, s1, s2, s3, s4, s5⟩
                        go_simp
                        with_reducible rfl
                      rotate_left
                      · simp only [Act.put, List.setIfInBounds_toArray, List.set_cons_zero, List.set_cons_succ, i64_w, i32_w]
                        rfl
                      refine pure_ (i := 19) (N := some 47) (v := ?_) (a' := ?_) #[true, true, true, true, true, true, true, true, true, true, true, true, true, true, true, true, true, true, true, true, true, true, false, false, false, false, false] rfl rfl (any_of HT_.out (by kernel_rfl)) (fun _ _ _ h => h) (Or.inl ⟨by rfl, ?_⟩) ?_ ?_
                      rotate_left
                      · intro w'
                        go_simp
                        with_reducible rfl
                      rotate_left
                      · simp only [Act.put, List.setIfInBounds_toArray, List.set_cons_zero, List.set_cons_succ, i64_w, i32_w]
                        rfl
                      refine take_ (i := 22) (N := some 50) (v := ?_) (a' := ?_) #[true, true, true, true, true, true, true, true, true, true, true, true, true, true, true, true, true, true, true, true, true, true, true, false, false, false, false] rfl rfl (take_ofW HT_.out HW_.out (by kernel_rfl)) (fun _ _ _ h => h) (Or.inl ⟨by rfl, ?_⟩) hHeld ?_ ?_
                      rotate_left
                      · rintro w' ⟨s0, s1, s2, s3, s4, s5⟩
                        go_simp
                        with_reducible rfl
                      rotate_left
                      · simp only [Act.put, List.setIfInBounds_toArray, List.set_cons_zero, List.set_cons_succ, i64_w, i32_w]
                        rfl
                      refine pure_ (i := 23) (N := some 51) (v := ?_) (a' := ?_) #[true, true, true, true, true, true, true, true, true, true, true, true, true, true, true, true, true, true, true, true, true, true, true, true, false, false, false] rfl rfl (any_of HT_.out (by kernel_rfl)) (fun _ _ _ h => h) (Or.inl ⟨by rfl, ?_⟩) ?_ ?_
                      rotate_left
                      · intro w'
                        go_simp
                        with_reducible rfl
                      rotate_left
                      · simp only [Act.put, List.setIfInBounds_toArray, List.set_cons_zero, List.set_cons_succ, i64_w, i32_w]
                        rfl
                      refine pure_ (i := 24) (N := some 52) (v := ?_) (a' := ?_) #[true, true, true, true, true, true, true, true, true, true, true, true, true, true, true, true, true, true, true, true, true, true, true, true, true, false, false] rfl rfl (any_of HT_.out (by kernel_rfl)) (fun _ _ _ h => h) (Or.inl ⟨by rfl, ?_⟩) ?_ ?_
                      rotate_left
                      · intro w'
                        go_simp
                        with_reducible rfl
                      rotate_left
                      · simp only [Act.put, List.setIfInBounds_toArray, List.set_cons_zero, List.set_cons_succ, i64_w, i32_w]
                        rfl
                      refine one_ (i := 25) (N := none) #[true, true, true, true, true, true, true, true, true, true, true, true, true, true, true, true, true, true, true, true, true, true, true, true, true, true, false] rfl rfl (one_of HT_.out (by kernel_rfl)) (by decide) (fun K hK => ?_)
                      have hs34 : w33.cell? ⟨gb223, 0, none⟩ = some (.int .i64 0) := (blk_cell BK223.out 0).trans rfl
                      have hfs34 := blk_frozen BK223.out 0
                      have hs35 : w33.cell? ⟨gb223, 1, none⟩ = some (.int .i64 0) := (blk_cell BK223.out 1).trans rfl
                      have hfs35 := blk_frozen BK223.out 1
                      have hs36 : w33.cell? ⟨gb223, 2, none⟩ = some (.bool false) := (blk_cell BK223.out 2).trans rfl
                      have hfs36 := blk_frozen BK223.out 2
                      have hs37 : w33.cell? ⟨gb223, 3, none⟩ = some (.int .i64 0) := (blk_cell BK223.out 3).trans rfl
                      have hfs37 := blk_frozen BK223.out 3
                      have hs38 : w33.cell? ⟨gb223, 4, none⟩ = some (.int .i64 0) := (blk_cell BK223.out 4).trans rfl
                      have hfs38 := blk_frozen BK223.out 4
                      have hs39 : w33.cell? ⟨gb223, 5, none⟩ = some (.int .i64 0) := (blk_cell BK223.out 5).trans rfl
                      have hfs39 := blk_frozen BK223.out 5
                      refine skip_ (w1 := ?_) (by rfl) rfl ?_ ?_
                      rotate_left
                      · go_simp
                        rfl
                      refine hK.out _ _ ⟨((cell_far (p := ⟨gb223, _, none⟩) (by first | exact Kd.own_blk (Kd.R_ne HO230.out BK223.out (by decide)) | (rw [add_block]; exact Kd.own_blk (Kd.R_ne HO230.out BK223.out (by decide))) | (show (Addr.add _ _).block ≠ _; rw [add_block]; exact Kd.own_blk (Kd.R_ne HO230.out BK223.out (by decide))) | (dsimp only; exact Kd.own_blk (Kd.R_ne HO230.out BK223.out (by decide)))) _).trans (((cell_far (p := ⟨gb223, _, none⟩) (by first | exact Kd.own_blk (Kd.R_ne HO230.out BK223.out (by decide)) | (rw [add_block]; exact Kd.own_blk (Kd.R_ne HO230.out BK223.out (by decide))) | (show (Addr.add _ _).block ≠ _; rw [add_block]; exact Kd.own_blk (Kd.R_ne HO230.out BK223.out (by decide))) | (dsimp only; exact Kd.own_blk (Kd.R_ne HO230.out BK223.out (by decide)))) _).trans (((cell_far (p := ⟨gb223, _, none⟩) (by first | exact Kd.own_blk (Kd.R_ne HO230.out BK223.out (by decide)) | (rw [add_block]; exact Kd.own_blk (Kd.R_ne HO230.out BK223.out (by decide))) | (show (Addr.add _ _).block ≠ _; rw [add_block]; exact Kd.own_blk (Kd.R_ne HO230.out BK223.out (by decide))) | (dsimp only; exact Kd.own_blk (Kd.R_ne HO230.out BK223.out (by decide)))) _).trans (((cell_far (p := ⟨gb223, _, none⟩) (by first | exact Kd.own_blk (Kd.R_ne HO230.out BK223.out (by decide)) | (rw [add_block]; exact Kd.own_blk (Kd.R_ne HO230.out BK223.out (by decide))) | (show (Addr.add _ _).block ≠ _; rw [add_block]; exact Kd.own_blk (Kd.R_ne HO230.out BK223.out (by decide))) | (dsimp only; exact Kd.own_blk (Kd.R_ne HO230.out BK223.out (by decide)))) _).trans (((cell_far (p := ⟨gb223, _, none⟩) (by first | exact Kd.own_blk (Kd.R_ne HO230.out BK223.out (by decide)) | (rw [add_block]; exact Kd.own_blk (Kd.R_ne HO230.out BK223.out (by decide))) | (show (Addr.add _ _).block ≠ _; rw [add_block]; exact Kd.own_blk (Kd.R_ne HO230.out BK223.out (by decide))) | (dsimp only; exact Kd.own_blk (Kd.R_ne HO230.out BK223.out (by decide)))) _).trans (((cell_far (p := ⟨gb223, _, none⟩) (by first | exact Kd.own_blk (Kd.R_ne HO230.out BK223.out (by decide)) | (rw [add_block]; exact Kd.own_blk (Kd.R_ne HO230.out BK223.out (by decide))) | (show (Addr.add _ _).block ≠ _; rw [add_block]; exact Kd.own_blk (Kd.R_ne HO230.out BK223.out (by decide))) | (dsimp only; exact Kd.own_blk (Kd.R_ne HO230.out BK223.out (by decide)))) _).trans (hHeld.1)))))))))))), ((cell_far (p := ⟨gb223, _, none⟩) (by first | exact Kd.own_blk (Kd.R_ne HO230.out BK223.out (by decide)) | (rw [add_block]; exact Kd.own_blk (Kd.R_ne HO230.out BK223.out (by decide))) | (show (Addr.add _ _).block ≠ _; rw [add_block]; exact Kd.own_blk (Kd.R_ne HO230.out BK223.out (by decide))) | (dsimp only; exact Kd.own_blk (Kd.R_ne HO230.out BK223.out (by decide)))) _).trans (((cell_far (p := ⟨gb223, _, none⟩) (by first | exact Kd.own_blk (Kd.R_ne HO230.out BK223.out (by decide)) | (rw [add_block]; exact Kd.own_blk (Kd.R_ne HO230.out BK223.out (by decide))) | (show (Addr.add _ _).block ≠ _; rw [add_block]; exact Kd.own_blk (Kd.R_ne HO230.out BK223.out (by decide))) | (dsimp only; exact Kd.own_blk (Kd.R_ne HO230.out BK223.out (by decide)))) _).trans (((cell_far (p := ⟨gb223, _, none⟩) (by first | exact Kd.own_blk (Kd.R_ne HO230.out BK223.out (by decide)) | (rw [add_block]; exact Kd.own_blk (Kd.R_ne HO230.out BK223.out (by decide))) | (show (Addr.add _ _).block ≠ _; rw [add_block]; exact Kd.own_blk (Kd.R_ne HO230.out BK223.out (by decide))) | (dsimp only; exact Kd.own_blk (Kd.R_ne HO230.out BK223.out (by decide)))) _).trans (((cell_far (p := ⟨gb223, _, none⟩) (by first | exact Kd.own_blk (Kd.R_ne HO230.out BK223.out (by decide)) | (rw [add_block]; exact Kd.own_blk (Kd.R_ne HO230.out BK223.out (by decide))) | (show (Addr.add _ _).block ≠ _; rw [add_block]; exact Kd.own_blk (Kd.R_ne HO230.out BK223.out (by decide))) | (dsimp only; exact Kd.own_blk (Kd.R_ne HO230.out BK223.out (by decide)))) _).trans (((cell_far (p := ⟨gb223, _, none⟩) (by first | exact Kd.own_blk (Kd.R_ne HO230.out BK223.out (by decide)) | (rw [add_block]; exact Kd.own_blk (Kd.R_ne HO230.out BK223.out (by decide))) | (show (Addr.add _ _).block ≠ _; rw [add_block]; exact Kd.own_blk (Kd.R_ne HO230.out BK223.out (by decide))) | (dsimp only; exact Kd.own_blk (Kd.R_ne HO230.out BK223.out (by decide)))) _).trans (((cell_far (p := ⟨gb223, _, none⟩) (by first | exact Kd.own_blk (Kd.R_ne HO230.out BK223.out (by decide)) | (rw [add_block]; exact Kd.own_blk (Kd.R_ne HO230.out BK223.out (by decide))) | (show (Addr.add _ _).block ≠ _; rw [add_block]; exact Kd.own_blk (Kd.R_ne HO230.out BK223.out (by decide))) | (dsimp only; exact Kd.own_blk (Kd.R_ne HO230.out BK223.out (by decide)))) _).trans (hHeld.2.1)))))))))))), ((cell_far (p := ⟨gb223, _, none⟩) (by first | exact Kd.own_blk (Kd.R_ne HO230.out BK223.out (by decide)) | (rw [add_block]; exact Kd.own_blk (Kd.R_ne HO230.out BK223.out (by decide))) | (show (Addr.add _ _).block ≠ _; rw [add_block]; exact Kd.own_blk (Kd.R_ne HO230.out BK223.out (by decide))) | (dsimp only; exact Kd.own_blk (Kd.R_ne HO230.out BK223.out (by decide)))) _).trans (((cell_far (p := ⟨gb223, _, none⟩) (by first | exact Kd.own_blk (Kd.R_ne HO230.out BK223.out (by decide)) | (rw [add_block]; exact Kd.own_blk (Kd.R_ne HO230.out BK223.out (by decide))) | (show (Addr.add _ _).block ≠ _; rw [add_block]; exact Kd.own_blk (Kd.R_ne HO230.out BK223.out (by decide))) | (dsimp only; exact Kd.own_blk (Kd.R_ne HO230.out BK223.out (by decide)))) _).trans (((cell_far (p := ⟨gb223, _, none⟩) (by first | exact Kd.own_blk (Kd.R_ne HO230.out BK223.out (by decide)) | (rw [add_block]; exact Kd.own_blk (Kd.R_ne HO230.out BK223.out (by decide))) | (show (Addr.add _ _).block ≠ _; rw [add_block]; exact Kd.own_blk (Kd.R_ne HO230.out BK223.out (by decide))) | (dsimp only; exact Kd.own_blk (Kd.R_ne HO230.out BK223.out (by decide)))) _).trans (((cell_far (p := ⟨gb223, _, none⟩) (by first | exact Kd.own_blk (Kd.R_ne HO230.out BK223.out (by decide)) | (rw [add_block]; exact Kd.own_blk (Kd.R_ne HO230.out BK223.out (by decide))) | (show (Addr.add _ _).block ≠ _; rw [add_block]; exact Kd.own_blk (Kd.R_ne HO230.out BK223.out (by decide))) | (dsimp only; exact Kd.own_blk (Kd.R_ne HO230.out BK223.out (by decide)))) _).trans (((cell_far (p := ⟨gb223, _, none⟩) (by first | exact Kd.own_blk (Kd.R_ne HO230.out BK223.out (by decide)) | (rw [add_block]; exact Kd.own_blk (Kd.R_ne HO230.out BK223.out (by decide))) | (show (Addr.add _ _).block ≠ _; rw [add_block]; exact Kd.own_blk (Kd.R_ne HO230.out BK223.out (by decide))) | (dsimp only; exact Kd.own_blk (Kd.R_ne HO230.out BK223.out (by decide)))) _).trans (((cell_far (p := ⟨gb223, _, none⟩) (by first | exact Kd.own_blk (Kd.R_ne HO230.out BK223.out (by decide)) | (rw [add_block]; exact Kd.own_blk (Kd.R_ne HO230.out BK223.out (by decide))) | (show (Addr.add _ _).block ≠ _; rw [add_block]; exact Kd.own_blk (Kd.R_ne HO230.out BK223.out (by decide))) | (dsimp only; exact Kd.own_blk (Kd.R_ne HO230.out BK223.out (by decide)))) _).trans (hHeld.2.2.1)))))))))))), ((cell_far (p := ⟨gb223, _, none⟩) (by first | exact Kd.own_blk (Kd.R_ne HO230.out BK223.out (by decide)) | (rw [add_block]; exact Kd.own_blk (Kd.R_ne HO230.out BK223.out (by decide))) | (show (Addr.add _ _).block ≠ _; rw [add_block]; exact Kd.own_blk (Kd.R_ne HO230.out BK223.out (by decide))) | (dsimp only; exact Kd.own_blk (Kd.R_ne HO230.out BK223.out (by decide)))) _).trans (((cell_far (p := ⟨gb223, _, none⟩) (by first | exact Kd.own_blk (Kd.R_ne HO230.out BK223.out (by decide)) | (rw [add_block]; exact Kd.own_blk (Kd.R_ne HO230.out BK223.out (by decide))) | (show (Addr.add _ _).block ≠ _; rw [add_block]; exact Kd.own_blk (Kd.R_ne HO230.out BK223.out (by decide))) | (dsimp only; exact Kd.own_blk (Kd.R_ne HO230.out BK223.out (by decide)))) _).trans (((cell_far (p := ⟨gb223, _, none⟩) (by first | exact Kd.own_blk (Kd.R_ne HO230.out BK223.out (by decide)) | (rw [add_block]; exact Kd.own_blk (Kd.R_ne HO230.out BK223.out (by decide))) | (show (Addr.add _ _).block ≠ _; rw [add_block]; exact Kd.own_blk (Kd.R_ne HO230.out BK223.out (by decide))) | (dsimp only; exact Kd.own_blk (Kd.R_ne HO230.out BK223.out (by decide)))) _).trans (((cell_far (p := ⟨gb223, _, none⟩) (by first | exact Kd.own_blk (Kd.R_ne HO230.out BK223.out (by decide)) | (rw [add_block]; exact Kd.own_blk (Kd.R_ne HO230.out BK223.out (by decide))) | (show (Addr.add _ _).block ≠ _; rw [add_block]; exact Kd.own_blk (Kd.R_ne HO230.out BK223.out (by decide))) | (dsimp only; exact Kd.own_blk (Kd.R_ne HO230.out BK223.out (by decide)))) _).trans (((cell_far (p := ⟨gb223, _, none⟩) (by first | exact Kd.own_blk (Kd.R_ne HO230.out BK223.out (by decide)) | (rw [add_block]; exact Kd.own_blk (Kd.R_ne HO230.out BK223.out (by decide))) | (show (Addr.add _ _).block ≠ _; rw [add_block]; exact Kd.own_blk (Kd.R_ne HO230.out BK223.out (by decide))) | (dsimp only; exact Kd.own_blk (Kd.R_ne HO230.out BK223.out (by decide)))) _).trans (((cell_far (p := ⟨gb223, _, none⟩) (by first | exact Kd.own_blk (Kd.R_ne HO230.out BK223.out (by decide)) | (rw [add_block]; exact Kd.own_blk (Kd.R_ne HO230.out BK223.out (by decide))) | (show (Addr.add _ _).block ≠ _; rw [add_block]; exact Kd.own_blk (Kd.R_ne HO230.out BK223.out (by decide))) | (dsimp only; exact Kd.own_blk (Kd.R_ne HO230.out BK223.out (by decide)))) _).trans (hHeld.2.2.2.1)))))))))))), ((cell_far (p := ⟨gb223, _, none⟩) (by first | exact Kd.own_blk (Kd.R_ne HO230.out BK223.out (by decide)) | (rw [add_block]; exact Kd.own_blk (Kd.R_ne HO230.out BK223.out (by decide))) | (show (Addr.add _ _).block ≠ _; rw [add_block]; exact Kd.own_blk (Kd.R_ne HO230.out BK223.out (by decide))) | (dsimp only; exact Kd.own_blk (Kd.R_ne HO230.out BK223.out (by decide)))) _).trans (((cell_far (p := ⟨gb223, _, none⟩) (by first | exact Kd.own_blk (Kd.R_ne HO230.out BK223.out (by decide)) | (rw [add_block]; exact Kd.own_blk (Kd.R_ne HO230.out BK223.out (by decide))) | (show (Addr.add _ _).block ≠ _; rw [add_block]; exact Kd.own_blk (Kd.R_ne HO230.out BK223.out (by decide))) | (dsimp only; exact Kd.own_blk (Kd.R_ne HO230.out BK223.out (by decide)))) _).trans (((cell_far (p := ⟨gb223, _, none⟩) (by first | exact Kd.own_blk (Kd.R_ne HO230.out BK223.out (by decide)) | (rw [add_block]; exact Kd.own_blk (Kd.R_ne HO230.out BK223.out (by decide))) | (show (Addr.add _ _).block ≠ _; rw [add_block]; exact Kd.own_blk (Kd.R_ne HO230.out BK223.out (by decide))) | (dsimp only; exact Kd.own_blk (Kd.R_ne HO230.out BK223.out (by decide)))) _).trans (((cell_far (p := ⟨gb223, _, none⟩) (by first | exact Kd.own_blk (Kd.R_ne HO230.out BK223.out (by decide)) | (rw [add_block]; exact Kd.own_blk (Kd.R_ne HO230.out BK223.out (by decide))) | (show (Addr.add _ _).block ≠ _; rw [add_block]; exact Kd.own_blk (Kd.R_ne HO230.out BK223.out (by decide))) | (dsimp only; exact Kd.own_blk (Kd.R_ne HO230.out BK223.out (by decide)))) _).trans (((cell_far (p := ⟨gb223, _, none⟩) (by first | exact Kd.own_blk (Kd.R_ne HO230.out BK223.out (by decide)) | (rw [add_block]; exact Kd.own_blk (Kd.R_ne HO230.out BK223.out (by decide))) | (show (Addr.add _ _).block ≠ _; rw [add_block]; exact Kd.own_blk (Kd.R_ne HO230.out BK223.out (by decide))) | (dsimp only; exact Kd.own_blk (Kd.R_ne HO230.out BK223.out (by decide)))) _).trans (((cell_far (p := ⟨gb223, _, none⟩) (by first | exact Kd.own_blk (Kd.R_ne HO230.out BK223.out (by decide)) | (rw [add_block]; exact Kd.own_blk (Kd.R_ne HO230.out BK223.out (by decide))) | (show (Addr.add _ _).block ≠ _; rw [add_block]; exact Kd.own_blk (Kd.R_ne HO230.out BK223.out (by decide))) | (dsimp only; exact Kd.own_blk (Kd.R_ne HO230.out BK223.out (by decide)))) _).trans (hHeld.2.2.2.2.1)))))))))))), ((cell_far (p := ⟨gb223, _, none⟩) (by first | exact Kd.own_blk (Kd.R_ne HO230.out BK223.out (by decide)) | (rw [add_block]; exact Kd.own_blk (Kd.R_ne HO230.out BK223.out (by decide))) | (show (Addr.add _ _).block ≠ _; rw [add_block]; exact Kd.own_blk (Kd.R_ne HO230.out BK223.out (by decide))) | (dsimp only; exact Kd.own_blk (Kd.R_ne HO230.out BK223.out (by decide)))) _).trans (((cell_far (p := ⟨gb223, _, none⟩) (by first | exact Kd.own_blk (Kd.R_ne HO230.out BK223.out (by decide)) | (rw [add_block]; exact Kd.own_blk (Kd.R_ne HO230.out BK223.out (by decide))) | (show (Addr.add _ _).block ≠ _; rw [add_block]; exact Kd.own_blk (Kd.R_ne HO230.out BK223.out (by decide))) | (dsimp only; exact Kd.own_blk (Kd.R_ne HO230.out BK223.out (by decide)))) _).trans (((cell_far (p := ⟨gb223, _, none⟩) (by first | exact Kd.own_blk (Kd.R_ne HO230.out BK223.out (by decide)) | (rw [add_block]; exact Kd.own_blk (Kd.R_ne HO230.out BK223.out (by decide))) | (show (Addr.add _ _).block ≠ _; rw [add_block]; exact Kd.own_blk (Kd.R_ne HO230.out BK223.out (by decide))) | (dsimp only; exact Kd.own_blk (Kd.R_ne HO230.out BK223.out (by decide)))) _).trans (((cell_far (p := ⟨gb223, _, none⟩) (by first | exact Kd.own_blk (Kd.R_ne HO230.out BK223.out (by decide)) | (rw [add_block]; exact Kd.own_blk (Kd.R_ne HO230.out BK223.out (by decide))) | (show (Addr.add _ _).block ≠ _; rw [add_block]; exact Kd.own_blk (Kd.R_ne HO230.out BK223.out (by decide))) | (dsimp only; exact Kd.own_blk (Kd.R_ne HO230.out BK223.out (by decide)))) _).trans (((cell_far (p := ⟨gb223, _, none⟩) (by first | exact Kd.own_blk (Kd.R_ne HO230.out BK223.out (by decide)) | (rw [add_block]; exact Kd.own_blk (Kd.R_ne HO230.out BK223.out (by decide))) | (show (Addr.add _ _).block ≠ _; rw [add_block]; exact Kd.own_blk (Kd.R_ne HO230.out BK223.out (by decide))) | (dsimp only; exact Kd.own_blk (Kd.R_ne HO230.out BK223.out (by decide)))) _).trans (((cell_far (p := ⟨gb223, _, none⟩) (by first | exact Kd.own_blk (Kd.R_ne HO230.out BK223.out (by decide)) | (rw [add_block]; exact Kd.own_blk (Kd.R_ne HO230.out BK223.out (by decide))) | (show (Addr.add _ _).block ≠ _; rw [add_block]; exact Kd.own_blk (Kd.R_ne HO230.out BK223.out (by decide))) | (dsimp only; exact Kd.own_blk (Kd.R_ne HO230.out BK223.out (by decide)))) _).trans (hHeld.2.2.2.2.2))))))))))))⟩ (fun hHeld => ?_)
                      clear hK K
                      refine pure_ (i := 26) (N := some 3) (v := ?_) (a' := ?_) #[true, true, true, true, true, true, true, true, true, true, true, true, true, true, true, true, true, true, true, true, true, true, true, true, true, true, true] rfl rfl (any_of HT_.out (by kernel_rfl)) (fun _ _ _ h => h) (Or.inl ⟨by rfl, ?_⟩) ?_ ?_
                      rotate_left
                      · intro w'
                        go_simp
                        with_reducible rfl
                      rotate_left
                      · simp only [Act.put, List.setIfInBounds_toArray, List.set_cons_zero, List.set_cons_succ, i64_w, i32_w]
                        rfl
                      refine done_ (done_of HT_.out (by kernel_rfl)) ?_
                      try go_wp2
                      refine bodyPost_ret (results_ct rfl _ _ gb223 85 #[.int .i64 (wrap64 (rd t227 0)), .int .i64 (wrap64 (rd t227 1)), .bool ((rd t227 2) == 1), .int .i64 (wrap64 (rd t227 3)), .int .i64 (wrap64 (rd t227 5)), .int .i64 (wrap64 (rd t227 6))] (0, 0) _ rfl (by (with_reducible repeat (first | refine blk_drewN ?_ _ | refine blk_drew ?_ | refine blk_alloc ?_ _)); refine blk_put (cs := #[.int .i64 (wrap64 (rd t227 0)), .int .i64 (wrap64 (rd t227 1)), .bool ((rd t227 2) == 1), .int .i64 (wrap64 (rd t227 3)), .int .i64 (wrap64 (rd t227 5)), .int .i64 0]) ?_ 5 _ rfl; (with_reducible repeat (first | refine blk_drewN ?_ _ | refine blk_drew ?_ | refine blk_alloc ?_ _)); refine blk_put (cs := #[.int .i64 (wrap64 (rd t227 0)), .int .i64 (wrap64 (rd t227 1)), .bool ((rd t227 2) == 1), .int .i64 (wrap64 (rd t227 3)), .int .i64 0, .int .i64 0]) ?_ 4 _ rfl; (with_reducible repeat (first | refine blk_drewN ?_ _ | refine blk_drew ?_ | refine blk_alloc ?_ _)); refine blk_put (cs := #[.int .i64 (wrap64 (rd t227 0)), .int .i64 (wrap64 (rd t227 1)), .bool ((rd t227 2) == 1), .int .i64 0, .int .i64 0, .int .i64 0]) ?_ 3 _ rfl; (with_reducible repeat (first | refine blk_drewN ?_ _ | refine blk_drew ?_ | refine blk_alloc ?_ _)); refine blk_put (cs := #[.int .i64 (wrap64 (rd t227 0)), .int .i64 (wrap64 (rd t227 1)), .bool false, .int .i64 0, .int .i64 0, .int .i64 0]) ?_ 2 _ rfl; (with_reducible repeat (first | refine blk_drewN ?_ _ | refine blk_drew ?_ | refine blk_alloc ?_ _)); refine blk_put (cs := #[.int .i64 (wrap64 (rd t227 0)), .int .i64 0, .bool false, .int .i64 0, .int .i64 0, .int .i64 0]) ?_ 1 _ rfl; (with_reducible repeat (first | refine blk_drewN ?_ _ | refine blk_drew ?_ | refine blk_alloc ?_ _)); refine blk_put (cs := #[.int .i64 0, .int .i64 0, .bool false, .int .i64 0, .int .i64 0, .int .i64 0]) ?_ 0 _ rfl; (with_reducible repeat (first | refine blk_drewN ?_ _ | refine blk_drew ?_ | refine blk_alloc ?_ _)); exact BK223.out) Try.underlying85 rfl (by kernel_rfl)) rfl ?_
                      exact ⟨by first | rfl | (simp [errW_none, errW_some] <;> rfl) | (simp [*, errW_none, errW_some] <;> rfl), by repeat (first | (with_reducible first | exact HB.out | apply below_alloc | apply pw_below_drewN | apply below_drew1 | refine below_set ?_ GE223.out) | exact HB.out)⟩
                    · rw [if_neg c26] at H
                      exact absurd H (by simp)
                  · rw [if_neg c25] at H
                    exact absurd H (by simp)
                · rw [if_neg c24] at H
                  exact absurd H (by simp)
              · rw [if_neg c23] at H
                exact absurd H (by simp)
            · rw [if_neg c22] at H
              exact absurd H (by simp)
          · rw [if_neg c21] at H
            have c21b0 : ((rd t227 4) == 0) = false := beq_eq_false_iff_ne.mpr c21
            have c21b1 : ((rd t227 4) != 0) = true := bne_iff_ne.mpr c21
            simp only [Option.some.injEq, Prod.mk.injEq] at H
            obtain ⟨rfl, rfl, rfl, rfl, rfl, rfl, rfl⟩ := H
            go_enter Try.func86, Try.ntmps86
            go_wp2_with (first | ((with_reducible refine gate_dst (N := 2) rfl ?_); refine box_event ?hg (N := 2) ?hd (cs := #[.int .i64 0, .int .i64 0, .bool false, .int .i64 0, .int .i64 0, .int .i64 0]) (t := 85) ?hr ?_; (case hd => rfl); (case hg => rfl); (case hr => first | (go_simp; done) | (go_simp; rfl)); intro gb223 hg w40 hbox hb; have n0_ := Aside0.mk (below_step (by repeat (first | (with_reducible first | exact HB.out | apply below_alloc | apply pw_below_drewN | apply below_drew1) | exact HB.out)) hb); have n1_ := Aside0.mk (hbox); have n2_ := Aside0.mk ((by rw [hg]; exact (below_size (by repeat (first | (with_reducible first | exact HB.out | apply below_alloc | apply pw_below_drewN | apply below_drew1) | exact HB.out))) : w.heap.size ≤ gb223)); have n3_ := Aside0.mk ((by rw [hg]; exact (below_size (by repeat (first | (with_reducible first | exact HB.out | apply below_alloc | apply pw_below_drewN | apply below_drew1) | exact HB.out))) : w.heap.size ≤ gb223)); clear HB; have HB := n0_; have BK223 := n1_; have GW223 := n2_; have GE223 := n3_; clear n0_ n1_ n2_ n3_; clear hb hbox hg) | ((with_reducible refine gate_dst (N := 8) rfl ?_); refine Kd.R_lit (Kd.int .i64) _ 3 ?hg (N := 8) ?hd (xs := ([3, 1, 1, 4, 7, 32, 16] : List Int)) (inner := [.int .i64 3, .int .i64 1, .int .i64 1, .int .i64 4, .int .i64 7, .int .i64 32, .int .i64 16]) (ok := fun _ => True) (okp := fun _ => True) ?hr ?hp (fun _ hk => hk) trivial (Below.refl _ _) (Nat.le_refl _) (by simp) ?_; (case hd => rfl); (case hg => rfl); (case hr => first | (go_simp; done) | (go_simp; rfl)); (case hp => exact (Reps.one (show Kd.M (Kd.int .i64) _ _ _ 3 [.int .i64 3] from rfl) (Reps.one (show Kd.M (Kd.int .i64) _ _ _ 1 [.int .i64 1] from rfl) (Reps.one (show Kd.M (Kd.int .i64) _ _ _ 1 [.int .i64 1] from rfl) (Reps.one (show Kd.M (Kd.int .i64) _ _ _ 4 [.int .i64 4] from rfl) (Reps.one (show Kd.M (Kd.int .i64) _ _ _ 7 [.int .i64 7] from rfl) (Reps.one (show Kd.M (Kd.int .i64) _ _ _ 32 [.int .i64 32] from rfl) (Reps.one (show Kd.M (Kd.int .i64) _ _ _ 16 [.int .i64 16] from rfl) (Reps.none _ _))))))))); intro v225 w41 ho42 hb hg_ hnew_; clear hg_ hnew_; (first | rw [← Ny224.out] at ho42 | (simp only [Int.reduceToNat] at ho42; rw [← Ny224.out] at ho42)); have n0_ := Aside0.mk (Kd.R_lower ho42 (below_size (by repeat (first | (with_reducible first | exact HB.out | apply below_alloc | apply pw_below_drewN | apply below_drew1 | refine below_set ?_ GE223.out) | exact HB.out)))); have n1_ := Aside0.mk (blk_below (g := gb223) (o := .cells #[.int .i64 0, .int .i64 0, .bool false, .int .i64 0, .int .i64 0, .int .i64 0] 85 (0, 0)) (by (with_reducible repeat (first | refine blk_drewN ?_ _ | refine blk_drew ?_ | refine blk_alloc ?_ _)); exact BK223.out) hb); have n2_ := Aside0.mk (below_step (by repeat (first | (with_reducible first | exact HB.out | apply below_alloc | apply pw_below_drewN | apply below_drew1 | refine below_set ?_ GE223.out) | exact HB.out)) hb); clear BK223; clear HB; have HO226 := n0_; have BK223 := n1_; have HB := n2_; clear n0_ n1_ n2_; clear hb ho42; obtain ⟨Ao43, co43, eo43⟩ := Kd.R_slice HO226.out; subst eo43) | ((with_reducible refine gate_callee (f := 99) rfl ?_); refine goesL_ (some 9) rfl rfl Try.func99 (by kernel_rfl) rfl #[.int .u64 a0, .slice Ao43 y224.length co43] rfl (by (try simp only [List.map_toArray, List.map_cons, List.map_nil]); first | done | rfl | (simp only [List.length_drop, List.length_take]; rfl)) ?_; (with_reducible refine (word_Unpack.calls k a0 _ _ y224 t227 t228 _ ?side1 ?side2 A2.out).mono ?_); (case side1 => repeat (first | exact (Kd.R_reads' HO226.out).2.2 | (with_reducible refine Kd.C_alloc ?_ _) | (with_reducible refine Kd.C_drewN ?_ _) | (with_reducible refine Kd.C_drew ?_))); (case side2 => exact (Kd.R_reads' HO226.out).2.1); rintro e w44 ⟨v229, rfl, ho0, hb⟩; refine ⟨_, rfl, ?_⟩; have n0_ := Aside0.mk (Kd.R_below (by (with_reducible repeat (first | apply Kd.R_alloc | apply Kd.R_drewN | apply Kd.R_drew)); exact HO226.out) hb); have n1_ := Aside0.mk (Kd.R_lower ho0 (below_size (by repeat (first | (with_reducible first | exact HB.out | apply below_alloc | apply pw_below_drewN | apply below_drew1 | refine below_set ?_ GE223.out) | exact HB.out)))); have n2_ := Aside0.mk (blk_below (g := gb223) (o := .cells #[.int .i64 0, .int .i64 0, .bool false, .int .i64 0, .int .i64 0, .int .i64 0] 85 (0, 0)) (by (with_reducible repeat (first | refine blk_drewN ?_ _ | refine blk_drew ?_ | refine blk_alloc ?_ _)); exact BK223.out) hb); have n3_ := Aside0.mk (below_step (by repeat (first | (with_reducible first | exact HB.out | apply below_alloc | apply pw_below_drewN | apply below_drew1 | refine below_set ?_ GE223.out) | exact HB.out)) hb); clear HO226; clear BK223; clear HB; have HO226 := n0_; have HO230 := n1_; have BK223 := n2_; have HB := n3_; clear n0_ n1_ n2_ n3_; (try clear hb); (try clear hb2); (try clear hk); (try clear hi); (try clear ho0); obtain ⟨Ao45, co45, eo45⟩ := Kd.R_slice HO230.out; subst eo45; have p231 : 0 ≤ (0 : Int) := (by omega); have q231 : 0 < (t227.length : Int) := of_decide_eq_true (by first | (with_reducible assumption) | assumption); obtain ⟨ad231, e231, hx231_0⟩ := Kd.at_int (Kd.R_reads' HO230.out).2.2 0 p231 q231; cases e231; have qi231 : (0 < t227.length) = True := eq_true (by omega); (try rw [show ((0 : Int)).toNat = 0 from rfl] at hx231_0); (try rw [Addr.add_zero'] at hx231_0); replace p231 := eq_true p231; replace q231 := eq_true q231; have p232 : 0 ≤ (4 : Int) := (by omega); have q232 : 4 < (t227.length : Int) := of_decide_eq_true (by first | (with_reducible assumption) | assumption); obtain ⟨ad232, e232, hx232_0⟩ := Kd.at_int (Kd.R_reads' HO230.out).2.2 4 p232 q232; obtain rfl : ad231 = ad232 := (by injection e232); (try simp only [show (4 : Int).toNat = 4 from rfl, Nat.reduceMul, Nat.reduceEqDiff, Go.Addr.add, ↓reduceIte] at hx232_0); have qi232 : (4 < t227.length) = True := eq_true (by omega); (try rw [show ((4 : Int)).toNat = 4 from rfl] at hx232_0); replace p232 := eq_true p232; replace q232 := eq_true q232; have hcz46_0 : w44.cell? ⟨gb223, 0, none⟩ = some (.int .i64 0) := (blk_cell BK223.out 0).trans rfl; have hcz46_1 : w44.cell? ⟨gb223, 1, none⟩ = some (.int .i64 0) := (blk_cell BK223.out 1).trans rfl; have hcz46_2 : w44.cell? ⟨gb223, 2, none⟩ = some (.bool false) := (blk_cell BK223.out 2).trans rfl; have hcz46_3 : w44.cell? ⟨gb223, 3, none⟩ = some (.int .i64 0) := (blk_cell BK223.out 3).trans rfl; have hcz46_4 : w44.cell? ⟨gb223, 4, none⟩ = some (.int .i64 0) := (blk_cell BK223.out 4).trans rfl; have hcz46_5 : w44.cell? ⟨gb223, 5, none⟩ = some (.int .i64 0) := (blk_cell BK223.out 5).trans rfl; have hfz46_0 := blk_frozen BK223.out 0; have hfz46_1 := blk_frozen BK223.out 1; have hfz46_2 := blk_frozen BK223.out 2; have hfz46_3 := blk_frozen BK223.out 3; have hfz46_4 := blk_frozen BK223.out 4; have hfz46_5 := blk_frozen BK223.out 5))
            refine bodyPost_ret (results_ct rfl _ _ gb223 85 #[.int .i64 0, .int .i64 0, .bool false, .int .i64 0, .int .i64 0, .int .i64 0] (0, 0) _ rfl (by (with_reducible repeat (first | refine blk_drewN ?_ _ | refine blk_drew ?_ | refine blk_alloc ?_ _)); refine blk_put (cs := #[.int .i64 0, .int .i64 0, .bool false, .int .i64 0, .int .i64 0, .int .i64 0]) ?_ 5 _ rfl; (with_reducible repeat (first | refine blk_drewN ?_ _ | refine blk_drew ?_ | refine blk_alloc ?_ _)); refine blk_put (cs := #[.int .i64 0, .int .i64 0, .bool false, .int .i64 0, .int .i64 0, .int .i64 0]) ?_ 4 _ rfl; (with_reducible repeat (first | refine blk_drewN ?_ _ | refine blk_drew ?_ | refine blk_alloc ?_ _)); refine blk_put (cs := #[.int .i64 0, .int .i64 0, .bool false, .int .i64 0, .int .i64 0, .int .i64 0]) ?_ 3 _ rfl; (with_reducible repeat (first | refine blk_drewN ?_ _ | refine blk_drew ?_ | refine blk_alloc ?_ _)); refine blk_put (cs := #[.int .i64 0, .int .i64 0, .bool false, .int .i64 0, .int .i64 0, .int .i64 0]) ?_ 2 _ rfl; (with_reducible repeat (first | refine blk_drewN ?_ _ | refine blk_drew ?_ | refine blk_alloc ?_ _)); refine blk_put (cs := #[.int .i64 0, .int .i64 0, .bool false, .int .i64 0, .int .i64 0, .int .i64 0]) ?_ 1 _ rfl; (with_reducible repeat (first | refine blk_drewN ?_ _ | refine blk_drew ?_ | refine blk_alloc ?_ _)); refine blk_put (cs := #[.int .i64 0, .int .i64 0, .bool false, .int .i64 0, .int .i64 0, .int .i64 0]) ?_ 0 _ rfl; (with_reducible repeat (first | refine blk_drewN ?_ _ | refine blk_drew ?_ | refine blk_alloc ?_ _)); exact BK223.out) Try.underlying85 rfl (by kernel_rfl)) rfl ?_
            exact ⟨by first | rfl | (simp [errW_none, errW_some] <;> rfl) | (simp [*, errW_none, errW_some] <;> rfl), by repeat (first | (with_reducible first | exact HB.out | apply below_alloc | apply pw_below_drewN | apply below_drew1 | refine below_set ?_ GE223.out) | exact HB.out)⟩
        · rw [if_neg c20] at H
          exact absurd H (by simp)
    · rw [if_neg c11] at H
      exact absurd H (by simp)
def head_bit.f (a0 : Bool) : Option (Int) := if a0 = true then (some 1) else (some 0)
set_option maxHeartbeats 8000000 in
set_option maxRecDepth 100000 in
theorem head_bit.calls (a0 : Bool) (r : Int) (w : World) (h : head_bit.f a0 = some r) :
    Calls Try.prog 106 #[.bool a0] w fun e w' => e = .returned (.int .u64 r) ∧ Drawn0 w w' := by
  have H : (if a0 = true then (some 1) else (some 0)) = some r := h
  clear h
  by_cases c2 : a0 = true
  · subst c2
    have H1 : (some 1) = some r := by rw [if_pos rfl] at H; exact H
    clear H
    have H := H1
    clear H1
    obtain rfl := Option.some.inj H
    go_enter Try.func106, Try.ntmps106
    go_wp2
    go_ret
    exact ⟨by first | rfl | (simp; done) | (simp [*]; done), by repeat (first | exact Drawn0.refl _ | apply Drawn0.step)⟩
  · replace c2 := Bool.eq_false_iff.mpr c2
    subst c2
    have H1 : (some 0) = some r := by rw [if_neg (show ¬ (false = true) by decide)] at H; exact H
    clear H
    have H := H1
    clear H1
    obtain rfl := Option.some.inj H
    go_enter Try.func106, Try.ntmps106
    go_wp2
    go_ret
    exact ⟨by first | rfl | (simp; done) | (simp [*]; done), by repeat (first | exact Drawn0.refl _ | apply Drawn0.step)⟩
def turn_Cycle.f (a0 : Int) : Option (Int) := some (IntKind.u64.wrap (Int.tdiv a0 4))
set_option maxHeartbeats 8000000 in
set_option maxRecDepth 100000 in
theorem turn_Cycle.calls (a0 : Int) (r : Int) (w : World) (h : turn_Cycle.f a0 = some r) :
    Calls Try.prog 112 #[.int .u64 a0] w fun e w' => e = .returned (.int .u64 r) ∧ Drawn0 w w' := by
  have H : (some (IntKind.u64.wrap (Int.tdiv a0 4))) = some r := h
  clear h
  obtain rfl := Option.some.inj H
  go_enter Try.func112, Try.ntmps112
  go_wp2
  go_ret
  exact ⟨by first | rfl | (simp; done) | (simp [*]; done), by repeat (first | exact Drawn0.refl _ | apply Drawn0.step)⟩
def turn_Black.f (a0 : Int) : Option (Int) := (turn_Cycle.f a0).bind fun t240 => (some (wrap64 (Int.tmod (IntKind.u64.wrap (t240 + 1)) 2)))
set_option maxHeartbeats 8000000 in
set_option maxRecDepth 100000 in
theorem turn_Black.calls (a0 : Int) (r : Int) (w : World) (h : turn_Black.f a0 = some r) :
    Calls Try.prog 107 #[.int .u64 a0] w fun e w' => e = .returned (.int .i64 r) ∧ Drawn0 w w' := by
  have H : ((turn_Cycle.f a0).bind fun t240 => (some (wrap64 (Int.tmod (IntKind.u64.wrap (t240 + 1)) 2)))) = some r := h
  clear h
  replace H := Option.bind_eq_some_iff.mp H
  obtain ⟨t240, A20, H⟩ := H
  replace H : (some (wrap64 (Int.tmod (IntKind.u64.wrap (t240 + 1)) 2))) = some r := H
  have A2 := Aside0.mk A20
  clear A20
  obtain rfl := Option.some.inj H
  go_enter Try.func107, Try.ntmps107
  go_wp2_with (first | ((with_reducible refine gate_callee (f := 112) rfl ?_); refine goesL_ (some 4) rfl rfl Try.func112 (by kernel_rfl) rfl #[.int .u64 a0] rfl (by (try simp only [List.map_toArray, List.map_cons, List.map_nil]); first | done | rfl | (simp only [List.length_drop, List.length_take]; rfl)) ?_; (with_reducible refine (turn_Cycle.calls a0 t240 _ A2.out).mono ?_); rintro e w' ⟨rfl, ⟨nd, rfl⟩⟩; refine ⟨_, rfl, ?_⟩))
  go_ret
  exact ⟨by first | rfl | (simp; done) | (simp [*]; done), by repeat (first | exact Drawn0.refl _ | apply Drawn0.step)⟩
def turn_Born.f (a0 : Int) : Option (Int) := if (Int.tmod a0 4) = 0 then ((turn_Black.f a0).bind fun t241 => (some (wrap64 (1 - t241)))) else ((turn_Black.f a0).bind fun t242 => (some t242))
set_option maxHeartbeats 8000000 in
set_option maxRecDepth 100000 in
theorem turn_Born.calls (a0 : Int) (r : Int) (w : World) (h : turn_Born.f a0 = some r) :
    Calls Try.prog 101 #[.int .u64 a0] w fun e w' => e = .returned (.int .i64 r) ∧ Drawn0 w w' := by
  have H : (if (Int.tmod a0 4) = 0 then ((turn_Black.f a0).bind fun t241 => (some (wrap64 (1 - t241)))) else ((turn_Black.f a0).bind fun t242 => (some t242))) = some r := h
  clear h
  by_cases c2 : (Int.tmod a0 4) = 0
  · rw [if_pos c2] at H
    have c2b0 : ((Int.tmod a0 4) == 0) = true := beq_iff_eq.mpr c2
    have c2b1 : ((Int.tmod a0 4) != 0) = false := bne_eq_false_iff_eq.mpr c2
    clear c2
    replace H := Option.bind_eq_some_iff.mp H
    obtain ⟨t241, A30, H⟩ := H
    replace H : (some (wrap64 (1 - t241))) = some r := H
    have A3 := Aside0.mk A30
    clear A30
    obtain rfl := Option.some.inj H
    go_enter Try.func101, Try.ntmps101
    go_wp2_with (first | ((with_reducible refine gate_callee (f := 107) rfl ?_); refine goesL_ (some 7) rfl rfl Try.func107 (by kernel_rfl) rfl #[.int .u64 a0] rfl (by (try simp only [List.map_toArray, List.map_cons, List.map_nil]); first | done | rfl | (simp only [List.length_drop, List.length_take]; rfl)) ?_; (with_reducible refine (turn_Black.calls a0 t241 _ A3.out).mono ?_); rintro e w' ⟨rfl, ⟨nd, rfl⟩⟩; refine ⟨_, rfl, ?_⟩))
    go_ret
    exact ⟨by first | rfl | (simp; done) | (simp [*]; done), by repeat (first | exact Drawn0.refl _ | apply Drawn0.step)⟩
  · rw [if_neg c2] at H
    have c2b0 : ((Int.tmod a0 4) == 0) = false := beq_eq_false_iff_ne.mpr c2
    have c2b1 : ((Int.tmod a0 4) != 0) = true := bne_iff_ne.mpr c2
    replace H := Option.bind_eq_some_iff.mp H
    obtain ⟨t242, A40, H⟩ := H
    replace H : (some t242) = some r := H
    have A4 := Aside0.mk A40
    clear A40
    obtain rfl := Option.some.inj H
    go_enter Try.func101, Try.ntmps101
    go_wp2_with (first | ((with_reducible refine gate_callee (f := 107) rfl ?_); refine goesL_ (some 10) rfl rfl Try.func107 (by kernel_rfl) rfl #[.int .u64 a0] rfl (by (try simp only [List.map_toArray, List.map_cons, List.map_nil]); first | done | rfl | (simp only [List.length_drop, List.length_take]; rfl)) ?_; (with_reducible refine (turn_Black.calls a0 t242 _ A4.out).mono ?_); rintro e w' ⟨rfl, ⟨nd, rfl⟩⟩; refine ⟨_, rfl, ?_⟩))
    go_ret
    exact ⟨by first | rfl | (simp; done) | (simp [*]; done), by repeat (first | exact Drawn0.refl _ | apply Drawn0.step)⟩
def withyref04_Pack.f (a0_0 : Int) (a0_1 : Int) (a0_2 : Bool) (a0_3 : Int) (a0_4 : Int) (a0_5 : Int) : Option (Int) := if a0_2 = true then (some (IntKind.u64.wrap ((IntKind.u64.wrap ((IntKind.u64.wrap ((IntKind.u64.wrap ((IntKind.u64.wrap ((IntKind.u64.wrap (a0_0)) + (IntKind.u64.wrap (8 * (IntKind.u64.wrap (a0_1)))))) + (IntKind.u64.wrap (32 * (IntKind.u64.wrap (a0_3)))))) + (IntKind.u64.wrap (65536 * (IntKind.u64.wrap (a0_4)))))) + (IntKind.u64.wrap (281474976710656 * (IntKind.u64.wrap (a0_5)))))) + 16))) else (some (IntKind.u64.wrap ((IntKind.u64.wrap ((IntKind.u64.wrap ((IntKind.u64.wrap ((IntKind.u64.wrap (a0_0)) + (IntKind.u64.wrap (8 * (IntKind.u64.wrap (a0_1)))))) + (IntKind.u64.wrap (32 * (IntKind.u64.wrap (a0_3)))))) + (IntKind.u64.wrap (65536 * (IntKind.u64.wrap (a0_4)))))) + (IntKind.u64.wrap (281474976710656 * (IntKind.u64.wrap (a0_5)))))))
set_option maxHeartbeats 8000000 in
set_option maxRecDepth 100000 in
theorem withyref04_Pack.calls (a0_0 : Int) (a0_1 : Int) (a0_2 : Bool) (a0_3 : Int) (a0_4 : Int) (a0_5 : Int) (r : Int) (w : World) (h : withyref04_Pack.f a0_0 a0_1 a0_2 a0_3 a0_4 a0_5 = some r) :
    Calls Try.prog 58 #[.agg #[.int .i64 a0_0, .int .i64 a0_1, .bool a0_2, .int .i64 a0_3, .int .i64 a0_4, .int .i64 a0_5]] w fun e w' => e = .returned (.int .u64 r) ∧ Below w.heap.size w w' := by
  have hu85 := Try.underlying85
  have HB := Aside0.mk (Below.refl w.heap.size w)
  have H : (if a0_2 = true then (some (IntKind.u64.wrap ((IntKind.u64.wrap ((IntKind.u64.wrap ((IntKind.u64.wrap ((IntKind.u64.wrap ((IntKind.u64.wrap (a0_0)) + (IntKind.u64.wrap (8 * (IntKind.u64.wrap (a0_1)))))) + (IntKind.u64.wrap (32 * (IntKind.u64.wrap (a0_3)))))) + (IntKind.u64.wrap (65536 * (IntKind.u64.wrap (a0_4)))))) + (IntKind.u64.wrap (281474976710656 * (IntKind.u64.wrap (a0_5)))))) + 16))) else (some (IntKind.u64.wrap ((IntKind.u64.wrap ((IntKind.u64.wrap ((IntKind.u64.wrap ((IntKind.u64.wrap (a0_0)) + (IntKind.u64.wrap (8 * (IntKind.u64.wrap (a0_1)))))) + (IntKind.u64.wrap (32 * (IntKind.u64.wrap (a0_3)))))) + (IntKind.u64.wrap (65536 * (IntKind.u64.wrap (a0_4)))))) + (IntKind.u64.wrap (281474976710656 * (IntKind.u64.wrap (a0_5)))))))) = some r := h
  clear h
  by_cases c2 : a0_2 = true
  · subst c2
    have H1 : (some (IntKind.u64.wrap ((IntKind.u64.wrap ((IntKind.u64.wrap ((IntKind.u64.wrap ((IntKind.u64.wrap ((IntKind.u64.wrap (a0_0)) + (IntKind.u64.wrap (8 * (IntKind.u64.wrap (a0_1)))))) + (IntKind.u64.wrap (32 * (IntKind.u64.wrap (a0_3)))))) + (IntKind.u64.wrap (65536 * (IntKind.u64.wrap (a0_4)))))) + (IntKind.u64.wrap (281474976710656 * (IntKind.u64.wrap (a0_5)))))) + 16))) = some r := by rw [if_pos rfl] at H; exact H
    clear H
    have H := H1
    clear H1
    obtain rfl := Option.some.inj H
    go_enter Try.func58, Try.ntmps58
    go_wp2_with (first | ((with_reducible refine gate_dst (N := 1) rfl ?_); refine box_event ?hg (N := 1) ?hd (cs := #[.int .i64 a0_0, .int .i64 a0_1, .bool true, .int .i64 a0_3, .int .i64 a0_4, .int .i64 a0_5]) (t := 85) ?hr ?_; (case hd => rfl); (case hg => rfl); (case hr => first | (go_simp; done) | (go_simp; rfl)); intro gb244 hg w3 hbox hb; have n0_ := Aside0.mk (below_step (by repeat (first | (with_reducible first | exact HB.out | apply below_alloc | apply pw_below_drewN | apply below_drew1) | exact HB.out)) hb); have n1_ := Aside0.mk (hbox); have n2_ := Aside0.mk ((by rw [hg]; exact (below_size (by repeat (first | (with_reducible first | exact HB.out | apply below_alloc | apply pw_below_drewN | apply below_drew1) | exact HB.out))) : w.heap.size ≤ gb244)); have n3_ := Aside0.mk ((by rw [hg]; exact (below_size (by repeat (first | (with_reducible first | exact HB.out | apply below_alloc | apply pw_below_drewN | apply below_drew1) | exact HB.out))) : w.heap.size ≤ gb244)); clear HB; have HB := n0_; have BK244 := n1_; have GW244 := n2_; have GE244 := n3_; clear n0_ n1_ n2_ n3_; clear hb hbox hg; have hcz4_0 : w3.cell? ⟨gb244, 0, none⟩ = some (.int .i64 a0_0) := (blk_cell BK244.out 0).trans rfl; have hcz4_1 : w3.cell? ⟨gb244, 1, none⟩ = some (.int .i64 a0_1) := (blk_cell BK244.out 1).trans rfl; have hcz4_2 : w3.cell? ⟨gb244, 2, none⟩ = some (.bool true) := (blk_cell BK244.out 2).trans rfl; have hcz4_3 : w3.cell? ⟨gb244, 3, none⟩ = some (.int .i64 a0_3) := (blk_cell BK244.out 3).trans rfl; have hcz4_4 : w3.cell? ⟨gb244, 4, none⟩ = some (.int .i64 a0_4) := (blk_cell BK244.out 4).trans rfl; have hcz4_5 : w3.cell? ⟨gb244, 5, none⟩ = some (.int .i64 a0_5) := (blk_cell BK244.out 5).trans rfl; have hfz4_0 := blk_frozen BK244.out 0; have hfz4_1 := blk_frozen BK244.out 1; have hfz4_2 := blk_frozen BK244.out 2; have hfz4_3 := blk_frozen BK244.out 3; have hfz4_4 := blk_frozen BK244.out 4; have hfz4_5 := blk_frozen BK244.out 5))
    go_ret
    exact ⟨by first | rfl | (simp [errW_none, errW_some] <;> rfl) | (simp [*, errW_none, errW_some] <;> rfl), by repeat (first | (with_reducible first | exact HB.out | apply below_alloc | apply pw_below_drewN | apply below_drew1 | refine below_set ?_ GE244.out) | exact HB.out)⟩
  · replace c2 := Bool.eq_false_iff.mpr c2
    subst c2
    have H1 : (some (IntKind.u64.wrap ((IntKind.u64.wrap ((IntKind.u64.wrap ((IntKind.u64.wrap ((IntKind.u64.wrap (a0_0)) + (IntKind.u64.wrap (8 * (IntKind.u64.wrap (a0_1)))))) + (IntKind.u64.wrap (32 * (IntKind.u64.wrap (a0_3)))))) + (IntKind.u64.wrap (65536 * (IntKind.u64.wrap (a0_4)))))) + (IntKind.u64.wrap (281474976710656 * (IntKind.u64.wrap (a0_5))))))) = some r := by rw [if_neg (show ¬ (false = true) by decide)] at H; exact H
    clear H
    have H := H1
    clear H1
    obtain rfl := Option.some.inj H
    go_enter Try.func58, Try.ntmps58
    go_wp2_with (first | ((with_reducible refine gate_dst (N := 1) rfl ?_); refine box_event ?hg (N := 1) ?hd (cs := #[.int .i64 a0_0, .int .i64 a0_1, .bool false, .int .i64 a0_3, .int .i64 a0_4, .int .i64 a0_5]) (t := 85) ?hr ?_; (case hd => rfl); (case hg => rfl); (case hr => first | (go_simp; done) | (go_simp; rfl)); intro gb244 hg w5 hbox hb; have n0_ := Aside0.mk (below_step (by repeat (first | (with_reducible first | exact HB.out | apply below_alloc | apply pw_below_drewN | apply below_drew1) | exact HB.out)) hb); have n1_ := Aside0.mk (hbox); have n2_ := Aside0.mk ((by rw [hg]; exact (below_size (by repeat (first | (with_reducible first | exact HB.out | apply below_alloc | apply pw_below_drewN | apply below_drew1) | exact HB.out))) : w.heap.size ≤ gb244)); have n3_ := Aside0.mk ((by rw [hg]; exact (below_size (by repeat (first | (with_reducible first | exact HB.out | apply below_alloc | apply pw_below_drewN | apply below_drew1) | exact HB.out))) : w.heap.size ≤ gb244)); clear HB; have HB := n0_; have BK244 := n1_; have GW244 := n2_; have GE244 := n3_; clear n0_ n1_ n2_ n3_; clear hb hbox hg; have hcz6_0 : w5.cell? ⟨gb244, 0, none⟩ = some (.int .i64 a0_0) := (blk_cell BK244.out 0).trans rfl; have hcz6_1 : w5.cell? ⟨gb244, 1, none⟩ = some (.int .i64 a0_1) := (blk_cell BK244.out 1).trans rfl; have hcz6_2 : w5.cell? ⟨gb244, 2, none⟩ = some (.bool false) := (blk_cell BK244.out 2).trans rfl; have hcz6_3 : w5.cell? ⟨gb244, 3, none⟩ = some (.int .i64 a0_3) := (blk_cell BK244.out 3).trans rfl; have hcz6_4 : w5.cell? ⟨gb244, 4, none⟩ = some (.int .i64 a0_4) := (blk_cell BK244.out 4).trans rfl; have hcz6_5 : w5.cell? ⟨gb244, 5, none⟩ = some (.int .i64 a0_5) := (blk_cell BK244.out 5).trans rfl; have hfz6_0 := blk_frozen BK244.out 0; have hfz6_1 := blk_frozen BK244.out 1; have hfz6_2 := blk_frozen BK244.out 2; have hfz6_3 := blk_frozen BK244.out 3; have hfz6_4 := blk_frozen BK244.out 4; have hfz6_5 := blk_frozen BK244.out 5))
    go_ret
    exact ⟨by first | rfl | (simp [errW_none, errW_some] <;> rfl) | (simp [*, errW_none, errW_some] <;> rfl), by repeat (first | (with_reducible first | exact HB.out | apply below_alloc | apply pw_below_drewN | apply below_drew1 | refine below_set ?_ GE244.out) | exact HB.out)⟩
end Go.Proofs.Ytijfkpoofpcacaa.PArenaPlays
end
namespace Go.Proofs.Ytijfkpoofpcacaa.PwArenaPlays
end Go.Proofs.Ytijfkpoofpcacaa.PwArenaPlays
