/-
  Contracts of layer 2 (mem): a memory as two blocks, what each method answers and leaves; conditions: as many touches as fit a number.
-/
import Derived.Test.YtijfkpoofpcacaaRows
import Derived.Test.YtijfkpoofpcacaaCore
import Derived.Test.YtijfkpoofpcacaaBlk
import Derived.WalkKit
import Derived.WalkSpells
import Derived.WalkLawsBesides
import Derived.Laws.MakeOwn
import Derived.KernelRfl
import Derived.Lib.Hide
import Derived.Outline
set_option linter.unusedVariables false
namespace Go.Proofs.Ytijfkpoofpcacaa.MemC
open Go.RowKit Go.Proofs.Ytijfkpoofpcacaa.Blk Go.Proofs.Ytijfkpoofpcacaa.Core
/-- A memory: how many words, which, how many touches, the last one. -/
structure Ms where
  n : Nat
  f : Nat → Int
  t : Int
  k : Int
  a : Int
  was : Int
  now : Int
/-- All words are numbers of 64 bits. -/
def U (f : Nat → Int) : Prop := ∀ i, 0 ≤ f i ∧ f i < 18446744073709551616
structure Ok (s : Ms) : Prop where
  f : U s.f
  t0 : 0 ≤ s.t
  t1 : s.t < 1152921504606846976
  n : s.n ≤ 65536
/-- The memory at block m, its words' block b. -/
structure MemB (w : World) (m b : Nat) (s : Ms) : Prop where
  ne : 0 < s.n → m ≠ b
  lb : b < w.heap.size
  blk : ∃ A c, Blk w m 124 #[.slice A s.n c, .int .i64 s.t, .int .i64 s.k, .int .i64 s.a, .int .u64 s.was, .int .u64 s.now] ∧ s.n ≤ c ∧ (0 < s.n → A = some ⟨b, 0, none⟩ ∧ ∃ cs, Blk w b 33 cs ∧ ∀ i, i < s.n → cs[i]? = some (.int .u64 (s.f i)))
/-- The two blocks. -/
def two (m b : Nat) : Nat → Prop := fun k => k = m ∨ k = b
theorem MemB.fr {S : Nat → Prop} {w w' : World} {m b : Nat} {s : Ms} (h : MemB w m b s) (hf : Fr S w w') (hm : ¬ S m) (hb : ¬ S b) : MemB w' m b s := by
  obtain ⟨A, c, h1, h2, h3⟩ := h.blk
  refine ⟨h.ne, Nat.lt_of_lt_of_le h.lb hf.size, A, c, h1.fr hf hm, h2, fun hn => ?_⟩
  obtain ⟨e, cs, h4, h5⟩ := h3 hn
  exact ⟨e, cs, h4.fr hf hb, h5⟩
theorem MemB.lm {w : World} {m b : Nat} {s : Ms} (h : MemB w m b s) : m < w.heap.size := by
  obtain ⟨A, c, h1, h2, h3⟩ := h.blk
  exact h1.lt
theorem MemB.alloc {w : World} {m b : Nat} {s : Ms} (h : MemB w m b s) (o : Obj) : MemB (w.alloc o) m b s := h.fr (S := fun _ => False) (Fr.alloc _ w o) id id
theorem MemB.below {w w' : World} {m b : Nat} {s : Ms} {n : Nat} (h : MemB w m b s) (hb : Below n w w') (h1 : m < n) (h2 : b < n) : MemB w' m b s := h.fr (S := fun k => ¬ k < n) (Fr.of_below hb (fun k _ hs => Classical.byContradiction hs)) (fun c => c h1) (fun c => c h2)
theorem MemB.drewN {w : World} {m b : Nat} {s : Ms} (h : MemB w m b s) (n : Nat) : MemB (w.drewN n) m b s := h.fr (S := fun _ => False) (Fr.drewN _ w n) id id
theorem MemB.drew {w : World} {m b : Nat} {s : Ms} (h : MemB w m b s) : MemB w.drew m b s := h.fr (S := fun _ => False) (Fr.drew _ w) id id
/-- A touch. -/
def Ms.touch (s : Ms) (kind at_ now : Int) : Ms := ⟨s.n, upd s.f at_.toNat now, s.t + 1, kind, at_, s.f at_.toNat, now⟩
theorem size_c (w : World) (m b : Nat) (s : Ms) (h : MemB w m b s) : Calls Try.prog 97 #[.pointer (some ⟨m, 0, none⟩)] w fun e w' => e = .returned (.int .i64 s.n) ∧ w = w' := by
  obtain ⟨A, c, h1, h2, h3⟩ := h.blk
  have x0 := h1.cell (i := 0) rfl
  go_enter Try.func97, Try.ntmps97
  go_wp2
  go_ret
  exact ⟨rfl, rfl⟩
theorem size_nil (w : World) : Calls Try.prog 97 #[.pointer none] w fun e w' => e = .returned (.int .i64 0) ∧ w = w' := by
  go_enter Try.func97, Try.ntmps97
  go_wp2
  go_ret
  exact ⟨rfl, rfl⟩
theorem there_c (w : World) (m b : Nat) (s : Ms) (a : Int) (h : MemB w m b s) : Calls Try.prog 79 #[.pointer (some ⟨m, 0, none⟩), .int .i64 a] w fun e w' => e = .returned (.bool (decide (0 ≤ a) && decide (a < s.n))) ∧ w = w' := by
  by_cases c : 0 ≤ a
  · rw [decide_eq_true c, Bool.true_and]
    go_enter Try.func79, Try.ntmps79
    go_wp2_with (go_at_call 97; refine (size_c _ m b s h).mono ?_; rintro e w' ⟨rfl, rfl⟩)
    go_ret
    exact ⟨rfl, rfl⟩
  · rw [decide_eq_false c, Bool.false_and]
    go_enter Try.func79, Try.ntmps79
    go_wp2
    go_ret
    exact ⟨rfl, rfl⟩
theorem touch_world (w : World) (m b : Nat) (s : Ms) (kind a now : Int) (c : Nat) (cs : Array Value)
    (h2 : Blk w m 124 #[.slice (some ⟨b, 0, none⟩) s.n c, .int .i64 s.t, .int .i64 s.k, .int .i64 s.a, .int .u64 s.was, .int .u64 s.now]) (h3 : s.n ≤ c)
    (h5 : Blk w b 33 cs) (h6 : ∀ i, i < s.n → cs[i]? = some (.int .u64 (s.f i))) (ne : m ≠ b) (h0 : 0 ≤ a) (h1 : a < s.n) :
    MemB ((((((w.setCell ⟨m, 1, none⟩ (.int .i64 (s.t + 1))).setCell ⟨m, 2, none⟩ (.int .i64 kind)).setCell ⟨m, 3, none⟩ (.int .i64 a)).setCell ⟨m, 4, none⟩ (.int .u64 (s.f a.toNat))).setCell ⟨m, 5, none⟩ (.int .u64 now)).setCell ⟨b, a.toNat, none⟩ (.int .u64 now)) m b (s.touch kind a now) ∧
    Fr (two m b) w ((((((w.setCell ⟨m, 1, none⟩ (.int .i64 (s.t + 1))).setCell ⟨m, 2, none⟩ (.int .i64 kind)).setCell ⟨m, 3, none⟩ (.int .i64 a)).setCell ⟨m, 4, none⟩ (.int .u64 (s.f a.toNat))).setCell ⟨m, 5, none⟩ (.int .u64 now)).setCell ⟨b, a.toNat, none⟩ (.int .u64 now)) := by
  have hm : two m b m := Or.inl rfl
  have hb : two m b b := Or.inr rfl
  refine ⟨⟨fun _ => ne, by simpa [World.setCell] using h5.lt, some ⟨b, 0, none⟩, c, ?_, h3, fun _ => ⟨rfl, cs.setIfInBounds a.toNat (.int .u64 now), ?_, fun i hi => ?_⟩⟩, ?_⟩
  · exact (((((h2.set 1 _).set 2 _).set 3 _).set 4 _).set 5 _).other ⟨b, a.toNat, none⟩ ne _
  · exact (((((h5.other ⟨m, 1, none⟩ ne.symm _).other ⟨m, 2, none⟩ ne.symm _).other ⟨m, 3, none⟩ ne.symm _).other ⟨m, 4, none⟩ ne.symm _).other ⟨m, 5, none⟩ ne.symm _).set _ _
  · rw [Array.getElem?_setIfInBounds]
    have hl : a.toNat < cs.size := by
      have := h6 a.toNat (by omega)
      rcases Nat.lt_or_ge a.toNat cs.size with h | h
      · exact h
      · rw [Array.getElem?_eq_none h] at this; cases this
    show _ = some (Value.int .u64 (upd s.f a.toNat now i))
    unfold upd
    by_cases c : a.toNat = i
    · rw [if_pos c, if_pos hl, if_pos c.symm]
    · rw [if_neg c, if_neg (fun h => c h.symm)]; exact h6 i hi
  · exact (((((Fr.set _ w (p := ⟨m, 1, none⟩) hm _).trans (Fr.set _ _ (p := ⟨m, 2, none⟩) hm _)).trans (Fr.set _ _ (p := ⟨m, 3, none⟩) hm _)).trans (Fr.set _ _ (p := ⟨m, 4, none⟩) hm _)).trans (Fr.set _ _ (p := ⟨m, 5, none⟩) hm _)).trans (Fr.set _ _ (p := ⟨b, a.toNat, none⟩) hb _)
theorem touch_c (w : World) (m b : Nat) (s : Ms) (kind a now : Int) (h : MemB w m b s) (ok : Ok s) (h0 : 0 ≤ a) (h1 : a < s.n) :
    Calls Try.prog 80 #[.pointer (some ⟨m, 0, none⟩), .int .i64 kind, .int .i64 a, .int .u64 now] w fun e w' => e = .returned (.tuple #[]) ∧ MemB w' m b (s.touch kind a now) ∧ Fr (two m b) w w' := by
  obtain ⟨A, c, h2, h3, h4⟩ := h.blk
  obtain ⟨rfl, cs, h5, h6⟩ := h4 (by omega)
  have x0 := h2.cell (i := 0) rfl
  have x1 := h2.cell (i := 1) rfl
  have x2 := h2.cell (i := 2) rfl
  have x3 := h2.cell (i := 3) rfl
  have x4 := h2.cell (i := 4) rfl
  have x5 := h2.cell (i := 5) rfl
  have y := h5.cell (h6 a.toNat (by omega))
  have z0 := h2.frozen 0
  have z1 := h2.frozen 1
  have z2 := h2.frozen 2
  have z3 := h2.frozen 3
  have z4 := h2.frozen 4
  have z5 := h2.frozen 5
  have z6 := h5.frozen a.toNat
  have t0 := ok.t0
  have t1 := ok.t1
  have ne := h.ne (by omega)
  go_enter Try.func80, Try.ntmps80
  go_wp2
  go_end0
  exact ⟨rfl, touch_world w m b s kind a now c cs h2 h3 h5 h6 ne h0 h1⟩
theorem upd_at (f : Nat → Int) (i : Nat) (x : Int) : upd f i x i = x := if_pos rfl
theorem MemB.words {w : World} {m b : Nat} {s : Ms} (h : MemB w m b s) {a : Int} (h0 : 0 ≤ a) (h1 : a < s.n) : ∃ c, w.cell? ⟨m, 0, none⟩ = some (.slice (some ⟨b, 0, none⟩) s.n c) ∧ s.n ≤ c ∧ w.cell? ⟨b, a.toNat, none⟩ = some (.int .u64 (s.f a.toNat)) := by
  obtain ⟨A, c, h2, h3, h4⟩ := h.blk
  obtain ⟨rfl, cs, h5, h6⟩ := h4 (by omega)
  exact ⟨c, h2.cell (i := 0) rfl, h3, h5.cell (h6 a.toNat (by omega))⟩
/-- Is there such a word? -/
def Ms.inn (s : Ms) (a : Int) : Bool := decide (0 ≤ a) && decide (a < s.n)
theorem inn_iff {s : Ms} {a : Int} : s.inn a = true ↔ 0 ≤ a ∧ a < s.n := by simp [Ms.inn]
def Ms.ldV (s : Ms) (a : Int) : Int := if s.inn a = true then s.f a.toNat else 0
def Ms.ldS (s : Ms) (a : Int) : Ms := if s.inn a = true then s.touch 1 a (s.f a.toNat) else s
def Ms.stS (s : Ms) (a v : Int) : Ms := if s.inn a = true then s.touch 2 a v else s
def Ms.swV (s : Ms) (a old : Int) : Bool := s.inn a && decide (s.f a.toNat = old)
def Ms.swS (s : Ms) (a old now : Int) : Ms := if s.inn a = true then s.touch 3 a (if s.f a.toNat = old then now else s.f a.toNat) else s
def Ms.adV (s : Ms) (a by_ : Int) : Int := if s.inn a = true then (s.f a.toNat + by_) % 18446744073709551616 else 0
def Ms.adS (s : Ms) (a by_ : Int) : Ms := if s.inn a = true then s.touch 4 a ((s.f a.toNat + by_) % 18446744073709551616) else s
section
variable (w : World) (m b : Nat) (s : Ms) (a : Int) (h : MemB w m b s) (ok : Ok s)
include h ok
theorem load_c : Calls Try.prog 35 #[.pointer (some ⟨m, 0, none⟩), .int .i64 a] w fun e w' => e = .returned (.int .u64 (s.ldV a)) ∧ MemB w' m b (s.ldS a) ∧ Fr (two m b) w w' := by
  unfold Ms.ldV Ms.ldS
  cases c : s.inn a with
  | false =>
    rw [if_neg (by decide), if_neg (by decide)]
    replace c := Lib.hid c
    go_enter Try.func35, Try.ntmps35
    go_wp2_with (go_at_call 79; refine (there_c _ m b s a h).mono ?_; rintro e w' ⟨rfl, rfl⟩; rw [show (decide (0 ≤ a) && decide (a < s.n)) = false from c.out])
    go_ret
    exact ⟨rfl, h, Fr.refl _ _⟩
  | true =>
    rw [if_pos rfl, if_pos rfl]
    have c' := inn_iff.1 c
    obtain ⟨h0, h1⟩ := c'
    obtain ⟨cp, x0, x1, y⟩ := h.words h0 h1
    replace c := Lib.hid c
    go_enter Try.func35, Try.ntmps35
    go_wp2_with (first | (go_at_call 79; refine (there_c _ m b s a h).mono ?_; rintro e w' ⟨rfl, rfl⟩; rw [show (decide (0 ≤ a) && decide (a < s.n)) = true from c.out]) | (go_at_call 80; refine (touch_c _ m b s _ _ _ h ok h0 h1).mono ?_; rintro e w' ⟨rfl, hM, hF⟩; obtain ⟨cp', z0, z1, z2⟩ := hM.words (a := a) h0 h1; replace hM := Lib.hid hM; replace hF := Lib.hid hF; replace z2 := z2.trans (by rw [show (s.touch 1 a (s.f a.toNat)).f a.toNat = s.f a.toNat from upd_at _ _ _]); replace z0 : w'.cell? ⟨m, 0, none⟩ = some (.slice (some ⟨b, 0, none⟩) s.n cp') := z0))
    go_ret
    exact ⟨rfl, hM.out, hF.out⟩
theorem store_c (v : Int) : Calls Try.prog 57 #[.pointer (some ⟨m, 0, none⟩), .int .i64 a, .int .u64 v] w fun e w' => e = .returned (.bool (s.inn a)) ∧ MemB w' m b (s.stS a v) ∧ Fr (two m b) w w' := by
  unfold Ms.stS
  cases c : s.inn a with
  | false =>
    rw [if_neg (by decide)]
    replace c := Lib.hid c
    go_enter Try.func57, Try.ntmps57
    go_wp2_with (go_at_call 79; refine (there_c _ m b s a h).mono ?_; rintro e w' ⟨rfl, rfl⟩; rw [show (decide (0 ≤ a) && decide (a < s.n)) = false from c.out])
    go_ret
    exact ⟨rfl, h, Fr.refl _ _⟩
  | true =>
    rw [if_pos rfl]
    have c' := inn_iff.1 c
    obtain ⟨h0, h1⟩ := c'
    replace c := Lib.hid c
    go_enter Try.func57, Try.ntmps57
    go_wp2_with (first | (go_at_call 79; refine (there_c _ m b s a h).mono ?_; rintro e w' ⟨rfl, rfl⟩; rw [show (decide (0 ≤ a) && decide (a < s.n)) = true from c.out]) | (go_at_call 80; refine (touch_c _ m b s _ _ _ h ok h0 h1).mono ?_; rintro e w' ⟨rfl, hM, hF⟩; replace hM := Lib.hid hM; replace hF := Lib.hid hF))
    go_ret
    exact ⟨rfl, hM.out, hF.out⟩
theorem swap_c (old now : Int) : Calls Try.prog 82 #[.pointer (some ⟨m, 0, none⟩), .int .i64 a, .int .u64 old, .int .u64 now] w fun e w' => e = .returned (.bool (s.swV a old)) ∧ MemB w' m b (s.swS a old now) ∧ Fr (two m b) w w' := by
  unfold Ms.swS Ms.swV
  cases c : s.inn a with
  | false =>
    rw [if_neg (by decide), Bool.false_and]
    replace c := Lib.hid c
    go_enter Try.func82, Try.ntmps82
    go_wp2_with (go_at_call 79; refine (there_c _ m b s a h).mono ?_; rintro e w' ⟨rfl, rfl⟩; rw [show (decide (0 ≤ a) && decide (a < s.n)) = false from c.out])
    go_ret
    exact ⟨rfl, h, Fr.refl _ _⟩
  | true =>
    rw [if_pos rfl, Bool.true_and]
    have c' := inn_iff.1 c
    obtain ⟨h0, h1⟩ := c'
    obtain ⟨cp, x0, x1, y⟩ := h.words h0 h1
    replace c := Lib.hid c
    by_cases hc : s.f a.toNat = old
    · rw [if_pos hc, decide_eq_true hc]
      have e1 : (s.f a.toNat == old) = true := beq_iff_eq.2 hc
      replace hc := Lib.hid hc
      go_enter Try.func82, Try.ntmps82
      go_wp2_with (first | (go_at_call 79; refine (there_c _ m b s a h).mono ?_; rintro e w' ⟨rfl, rfl⟩; rw [show (decide (0 ≤ a) && decide (a < s.n)) = true from c.out]) | (go_at_call 80; refine (touch_c _ m b s _ _ _ h ok h0 h1).mono ?_; rintro e w' ⟨rfl, hM, hF⟩; replace hM := Lib.hid hM; replace hF := Lib.hid hF))
      go_ret
      exact ⟨rfl, hM.out, hF.out⟩
    · rw [if_neg hc, decide_eq_false hc]
      have e1 : (s.f a.toNat == old) = false := beq_eq_false_iff_ne.2 hc
      go_enter Try.func82, Try.ntmps82
      go_wp2_with (first | (go_at_call 79; refine (there_c _ m b s a h).mono ?_; rintro e w' ⟨rfl, rfl⟩; rw [show (decide (0 ≤ a) && decide (a < s.n)) = true from c.out]) | (go_at_call 80; refine (touch_c _ m b s _ _ _ h ok h0 h1).mono ?_; rintro e w' ⟨rfl, hM, hF⟩; replace hM := Lib.hid hM; replace hF := Lib.hid hF))
      go_ret
      exact ⟨rfl, hM.out, hF.out⟩
theorem add_c (v : Int) (v0 : 0 ≤ v) (v1 : v < 18446744073709551616) : Calls Try.prog 34 #[.pointer (some ⟨m, 0, none⟩), .int .i64 a, .int .u64 v] w fun e w' => e = .returned (.int .u64 (s.adV a v)) ∧ MemB w' m b (s.adS a v) ∧ Fr (two m b) w w' := by
  unfold Ms.adV Ms.adS
  cases c : s.inn a with
  | false =>
    rw [if_neg (by decide), if_neg (by decide)]
    replace c := Lib.hid c
    go_enter Try.func34, Try.ntmps34
    go_wp2_with (go_at_call 79; refine (there_c _ m b s a h).mono ?_; rintro e w' ⟨rfl, rfl⟩; rw [show (decide (0 ≤ a) && decide (a < s.n)) = false from c.out])
    go_ret
    exact ⟨rfl, h, Fr.refl _ _⟩
  | true =>
    rw [if_pos rfl, if_pos rfl]
    have c' := inn_iff.1 c
    obtain ⟨h0, h1⟩ := c'
    obtain ⟨cp, x0, x1, y⟩ := h.words h0 h1
    replace c := Lib.hid c
    have ew : IntKind.u64.wrap (s.f a.toNat + v) = (s.f a.toNat + v) % 18446744073709551616 := wrap_u64 _
    go_enter Try.func34, Try.ntmps34
    go_wp2_with (first | (go_at_call 79; refine (there_c _ m b s a h).mono ?_; rintro e w' ⟨rfl, rfl⟩; rw [show (decide (0 ≤ a) && decide (a < s.n)) = true from c.out]) | ((go_at_call 80; refine (touch_c _ m b s _ _ _ h ok h0 h1).mono ?_; rintro e w' ⟨rfl, hM, hF⟩; obtain ⟨cp', z0, z1, z2⟩ := hM.words (a := a) h0 h1; replace hM := Lib.hid hM; replace hF := Lib.hid hF; replace z2 := z2.trans (by rw [show (s.touch 4 a ((s.f a.toNat + v) % 18446744073709551616)).f a.toNat = (s.f a.toNat + v) % 18446744073709551616 from upd_at _ _ _]); replace z0 : w'.cell? ⟨m, 0, none⟩ = some (.slice (some ⟨b, 0, none⟩) s.n cp') := z0)))
    go_ret
    exact ⟨rfl, hM.out, hF.out⟩
end
theorem touches_c (w : World) (m b : Nat) (s : Ms) (h : MemB w m b s) : Calls Try.prog 26 #[.pointer (some ⟨m, 0, none⟩)] w fun e w' => e = .returned (.int .i64 s.t) ∧ w = w' := by
  obtain ⟨A, c, h1, h2, h3⟩ := h.blk
  have x1 := h1.cell (i := 1) rfl
  go_enter Try.func26, Try.ntmps26
  go_wp2
  go_ret
  exact ⟨rfl, rfl⟩
theorem touches_nil (w : World) : Calls Try.prog 26 #[.pointer none] w fun e w' => e = .returned (.int .i64 0) ∧ w = w' := by
  go_enter Try.func26, Try.ntmps26
  go_wp2
  go_ret
  exact ⟨rfl, rfl⟩
def Ms.new (n : Nat) : Ms := ⟨n, fun _ => 0, 0, 0, 0, 0, 0⟩
theorem infoW : (Try.prog.info? 33).map (fun i => (i.zero, i.size, i.bytes)) = some (some (.int .u64 0), 1, 8) := by kernel_rfl
theorem made_row (n : Nat) : madeCells (Value.int .u64 0).cells (n * 1) = rowF .u64 n (fun _ => 0) := by
  refine Array.ext_getElem? fun j => ?_
  rw [Nat.mul_one]
  by_cases hj : j < n
  · rw [rowF_get hj]
    have : j < (madeCells (Value.int .u64 0).cells n).size := by rw [size_madeCells]; exact hj
    rw [Array.getElem?_eq_getElem this]
    simp [madeCells, Value.cells, Nat.mod_one]
  · rw [rowF_none hj, Array.getElem?_eq_none]
    rw [size_madeCells]; omega
theorem make_run (n : Int) (h0 : 0 ≤ n) (h1 : n ≤ 100000) (w : World) : (Instr.makeSlice 29 (.int .i64 n) (.int .i64 n)).run Try.prog w = .ok (.slice (some ⟨w.heap.size, 0, none⟩) n.toNat n.toNat) (w.alloc (.cells (rowF .u64 n.toNat (fun _ => 0)) 33)) := by
  obtain ⟨i, hi, e⟩ := Option.map_eq_some_iff.1 infoW
  simp only [Prod.mk.injEq] at e
  obtain ⟨e0, e1, e2⟩ := e
  have := run_make w 29 33 i (.int .u64 0) Try.underlying29 hi e0 .i64 .i64 n n h0 (Int.le_refl _) (by rw [e2]; omega) (by omega)
  rw [e1, made_row] at this
  exact this
end Go.Proofs.Ytijfkpoofpcacaa.MemC
