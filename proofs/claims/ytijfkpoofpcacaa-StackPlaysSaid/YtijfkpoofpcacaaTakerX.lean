/-
  Layer 7 (stack), the plain side of machines that take and lay beside each other: what each step does to the list, and what stays true of the others; no program in it; condition: a right config, tags below 2^48.
  Layer 7 (stack), the law StackPlays' plain side: takers, what each has, who has which slot; no program in it; condition: a right config, tags below 2^48.
  Layer 7 (stack): what a taker's step in the law StackPlays does to its five cells, its queue, its machines and the memory, a lemma for each way; condition: a right config, as many touches as fit a number.
  Layer 7 (stack): all takers of the law StackPlays as one block of cells, their queues and machines; what a step of one leaves of the others. No program walked; condition: none.
  Layer 7 (stack): what a step of a taker's machine leaves of all takers. No program walked; condition: as in TakerL.
  Layer 7 (stack): a taker's step in the law StackPlays, whatever it is; condition: a right config, tags below 2^48, as many touches as fit a number.
  A slice of slices of booleans that is handed in: its rows, one by one. No program.
  The law StackPlays' walk; condition: the arguments as they are read.
-/
import Derived.Test.YtijfkpoofpcacaaStackQ
import Derived.Test.YtijfkpoofpcacaaStackI
import Derived.Test.YtijfkpoofpcacaaQueueI
import Derived.Deep.DeepCutAuto
import Derived.Deep.DrawnRows
import Derived.Deep.RegionLaw
import Derived.Deep.CutBlock
import Derived.Test.YtijfkpoofpcacaaOpenB
import Derived.Deep.QuietTactic
import Derived.BigQuiet
set_option linter.unusedVariables false
set_option linter.unusedSectionVars false
namespace Go.Proofs.Ytijfkpoofpcacaa.TakerL
open Go.RowKit Go.Proofs.Ytijfkpoofpcacaa.Blk Go.Proofs.Ytijfkpoofpcacaa.Core Go.Proofs.Ytijfkpoofpcacaa.MemC Go.Proofs.Ytijfkpoofpcacaa.MemT Go.Proofs.Ytijfkpoofpcacaa.Memory Go.Proofs.Ytijfkpoofpcacaa.PlanC Go.Proofs.Ytijfkpoofpcacaa.PlanD Go.Proofs.Ytijfkpoofpcacaa.StackC Go.Proofs.Ytijfkpoofpcacaa.StackL Go.Proofs.Ytijfkpoofpcacaa.StackS Go.Proofs.Ytijfkpoofpcacaa.StackF Go.Proofs.Ytijfkpoofpcacaa.StackP Go.Proofs.Ytijfkpoofpcacaa.StackQ
/-- A top that was loaded some time ago: where its tag is the list's, it is the list's top. -/
def Tg (f : Nat → Int) (t tp : Int) : Prop := (0 ≤ tp ∧ tp < 18446744073709551616) ∧ tp / 65536 ≤ t ∧ (tp / 65536 = t → tp = f 3)
def PopI (f : Nat → Int) (t : Int) (L : List Int) (q : Pop) : Prop :=
  q.sl = -1 ∧ q.em = false ∧ (0 ≤ q.tp ∧ q.tp < 18446744073709551616) ∧
    (q.a = 0 ∨ (q.a = 1 ∧ Tg f t q.tp ∧ (q.tp = f 3 → L ≠ [])) ∨ (q.a = 2 ∧ Tg f t q.tp ∧ (q.tp = f 3 → L ≠ [] ∧ q.nx = hd L.tail - 1)))
def PushI (c : Cf) (f : Nat → Int) (t : Int) (L : List Int) (q : Push) : Prop :=
  (0 ≤ q.tp ∧ q.tp < 18446744073709551616) ∧ (q.a = 0 ∨ (q.a = 1 ∧ Tg f t q.tp) ∨ (q.a = 2 ∧ Tg f t q.tp ∧ (q.tp = f 3 → f (c.link q.sl).toNat = hd L)))
theorem popI_new (f : Nat → Int) (t : Int) (L : List Int) : PopI f t L ⟨-1, false, 0, 0, 0⟩ := ⟨rfl, rfl, ⟨by decide, by decide⟩, .inl rfl⟩
theorem pushI_new (c : Cf) (f : Nat → Int) (t : Int) (L : List Int) (x : Int) : PushI c f t L ⟨x, 0, 0⟩ := ⟨⟨Int.le_refl 0, by show (0 : Int) < _; decide⟩, .inl rfl⟩
theorem PopI.ok {f : Nat → Int} {t : Int} {L : List Int} {q : Pop} (h : PopI f t L q) : PopOk q := ⟨h.2.2.1.1, h.2.2.1.2, by rcases h.2.2.2 with a | ⟨a, _⟩ | ⟨a, _⟩ <;> simp [a]⟩
theorem PushI.ok {c : Cf} {f : Nat → Int} {t : Int} {L : List Int} {q : Push} (h : PushI c f t L q) : PushOk q := ⟨h.1.1, h.1.2, by rcases h.2 with a | ⟨a, _⟩ | ⟨a, _⟩ <;> simp [a]⟩
theorem Tg.same {f f' : Nat → Int} {t tp : Int} (h : Tg f t tp) (e : f' 3 = f 3) : Tg f' t tp := ⟨h.1, h.2.1, fun k => by rw [e]; exact h.2.2 k⟩
theorem Tg.next {f f' : Nat → Int} {t tp : Int} (h : Tg f t tp) : Tg f' (t + 1) tp := ⟨h.1, by have := h.2.1; omega, fun k => by have := h.2.1; omega⟩
theorem PopI.same {f f' : Nat → Int} {t : Int} {L : List Int} {q : Pop} (h : PopI f t L q) (e : f' 3 = f 3) : PopI f' t L q := by
  refine ⟨h.1, h.2.1, h.2.2.1, ?_⟩
  rw [e]
  rcases h.2.2.2 with a | ⟨a, b, d⟩ | ⟨a, b, d⟩
  · exact .inl a
  · exact .inr (.inl ⟨a, b.same e, d⟩)
  · exact .inr (.inr ⟨a, b.same e, d⟩)
theorem PushI.same {c : Cf} {f f' : Nat → Int} {t : Int} {L : List Int} {q : Push} (h : PushI c f t L q) (e : f' 3 = f 3) (e2 : f' (c.link q.sl).toNat = f (c.link q.sl).toNat) : PushI c f' t L q := by
  refine ⟨h.1, ?_⟩
  rw [e, e2]
  rcases h.2 with a | ⟨a, b⟩ | ⟨a, b, d⟩
  · exact .inl a
  · exact .inr (.inl ⟨a, b.same e⟩)
  · exact .inr (.inr ⟨a, b.same e, d⟩)
section
variable {c : Cf} (hr : c.right = true) {f f' : Nat → Int} {t : Int} {L L' : List Int}
include hr
theorem top_tag (h : Stk c f t L) : f 3 / 65536 = t ∧ 0 ≤ f 3 := by
  have hS := S_bd hr
  have hb := hd_bd h.lk
  have ht := h.t0
  rw [h.top]; omega
theorem tg_top (h : Stk c f t L) (ht : t < 281474976710656) : Tg f t (f 3) := by
  have hS := S_bd hr
  have hb := hd_bd h.lk
  have h0 := h.t0
  have h1 := top_tag hr h
  have h2 := h.top
  exact ⟨⟨h1.2, by omega⟩, by omega, fun _ => rfl⟩
theorem PopI.next {q : Pop} (h : PopI f t L q) (hs : Stk c f' (t + 1) L') : PopI f' (t + 1) L' q := by
  have h1 := (top_tag hr hs).1
  refine ⟨h.1, h.2.1, h.2.2.1, ?_⟩
  rcases h.2.2.2 with a | ⟨a, b, d⟩ | ⟨a, b, d⟩
  · exact .inl a
  · exact .inr (.inl ⟨a, b.next, fun e => by have := b.2.1; rw [e] at this; omega⟩)
  · exact .inr (.inr ⟨a, b.next, fun e => by have := b.2.1; rw [e] at this; omega⟩)
theorem PushI.next {q : Push} (h : PushI c f t L q) (hs : Stk c f' (t + 1) L') : PushI c f' (t + 1) L' q := by
  have h1 := (top_tag hr hs).1
  refine ⟨h.1, ?_⟩
  rcases h.2 with a | ⟨a, b⟩ | ⟨a, b, d⟩
  · exact .inl a
  · exact .inr (.inl ⟨a, b.next⟩)
  · exact .inr (.inr ⟨a, b.next, fun e => by have := b.2.1; rw [e] at this; omega⟩)
variable {M : Ms} (hn : M.n = c.size) (hu : U M.f)
include hn hu
theorem ld3' : M.ldV 3 = M.f 3 := ld_v (by decide) (by have := size_bd hr; unfold Cf.size at hn; omega)
/-- A popping machine's step. -/
theorem pop_step (h : Stk c M.f t L) (ht : t + 1 < 281474976710656) {q : Pop} (hq : PopI M.f t L q) :
    (popD c q M = false ∧ PopI (popM c q M).f t L (popS c q M) ∧ (popM c q M).f = M.f) ∨
    (popD c q M = true ∧ L = [] ∧ (popS c q M).em = true ∧ (popS c q M).sl = -1 ∧ (popM c q M).f = M.f) ∨
    (popD c q M = true ∧ ∃ x r, L = x :: r ∧ (popS c q M).em = false ∧ (popS c q M).sl = x ∧ (0 ≤ x ∧ x < c.S) ∧ Stk c (popM c q M).f (t + 1) r) := by
  have hS := S_bd hr
  have hb := hd_bd h.lk
  have e3 := ld3' hr hn hu
  have h1 := h.first hr
  have hsz := size_bd hr
  have hn9 : (9 : Int) ≤ M.n := by unfold Cf.size at hn; omega
  obtain ⟨sl, em, a, tp, nx⟩ := q
  obtain ⟨q1, q2, q3, q4⟩ := hq
  obtain rfl : sl = -1 := q1
  obtain rfl : em = false := q2
  rcases q4 with q4 | ⟨q4, q5, q6⟩ | ⟨q4, q5, q6⟩
  · obtain rfl : a = 0 := q4
    have ef : (popM c ⟨-1, false, 0, tp, nx⟩ M).f = M.f := by simp only [popM, if_pos]; exact (ld_f M 3).1
    cases L with
    | nil =>
      have h2 : firstI c.S (M.f 3) < 0 := by rw [h1]; decide
      exact .inr (.inl ⟨by simp [popD, popS, e3, h2], rfl, by simp [popS, e3, h2], by simp [popS, e3, h2], ef⟩)
    | cons x r =>
      have hx := h.lk.1
      have h2 : ¬ firstI c.S (M.f 3) < 0 := by rw [h1]; show ¬ x + 1 - 1 < 0; omega
      have hS' : popS c ⟨-1, false, 0, tp, nx⟩ M = ⟨-1, false, 1, M.f 3, nx⟩ := by simp [popS, e3, h2]
      refine .inl ⟨by unfold popD; rw [hS']; rfl, ?_, ef⟩
      rw [hS', ef]
      exact ⟨rfl, rfl, ⟨(hu 3).1, (hu 3).2⟩, .inr (.inl ⟨rfl, tg_top hr h (by omega), fun _ h => by cases h⟩)⟩
  · obtain rfl : a = 1 := q4
    have ef : (popM c ⟨-1, false, 1, tp, nx⟩ M).f = M.f := by rw [show popM c ⟨-1, false, 1, tp, nx⟩ M = M.ldS (c.link (firstI c.S tp)) by simp [popM]]; exact (ld_f M _).1
    refine .inl ⟨by simp [popD, popS], ?_, ef⟩
    rw [ef]
    refine ⟨by simp [popS], by simp [popS], by simpa [popS] using q3, .inr (.inr ⟨by simp [popS], by simpa [popS] using q5, ?_⟩)⟩
    intro e
    have e' : tp = M.f 3 := by simpa [popS] using e
    have hne := q6 e'
    refine ⟨hne, ?_⟩
    cases L with
    | nil => exact absurd rfl hne
    | cons x r =>
      have hx := h.lk.1
      have hl := link_lt hr hx.1 hx.2
      have hbr := hd_bd h.lk.2.2
      have e4 : M.ldV (c.link x) = hd r := by rw [ld_v (by omega) (by rw [hn]; exact hl.2)]; exact h.lk.2.1
      have e5 : linkedI c.S (hd r) = hd r - 1 := by unfold linkedI; rw [if_neg (by omega)]
      have e6 : firstI c.S tp = x := by rw [e', h1]; show x + 1 - 1 = x; omega
      show (popS c ⟨-1, false, 1, tp, nx⟩ M).nx = hd r - 1
      simp [popS, e6, e4, e5]
  · obtain rfl : a = 2 := q4
    have q5' : Tg M.f t tp := q5
    by_cases e : M.f 3 = tp
    · obtain ⟨hne, hnx⟩ := q6 e.symm
      cases L with
      | nil => exact absurd rfl hne
      | cons x r =>
        have hx := h.lk.1
        have hnx' : nx = hd r - 1 := hnx
        obtain ⟨s1, s2, s3⟩ := sw_yes (M := M) (a := 3) (old := tp) (now := movedV tp nx) (by decide) (by omega) e
        have e6 : firstI c.S tp = x := by rw [← e, h1]; show x + 1 - 1 = x; omega
        refine .inr (.inr ⟨by simp [popD, popS, s1], x, r, rfl, by simp [popS, s1], by simp [popS, s1, e6], hx, ?_⟩)
        have : (popM c ⟨-1, false, 2, tp, nx⟩ M).f = upd M.f 3 (movedV (M.f 3) (hd r - 1)) := by
          rw [show popM c ⟨-1, false, 2, tp, nx⟩ M = M.swS 3 tp (movedV tp nx) by simp [popM], s2, e, hnx']
          rfl
        rw [this]
        exact h.take hr ht
    · obtain ⟨s1, s2, s3⟩ := sw_no (M := M) (a := 3) (old := tp) (now := movedV tp nx) e
      have ef : (popM c ⟨-1, false, 2, tp, nx⟩ M).f = M.f := by
        rw [show popM c ⟨-1, false, 2, tp, nx⟩ M = M.swS 3 tp (movedV tp nx) by simp [popM], s2]
      refine .inl ⟨by simp [popD, popS, s1], ?_, ef⟩
      rw [ef]
      exact ⟨by simp [popS, s1], by simp [popS, s1], by simpa [popS, s1] using q3, .inl (by simp [popS, s1])⟩
/-- A pushing machine's step. -/
theorem push_step (h : Stk c M.f t L) (ht : t + 1 < 281474976710656) {q : Push} (hq : PushI c M.f t L q) (hx : 0 ≤ q.sl ∧ q.sl < c.S) (hm : q.sl ∉ L) :
    (pushS c q M).sl = q.sl ∧
    ((pushD c q M = false ∧ PushI c (pushM c q M).f t L (pushS c q M) ∧ Stk c (pushM c q M).f t L ∧ (pushM c q M).f 3 = M.f 3 ∧ (∀ y, (0 ≤ y ∧ y < c.S) → y ≠ q.sl → (pushM c q M).f (c.link y).toNat = M.f (c.link y).toNat)) ∨
    (pushD c q M = true ∧ Stk c (pushM c q M).f (t + 1) (q.sl :: L))) := by
  have hS := S_bd hr
  have hb := hd_bd h.lk
  have e3 := ld3' hr hn hu
  have h1 := h.first hr
  have hsz := size_bd hr
  have hn9 : (9 : Int) ≤ M.n := by unfold Cf.size at hn; omega
  obtain ⟨sl, a, tp⟩ := q
  have hx' : 0 ≤ sl ∧ sl < c.S := hx
  have hm' : sl ∉ L := hm
  obtain ⟨q3, q4⟩ := hq
  have hl := link_lt hr hx'.1 hx'.2
  rcases q4 with q4 | ⟨q4, q5⟩ | ⟨q4, q5, q6⟩
  · obtain rfl : a = 0 := q4
    have ef : (pushM c ⟨sl, 0, tp⟩ M).f = M.f := by simp only [pushM, if_pos]; exact (ld_f M 3).1
    refine ⟨by simp [pushS], .inl ⟨by simp [pushD, pushS], ?_, by rw [ef]; exact h, by rw [ef], fun y _ _ => by rw [ef]⟩⟩
    rw [ef]
    refine ⟨by simpa [pushS, e3] using hu 3, .inr (.inl ⟨by simp [pushS], ?_⟩)⟩
    have := tg_top hr h (by omega)
    simpa [pushS, e3] using this
  · obtain rfl : a = 1 := q4
    have q5' : Tg M.f t tp := q5
    obtain ⟨s1, s2⟩ := st_f (M := M) (a := c.link sl) (v := firstI c.S tp + 1) (by omega) (by rw [hn]; exact hl.2)
    have ef : (pushM c ⟨sl, 1, tp⟩ M).f = upd M.f (c.link sl).toNat (firstI c.S tp + 1) := by
      rw [show pushM c ⟨sl, 1, tp⟩ M = M.stS (c.link sl) (firstI c.S tp + 1) by simp [pushM], s1]
    have e33 : (pushM c ⟨sl, 1, tp⟩ M).f 3 = M.f 3 := by rw [ef, upd_ne (by omega)]
    refine ⟨by simp [pushS], .inl ⟨by simp [pushD, pushS], ?_, by rw [ef]; exact h.store hr hx' hm' _, e33, fun y hy hne => ?_⟩⟩
    · refine ⟨by simpa [pushS] using q3, .inr (.inr ⟨by simp [pushS], by simpa [pushS] using q5'.same e33, ?_⟩)⟩
      intro e
      have e' : tp = M.f 3 := by rw [e33] at e; simpa [pushS] using e
      show (pushM c ⟨sl, 1, tp⟩ M).f (c.link (pushS c ⟨sl, 1, tp⟩ M).sl).toNat = hd L
      rw [ef, show (pushS c ⟨sl, 1, tp⟩ M).sl = sl by simp [pushS], upd_eq, e', h1]
      omega
    · rw [ef, upd_ne]
      intro e
      have h2 := link_lt hr hy.1 hy.2
      have h3 : y = sl := link_inj hr hy hx' (by omega)
      exact hne h3
  · obtain rfl : a = 2 := q4
    have q5' : Tg M.f t tp := q5
    by_cases e : M.f 3 = tp
    · have hlk : M.f (c.link sl).toNat = hd L := q6 e.symm
      obtain ⟨s1, s2, s3⟩ := sw_yes (M := M) (a := 3) (old := tp) (now := movedV tp sl) (by decide) (by omega) e
      refine ⟨by simp [pushS, s1], .inr ⟨by simp [pushD, pushS, s1], ?_⟩⟩
      have : (pushM c ⟨sl, 2, tp⟩ M).f = upd M.f 3 (movedV (M.f 3) sl) := by
        rw [show pushM c ⟨sl, 2, tp⟩ M = M.swS 3 tp (movedV tp sl) by simp [pushM], s2, e]
        rfl
      rw [this]
      exact h.lay hr ht hx' hm' hlk
    · obtain ⟨s1, s2, s3⟩ := sw_no (M := M) (a := 3) (old := tp) (now := movedV tp sl) e
      have ef : (pushM c ⟨sl, 2, tp⟩ M).f = M.f := by
        rw [show pushM c ⟨sl, 2, tp⟩ M = M.swS 3 tp (movedV tp sl) by simp [pushM], s2]
      refine ⟨by simp [pushS, s1], .inl ⟨by simp [pushD, pushS, s1], ?_, by rw [ef]; exact h, by rw [ef], fun y _ _ => by rw [ef]⟩⟩
      rw [ef]
      exact ⟨by simpa [pushS, s1] using q3, .inl (by simp [pushS, s1])⟩
end
end Go.Proofs.Ytijfkpoofpcacaa.TakerL
set_option linter.unusedVariables false
set_option linter.unusedSectionVars false
namespace Go.Proofs.Ytijfkpoofpcacaa.TakerM
open Go.RowKit Go.Proofs.Ytijfkpoofpcacaa.Blk Go.Proofs.Ytijfkpoofpcacaa.Core Go.Proofs.Ytijfkpoofpcacaa.MemC Go.Proofs.Ytijfkpoofpcacaa.PlanC Go.Proofs.Ytijfkpoofpcacaa.PlanD Go.Proofs.Ytijfkpoofpcacaa.StackC Go.Proofs.Ytijfkpoofpcacaa.StackS Go.Proofs.Ytijfkpoofpcacaa.StackP Go.Proofs.Ytijfkpoofpcacaa.TakerL
/-- A taker: its queue (as a value, as a list), its work, its machines, what it lays. -/
structure Tk where
  hv : Value
  h : List Int
  wv : Value
  pop : Option (Nat × Pop)
  push : Option (Nat × Push)
  lays : Int
def Tk.new : Tk := ⟨.slice none 0 0, [], .slice none 0 0, none, none, 0⟩
def put (T : Nat → Tk) (i : Nat) (τ : Tk) : Nat → Tk := fun j => if j = i then τ else T j
theorem put_eq (T : Nat → Tk) (i : Nat) (τ : Tk) : put T i τ i = τ := if_pos rfl
theorem put_ne {T : Nat → Tk} {i j : Nat} {τ : Tk} (h : j ≠ i) : put T i τ j = T j := if_neg h
def Tk.mine (τ : Tk) : List Int := match τ.push with | some _ => τ.lays :: τ.h | none => τ.h
structure TI (c : Cf) (f : Nat → Int) (t : Int) (L : List Int) (K : Nat) (T : Nat → Tk) (own : Int → Nat) : Prop where
  stk : Stk c f t L
  pop : ∀ i, i < K → ∀ p q, (T i).pop = some (p, q) → PopI f t L q
  push : ∀ i, i < K → ∀ p q, (T i).push = some (p, q) → PushI c f t L q ∧ q.sl = (T i).lays ∧ (T i).pop = none
  lst : ∀ x, x ∈ L ↔ ((0 ≤ x ∧ x < c.S) ∧ own x = 0)
  mine : ∀ i, i < K → ∀ x, x ∈ (T i).mine ↔ ((0 ≤ x ∧ x < c.S) ∧ own x = i + 1)
  nd : ∀ i, i < K → (T i).mine.Nodup
  le : ∀ x, (0 ≤ x ∧ x < c.S) → own x ≤ K
def oset (own : Int → Nat) (x : Int) (v : Nat) : Int → Nat := fun y => if y = x then v else own y
section
variable {c : Cf} {f f' : Nat → Int} {t : Int} {L : List Int} {K : Nat} {T : Nat → Tk} {own : Int → Nat} {i : Nat} {τ : Tk}
/-- Only taker i's machines and what it has are others; it has the same slots. -/
theorem TI.turn (h : TI c f t L K T own) (hi : i < K) (hs : Stk c f' t L) (e3 : f' 3 = f 3)
    (hoth : ∀ j, j < K → j ≠ i → ∀ p q, (T j).push = some (p, q) → f' (c.link q.sl).toNat = f (c.link q.sl).toNat)
    (hm : τ.mine = (T i).mine) (hp : ∀ p q, τ.pop = some (p, q) → PopI f' t L q) (hq : ∀ p q, τ.push = some (p, q) → PushI c f' t L q ∧ q.sl = τ.lays ∧ τ.pop = none) : TI c f' t L K (put T i τ) own := by
  refine ⟨hs, fun j hj p q a => ?_, fun j hj p q a => ?_, h.lst, fun j hj x => ?_, fun j hj => ?_, h.le⟩
  · by_cases e : j = i
    · subst e; rw [put_eq] at a; exact hp p q a
    · rw [put_ne e] at a; exact (h.pop j hj p q a).same e3
  · by_cases e : j = i
    · subst e; rw [put_eq] at a ⊢; exact hq p q a
    · rw [put_ne e] at a ⊢; obtain ⟨b1, b2⟩ := h.push j hj p q a; exact ⟨b1.same e3 (hoth j hj e p q a), b2⟩
  · by_cases e : j = i
    · subst e; rw [put_eq, hm]; exact h.mine j hj x
    · rw [put_ne e]; exact h.mine j hj x
  · by_cases e : j = i
    · subst e; rw [put_eq, hm]; exact h.nd j hj
    · rw [put_ne e]; exact h.nd j hj
/-- Another word of work. -/
theorem TI.work (h : TI c f t L K T own) (hi : i < K) (v : Value) : TI c f t L K (put T i ⟨(T i).hv, (T i).h, v, (T i).pop, (T i).push, (T i).lays⟩) own :=
  h.turn hi h.stk rfl (fun _ _ _ _ _ _ => rfl) rfl (h.pop i hi) (h.push i hi)
theorem TI.take (h : TI c f t L K T own) (hi : i < K) (h2 : (T i).push = none) (p : Nat) : TI c f t L K (put T i ⟨(T i).hv, (T i).h, (T i).wv, some (p, ⟨-1, false, 0, 0, 0⟩), none, (T i).lays⟩) own := by
  refine h.turn hi h.stk rfl (fun _ _ _ _ _ _ => rfl) ?_ (fun p q a => ?_) (fun p q a => by cases a)
  · unfold Tk.mine; rw [h2]
  · cases a; exact popI_new _ _ _
theorem TI.lay (h : TI c f t L K T own) (hi : i < K) (h1 : (T i).pop = none) (h2 : (T i).push = none) {x : Int} {s : List Int} (hh : (T i).h = x :: s) (v : Value) (p : Nat) : TI c f t L K (put T i ⟨v, s, (T i).wv, none, some (p, ⟨x, 0, 0⟩), x⟩) own := by
  refine h.turn hi h.stk rfl (fun _ _ _ _ _ _ => rfl) ?_ (fun p q a => by cases a) (fun p q a => ?_)
  · unfold Tk.mine; rw [h2]; exact hh.symm
  · cases a; exact ⟨pushI_new _ _ _ _ _, rfl, rfl⟩
theorem TI.popNo (h : TI c f t L K T own) (hi : i < K) {p : Nat} {q q' : Pop} (hp : (T i).pop = some (p, q)) (hf : f' = f) (hq : PopI f' t L q') : TI c f' t L K (put T i ⟨(T i).hv, (T i).h, (T i).wv, some (p, q'), (T i).push, (T i).lays⟩) own := by
  subst hf
  refine h.turn hi h.stk rfl (fun _ _ _ _ _ _ => rfl) rfl (fun p q a => by cases a; exact hq) (fun p2 q2 a => ?_)
  have := (h.push i hi p2 q2 a).2.2
  rw [hp] at this; cases this
theorem TI.popEnd (h : TI c f t L K T own) (hi : i < K) (hf : f' = f) (h2 : (T i).push = none) : TI c f' t L K (put T i ⟨(T i).hv, (T i).h, (T i).wv, none, none, (T i).lays⟩) own := by
  subst hf
  refine h.turn hi h.stk rfl (fun _ _ _ _ _ _ => rfl) ?_ (fun p q a => by cases a) (fun p q a => by cases a)
  unfold Tk.mine; rw [h2]
theorem TI.other (h : TI c f t L K T own) {j : Nat} (hi : i < K) (hj : j < K) (hne : j ≠ i) {p1 p2 : Nat} {q1 q2 : Push} (h1 : (T i).push = some (p1, q1)) (h2 : (T j).push = some (p2, q2)) : (0 ≤ q2.sl ∧ q2.sl < c.S) ∧ q2.sl ≠ q1.sl := by
  have m1 : (T i).lays ∈ (T i).mine := by unfold Tk.mine; rw [h1]; exact List.mem_cons_self ..
  have m2 : (T j).lays ∈ (T j).mine := by unfold Tk.mine; rw [h2]; exact List.mem_cons_self ..
  have o1 := (h.mine i hi _).1 m1
  have o2 := (h.mine j hj _).1 m2
  rw [(h.push i hi _ _ h1).2.1, (h.push j hj _ _ h2).2.1]
  refine ⟨o2.1, fun e => ?_⟩
  rw [e] at o2
  omega
theorem TI.laying (h : TI c f t L K T own) (hi : i < K) {p : Nat} {q : Push} (h1 : (T i).push = some (p, q)) : (0 ≤ q.sl ∧ q.sl < c.S) ∧ q.sl ∉ L ∧ q.sl ∉ (T i).h := by
  have m1 : (T i).lays ∈ (T i).mine := by unfold Tk.mine; rw [h1]; exact List.mem_cons_self ..
  have o1 := (h.mine i hi _).1 m1
  rw [(h.push i hi _ _ h1).2.1]
  have n1 := h.nd i hi
  unfold Tk.mine at n1
  rw [h1] at n1
  refine ⟨o1.1, fun hl => ?_, (List.nodup_cons.1 n1).1⟩
  have := ((h.lst _).1 hl).2
  omega
theorem TI.pushNo (h : TI c f t L K T own) (hi : i < K) {p : Nat} {q q' : Push} (h1 : (T i).push = some (p, q)) (hsl : q'.sl = q.sl) (hq : PushI c f' t L q') (hs : Stk c f' t L) (e3 : f' 3 = f 3)
    (hk : ∀ y, (0 ≤ y ∧ y < c.S) → y ≠ q.sl → f' (c.link y).toNat = f (c.link y).toNat) : TI c f' t L K (put T i ⟨(T i).hv, (T i).h, (T i).wv, (T i).pop, some (p, q'), (T i).lays⟩) own := by
  obtain ⟨_, b2, b3⟩ := h.push i hi p q h1
  refine h.turn hi hs e3 (fun j hj hne p2 q2 a => ?_) ?_ (fun p2 q2 a => ?_) (fun p2 q2 a => ?_)
  · obtain ⟨d1, d2⟩ := h.other hi hj hne h1 a
    exact hk _ d1 d2
  · unfold Tk.mine; rw [h1]
  · rw [b3] at a; cases a
  · cases a; exact ⟨hq, by rw [hsl]; exact b2, b3⟩
theorem TI.popYes (hr : c.right = true) {x : Int} {r : List Int} (h : TI c f t (x :: r) K T own) (hi : i < K) {p : Nat} {q : Pop} (hp : (T i).pop = some (p, q)) (hs : Stk c f' (t + 1) r) (v : Value) :
    TI c f' (t + 1) r K (put T i ⟨v, (T i).h ++ [x], (T i).wv, none, none, (T i).lays⟩) (oset own x (i + 1)) := by
  have hx := (h.lst x).1 (List.mem_cons_self ..)
  have hn := List.nodup_cons.1 h.stk.nd
  have hpn : (T i).push = none := by
    cases e : (T i).push with
    | none => rfl
    | some y => have := (h.push i hi y.1 y.2 (by rw [e])).2.2; rw [hp] at this; cases this
  refine ⟨hs, fun j hj p2 q2 a => ?_, fun j hj p2 q2 a => ?_, fun y => ?_, fun j hj y => ?_, fun j hj => ?_, fun y hy => ?_⟩
  · by_cases e : j = i
    · subst e; rw [put_eq] at a; cases a
    · rw [put_ne e] at a; exact (h.pop j hj p2 q2 a).next hr hs
  · by_cases e : j = i
    · subst e; rw [put_eq] at a; cases a
    · rw [put_ne e] at a ⊢; obtain ⟨b1, b2⟩ := h.push j hj p2 q2 a; exact ⟨b1.next hr hs, b2⟩
  · unfold oset
    by_cases e : y = x
    · subst e; rw [if_pos rfl]; exact ⟨fun k => absurd k hn.1, fun k => by have := k.2; omega⟩
    · rw [if_neg e, ← h.lst y, List.mem_cons]; exact ⟨.inr, fun k => k.resolve_left e⟩
  · unfold oset
    by_cases e : j = i
    · subst e; rw [put_eq]
      have hm := h.mine j hj y
      unfold Tk.mine at hm
      rw [hpn] at hm
      show y ∈ (T j).h ++ [x] ↔ _
      rw [List.mem_append, hm]
      by_cases e2 : y = x
      · subst e2; rw [if_pos rfl]; exact ⟨fun _ => ⟨hx.1, rfl⟩, fun _ => .inr (List.mem_singleton.2 rfl)⟩
      · rw [if_neg e2]; exact ⟨fun k => k.resolve_right (fun m => e2 (List.mem_singleton.1 m)), .inl⟩
    · rw [put_ne e, h.mine j hj y]
      by_cases e2 : y = x
      · subst e2; rw [if_pos rfl]; have := hx.2; constructor <;> intro k <;> have := k.2 <;> omega
      · rw [if_neg e2]
  · by_cases e : j = i
    · subst e; rw [put_eq]
      have hnd := h.nd j hj
      have hm := h.mine j hj x
      unfold Tk.mine at hnd hm
      rw [hpn] at hnd hm
      show ((T j).h ++ [x]).Nodup
      rw [List.nodup_append]
      refine ⟨hnd, by simp, fun a ha b hb => ?_⟩
      rw [List.mem_singleton] at hb
      subst hb
      intro e2
      subst e2
      have := (hm.1 ha).2
      have := hx.2
      omega
    · rw [put_ne e]; exact h.nd j hj
  · unfold oset
    split
    · omega
    · exact h.le y hy
theorem TI.pushYes (hr : c.right = true) (h : TI c f t L K T own) (hi : i < K) {p : Nat} {q : Push} (h1 : (T i).push = some (p, q)) (hs : Stk c f' (t + 1) (q.sl :: L)) :
    TI c f' (t + 1) (q.sl :: L) K (put T i ⟨(T i).hv, (T i).h, (T i).wv, none, none, (T i).lays⟩) (oset own q.sl 0) := by
  obtain ⟨hx, hxL, hxh⟩ := h.laying hi h1
  obtain ⟨_, b2, b3⟩ := h.push i hi p q h1
  have hmi : (T i).mine = q.sl :: (T i).h := by unfold Tk.mine; rw [h1, b2]
  have hox := ((h.mine i hi q.sl).1 (by rw [hmi]; exact List.mem_cons_self ..)).2
  refine ⟨hs, fun j hj p2 q2 a => ?_, fun j hj p2 q2 a => ?_, fun y => ?_, fun j hj y => ?_, fun j hj => ?_, fun y hy => ?_⟩
  · by_cases e : j = i
    · subst e; rw [put_eq] at a; cases a
    · rw [put_ne e] at a; exact (h.pop j hj p2 q2 a).next hr hs
  · by_cases e : j = i
    · subst e; rw [put_eq] at a; cases a
    · rw [put_ne e] at a ⊢; obtain ⟨b1, b2⟩ := h.push j hj p2 q2 a; exact ⟨b1.next hr hs, b2⟩
  · unfold oset
    rw [List.mem_cons, h.lst y]
    by_cases e : y = q.sl
    · subst e; rw [if_pos rfl]; exact ⟨fun _ => ⟨hx, rfl⟩, fun _ => .inl rfl⟩
    · rw [if_neg e]; exact ⟨fun k => k.resolve_left e, .inr⟩
  · unfold oset
    by_cases e : j = i
    · subst e; rw [put_eq]
      have hm := h.mine j hj y
      rw [hmi, List.mem_cons] at hm
      show y ∈ (T j).h ↔ _
      by_cases e2 : y = q.sl
      · subst e2; rw [if_pos rfl]; exact ⟨fun k => absurd k hxh, fun k => by have := k.2; omega⟩
      · rw [if_neg e2, ← hm]; exact ⟨.inr, fun k => k.resolve_left e2⟩
    · rw [put_ne e, h.mine j hj y]
      by_cases e2 : y = q.sl
      · subst e2; rw [if_pos rfl]; constructor <;> intro k <;> have := k.2 <;> omega
      · rw [if_neg e2]
  · by_cases e : j = i
    · subst e; rw [put_eq]
      have hnd := h.nd j hj
      rw [hmi] at hnd
      exact (List.nodup_cons.1 hnd).2
    · rw [put_ne e]; exact h.nd j hj
  · unfold oset
    split
    · omega
    · exact h.le y hy
/-- How many have a slot, of the list and the first n takers. -/
def cnt (own : Int → Nat) (x : Int) (n : Nat) : Int := if own x ≤ n then 1 else 0
theorem TI.has (h : TI c f t L K T own) (hi : i < K) {x : Int} (hx : 0 ≤ x ∧ x < c.S) : (decide (x ∈ (T i).h) || ((T i).push.isSome && decide ((T i).lays = x))) = decide (own x = i + 1) := by
  have hm := h.mine i hi x
  unfold Tk.mine at hm
  have e : (own x = i + 1) ↔ x ∈ (T i).mine := by
    have := h.mine i hi x
    rw [this]; exact ⟨fun k => ⟨hx, k⟩, fun k => k.2⟩
  rw [Bool.eq_iff_iff, decide_eq_true_iff, e]
  unfold Tk.mine
  cases hp : (T i).push with
  | none => simp
  | some y =>
    rw [List.mem_cons]
    simp only [Option.isSome_some, Bool.true_and, Bool.or_eq_true, decide_eq_true_iff]
    exact ⟨fun k => k.elim .inr (fun e => .inl e.symm), fun k => k.elim (fun e => .inr e.symm) .inl⟩
end
theorem cnt0 (own : Int → Nat) (x : Int) : cnt own x 0 = if own x = 0 then 1 else 0 := by unfold cnt; by_cases e : own x = 0 <;> simp [e]
theorem cnt_succ (own : Int → Nat) (x : Int) (n : Nat) : cnt own x (n + 1) = cnt own x n + if own x = n + 1 then 1 else 0 := by
  unfold cnt
  by_cases e : own x ≤ n
  · rw [if_pos (by omega), if_pos e, if_neg (by omega)]; rfl
  · by_cases e2 : own x = n + 1
    · rw [if_pos (by omega), if_neg e, if_pos e2]; rfl
    · rw [if_neg (by omega), if_neg e, if_neg e2]; rfl
end Go.Proofs.Ytijfkpoofpcacaa.TakerM
set_option linter.unusedVariables false
set_option linter.unusedSectionVars false
set_option linter.unusedSimpArgs false
namespace Go.Proofs.Ytijfkpoofpcacaa.TakerS
open Go.RowKit Go.Proofs.YtijfkpoofpcacaaW.PrintWords Go.Proofs.Ytijfkpoofpcacaa.Blk Go.Proofs.Ytijfkpoofpcacaa.Core Go.Proofs.Ytijfkpoofpcacaa.MemC Go.Proofs.Ytijfkpoofpcacaa.MemD Go.Proofs.Ytijfkpoofpcacaa.MemT Go.Proofs.Ytijfkpoofpcacaa.Memory Go.Proofs.Ytijfkpoofpcacaa.PlanC Go.Proofs.Ytijfkpoofpcacaa.PlanD Go.Proofs.Ytijfkpoofpcacaa.StackC Go.Proofs.Ytijfkpoofpcacaa.StackL Go.Proofs.Ytijfkpoofpcacaa.StackS Go.Proofs.Ytijfkpoofpcacaa.StackT Go.Proofs.Ytijfkpoofpcacaa.StackF Go.Proofs.Ytijfkpoofpcacaa.StackP Go.Proofs.Ytijfkpoofpcacaa.StackQ Go.Proofs.Ytijfkpoofpcacaa.StackG Go.Proofs.Ytijfkpoofpcacaa.StackI Go.Proofs.Ytijfkpoofpcacaa.QueueI Go.Proofs.Ytijfkpoofpcacaa.TakerL Go.Proofs.Ytijfkpoofpcacaa.TakerM Go.Proofs.Ytijfkpoofpcacaa.Opens
attribute [local go_sem ↓] Go.wp_at_zero Go.wp_at_succ
theorem blk_one {w : World} {b t t' : Nat} {cs cs' : Array Value} (h : Blk w b t cs) (h' : Blk w b t' cs') : t = t' ∧ cs = cs' := by
  unfold Blk at h h'
  rw [h] at h'
  cases h'
  exact ⟨rfl, rfl⟩
/-- A list of numbers of one's own, in a block not below lo. -/
def IQ (w : World) (lo : Nat) (v : Value) (xs : List Int) : Prop := (Kd.int .i64).Q 3 w lo (fun _ => True) v xs
section
variable {w w' : World} {lo : Nat} {v : Value} {xs : List Int}
theorem IQ.nil (w : World) (lo : Nat) : IQ w lo (.slice none 0 0) [] := Kd.Q_nil _ _ _ _ _
theorem IQ.typed (h : IQ w lo v xs) : ∀ k, v.ownBlock = some k → lo ≤ k ∧ k < w.heap.size ∧ ∃ cs, Blk w k 3 cs := by
  intro k hk
  obtain ⟨_, h1, h2, q, hq, cs, h3⟩ := (Kd.Q_bound h).1 k hk
  have : q = 3 := by simpa [Kd.int, Kd.scalar] using hq
  subst this
  exact ⟨h1, h2, cs, h3⟩
theorem IQ.below (h : IQ w lo v xs) (hb : Below w.heap.size w w') : IQ w' lo v xs := Kd.Q_below h hb
theorem IQ.drew (h : IQ w lo v xs) : IQ w.drew lo v xs := Kd.Q_drew h
theorem IQ.fr {S : Nat → Prop} (h : IQ w lo v xs) (hf : Fr S w w') (hS : ∀ k, v.ownBlock = some k → ¬ S k) : IQ w' lo v xs := by
  have h1 := Kd.Q_bound h
  obtain ⟨h0, inner, ho, hr⟩ := h
  have h2 : (Kd.int .i64).Q 3 w lo (fun k => v.ownBlock = some k) v xs := ⟨fun k hk => hk, inner, ho, hr.imp_ (fun _ _ hp => by simpa [Kd.int, Kd.scalar] using hp)⟩
  exact Kd.Q_mono (Kd.Q_step h2 (fun k hk hl => hf.keep k hl (hS k hk))) (fun _ _ => trivial)
theorem IQ.li (h : IQ w lo v xs) (hl : xs.length ≤ 100000) : Li w lo v xs := by
  obtain ⟨A, c, rfl, hc, hC⟩ := Kd.Q_reads h
  refine ⟨A, c, rfl, hc, li_of_C hC, fun b o e hn => ?_, hl⟩
  subst e
  exact (IQ.typed h b rfl).1
theorem IQ.slice (h : IQ w lo v xs) : ∃ A c, v = .slice A xs.length c ∧ xs.length ≤ c := Kd.Q_slice h
theorem IQ.tail {A : Option Addr} {n c : Nat} {x : Int} {s : List Int} (h : IQ w lo (.slice A n c) (x :: s)) : IQ w lo (.slice (if c = 1 then A else A.map (·.add 1)) (n - 1) (c - 1)) s := Kd.Q_drop h (k := 1) (by simp)
theorem IQ.first {A : Option Addr} {n c : Nat} {x : Int} {s : List Int} (h : IQ w lo (.slice A n c) (x :: s)) : n = s.length + 1 ∧ n ≤ c ∧ ∃ b o, A = some ⟨b, o, none⟩ ∧ w.cell? ⟨b, o, none⟩ = some (.int .i64 x) :=
  QJ.first (D := w.heap.size) (Kd.Q_mono (Kd.Q_bound h) (fun k hk => hk.2.2.1))
theorem IQ.tail1 {b o n c : Nat} {x : Int} {s : List Int} (h : IQ w lo (.slice (some ⟨b, o, none⟩) n c) (x :: s)) : IQ w lo (.slice (if c = 1 then some ⟨b, o, none⟩ else some ⟨b, o + 1, none⟩) (n - 1) (c - 1)) s := by
  have := h.tail
  rwa [show (some (⟨b, o, none⟩ : Addr)).map (·.add 1) = some ⟨b, o + 1, none⟩ from by simp [Addr.add]] at this
end
theorem IQ.append_step {P : Program} {ops : Array Oper} {Q' : Exit → Act → World → Prop} {Kc : Act → World → Prop} {o : Oper} {a : Act} {W : World} {lo : Nat} (hw : Region.wanted o (yielded ops a.tmps) = true) (s x : Operand) (t : TypeId)
    (ho : o.op = .call { callee := .builtin .append, args := #[s, x], argTypes := #[t, t] })
    (ht : P.underlying t = some (.slice 3)) (hinfo : (P.info? 3).map (fun i => (i.zero, i.size, i.bytes)) = some (some (.int .i64 0), 1, 8))
    (v : Value) (xs : List Int) (y : Int) (hs : a.eval s = v) (hx : a.eval x = .slice (some ⟨W.heap.size, 0, none⟩) 1 1)
    (HO : IQ W lo v xs) (hbase : lo ≤ W.heap.size) (hl : (xs.length + 1) * 8 ≤ 140737488355328)
    (h : ∀ v1 w1, IQ w1 lo v1 (xs ++ [y]) → W.grownBy w1 v.ownBlock → (v1.ownBlock = v.ownBlock ∨ ∃ b, v1.ownBlock = some b ∧ W.heap.size ≤ b) → Kc (a.put o.dst v1) w1) :
    if Region.wanted o (yielded ops a.tmps) = true then Oper.wp P o a (W.alloc (.cells #[.int .i64 y] 3)) Kc Q' else Kc (a.put o.dst undef) (W.alloc (.cells #[.int .i64 y] 3)) :=
  Kd.Q_append_step (Kd.int .i64) (w0 := W) lo hw s x t 3 (.int .i64 0) 8 ho ht hinfo rfl (by decide) (by decide) v xs y [.int .i64 y] (fun _ => True) (fun _ => False) hs hx rfl (fun k hk => hk.elim) (fun _ _ => trivial) HO (Below.refl lo W) hbase hl
    (fun v1 w1 h1 _ h3 h4 => h v1 w1 h1 h3 h4)
theorem fr_grown {S : Nat → Prop} {w w' : World} {r : Option Nat} (h : w.grownBy w' r) (hS : ∀ k, some k = r → S k) : Fr S w w' :=
  ⟨h.os, h.tape, h.output, h.size, fun k hk hs => h.block k hk (fun e => hs (hS k e))⟩
section
variable {w : World} {B lo lu lv o : Nat} {cs : Array Value} (hB : Blk w B 74 cs) {bs s : List Int} {u v : Value} {x : Int}
include hB
set_option maxHeartbeats 4000000 in
set_option maxRecDepth 100000 in
theorem o_push (hu : IQ w lu u bs) (hv : IQ w lv v (x :: bs)) (hl : bs.length ≤ 99999) {v3 : Value} (x2 : cs[o + 2]? = some (.pointer none)) (x3 : cs[o + 3]? = some v3) (x4 : cs[o + 4]? = some (.int .i64 x)) :
    Calls Try.prog 84 #[.pointer (some ⟨B, o, none⟩), u, v] w fun e w' => e = .returned (.bool true) ∧ Blk w' B 74 ((cs.setIfInBounds (o + 2) (.pointer none)).setIfInBounds (o + 3) (.pointer none)) ∧ Fr (fun k => k = B) w w' := by
  obtain ⟨Au, cu, rfl, hcu⟩ := hu.slice
  obtain ⟨Av, cv, rfl, hcv⟩ := hv.slice
  obtain ⟨e1, e2, bv, ov, rfl, jv⟩ := hv.first
  clear e1 e2
  have nu : ∀ k, k = B → True := fun _ _ => trivial
  have hF := Lib.hid (Fr.refl (fun k => k = B) w)
  have y2 := hB.cell x2
  have y3 := hB.cell x3
  have y4 := hB.cell x4
  have z2 := hB.frozen (o + 2)
  have z3 := hB.frozen (o + 3)
  go_enter Try.func84, Try.ntmps84
  go_upto_region 5 with (fail)
  have hB2 : Blk ((w.setCell ⟨B, o + 2, none⟩ (.pointer none)).setCell ⟨B, o + 3, none⟩ (.pointer none)) B 74 ((cs.setIfInBounds (o + 2) (.pointer none)).setIfInBounds (o + 3) (.pointer none)) := (hB.set (o + 2) _).set (o + 3) _
  have hF2 : Fr (fun k => k = B) w ((w.setCell ⟨B, o + 2, none⟩ (.pointer none)).setCell ⟨B, o + 3, none⟩ (.pointer none)) := (Fr.set (fun k => k = B) w (p := ⟨B, o + 2, none⟩) rfl _).trans (Fr.set (fun k => k = B) _ (p := ⟨B, o + 3, none⟩) rfl _)
  have hnb : ∀ {lo v xs}, IQ w lo v xs → ∀ k, v.ownBlock = some k → ¬ k = B := by
    intro lo v xs h k hk e
    subst e
    obtain ⟨_, _, cs', h2⟩ := h.typed k hk
    exact absurd (blk_one hB h2).1 (by decide)
  have hu2 := hu.fr hF2 (hnb hu)
  have hv2 := hv.fr hF2 (hnb hv)
  clear hnb hu hv y2 y3 y4 z2 z3 hF hB jv
  generalize (w.setCell ⟨B, o + 2, none⟩ (.pointer none)).setCell ⟨B, o + 3, none⟩ (.pointer none) = w2 at *
  have hB := Lib.hid hB2.drew
  have hF := Lib.hid (hF2.trans (Fr.drew _ w2))
  have hu := Lib.hid hu2.drew
  have hv := Lib.hid hv2.drew
  obtain ⟨_, _, _, _, e3, j1⟩ := hv.out.first
  cases e3
  have j4 : w2.drew.cell? ⟨B, o + 4, none⟩ = some (.int .i64 x) := hB.out.cell (i := o + 4) (by simpa [Array.getElem?_setIfInBounds_ne] using x4)
  have hX : w2.drew.cell? ⟨B, o + 4, none⟩ = some (.int .i64 x) ∧ w2.drew.cell? ⟨bv, ov, none⟩ = some (.int .i64 x) := ⟨j4, j1⟩
  clear hB2 hF2 hu2 hv2 j1 j4
  have ew : IntKind.i64.wrap ((bs.length : Int) + 1) = (bs.length : Int) + 1 := IntWalk.i64_in _ (by omega)
  replace hv := hv.out
  rw [show (x :: bs).length = bs.length + 1 from rfl] at hv hcv
  generalize hn : bs.length + 1 = n at *
  have hni : ((n : Int) == (bs.length : Int) + 1) = true := by rw [← hn]; simp
  have hn1 : (1 : Int) ≤ (n : Int) := by omega
  have hn0 : (0 : Int) < (n : Int) := by omega
  have hn2 : (n : Int) ≤ (cv : Int) := by omega
  have hn3 : 0 < n := by omega
  have hn4 : 1 ≤ n := by omega
  have exx : (x == x) = true := by simp
  replace hv := hv.tail1
  replace hn := Lib.hid hn
  by_cases hc1 : cv = 1
  · subst hc1
    rw [if_pos rfl] at hv
    rw [show n - 1 = 0 by omega] at hv
    replace hv := Lib.hid (show IQ w2.drew lv (.slice (some ⟨bv, ov, none⟩) 0 0) bs from hv)
    go_region_held3 (fun w' => w'.cell? ⟨B, o + 4, none⟩ = some (.int .i64 x) ∧ w'.cell? ⟨bv, ov, none⟩ = some (.int .i64 x)) (assumption) (first | (go_at_call 28; (with_reducible refine (sameC _ _ _ _ _ bs bs (hv.out.li (by omega)) (hu.out.li (by omega))).mono ?_); rintro e w3 ⟨rfl, hb'⟩; rw [decide_eq_true rfl]; replace hB := Lib.hid (hB.out.below hb' hB.out.lt); replace hF := Lib.hid (hF.out.trans (fr_below hb')); have hY : w3.cell? ⟨B, o + 4, none⟩ = some (.int .i64 x) ∧ w3.cell? ⟨bv, ov, none⟩ = some (.int .i64 x) := ⟨hB.out.cell (i := o + 4) (by simpa [Array.getElem?_setIfInBounds_ne] using x4), by rw [hb'.cell (p := ⟨bv, ov, none⟩) (cell_lt hX.2)]; exact hX.2⟩; clear hb'))
    all_goals
      go_wp2
      go_ret
      exact ⟨rfl, hB.out, hF.out⟩
  · rw [if_neg hc1] at hv
    replace hv := Lib.hid hv
    go_region_held3 (fun w' => w'.cell? ⟨B, o + 4, none⟩ = some (.int .i64 x) ∧ w'.cell? ⟨bv, ov, none⟩ = some (.int .i64 x)) (assumption) (first | (go_at_call 28; (with_reducible refine (sameC _ _ _ _ _ bs bs (hv.out.li (by omega)) (hu.out.li (by omega))).mono ?_); rintro e w3 ⟨rfl, hb'⟩; rw [decide_eq_true rfl]; replace hB := Lib.hid (hB.out.below hb' hB.out.lt); replace hF := Lib.hid (hF.out.trans (fr_below hb')); have hY : w3.cell? ⟨B, o + 4, none⟩ = some (.int .i64 x) ∧ w3.cell? ⟨bv, ov, none⟩ = some (.int .i64 x) := ⟨hB.out.cell (i := o + 4) (by simpa [Array.getElem?_setIfInBounds_ne] using x4), by rw [hb'.cell (p := ⟨bv, ov, none⟩) (cell_lt hX.2)]; exact hX.2⟩; clear hb'))
    all_goals
      go_wp2
      go_ret
      exact ⟨rfl, hB.out, hF.out⟩
set_option maxHeartbeats 4000000 in
set_option maxRecDepth 100000 in
theorem o_empty {p : Nat} {c : Cf} {tp nx : Int} (hp : PopB w p c ⟨-1, true, 3, tp, nx⟩) (hu : IQ w lu u []) (hv : IQ w lv v []) (x2 : cs[o + 2]? = some (.pointer (some ⟨p, 0, none⟩))) :
    Calls Try.prog 84 #[.pointer (some ⟨B, o, none⟩), u, v] w fun e w' => e = .returned (.bool true) ∧ Blk w' B 74 (cs.setIfInBounds (o + 2) (.pointer none)) ∧ Fr (fun k => k = B) w w' := by
  obtain ⟨Au, cu, rfl, hcu⟩ := hu.slice
  obtain ⟨Av, cv, rfl, hcv⟩ := hv.slice
  clear hu hv hcu hcv
  have np : p ≠ B := fun e => by subst e; exact absurd (blk_one hB hp).1 (by decide)
  have y2 := hB.cell x2
  have z2 := hB.frozen (o + 2)
  have j0 := Blk.cell hp (i := 0) (v := .int .i64 (-1)) rfl
  have j1 := Blk.cell hp (i := 1) (v := .bool true) rfl
  have l0 : ([] : List Int).length = 0 := rfl
  replace hp := Lib.hid hp
  go_enter Try.func84, Try.ntmps84
  go_wp2
  go_ret
  exact ⟨rfl, hB.set (o + 2) _, Fr.set (fun k => k = B) w (p := ⟨B, o + 2, none⟩) rfl _⟩
set_option maxHeartbeats 4000000 in
set_option maxRecDepth 100000 in
theorem o_take {p : Nat} {c : Cf} {tp nx : Int} {hq : Value} {h ts : List Int} (hp : PopB w p c ⟨x, false, 3, tp, nx⟩) (hu : IQ w lu u (x :: ts)) (hv : IQ w lv v ts) (hl : ts.length ≤ 99999) (hQ : IQ w lo hq h) (hh : h.length ≤ 1000) (hlo : lo ≤ w.heap.size) (x2 : cs[o + 2]? = some (.pointer (some ⟨p, 0, none⟩))) (x0 : cs[o]? = some hq)
    (neu : ∀ k, hq.ownBlock = some k → u.ownBlock ≠ some k) (nev : ∀ k, hq.ownBlock = some k → v.ownBlock ≠ some k) :
    Calls Try.prog 84 #[.pointer (some ⟨B, o, none⟩), u, v] w fun e w' => e = .returned (.bool true) ∧ ∃ hq', Blk w' B 74 ((cs.setIfInBounds (o + 2) (.pointer none)).setIfInBounds o hq') ∧ IQ w' lo hq' (h ++ [x]) ∧ (hq'.ownBlock = hq.ownBlock ∨ ∃ b, hq'.ownBlock = some b ∧ w.heap.size ≤ b) ∧ Fr (fun k => k = B ∨ some k = hq.ownBlock) w w' := by
  obtain ⟨Au, cu, rfl, hcu⟩ := hu.slice
  obtain ⟨Av, cv, rfl, hcv⟩ := hv.slice
  obtain ⟨e1, e2, bu, ou, rfl, jv⟩ := hu.first
  clear e1 e2
  have np : p ≠ B := fun e => by subst e; exact absurd (blk_one hB hp).1 (by decide)
  have nqB : ∀ {lo v xs}, IQ w lo v xs → ∀ k, v.ownBlock = some k → ¬ k = B := by
    intro lo v xs h k hk e
    subst e
    obtain ⟨_, _, cs', h2⟩ := h.typed k hk
    exact absurd (blk_one hB h2).1 (by decide)
  have nqp : ¬ some p = hq.ownBlock := by
    intro e
    obtain ⟨_, _, cs', h2⟩ := hQ.typed p e.symm
    exact absurd (blk_one hp h2).1 (by decide)
  have nqBB : ¬ some B = hq.ownBlock := fun e => nqB hQ B e.symm rfl
  have y2 := hB.cell x2
  have z2 := hB.frozen (o + 2)
  have j0 := Blk.cell hp (i := 0) (v := .int .i64 x) rfl
  have j1 := Blk.cell hp (i := 1) (v := .bool false) rfl
  have hF2 := Fr.set (fun k => k = B) w (p := ⟨B, o + 2, none⟩) rfl (.pointer none)
  have hB2 := hB.set (o + 2) (.pointer none)
  have hp2 := Blk.fr hp hF2 np
  have hu2 := hu.fr hF2 (nqB hu)
  have hv2 := hv.fr hF2 (nqB hv)
  have hQ2 := hQ.fr hF2 (nqB hQ)
  have lt2 := hF2.size
  have hxq : (cs.setIfInBounds (o + 2) (.pointer none))[o]? = some hq := by simpa [Array.getElem?_setIfInBounds_ne] using x0
  clear nqB
  replace hB := Lib.hid hB
  replace hp := Lib.hid hp
  replace hu := Lib.hid hu
  replace hv := Lib.hid hv
  replace hQ := Lib.hid hQ
  go_enter Try.func84, Try.ntmps84
  go_upto_region 8 with (fail)
  clear hB hp hu hv hQ y2 z2 j0 j1 jv
  generalize w.setCell ⟨B, o + 2, none⟩ (.pointer none) = w2 at *
  have hB := Lib.hid hB2.drew
  have hF := Lib.hid ((hF2.trans (Fr.drew _ w2)).mono (S' := fun k => k = B ∨ some k = hq.ownBlock) (fun k e => .inl e))
  have hp := Lib.hid (Blk.drew hp2)
  have hu := Lib.hid hu2.drew
  have hv := Lib.hid hv2.drew
  have hQ := Lib.hid hQ2.drew
  have jo : w2.drew.cell? ⟨B, o, none⟩ = some hq := hB.out.cell hxq
  have hX : w2.drew.cell? ⟨p, 0, none⟩ = some (.int .i64 x) := Blk.cell hp.out (i := 0) (v := .int .i64 x) rfl
  clear hB2 hF2 hp2 hu2 hv2 hQ2
  have ltB : B < w2.heap.size := hB.out.lt
  have ltp : p < w2.heap.size := Blk.lt hp.out
  have jo2 : w2.cell? ⟨B, o, none⟩ = some hq := jo
  have jp2 : w2.cell? ⟨p, 0, none⟩ = some (.int .i64 x) := hX
  go_region_law ((refine IQ.append_step (by rfl) (.tmp 65) (.tmp 70) 35 (by rfl) Try.underlying35 infoI hq h x (by rfl) (by rfl) hQ.out (by show lo ≤ w2.heap.size; omega) (by omega) ?_; intro v1 w1 hq1 hg1 ho1; obtain ⟨A1, c1, rfl, hcc1⟩ := IQ.slice hq1; have hFg := fr_grown (S := fun k => k = B ∨ some k = hq.ownBlock) hg1 (fun k e => .inr e); replace hF := Lib.hid (hF.out.trans hFg); replace hB := Lib.hid (hB.out.fr (fr_grown (S := fun k => some k = hq.ownBlock) hg1 (fun k e => e)) nqBB); replace hp := Lib.hid (Blk.fr hp.out (fr_grown (S := fun k => some k = hq.ownBlock) hg1 (fun k e => e)) nqp); replace hu := Lib.hid (hu.out.fr (fr_grown (S := fun k => some k = hq.ownBlock) hg1 (fun k e => e)) (fun k e1 e2 => neu k e2.symm e1)); replace hv := Lib.hid (hv.out.fr (fr_grown (S := fun k => some k = hq.ownBlock) hg1 (fun k e => e)) (fun k e1 e2 => nev k e2.symm e1)); replace hQ := Lib.hid hq1; have jo1 : w1.cell? ⟨B, o, none⟩ = some hq := hB.out.cell hxq; have zo := hB.out.frozen o; have zg := hg1.size; clear hFg hq1 hg1))
  all_goals
    go_upto_region 9 with (fail)
    have hFo := Fr.set (fun k => k = B) w1 (p := ⟨B, o, none⟩) rfl (.slice A1 (h ++ [x]).length c1)
    have hB3 := hB.out.set o (.slice A1 (h ++ [x]).length c1)
    have nqB : ∀ {lo v xs}, IQ w1 lo v xs → ∀ k, v.ownBlock = some k → ¬ k = B := by
      intro lo v xs h k hk e
      subst e
      obtain ⟨_, _, cs', h2⟩ := h.typed k hk
      exact absurd (blk_one hB.out h2).1 (by decide)
    have hp3 := Blk.fr hp.out hFo np
    have hu3 := hu.out.fr hFo (nqB hu.out)
    have hv3 := hv.out.fr hFo (nqB hv.out)
    have hQ3 := hQ.out.fr hFo (nqB hQ.out)
    have hF3 := hF.out.trans (hFo.mono (S' := fun k => k = B ∨ some k = hq.ownBlock) (fun k e => .inl e))
    rw [show (h ++ [x]).length = h.length + 1 by simp] at hB3 hp3 hu3 hv3 hQ3 hF3 ho1
    have ho2 : (Value.slice A1 (h.length + 1) c1).ownBlock = hq.ownBlock ∨ ∃ b, (Value.slice A1 (h.length + 1) c1).ownBlock = some b ∧ w.heap.size ≤ b := ho1.imp (fun e => e) (fun ⟨b, e, l⟩ => ⟨b, e, Nat.le_trans lt2 l⟩)
    replace ho1 := Lib.hid ho2
    clear ho2
    clear nqB hFo hB hp hu hv hQ hF hX jo jo1 jo2 jp2
    generalize w1.setCell ⟨B, o, none⟩ (.slice A1 (h.length + 1) c1) = w4 at *
    have hB := Lib.hid hB3.drew
    have hp := Lib.hid (Blk.drew hp3)
    have hu := hu3.drew
    have hv := Lib.hid hv3.drew
    have hQ := Lib.hid hQ3.drew
    have hF := Lib.hid (hF3.trans (Fr.drew _ w4))
    obtain ⟨_, _, _, _, e3, j1⟩ := hu.first
    cases e3
    have hX : w4.drew.cell? ⟨bu, ou, none⟩ = some (.int .i64 x) ∧ w4.drew.cell? ⟨p, 0, none⟩ = some (.int .i64 x) := ⟨j1, Blk.cell hp.out (i := 0) (v := .int .i64 x) rfl⟩
    clear hB3 hp3 hu3 hv3 hQ3 hF3 j1
    rw [show (x :: ts).length = ts.length + 1 from rfl] at hu hcu
    generalize hn : ts.length + 1 = n at *
    have hn1 : (1 : Int) ≤ (n : Int) := by omega
    have hn0 : (0 : Int) < (n : Int) := by omega
    have hn2 : (n : Int) ≤ (cu : Int) := by omega
    have hn3 : 0 < n := by omega
    have hn4 : 1 ≤ n := by omega
    have exx : (x == x) = true := by simp
    replace hu := hu.tail1
    replace hn := Lib.hid hn
    by_cases hc1 : cu = 1
    · subst hc1
      rw [if_pos rfl] at hu
      rw [show n - 1 = 0 by omega] at hu
      replace hu := Lib.hid (show IQ w4.drew lu (.slice (some ⟨bu, ou, none⟩) 0 0) ts from hu)
      go_region_held3 (fun w' => w'.cell? ⟨bu, ou, none⟩ = some (.int .i64 x) ∧ w'.cell? ⟨p, 0, none⟩ = some (.int .i64 x)) (assumption) (first | (go_at_call 28; (with_reducible refine (sameC _ _ _ _ _ ts ts (hu.out.li (by omega)) (hv.out.li (by omega))).mono ?_); rintro e w5 ⟨rfl, hb'⟩; rw [decide_eq_true rfl]; replace hB := Lib.hid (hB.out.below hb' hB.out.lt); replace hQ := Lib.hid (hQ.out.below hb'); replace hF := Lib.hid (hF.out.trans (fr_below hb')); have hY : w5.cell? ⟨bu, ou, none⟩ = some (.int .i64 x) ∧ w5.cell? ⟨p, 0, none⟩ = some (.int .i64 x) := ⟨by rw [hb'.cell (p := ⟨bu, ou, none⟩) (cell_lt hX.1)]; exact hX.1, by rw [hb'.cell (p := ⟨p, 0, none⟩) (cell_lt hX.2)]; exact hX.2⟩; clear hb'))
      all_goals
        go_wp2
        go_ret
        exact ⟨rfl, _, hB.out, hQ.out, ho1.out, hF.out⟩
    · rw [if_neg hc1] at hu
      replace hu := Lib.hid hu
      go_region_held3 (fun w' => w'.cell? ⟨bu, ou, none⟩ = some (.int .i64 x) ∧ w'.cell? ⟨p, 0, none⟩ = some (.int .i64 x)) (assumption) (first | (go_at_call 28; (with_reducible refine (sameC _ _ _ _ _ ts ts (hu.out.li (by omega)) (hv.out.li (by omega))).mono ?_); rintro e w5 ⟨rfl, hb'⟩; rw [decide_eq_true rfl]; replace hB := Lib.hid (hB.out.below hb' hB.out.lt); replace hQ := Lib.hid (hQ.out.below hb'); replace hF := Lib.hid (hF.out.trans (fr_below hb')); have hY : w5.cell? ⟨bu, ou, none⟩ = some (.int .i64 x) ∧ w5.cell? ⟨p, 0, none⟩ = some (.int .i64 x) := ⟨by rw [hb'.cell (p := ⟨bu, ou, none⟩) (cell_lt hX.1)]; exact hX.1, by rw [hb'.cell (p := ⟨p, 0, none⟩) (cell_lt hX.2)]; exact hX.2⟩; clear hb'))
      all_goals
        go_wp2
        go_ret
        exact ⟨rfl, _, hB.out, hQ.out, ho1.out, hF.out⟩
end
end Go.Proofs.Ytijfkpoofpcacaa.TakerS
set_option linter.unusedVariables false
set_option linter.unusedSectionVars false
namespace Go.Proofs.Ytijfkpoofpcacaa.TakerT
open Go.RowKit Go.Proofs.YtijfkpoofpcacaaW.PrintWords Go.Proofs.Ytijfkpoofpcacaa.PArenaPlays Go.Proofs.Ytijfkpoofpcacaa.Blk Go.Proofs.Ytijfkpoofpcacaa.Core Go.Proofs.Ytijfkpoofpcacaa.PuArenaPlays Go.Proofs.Ytijfkpoofpcacaa.MemC Go.Proofs.Ytijfkpoofpcacaa.MemD Go.Proofs.Ytijfkpoofpcacaa.MemT Go.Proofs.Ytijfkpoofpcacaa.Memory Go.Proofs.Ytijfkpoofpcacaa.PlanC Go.Proofs.Ytijfkpoofpcacaa.PlanD Go.Proofs.Ytijfkpoofpcacaa.StackC Go.Proofs.Ytijfkpoofpcacaa.StackL Go.Proofs.Ytijfkpoofpcacaa.StackS Go.Proofs.Ytijfkpoofpcacaa.StackT Go.Proofs.Ytijfkpoofpcacaa.StackF Go.Proofs.Ytijfkpoofpcacaa.StackP Go.Proofs.Ytijfkpoofpcacaa.StackQ Go.Proofs.Ytijfkpoofpcacaa.StackG Go.Proofs.Ytijfkpoofpcacaa.StackI Go.Proofs.Ytijfkpoofpcacaa.QueueI Go.Proofs.Ytijfkpoofpcacaa.TakerL Go.Proofs.Ytijfkpoofpcacaa.TakerM Go.Proofs.Ytijfkpoofpcacaa.TakerS Go.Proofs.Ytijfkpoofpcacaa.Opens
/-- C structs of z cells each. -/
def sarr (z C : Nat) (F : Nat → Nat → Value) : Array Value := (Array.range (z * C)).map fun x => F (x / z) (x % z)
theorem sarr_size (z C : Nat) (F : Nat → Nat → Value) : (sarr z C F).size = z * C := by simp [sarr]
theorem mul_lt {z C i k : Nat} (hi : i < C) (hk : k < z) : z * i + k < z * C := by
  have : z * (i + 1) ≤ z * C := Nat.mul_le_mul_left z hi
  rw [Nat.mul_add, Nat.mul_one] at this
  omega
theorem div_mod {z i k : Nat} (hk : k < z) : (z * i + k) / z = i ∧ (z * i + k) % z = k := by
  refine ⟨?_, ?_⟩
  · rw [Nat.mul_add_div (by omega), Nat.div_eq_of_lt hk, Nat.add_zero]
  · rw [Nat.mul_add_mod, Nat.mod_eq_of_lt hk]
theorem sarr_get {z C : Nat} {F : Nat → Nat → Value} {i k : Nat} (hi : i < C) (hk : k < z) : (sarr z C F)[z * i + k]? = some (F i k) := by
  have h1 := mul_lt hi hk
  obtain ⟨h2, h3⟩ := div_mod (i := i) hk
  simp [sarr, h1, h2, h3]
theorem sarr_set {z C : Nat} {F G : Nat → Nat → Value} {i k : Nat} {v : Value} (hi : i < C) (hk : k < z) (hv : G i k = v) (ho : ∀ j r, r < z → (j ≠ i ∨ r ≠ k) → G j r = F j r) : (sarr z C F).setIfInBounds (z * i + k) v = sarr z C G := by
  refine Array.ext_getElem? fun x => ?_
  rw [Array.getElem?_setIfInBounds, sarr_size]
  by_cases hx : x < z * C
  · have hz : 0 < z := by omega
    obtain ⟨j, r, rfl, hr⟩ : ∃ j r, x = z * j + r ∧ r < z := ⟨x / z, x % z, by rw [Nat.div_add_mod], Nat.mod_lt _ hz⟩
    have hj : j < C := by
      rcases Nat.lt_or_ge j C with q | q
      · exact q
      · have := Nat.mul_le_mul_left z q; omega
    rw [sarr_get hj hr, sarr_get hj hr]
    by_cases q : j = i
    · by_cases e : r = k
      · subst q; subst e; rw [if_pos rfl, if_pos hx, hv]
      · rw [if_neg (by subst q; omega), ho j r hr (.inr e)]
    · rw [if_neg, ho j r hr (.inl q)]
      intro e
      have := (div_mod (i := i) hk).1
      rw [e, (div_mod (i := j) hr).1] at this
      exact q this
  · rw [if_neg (by have := mul_lt hi hk; omega), Array.getElem?_eq_none (by rw [sarr_size]; omega), Array.getElem?_eq_none (by rw [sarr_size]; omega)]
/-- A taker's five cells. -/
def tv (τ : Tk) (k : Nat) : Value :=
  if k = 0 then τ.hv else if k = 1 then τ.wv else if k = 2 then .pointer (τ.pop.map fun x => ⟨x.1, 0, none⟩) else if k = 3 then .pointer (τ.push.map fun x => ⟨x.1, 0, none⟩) else .int .i64 τ.lays
def tarr (K : Nat) (T : Nat → Tk) : Array Value := sarr 5 K (fun i k => tv (T i) k)
theorem tarr_get {K : Nat} {T : Nat → Tk} {i k : Nat} (hi : i < K) (hk : k < 5) : (tarr K T)[5 * i + k]? = some (tv (T i) k) := sarr_get hi hk
theorem tarr_set {K : Nat} {T : Nat → Tk} {i k : Nat} {v : Value} {τ : Tk} (hi : i < K) (hk : k < 5) (h : ∀ j, j < 5 → tv τ j = if j = k then v else tv (T i) j) : (tarr K T).setIfInBounds (5 * i + k) v = tarr K (put T i τ) := by
  refine sarr_set hi hk ?_ (fun j r hr h2 => ?_)
  · show tv (put T i τ i) k = v
    rw [put_eq, h k hk, if_pos rfl]
  · show tv (put T i τ j) r = tv (T j) r
    by_cases e : j = i
    · subst e; rw [put_eq, h r hr]
      rw [if_neg (h2.resolve_left (fun k => k rfl))]
    · rw [put_ne e]
theorem tarr_congr {K : Nat} {T T' : Nat → Tk} (h : ∀ i, i < K → ∀ k, k < 5 → tv (T i) k = tv (T' i) k) : tarr K T = tarr K T' := by
  unfold tarr sarr
  refine Array.ext (by simp) fun x h1 h2 => ?_
  have hx : x < 5 * K := by simpa using h1
  simp only [Array.getElem_map, Array.getElem_range]
  exact h _ (by omega) _ (by omega)
theorem put_put {T : Nat → Tk} {i : Nat} {a b : Tk} : put (put T i a) i b = put T i b := by
  funext j; unfold put; split <;> simp_all
theorem five {P : Nat → Prop} (h0 : P 0) (h1 : P 1) (h2 : P 2) (h3 : P 3) (h4 : P 4) : ∀ j, j < 5 → P j := by
  intro j hj
  match j, hj with
  | 0, _ => exact h0
  | 1, _ => exact h1
  | 2, _ => exact h2
  | 3, _ => exact h3
  | 4, _ => exact h4
/-- What is left of a taker's work: cells of the world in which all began. -/
def WV (w0 : World) (v : Value) : Prop := ∃ (A : Option Addr) (n c : Nat) (g : Nat → Bool), v = .slice A n c ∧ n ≤ c ∧ Sl w0 A n 1 (fun i _ => .bool (g i))
structure TB (c : Cf) (w0 w : World) (lo B K : Nat) (T : Nat → Tk) : Prop where
  blk : Blk w B 74 (tarr K T)
  low : lo ≤ B
  pop : ∀ i, i < K → ∀ p q, (T i).pop = some (p, q) → PopB w p c q ∧ lo ≤ p
  push : ∀ i, i < K → ∀ p q, (T i).push = some (p, q) → PushB w p c q ∧ lo ≤ p
  has : ∀ i, i < K → IQ w lo (T i).hv (T i).h
  apH : ∀ i j, i < K → j < K → i ≠ j → ∀ k, (T i).hv.ownBlock = some k → (T j).hv.ownBlock ≠ some k
  apP : ∀ i j, i < K → j < K → i ≠ j → ∀ p q p' q', (T i).pop = some (p, q) → (T j).pop = some (p', q') → p ≠ p'
  apQ : ∀ i j, i < K → j < K → i ≠ j → ∀ p q p' q', (T i).push = some (p, q) → (T j).push = some (p', q') → p ≠ p'
  work : ∀ i, i < K → WV w0 (T i).wv
section
variable {c : Cf} {w0 w w' : World} {lo B K i N : Nat} {T : Nat → Tk} {τ : Tk} {S : Nat → Prop}
theorem TB.below (h : TB c w0 w lo B K T) (hb : Below N w w') (hN : w.heap.size ≤ N) : TB c w0 w' lo B K T :=
  ⟨h.blk.below hb (Nat.lt_of_lt_of_le h.blk.lt hN), h.low, (fun j hj p q a => ⟨Blk.below (h.pop j hj p q a).1 hb (Nat.lt_of_lt_of_le (Blk.lt (h.pop j hj p q a).1) hN), (h.pop j hj p q a).2⟩), (fun j hj p q a => ⟨Blk.below (h.push j hj p q a).1 hb (Nat.lt_of_lt_of_le (Blk.lt (h.push j hj p q a).1) hN), (h.push j hj p q a).2⟩), (fun j hj => (h.has j hj).below (hb.mono hN)), h.apH, h.apP, h.apQ, h.work⟩
/-- Behind a step of taker i. -/
theorem TB.set (h : TB c w0 w lo B K T) (hi : i < K) (hf : Fr S w w') (hb : Blk w' B 74 (tarr K (put T i τ)))
    (sp : ∀ j, j < K → j ≠ i → ∀ p q, (T j).pop = some (p, q) → ¬ S p) (sq : ∀ j, j < K → j ≠ i → ∀ p q, (T j).push = some (p, q) → ¬ S p) (sh : ∀ j, j < K → j ≠ i → ∀ k, (T j).hv.ownBlock = some k → ¬ S k)
    (hp : ∀ p q, τ.pop = some (p, q) → PopB w' p c q ∧ lo ≤ p ∧ ∀ j, j < K → j ≠ i → ∀ p2 q2, (T j).pop = some (p2, q2) → p2 ≠ p)
    (hq : ∀ p q, τ.push = some (p, q) → PushB w' p c q ∧ lo ≤ p ∧ ∀ j, j < K → j ≠ i → ∀ p2 q2, (T j).push = some (p2, q2) → p2 ≠ p)
    (hh : IQ w' lo τ.hv τ.h) (ha : ∀ j, j < K → j ≠ i → ∀ k, (T j).hv.ownBlock = some k → τ.hv.ownBlock ≠ some k) (hw : WV w0 τ.wv) : TB c w0 w' lo B K (put T i τ) := by
  refine ⟨hb, h.low, fun j hj p q a => ?_, fun j hj p q a => ?_, fun j hj => ?_, fun j l hj hl hne k a => ?_, fun j l hj hl hne p q p' q' a a' => ?_, fun j l hj hl hne p q p' q' a a' => ?_, fun j hj => ?_⟩
  · by_cases e : j = i
    · subst e; rw [put_eq] at a; exact ⟨(hp p q a).1, (hp p q a).2.1⟩
    · rw [put_ne e] at a; exact ⟨Blk.fr (h.pop j hj p q a).1 hf (sp j hj e p q a), (h.pop j hj p q a).2⟩
  · by_cases e : j = i
    · subst e; rw [put_eq] at a; exact ⟨(hq p q a).1, (hq p q a).2.1⟩
    · rw [put_ne e] at a; exact ⟨Blk.fr (h.push j hj p q a).1 hf (sq j hj e p q a), (h.push j hj p q a).2⟩
  · by_cases e : j = i
    · subst e; rw [put_eq]; exact hh
    · rw [put_ne e]; exact (h.has j hj).fr hf (sh j hj e)
  · by_cases e : j = i
    · subst e; rw [put_eq] at a
      have e2 : l ≠ j := fun k => hne k.symm
      rw [put_ne e2]
      exact fun k2 => ha l hl e2 k k2 a
    · rw [put_ne e] at a
      by_cases e2 : l = i
      · subst e2; rw [put_eq]; exact ha j hj e k a
      · rw [put_ne e2]; exact h.apH j l hj hl hne k a
  · by_cases e : j = i
    · subst e; rw [put_eq] at a
      have e2 : l ≠ j := fun k => hne k.symm
      rw [put_ne e2] at a'
      exact fun k => (hp p q a).2.2 l hl e2 p' q' a' k.symm
    · rw [put_ne e] at a
      by_cases e2 : l = i
      · subst e2; rw [put_eq] at a'; exact (hp p' q' a').2.2 j hj e p q a
      · rw [put_ne e2] at a'; exact h.apP j l hj hl hne p q p' q' a a'
  · by_cases e : j = i
    · subst e; rw [put_eq] at a
      have e2 : l ≠ j := fun k => hne k.symm
      rw [put_ne e2] at a'
      exact fun k => (hq p q a).2.2 l hl e2 p' q' a' k.symm
    · rw [put_ne e] at a
      by_cases e2 : l = i
      · subst e2; rw [put_eq] at a'; exact (hq p' q' a').2.2 j hj e p q a
      · rw [put_ne e2] at a'; exact h.apQ j l hj hl hne p q p' q' a a'
  · by_cases e : j = i
    · subst e; rw [put_eq]; exact hw
    · rw [put_ne e]; exact h.work j hj
/-- A type that is none of what a taker's step may write. -/
def okT (t : Nat) : Prop := t ≠ 74 ∧ t ≠ 124 ∧ t ≠ 33 ∧ t ≠ 66 ∧ t ≠ 137 ∧ t ≠ 3
def Keeps (lo : Nat) (w w' : World) : Prop := (∀ q t cs, okT t → Blk w q t cs → Blk w' q t cs) ∧ Below lo w w'
theorem Keeps.refl (lo : Nat) (w : World) : Keeps lo w w := ⟨fun _ _ _ _ h => h, Below.refl _ _⟩
theorem Keeps.trans {w1 : World} (h : Keeps lo w w1) (k : Keeps lo w1 w') : Keeps lo w w' := ⟨fun q t cs ht a => k.1 q t cs ht (h.1 q t cs ht a), h.2.trans k.2⟩
theorem keeps_below (hb : Below N w w') (hN : w.heap.size ≤ N) (hlo : lo ≤ w.heap.size) : Keeps lo w w' := ⟨fun q t cs _ h => h.below hb (Nat.lt_of_lt_of_le h.lt hN), hb.mono (Nat.le_trans hlo hN)⟩
theorem keeps_of (hf : Fr S w w') (hlo : lo ≤ w.heap.size) (hS : ∀ q, S q → lo ≤ q ∧ ∃ t cs, ¬ okT t ∧ Blk w q t cs) : Keeps lo w w' :=
  ⟨fun q t cs ht h => h.fr hf (fun s => by obtain ⟨_, t', cs', n, h'⟩ := hS q s; exact n ((blk_one h h').1 ▸ ht)),
    hf.below (fun k hk => ⟨Nat.lt_of_lt_of_le hk hlo, fun s => by have := (hS k s).1; omega⟩)⟩
theorem TB.lo_size (h : TB c w0 w lo B K T) : lo ≤ w.heap.size := by have := h.low; have := Blk.lt h.blk; omega
end
theorem two_typed {w : World} {m b : Nat} {M : Ms} (hM : MemB w m b M) (hn : 0 < M.n) : ∀ q, two m b q → (∃ cs, Blk w q 124 cs) ∨ ∃ cs, Blk w q 33 cs := by
  obtain ⟨A, c, g1, _, g3⟩ := hM.blk
  obtain ⟨_, cs', g4, _⟩ := g3 hn
  rintro q (rfl | rfl)
  · exact .inl ⟨_, g1⟩
  · exact .inr ⟨_, g4⟩
theorem not_two_of {w : World} {m b B t : Nat} {M : Ms} {cs : Array Value} (hM : MemB w m b M) (hn : 0 < M.n) (h : Blk w B t cs) (h1 : t ≠ 124) (h2 : t ≠ 33) : ¬ two m b B := fun s => by
  rcases two_typed hM hn B s with ⟨cs', h'⟩ | ⟨cs', h'⟩
  · exact h1 (blk_one h h').1
  · exact h2 (blk_one h h').1
/-- The law's own list of free slots, in a block of its own. -/
theorem refListQ (c : Cf) (w : World) (A : Option Addr) (cc b n : Nat) (f : Nat → Int) (hf : U f) (h : c.right = true) (hn : (n : Int) = c.size) (hR : RowB w A cc b n f) : Calls Try.prog 30 #[.agg #[.int .i64 c.S, .int .i64 c.A, .int .i64 c.C, .int .i64 c.H, .int .i64 c.G, .int .i64 c.K], .slice A n cc] w fun e w' =>
    ∃ v, e = .returned v ∧ IQ w' w.heap.size v (listV c f) ∧ Below w.heap.size w w' := by
  have hb := size_bd h
  obtain ⟨rfl, hc, hR'⟩ := rd_of_row hR (by unfold Cf.size at hn; omega)
  obtain ⟨S, X, C, H, G, K⟩ := c
  have h' : rightB S X C H G K = true := h
  have hr := right_iff.1 h'
  obtain ⟨s, rfl⟩ := Int.eq_ofNat_of_zero_le (show 0 ≤ S by omega)
  obtain ⟨c, rfl⟩ := Int.eq_ofNat_of_zero_le (show 0 ≤ C by omega)
  obtain ⟨hh, rfl⟩ := Int.eq_ofNat_of_zero_le (show 0 ≤ H by omega)
  have hn' : (n : Int) = sizeV s X c hh := hn
  have hC := C_of_rd hR' (by unfold Cf.size at hn; omega)
  have hlen : ((List.range n).map f).length = n := by simp
  have hcl := withyref07_List.calls 3000 s X c hh G K (some ⟨b, 0, none⟩) cc ((List.range n).map f) _ w hC (by rw [hlen]; exact hc) (ref_f s c hh X G K f hf n h hn')
  rw [hlen] at hcl
  refine hcl.mono ?_
  rintro e w' ⟨v, rfl, hv, hbl⟩
  exact ⟨v, rfl, Kd.Q_mono (Kd.Q_of_R hv) (fun _ _ => trivial), hbl⟩
end Go.Proofs.Ytijfkpoofpcacaa.TakerT
set_option linter.unusedVariables false
set_option linter.unusedSectionVars false
namespace Go.Proofs.Ytijfkpoofpcacaa.TakerV
open Go.RowKit Go.Proofs.YtijfkpoofpcacaaW.PrintWords Go.Proofs.Ytijfkpoofpcacaa.Blk Go.Proofs.Ytijfkpoofpcacaa.Core Go.Proofs.Ytijfkpoofpcacaa.MemC Go.Proofs.Ytijfkpoofpcacaa.MemD Go.Proofs.Ytijfkpoofpcacaa.MemT Go.Proofs.Ytijfkpoofpcacaa.Memory Go.Proofs.Ytijfkpoofpcacaa.PlanC Go.Proofs.Ytijfkpoofpcacaa.PlanD Go.Proofs.Ytijfkpoofpcacaa.StackC Go.Proofs.Ytijfkpoofpcacaa.StackL Go.Proofs.Ytijfkpoofpcacaa.StackS Go.Proofs.Ytijfkpoofpcacaa.StackT Go.Proofs.Ytijfkpoofpcacaa.StackF Go.Proofs.Ytijfkpoofpcacaa.StackP Go.Proofs.Ytijfkpoofpcacaa.StackQ Go.Proofs.Ytijfkpoofpcacaa.StackG Go.Proofs.Ytijfkpoofpcacaa.StackI Go.Proofs.Ytijfkpoofpcacaa.QueueI Go.Proofs.Ytijfkpoofpcacaa.TakerL Go.Proofs.Ytijfkpoofpcacaa.TakerM Go.Proofs.Ytijfkpoofpcacaa.TakerS Go.Proofs.Ytijfkpoofpcacaa.TakerT Go.Proofs.Ytijfkpoofpcacaa.Opens
theorem popM_t (c : Cf) (q : Pop) (M : Ms) : (popM c q M).t ≤ M.t + 1 ∧ (popM c q M).n = M.n := by
  have a1 : ∀ a, (M.ldS a).t ≤ M.t + 1 ∧ (M.ldS a).n = M.n := fun a => by unfold Ms.ldS; split <;> first | exact ⟨Int.le_refl _, rfl⟩ | exact ⟨by omega, rfl⟩
  have a2 : ∀ a o v, (M.swS a o v).t ≤ M.t + 1 ∧ (M.swS a o v).n = M.n := fun a o v => by unfold Ms.swS; split <;> first | exact ⟨Int.le_refl _, rfl⟩ | exact ⟨by omega, rfl⟩
  unfold popM
  split
  · exact a1 _
  · split
    · exact a1 _
    · split
      · exact a2 _ _ _
      · exact ⟨by omega, rfl⟩
theorem pushM_t (c : Cf) (q : Push) (M : Ms) : (pushM c q M).t ≤ M.t + 1 ∧ (pushM c q M).n = M.n := by
  have a1 : ∀ a, (M.ldS a).t ≤ M.t + 1 ∧ (M.ldS a).n = M.n := fun a => by unfold Ms.ldS; split <;> first | exact ⟨Int.le_refl _, rfl⟩ | exact ⟨by omega, rfl⟩
  have a3 : ∀ a v, (M.stS a v).t ≤ M.t + 1 ∧ (M.stS a v).n = M.n := fun a v => by unfold Ms.stS; split <;> first | exact ⟨Int.le_refl _, rfl⟩ | exact ⟨by omega, rfl⟩
  have a2 : ∀ a o v, (M.swS a o v).t ≤ M.t + 1 ∧ (M.swS a o v).n = M.n := fun a o v => by unfold Ms.swS; split <;> first | exact ⟨Int.le_refl _, rfl⟩ | exact ⟨by omega, rfl⟩
  unfold pushM
  split
  · exact a1 _
  · split
    · exact a3 _ _
    · split
      · exact a2 _ _ _
      · exact ⟨by omega, rfl⟩
theorem popM_fine {c : Cf} {q : Pop} {M : Ms} {n T : Nat} (h : Fine M n T) (hq : PopOk q) : Fine (popM c q M) n (T + 1) := by
  have hb := movedV_bd q.tp q.nx hq.t0
  unfold popM
  split
  · exact h.ld _
  · split
    · exact h.ld _
    · split
      · exact h.sw _ _ hb.1 hb.2
      · exact h.mono (by omega)
theorem pushM_fine {c : Cf} {q : Push} {M : Ms} {n T : Nat} (hr : c.right = true) (h : Fine M n T) (hq : PushOk q) : Fine (pushM c q M) n (T + 1) := by
  have hb := movedV_bd q.tp q.sl hq.t0
  have h1 := firstI_bd c.S q.tp
  have hS := S_bd hr
  unfold pushM
  split
  · exact h.ld _
  · split
    · exact h.st _ (by omega) (by have := h1.2 (by omega); omega)
    · split
      · exact h.sw _ _ hb.1 hb.2
      · exact h.mono (by omega)
section
variable {c : Cf} {w0 w w' : World} {lo B K i m b p : Nat} {T : Nat → Tk} {M : Ms}
theorem three_typed {t : Nat} {cs : Array Value} (hM : MemB w m b M) (hn : 0 < M.n) (hp : Blk w p t cs) : ∀ q, three p m b q → ∃ t' cs', (t' = t ∨ t' = 124 ∨ t' = 33) ∧ Blk w q t' cs' := by
  rintro q (rfl | h)
  · exact ⟨_, _, .inl rfl, hp⟩
  · rcases two_typed hM hn q h with ⟨cs', h'⟩ | ⟨cs', h'⟩
    · exact ⟨_, _, .inr (.inl rfl), h'⟩
    · exact ⟨_, _, .inr (.inr rfl), h'⟩
theorem not_three_of {t t' q : Nat} {cs cs' : Array Value} (hM : MemB w m b M) (hn : 0 < M.n) (hp : Blk w p t cs) (h : Blk w q t' cs') (h1 : t' ≠ t) (h2 : t' ≠ 124) (h3 : t' ≠ 33) : ¬ three p m b q := by
  intro s
  obtain ⟨t2, cs2, ht, hb⟩ := three_typed hM hn hp q s
  have := (blk_one h hb).1
  rcases ht with rfl | rfl | rfl
  · exact h1 this
  · exact h2 this
  · exact h3 this
theorem IQ.three {t lu : Nat} {u : Value} {xs : List Int} {cs : Array Value} (h : IQ w lu u xs) (hM : MemB w m b M) (hn : 0 < M.n) (hp : Blk w p t cs) (ht : t ≠ 3) (hf : Fr (three p m b) w w') : IQ w' lu u xs :=
  h.fr hf (fun k hk => by obtain ⟨_, _, cs', h2⟩ := h.typed k hk; exact not_three_of hM hn hp h2 (fun e => ht e.symm) (by decide) (by decide))
theorem keeps_three {t : Nat} {cs : Array Value} (hM : MemB w m b M) (hn : 0 < M.n) (hp : Blk w p t cs) (ht : ¬ okT t) (hf : Fr (three p m b) w w') (lp : lo ≤ p) (lm : lo ≤ m) (lb : lo ≤ b) (hlo : lo ≤ w.heap.size) : Keeps lo w w' := by
  refine keeps_of hf hlo (fun q s => ?_)
  obtain ⟨t2, cs2, h2, h3⟩ := three_typed hM hn hp q s
  refine ⟨by rcases s with rfl | rfl | rfl <;> omega, t2, cs2, ?_, h3⟩
  rcases h2 with rfl | rfl | rfl
  · exact ht
  · exact fun o => o.2.1 rfl
  · exact fun o => o.2.2.1 rfl
theorem TB.popStep {q q' : Pop} (h : TB c w0 w lo B K T) (hi : i < K) (hM : MemB w m b M) (hn : 0 < M.n) (hp : (T i).pop = some (p, q)) (hf : Fr (three p m b) w w') (hp' : PopB w' p c q') : TB c w0 w' lo B K (put T i ⟨(T i).hv, (T i).h, (T i).wv, some (p, q'), (T i).push, (T i).lays⟩) := by
  obtain ⟨hb, lp⟩ := h.pop i hi p q hp
  have k1 : ∀ {q' t cs}, Blk w q' t cs → t ≠ 66 → t ≠ 124 → t ≠ 33 → ¬ three p m b q' := fun h0 a1 a2 a3 => not_three_of hM hn hb h0 a1 a2 a3
  refine h.set hi hf ?_ (fun j hj hne p2 q2 a s => ?_) (fun j hj hne p2 q2 a => k1 (h.push j hj p2 q2 a).1 (by decide) (by decide) (by decide)) (fun j hj hne k a => ?_) (fun p2 q2 a => ?_) (fun p2 q2 a => ?_) ?_ (fun j hj hne k a => h.apH j i hj hi hne k a) (h.work i hi)
  · rw [tarr_congr (T' := T)]
    · exact h.blk.fr hf (k1 h.blk (by decide) (by decide) (by decide))
    · intro j hj k hk
      by_cases e : j = i
      · subst e; rw [put_eq]; revert k; refine five rfl rfl ?_ rfl rfl; show Value.pointer _ = Value.pointer _; rw [hp]; rfl
      · rw [put_ne e]
  · have hb2 := (h.pop j hj p2 q2 a).1
    rcases s with e | s
    · exact h.apP j i hj hi hne p2 q2 p q a hp e
    · rcases two_typed hM hn p2 s with ⟨cs', h'⟩ | ⟨cs', h'⟩
      · exact absurd (blk_one hb2 h').1 (by decide)
      · exact absurd (blk_one hb2 h').1 (by decide)
  · obtain ⟨_, _, cs', h2⟩ := (h.has j hj).typed k a
    exact k1 h2 (by decide) (by decide) (by decide)
  · cases a; exact ⟨hp', lp, fun j hj hne p2 q2 a2 => h.apP j i hj hi hne p2 q2 p q a2 hp⟩
  · have hb2 := h.push i hi p2 q2 a
    exact ⟨Blk.fr hb2.1 hf (k1 hb2.1 (by decide) (by decide) (by decide)), hb2.2, fun j hj hne p3 q3 a3 => h.apQ j i hj hi hne p3 q3 p2 q2 a3 a⟩
  · exact IQ.three (h.has i hi) hM hn hb (by decide) hf
theorem TB.pushStep {q q' : Push} (h : TB c w0 w lo B K T) (hi : i < K) (hM : MemB w m b M) (hn : 0 < M.n) (hp : (T i).push = some (p, q)) (hf : Fr (three p m b) w w') (hp' : PushB w' p c q') : TB c w0 w' lo B K (put T i ⟨(T i).hv, (T i).h, (T i).wv, (T i).pop, some (p, q'), (T i).lays⟩) := by
  obtain ⟨hb, lp⟩ := h.push i hi p q hp
  have k1 : ∀ {q' t cs}, Blk w q' t cs → t ≠ 137 → t ≠ 124 → t ≠ 33 → ¬ three p m b q' := fun h0 a1 a2 a3 => not_three_of hM hn hb h0 a1 a2 a3
  refine h.set hi hf ?_ (fun j hj hne p2 q2 a => k1 (h.pop j hj p2 q2 a).1 (by decide) (by decide) (by decide)) (fun j hj hne p2 q2 a s => ?_) (fun j hj hne k a => ?_) (fun p2 q2 a => ?_) (fun p2 q2 a => ?_) ?_ (fun j hj hne k a => h.apH j i hj hi hne k a) (h.work i hi)
  · rw [tarr_congr (T' := T)]
    · exact h.blk.fr hf (k1 h.blk (by decide) (by decide) (by decide))
    · intro j hj k hk
      by_cases e : j = i
      · subst e; rw [put_eq]; revert k; refine five rfl rfl rfl ?_ rfl; show Value.pointer _ = Value.pointer _; rw [hp]; rfl
      · rw [put_ne e]
  · have hb2 := (h.push j hj p2 q2 a).1
    rcases s with e | s
    · exact h.apQ j i hj hi hne p2 q2 p q a hp e
    · rcases two_typed hM hn p2 s with ⟨cs', h'⟩ | ⟨cs', h'⟩
      · exact absurd (blk_one hb2 h').1 (by decide)
      · exact absurd (blk_one hb2 h').1 (by decide)
  · obtain ⟨_, _, cs', h2⟩ := (h.has j hj).typed k a
    exact k1 h2 (by decide) (by decide) (by decide)
  · have hb2 := h.pop i hi p2 q2 a
    exact ⟨Blk.fr hb2.1 hf (k1 hb2.1 (by decide) (by decide) (by decide)), hb2.2, fun j hj hne p3 q3 a3 => h.apP j i hj hi hne p3 q3 p2 q2 a3 a⟩
  · cases a; exact ⟨hp', lp, fun j hj hne p2 q2 a2 => h.apQ j i hj hi hne p2 q2 p q a2 hp⟩
  · exact IQ.three (h.has i hi) hM hn hb (by decide) hf
end
section
variable {c : Cf} {w0 w w' : World} {lo B K i : Nat} {T : Nat → Tk} {τ : Tk} {hv' : Value} {x : Int}
theorem ne_taker' {q t : Nat} {cs cs' : Array Value} (hB : Blk w B 74 cs') (h : Blk w q t cs) (ht : t ≠ 74) : ¬ q = B := by
  intro e; subst e; exact ht (blk_one h hB).1
/-- Behind an end: the machine is gone, the queue is as it was. -/
theorem TB.over (h : TB c w0 w lo B K T) (hi : i < K) (hf : Fr (fun k => k = B) w w') (hb : Blk w' B 74 (tarr K (put T i ⟨(T i).hv, (T i).h, (T i).wv, none, none, (T i).lays⟩))) : TB c w0 w' lo B K (put T i ⟨(T i).hv, (T i).h, (T i).wv, none, none, (T i).lays⟩) ∧ Keeps lo w w' := by
  have k1 : ∀ {lo v xs}, IQ w lo v xs → ∀ k, v.ownBlock = some k → ¬ k = B := by
    intro lo v xs a k hk
    obtain ⟨_, _, cs', h2⟩ := a.typed k hk
    exact ne_taker' h.blk h2 (by decide)
  refine ⟨h.set hi hf hb (fun j hj _ p q a => ne_taker' h.blk (h.pop j hj p q a).1 (by decide)) (fun j hj _ p q a => ne_taker' h.blk (h.push j hj p q a).1 (by decide)) (fun j hj _ k a => k1 (h.has j hj) k a) (fun p q a => by cases a) (fun p q a => by cases a) ((h.has i hi).fr hf (k1 (h.has i hi))) (fun j hj hne k a => h.apH j i hj hi hne k a) (h.work i hi),
    keeps_of hf h.lo_size (by rintro q rfl; exact ⟨h.low, _, _, (fun o => o.1 rfl), h.blk⟩)⟩
/-- Behind an end: the machine is gone, the queue is longer. -/
theorem TB.overTake (h : TB c w0 w lo B K T) (hi : i < K) (hf : Fr (fun k => k = B ∨ some k = (T i).hv.ownBlock) w w') (hb : Blk w' B 74 (tarr K (put T i ⟨hv', (T i).h ++ [x], (T i).wv, none, none, (T i).lays⟩)))
    (hq : IQ w' lo hv' ((T i).h ++ [x])) (ho : hv'.ownBlock = (T i).hv.ownBlock ∨ ∃ b, hv'.ownBlock = some b ∧ w.heap.size ≤ b) : TB c w0 w' lo B K (put T i ⟨hv', (T i).h ++ [x], (T i).wv, none, none, (T i).lays⟩) ∧ Keeps lo w w' := by
  have k1 : ∀ {q t cs}, Blk w q t cs → t ≠ 74 → t ≠ 3 → ¬ (q = B ∨ some q = (T i).hv.ownBlock) := by
    rintro q t cs a h1 h2 (e | e)
    · exact ne_taker' h.blk a h1 e
    · obtain ⟨_, _, cs', h3⟩ := (h.has i hi).typed q e.symm
      exact h2 (blk_one a h3).1
  refine ⟨h.set hi hf hb (fun j hj _ p q a => k1 (h.pop j hj p q a).1 (by decide) (by decide)) (fun j hj _ p q a => k1 (h.push j hj p q a).1 (by decide) (by decide)) (fun j hj hne k a s => ?_) (fun p q a => by cases a) (fun p q a => by cases a) hq (fun j hj hne k a => ?_) (h.work i hi), keeps_of hf h.lo_size (fun q s => ?_)⟩
  · rcases s with e | e
    · obtain ⟨_, _, cs', h3⟩ := (h.has j hj).typed k a
      exact ne_taker' h.blk h3 (by decide) e
    · exact h.apH j i hj hi hne k a e.symm
  · rcases ho with e | ⟨b, e, l⟩
    · rw [e]; exact h.apH j i hj hi hne k a
    · rw [e]
      intro e2
      have := ((h.has j hj).typed k a).2.1
      cases e2
      omega
  · rcases s with rfl | e
    · exact ⟨h.low, _, _, (fun o => o.1 rfl), h.blk⟩
    · obtain ⟨h1, _, cs', h3⟩ := (h.has i hi).typed q e.symm
      exact ⟨h1, _, _, (fun o => o.2.2.2.2.2 rfl), h3⟩
end
end Go.Proofs.Ytijfkpoofpcacaa.TakerV
set_option linter.unusedVariables false
set_option linter.unusedSectionVars false
set_option linter.unusedSimpArgs false
namespace Go.Proofs.Ytijfkpoofpcacaa.TakerU
open Go.RowKit Go.Proofs.YtijfkpoofpcacaaW.PrintWords Go.Proofs.Ytijfkpoofpcacaa.Blk Go.Proofs.Ytijfkpoofpcacaa.Core Go.Proofs.Ytijfkpoofpcacaa.MemC Go.Proofs.Ytijfkpoofpcacaa.MemD Go.Proofs.Ytijfkpoofpcacaa.MemT Go.Proofs.Ytijfkpoofpcacaa.Memory Go.Proofs.Ytijfkpoofpcacaa.PlanC Go.Proofs.Ytijfkpoofpcacaa.PlanD Go.Proofs.Ytijfkpoofpcacaa.StackC Go.Proofs.Ytijfkpoofpcacaa.StackL Go.Proofs.Ytijfkpoofpcacaa.StackS Go.Proofs.Ytijfkpoofpcacaa.StackT Go.Proofs.Ytijfkpoofpcacaa.StackF Go.Proofs.Ytijfkpoofpcacaa.StackP Go.Proofs.Ytijfkpoofpcacaa.StackQ Go.Proofs.Ytijfkpoofpcacaa.StackG Go.Proofs.Ytijfkpoofpcacaa.StackI Go.Proofs.Ytijfkpoofpcacaa.QueueI Go.Proofs.Ytijfkpoofpcacaa.TakerL Go.Proofs.Ytijfkpoofpcacaa.TakerM Go.Proofs.Ytijfkpoofpcacaa.TakerS Go.Proofs.Ytijfkpoofpcacaa.TakerT Go.Proofs.Ytijfkpoofpcacaa.TakerV Go.Proofs.Ytijfkpoofpcacaa.Opens
attribute [local go_sem ↓] Go.wp_at_zero Go.wp_at_succ
theorem TB.put1 {c : Cf} {w0 w : World} {lo B K i k : Nat} {T : Nat → Tk} {τ : Tk} {v : Value} (h : TB c w0 w lo B K T) (hi : i < K) (hk : k < 5) (hc : ∀ j, j < 5 → tv τ j = if j = k then v else tv (T i) j)
    (hp : ∀ p q, τ.pop = some (p, q) → PopB w p c q ∧ lo ≤ p ∧ ∀ j, j < K → j ≠ i → ∀ p2 q2, (T j).pop = some (p2, q2) → p2 ≠ p)
    (hq : ∀ p q, τ.push = some (p, q) → PushB w p c q ∧ lo ≤ p ∧ ∀ j, j < K → j ≠ i → ∀ p2 q2, (T j).push = some (p2, q2) → p2 ≠ p)
    (hh : IQ w lo τ.hv τ.h) (ha : ∀ j, j < K → j ≠ i → ∀ k, (T j).hv.ownBlock = some k → τ.hv.ownBlock ≠ some k) (hw : WV w0 τ.wv) : TB c w0 (w.setCell ⟨B, 5 * i + k, none⟩ v) lo B K (put T i τ) ∧ Keeps lo w (w.setCell ⟨B, 5 * i + k, none⟩ v) ∧ Fr (fun k => k = B) w (w.setCell ⟨B, 5 * i + k, none⟩ v) := by
  have hf := Fr.set (fun k => k = B) w (p := ⟨B, 5 * i + k, none⟩) rfl v
  have nB : ∀ {q t cs}, Blk w q t cs → t ≠ 74 → ¬ q = B := by
    intro q t cs a ht e; subst e; exact ht (blk_one a h.blk).1
  have nQ : ∀ {v xs}, IQ w lo v xs → ∀ k, v.ownBlock = some k → ¬ k = B := by
    intro v xs a k hk
    obtain ⟨_, _, cs, hb⟩ := a.typed k hk
    exact nB hb (by decide)
  refine ⟨h.set hi hf ?_ (fun j hj _ p q a => nB (h.pop j hj p q a).1 (by decide)) (fun j hj _ p q a => nB (h.push j hj p q a).1 (by decide)) (fun j hj _ k a => nQ (h.has j hj) k a)
    (fun p q a => ⟨Blk.fr (hp p q a).1 hf (nB (hp p q a).1 (by decide)), (hp p q a).2⟩) (fun p q a => ⟨Blk.fr (hq p q a).1 hf (nB (hq p q a).1 (by decide)), (hq p q a).2⟩) (hh.fr hf (nQ hh)) ha hw,
    keeps_of hf h.lo_size (by rintro q rfl; exact ⟨h.low, _, _, (fun o => o.1 rfl), h.blk⟩), hf⟩
  rw [← tarr_set hi hk hc]
  exact h.blk.set _ _
theorem TB.pop_lt {c : Cf} {w0 w : World} {lo B K : Nat} {T : Nat → Tk} (h : TB c w0 w lo B K T) : ∀ j, j < K → ∀ p q, (T j).pop = some (p, q) → p < w.heap.size := fun j hj p q a => Blk.lt (h.pop j hj p q a).1
theorem TB.push_lt {c : Cf} {w0 w : World} {lo B K : Nat} {T : Nat → Tk} (h : TB c w0 w lo B K T) : ∀ j, j < K → ∀ p q, (T j).push = some (p, q) → p < w.heap.size := fun j hj p q a => Blk.lt (h.push j hj p q a).1
theorem keepS {w : World} {CF B o : Nat} {x : Int} {c : Cf} {v : Value} (hne : CF ≠ B) (h : (w.cell? ⟨CF, 0, none⟩ = some (.int .i64 c.S) ∧ w.cell? ⟨CF, 1, none⟩ = some (.int .i64 c.A) ∧ w.cell? ⟨CF, 2, none⟩ = some (.int .i64 c.C) ∧ w.cell? ⟨CF, 3, none⟩ = some (.int .i64 c.H) ∧ w.cell? ⟨CF, 4, none⟩ = some (.int .i64 c.G) ∧ w.cell? ⟨CF, 5, none⟩ = some (.int .i64 c.K)) ∧ w.cell? ⟨B, o + 4, none⟩ = some (.int .i64 x)) : ((w.setCell ⟨B, o + 3, none⟩ v).cell? ⟨CF, 0, none⟩ = some (.int .i64 c.S) ∧ (w.setCell ⟨B, o + 3, none⟩ v).cell? ⟨CF, 1, none⟩ = some (.int .i64 c.A) ∧ (w.setCell ⟨B, o + 3, none⟩ v).cell? ⟨CF, 2, none⟩ = some (.int .i64 c.C) ∧ (w.setCell ⟨B, o + 3, none⟩ v).cell? ⟨CF, 3, none⟩ = some (.int .i64 c.H) ∧ (w.setCell ⟨B, o + 3, none⟩ v).cell? ⟨CF, 4, none⟩ = some (.int .i64 c.G) ∧ (w.setCell ⟨B, o + 3, none⟩ v).cell? ⟨CF, 5, none⟩ = some (.int .i64 c.K)) ∧ (w.setCell ⟨B, o + 3, none⟩ v).cell? ⟨B, o + 4, none⟩ = some (.int .i64 x) := by
  have e : ∀ k, (w.setCell ⟨B, o + 3, none⟩ v).cell? ⟨CF, k, none⟩ = w.cell? ⟨CF, k, none⟩ := fun k => World.cell?_setCell_other _ _ _ _ (fun e => hne (congrArg Addr.block e).symm)
  simp only [e]
  exact ⟨h.1, by rw [cell_off (by omega)]; exact h.2⟩
theorem TB.hv_lt {c : Cf} {w0 w : World} {lo B K : Nat} {T : Nat → Tk} (h : TB c w0 w lo B K T) : ∀ j, j < K → ∀ k, (T j).hv.ownBlock = some k → k < w.heap.size := fun j hj k a => ((h.has j hj).typed k a).2.1
theorem IQ.ne_taker {w : World} {lo B : Nat} {v : Value} {xs : List Int} {cs : Array Value} (h : IQ w lo v xs) (hB : Blk w B 74 cs) : ∀ k, v.ownBlock = some k → ¬ k = B := by
  intro k hk e
  subst e
  obtain ⟨_, _, cs', h2⟩ := h.typed k hk
  exact absurd (blk_one hB h2).1 (by decide)
/-- Behind a step. -/
def After (c : Cf) (w0 w w' : World) (lo B K m b n T : Nat) (t : Int) : Prop := ∃ (M' : Ms) (T' : Nat → Tk) (t' : Int) (L' : List Int) (own' : Int → Nat), t' ≤ t + 1 ∧ MemB w' m b M' ∧ Fine M' n (T + 1) ∧ TB c w0 w' lo B K T' ∧ TI c M'.f t' L' K T' own' ∧ Keeps lo w w'
section
variable {c : Cf} (hr : c.right = true) {w0 w : World} {B m b n T lo K i o : Nat} {M : Ms} {Tf : Nat → Tk} {own : Int → Nat} {t : Int} {L : List Int} (hM : MemB w m b M) (hf : Fine M n T) (hn : (n : Int) = c.size) (hT : T ≤ 1000000) (hi : i < K) (ho : o = 5 * i) (hB : TB c w0 w lo B K Tf) (hI : TI c M.f t L K Tf own) (ht : t + 1 < 281474976710656) (lm : lo ≤ m) (lb : lo ≤ b) (h0 : Below w0.heap.size w0 w) (hlo : w0.heap.size ≤ lo)
include hr hM hf hn hT hi ho hB hI ht lm lb h0 hlo
set_option maxHeartbeats 4000000 in
set_option maxRecDepth 100000 in
theorem takerStep : Calls Try.prog 48 #[.pointer (some ⟨B, o, none⟩), .agg #[.int .i64 c.S, .int .i64 c.A, .int .i64 c.C, .int .i64 c.H, .int .i64 c.G, .int .i64 c.K], .pointer (some ⟨m, 0, none⟩)] w fun e w' =>
    e = .returned (.bool true) ∧ After c w0 w w' lo B K m b n T t := by
  have hn8 : 9 ≤ n ∧ n ≤ 800 := by have := size_bd hr; unfold Cf.size at hn; omega
  have hn0 : 0 < M.n := by rw [hf.n]; omega
  have hU := Lib.hid hf.u
  have hnn := Lib.hid hf.n
  have hSb := S_bd hr
  have f0 := hf.t0
  have f1 := hf.t
  have hL64 : L.length ≤ 64 := by have := hI.stk.len hr; omega
  have los := hB.lo_size
  have hbx := Below.alloc (Below.refl w.heap.size w) (Nat.le_refl _) (.cells #[.int .i64 c.S, .int .i64 c.A, .int .i64 c.C, .int .i64 c.H, .int .i64 c.G, .int .i64 c.K] 23)
  have hK := Lib.hid (keeps_below hbx (Nat.le_refl _) los)
  have hcf := Lib.hid (Blk.new w 23 #[.int .i64 c.S, .int .i64 c.A, .int .i64 c.C, .int .i64 c.H, .int .i64 c.G, .int .i64 c.K])
  replace hM := Lib.hid (hM.alloc (.cells #[.int .i64 c.S, .int .i64 c.A, .int .i64 c.C, .int .i64 c.H, .int .i64 c.G, .int .i64 c.K] 23))
  replace hf := Lib.hid hf
  replace hB := Lib.hid (hB.below hbx (Nat.le_refl _))
  replace h0 := Lib.hid h0
  replace hn := Lib.hid hn
  replace ho := Lib.hid ho
  clear hbx
  go_enter Try.func48, Try.ntmps48
  go_upto_region 1 with (fail)
  generalize w.heap.size = CF at *
  generalize w.alloc (.cells #[.int .i64 c.S, .int .i64 c.A, .int .i64 c.C, .int .i64 c.H, .int .i64 c.G, .int .i64 c.K] 23) = w1 at *
  replace hM := Lib.hid hM.out.drew
  replace hcf := Lib.hid (Blk.drew hcf.out)
  have hbd := (Below.refl w1.heap.size w1).drew
  have lz := hB.out.lo_size
  replace hB := Lib.hid (hB.out.below hbd (Nat.le_refl _))
  replace hK := Lib.hid (hK.out.trans (keeps_below hbd (Nat.le_refl _) lz))
  clear lz
  have hX : w1.drew.cell? ⟨CF, 0, none⟩ = some (.int .i64 c.S) ∧ w1.drew.cell? ⟨CF, 1, none⟩ = some (.int .i64 c.A) ∧ w1.drew.cell? ⟨CF, 2, none⟩ = some (.int .i64 c.C) ∧ w1.drew.cell? ⟨CF, 3, none⟩ = some (.int .i64 c.H) ∧ w1.drew.cell? ⟨CF, 4, none⟩ = some (.int .i64 c.G) ∧ w1.drew.cell? ⟨CF, 5, none⟩ = some (.int .i64 c.K) := cfgs hcf.out
  clear hbd
  go_region_held3 (fun w' => w'.cell? ⟨CF, 0, none⟩ = some (.int .i64 c.S) ∧ w'.cell? ⟨CF, 1, none⟩ = some (.int .i64 c.A) ∧ w'.cell? ⟨CF, 2, none⟩ = some (.int .i64 c.C) ∧ w'.cell? ⟨CF, 3, none⟩ = some (.int .i64 c.H) ∧ w'.cell? ⟨CF, 4, none⟩ = some (.int .i64 c.G) ∧ w'.cell? ⟨CF, 5, none⟩ = some (.int .i64 c.K)) (assumption) (first
      | (go_at_call 24; refine (words_n _ m b n _ hM.out hnn.out (by omega)).mono ?_; rintro e u1 ⟨A1, cc1, b1, rfl, _, hR1, hb'⟩; have lz := hB.out.lo_size; replace hB := Lib.hid (hB.out.below hb' (Nat.le_refl _)); replace hM := Lib.hid (hM.out.next hb'); replace hK := Lib.hid (hK.out.trans (keeps_below hb' (Nat.le_refl _) lz)); replace hcf := Lib.hid (Blk.below hcf.out hb' (Blk.lt hcf.out)); have zz := hb'.size; clear lz; have hY1 : u1.cell? ⟨CF, 0, none⟩ = some (.int .i64 c.S) ∧ u1.cell? ⟨CF, 1, none⟩ = some (.int .i64 c.A) ∧ u1.cell? ⟨CF, 2, none⟩ = some (.int .i64 c.C) ∧ u1.cell? ⟨CF, 3, none⟩ = some (.int .i64 c.H) ∧ u1.cell? ⟨CF, 4, none⟩ = some (.int .i64 c.G) ∧ u1.cell? ⟨CF, 5, none⟩ = some (.int .i64 c.K) := cfgs hcf.out; replace hR1 := Lib.hid hR1; clear hb' zz)
      | (go_at_call 30; refine (refListQ c _ A1 cc1 b1 n _ hU.out hr hn.out hR1.out).mono ?_; rintro e wr ⟨u, rfl, hLu, hb'⟩; have hlu := Lib.hid (TB.hv_lt hB.out); rw [hI.stk.list hr] at hLu; have lz := hB.out.lo_size; replace hB := Lib.hid (hB.out.below hb' (Nat.le_refl _)); replace hM := Lib.hid (hM.out.next hb'); replace hK := Lib.hid (hK.out.trans (keeps_below hb' (Nat.le_refl _) lz)); replace hcf := Lib.hid (Blk.below hcf.out hb' (Blk.lt hcf.out)); have zz := hb'.size; clear lz; have hY2 : wr.cell? ⟨CF, 0, none⟩ = some (.int .i64 c.S) ∧ wr.cell? ⟨CF, 1, none⟩ = some (.int .i64 c.A) ∧ wr.cell? ⟨CF, 2, none⟩ = some (.int .i64 c.C) ∧ wr.cell? ⟨CF, 3, none⟩ = some (.int .i64 c.H) ∧ wr.cell? ⟨CF, 4, none⟩ = some (.int .i64 c.G) ∧ wr.cell? ⟨CF, 5, none⟩ = some (.int .i64 c.K) := cfgs hcf.out; have hu := Lib.hid hLu; clear hLu; clear hb' zz))
  all_goals
    go_upto_region 3 with (go_at_call 26; refine (touches_c _ m b _ hM.out).mono ?_; rintro e w3 ⟨rfl, rfl⟩)
    clear hX hY1 hY2 hR1
    generalize u1.heap.size = lu at *
    have y0 : wr.cell? ⟨B, o, none⟩ = some (tv (Tf i) 0) := by rw [ho.out]; exact hB.out.blk.cell (tarr_get (k := 0) hi (by decide))
    have y1 : wr.cell? ⟨B, o + 1, none⟩ = some (tv (Tf i) 1) := by rw [ho.out]; exact hB.out.blk.cell (tarr_get (k := 1) hi (by decide))
    have y2 : wr.cell? ⟨B, o + 2, none⟩ = some (tv (Tf i) 2) := by rw [ho.out]; exact hB.out.blk.cell (tarr_get (k := 2) hi (by decide))
    have y3 : wr.cell? ⟨B, o + 3, none⟩ = some (tv (Tf i) 3) := by rw [ho.out]; exact hB.out.blk.cell (tarr_get (k := 3) hi (by decide))
    have y4 : wr.cell? ⟨B, o + 4, none⟩ = some (tv (Tf i) 4) := by rw [ho.out]; exact hB.out.blk.cell (tarr_get (k := 4) hi (by decide))
    have z0 := hB.out.blk.frozen o
    have z1 := hB.out.blk.frozen (o + 1)
    have z2 := hB.out.blk.frozen (o + 2)
    have z3 := hB.out.blk.frozen (o + 3)
    have z4 := hB.out.blk.frozen (o + 4)
    have hI' := Lib.hid hI
    clear hI
    generalize hτ : Tf i = τ at *
    obtain ⟨hv, h, wv, po, pu, la⟩ := τ
    replace hτ := Lib.hid hτ
    replace y0 : wr.cell? ⟨B, o, none⟩ = some hv := y0
    replace y1 : wr.cell? ⟨B, o + 1, none⟩ = some wv := y1
    replace y2 : wr.cell? ⟨B, o + 2, none⟩ = some (.pointer (po.map fun x => ⟨x.1, 0, none⟩)) := y2
    replace y3 : wr.cell? ⟨B, o + 3, none⟩ = some (.pointer (pu.map fun x => ⟨x.1, 0, none⟩)) := y3
    replace y4 : wr.cell? ⟨B, o + 4, none⟩ = some (.int .i64 la) := y4
    go_cut [29] (fun v wx => ∃ d : Bool, v = .bool d ∧ d = (po.isNone && pu.isNone) ∧ wx = wr)
    case first =>
      cases po with
      | some pq =>
        obtain ⟨p, q⟩ := pq
        replace y2 : wr.cell? ⟨B, o + 2, none⟩ = some (.pointer (some ⟨p, 0, none⟩)) := y2
        go_wp2
        go_meet
        case rel => exact ⟨_, rfl, rfl, rfl⟩
      | none =>
        replace y2 : wr.cell? ⟨B, o + 2, none⟩ = some (.pointer none) := y2
        cases pu with
        | some pq =>
          obtain ⟨p, q⟩ := pq
          replace y3 : wr.cell? ⟨B, o + 3, none⟩ = some (.pointer (some ⟨p, 0, none⟩)) := y3
          go_wp2
          go_meet
          case rel => exact ⟨_, rfl, rfl, rfl⟩
        | none =>
          replace y3 : wr.cell? ⟨B, o + 3, none⟩ = some (.pointer none) := y3
          go_wp2
          go_meet
          case rel => exact ⟨_, rfl, rfl, rfl⟩
    case rest =>
     obtain ⟨d, rfl, hd, hwc'⟩ := hcut
     obtain rfl : wr = wc := hwc'.symm
     replace hd := Lib.hid hd
     go_upto_if 29 with (fail)
     go_cut [9] (fun v9 wx => ∃ T1 : Nat → Tk, ((∃ p q, (T1 i).pop = some (p, q) ∧ (T1 i).push = none) ∨ (∃ p q, (T1 i).push = some (p, q) ∧ (T1 i).pop = none)) ∧ TB c w0 wx lo B K T1 ∧ TI c M.f t L K T1 own ∧ MemB wx m b M ∧ Blk wx CF 23 #[.int .i64 c.S, .int .i64 c.A, .int .i64 c.C, .int .i64 c.H, .int .i64 c.G, .int .i64 c.K] ∧ IQ wx lu u L ∧ (∀ j, j < K → ∀ k, (T1 j).hv.ownBlock = some k → k < lu) ∧ Keeps lo w wx)
     case first =>
      cases po with
      | some pq =>
        obtain ⟨p, q⟩ := pq
        replace y2 : wr.cell? ⟨B, o + 2, none⟩ = some (.pointer (some ⟨p, 0, none⟩)) := y2
        obtain rfl : d = false := hd.out
        clear hd
        go_wp2
        go_meet
        case rel =>
          refine ⟨Tf, .inl ⟨p, q, by rw [hτ.out], ?_⟩, hB.out, hI'.out, hM.out, hcf.out, hu.out, hlu.out, hK.out⟩
          cases e : (Tf i).push with
          | none => rfl
          | some y => have := (hI'.out.push i hi y.1 y.2 (by rw [e])).2.2; rw [hτ.out] at this; cases this
      | none =>
        replace y2 : wr.cell? ⟨B, o + 2, none⟩ = some (.pointer none) := y2
        cases pu with
        | some pq =>
          obtain ⟨p, q⟩ := pq
          replace y3 : wr.cell? ⟨B, o + 3, none⟩ = some (.pointer (some ⟨p, 0, none⟩)) := y3
          obtain rfl : d = false := hd.out
          clear hd
          go_wp2
          go_meet
          case rel => exact ⟨Tf, .inr ⟨p, q, by rw [hτ.out], by rw [hτ.out]⟩, hB.out, hI'.out, hM.out, hcf.out, hu.out, hlu.out, hK.out⟩
        | none =>
          replace y3 : wr.cell? ⟨B, o + 3, none⟩ = some (.pointer none) := y3
          obtain rfl : d = true := hd.out
          clear hd
          have hW := hB.out.work i hi
          rw [hτ.out] at hW
          obtain ⟨Aw, nw, cw, g, hwe, hwc, hSw⟩ := hW
          have hwe' : wv = .slice Aw nw cw := hwe
          subst hwe'
          clear hwe
          by_cases hz : nw = 0
          · subst hz
            clear hSw
            go_wp2
            go_ret
            exact ⟨rfl, M, Tf, t, L, own, by omega, hM.out, hf.out.mono (by omega), hB.out, hI'.out, hK.out⟩
          · have hz1 : 0 < nw := by omega
            have hz2 : (0 : Int) < (nw : Int) := by omega
            have hz3 : ((nw : Int) == 0) = false := by simp; omega
            have hz4 : (1 : Int) ≤ (nw : Int) := by omega
            have hz5 : 1 ≤ nw := by omega
            have hz6 : (nw : Int) ≤ (cw : Int) := by omega
            obtain ⟨bw, ow, rfl, lbw, hcw⟩ := hSw hz1
            have jw : wr.cell? ⟨bw, ow, none⟩ = some (.bool (g 0)) := by
              have hb0 := h0.out.trans (hK.out.2.mono hlo)
              rw [hb0.cell (p := ⟨bw, ow, none⟩) lbw]
              simpa using hcw 0 hz1 0 (by decide)
            have hSw' := Lib.hid hcw
            clear hcw hSw
            go_upto_region 7 with (fail)
            generalize hg0 : g 0 = g0 at *
            replace hg0 := Lib.hid hg0
            go_cut [9] (fun v9 wx => v9 = .bool g0 ∧ ∃ wv', WV w0 wv' ∧ wx = wr.setCell ⟨B, o + 1, none⟩ wv')
            case first =>
              by_cases hc1 : cw = 1
              · subst hc1
                go_wp2
                go_meet
                case rel => exact ⟨rfl, _, ⟨some ⟨bw, ow, none⟩, 0, 0, g, rfl, Nat.le_refl _, fun h => absurd h (by decide)⟩, rfl⟩
              · go_wp2
                go_meet
                case rel =>
                  refine ⟨rfl, _, ⟨some ⟨bw, ow + 1, none⟩, nw - 1, cw - 1, fun k => g (k + 1), rfl, by omega, fun h => ⟨bw, ow + 1, rfl, lbw, fun k hk j hj => ?_⟩⟩, rfl⟩
                  have := hSw'.out (k + 1) (by omega) j hj
                  rw [show ow + 1 + k * 1 + j = ow + (k + 1) * 1 + j by omega]
                  exact this
            case rest =>
              obtain ⟨rfl, wv', hwv, rfl⟩ := hcut
              have hP := hB.out
              rw [show (o + 1) = 5 * i + 1 by rw [ho.out]]
              obtain ⟨hB2, hK2, hF2⟩ := TB.put1 (k := 1) (v := wv') (τ := ⟨hv, h, wv', none, none, la⟩) hP hi (by decide) (by rw [hτ.out]; exact five rfl rfl rfl rfl rfl) (fun p q a => by cases a) (fun p q a => by cases a) (by have := hP.has i hi; rw [hτ.out] at this; exact this) (fun j hj hne k a => by have := hP.apH j i hj hi hne k a; rw [hτ.out] at this; exact this) hwv
              have hI2 := hI'.out.work hi wv'
              rw [hτ.out] at hI2
              have hM2 := hM.out.fr hF2 (fun e => not_two_of hM.out hn0 hP.blk (by decide) (by decide) (.inl e.symm)) (fun e => not_two_of hM.out hn0 hP.blk (by decide) (by decide) (.inr e.symm))
              have hu2 := hu.out.fr hF2 (IQ.ne_taker hu.out hP.blk)
              have hcf2 := Blk.fr hcf.out hF2 (fun e => by have h1 := hcf.out; rw [e] at h1; exact absurd (blk_one h1 hP.blk).1 (by decide))
              have hlu2 : ∀ j, j < K → ∀ k, ((put Tf i ⟨hv, h, wv', none, none, la⟩) j).hv.ownBlock = some k → k < lu := by
                intro j hj k a
                by_cases e : j = i
                · subst e; rw [put_eq] at a; exact hlu.out j hj k (by rw [hτ.out]; exact a)
                · rw [put_ne e] at a; exact hlu.out j hj k a
              replace hK := Lib.hid (hK.out.trans hK2)
              clear hP hK2 hF2 hB hI' hM hu hcf hlu y0 y1 y2 y3 y4 z0 z1 z2 z3 z4 jw
              generalize wr.setCell ⟨B, 5 * i + 1, none⟩ wv' = w5 at *
              generalize hT2 : put Tf i ⟨hv, h, wv', none, none, la⟩ = T2 at *
              have hτ2 : T2 i = ⟨hv, h, wv', none, none, la⟩ := by rw [← hT2, put_eq]
              clear hT2 hτ hSw' hwv
              have hB := Lib.hid hB2
              have hI' := Lib.hid hI2
              have hM := Lib.hid hM2
              have hu := Lib.hid hu2
              have hcf := Lib.hid hcf2
              have hlu := Lib.hid hlu2
              replace hτ2 := Lib.hid hτ2
              clear hB2 hI2 hM2 hu2 hcf2 hlu2
              have y0 : w5.cell? ⟨B, o, none⟩ = some hv := by rw [ho.out]; have := hB.out.blk.cell (tarr_get (k := 0) hi (by decide)); rw [hτ2.out] at this; exact this
              have y2 : w5.cell? ⟨B, o + 2, none⟩ = some (.pointer none) := by rw [ho.out]; have := hB.out.blk.cell (tarr_get (k := 2) hi (by decide)); rw [hτ2.out] at this; exact this
              have y3 : w5.cell? ⟨B, o + 3, none⟩ = some (.pointer none) := by rw [ho.out]; have := hB.out.blk.cell (tarr_get (k := 3) hi (by decide)); rw [hτ2.out] at this; exact this
              have y4 : w5.cell? ⟨B, o + 4, none⟩ = some (.int .i64 la) := by rw [ho.out]; have := hB.out.blk.cell (tarr_get (k := 4) hi (by decide)); rw [hτ2.out] at this; exact this
              have z0 := hB.out.blk.frozen o
              have z2 := hB.out.blk.frozen (o + 2)
              have z3 := hB.out.blk.frozen (o + 3)
              have z4 := hB.out.blk.frozen (o + 4)
              have hhv := hB.out.has i hi
              rw [hτ2.out] at hhv
              have hhv' : IQ w5 lo hv h := hhv
              clear hhv
              obtain ⟨q0, q1, q2, q3, q4, q5⟩ := cfgs hcf.out
              cases g0 with
              | true =>
                clear hhv'
                go_upto_region 15 with (go_at_call 44; refine (newPopC c _ hr).mono ?_; rintro e w6 ⟨p, rfl, gp, hP0, hb'⟩; have lo5 := hB.out.lo_size; have hpl := Lib.hid (TB.pop_lt hB.out); have lz := hB.out.lo_size; replace hB := Lib.hid (hB.out.below hb' (Nat.le_refl _)); replace hM := Lib.hid (hM.out.next hb'); replace hK := Lib.hid (hK.out.trans (keeps_below hb' (Nat.le_refl _) lz)); replace hcf := Lib.hid (Blk.below hcf.out hb' (Blk.lt hcf.out)); replace hu := Lib.hid (hu.out.below hb'); have zz := hb'.size; clear lz; have lp := Blk.lt hP0; have hPn := Lib.hid hP0; have v2 : w6.cell? ⟨B, o + 2, none⟩ = some (.pointer none) := (by rw [ho.out]; have := hB.out.blk.cell (tarr_get (k := 2) hi (by decide)); rw [hτ2.out] at this; exact this); have x2 := hB.out.blk.frozen (o + 2); clear hb' hP0)
                have hP := hB.out
                rw [show (o + 2) = 5 * i + 2 by rw [ho.out]]
                obtain ⟨hB3, hK3, hF3⟩ := TB.put1 (k := 2) (v := .pointer (some ⟨p, 0, none⟩)) (τ := ⟨hv, h, wv', some (p, ⟨-1, false, 0, 0, 0⟩), none, la⟩) hP hi (by decide) (by rw [hτ2.out]; exact five rfl rfl rfl rfl rfl) (fun p1 q1 a => by cases a; exact ⟨hPn.out, (by omega), fun j hj hne p2 q2 a2 => by have := hpl.out j hj p2 q2 a2; omega⟩) (fun p q a => by cases a) (by have := hP.has i hi; rw [hτ2.out] at this; exact this) (fun j hj hne k a => by have := hP.apH j i hj hi hne k a; rw [hτ2.out] at this; exact this) (by have := hP.work i hi; rw [hτ2.out] at this; exact this)
                have hI3 := hI'.out.take hi (by rw [hτ2.out]) p
                rw [hτ2.out] at hI3
                have hM3 := hM.out.fr hF3 (fun e => not_two_of hM.out hn0 hP.blk (by decide) (by decide) (.inl e.symm)) (fun e => not_two_of hM.out hn0 hP.blk (by decide) (by decide) (.inr e.symm))
                have hu3 := hu.out.fr hF3 (IQ.ne_taker hu.out hP.blk)
                have hcf3 := Blk.fr hcf.out hF3 (fun e => by have h1 := hcf.out; rw [e] at h1; exact absurd (blk_one h1 hP.blk).1 (by decide))
                have hlu3 : ∀ j, j < K → ∀ k, ((put T2 i ⟨hv, h, wv', some (p, ⟨-1, false, 0, 0, 0⟩), none, la⟩) j).hv.ownBlock = some k → k < lu := by
                  intro j hj k a
                  by_cases e : j = i
                  · subst e; rw [put_eq] at a; exact hlu.out j hj k (by rw [hτ2.out]; exact a)
                  · rw [put_ne e] at a; exact hlu.out j hj k a
                have g2 : (w6.setCell ⟨B, 5 * i + 2, none⟩ (.pointer (some ⟨p, 0, none⟩))).cell? ⟨B, o + 2, none⟩ = some (.pointer (some ⟨p, 0, none⟩)) := by
                  rw [ho.out]; have := hB3.blk.cell (tarr_get (k := 2) hi (by decide)); rw [put_eq] at this; exact this
                replace hK := Lib.hid (hK.out.trans hK3)
                clear hP hK3 hF3 v2 x2
                generalize w6.setCell ⟨B, 5 * i + 2, none⟩ (.pointer (some ⟨p, 0, none⟩)) = w7 at *
                replace hB3 := Lib.hid hB3
                replace hI3 := Lib.hid hI3
                replace hM3 := Lib.hid hM3
                replace hu3 := Lib.hid hu3
                replace hcf3 := Lib.hid hcf3
                replace hlu3 := Lib.hid hlu3
                go_wp2
                go_meet
                case rel => exact ⟨_, .inl ⟨p, _, by rw [put_eq], by rw [put_eq]⟩, hB3.out, hI3.out, hM3.out, hcf3.out, hu3.out, hlu3.out, hK.out⟩
              | false =>
                cases h with
                | nil =>
                  obtain ⟨Ah, ch, rfl, hch⟩ := hhv'.slice
                  have l0 : ([] : List Int).length = 0 := rfl
                  clear hhv'
                  go_wp2
                  go_ret
                  exact ⟨rfl, M, T2, t, L, own, by omega, hM.out, hf.out.mono (by omega), hB.out, hI'.out, hK.out⟩
                | cons x s =>
                  obtain ⟨Ah, ch, rfl, hch⟩ := hhv'.slice
                  obtain ⟨e1, e2, bh, oh, rfl, jh⟩ := hhv'.first
                  clear e1 e2
                  have hx : 0 ≤ x ∧ x < c.S := ((hI'.out.mine i hi x).1 (by rw [hτ2.out]; exact List.mem_cons_self ..)).1
                  rw [show (x :: s).length = s.length + 1 from rfl] at hhv' hch
                  have hlen0 : (x :: s).length = s.length + 1 := rfl
                  generalize hnh : s.length + 1 = nh at *
                  have hpos : (0 : Int) < (nh : Int) := by omega
                  have hpos1 : 0 < nh := by omega
                  have hpos2 : (1 : Int) ≤ (nh : Int) := by omega
                  have hpos3 : 1 ≤ nh := by omega
                  have hpos4 : (nh : Int) ≤ (ch : Int) := by omega
                  have hpos5 : ((nh : Int) == 0) = false := by simp; omega
                  replace hnh := Lib.hid hnh
                  replace hhv' := Lib.hid hhv'
                  go_upto_region 13 with (fail)
                  have hP := hB.out
                  rw [show (o + 4) = 5 * i + 4 by rw [ho.out]]
                  obtain ⟨hB3, hK3, hF3⟩ := TB.put1 (k := 4) (v := .int .i64 x) (τ := ⟨.slice (some ⟨bh, oh, none⟩) (x :: s).length ch, x :: s, wv', none, none, x⟩) hP hi (by decide) (by rw [hτ2.out]; exact five rfl rfl rfl rfl rfl) (fun p q a => by cases a) (fun p q a => by cases a) (by have := hP.has i hi; rw [hτ2.out] at this; exact this) (fun j hj hne k a => by have := hP.apH j i hj hi hne k a; rw [hτ2.out] at this; exact this) (by have := hP.work i hi; rw [hτ2.out] at this; exact this)
                  have hM3 := hM.out.fr hF3 (fun e => not_two_of hM.out hn0 hP.blk (by decide) (by decide) (.inl e.symm)) (fun e => not_two_of hM.out hn0 hP.blk (by decide) (by decide) (.inr e.symm))
                  have hu3 := hu.out.fr hF3 (IQ.ne_taker hu.out hP.blk)
                  have hcf3 := Blk.fr hcf.out hF3 (fun e => by have h1 := hcf.out; rw [e] at h1; exact absurd (blk_one h1 hP.blk).1 (by decide))
                  replace hK := Lib.hid (hK.out.trans hK3)
                  have hhv3 := hhv'.out.fr hF3 (IQ.ne_taker hhv'.out hP.blk)
                  clear hP hK3 hF3 hB hM hu hcf hhv' y0 y2 y3 y4 z0 z2 z3 z4 q0 q1 q2 q3 q4 q5 jh
                  generalize w5.setCell ⟨B, 5 * i + 4, none⟩ (.int .i64 x) = w6 at *
                  have hM := Lib.hid hM3
                  have hu := Lib.hid hu3
                  have hcf := Lib.hid hcf3
                  have y0 : w6.cell? ⟨B, o, none⟩ = some (.slice (some ⟨bh, oh, none⟩) nh ch) := by rw [ho.out, ← hnh.out]; have := hB3.blk.cell (tarr_get (k := 0) hi (by decide)); rw [put_eq] at this; exact this
                  have z0 := hB3.blk.frozen o
                  have hhv4 := hhv3.tail1
                  clear hM3 hu3 hcf3
                  replace hhv3 := Lib.hid hhv3
                  replace hB3 := Lib.hid hB3
                  replace hhv4 := Lib.hid hhv4
                  go_cut [9] (fun v9 wx => v9 = .bool false ∧ ∃ A' n' c', IQ w6 lo (.slice A' n' c') s ∧ (Value.slice A' n' c').ownBlock = (Value.slice (some ⟨bh, oh, none⟩) nh ch).ownBlock ∧ wx = w6.setCell ⟨B, o, none⟩ (.slice A' n' c'))
                  case first =>
                    by_cases hc1 : ch = 1
                    · subst hc1
                      have hn1 : nh = 1 := by omega
                      have q := hhv4.out
                      rw [if_pos rfl] at q
                      replace q := Lib.hid q
                      go_wp2
                      go_meet
                      case rel => exact ⟨rfl, some ⟨bh, oh, none⟩, 0, 0, (by have := q.out; rw [hn1] at this; exact this), rfl, rfl⟩
                    · have q := hhv4.out
                      rw [if_neg hc1] at q
                      replace q := Lib.hid q
                      go_wp2
                      go_meet
                      case rel => exact ⟨rfl, some ⟨bh, oh + 1, none⟩, nh - 1, ch - 1, q.out, rfl, rfl⟩
                  case rest =>
                    obtain ⟨rfl, A', n', c', hq', ho', rfl⟩ := hcut
                    have hP := hB3.out
                    have pe : put T2 i (⟨.slice (some ⟨bh, oh, none⟩) (x :: s).length ch, x :: s, wv', none, none, x⟩ : Tk) i = ⟨.slice (some ⟨bh, oh, none⟩) (x :: s).length ch, x :: s, wv', none, none, x⟩ := put_eq _ _ _
                    obtain ⟨hB4, hK4, hF4⟩ := TB.put1 (k := 0) (v := .slice A' n' c') (τ := ⟨.slice A' n' c', s, wv', none, none, x⟩) hP hi (by decide) (by rw [pe]; exact five rfl rfl rfl rfl rfl) (fun p q a => by cases a) (fun p q a => by cases a) hq' (fun j hj hne k a => by
                      have := hP.apH j i hj hi hne k a
                      rw [pe] at this
                      show (Value.slice A' n' c').ownBlock ≠ some k
                      rw [ho']
                      exact this) (by have := hP.work i hi; rw [pe] at this; exact this)
                    rw [show 5 * i + 0 = o by rw [ho.out]; rfl] at hB4 hK4 hF4
                    rw [put_put] at hB4
                    have hM4 := hM.out.fr hF4 (fun e => not_two_of hM.out hn0 hP.blk (by decide) (by decide) (.inl e.symm)) (fun e => not_two_of hM.out hn0 hP.blk (by decide) (by decide) (.inr e.symm))
                    have hu4 := hu.out.fr hF4 (IQ.ne_taker hu.out hP.blk)
                    have hcf4 := Blk.fr hcf.out hF4 (fun e => by have h1 := hcf.out; rw [e] at h1; exact absurd (blk_one h1 hP.blk).1 (by decide))
                    replace hK := Lib.hid (hK.out.trans hK4)
                    have hpl3 : (Value.slice A' n' c').ownBlock = (Value.slice (some ⟨bh, oh, none⟩) (x :: s).length ch).ownBlock := ho'
                    clear hP hK4 hF4 hM hu hcf hhv3 hhv4 hB3 pe y0 z0 hq' ho'
                    generalize w6.setCell ⟨B, o, none⟩ (.slice A' n' c') = w8 at *
                    generalize hT4 : put T2 i ⟨.slice A' n' c', s, wv', none, none, x⟩ = T4 at *
                    have hτ4 : T4 i = ⟨.slice A' n' c', s, wv', none, none, x⟩ := by rw [← hT4, put_eq]
                    have hT4' := Lib.hid hT4
                    clear hT4
                    go_wp2
                    have hM := Lib.hid hM4.drew
                    have hu := Lib.hid hu4.drew
                    have hcf := Lib.hid (Blk.drew hcf4)
                    have lz4 := hB4.lo_size
                    have hbd4 := (Below.refl w8.heap.size w8).drew
                    have hB := Lib.hid (hB4.below hbd4 (Nat.le_refl _))
                    replace hK := Lib.hid (hK.out.trans (keeps_below hbd4 (Nat.le_refl _) lz4))
                    replace hτ4 := Lib.hid hτ4
                    replace hpl3 := Lib.hid hpl3
                    clear hM4 hu4 hcf4 hB4 hbd4 lz4
                    have hX : (w8.drew.cell? ⟨CF, 0, none⟩ = some (.int .i64 c.S) ∧ w8.drew.cell? ⟨CF, 1, none⟩ = some (.int .i64 c.A) ∧ w8.drew.cell? ⟨CF, 2, none⟩ = some (.int .i64 c.C) ∧ w8.drew.cell? ⟨CF, 3, none⟩ = some (.int .i64 c.H) ∧ w8.drew.cell? ⟨CF, 4, none⟩ = some (.int .i64 c.G) ∧ w8.drew.cell? ⟨CF, 5, none⟩ = some (.int .i64 c.K)) ∧ w8.drew.cell? ⟨B, o + 4, none⟩ = some (.int .i64 x) := ⟨cfgs hcf.out, by rw [ho.out]; have := hB.out.blk.cell (tarr_get (k := 4) hi (by decide)); rw [hτ4.out] at this; exact this⟩
                    have hne : CF ≠ B := by
                      intro e
                      have h1 := hcf.out
                      rw [e] at h1
                      exact absurd (blk_one h1 hB.out.blk).1 (by decide)
                    go_region_held3 (fun w' => (w'.cell? ⟨CF, 0, none⟩ = some (.int .i64 c.S) ∧ w'.cell? ⟨CF, 1, none⟩ = some (.int .i64 c.A) ∧ w'.cell? ⟨CF, 2, none⟩ = some (.int .i64 c.C) ∧ w'.cell? ⟨CF, 3, none⟩ = some (.int .i64 c.H) ∧ w'.cell? ⟨CF, 4, none⟩ = some (.int .i64 c.G) ∧ w'.cell? ⟨CF, 5, none⟩ = some (.int .i64 c.K)) ∧ w'.cell? ⟨B, o + 4, none⟩ = some (.int .i64 x)) (first | assumption | exact keepS hne (by assumption)) (first | (go_at_call 46; refine (newPushC c _ x hr hx.1 hx.2).mono ?_; rintro e w9 ⟨p, rfl, gp, hP0, hb'⟩; have lo5 := hB.out.lo_size; have hpl := Lib.hid (TB.push_lt hB.out); have lz := hB.out.lo_size; replace hB := Lib.hid (hB.out.below hb' (Nat.le_refl _)); replace hM := Lib.hid (hM.out.next hb'); replace hK := Lib.hid (hK.out.trans (keeps_below hb' (Nat.le_refl _) lz)); replace hcf := Lib.hid (Blk.below hcf.out hb' (Blk.lt hcf.out)); replace hu := Lib.hid (hu.out.below hb'); have zz := hb'.size; clear lz; have lp := Blk.lt hP0; have hPn := Lib.hid hP0; have v3 : w9.cell? ⟨B, o + 3, none⟩ = some (.pointer none) := (by rw [ho.out]; have := hB.out.blk.cell (tarr_get (k := 3) hi (by decide)); rw [hτ4.out] at this; exact this); have x3 := hB.out.blk.frozen (o + 3); have hY : (w9.cell? ⟨CF, 0, none⟩ = some (.int .i64 c.S) ∧ w9.cell? ⟨CF, 1, none⟩ = some (.int .i64 c.A) ∧ w9.cell? ⟨CF, 2, none⟩ = some (.int .i64 c.C) ∧ w9.cell? ⟨CF, 3, none⟩ = some (.int .i64 c.H) ∧ w9.cell? ⟨CF, 4, none⟩ = some (.int .i64 c.G) ∧ w9.cell? ⟨CF, 5, none⟩ = some (.int .i64 c.K)) ∧ w9.cell? ⟨B, o + 4, none⟩ = some (.int .i64 x) := ⟨cfgs hcf.out, by rw [ho.out]; have := hB.out.blk.cell (tarr_get (k := 4) hi (by decide)); rw [hτ4.out] at this; exact this⟩; clear hb' hP0))
                    all_goals
                      go_upto_region 15 with (fail)
                      have hP := hB.out
                      obtain ⟨hB5, hK5, hF5⟩ := TB.put1 (k := 3) (v := .pointer (some ⟨p, 0, none⟩)) (τ := ⟨.slice A' n' c', s, wv', none, some (p, ⟨x, 0, 0⟩), x⟩) hP hi (by decide) (by rw [hτ4.out]; exact five rfl rfl rfl rfl rfl) (fun p q a => by cases a) (fun p1 q1 a => by cases a; exact ⟨hPn.out, (by omega), fun j hj hne p2 q2 a2 => by have := hpl.out j hj p2 q2 a2; omega⟩) (by have := hP.has i hi; rw [hτ4.out] at this; exact this) (fun j hj hne k a => by have := hP.apH j i hj hi hne k a; rw [hτ4.out] at this; exact this) (by have := hP.work i hi; rw [hτ4.out] at this; exact this)
                      rw [show 5 * i + 3 = o + 3 by rw [ho.out]] at hB5 hK5 hF5
                      rw [← hT4'.out, put_put] at hB5
                      have hM5 := hM.out.fr hF5 (fun e => not_two_of hM.out hn0 hP.blk (by decide) (by decide) (.inl e.symm)) (fun e => not_two_of hM.out hn0 hP.blk (by decide) (by decide) (.inr e.symm))
                      have hu5 := hu.out.fr hF5 (IQ.ne_taker hu.out hP.blk)
                      have hcf5 := Blk.fr hcf.out hF5 (fun e => by have h1 := hcf.out; rw [e] at h1; exact absurd (blk_one h1 hP.blk).1 (by decide))
                      replace hK := Lib.hid (hK.out.trans hK5)
                      have hI5 := hI'.out.lay hi (by rw [hτ2.out]) (by rw [hτ2.out]) (x := x) (s := s) (by rw [hτ2.out]) (.slice A' n' c') p
                      rw [hτ2.out] at hI5
                      have hlu5 : ∀ j, j < K → ∀ k, ((put T2 i ⟨.slice A' n' c', s, wv', none, some (p, ⟨x, 0, 0⟩), x⟩) j).hv.ownBlock = some k → k < lu := by
                        intro j hj k a
                        by_cases e : j = i
                        · subst e; rw [put_eq] at a; exact hlu.out j hj k (by rw [hτ2.out]; rw [← hpl3.out]; exact a)
                        · rw [put_ne e] at a; exact hlu.out j hj k a
                      have g2 : (w9.setCell ⟨B, o + 3, none⟩ (.pointer (some ⟨p, 0, none⟩))).cell? ⟨B, o + 2, none⟩ = some (.pointer none) := by
                        rw [ho.out]; have := hB5.blk.cell (tarr_get (k := 2) hi (by decide)); rw [put_eq] at this; rw [ho.out] at this; exact this
                      have g3 : (w9.setCell ⟨B, o + 3, none⟩ (.pointer (some ⟨p, 0, none⟩))).cell? ⟨B, o + 3, none⟩ = some (.pointer (some ⟨p, 0, none⟩)) := by
                        rw [ho.out]; have := hB5.blk.cell (tarr_get (k := 3) hi (by decide)); rw [put_eq] at this; rw [ho.out] at this; exact this
                      clear hP hK5 hF5 v3 x3
                      generalize w9.setCell ⟨B, o + 3, none⟩ (.pointer (some ⟨p, 0, none⟩)) = w10 at *
                      replace hB5 := Lib.hid hB5
                      replace hI5 := Lib.hid hI5
                      replace hM5 := Lib.hid hM5
                      replace hu5 := Lib.hid hu5
                      replace hcf5 := Lib.hid hcf5
                      replace hlu5 := Lib.hid hlu5
                      go_wp2
                      go_meet
                      case rel => exact ⟨_, .inr ⟨p, _, by rw [put_eq], by rw [put_eq]⟩, hB5.out, hI5.out, hM5.out, hcf5.out, hu5.out, hlu5.out, hK.out⟩
     case rest =>
      obtain ⟨T1, hor, c1, c2, c3, c4, c5, c6, c7⟩ := hcut
      clear hB hI' hM hu hcf hlu hK y0 y1 y2 y3 y4 z0 z1 z2 z3 z4 hτ hd
      have hB := Lib.hid c1
      have hI := Lib.hid c2
      have hM := Lib.hid c3
      have hcf := Lib.hid c4
      have hu := Lib.hid c5
      have hlu := Lib.hid c6
      have hK := Lib.hid c7
      have ok := hf.out.ok (by omega) (by omega)
      clear c1 c2 c3 c4 c5 c6 c7
      have hnM : M.n = c.size := by rw [hnn.out]; exact hn.out
      rcases hor with ⟨p, q, hpp, hpn⟩ | ⟨p, q, hpq, hqn0⟩
      · obtain ⟨hb0, lp⟩ := hB.out.pop i hi p q hpp
        have np := not_two_of hM.out hn0 hb0 (by decide) (by decide)
        have hqI := hI.out.pop i hi p q hpp
        have hstep := pop_step hr hnM hU.out hI.out.stk ht hqI
        have v2 : wc.cell? ⟨B, o + 2, none⟩ = some (.pointer (some ⟨p, 0, none⟩)) := by rw [ho.out]; have := hB.out.blk.cell (tarr_get (k := 2) hi (by decide)); rw [show tv (T1 i) 2 = .pointer (some ⟨p, 0, none⟩) by show Value.pointer _ = _; rw [hpp]; rfl] at this; exact this
        have hF0 := popM_fine (c := c) (q := q) hf.out hqI.ok
        have htt := popM_t c q M
        have hcall := popC c wc p m b M hr hM.out ok np q hb0 hqI.ok
        obtain ⟨qs, qM, qd, hqs⟩ : ∃ qs qM qd, popS c q M = qs ∧ popM c q M = qM ∧ popD c q M = qd := ⟨_, _, _, rfl, rfl, rfl⟩
        have hqa : (qs.a == 3) = qd := by rw [← hqs.1, ← hqs.2.2]; rfl
        rw [hqs.1, hqs.2.1, hqs.2.2] at hcall
        rw [hqs.1, hqs.2.1, hqs.2.2] at hstep
        rw [hqs.2.1] at hF0 htt
        clear hqs
        replace hpp := Lib.hid hpp
        replace hpn := Lib.hid hpn
        replace hF0 := Lib.hid hF0
        replace hnM := Lib.hid hnM
        replace hb0 := Lib.hid hb0
        replace hqa := Lib.hid hqa
        have hle : qM.t ≤ M.t + 1 := htt.1
        have hqn : Hid (qM.n = n) := Lib.hid (htt.2.trans hnn.out)
        clear htt hqI
        rcases hstep with ⟨rfl, s1, s2⟩ | ⟨rfl, s0, s1, s2, s3⟩ | ⟨rfl, x, r, s0, s1, s2, s3, s4⟩
        · have hI2 := hI.out.popNo hi hpp.out s2 s1
          replace s2 := Lib.hid s2
          replace hI2 := Lib.hid hI2
          go_upto_region 21 with (go_at_call 45; refine hcall.mono ?_; rintro e w2 ⟨rfl, hP', hM', hF'⟩; have hB' := TB.popStep hB.out hi hM.out hn0 hpp.out hF' hP'; have hu' := IQ.three hu.out hM.out hn0 hb0.out (by decide) hF'; have hcf' := Blk.fr hcf.out hF' (not_three_of hM.out hn0 hb0.out hcf.out (by decide) (by decide) (by decide)); have hK' := hK.out.trans (keeps_three hM.out hn0 hb0.out (by unfold okT; decide) hF' lp lm lb hB.out.lo_size); have zf := hF'.size; replace hB := Lib.hid hB'; replace hM := Lib.hid hM'; replace hu := Lib.hid hu'; replace hcf := Lib.hid hcf'; replace hK := Lib.hid hK'; clear hB' hM' hu' hcf' hK' hF' v2; replace hP' := Lib.hid hP')
          go_wp2
          replace hM := Lib.hid hM.out.drew
          replace hcf := Lib.hid (Blk.drew hcf.out)
          have hbd := (Below.refl w2.heap.size w2).drew
          have lz := hB.out.lo_size
          replace hB := Lib.hid (hB.out.below hbd (Nat.le_refl _))
          replace hK := Lib.hid (hK.out.trans (keeps_below hbd (Nat.le_refl _) lz))
          replace hP' := Lib.hid (Blk.drew hP'.out)
          replace hu := Lib.hid hu.out.drew
          have hX : w2.drew.cell? ⟨CF, 0, none⟩ = some (.int .i64 c.S) ∧ w2.drew.cell? ⟨CF, 1, none⟩ = some (.int .i64 c.A) ∧ w2.drew.cell? ⟨CF, 2, none⟩ = some (.int .i64 c.C) ∧ w2.drew.cell? ⟨CF, 3, none⟩ = some (.int .i64 c.H) ∧ w2.drew.cell? ⟨CF, 4, none⟩ = some (.int .i64 c.G) ∧ w2.drew.cell? ⟨CF, 5, none⟩ = some (.int .i64 c.K) := cfgs hcf.out
          have hU2 := Lib.hid hF0.out.u
          clear hbd lz
          go_region_held3 (fun w' => w'.cell? ⟨CF, 0, none⟩ = some (.int .i64 c.S) ∧ w'.cell? ⟨CF, 1, none⟩ = some (.int .i64 c.A) ∧ w'.cell? ⟨CF, 2, none⟩ = some (.int .i64 c.C) ∧ w'.cell? ⟨CF, 3, none⟩ = some (.int .i64 c.H) ∧ w'.cell? ⟨CF, 4, none⟩ = some (.int .i64 c.G) ∧ w'.cell? ⟨CF, 5, none⟩ = some (.int .i64 c.K)) (assumption) (first
            | (go_at_call 24; refine (words_n _ m b n _ hM.out hqn.out (by omega)).mono ?_; rintro e u1 ⟨A1, cc1, b1, rfl, _, hR1, hb'⟩; have lz := hB.out.lo_size; replace hB := Lib.hid (hB.out.below hb' (Nat.le_refl _)); replace hM := Lib.hid (hM.out.next hb'); replace hK := Lib.hid (hK.out.trans (keeps_below hb' (Nat.le_refl _) lz)); replace hcf := Lib.hid (Blk.below hcf.out hb' (Blk.lt hcf.out)); replace hu := Lib.hid (hu.out.below hb'); have zz := hb'.size; clear lz; replace hP' := Lib.hid (Blk.below hP'.out hb' (Blk.lt hP'.out)); have hY1 : u1.cell? ⟨CF, 0, none⟩ = some (.int .i64 c.S) ∧ u1.cell? ⟨CF, 1, none⟩ = some (.int .i64 c.A) ∧ u1.cell? ⟨CF, 2, none⟩ = some (.int .i64 c.C) ∧ u1.cell? ⟨CF, 3, none⟩ = some (.int .i64 c.H) ∧ u1.cell? ⟨CF, 4, none⟩ = some (.int .i64 c.G) ∧ u1.cell? ⟨CF, 5, none⟩ = some (.int .i64 c.K) := cfgs hcf.out; replace hR1 := Lib.hid hR1; clear hb' zz)
            | (go_at_call 30; refine (refListQ c _ A1 cc1 b1 n _ hU2.out hr hn.out hR1.out).mono ?_; rintro e wq ⟨v, rfl, hLu, hb'⟩; have hlv := Lib.hid (TB.hv_lt hB.out); rw [hI2.out.stk.list hr] at hLu; have lz := hB.out.lo_size; replace hB := Lib.hid (hB.out.below hb' (Nat.le_refl _)); replace hM := Lib.hid (hM.out.next hb'); replace hK := Lib.hid (hK.out.trans (keeps_below hb' (Nat.le_refl _) lz)); replace hcf := Lib.hid (Blk.below hcf.out hb' (Blk.lt hcf.out)); replace hu := Lib.hid (hu.out.below hb'); have zz := hb'.size; clear lz; replace hP' := Lib.hid (Blk.below hP'.out hb' (Blk.lt hP'.out)); have hY2 : wq.cell? ⟨CF, 0, none⟩ = some (.int .i64 c.S) ∧ wq.cell? ⟨CF, 1, none⟩ = some (.int .i64 c.A) ∧ wq.cell? ⟨CF, 2, none⟩ = some (.int .i64 c.C) ∧ wq.cell? ⟨CF, 3, none⟩ = some (.int .i64 c.H) ∧ wq.cell? ⟨CF, 4, none⟩ = some (.int .i64 c.G) ∧ wq.cell? ⟨CF, 5, none⟩ = some (.int .i64 c.K) := cfgs hcf.out; have hv := Lib.hid hLu; clear hLu; clear hb' zz))
          all_goals
            go_wp2_with (first
              | (go_at_call 26; refine (touches_c _ m b _ hM.out).mono ?_; rintro e w3 ⟨rfl, rfl⟩)
              | (go_at_call 28; (with_reducible refine (sameC _ _ _ _ _ L L (hu.out.li (by omega)) (hv.out.li (by omega))).mono ?_); rintro e w5 ⟨rfl, hb'⟩; rw [decide_eq_true rfl]; have lz := hB.out.lo_size; replace hB := Lib.hid (hB.out.below hb' (Nat.le_refl _)); replace hM := Lib.hid (hM.out.next hb'); replace hK := Lib.hid (hK.out.trans (keeps_below hb' (Nat.le_refl _) lz)); replace hcf := Lib.hid (Blk.below hcf.out hb' (Blk.lt hcf.out)); replace hu := Lib.hid (hu.out.below hb'); have zz := hb'.size; clear lz; clear hb'))
            go_ret
            exact ⟨rfl, qM, _, t, L, own, by omega, hM.out, hF0.out, hB.out, hI2.out, hK.out⟩
        · have hI2 := hI.out.popEnd hi s3 hpn.out
          replace s3 := Lib.hid s3
          replace hI2 := Lib.hid hI2
          obtain ⟨sl, em, a, tp, nx⟩ := qs
          obtain rfl : em = true := s1
          obtain rfl : sl = -1 := s2
          obtain rfl : a = 3 := by have := hqa.out; simpa using this
          subst s0
          go_upto_region 21 with (go_at_call 45; refine hcall.mono ?_; rintro e w2 ⟨rfl, hP', hM', hF'⟩; have hB' := TB.popStep hB.out hi hM.out hn0 hpp.out hF' hP'; have hu' := IQ.three hu.out hM.out hn0 hb0.out (by decide) hF'; have hcf' := Blk.fr hcf.out hF' (not_three_of hM.out hn0 hb0.out hcf.out (by decide) (by decide) (by decide)); have hK' := hK.out.trans (keeps_three hM.out hn0 hb0.out (by unfold okT; decide) hF' lp lm lb hB.out.lo_size); have zf := hF'.size; replace hB := Lib.hid hB'; replace hM := Lib.hid hM'; replace hu := Lib.hid hu'; replace hcf := Lib.hid hcf'; replace hK := Lib.hid hK'; clear hB' hM' hu' hcf' hK' hF' v2; replace hP' := Lib.hid hP')
          go_wp2
          replace hM := Lib.hid hM.out.drew
          replace hcf := Lib.hid (Blk.drew hcf.out)
          have hbd := (Below.refl w2.heap.size w2).drew
          have lz := hB.out.lo_size
          replace hB := Lib.hid (hB.out.below hbd (Nat.le_refl _))
          replace hK := Lib.hid (hK.out.trans (keeps_below hbd (Nat.le_refl _) lz))
          replace hP' := Lib.hid (Blk.drew hP'.out)
          replace hu := Lib.hid hu.out.drew
          have hX : w2.drew.cell? ⟨CF, 0, none⟩ = some (.int .i64 c.S) ∧ w2.drew.cell? ⟨CF, 1, none⟩ = some (.int .i64 c.A) ∧ w2.drew.cell? ⟨CF, 2, none⟩ = some (.int .i64 c.C) ∧ w2.drew.cell? ⟨CF, 3, none⟩ = some (.int .i64 c.H) ∧ w2.drew.cell? ⟨CF, 4, none⟩ = some (.int .i64 c.G) ∧ w2.drew.cell? ⟨CF, 5, none⟩ = some (.int .i64 c.K) := cfgs hcf.out
          have hU2 := Lib.hid hF0.out.u
          clear hbd lz
          go_region_held3 (fun w' => w'.cell? ⟨CF, 0, none⟩ = some (.int .i64 c.S) ∧ w'.cell? ⟨CF, 1, none⟩ = some (.int .i64 c.A) ∧ w'.cell? ⟨CF, 2, none⟩ = some (.int .i64 c.C) ∧ w'.cell? ⟨CF, 3, none⟩ = some (.int .i64 c.H) ∧ w'.cell? ⟨CF, 4, none⟩ = some (.int .i64 c.G) ∧ w'.cell? ⟨CF, 5, none⟩ = some (.int .i64 c.K)) (assumption) (first
            | (go_at_call 24; refine (words_n _ m b n _ hM.out hqn.out (by omega)).mono ?_; rintro e u1 ⟨A1, cc1, b1, rfl, _, hR1, hb'⟩; have lz := hB.out.lo_size; replace hB := Lib.hid (hB.out.below hb' (Nat.le_refl _)); replace hM := Lib.hid (hM.out.next hb'); replace hK := Lib.hid (hK.out.trans (keeps_below hb' (Nat.le_refl _) lz)); replace hcf := Lib.hid (Blk.below hcf.out hb' (Blk.lt hcf.out)); replace hu := Lib.hid (hu.out.below hb'); have zz := hb'.size; clear lz; replace hP' := Lib.hid (Blk.below hP'.out hb' (Blk.lt hP'.out)); have hY1 : u1.cell? ⟨CF, 0, none⟩ = some (.int .i64 c.S) ∧ u1.cell? ⟨CF, 1, none⟩ = some (.int .i64 c.A) ∧ u1.cell? ⟨CF, 2, none⟩ = some (.int .i64 c.C) ∧ u1.cell? ⟨CF, 3, none⟩ = some (.int .i64 c.H) ∧ u1.cell? ⟨CF, 4, none⟩ = some (.int .i64 c.G) ∧ u1.cell? ⟨CF, 5, none⟩ = some (.int .i64 c.K) := cfgs hcf.out; replace hR1 := Lib.hid hR1; clear hb' zz)
            | (go_at_call 30; refine (refListQ c _ A1 cc1 b1 n _ hU2.out hr hn.out hR1.out).mono ?_; rintro e wq ⟨v, rfl, hLu, hb'⟩; have hlv := Lib.hid (TB.hv_lt hB.out); rw [hI2.out.stk.list hr] at hLu; have lz := hB.out.lo_size; replace hB := Lib.hid (hB.out.below hb' (Nat.le_refl _)); replace hM := Lib.hid (hM.out.next hb'); replace hK := Lib.hid (hK.out.trans (keeps_below hb' (Nat.le_refl _) lz)); replace hcf := Lib.hid (Blk.below hcf.out hb' (Blk.lt hcf.out)); replace hu := Lib.hid (hu.out.below hb'); have zz := hb'.size; clear lz; replace hP' := Lib.hid (Blk.below hP'.out hb' (Blk.lt hP'.out)); have hY2 : wq.cell? ⟨CF, 0, none⟩ = some (.int .i64 c.S) ∧ wq.cell? ⟨CF, 1, none⟩ = some (.int .i64 c.A) ∧ wq.cell? ⟨CF, 2, none⟩ = some (.int .i64 c.C) ∧ wq.cell? ⟨CF, 3, none⟩ = some (.int .i64 c.H) ∧ wq.cell? ⟨CF, 4, none⟩ = some (.int .i64 c.G) ∧ wq.cell? ⟨CF, 5, none⟩ = some (.int .i64 c.K) := cfgs hcf.out; have hv := Lib.hid hLu; clear hLu; clear hb' zz))
          all_goals
            go_wp2_with (first
              | (go_at_call 26; refine (touches_c _ m b _ hM.out).mono ?_; rintro e w3 ⟨rfl, rfl⟩)
              | (go_at_call 84; refine (o_empty hB.out.blk hP'.out hu.out hv.out (by rw [ho.out]; have := tarr_get (T := (put T1 i ⟨(T1 i).hv, (T1 i).h, (T1 i).wv, some (p, ⟨-1, true, 3, tp, nx⟩), (T1 i).push, (T1 i).lays⟩)) (k := 2) hi (by decide); rw [show tv ((put T1 i ⟨(T1 i).hv, (T1 i).h, (T1 i).wv, some (p, ⟨-1, true, 3, tp, nx⟩), (T1 i).push, (T1 i).lays⟩) i) 2 = (.pointer (some ⟨p, 0, none⟩)) by rw [put_eq]; rfl] at this; exact this)).mono ?_; rintro e w5 ⟨rfl, hb5, hf5⟩; clear hX))
            go_ret
            rw [ho.out] at hb5
            have hqn1 : 0 < qM.n := by rw [hqn.out]; omega
            have nBB : ∀ q, two m b q → ¬ q = B := fun q h e => not_two_of hM.out hqn1 hB.out.blk (by decide) (by decide) (e ▸ h)
            have hMM := hM.out.fr hf5 (nBB m (.inl rfl)) (nBB b (.inr rfl))
            have hBB := hB.out
            generalize hT2 : put T1 i ⟨(T1 i).hv, (T1 i).h, (T1 i).wv, some (p, ⟨-1, true, 3, tp, nx⟩), (T1 i).push, (T1 i).lays⟩ = T2 at hBB hb5
            have hτ2 : T2 i = ⟨(T1 i).hv, (T1 i).h, (T1 i).wv, some (p, ⟨-1, true, 3, tp, nx⟩), (T1 i).push, (T1 i).lays⟩ := by rw [← hT2, put_eq]
            obtain ⟨hB5, hK5⟩ := TB.over hBB hi hf5 (by
              rw [← tarr_set (k := 2) (v := .pointer none) hi (by decide) (by rw [hτ2]; exact five rfl rfl rfl (by show Value.pointer none = Value.pointer ((T1 i).push.map _); rw [hpn.out]; rfl) rfl)]
              exact hb5)
            rw [hτ2, ← hT2, put_put] at hB5
            exact ⟨rfl, qM, _, t, [], own, by omega, hMM, hF0.out, hB5, hI2.out, hK.out.trans hK5⟩
        · obtain ⟨sl, em, a, tp, nx⟩ := qs
          obtain rfl : em = false := s1
          obtain rfl : x = sl := s2.symm
          obtain rfl : a = 3 := by have := hqa.out; simpa using this
          subst s0
          have hl6 : r.length ≤ 64 := by have := hL64; simp at this; omega
          have hh6 : (T1 i).h.length ≤ 64 := by
            have h1 := hI.out.nd i hi
            have h2 : (T1 i).mine = (T1 i).h := by unfold Tk.mine; rw [hpn.out]
            rw [h2] at h1
            have := nodup_len c.S.toNat _ h1 (fun y hy => by have := (hI.out.mine i hi y).1 (by rw [h2]; exact hy); omega)
            omega
          replace s4 := Lib.hid s4
          replace s3 := Lib.hid s3
          go_upto_region 21 with (go_at_call 45; refine hcall.mono ?_; rintro e w2 ⟨rfl, hP', hM', hF'⟩; have hB' := TB.popStep hB.out hi hM.out hn0 hpp.out hF' hP'; have hu' := IQ.three hu.out hM.out hn0 hb0.out (by decide) hF'; have hcf' := Blk.fr hcf.out hF' (not_three_of hM.out hn0 hb0.out hcf.out (by decide) (by decide) (by decide)); have hK' := hK.out.trans (keeps_three hM.out hn0 hb0.out (by unfold okT; decide) hF' lp lm lb hB.out.lo_size); have zf := hF'.size; replace hB := Lib.hid hB'; replace hM := Lib.hid hM'; replace hu := Lib.hid hu'; replace hcf := Lib.hid hcf'; replace hK := Lib.hid hK'; clear hB' hM' hu' hcf' hK' hF' v2; replace hP' := Lib.hid hP')
          go_wp2
          replace hM := Lib.hid hM.out.drew
          replace hcf := Lib.hid (Blk.drew hcf.out)
          have hbd := (Below.refl w2.heap.size w2).drew
          have lz := hB.out.lo_size
          replace hB := Lib.hid (hB.out.below hbd (Nat.le_refl _))
          replace hK := Lib.hid (hK.out.trans (keeps_below hbd (Nat.le_refl _) lz))
          replace hP' := Lib.hid (Blk.drew hP'.out)
          replace hu := Lib.hid hu.out.drew
          have hX : w2.drew.cell? ⟨CF, 0, none⟩ = some (.int .i64 c.S) ∧ w2.drew.cell? ⟨CF, 1, none⟩ = some (.int .i64 c.A) ∧ w2.drew.cell? ⟨CF, 2, none⟩ = some (.int .i64 c.C) ∧ w2.drew.cell? ⟨CF, 3, none⟩ = some (.int .i64 c.H) ∧ w2.drew.cell? ⟨CF, 4, none⟩ = some (.int .i64 c.G) ∧ w2.drew.cell? ⟨CF, 5, none⟩ = some (.int .i64 c.K) := cfgs hcf.out
          have hU2 := Lib.hid hF0.out.u
          clear hbd lz
          go_region_held3 (fun w' => w'.cell? ⟨CF, 0, none⟩ = some (.int .i64 c.S) ∧ w'.cell? ⟨CF, 1, none⟩ = some (.int .i64 c.A) ∧ w'.cell? ⟨CF, 2, none⟩ = some (.int .i64 c.C) ∧ w'.cell? ⟨CF, 3, none⟩ = some (.int .i64 c.H) ∧ w'.cell? ⟨CF, 4, none⟩ = some (.int .i64 c.G) ∧ w'.cell? ⟨CF, 5, none⟩ = some (.int .i64 c.K)) (assumption) (first
            | (go_at_call 24; refine (words_n _ m b n _ hM.out hqn.out (by omega)).mono ?_; rintro e u1 ⟨A1, cc1, b1, rfl, _, hR1, hb'⟩; have lz := hB.out.lo_size; replace hB := Lib.hid (hB.out.below hb' (Nat.le_refl _)); replace hM := Lib.hid (hM.out.next hb'); replace hK := Lib.hid (hK.out.trans (keeps_below hb' (Nat.le_refl _) lz)); replace hcf := Lib.hid (Blk.below hcf.out hb' (Blk.lt hcf.out)); replace hu := Lib.hid (hu.out.below hb'); have zz := hb'.size; clear lz; replace hP' := Lib.hid (Blk.below hP'.out hb' (Blk.lt hP'.out)); have hY1 : u1.cell? ⟨CF, 0, none⟩ = some (.int .i64 c.S) ∧ u1.cell? ⟨CF, 1, none⟩ = some (.int .i64 c.A) ∧ u1.cell? ⟨CF, 2, none⟩ = some (.int .i64 c.C) ∧ u1.cell? ⟨CF, 3, none⟩ = some (.int .i64 c.H) ∧ u1.cell? ⟨CF, 4, none⟩ = some (.int .i64 c.G) ∧ u1.cell? ⟨CF, 5, none⟩ = some (.int .i64 c.K) := cfgs hcf.out; replace hR1 := Lib.hid hR1; clear hb' zz)
            | (go_at_call 30; refine (refListQ c _ A1 cc1 b1 n _ hU2.out hr hn.out hR1.out).mono ?_; rintro e wq ⟨v, rfl, hLu, hb'⟩; have hlv := Lib.hid (TB.hv_lt hB.out); rw [s4.out.list hr] at hLu; have lz := hB.out.lo_size; replace hB := Lib.hid (hB.out.below hb' (Nat.le_refl _)); replace hM := Lib.hid (hM.out.next hb'); replace hK := Lib.hid (hK.out.trans (keeps_below hb' (Nat.le_refl _) lz)); replace hcf := Lib.hid (Blk.below hcf.out hb' (Blk.lt hcf.out)); replace hu := Lib.hid (hu.out.below hb'); have zz := hb'.size; clear lz; replace hP' := Lib.hid (Blk.below hP'.out hb' (Blk.lt hP'.out)); have hY2 : wq.cell? ⟨CF, 0, none⟩ = some (.int .i64 c.S) ∧ wq.cell? ⟨CF, 1, none⟩ = some (.int .i64 c.A) ∧ wq.cell? ⟨CF, 2, none⟩ = some (.int .i64 c.C) ∧ wq.cell? ⟨CF, 3, none⟩ = some (.int .i64 c.H) ∧ wq.cell? ⟨CF, 4, none⟩ = some (.int .i64 c.G) ∧ wq.cell? ⟨CF, 5, none⟩ = some (.int .i64 c.K) := cfgs hcf.out; have hv := Lib.hid hLu; clear hLu; clear hb' zz))
          all_goals
            go_wp2_with (first
              | (go_at_call 26; refine (touches_c _ m b _ hM.out).mono ?_; rintro e w3 ⟨rfl, rfl⟩)
              | (go_at_call 84; refine (o_take hB.out.blk hP'.out hu.out hv.out (by omega) (show IQ _ lo (T1 i).hv (T1 i).h from by have := hB.out.has i hi; rw [put_eq] at this; exact this) (by omega) hB.out.lo_size (by rw [ho.out]; have := tarr_get (T := (put T1 i ⟨(T1 i).hv, (T1 i).h, (T1 i).wv, some (p, ⟨x, false, 3, tp, nx⟩), (T1 i).push, (T1 i).lays⟩)) (k := 2) hi (by decide); rw [show tv ((put T1 i ⟨(T1 i).hv, (T1 i).h, (T1 i).wv, some (p, ⟨x, false, 3, tp, nx⟩), (T1 i).push, (T1 i).lays⟩) i) 2 = (.pointer (some ⟨p, 0, none⟩)) by rw [put_eq]; rfl] at this; exact this) (by rw [ho.out]; have := tarr_get (T := (put T1 i ⟨(T1 i).hv, (T1 i).h, (T1 i).wv, some (p, ⟨x, false, 3, tp, nx⟩), (T1 i).push, (T1 i).lays⟩)) (k := 0) hi (by decide); rw [show tv ((put T1 i ⟨(T1 i).hv, (T1 i).h, (T1 i).wv, some (p, ⟨x, false, 3, tp, nx⟩), (T1 i).push, (T1 i).lays⟩) i) 0 = (T1 i).hv by rw [put_eq]; rfl] at this; exact this) (fun k a e => by have h1 := hlu.out i hi k a; have h2 := (IQ.typed hu.out k e).1; omega) (fun k a e => by have h1 := hlv.out i hi k (by rw [put_eq]; exact a); have h2 := (IQ.typed hv.out k e).1; omega)).mono ?_; rintro e w5 ⟨rfl, hq5, hb5, hqq5, ho5, hf5⟩; clear hX))
            go_ret
            rw [ho.out] at hb5
            have hqn1 : 0 < qM.n := by rw [hqn.out]; omega
            have nBB : ∀ q, two m b q → ¬ q = B := fun q h e => not_two_of hM.out hqn1 hB.out.blk (by decide) (by decide) (e ▸ h)
            have nQQ : ∀ q, two m b q → ¬ (q = B ∨ some q = (T1 i).hv.ownBlock) := by
              rintro q h (e | e)
              · exact nBB q h e
              · obtain ⟨_, _, cs', h3⟩ := (hB.out.has i hi).typed q (by rw [put_eq]; exact e.symm)
                exact not_two_of hM.out hqn1 h3 (by decide) (by decide) h
            have hMM := hM.out.fr hf5 (nQQ m (.inl rfl)) (nQQ b (.inr rfl))
            have hI2 := hI.out.popYes hr hi hpp.out s4.out hq5
            have hBB := hB.out
            generalize hT2 : put T1 i ⟨(T1 i).hv, (T1 i).h, (T1 i).wv, some (p, ⟨x, false, 3, tp, nx⟩), (T1 i).push, (T1 i).lays⟩ = T2 at hBB hb5
            have hτ2 : T2 i = ⟨(T1 i).hv, (T1 i).h, (T1 i).wv, some (p, ⟨x, false, 3, tp, nx⟩), (T1 i).push, (T1 i).lays⟩ := by rw [← hT2, put_eq]
            obtain ⟨hB5, hK5⟩ := TB.overTake (hv' := hq5) (x := x) hBB hi (by rw [hτ2]; exact hf5) (by
              rw [hτ2]
              have e1 := tarr_set (T := T2) (k := 2) (v := .pointer none) (τ := ⟨(T1 i).hv, (T1 i).h, (T1 i).wv, none, none, (T1 i).lays⟩) hi (by decide) (by rw [hτ2]; exact five rfl rfl rfl (by show Value.pointer none = Value.pointer ((T1 i).push.map _); rw [hpn.out]; rfl) rfl)
              have e2 := tarr_set (T := put T2 i ⟨(T1 i).hv, (T1 i).h, (T1 i).wv, none, none, (T1 i).lays⟩) (k := 0) (v := hq5) (τ := ⟨hq5, (T1 i).h ++ [x], (T1 i).wv, none, none, (T1 i).lays⟩) hi (by decide) (by rw [put_eq]; exact five rfl rfl rfl rfl rfl)
              rw [e1] at hb5
              have hb6 : Blk w5 B 74 ((tarr K (put T2 i ⟨(T1 i).hv, (T1 i).h, (T1 i).wv, none, none, (T1 i).lays⟩)).setIfInBounds (5 * i + 0) hq5) := hb5
              rw [e2, put_put] at hb6
              exact hb6) (by rw [hτ2]; exact hqq5) (by rw [hτ2]; exact ho5)
            rw [hτ2, ← hT2, put_put] at hB5
            exact ⟨rfl, qM, _, t + 1, r, _, by omega, hMM, hF0.out, hB5, hI2, hK.out.trans hK5⟩
      · obtain ⟨hb0, lp⟩ := hB.out.push i hi p q hpq
        have np := not_two_of hM.out hn0 hb0 (by decide) (by decide)
        have hqI := (hI.out.push i hi p q hpq).1
        have hlay := hI.out.laying hi hpq
        have hsl := (hI.out.push i hi p q hpq).2.1
        have hstep := push_step hr hnM hU.out hI.out.stk ht hqI hlay.1 hlay.2.1
        have v2 : wc.cell? ⟨B, o + 2, none⟩ = some (.pointer none) := by rw [ho.out]; have := hB.out.blk.cell (tarr_get (k := 2) hi (by decide)); rw [show tv (T1 i) 2 = .pointer none by show Value.pointer _ = _; rw [hqn0]; rfl] at this; exact this
        have v3 : wc.cell? ⟨B, o + 3, none⟩ = some (.pointer (some ⟨p, 0, none⟩)) := by rw [ho.out]; have := hB.out.blk.cell (tarr_get (k := 3) hi (by decide)); rw [show tv (T1 i) 3 = .pointer (some ⟨p, 0, none⟩) by show Value.pointer _ = _; rw [hpq]; rfl] at this; exact this
        have hF0 := pushM_fine (c := c) (q := q) hr hf.out hqI.ok
        have htt := pushM_t c q M
        have hcall := pushC c wc p m b M hr hM.out ok np q hb0 hqI.ok
        obtain ⟨qs, qM, qd, hqs⟩ : ∃ qs qM qd, pushS c q M = qs ∧ pushM c q M = qM ∧ pushD c q M = qd := ⟨_, _, _, rfl, rfl, rfl⟩
        have hqa : (qs.a == 3) = qd := by rw [← hqs.1, ← hqs.2.2]; rfl
        rw [hqs.1, hqs.2.1, hqs.2.2] at hcall
        rw [hqs.1, hqs.2.1, hqs.2.2] at hstep
        rw [hqs.2.1] at hF0 htt
        clear hqs
        replace hpq := Lib.hid hpq
        replace hqn0 := Lib.hid hqn0
        replace hF0 := Lib.hid hF0
        replace hnM := Lib.hid hnM
        replace hb0 := Lib.hid hb0
        replace hqa := Lib.hid hqa
        have hle : qM.t ≤ M.t + 1 := htt.1
        have hqn : Hid (qM.n = n) := Lib.hid (htt.2.trans hnn.out)
        clear htt hqI
        replace hsl := Lib.hid hsl
        obtain ⟨hs1, hstep⟩ := hstep
        rcases hstep with ⟨rfl, s1, s2, s3, s4⟩ | ⟨rfl, s1⟩
        · have hI2 := hI.out.pushNo hi hpq.out hs1 s1 s2 s3 s4
          replace s2 := Lib.hid s2
          replace s3 := Lib.hid s3
          replace s4 := Lib.hid s4
          replace hs1 := Lib.hid hs1
          replace hI2 := Lib.hid hI2
          go_upto_region 21 with (go_at_call 47; refine hcall.mono ?_; rintro e w2 ⟨rfl, hP', hM', hF'⟩; have hB' := TB.pushStep hB.out hi hM.out hn0 hpq.out hF' hP'; have hu' := IQ.three hu.out hM.out hn0 hb0.out (by decide) hF'; have hcf' := Blk.fr hcf.out hF' (not_three_of hM.out hn0 hb0.out hcf.out (by decide) (by decide) (by decide)); have hK' := hK.out.trans (keeps_three hM.out hn0 hb0.out (by unfold okT; decide) hF' lp lm lb hB.out.lo_size); have zf := hF'.size; replace hB := Lib.hid hB'; replace hM := Lib.hid hM'; replace hu := Lib.hid hu'; replace hcf := Lib.hid hcf'; replace hK := Lib.hid hK'; clear hB' hM' hu' hcf' hK' hF' v2 v3; replace hP' := Lib.hid hP')
          go_wp2
          replace hM := Lib.hid hM.out.drew
          replace hcf := Lib.hid (Blk.drew hcf.out)
          have hbd := (Below.refl w2.heap.size w2).drew
          have lz := hB.out.lo_size
          replace hB := Lib.hid (hB.out.below hbd (Nat.le_refl _))
          replace hK := Lib.hid (hK.out.trans (keeps_below hbd (Nat.le_refl _) lz))
          replace hP' := Lib.hid (Blk.drew hP'.out)
          replace hu := Lib.hid hu.out.drew
          have hX : w2.drew.cell? ⟨CF, 0, none⟩ = some (.int .i64 c.S) ∧ w2.drew.cell? ⟨CF, 1, none⟩ = some (.int .i64 c.A) ∧ w2.drew.cell? ⟨CF, 2, none⟩ = some (.int .i64 c.C) ∧ w2.drew.cell? ⟨CF, 3, none⟩ = some (.int .i64 c.H) ∧ w2.drew.cell? ⟨CF, 4, none⟩ = some (.int .i64 c.G) ∧ w2.drew.cell? ⟨CF, 5, none⟩ = some (.int .i64 c.K) := cfgs hcf.out
          have hU2 := Lib.hid hF0.out.u
          clear hbd lz
          go_region_held3 (fun w' => w'.cell? ⟨CF, 0, none⟩ = some (.int .i64 c.S) ∧ w'.cell? ⟨CF, 1, none⟩ = some (.int .i64 c.A) ∧ w'.cell? ⟨CF, 2, none⟩ = some (.int .i64 c.C) ∧ w'.cell? ⟨CF, 3, none⟩ = some (.int .i64 c.H) ∧ w'.cell? ⟨CF, 4, none⟩ = some (.int .i64 c.G) ∧ w'.cell? ⟨CF, 5, none⟩ = some (.int .i64 c.K)) (assumption) (first
            | (go_at_call 24; refine (words_n _ m b n _ hM.out hqn.out (by omega)).mono ?_; rintro e u1 ⟨A1, cc1, b1, rfl, _, hR1, hb'⟩; have lz := hB.out.lo_size; replace hB := Lib.hid (hB.out.below hb' (Nat.le_refl _)); replace hM := Lib.hid (hM.out.next hb'); replace hK := Lib.hid (hK.out.trans (keeps_below hb' (Nat.le_refl _) lz)); replace hcf := Lib.hid (Blk.below hcf.out hb' (Blk.lt hcf.out)); replace hu := Lib.hid (hu.out.below hb'); have zz := hb'.size; clear lz; replace hP' := Lib.hid (Blk.below hP'.out hb' (Blk.lt hP'.out)); have hY1 : u1.cell? ⟨CF, 0, none⟩ = some (.int .i64 c.S) ∧ u1.cell? ⟨CF, 1, none⟩ = some (.int .i64 c.A) ∧ u1.cell? ⟨CF, 2, none⟩ = some (.int .i64 c.C) ∧ u1.cell? ⟨CF, 3, none⟩ = some (.int .i64 c.H) ∧ u1.cell? ⟨CF, 4, none⟩ = some (.int .i64 c.G) ∧ u1.cell? ⟨CF, 5, none⟩ = some (.int .i64 c.K) := cfgs hcf.out; replace hR1 := Lib.hid hR1; clear hb' zz)
            | (go_at_call 30; refine (refListQ c _ A1 cc1 b1 n _ hU2.out hr hn.out hR1.out).mono ?_; rintro e wq ⟨v, rfl, hLu, hb'⟩; have hlv := Lib.hid (TB.hv_lt hB.out); rw [hI2.out.stk.list hr] at hLu; have lz := hB.out.lo_size; replace hB := Lib.hid (hB.out.below hb' (Nat.le_refl _)); replace hM := Lib.hid (hM.out.next hb'); replace hK := Lib.hid (hK.out.trans (keeps_below hb' (Nat.le_refl _) lz)); replace hcf := Lib.hid (Blk.below hcf.out hb' (Blk.lt hcf.out)); replace hu := Lib.hid (hu.out.below hb'); have zz := hb'.size; clear lz; replace hP' := Lib.hid (Blk.below hP'.out hb' (Blk.lt hP'.out)); have hY2 : wq.cell? ⟨CF, 0, none⟩ = some (.int .i64 c.S) ∧ wq.cell? ⟨CF, 1, none⟩ = some (.int .i64 c.A) ∧ wq.cell? ⟨CF, 2, none⟩ = some (.int .i64 c.C) ∧ wq.cell? ⟨CF, 3, none⟩ = some (.int .i64 c.H) ∧ wq.cell? ⟨CF, 4, none⟩ = some (.int .i64 c.G) ∧ wq.cell? ⟨CF, 5, none⟩ = some (.int .i64 c.K) := cfgs hcf.out; have hv := Lib.hid hLu; clear hLu; clear hb' zz))
          all_goals
            go_wp2_with (first
              | (go_at_call 26; refine (touches_c _ m b _ hM.out).mono ?_; rintro e w3 ⟨rfl, rfl⟩)
              | (go_at_call 28; (with_reducible refine (sameC _ _ _ _ _ L L (hu.out.li (by omega)) (hv.out.li (by omega))).mono ?_); rintro e w5 ⟨rfl, hb'⟩; rw [decide_eq_true rfl]; have lz := hB.out.lo_size; replace hB := Lib.hid (hB.out.below hb' (Nat.le_refl _)); replace hM := Lib.hid (hM.out.next hb'); replace hK := Lib.hid (hK.out.trans (keeps_below hb' (Nat.le_refl _) lz)); replace hcf := Lib.hid (Blk.below hcf.out hb' (Blk.lt hcf.out)); replace hu := Lib.hid (hu.out.below hb'); have zz := hb'.size; clear lz; clear hb'))
            go_ret
            exact ⟨rfl, qM, _, t, L, own, by omega, hM.out, hF0.out, hB.out, hI2.out, hK.out⟩
        · replace s1 := Lib.hid s1
          replace hs1 := Lib.hid hs1
          go_upto_region 21 with (go_at_call 47; refine hcall.mono ?_; rintro e w2 ⟨rfl, hP', hM', hF'⟩; have hB' := TB.pushStep hB.out hi hM.out hn0 hpq.out hF' hP'; have hu' := IQ.three hu.out hM.out hn0 hb0.out (by decide) hF'; have hcf' := Blk.fr hcf.out hF' (not_three_of hM.out hn0 hb0.out hcf.out (by decide) (by decide) (by decide)); have hK' := hK.out.trans (keeps_three hM.out hn0 hb0.out (by unfold okT; decide) hF' lp lm lb hB.out.lo_size); have zf := hF'.size; replace hB := Lib.hid hB'; replace hM := Lib.hid hM'; replace hu := Lib.hid hu'; replace hcf := Lib.hid hcf'; replace hK := Lib.hid hK'; clear hB' hM' hu' hcf' hK' hF' v2 v3; replace hP' := Lib.hid hP')
          go_wp2
          replace hM := Lib.hid hM.out.drew
          replace hcf := Lib.hid (Blk.drew hcf.out)
          have hbd := (Below.refl w2.heap.size w2).drew
          have lz := hB.out.lo_size
          replace hB := Lib.hid (hB.out.below hbd (Nat.le_refl _))
          replace hK := Lib.hid (hK.out.trans (keeps_below hbd (Nat.le_refl _) lz))
          replace hP' := Lib.hid (Blk.drew hP'.out)
          replace hu := Lib.hid hu.out.drew
          have hX : w2.drew.cell? ⟨CF, 0, none⟩ = some (.int .i64 c.S) ∧ w2.drew.cell? ⟨CF, 1, none⟩ = some (.int .i64 c.A) ∧ w2.drew.cell? ⟨CF, 2, none⟩ = some (.int .i64 c.C) ∧ w2.drew.cell? ⟨CF, 3, none⟩ = some (.int .i64 c.H) ∧ w2.drew.cell? ⟨CF, 4, none⟩ = some (.int .i64 c.G) ∧ w2.drew.cell? ⟨CF, 5, none⟩ = some (.int .i64 c.K) := cfgs hcf.out
          have hU2 := Lib.hid hF0.out.u
          clear hbd lz
          go_region_held3 (fun w' => w'.cell? ⟨CF, 0, none⟩ = some (.int .i64 c.S) ∧ w'.cell? ⟨CF, 1, none⟩ = some (.int .i64 c.A) ∧ w'.cell? ⟨CF, 2, none⟩ = some (.int .i64 c.C) ∧ w'.cell? ⟨CF, 3, none⟩ = some (.int .i64 c.H) ∧ w'.cell? ⟨CF, 4, none⟩ = some (.int .i64 c.G) ∧ w'.cell? ⟨CF, 5, none⟩ = some (.int .i64 c.K)) (assumption) (first
            | (go_at_call 24; refine (words_n _ m b n _ hM.out hqn.out (by omega)).mono ?_; rintro e u1 ⟨A1, cc1, b1, rfl, _, hR1, hb'⟩; have lz := hB.out.lo_size; replace hB := Lib.hid (hB.out.below hb' (Nat.le_refl _)); replace hM := Lib.hid (hM.out.next hb'); replace hK := Lib.hid (hK.out.trans (keeps_below hb' (Nat.le_refl _) lz)); replace hcf := Lib.hid (Blk.below hcf.out hb' (Blk.lt hcf.out)); replace hu := Lib.hid (hu.out.below hb'); have zz := hb'.size; clear lz; replace hP' := Lib.hid (Blk.below hP'.out hb' (Blk.lt hP'.out)); have hY1 : u1.cell? ⟨CF, 0, none⟩ = some (.int .i64 c.S) ∧ u1.cell? ⟨CF, 1, none⟩ = some (.int .i64 c.A) ∧ u1.cell? ⟨CF, 2, none⟩ = some (.int .i64 c.C) ∧ u1.cell? ⟨CF, 3, none⟩ = some (.int .i64 c.H) ∧ u1.cell? ⟨CF, 4, none⟩ = some (.int .i64 c.G) ∧ u1.cell? ⟨CF, 5, none⟩ = some (.int .i64 c.K) := cfgs hcf.out; replace hR1 := Lib.hid hR1; clear hb' zz)
            | (go_at_call 30; refine (refListQ c _ A1 cc1 b1 n _ hU2.out hr hn.out hR1.out).mono ?_; rintro e wq ⟨v, rfl, hLu, hb'⟩; have hlv := Lib.hid (TB.hv_lt hB.out); rw [s1.out.list hr] at hLu; have lz := hB.out.lo_size; replace hB := Lib.hid (hB.out.below hb' (Nat.le_refl _)); replace hM := Lib.hid (hM.out.next hb'); replace hK := Lib.hid (hK.out.trans (keeps_below hb' (Nat.le_refl _) lz)); replace hcf := Lib.hid (Blk.below hcf.out hb' (Blk.lt hcf.out)); replace hu := Lib.hid (hu.out.below hb'); have zz := hb'.size; clear lz; replace hP' := Lib.hid (Blk.below hP'.out hb' (Blk.lt hP'.out)); have hY2 : wq.cell? ⟨CF, 0, none⟩ = some (.int .i64 c.S) ∧ wq.cell? ⟨CF, 1, none⟩ = some (.int .i64 c.A) ∧ wq.cell? ⟨CF, 2, none⟩ = some (.int .i64 c.C) ∧ wq.cell? ⟨CF, 3, none⟩ = some (.int .i64 c.H) ∧ wq.cell? ⟨CF, 4, none⟩ = some (.int .i64 c.G) ∧ wq.cell? ⟨CF, 5, none⟩ = some (.int .i64 c.K) := cfgs hcf.out; have hv := Lib.hid hLu; clear hLu; clear hb' zz))
          all_goals
            go_wp2_with (first
              | (go_at_call 26; refine (touches_c _ m b _ hM.out).mono ?_; rintro e w3 ⟨rfl, rfl⟩)
              | (go_at_call 84; refine (o_push (x := q.sl) hB.out.blk hu.out hv.out (by omega) (v3 := .pointer (some ⟨p, 0, none⟩)) (by rw [ho.out]; have := tarr_get (T := (put T1 i ⟨(T1 i).hv, (T1 i).h, (T1 i).wv, (T1 i).pop, some (p, qs), (T1 i).lays⟩)) (k := 2) hi (by decide); rw [show tv ((put T1 i ⟨(T1 i).hv, (T1 i).h, (T1 i).wv, (T1 i).pop, some (p, qs), (T1 i).lays⟩) i) 2 = (.pointer none) by rw [put_eq]; show Value.pointer ((T1 i).pop.map _) = _; rw [hqn0.out]; rfl] at this; exact this) (by rw [ho.out]; have := tarr_get (T := (put T1 i ⟨(T1 i).hv, (T1 i).h, (T1 i).wv, (T1 i).pop, some (p, qs), (T1 i).lays⟩)) (k := 3) hi (by decide); rw [show tv ((put T1 i ⟨(T1 i).hv, (T1 i).h, (T1 i).wv, (T1 i).pop, some (p, qs), (T1 i).lays⟩) i) 3 = (.pointer (some ⟨p, 0, none⟩)) by rw [put_eq]; rfl] at this; exact this) (by rw [ho.out]; have := tarr_get (T := (put T1 i ⟨(T1 i).hv, (T1 i).h, (T1 i).wv, (T1 i).pop, some (p, qs), (T1 i).lays⟩)) (k := 4) hi (by decide); rw [show tv ((put T1 i ⟨(T1 i).hv, (T1 i).h, (T1 i).wv, (T1 i).pop, some (p, qs), (T1 i).lays⟩) i) 4 = (.int .i64 q.sl) by rw [put_eq]; rw [hsl.out]; rfl] at this; exact this)).mono ?_; rintro e w5 ⟨rfl, hb5, hf5⟩; clear hX))
            go_ret
            rw [ho.out] at hb5
            have hqn1 : 0 < qM.n := by rw [hqn.out]; omega
            have nBB : ∀ q, two m b q → ¬ q = B := fun q h e => not_two_of hM.out hqn1 hB.out.blk (by decide) (by decide) (e ▸ h)
            have hMM := hM.out.fr hf5 (nBB m (.inl rfl)) (nBB b (.inr rfl))
            have hI2 := hI.out.pushYes hr hi hpq.out s1.out
            have hBB := hB.out
            generalize hT2 : put T1 i ⟨(T1 i).hv, (T1 i).h, (T1 i).wv, (T1 i).pop, some (p, qs), (T1 i).lays⟩ = T2 at hBB hb5
            have hτ2 : T2 i = ⟨(T1 i).hv, (T1 i).h, (T1 i).wv, (T1 i).pop, some (p, qs), (T1 i).lays⟩ := by rw [← hT2, put_eq]
            obtain ⟨hB5, hK5⟩ := TB.over hBB hi hf5 (by
              rw [hτ2]
              have e1 := tarr_set (T := T2) (k := 2) (v := .pointer none) (τ := ⟨(T1 i).hv, (T1 i).h, (T1 i).wv, none, some (p, qs), (T1 i).lays⟩) hi (by decide) (by rw [hτ2]; exact five rfl rfl rfl rfl rfl)
              have e2 := tarr_set (T := put T2 i ⟨(T1 i).hv, (T1 i).h, (T1 i).wv, none, some (p, qs), (T1 i).lays⟩) (k := 3) (v := .pointer none) (τ := ⟨(T1 i).hv, (T1 i).h, (T1 i).wv, none, none, (T1 i).lays⟩) hi (by decide) (by rw [put_eq]; exact five rfl rfl rfl rfl rfl)
              rw [e1, e2, put_put] at hb5
              exact hb5)
            rw [hτ2, ← hT2, put_put] at hB5
            exact ⟨rfl, qM, _, t + 1, q.sl :: L, _, by omega, hMM, hF0.out, hB5, hI2, hK.out.trans hK5⟩
end
end Go.Proofs.Ytijfkpoofpcacaa.TakerU
namespace Go.Proofs.Ytijfkpoofpcacaa.Opens
open Go.ChangeShapes Go.WideShapes Go.Deep Go.RowKit
section
variable {H : Type} {enc : TypeId × Value → H} {P : Program} {W : World} {base : Nat} {spare : Nat → Bool} {held : Bool}
/-- A row of booleans, as a value. -/
def RowOf (W : World) (v : Value) : Prop := ∃ (A : Option Addr) (n c : Nat) (g : Nat → Bool), v = .slice A n c ∧ n ≤ c ∧ Sl W A n 1 (fun i _ => .bool (g i))
theorem row_bools {t e : TypeId} {V : Value} {fuel : Nat} {y : DataW H × List MemPlace} (ht : P.underlying t = some (.slice e)) (hs : P.underlying e = some .bool) (hC : P.cellsOf e = 1) (hf : DataW.trod enc P W base spare held fuel t [V] = some y) : RowOf W V := by
  rcases open_slice1 ht hC hf with ⟨hcs, _⟩ | ⟨x, l, c, m, n, V2, D, Pl, hcs, _, hl, hm, hmm, hx, hall⟩
  · simp at hcs
    subst hcs
    exact ⟨none, 0, 0, fun _ => false, rfl, Nat.le_refl _, fun h => absurd h (by decide)⟩
  · simp at hcs
    subst hcs
    have hlm : l ≤ m := by rw [hmm]; split <;> omega
    have each : ∀ i, i < m → ∃ q : Bool, W.cell? (x.add i) = some (.bool q) := by
      intro i hi
      obtain ⟨h1, h2⟩ := hall i hi
      obtain ⟨n1, h3, _⟩ := DataW.trod_bool hs h2
      refine ⟨n1, ?_⟩
      rw [h1]
      simpa using h3
    obtain ⟨q, hq⟩ := choose_lt each
    refine ⟨some x, l, c, q, rfl, hl, fun hn => ?_⟩
    have c0 := (hq 0 (by omega))
    obtain ⟨b, o, spot⟩ := x
    have hspot : spot = none := by simpa [Addr.add] using World.cell?_spot c0
    subst hspot
    refine ⟨b, o, rfl, ?_, fun i hi j hj => ?_⟩
    · rw [add_plain] at c0
      exact cell_lt c0
    · have := (hq i (by omega))
      rw [add_plain] at this
      obtain rfl : j = 0 := by omega
      rw [Nat.mul_one]
      exact this
theorem open_boolrows {t e e2 : TypeId} {A : Option Addr} {len cap : Nat} {d : DataW H} {ps : List MemPlace}
    (ht : P.underlying t = some (.slice e)) (he : P.underlying e = some (.slice e2)) (hs : P.underlying e2 = some .bool) (hC : P.cellsOf e = 1) (hC2 : P.cellsOf e2 = 1) (h : DataW.Trod enc P W base spare held t (.slice A len cap) d ps) :
    len ≤ cap ∧ ∃ V : Nat → Value, Sl W A len 1 (fun i _ => V i) ∧ ∀ i, i < len → RowOf W (V i) := by
  obtain ⟨fuel, hf⟩ := h
  rcases open_slice1 ht hC hf with ⟨hcs, _⟩ | ⟨x, l, c, m, n, V, D, Pl, hcs, _, hl, hm, hmm, hx, hall⟩
  · simp [Value.cells] at hcs
    obtain ⟨rfl, rfl, rfl⟩ := hcs
    exact ⟨Nat.le_refl _, fun _ => undef, fun h => absurd h (by decide), fun i hi => absurd hi (by omega)⟩
  · simp [Value.cells] at hcs
    obtain ⟨rfl, rfl, rfl⟩ := hcs
    have hlm : len ≤ m := by rw [hmm]; split <;> omega
    refine ⟨hl, V, fun hn => ?_, fun i hi => row_bools he hs hC2 (hall i (by omega)).2⟩
    have c0 := (hall 0 (by omega)).1
    obtain ⟨b, o, spot⟩ := x
    have hspot : spot = none := by simpa [Addr.add] using World.cell?_spot c0
    subst hspot
    refine ⟨b, o, rfl, ?_, fun i hi j hj => ?_⟩
    · rw [add_plain] at c0
      exact cell_lt c0
    · have := (hall i (by omega)).1
      rw [add_plain] at this
      obtain rfl : j = 0 := by omega
      rw [Nat.mul_one]
      exact this
end
end Go.Proofs.Ytijfkpoofpcacaa.Opens
set_option linter.unusedVariables false
set_option linter.unusedSimpArgs false
namespace Go.Proofs.Ytijfkpoofpcacaa.TakerW
open Go.RowKit Go.Proofs.YtijfkpoofpcacaaW.PrintWords Go.Proofs.Ytijfkpoofpcacaa.Blk Go.Proofs.Ytijfkpoofpcacaa.Core Go.Proofs.Ytijfkpoofpcacaa.MemC Go.Proofs.Ytijfkpoofpcacaa.MemD Go.Proofs.Ytijfkpoofpcacaa.MemT Go.Proofs.Ytijfkpoofpcacaa.Memory Go.Proofs.Ytijfkpoofpcacaa.PlanC Go.Proofs.Ytijfkpoofpcacaa.PlanD Go.Proofs.Ytijfkpoofpcacaa.StackC Go.Proofs.Ytijfkpoofpcacaa.StackL Go.Proofs.Ytijfkpoofpcacaa.StackS Go.Proofs.Ytijfkpoofpcacaa.StackT Go.Proofs.Ytijfkpoofpcacaa.StackF Go.Proofs.Ytijfkpoofpcacaa.StackP Go.Proofs.Ytijfkpoofpcacaa.StackQ Go.Proofs.Ytijfkpoofpcacaa.StackG Go.Proofs.Ytijfkpoofpcacaa.StackI Go.Proofs.Ytijfkpoofpcacaa.QueueI Go.Proofs.Ytijfkpoofpcacaa.TakerL Go.Proofs.Ytijfkpoofpcacaa.TakerM Go.Proofs.Ytijfkpoofpcacaa.TakerS Go.Proofs.Ytijfkpoofpcacaa.TakerT Go.Proofs.Ytijfkpoofpcacaa.TakerV Go.Proofs.Ytijfkpoofpcacaa.TakerU Go.Proofs.Ytijfkpoofpcacaa.Opens
theorem infoT : (Try.prog.info? 74).map (fun i => (i.zero, i.size, i.bytes)) = some (some (.agg #[.slice none 0 0, .slice none 0 0, .pointer none, .pointer none, .int .i64 0]), 5, 72) := by kernel_rfl
theorem made_t (C : Nat) : madeCells (Value.agg #[.slice none 0 0, .slice none 0 0, .pointer none, .pointer none, .int .i64 0]).cells (C * 5) = tarr C (fun _ => Tk.new) := by
  refine Array.ext_getElem? fun x => ?_
  by_cases hx : x < C * 5
  · have h1 : x < (madeCells (Value.agg #[.slice none 0 0, .slice none 0 0, .pointer none, .pointer none, .int .i64 0]).cells (C * 5)).size := by rw [size_madeCells]; exact hx
    have h2 : x < (tarr C (fun _ => Tk.new)).size := by unfold tarr; rw [sarr_size]; omega
    rw [Array.getElem?_eq_getElem h1, Array.getElem?_eq_getElem h2]
    have hr : x % 5 < 5 := by omega
    simp only [madeCells, tarr, sarr, Array.getElem_map, Array.getElem_range, Value.cells]
    generalize x % 5 = r at *
    exact congrArg some (five (P := fun r => (#[Value.slice none 0 0, Value.slice none 0 0, Value.pointer none, Value.pointer none, Value.int IntKind.i64 0] : Array Value)[r]! = tv Tk.new r) rfl rfl rfl rfl rfl r hr)
  · rw [Array.getElem?_eq_none (by rw [size_madeCells]; omega), Array.getElem?_eq_none (by unfold tarr; rw [sarr_size]; omega)]
theorem make_t (C : Nat) (h1 : C ≤ 1000) (w : World) : (Instr.makeSlice 72 (.int .i64 (C : Int)) (.int .i64 (C : Int))).run Try.prog w = .ok (.slice (some ⟨w.heap.size, 0, none⟩) C C) (w.alloc (.cells (tarr C (fun _ => Tk.new)) 74)) := by
  obtain ⟨i, hi, e⟩ := Option.map_eq_some_iff.1 infoT
  simp only [Prod.mk.injEq] at e
  obtain ⟨e0, e1, e2⟩ := e
  have := run_make w 72 74 i _ Try.underlying72 hi e0 .i64 .i64 C C (by omega) (Int.le_refl _) (by rw [e2]; omega) (by omega)
  rw [e1, Int.toNat_natCast, made_t] at this
  exact this
theorem ups_all : ∀ (n k : Nat) (x : Int), (k : Int) ≤ x → x < (k : Int) + n → x ∈ ups k n := by
  intro n
  induction n with
  | zero => intro k x h1 h2; omega
  | succ n ih =>
    intro k x h1 h2
    show x ∈ (k : Int) :: ups (k + 1) n
    by_cases e : x = k
    · subst e; exact List.mem_cons_self ..
    · exact List.mem_cons_of_mem _ (ih (k + 1) x (by omega) (by omega))
theorem okCfg : okT 23 := by unfold okT; decide
theorem below_drew0 (w : World) : Below w.heap.size w w.drew := (Below.refl w.heap.size w).drew
theorem below_drewN0 (w : World) (k : Nat) : Below w.heap.size w (w.drewN k) := below_drewN' (Below.refl w.heap.size w)
theorem Sl.at_' {w : World} {A : Option Addr} {n m : Nat} {V : Nat → Nat → Value} (h : Sl w A n m V) {i : Nat} (hi : i < n) : ∃ b off, A = some ⟨b, off, none⟩ ∧ b < w.heap.size ∧ ∀ j, j < m → w.cell? ⟨b, off + i * m + j, none⟩ = some (V i j) := by
  obtain ⟨b, off, e, hl, hc⟩ := h (by omega)
  exact ⟨b, off, e, hl, hc i hi⟩
/-- Takers of which the first i have their work. -/
def Tn (V : Nat → Value) (i : Nat) : Nat → Tk := fun j => if j < i then ⟨.slice none 0 0, [], V j, none, none, 0⟩ else Tk.new
theorem Tn_put (V : Nat → Value) (i : Nat) : put (Tn V i) i ⟨.slice none 0 0, [], V i, none, none, 0⟩ = Tn V (i + 1) := by
  funext j
  unfold put Tn
  by_cases e : j = i
  · rw [if_pos e, if_pos (by omega), e]
  · rw [if_neg e]
    by_cases h : j < i
    · rw [if_pos h, if_pos (by omega)]
    · rw [if_neg h, if_neg (by omega)]
theorem tn_ti {c : Cf} (hr : c.right = true) {k : Nat} (hk : (k : Int) = c.S) (hs : Stk c (memF c.A c.C c.H (c.S - 1).toNat) 0 (ups 0 k)) (V : Nat → Value) (K : Nat) : TI c (memF c.A c.C c.H (c.S - 1).toNat) 0 (ups 0 k) K (Tn V K) (fun _ => 0) := by
  have hT : ∀ i, i < K → Tn V K i = ⟨.slice none 0 0, [], V i, none, none, 0⟩ := fun i hi => if_pos hi
  refine ⟨hs, (fun i hi p q a => by rw [hT i hi] at a; cases a), (fun i hi p q a => by rw [hT i hi] at a; cases a), fun x => ⟨fun h => ⟨?_, rfl⟩, fun h => ups_all k 0 x (by omega) (by omega)⟩, fun i hi x => ?_, fun i hi => ?_, fun x hx => Nat.zero_le _⟩
  · have := ups_mem h; omega
  · rw [hT i hi]; show x ∈ ([] : List Int) ↔ _; simp
  · rw [hT i hi]; exact List.nodup_nil
theorem tn_tb {c : Cf} {w0 w : World} {lo B K : Nat} {V : Nat → Value} (hb : Blk w B 74 (tarr K (Tn V K))) (hl : lo ≤ B) (hV : ∀ i, i < K → RowOf w0 (V i)) : TB c w0 w lo B K (Tn V K) := by
  have hT : ∀ i, i < K → Tn V K i = ⟨.slice none 0 0, [], V i, none, none, 0⟩ := fun i hi => if_pos hi
  refine ⟨hb, hl, (fun i hi p q a => by rw [hT i hi] at a; cases a), (fun i hi p q a => by rw [hT i hi] at a; cases a), (fun i hi => by rw [hT i hi]; exact IQ.nil _ _), (fun i j hi hj _ k a => by rw [hT i hi] at a; cases a), (fun i j hi hj _ p q p' q' a => by rw [hT i hi] at a; cases a), (fun i j hi hj _ p q p' q' a => by rw [hT i hi] at a; cases a), (fun i hi => by rw [hT i hi]; exact hV i hi)⟩
set_option maxHeartbeats 4000000 in
set_option maxRecDepth 100000 in
theorem playsC (c0 : Cf) (w : World) (A1 A2 : Option Addr) (n1 c1 n2 c2 : Nat) (V : Nat → Value) (q : Nat → Int) (hl1 : n1 ≤ c1) (hl2 : n2 ≤ c2) (hS1 : Sl w A1 n1 1 (fun i _ => V i)) (hV : ∀ i, i < n1 → RowOf w (V i)) (hS2 : Sl w A2 n2 1 (fun i _ => .int .i64 (q i))) (hn2 : n2 ≤ 1152921504606846976) :
    Calls Try.prog 13 #[.agg #[.int .i64 c0.S, .int .i64 c0.A, .int .i64 c0.C, .int .i64 c0.H, .int .i64 c0.G, .int .i64 c0.K], .slice A1 n1 c1, .slice A2 n2 c2] w fun e w' => e = .returned (.bool true) ∧ Below w.heap.size w w' := by
  replace hS1 := Lib.hid hS1
  replace hS2 := Lib.hid hS2
  replace hV := Lib.hid hV
  have hf0 := Lib.hid (Blk.new w 23 #[.int .i64 c0.S, .int .i64 c0.A, .int .i64 c0.C, .int .i64 c0.H, .int .i64 c0.G, .int .i64 c0.K])
  have hT0 := Lib.hid ((Below.refl w.heap.size w).alloc (Nat.le_refl _) (.cells #[.int .i64 c0.S, .int .i64 c0.A, .int .i64 c0.C, .int .i64 c0.H, .int .i64 c0.G, .int .i64 c0.K] 23))
  go_enter Try.func13, Try.ntmps13
  generalize hCFe : w.heap.size = CF at *
  by_cases hw : 8 < n1
  · have hw' : (8 : Int) < (n1 : Int) := by omega
    go_wp2_with (first
      | (go_at_call 31; refine (fitC c0 _).mono ?_; rintro e w1 ⟨c, rfl, hs, hb1⟩; have hr := small_right hs; have hf1 := hf0.out.below hb1 hf0.out.lt; obtain ⟨k0, k1, k2, k3, k4, k5⟩ := cfgs hf1; have z0 := hf1.frozen 0; have z1 := hf1.frozen 1; have z2 := hf1.frozen 2; have z3 := hf1.frozen 3; have z4 := hf1.frozen 4; have z5 := hf1.frozen 5; replace hf1 := Lib.hid hf1; replace hT0 := Lib.hid (hT0.out.trans (hb1.mono (by have := hT0.out.size; omega))); clear hb1; replace hr := Lib.hid hr; replace hs := Lib.hid hs)
      | (go_at_call 20; (show Calls _ _ _ (six w1 CF c) _); clear k0 k1 k2 k3 k4 k5 z0 z1 z2 z3 z4 z5; have hf2 := six_blk (c := c) hf1.out; have hT2 := six_below (c := c) hT0.out (b := CF) (by omega); generalize six w1 CF c = w2 at *; refine (memC c _ hr.out).mono ?_; rintro e w3 ⟨m, b, rfl, hM3, hm, hb, hb3⟩; have hf3 := hf2.below hb3 hf2.lt; have lt3 := hf2.lt; replace hT2 := Lib.hid (hT2.trans (hb3.mono (by have := hT2.size; omega))); have hcf := Lib.hid hf3; replace hM3 := Lib.hid hM3; obtain ⟨q0, q1, q2, q3, q4, q5⟩ := cfgs hf3; clear hb3 hf2 hf3)
      | (go_at_call 27; refine (awake7C _).mono ?_; rintro e w4 ⟨rfl, hb'⟩; replace hT2 := hT2.out.trans (hb'.mono (by have := hT2.out.size; omega)); clear hb'))
    go_ret
    exact ⟨rfl, hCFe ▸ hT2⟩
  · have hw' : ¬ (8 : Int) < (n1 : Int) := by omega
    go_upto_region 5 with (first
      | (go_at_call 31; refine (fitC c0 _).mono ?_; rintro e w1 ⟨c, rfl, hs, hb1⟩; have hr := small_right hs; have hf1 := hf0.out.below hb1 hf0.out.lt; obtain ⟨k0, k1, k2, k3, k4, k5⟩ := cfgs hf1; have z0 := hf1.frozen 0; have z1 := hf1.frozen 1; have z2 := hf1.frozen 2; have z3 := hf1.frozen 3; have z4 := hf1.frozen 4; have z5 := hf1.frozen 5; replace hf1 := Lib.hid hf1; replace hT0 := Lib.hid (hT0.out.trans (hb1.mono (by have := hT0.out.size; omega))); clear hb1; replace hr := Lib.hid hr; replace hs := Lib.hid hs)
      | (go_at_call 20; (show Calls _ _ _ (six w1 CF c) _); clear k0 k1 k2 k3 k4 k5 z0 z1 z2 z3 z4 z5; have hf2 := six_blk (c := c) hf1.out; have hT2 := six_below (c := c) hT0.out (b := CF) (by omega); generalize six w1 CF c = w2 at *; refine (memC c _ hr.out).mono ?_; rintro e w3 ⟨m, b, rfl, hM3, hm, hb, hb3⟩; have hf3 := hf2.below hb3 hf2.lt; have lt3 := hf2.lt; replace hT2 := Lib.hid (hT2.trans (hb3.mono (by have := hT2.size; omega))); have hcf := Lib.hid hf3; replace hM3 := Lib.hid hM3; obtain ⟨q0, q1, q2, q3, q4, q5⟩ := cfgs hf3; clear hb3 hf2 hf3)
      | (go_at_call 27; refine (awake7C _).mono ?_; rintro e w4 ⟨rfl, hb'⟩; replace hT2 := Lib.hid (hT2.trans (hb'.mono (by have := hT2.size; omega))); replace hcf := Lib.hid (hcf.out.below hb' hcf.out.lt); replace hM3 := Lib.hid (hM3.out.next hb'); obtain ⟨q0, q1, q2, q3, q4, q5⟩ := cfgs hcf.out; have z9 := hb'.size; clear hb'))
    obtain ⟨n, hn⟩ : ∃ n : Nat, (n : Int) = c.size := ⟨c.size.toNat, by have := size_bd hr.out; unfold Cf.size; omega⟩
    have hS := S_bd hr.out
    have hf := Lib.hid (fine_of (n := n) (memF_U c.A c.C c.H (c.S - 1).toNat (by omega)))
    have hM : MemB w4 m b (Ms.of n (memF c.A c.C c.H (c.S - 1).toNat)) := by
      have := hM3.out
      rw [← hn, Int.toNat_natCast] at this
      exact this
    replace hM := Lib.hid hM
    have hT := hT2
    have ltm := hM.out.lm
    have ltb := hM.out.lb
    have mCF : CF < m := by omega
    have bCF : CF < b := by omega
    have hn8 := size_bd hr.out
    have hn8' : 9 ≤ n ∧ n ≤ 800 := by unfold Cf.size at hn; omega
    replace hn := Lib.hid hn
    clear hM3 hT0 hf1 hf0 hT2 hS hn8
    have hc1 := hs.out
    unfold Cf.small at hc1
    obtain ⟨kS, hkS⟩ := Int.eq_ofNat_of_zero_le (show 0 ≤ c.S by omega)
    have hst := stk_start hr.out
    rw [show c.S.toNat = kS by omega] at hst
    have hS12 : c.S ≤ 12 := by omega
    clear hc1
    replace hkS := Lib.hid hkS.symm
    replace hst := Lib.hid hst
    have hmk := make_t n1 (by omega)
    have hG0 := Blk.new w4 74 (tarr n1 (fun _ => Tk.new))
    have hM5 := hM.out.alloc (.cells (tarr n1 (fun _ => Tk.new)) 74)
    have hcf5 := hcf.out.alloc (.cells (tarr n1 (fun _ => Tk.new)) 74)
    have hT5 := hT.out.alloc (by have := hT.out.size; omega) (.cells (tarr n1 (fun _ => Tk.new)) 74)
    have lB : CF < w4.heap.size := hcf.out.lt
    go_upto_region 6 with (fail)
    clear hmk hM hcf hT q0 q1 q2 q3 q4 q5
    generalize hB : w4.heap.size = B at *
    generalize w4.alloc (.cells (tarr n1 (fun _ => Tk.new)) 74) = w5 at *
    have hM := Lib.hid hM5
    have hT := Lib.hid hT5
    have hcf := Lib.hid hcf5
    have hG : Hid (Blk w5 B 74 (tarr n1 (Tn V 0))) := Lib.hid hG0
    clear hM5 hT5 hcf5 hG0 hB
    go_wp2
    go_loopw [9] (fun vi wz => ∃ i : Nat, i ≤ n1 ∧ vi = .int .i64 (i : Int) ∧ Blk wz B 74 (tarr n1 (Tn V i)) ∧ MemB wz m b (Ms.of n (memF c.A c.C c.H (c.S - 1).toNat)) ∧ Blk wz CF 23 #[.int .i64 c.S, .int .i64 c.A, .int .i64 c.C, .int .i64 c.H, .int .i64 c.G, .int .i64 c.K] ∧ Below CF w wz) (fun vi _ => n1 - (intOf vi).toNat)
    case atStart => exact ⟨0, by omega, rfl, hG.out, hM.out, hcf.out, hT.out⟩
    case round =>
      obtain ⟨i, hi, rfl, c1', c2', c3', c4'⟩ := hrel
      clear hM hT hcf hG
      have hG := Lib.hid c1'
      have hM := Lib.hid c2'
      have hcf := Lib.hid c3'
      have hT := Lib.hid c4'
      clear c1' c2' c3' c4'
      by_cases hlt : i < n1
      · have hlt' : (i : Int) < (n1 : Int) := by omega
        obtain ⟨bv, ov, hAv, lbv, jv0⟩ := Sl.at_' (hS1.out.below hT.out (by omega)) hlt
        subst hAv
        have jv : wr.cell? ⟨bv, ov + i, none⟩ = some (V i) := by simpa using jv0
        obtain ⟨A', n', c', g', hVe, hVc, hVs⟩ := hV.out i hlt
        rw [hVe] at jv
        have g1 : wr.cell? ⟨B, i * 5 + 1, none⟩ = some (.slice none 0 0) := by
          have := hG.out.cell (tarr_get (k := 1) hlt (by decide))
          rw [Nat.mul_comm] at this
          rw [this]; unfold Tn; rw [if_neg (Nat.lt_irrefl i)]; rfl
        have g2 := hG.out.frozen (i * 5 + 1)
        have hi0 : (0 : Int) ≤ (i : Int) := by omega
        clear jv0 hVc hVs
        replace hVe := Lib.hid hVe
        go_wp2
        go_roundw
        case rel =>
          have hP := hG.out
          have hb9 := hP.set (i * 5 + 1) (.slice A' n' c')
          rw [← hVe.out] at hb9 ⊢
          rw [Nat.mul_comm i 5, tarr_set (k := 1) (τ := ⟨.slice none 0 0, [], V i, none, none, 0⟩) hlt (by decide) (by unfold Tn; rw [if_neg (Nat.lt_irrefl i)]; exact five rfl rfl rfl rfl rfl), Tn_put] at hb9
          rw [Nat.mul_comm i 5]
          have hF9 := Fr.set (fun k => k = B) wr (p := ⟨B, 5 * i + 1, none⟩) rfl (V i)
          exact ⟨i + 1, by omega, by go_num, hb9, hM.out.fr hF9 (by omega) (by omega), Blk.fr hcf.out hF9 (by omega), hT.out.setCell (p := ⟨B, 5 * i + 1, none⟩) (by show CF ≤ B; omega) _⟩
        case measure => simp [intOf]; omega
      · have hlt' : ¬ (i : Int) < (n1 : Int) := by omega
        obtain rfl : i = n1 := by omega
        have hTI := tn_ti hr.out hkS.out hst.out V i
        have hTB := tn_tb (w0 := w) (c := c) (lo := CF) hG.out (by omega) hV.out
        replace hTI := Lib.hid hTI
        replace hTB := Lib.hid hTB
        clear hG
        go_wp2
        go_loopw [10] (fun vk wr => ∃ (k t : Nat) (L : List Int) (T : Nat → Tk) (own : Int → Nat) (M : Ms), k ≤ n2 ∧ k ≤ 400 ∧ t ≤ k ∧ vk = .int .i64 (k : Int) ∧ TB c w wr CF B i T ∧ TI c M.f t L i T own ∧ MemB wr m b M ∧ Fine M n k ∧ Blk wr CF 23 #[.int .i64 c.S, .int .i64 c.A, .int .i64 c.C, .int .i64 c.H, .int .i64 c.G, .int .i64 c.K] ∧ Below CF w wr) (fun vk _ => n2 - (intOf vk).toNat)
        case atStart => exact ⟨0, 0, _, _, _, _, by omega, by omega, by omega, rfl, hTB.out, hTI.out, hM.out, hf.out, hcf.out, hT.out⟩
        case round =>
          obtain ⟨k, t, L, T, own, M, hk, hk4, htk, rfl, c1', c2', c3', c4', c5', c6'⟩ := hrel
          clear hTB hTI hM hf hcf hT
          have hB := Lib.hid c1'
          have hI := Lib.hid c2'
          have hM := Lib.hid c3'
          have hf := Lib.hid c4'
          have hcf := Lib.hid c5'
          have hT := Lib.hid c6'
          obtain ⟨q0, q1, q2, q3, q4, q5⟩ := cfgs c5'
          clear c1' c2' c3' c4' c5' c6'
          by_cases hlt : k < n2
          · by_cases h4 : k < 400
            · have hlt2 : (k : Int) < (n2 : Int) := by omega
              have h4' : (k : Int) < 400 := by omega
              obtain ⟨bq, oq, hAq, _, jq⟩ := (hS2.out.below hT.out (by omega)).num hlt
              subst hAq
              generalize q k = z at *
              by_cases hz0 : 0 ≤ z
              · by_cases hz1 : z < i
                · obtain ⟨j, rfl⟩ := Int.eq_ofNat_of_zero_le hz0
                  have hji : j < i := by omega
                  go_upto_region 14 with (fail)
                  replace hM := Lib.hid hM.out.drew
                  replace hB := Lib.hid (hB.out.below (below_drew0 wr) (Nat.le_refl _))
                  replace hcf := Lib.hid (Blk.drew hcf.out)
                  replace hT := Lib.hid hT.out.drew
                  have hX : wr.drew.cell? ⟨CF, 0, none⟩ = some (.int .i64 c.S) ∧ wr.drew.cell? ⟨CF, 1, none⟩ = some (.int .i64 c.A) ∧ wr.drew.cell? ⟨CF, 2, none⟩ = some (.int .i64 c.C) ∧ wr.drew.cell? ⟨CF, 3, none⟩ = some (.int .i64 c.H) ∧ wr.drew.cell? ⟨CF, 4, none⟩ = some (.int .i64 c.G) ∧ wr.drew.cell? ⟨CF, 5, none⟩ = some (.int .i64 c.K) := cfgs hcf.out
                  clear q0 q1 q2 q3 q4 q5 jq
                  have h00 : Below w.heap.size w wr.drew := by rw [hCFe]; exact hT.out
                  have hcon := Lib.hid (takerStep hr.out hM.out hf.out hn.out (by omega) hji (Nat.mul_comm j 5) hB.out hI.out (by omega) (by omega) (by omega) h00 (by omega))
                  clear h00
                  go_region_held3 (fun w' => w'.cell? ⟨CF, 0, none⟩ = some (.int .i64 c.S) ∧ w'.cell? ⟨CF, 1, none⟩ = some (.int .i64 c.A) ∧ w'.cell? ⟨CF, 2, none⟩ = some (.int .i64 c.C) ∧ w'.cell? ⟨CF, 3, none⟩ = some (.int .i64 c.H) ∧ w'.cell? ⟨CF, 4, none⟩ = some (.int .i64 c.G) ∧ w'.cell? ⟨CF, 5, none⟩ = some (.int .i64 c.K)) (assumption) (first | (go_at_call 48; refine hcon.out.mono ?_; rintro e v1 ⟨rfl, hAf⟩; obtain ⟨M', T', t', L', own', ht', hM', hf', hB', hI', hKp⟩ := hAf; replace hcf := Lib.hid (hKp.1 _ _ _ okCfg hcf.out); replace hT := Lib.hid (hT.out.trans hKp.2); have hY := cfgs hcf.out; replace hM := Lib.hid hM'; replace hf := Lib.hid hf'; replace hB := Lib.hid hB'; replace hI := Lib.hid hI'; clear hM' hf' hB' hI' hKp))
                  all_goals
                    go_wp2
                    go_roundw
                    case rel =>
                      have ht0 := hI.out.stk.t0
                      exact ⟨k + 1, t'.toNat, L', T', own', M', by omega, by omega, by omega, by go_num, hB.out, by rw [Int.toNat_of_nonneg ht0]; exact hI.out, hM.out, hf.out, hcf.out, hT.out⟩
                    case measure => simp [intOf]; omega
                · have hz1' : ¬ z < (i : Int) := hz1
                  go_upto_region 14 with (fail)
                  go_quiet (fail)
                  go_wp2
                  go_roundw
                  case rel => exact ⟨k + 1, t, L, T, own, M, by omega, by omega, by omega, by go_num, hB.out.below (below_drewN0 wr _) (Nat.le_refl _), hI.out, hM.out.drewN _, hf.out.mono (by omega), Blk.drewN hcf.out _, hT.out.trans ((below_drewN0 wr _).mono (by have := hT.out.size; omega))⟩
                  case measure => simp [intOf]; omega
              · have hz0' : ¬ 0 ≤ z := hz0
                go_upto_region 14 with (fail)
                go_quiet (fail)
                go_wp2
                go_roundw
                case rel => exact ⟨k + 1, t, L, T, own, M, by omega, by omega, by omega, by go_num, hB.out.below (below_drewN0 wr _) (Nat.le_refl _), hI.out, hM.out.drewN _, hf.out.mono (by omega), Blk.drewN hcf.out _, hT.out.trans ((below_drewN0 wr _).mono (by have := hT.out.size; omega))⟩
                case measure => simp [intOf]; omega
            · have hlt2 : (k : Int) < (n2 : Int) := by omega
              have h4' : ¬ (k : Int) < 400 := by omega
              go_upto_region 16 with (fail)
              replace hM := Lib.hid hM.out.drew
              replace hB := Lib.hid (hB.out.below (below_drew0 wr) (Nat.le_refl _))
              replace hcf := Lib.hid (Blk.drew hcf.out)
              replace hT := Lib.hid hT.out.drew
              have hX : wr.drew.cell? ⟨CF, 0, none⟩ = some (.int .i64 c.S) ∧ wr.drew.cell? ⟨CF, 1, none⟩ = some (.int .i64 c.A) ∧ wr.drew.cell? ⟨CF, 2, none⟩ = some (.int .i64 c.C) ∧ wr.drew.cell? ⟨CF, 3, none⟩ = some (.int .i64 c.H) ∧ wr.drew.cell? ⟨CF, 4, none⟩ = some (.int .i64 c.G) ∧ wr.drew.cell? ⟨CF, 5, none⟩ = some (.int .i64 c.K) := cfgs hcf.out
              have hnn := Lib.hid hf.out.n
              have hU := Lib.hid hf.out.u
              have hL64 := hI.out.stk.len hr.out
              clear q0 q1 q2 q3 q4 q5
              go_region_held3 (fun w' => w'.cell? ⟨CF, 0, none⟩ = some (.int .i64 c.S) ∧ w'.cell? ⟨CF, 1, none⟩ = some (.int .i64 c.A) ∧ w'.cell? ⟨CF, 2, none⟩ = some (.int .i64 c.C) ∧ w'.cell? ⟨CF, 3, none⟩ = some (.int .i64 c.H) ∧ w'.cell? ⟨CF, 4, none⟩ = some (.int .i64 c.G) ∧ w'.cell? ⟨CF, 5, none⟩ = some (.int .i64 c.K)) (assumption) (first
                | (go_at_call 24; refine (words_n _ m b n _ hM.out hnn.out (by omega)).mono ?_; rintro e u1 ⟨A1, cc1, b1, rfl, _, hR1, hb'⟩; replace hB := Lib.hid (hB.out.below hb' (Nat.le_refl _)); replace hM := Lib.hid (hM.out.next hb'); replace hcf := Lib.hid (Blk.below hcf.out hb' (Blk.lt hcf.out)); replace hT := Lib.hid (hT.out.trans (hb'.mono (by have := hT.out.size; omega))); have hY1 : u1.cell? ⟨CF, 0, none⟩ = some (.int .i64 c.S) ∧ u1.cell? ⟨CF, 1, none⟩ = some (.int .i64 c.A) ∧ u1.cell? ⟨CF, 2, none⟩ = some (.int .i64 c.C) ∧ u1.cell? ⟨CF, 3, none⟩ = some (.int .i64 c.H) ∧ u1.cell? ⟨CF, 4, none⟩ = some (.int .i64 c.G) ∧ u1.cell? ⟨CF, 5, none⟩ = some (.int .i64 c.K) := cfgs hcf.out; replace hR1 := Lib.hid hR1; clear hb')
                | (go_at_call 30; refine (refListQ c _ A1 cc1 b1 n _ hU.out hr.out hn.out hR1.out).mono ?_; rintro e wq ⟨v, rfl, hLu, hb'⟩; rw [hI.out.stk.list hr.out] at hLu; replace hB := Lib.hid (hB.out.below hb' (Nat.le_refl _)); replace hM := Lib.hid (hM.out.next hb'); replace hcf := Lib.hid (Blk.below hcf.out hb' (Blk.lt hcf.out)); replace hT := Lib.hid (hT.out.trans (hb'.mono (by have := hT.out.size; omega))); have hY2 : wq.cell? ⟨CF, 0, none⟩ = some (.int .i64 c.S) ∧ wq.cell? ⟨CF, 1, none⟩ = some (.int .i64 c.A) ∧ wq.cell? ⟨CF, 2, none⟩ = some (.int .i64 c.C) ∧ wq.cell? ⟨CF, 3, none⟩ = some (.int .i64 c.H) ∧ wq.cell? ⟨CF, 4, none⟩ = some (.int .i64 c.G) ∧ wq.cell? ⟨CF, 5, none⟩ = some (.int .i64 c.K) := cfgs hcf.out; have hu := Lib.hid hLu; clear hb' hLu))
              all_goals
                obtain ⟨q0, q1, q2, q3, q4, q5⟩ := cfgs hcf.out
                have hli := Lib.hid (hu.out.li (by have := hL64; have := S_bd hr.out; omega))
                clear hX hY1 hY2 hR1 hu
                go_wp2
                go_loopw [13] (fun vs wz => ∃ s : Nat, (s : Int) ≤ c.S ∧ vs = .int .i64 (s : Int) ∧ wz = wq) (fun vs _ => c.S.toNat - (intOf vs).toNat)
                case atStart => exact ⟨0, by have := S_bd hr.out; omega, rfl, rfl⟩
                case round =>
                  obtain ⟨s, hs0, rfl, rfl⟩ := hrel
                  by_cases hsS : (s : Int) < c.S
                  · have hsr : 0 ≤ (s : Int) ∧ (s : Int) < c.S := ⟨by omega, hsS⟩
                    have hle := hI.out.le (s : Int) hsr
                    have hmem := Lib.hid (hI.out.lst (s : Int))
                    have hhas : Calls Try.prog 49 #[v, .int .i64 (s : Int)] wr fun e w' => e = .returned (.bool (decide (own (s : Int) = 0))) ∧ wr = w' := by
                      have := hasC _ _ _ L (s : Int) hli.out
                      rwa [show decide ((s : Int) ∈ L) = decide (own (s : Int) = 0) by rw [Bool.eq_iff_iff, decide_eq_true_iff, decide_eq_true_iff, hmem.out]; exact ⟨fun h => h.2, fun h => ⟨hsr, h⟩⟩] at this
                    replace hhas := Lib.hid hhas
                    go_upto_region 21 with (fail)
                    go_cut [97] (fun v wx => v = .bool (decide (own (s : Int) = 0)) ∧ wx = wr)
                    case first =>
                      go_wp2_with (go_at_call 49; refine hhas.out.mono ?_; rintro e w' ⟨rfl, rfl⟩)
                      go_meet
                      case rel => exact ⟨rfl, rfl⟩
                    case rest =>
                      obtain ⟨rfl, hwc'⟩ := hcut
                      obtain rfl : wr = wc := hwc'.symm
                      go_upto_if 97 with (fail)
                      go_cut [14] (fun v wx => v = .int .i64 (cnt own s 0) ∧ wx = wr)
                      case first =>
                        by_cases h00 : own (s : Int) = 0
                        · have e0 : cnt own s 0 = 1 := by rw [cnt0, if_pos h00]
                          rw [decide_eq_true h00]
                          replace h00 := Lib.hid h00
                          replace e0 := Lib.hid e0
                          go_wp2
                          go_meet
                          case rel => exact ⟨by rw [e0.out], rfl⟩
                        · have e0 : cnt own s 0 = 0 := by rw [cnt0, if_neg h00]
                          rw [decide_eq_false h00]
                          replace h00 := Lib.hid h00
                          replace e0 := Lib.hid e0
                          go_wp2
                          go_meet
                          case rel => exact ⟨by rw [e0.out], rfl⟩
                      case rest =>
                        obtain ⟨rfl, hwc'⟩ := hcut
                        obtain rfl : wr = wc := hwc'.symm
                        go_wp2
                        go_loopw [14, 15] (fun vn vj wy => ∃ j : Nat, j ≤ i ∧ vn = .int .i64 (cnt own s j) ∧ vj = .int .i64 (j : Int) ∧ wy = wr) (fun _ vj _ => i - (intOf vj).toNat)
                        case atStart => exact ⟨0, by omega, rfl, rfl, rfl⟩
                        case round =>
                          obtain ⟨j, hj0, rfl, rfl, hwy⟩ := hrel
                          subst hwy
                          by_cases hji : j < i
                          · have hji' : (j : Int) < (i : Int) := by omega
                            have hj00 : (0 : Int) ≤ (j : Int) := by omega
                            have y0 := hB.out.blk.cell (tarr_get (k := 0) hji (by decide))
                            have y3 := hB.out.blk.cell (tarr_get (k := 3) hji (by decide))
                            have y4 := hB.out.blk.cell (tarr_get (k := 4) hji (by decide))
                            rw [Nat.mul_comm] at y0 y3 y4
                            have hhs := Lib.hid (hI.out.has hji hsr)
                            have hq := hB.out.has j hji
                            have hbnd : ((T j).h).length ≤ 100000 := by
                              have h1 := hI.out.nd j hji
                              have h3 : ((T j).h).Nodup := by
                                unfold Tk.mine at h1
                                split at h1
                                · exact (List.nodup_cons.1 h1).2
                                · exact h1
                              have := nodup_len c.S.toNat _ h3 (fun y hy => by
                                have hm : y ∈ (T j).mine := by
                                  unfold Tk.mine
                                  split
                                  · exact List.mem_cons_of_mem _ hy
                                  · exact hy
                                have := (hI.out.mine j hji y).1 hm; omega)
                              omega
                            have hhj := Lib.hid (hasC _ _ _ _ (s : Int) (hq.li hbnd))
                            have hcs := Lib.hid (cnt_succ own (s : Int) j)
                            have hcb : 0 ≤ cnt own s j ∧ cnt own s j ≤ 1 := by unfold cnt; split <;> decide
                            clear hq hbnd
                            generalize T j = τ at *
                            obtain ⟨hv, h, wv, po, pu, la⟩ := τ
                            replace y0 : wr.cell? ⟨B, j * 5, none⟩ = some hv := y0
                            replace y3 : wr.cell? ⟨B, j * 5 + 3, none⟩ = some (.pointer (pu.map fun x => ⟨x.1, 0, none⟩)) := y3
                            replace y4 : wr.cell? ⟨B, j * 5 + 4, none⟩ = some (.int .i64 la) := y4
                            go_upto_region 26 with (fail)
                            go_cut [129] (fun v wx => v = .bool (decide (own (s : Int) = j + 1)) ∧ wx = wr)
                            case first =>
                              have hd := hhs.out
                              simp only at hd
                              by_cases hm : (s : Int) ∈ h
                              · rw [decide_eq_true hm] at hd
                                have hhj2 := hhj.out
                                rw [decide_eq_true hm] at hhj2
                                replace hhj2 := Lib.hid hhj2
                                replace hm := Lib.hid hm
                                replace hd := Lib.hid hd
                                go_wp2_with (go_at_call 49; refine hhj2.out.mono ?_; rintro e w' ⟨rfl, rfl⟩)
                                go_meet
                                case rel => exact ⟨by rw [← hd.out]; rfl, rfl⟩
                              · rw [decide_eq_false hm] at hd
                                have hhj2 := hhj.out
                                rw [decide_eq_false hm] at hhj2
                                replace hhj2 := Lib.hid hhj2
                                replace hm := Lib.hid hm
                                cases pu with
                                | none =>
                                  replace y3 : wr.cell? ⟨B, j * 5 + 3, none⟩ = some (.pointer none) := y3
                                  replace hd := Lib.hid hd
                                  go_wp2_with (go_at_call 49; refine hhj2.out.mono ?_; rintro e w' ⟨rfl, rfl⟩)
                                  go_meet
                                  case rel => exact ⟨by rw [← hd.out]; rfl, rfl⟩
                                | some pq =>
                                  obtain ⟨p, pq⟩ := pq
                                  replace y3 : wr.cell? ⟨B, j * 5 + 3, none⟩ = some (.pointer (some ⟨p, 0, none⟩)) := y3
                                  by_cases hl : la = (s : Int)
                                  · have hl2 : (la == (s : Int)) = true := by simp [hl]
                                    rw [decide_eq_true hl] at hd
                                    replace hl := Lib.hid hl
                                    replace hd := Lib.hid hd
                                    go_wp2_with (go_at_call 49; refine hhj2.out.mono ?_; rintro e w' ⟨rfl, rfl⟩)
                                    go_meet
                                    case rel => exact ⟨by rw [← hd.out]; rfl, rfl⟩
                                  · have hl2 : (la == (s : Int)) = false := by simp [hl]
                                    rw [decide_eq_false hl] at hd
                                    replace hl := Lib.hid hl
                                    replace hd := Lib.hid hd
                                    go_wp2_with (go_at_call 49; refine hhj2.out.mono ?_; rintro e w' ⟨rfl, rfl⟩)
                                    go_meet
                                    case rel => exact ⟨by rw [← hd.out]; rfl, rfl⟩
                            case rest =>
                              obtain ⟨rfl, hwc'⟩ := hcut
                              obtain rfl : wr = wc := hwc'.symm
                              by_cases hoj : own (s : Int) = j + 1
                              · rw [decide_eq_true hoj]
                                have hcs2 := hcs.out
                                rw [if_pos hoj] at hcs2
                                replace hcs2 := Lib.hid hcs2
                                replace hoj := Lib.hid hoj
                                go_wp2
                                go_roundw
                                case rel => exact ⟨j + 1, by omega, by rw [hcs2.out], by go_num, (by first | rfl | trivial)⟩
                                case measure => simp [intOf]; omega
                              · rw [decide_eq_false hoj]
                                have hcs2 := hcs.out
                                rw [if_neg hoj] at hcs2
                                replace hcs2 := Lib.hid hcs2
                                replace hoj := Lib.hid hoj
                                go_wp2
                                go_roundw
                                case rel => exact ⟨j + 1, by omega, by rw [hcs2.out]; simp, by go_num, (by first | rfl | trivial)⟩
                                case measure => simp [intOf]; omega
                          · obtain rfl : j = i := by omega
                            have hc1 : cnt own s j = 1 := by unfold cnt; rw [if_pos hle]
                            rw [hc1]
                            replace hc1 := Lib.hid hc1
                            go_wp2
                            go_roundw
                            case rel => exact ⟨s + 1, by omega, by go_num, (by first | rfl | trivial)⟩
                            case measure => simp [intOf]; omega
                  · go_wp2_with (go_at_call 27; refine (awake7C _).mono ?_; rintro e w4 ⟨rfl, hb'⟩; replace hT := Lib.hid (hT.out.trans (hb'.mono (by have := hT.out.size; omega))); clear hb')
                    go_ret
                    exact ⟨rfl, hCFe ▸ hT.out⟩
          · have hlt2 : ¬ (k : Int) < (n2 : Int) := by omega
            go_upto_region 16 with (fail)
            replace hM := Lib.hid hM.out.drew
            replace hB := Lib.hid (hB.out.below (below_drew0 wr) (Nat.le_refl _))
            replace hcf := Lib.hid (Blk.drew hcf.out)
            replace hT := Lib.hid hT.out.drew
            have hX : wr.drew.cell? ⟨CF, 0, none⟩ = some (.int .i64 c.S) ∧ wr.drew.cell? ⟨CF, 1, none⟩ = some (.int .i64 c.A) ∧ wr.drew.cell? ⟨CF, 2, none⟩ = some (.int .i64 c.C) ∧ wr.drew.cell? ⟨CF, 3, none⟩ = some (.int .i64 c.H) ∧ wr.drew.cell? ⟨CF, 4, none⟩ = some (.int .i64 c.G) ∧ wr.drew.cell? ⟨CF, 5, none⟩ = some (.int .i64 c.K) := cfgs hcf.out
            have hnn := Lib.hid hf.out.n
            have hU := Lib.hid hf.out.u
            have hL64 := hI.out.stk.len hr.out
            clear q0 q1 q2 q3 q4 q5
            go_region_held3 (fun w' => w'.cell? ⟨CF, 0, none⟩ = some (.int .i64 c.S) ∧ w'.cell? ⟨CF, 1, none⟩ = some (.int .i64 c.A) ∧ w'.cell? ⟨CF, 2, none⟩ = some (.int .i64 c.C) ∧ w'.cell? ⟨CF, 3, none⟩ = some (.int .i64 c.H) ∧ w'.cell? ⟨CF, 4, none⟩ = some (.int .i64 c.G) ∧ w'.cell? ⟨CF, 5, none⟩ = some (.int .i64 c.K)) (assumption) (first
              | (go_at_call 24; refine (words_n _ m b n _ hM.out hnn.out (by omega)).mono ?_; rintro e u1 ⟨A1, cc1, b1, rfl, _, hR1, hb'⟩; replace hB := Lib.hid (hB.out.below hb' (Nat.le_refl _)); replace hM := Lib.hid (hM.out.next hb'); replace hcf := Lib.hid (Blk.below hcf.out hb' (Blk.lt hcf.out)); replace hT := Lib.hid (hT.out.trans (hb'.mono (by have := hT.out.size; omega))); have hY1 : u1.cell? ⟨CF, 0, none⟩ = some (.int .i64 c.S) ∧ u1.cell? ⟨CF, 1, none⟩ = some (.int .i64 c.A) ∧ u1.cell? ⟨CF, 2, none⟩ = some (.int .i64 c.C) ∧ u1.cell? ⟨CF, 3, none⟩ = some (.int .i64 c.H) ∧ u1.cell? ⟨CF, 4, none⟩ = some (.int .i64 c.G) ∧ u1.cell? ⟨CF, 5, none⟩ = some (.int .i64 c.K) := cfgs hcf.out; replace hR1 := Lib.hid hR1; clear hb')
              | (go_at_call 30; refine (refListQ c _ A1 cc1 b1 n _ hU.out hr.out hn.out hR1.out).mono ?_; rintro e wq ⟨v, rfl, hLu, hb'⟩; rw [hI.out.stk.list hr.out] at hLu; replace hB := Lib.hid (hB.out.below hb' (Nat.le_refl _)); replace hM := Lib.hid (hM.out.next hb'); replace hcf := Lib.hid (Blk.below hcf.out hb' (Blk.lt hcf.out)); replace hT := Lib.hid (hT.out.trans (hb'.mono (by have := hT.out.size; omega))); have hY2 : wq.cell? ⟨CF, 0, none⟩ = some (.int .i64 c.S) ∧ wq.cell? ⟨CF, 1, none⟩ = some (.int .i64 c.A) ∧ wq.cell? ⟨CF, 2, none⟩ = some (.int .i64 c.C) ∧ wq.cell? ⟨CF, 3, none⟩ = some (.int .i64 c.H) ∧ wq.cell? ⟨CF, 4, none⟩ = some (.int .i64 c.G) ∧ wq.cell? ⟨CF, 5, none⟩ = some (.int .i64 c.K) := cfgs hcf.out; have hu := Lib.hid hLu; clear hb' hLu))
            all_goals
              obtain ⟨q0, q1, q2, q3, q4, q5⟩ := cfgs hcf.out
              have hli := Lib.hid (hu.out.li (by have := hL64; have := S_bd hr.out; omega))
              clear hX hY1 hY2 hR1 hu
              go_wp2
              go_loopw [13] (fun vs wz => ∃ s : Nat, (s : Int) ≤ c.S ∧ vs = .int .i64 (s : Int) ∧ wz = wq) (fun vs _ => c.S.toNat - (intOf vs).toNat)
              case atStart => exact ⟨0, by have := S_bd hr.out; omega, rfl, rfl⟩
              case round =>
                obtain ⟨s, hs0, rfl, rfl⟩ := hrel
                by_cases hsS : (s : Int) < c.S
                · have hsr : 0 ≤ (s : Int) ∧ (s : Int) < c.S := ⟨by omega, hsS⟩
                  have hle := hI.out.le (s : Int) hsr
                  have hmem := Lib.hid (hI.out.lst (s : Int))
                  have hhas : Calls Try.prog 49 #[v, .int .i64 (s : Int)] wr fun e w' => e = .returned (.bool (decide (own (s : Int) = 0))) ∧ wr = w' := by
                    have := hasC _ _ _ L (s : Int) hli.out
                    rwa [show decide ((s : Int) ∈ L) = decide (own (s : Int) = 0) by rw [Bool.eq_iff_iff, decide_eq_true_iff, decide_eq_true_iff, hmem.out]; exact ⟨fun h => h.2, fun h => ⟨hsr, h⟩⟩] at this
                  replace hhas := Lib.hid hhas
                  go_upto_region 21 with (fail)
                  go_cut [97] (fun v wx => v = .bool (decide (own (s : Int) = 0)) ∧ wx = wr)
                  case first =>
                    go_wp2_with (go_at_call 49; refine hhas.out.mono ?_; rintro e w' ⟨rfl, rfl⟩)
                    go_meet
                    case rel => exact ⟨rfl, rfl⟩
                  case rest =>
                    obtain ⟨rfl, hwc'⟩ := hcut
                    obtain rfl : wr = wc := hwc'.symm
                    go_upto_if 97 with (fail)
                    go_cut [14] (fun v wx => v = .int .i64 (cnt own s 0) ∧ wx = wr)
                    case first =>
                      by_cases h00 : own (s : Int) = 0
                      · have e0 : cnt own s 0 = 1 := by rw [cnt0, if_pos h00]
                        rw [decide_eq_true h00]
                        replace h00 := Lib.hid h00
                        replace e0 := Lib.hid e0
                        go_wp2
                        go_meet
                        case rel => exact ⟨by rw [e0.out], rfl⟩
                      · have e0 : cnt own s 0 = 0 := by rw [cnt0, if_neg h00]
                        rw [decide_eq_false h00]
                        replace h00 := Lib.hid h00
                        replace e0 := Lib.hid e0
                        go_wp2
                        go_meet
                        case rel => exact ⟨by rw [e0.out], rfl⟩
                    case rest =>
                      obtain ⟨rfl, hwc'⟩ := hcut
                      obtain rfl : wr = wc := hwc'.symm
                      go_wp2
                      go_loopw [14, 15] (fun vn vj wy => ∃ j : Nat, j ≤ i ∧ vn = .int .i64 (cnt own s j) ∧ vj = .int .i64 (j : Int) ∧ wy = wr) (fun _ vj _ => i - (intOf vj).toNat)
                      case atStart => exact ⟨0, by omega, rfl, rfl, rfl⟩
                      case round =>
                        obtain ⟨j, hj0, rfl, rfl, hwy⟩ := hrel
                        subst hwy
                        by_cases hji : j < i
                        · have hji' : (j : Int) < (i : Int) := by omega
                          have hj00 : (0 : Int) ≤ (j : Int) := by omega
                          have y0 := hB.out.blk.cell (tarr_get (k := 0) hji (by decide))
                          have y3 := hB.out.blk.cell (tarr_get (k := 3) hji (by decide))
                          have y4 := hB.out.blk.cell (tarr_get (k := 4) hji (by decide))
                          rw [Nat.mul_comm] at y0 y3 y4
                          have hhs := Lib.hid (hI.out.has hji hsr)
                          have hq := hB.out.has j hji
                          have hbnd : ((T j).h).length ≤ 100000 := by
                            have h1 := hI.out.nd j hji
                            have h3 : ((T j).h).Nodup := by
                              unfold Tk.mine at h1
                              split at h1
                              · exact (List.nodup_cons.1 h1).2
                              · exact h1
                            have := nodup_len c.S.toNat _ h3 (fun y hy => by
                              have hm : y ∈ (T j).mine := by
                                unfold Tk.mine
                                split
                                · exact List.mem_cons_of_mem _ hy
                                · exact hy
                              have := (hI.out.mine j hji y).1 hm; omega)
                            omega
                          have hhj := Lib.hid (hasC _ _ _ _ (s : Int) (hq.li hbnd))
                          have hcs := Lib.hid (cnt_succ own (s : Int) j)
                          have hcb : 0 ≤ cnt own s j ∧ cnt own s j ≤ 1 := by unfold cnt; split <;> decide
                          clear hq hbnd
                          generalize T j = τ at *
                          obtain ⟨hv, h, wv, po, pu, la⟩ := τ
                          replace y0 : wr.cell? ⟨B, j * 5, none⟩ = some hv := y0
                          replace y3 : wr.cell? ⟨B, j * 5 + 3, none⟩ = some (.pointer (pu.map fun x => ⟨x.1, 0, none⟩)) := y3
                          replace y4 : wr.cell? ⟨B, j * 5 + 4, none⟩ = some (.int .i64 la) := y4
                          go_upto_region 26 with (fail)
                          go_cut [129] (fun v wx => v = .bool (decide (own (s : Int) = j + 1)) ∧ wx = wr)
                          case first =>
                            have hd := hhs.out
                            simp only at hd
                            by_cases hm : (s : Int) ∈ h
                            · rw [decide_eq_true hm] at hd
                              have hhj2 := hhj.out
                              rw [decide_eq_true hm] at hhj2
                              replace hhj2 := Lib.hid hhj2
                              replace hm := Lib.hid hm
                              replace hd := Lib.hid hd
                              go_wp2_with (go_at_call 49; refine hhj2.out.mono ?_; rintro e w' ⟨rfl, rfl⟩)
                              go_meet
                              case rel => exact ⟨by rw [← hd.out]; rfl, rfl⟩
                            · rw [decide_eq_false hm] at hd
                              have hhj2 := hhj.out
                              rw [decide_eq_false hm] at hhj2
                              replace hhj2 := Lib.hid hhj2
                              replace hm := Lib.hid hm
                              cases pu with
                              | none =>
                                replace y3 : wr.cell? ⟨B, j * 5 + 3, none⟩ = some (.pointer none) := y3
                                replace hd := Lib.hid hd
                                go_wp2_with (go_at_call 49; refine hhj2.out.mono ?_; rintro e w' ⟨rfl, rfl⟩)
                                go_meet
                                case rel => exact ⟨by rw [← hd.out]; rfl, rfl⟩
                              | some pq =>
                                obtain ⟨p, pq⟩ := pq
                                replace y3 : wr.cell? ⟨B, j * 5 + 3, none⟩ = some (.pointer (some ⟨p, 0, none⟩)) := y3
                                by_cases hl : la = (s : Int)
                                · have hl2 : (la == (s : Int)) = true := by simp [hl]
                                  rw [decide_eq_true hl] at hd
                                  replace hl := Lib.hid hl
                                  replace hd := Lib.hid hd
                                  go_wp2_with (go_at_call 49; refine hhj2.out.mono ?_; rintro e w' ⟨rfl, rfl⟩)
                                  go_meet
                                  case rel => exact ⟨by rw [← hd.out]; rfl, rfl⟩
                                · have hl2 : (la == (s : Int)) = false := by simp [hl]
                                  rw [decide_eq_false hl] at hd
                                  replace hl := Lib.hid hl
                                  replace hd := Lib.hid hd
                                  go_wp2_with (go_at_call 49; refine hhj2.out.mono ?_; rintro e w' ⟨rfl, rfl⟩)
                                  go_meet
                                  case rel => exact ⟨by rw [← hd.out]; rfl, rfl⟩
                          case rest =>
                            obtain ⟨rfl, hwc'⟩ := hcut
                            obtain rfl : wr = wc := hwc'.symm
                            by_cases hoj : own (s : Int) = j + 1
                            · rw [decide_eq_true hoj]
                              have hcs2 := hcs.out
                              rw [if_pos hoj] at hcs2
                              replace hcs2 := Lib.hid hcs2
                              replace hoj := Lib.hid hoj
                              go_wp2
                              go_roundw
                              case rel => exact ⟨j + 1, by omega, by rw [hcs2.out], by go_num, (by first | rfl | trivial)⟩
                              case measure => simp [intOf]; omega
                            · rw [decide_eq_false hoj]
                              have hcs2 := hcs.out
                              rw [if_neg hoj] at hcs2
                              replace hcs2 := Lib.hid hcs2
                              replace hoj := Lib.hid hoj
                              go_wp2
                              go_roundw
                              case rel => exact ⟨j + 1, by omega, by rw [hcs2.out]; simp, by go_num, (by first | rfl | trivial)⟩
                              case measure => simp [intOf]; omega
                        · obtain rfl : j = i := by omega
                          have hc1 : cnt own s j = 1 := by unfold cnt; rw [if_pos hle]
                          rw [hc1]
                          replace hc1 := Lib.hid hc1
                          go_wp2
                          go_roundw
                          case rel => exact ⟨s + 1, by omega, by go_num, (by first | rfl | trivial)⟩
                          case measure => simp [intOf]; omega
                · go_wp2_with (go_at_call 27; refine (awake7C _).mono ?_; rintro e w4 ⟨rfl, hb'⟩; replace hT := Lib.hid (hT.out.trans (hb'.mono (by have := hT.out.size; omega))); clear hb')
                  go_ret
                  exact ⟨rfl, hCFe ▸ hT.out⟩
end Go.Proofs.Ytijfkpoofpcacaa.TakerW
