/-
  Layer 7 (stack): a machine alone behind k steps, as one fact that a loop can keep; condition: as in StackQ.
-/
import Derived.Test.YtijfkpoofpcacaaStackG
set_option linter.unusedVariables false
set_option linter.unusedSectionVars false
namespace Go.Proofs.Ytijfkpoofpcacaa.StackI
open Go.RowKit Go.Proofs.Ytijfkpoofpcacaa.Blk Go.Proofs.Ytijfkpoofpcacaa.Core Go.Proofs.Ytijfkpoofpcacaa.MemC Go.Proofs.Ytijfkpoofpcacaa.MemT Go.Proofs.Ytijfkpoofpcacaa.Memory Go.Proofs.Ytijfkpoofpcacaa.PlanC Go.Proofs.Ytijfkpoofpcacaa.PlanD Go.Proofs.Ytijfkpoofpcacaa.StackC Go.Proofs.Ytijfkpoofpcacaa.StackL Go.Proofs.Ytijfkpoofpcacaa.StackS Go.Proofs.Ytijfkpoofpcacaa.StackF Go.Proofs.Ytijfkpoofpcacaa.StackP Go.Proofs.Ytijfkpoofpcacaa.StackQ Go.Proofs.Ytijfkpoofpcacaa.StackG
theorem fineU {M : Ms} {n T : Nat} (h : Fine M n T) : 0 ≤ M.f 3 ∧ M.f 3 < 18446744073709551616 := h.u 3
/-- A popping machine behind k steps over the list L. -/
def TakeI (w : World) (p : Nat) (c : Cf) (f : Nat → Int) (t : Int) (L : List Int) (k : Nat) : Prop :=
  (L = [] ∧ Stk c f t [] ∧ ((k = 0 ∧ PopB w p c ⟨-1, false, 0, 0, 0⟩) ∨ (1 ≤ k ∧ ∃ tp nx, (0 ≤ tp ∧ tp < 18446744073709551616) ∧ PopB w p c ⟨-1, true, 3, tp, nx⟩)))
  ∨ ∃ x r, L = x :: r ∧ ((k = 0 ∧ Stk c f t (x :: r) ∧ PopB w p c ⟨-1, false, 0, 0, 0⟩) ∨ (k = 1 ∧ Stk c f t (x :: r) ∧ PopB w p c ⟨-1, false, 1, f 3, 0⟩) ∨ (k = 2 ∧ Stk c f t (x :: r) ∧ PopB w p c ⟨-1, false, 2, f 3, hd r - 1⟩) ∨ (k = 3 ∧ Stk c f (t + 1) r ∧ ∃ tp nx, PopB w p c ⟨x, false, 3, tp, nx⟩))
/-- A pushing machine behind k steps over the list L. -/
def LayI (w : World) (p : Nat) (c : Cf) (f : Nat → Int) (t : Int) (L : List Int) (x : Int) (k : Nat) : Prop :=
  (k = 0 ∧ Stk c f t L ∧ PushB w p c ⟨x, 0, 0⟩) ∨ (k = 1 ∧ Stk c f t L ∧ PushB w p c ⟨x, 1, f 3⟩) ∨ (k = 2 ∧ Stk c f t L ∧ f (c.link x).toNat = hd L ∧ PushB w p c ⟨x, 2, f 3⟩) ∨ (k = 3 ∧ Stk c f (t + 1) (x :: L) ∧ ∃ tp, PushB w p c ⟨x, 3, tp⟩)
theorem take_new {w : World} {p : Nat} {c : Cf} {f : Nat → Int} {t : Int} {L : List Int} (h : Stk c f t L) (hp : PopB w p c ⟨-1, false, 0, 0, 0⟩) : TakeI w p c f t L 0 := by
  cases L with
  | nil => exact .inl ⟨rfl, h, .inl ⟨rfl, hp⟩⟩
  | cons x r => exact .inr ⟨x, r, rfl, .inl ⟨rfl, h, hp⟩⟩
theorem lay_new {w : World} {p : Nat} {c : Cf} {f : Nat → Int} {t x : Int} {L : List Int} (h : Stk c f t L) (hp : PushB w p c ⟨x, 0, 0⟩) : LayI w p c f t L x 0 := .inl ⟨rfl, h, hp⟩
/-- What a popping machine has come to. -/
def Took (w : World) (p : Nat) (c : Cf) (f : Nat → Int) (t : Int) (L : List Int) (sl : Int) : Prop :=
  (∃ em tp nx, PopB w p c ⟨sl, em, 3, tp, nx⟩) ∧ ((L = [] ∧ sl = -1 ∧ Stk c f t []) ∨ ∃ r, L = sl :: r ∧ (0 ≤ sl ∧ sl < c.S) ∧ Stk c f (t + 1) r)
theorem take_end {w : World} {p : Nat} {c : Cf} {f : Nat → Int} {t : Int} {L : List Int} (h : TakeI w p c f t L 3) (hL : ∀ x ∈ L, 0 ≤ x ∧ x < c.S) : ∃ sl, Took w p c f t L sl := by
  rcases h with ⟨rfl, h1, ⟨h, _⟩ | ⟨_, tp, nx, _, h2⟩⟩ | ⟨x, r, rfl, ⟨h, _⟩ | ⟨h, _⟩ | ⟨h, _⟩ | ⟨_, h1, tp, nx, h2⟩⟩
  · omega
  · exact ⟨-1, ⟨_, _, _, h2⟩, .inl ⟨rfl, rfl, h1⟩⟩
  · omega
  · omega
  · omega
  · exact ⟨x, ⟨_, _, _, h2⟩, .inr ⟨r, rfl, hL x (List.mem_cons_self ..), h1⟩⟩
theorem lay_end {w : World} {p : Nat} {c : Cf} {f : Nat → Int} {t x : Int} {L : List Int} (h : LayI w p c f t L x 3) : Stk c f (t + 1) (x :: L) := by
  rcases h with ⟨h, _⟩ | ⟨h, _⟩ | ⟨h, _⟩ | ⟨_, h1, _⟩
  · omega
  · omega
  · omega
  · exact h1
section
variable {c : Cf} {w w' : World} {p : Nat} {f : Nat → Int} {t x : Int} {L : List Int} {k : Nat}
theorem TakeI.lt (h : TakeI w p c f t L k) : p < w.heap.size := by
  rcases h with ⟨rfl, h1, ⟨h, a⟩ | ⟨_, tp, nx, _, a⟩⟩ | ⟨x, r, rfl, ⟨h, _, a⟩ | ⟨h, _, a⟩ | ⟨h, _, a⟩ | ⟨_, h1, tp, nx, a⟩⟩ <;> exact Blk.lt a
theorem TakeI.drew (h : TakeI w p c f t L k) : TakeI w.drew p c f t L k := h
theorem LayI.drew (h : LayI w p c f t L x k) : LayI w.drew p c f t L x k := h
end
section
variable {c : Cf} (hr : c.right = true) {w : World} {p m b n T : Nat} {M : Ms} {t : Int} {L : List Int} {x : Int} (hM : MemB w m b M) (hf : Fine M n T) (hn : (n : Int) = c.size) (hT : T ≤ 1000000) (np : ¬ two m b p) {k : Nat}
include hr hM hf hn hT np
theorem tkC (ht : t + 1 < 281474976710656) (hk : k < 3) (h : TakeI w p c M.f t L k) : Calls Try.prog 45 #[.pointer (some ⟨p, 0, none⟩), .pointer (some ⟨m, 0, none⟩)] w fun e w' =>
    ∃ d, e = .returned (.bool d) ∧ ∃ M', TakeI w' p c M'.f t L (k + 1) ∧ MemB w' m b M' ∧ Fine M' n (T + 1) ∧ Fr (three p m b) w w' := by
  have hu := fineU hf
  rcases h with ⟨rfl, h1, ⟨h, a⟩ | ⟨_, tp, nx, hb, a⟩⟩ | ⟨x, r, rfl, ⟨rfl, h1, a⟩ | ⟨rfl, h1, a⟩ | ⟨rfl, h1, a⟩ | ⟨rfl, h1, tp, nx, a⟩⟩
  · refine (alE hr hM hf hn hT np h1 a (by decide) (by decide)).mono ?_
    rintro e w' ⟨rfl, M', a1, a2, a3, a4, a5⟩
    have hu' := fineU a4
    exact ⟨_, rfl, M', .inl ⟨rfl, a3 ▸ h1, .inr ⟨by omega, _, _, hu', a1⟩⟩, a2, a4, a5⟩
  · refine (al4 hr hM hf hn hT np a hb.1 hb.2).mono ?_
    rintro e w' ⟨rfl, a1, a2, a3⟩
    exact ⟨_, rfl, M, .inl ⟨rfl, h1, .inr ⟨by omega, _, _, hb, a1⟩⟩, a2, hf.mono (by omega), a3⟩
  · refine (al1 hr hM hf hn hT np h1 a (by decide) (by decide)).mono ?_
    rintro e w' ⟨rfl, M', a1, a2, a3, a4, a5⟩
    exact ⟨_, rfl, M', .inr ⟨x, r, rfl, .inr (.inl ⟨rfl, a3 ▸ h1, a1⟩)⟩, a2, a4, a5⟩
  · refine (al2 hr hM hf hn hT np h1 a).mono ?_
    rintro e w' ⟨rfl, M', a1, a2, a3, a4, a5⟩
    exact ⟨_, rfl, M', .inr ⟨x, r, rfl, .inr (.inr (.inl ⟨rfl, a3 ▸ h1, a1⟩))⟩, a2, a4, a5⟩
  · refine (al3 hr hM hf hn hT np h1 ht a).mono ?_
    rintro e w' ⟨rfl, M', a1, a2, a3, a4, a5⟩
    exact ⟨_, rfl, M', .inr ⟨x, r, rfl, .inr (.inr (.inr ⟨rfl, a3, _, _, a1⟩))⟩, a2, a4, a5⟩
  · omega
theorem lyC (ht : t + 1 < 281474976710656) (hk : k < 3) (hx : 0 ≤ x ∧ x < c.S) (hnm : x ∉ L) (h : LayI w p c M.f t L x k) : Calls Try.prog 47 #[.pointer (some ⟨p, 0, none⟩), .pointer (some ⟨m, 0, none⟩)] w fun e w' =>
    ∃ d, e = .returned (.bool d) ∧ ∃ M', LayI w' p c M'.f t L x (k + 1) ∧ MemB w' m b M' ∧ Fine M' n (T + 1) ∧ Fr (three p m b) w w' := by
  rcases h with ⟨rfl, h1, a⟩ | ⟨rfl, h1, a⟩ | ⟨rfl, h1, hl, a⟩ | ⟨rfl, h1, tp, a⟩
  · refine (pl1 hr hM hf hn hT np h1 a (by decide) (by decide)).mono ?_
    rintro e w' ⟨rfl, M', a1, a2, a3, a4, a5⟩
    exact ⟨_, rfl, M', .inr (.inl ⟨rfl, a3 ▸ h1, a1⟩), a2, a4, a5⟩
  · refine (pl2 hr hM hf hn hT np h1 hx hnm a).mono ?_
    rintro e w' ⟨rfl, M', a1, a2, a3, a4, a5, a6⟩
    exact ⟨_, rfl, M', .inr (.inr (.inl ⟨rfl, a3, a4, a1⟩)), a2, a5, a6⟩
  · refine (pl3 hr hM hf hn hT np h1 ht hx hnm hl a).mono ?_
    rintro e w' ⟨rfl, M', a1, a2, a3, a4, a5⟩
    exact ⟨_, rfl, M', .inr (.inr (.inr ⟨rfl, a3, _, a1⟩)), a2, a4, a5⟩
  · omega
/-- The swap of one that comes late: it begins anew. -/
theorem alB {sl tp nx : Int} {em : Bool} (t0 : 0 ≤ tp) (t1 : tp < 18446744073709551616) (hne : M.f 3 ≠ tp) (hp : PopB w p c ⟨sl, em, 2, tp, nx⟩) : Calls Try.prog 45 #[.pointer (some ⟨p, 0, none⟩), .pointer (some ⟨m, 0, none⟩)] w fun e w' =>
    e = .returned (.bool false) ∧ ∃ M', PopB w' p c ⟨sl, em, 0, tp, nx⟩ ∧ MemB w' m b M' ∧ M'.f = M.f ∧ Fine M' n (T + 1) ∧ Fr (three p m b) w w' := by
  have ok := ok_ hr hM hf hn hT np
  obtain ⟨s1, s2, s3⟩ := sw_no (M := M) (a := 3) (old := tp) (now := movedV tp nx) hne
  have hS : popS c ⟨sl, em, 2, tp, nx⟩ M = ⟨sl, em, 0, tp, nx⟩ := by simp [popS, s1]
  have hMM : popM c ⟨sl, em, 2, tp, nx⟩ M = M.swS 3 tp (movedV tp nx) := by simp [popM]
  have hD : popD c ⟨sl, em, 2, tp, nx⟩ M = false := by unfold popD; rw [hS]; rfl
  have hb := movedV_bd tp nx t0
  refine (popC c w p m b M hr hM ok np _ hp ⟨t0, t1, .inr (.inr (.inl rfl))⟩).mono ?_
  rintro e w' ⟨rfl, a1, a2, a3⟩
  rw [hS] at a1
  rw [hMM] at a2
  rw [hD]
  exact ⟨rfl, _, a1, a2, s2, hf.sw _ _ hb.1 hb.2, a3⟩
end
end Go.Proofs.Ytijfkpoofpcacaa.StackI
