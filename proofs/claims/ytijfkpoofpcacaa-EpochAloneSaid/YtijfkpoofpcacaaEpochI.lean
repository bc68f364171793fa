/-
  Layer 8 (epoch): an Advance's progress, by how many steps it took, with nobody in its way, or with one; condition: a right config, as many touches as fit a number.
-/
import Derived.Test.YtijfkpoofpcacaaEpochD
set_option linter.unusedVariables false
set_option linter.unusedSectionVars false
namespace Go.Proofs.Ytijfkpoofpcacaa.EpochI
open Go.RowKit Go.Proofs.Ytijfkpoofpcacaa.Blk Go.Proofs.Ytijfkpoofpcacaa.Core Go.Proofs.Ytijfkpoofpcacaa.MemC Go.Proofs.Ytijfkpoofpcacaa.MemT Go.Proofs.Ytijfkpoofpcacaa.PlanC Go.Proofs.Ytijfkpoofpcacaa.PlanD Go.Proofs.Ytijfkpoofpcacaa.StackC Go.Proofs.Ytijfkpoofpcacaa.StackP Go.Proofs.Ytijfkpoofpcacaa.EpochC Go.Proofs.Ytijfkpoofpcacaa.EpochS Go.Proofs.Ytijfkpoofpcacaa.EpochD
/-- Behind i steps, with nobody in the way. -/
def AdvI (w : World) (p : Nat) (c : Cf) (e : Int) (i : Nat) : Prop :=
  ∃ nw wh nx, AdvB w p c 0 nw wh nx ∧ ((i = 0 ∧ nx = 0) ∨ (1 ≤ i ∧ (i : Int) ≤ c.C ∧ nw = e ∧ wh = (i : Int) - 1 ∧ nx = 1) ∨ ((i : Int) = c.C + 1 ∧ nw = e ∧ wh = c.C ∧ nx = 2))
/-- Behind i steps, with client k in the way. -/
def AdvK (w : World) (p : Nat) (c : Cf) (e : Int) (k i : Nat) : Prop :=
  ∃ nw wh nx, AdvB w p c 0 nw wh nx ∧ ((i = 0 ∧ nx = 0) ∨ (1 ≤ i ∧ nw = e ∧ wh = (min (i - 1) k : Nat) ∧ nx = 1))
theorem advI_new {w : World} {p : Nat} {c : Cf} {e : Int} (h : AdvB w p c 0 0 0 0) : AdvI w p c e 0 := ⟨0, 0, 0, h, .inl ⟨rfl, rfl⟩⟩
theorem advK_new {w : World} {p : Nat} {c : Cf} {e : Int} {k : Nat} (h : AdvB w p c 0 0 0 0) : AdvK w p c e k 0 := ⟨0, 0, 0, h, .inl ⟨rfl, rfl⟩⟩
theorem AdvI.lt {w : World} {p : Nat} {c : Cf} {e : Int} {i : Nat} (h : AdvI w p c e i) : p < w.heap.size := by obtain ⟨_, _, _, h, _⟩ := h; exact Blk.lt h
theorem AdvI.fr {S : Nat → Prop} {w w' : World} {p : Nat} {c : Cf} {e : Int} {i : Nat} (h : AdvI w p c e i) (hf : Fr S w w') (hp : ¬ S p) : AdvI w' p c e i := by
  obtain ⟨a, b, d, h1, h2⟩ := h; exact ⟨a, b, d, Blk.fr h1 hf hp, h2⟩
theorem AdvI.below {n : Nat} {w w' : World} {p : Nat} {c : Cf} {e : Int} {i : Nat} (h : AdvI w p c e i) (hb : Below n w w') (hp : p < n) : AdvI w' p c e i := by
  obtain ⟨a, b, d, h1, h2⟩ := h; exact ⟨a, b, d, Blk.below h1 hb hp, h2⟩
theorem AdvK.lt {w : World} {p : Nat} {c : Cf} {e : Int} {k i : Nat} (h : AdvK w p c e k i) : p < w.heap.size := by obtain ⟨_, _, _, h, _⟩ := h; exact Blk.lt h
theorem AdvK.fr {S : Nat → Prop} {w w' : World} {p : Nat} {c : Cf} {e : Int} {k i : Nat} (h : AdvK w p c e k i) (hf : Fr S w w') (hp : ¬ S p) : AdvK w' p c e k i := by
  obtain ⟨a, b, d, h1, h2⟩ := h; exact ⟨a, b, d, Blk.fr h1 hf hp, h2⟩
theorem AdvK.below {n : Nat} {w w' : World} {p : Nat} {c : Cf} {e : Int} {k i : Nat} (h : AdvK w p c e k i) (hb : Below n w w') (hp : p < n) : AdvK w' p c e k i := by
  obtain ⟨a, b, d, h1, h2⟩ := h; exact ⟨a, b, d, Blk.below h1 hb hp, h2⟩
theorem AdvK.go {w : World} {p : Nat} {c : Cf} {e : Int} {k i : Nat} (h : AdvK w p c e k i) (hi : k < i) (hk : (k : Int) < c.C) : AdvI w p c e (k + 1) := by
  obtain ⟨nw, wh, nx, h1, ⟨rfl, _⟩ | ⟨_, rfl, rfl, rfl⟩⟩ := h
  · omega
  · refine ⟨nw, _, _, h1, .inr (.inl ⟨by omega, by omega, rfl, by omega, rfl⟩)⟩
section
variable {c : Cf} (hr : c.right = true) {w : World} {p m b n T : Nat} {M : Ms} (hM : MemB w m b M) (hf : Fine M n T) (hn : (n : Int) = c.size) (hT : T ≤ 1000000) (np : ¬ two m b p) {e : Int} {i k : Nat}
include hr hM hf hn hT np
theorem adI (he : M.f 1 = e ∧ Ready c M.f e) (hi : (i : Int) ≤ c.C) (hp : AdvI w p c e i) : Calls Try.prog 41 #[.pointer (some ⟨p, 0, none⟩), .pointer (some ⟨m, 0, none⟩)] w fun e' w' =>
    e' = .returned (.bool false) ∧ ∃ M', AdvI w' p c e (i + 1) ∧ MemB w' m b M' ∧ M'.f = M.f ∧ M'.t = M.t + 1 ∧ Fine M' n (T + 1) ∧ Fr (three p m b) w w' := by
  obtain ⟨nw, wh, nx, h1, ⟨rfl, rfl⟩ | ⟨h2, h3, rfl, rfl, rfl⟩ | ⟨h2, _, _, _⟩⟩ := hp
  · refine (adS hr hM hf hn hT np h1).mono ?_
    rintro e2 w2 ⟨rfl, M', a1, a2, a3, a4, a5, a6⟩
    have hC := right_iff.1 hr
    exact ⟨rfl, M', ⟨_, _, _, a1, .inr (.inl ⟨by omega, by omega, he.1, by omega, rfl⟩)⟩, a2, a3, a4, a5, a6⟩
  · have hk : 0 ≤ (i : Int) - 1 ∧ (i : Int) - 1 < c.C := ⟨by omega, by omega⟩
    refine (adN hr hM hf hn hT np hk (he.2.at_ hk.1 hk.2) h1).mono ?_
    rintro e2 w2 ⟨rfl, M', a1, a2, a3, a4, a5, a6⟩
    refine ⟨rfl, M', ⟨_, _, _, a1, ?_⟩, a2, a3, a4, a5, a6⟩
    by_cases hz : (i : Int) - 1 + 1 = c.C
    · rw [if_pos hz]; exact .inr (.inr ⟨by omega, rfl, by omega, rfl⟩)
    · rw [if_neg hz]; exact .inr (.inl ⟨by omega, by omega, rfl, by omega, rfl⟩)
  · omega
theorem adF (he : M.f 1 = e) (hi : (i : Int) = c.C + 1) (hp : AdvI w p c e i) : Calls Try.prog 41 #[.pointer (some ⟨p, 0, none⟩), .pointer (some ⟨m, 0, none⟩)] w fun e' w' =>
    e' = .returned (.bool true) ∧ ∃ M', AdvB w' p c ((e + 1) % 18446744073709551616) e c.C 3 ∧ MemB w' m b M' ∧ M'.f = upd M.f 1 ((e + 1) % 18446744073709551616) ∧ M'.t = M.t + 1 ∧ Fine M' n (T + 1) ∧ Fr (three p m b) w w' := by
  have hC := right_iff.1 hr
  obtain ⟨nw, wh, nx, h1, ⟨rfl, rfl⟩ | ⟨h2, h3, rfl, rfl, rfl⟩ | ⟨h2, rfl, rfl, rfl⟩⟩ := hp
  · omega
  · omega
  · exact adW hr hM hf hn hT np he h1
theorem adK (he : M.f 1 = e) (hk : (k : Int) < c.C) (hlo : ∀ j : Nat, j < k → M.f (4 + j) = 0 ∨ M.f (4 + j) = pinV e) (hb : ¬ (M.f (4 + k) = 0 ∨ M.f (4 + k) = pinV e)) (hp : AdvK w p c e k i) : Calls Try.prog 41 #[.pointer (some ⟨p, 0, none⟩), .pointer (some ⟨m, 0, none⟩)] w fun e' w' =>
    e' = .returned (.bool false) ∧ ∃ M', AdvK w' p c e k (i + 1) ∧ MemB w' m b M' ∧ M'.f = M.f ∧ M'.t = M.t + 1 ∧ Fine M' n (T + 1) ∧ Fr (three p m b) w w' := by
  have hC := right_iff.1 hr
  obtain ⟨nw, wh, nx, h1, ⟨rfl, rfl⟩ | ⟨h2, rfl, rfl, rfl⟩⟩ := hp
  · refine (adS hr hM hf hn hT np h1).mono ?_
    rintro e2 w2 ⟨rfl, M', a1, a2, a3, a4, a5, a6⟩
    exact ⟨rfl, M', ⟨_, _, _, a1, .inr ⟨by omega, he, by simp, rfl⟩⟩, a2, a3, a4, a5, a6⟩
  · rcases Nat.lt_or_ge (i - 1) k with q | q
    · have em : min (i - 1) k = i - 1 := by omega
      rw [em] at h1
      have hk2 : 0 ≤ ((i - 1 : Nat) : Int) ∧ ((i - 1 : Nat) : Int) < c.C := ⟨by omega, by omega⟩
      have hx : M.f (4 + ((i - 1 : Nat) : Int)).toNat = 0 ∨ M.f (4 + ((i - 1 : Nat) : Int)).toNat = pinV nw := by
        have e : (4 + ((i - 1 : Nat) : Int)).toNat = 4 + (i - 1) := by omega
        rw [e]; exact hlo _ q
      refine (adN hr hM hf hn hT np hk2 hx h1).mono ?_
      rintro e2 w2 ⟨rfl, M', a1, a2, a3, a4, a5, a6⟩
      rw [if_neg (by omega)] at a1
      refine ⟨rfl, M', ⟨_, _, _, a1, .inr ⟨by omega, rfl, by omega, rfl⟩⟩, a2, a3, a4, a5, a6⟩
    · have em : min (i - 1) k = k := by omega
      rw [em] at h1
      have hx : ¬ (M.f (4 + (k : Int)).toNat = 0 ∨ M.f (4 + (k : Int)).toNat = pinV nw) := by
        have e : (4 + (k : Int)).toNat = 4 + k := by omega
        rw [e]; exact hb
      refine (adB hr hM hf hn hT np ⟨by omega, hk⟩ hx h1).mono ?_
      rintro e2 w2 ⟨rfl, M', a1, a2, a3, a4, a5, a6⟩
      refine ⟨rfl, M', ⟨_, _, _, a1, .inr ⟨by omega, rfl, by omega, rfl⟩⟩, a2, a3, a4, a5, a6⟩
end
end Go.Proofs.Ytijfkpoofpcacaa.EpochI
