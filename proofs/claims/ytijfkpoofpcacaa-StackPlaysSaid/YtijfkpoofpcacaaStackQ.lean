/-
  Layer 7 (stack): one machine alone, step by step, over a list of free slots; condition: a right config, tags below 2^48, as many touches as fit a number.
-/
import Derived.Test.YtijfkpoofpcacaaStackP
set_option linter.unusedVariables false
set_option linter.unusedSectionVars false
namespace Go.Proofs.Ytijfkpoofpcacaa.StackQ
open Go.RowKit Go.Proofs.Ytijfkpoofpcacaa.Blk Go.Proofs.Ytijfkpoofpcacaa.Core Go.Proofs.Ytijfkpoofpcacaa.MemC Go.Proofs.Ytijfkpoofpcacaa.MemT Go.Proofs.Ytijfkpoofpcacaa.Memory Go.Proofs.Ytijfkpoofpcacaa.PlanC Go.Proofs.Ytijfkpoofpcacaa.PlanD Go.Proofs.Ytijfkpoofpcacaa.StackC Go.Proofs.Ytijfkpoofpcacaa.StackL Go.Proofs.Ytijfkpoofpcacaa.StackS Go.Proofs.Ytijfkpoofpcacaa.StackF Go.Proofs.Ytijfkpoofpcacaa.StackP
section
variable {c : Cf} (hr : c.right = true) {w : World} {p m b n T : Nat} {M : Ms} {t : Int} {L r : List Int} {x : Int} (hM : MemB w m b M) (hf : Fine M n T) (hn : (n : Int) = c.size) (hT : T ≤ 1000000) (np : ¬ two m b p) {sl : Int} {em : Bool} {tp nx : Int}
include hr hM hf hn hT np
theorem hn8 : 9 ≤ n ∧ n ≤ 800 := by have := size_bd hr; unfold Cf.size at hn; omega
theorem ok_ : Ok M := hf.ok (by have := hn8 hr hM hf hn hT np; omega) (by omega)
theorem ld3 : M.ldV 3 = M.f 3 := ld_v (by decide) (by rw [hf.n]; have := hn8 hr hM hf hn hT np; omega)
theorem al1 (h : Stk c M.f t (x :: r)) (hp : PopB w p c ⟨sl, em, 0, tp, nx⟩) (t0 : 0 ≤ tp) (t1 : tp < 18446744073709551616) : Calls Try.prog 45 #[.pointer (some ⟨p, 0, none⟩), .pointer (some ⟨m, 0, none⟩)] w fun e w' =>
    e = .returned (.bool false) ∧ ∃ M', PopB w' p c ⟨sl, em, 1, M'.f 3, nx⟩ ∧ MemB w' m b M' ∧ M'.f = M.f ∧ Fine M' n (T + 1) ∧ Fr (three p m b) w w' := by
  have ok := ok_ hr hM hf hn hT np
  have e3 := ld3 hr hM hf hn hT np
  have hx := h.lk.1
  have h1 := h.first hr
  have h2 : ¬ firstI c.S (M.f 3) < 0 := by rw [h1]; show ¬ x + 1 - 1 < 0; omega
  have hS : popS c ⟨sl, em, 0, tp, nx⟩ M = ⟨sl, em, 1, M.f 3, nx⟩ := by simp [popS, e3, h2]
  have hMM : popM c ⟨sl, em, 0, tp, nx⟩ M = M.ldS 3 := by simp [popM]
  have hD : popD c ⟨sl, em, 0, tp, nx⟩ M = false := by unfold popD; rw [hS]; rfl
  refine (popC c w p m b M hr hM ok np _ hp ⟨t0, t1, .inl rfl⟩).mono ?_
  rintro e w' ⟨rfl, a1, a2, a3⟩
  rw [hS] at a1
  rw [hMM] at a2
  rw [hD]
  exact ⟨rfl, M.ldS 3, by rw [(ld_f M 3).1]; exact a1, a2, (ld_f M 3).1, hf.ld 3, a3⟩
theorem alE (h : Stk c M.f t []) (hp : PopB w p c ⟨sl, em, 0, tp, nx⟩) (t0 : 0 ≤ tp) (t1 : tp < 18446744073709551616) : Calls Try.prog 45 #[.pointer (some ⟨p, 0, none⟩), .pointer (some ⟨m, 0, none⟩)] w fun e w' =>
    e = .returned (.bool true) ∧ ∃ M', PopB w' p c ⟨sl, true, 3, M'.f 3, nx⟩ ∧ MemB w' m b M' ∧ M'.f = M.f ∧ Fine M' n (T + 1) ∧ Fr (three p m b) w w' := by
  have ok := ok_ hr hM hf hn hT np
  have e3 := ld3 hr hM hf hn hT np
  have h1 := h.first hr
  have h2 : firstI c.S (M.f 3) < 0 := by rw [h1]; decide
  have hS : popS c ⟨sl, em, 0, tp, nx⟩ M = ⟨sl, true, 3, M.f 3, nx⟩ := by simp [popS, e3, h2]
  have hMM : popM c ⟨sl, em, 0, tp, nx⟩ M = M.ldS 3 := by simp [popM]
  have hD : popD c ⟨sl, em, 0, tp, nx⟩ M = true := by unfold popD; rw [hS]; rfl
  refine (popC c w p m b M hr hM ok np _ hp ⟨t0, t1, .inl rfl⟩).mono ?_
  rintro e w' ⟨rfl, a1, a2, a3⟩
  rw [hS] at a1
  rw [hMM] at a2
  rw [hD]
  exact ⟨rfl, M.ldS 3, by rw [(ld_f M 3).1]; exact a1, a2, (ld_f M 3).1, hf.ld 3, a3⟩
theorem al2 (h : Stk c M.f t (x :: r)) (hp : PopB w p c ⟨sl, em, 1, M.f 3, nx⟩) : Calls Try.prog 45 #[.pointer (some ⟨p, 0, none⟩), .pointer (some ⟨m, 0, none⟩)] w fun e w' =>
    e = .returned (.bool false) ∧ ∃ M', PopB w' p c ⟨sl, em, 2, M'.f 3, hd r - 1⟩ ∧ MemB w' m b M' ∧ M'.f = M.f ∧ Fine M' n (T + 1) ∧ Fr (three p m b) w w' := by
  have ok := ok_ hr hM hf hn hT np
  have hx := h.lk.1
  have hu := hf.u 3
  have h1 : firstI c.S (M.f 3) = x := by rw [h.first hr]; show x + 1 - 1 = x; omega
  have hl := link_lt hr hx.1 hx.2
  have e4 : M.ldV (c.link x) = hd r := by rw [ld_v (by omega) (by rw [hf.n, hn]; exact hl.2)]; exact h.lk.2.1
  have hb := hd_bd h.lk.2.2
  have hSb := S_bd hr
  have e5 : linkedI c.S (hd r) = hd r - 1 := by unfold linkedI; rw [if_neg (by omega)]
  have hS : popS c ⟨sl, em, 1, M.f 3, nx⟩ M = ⟨sl, em, 2, M.f 3, hd r - 1⟩ := by simp [popS, h1, e4, e5]
  have hMM : popM c ⟨sl, em, 1, M.f 3, nx⟩ M = M.ldS (c.link x) := by simp [popM, h1]
  have hD : popD c ⟨sl, em, 1, M.f 3, nx⟩ M = false := by unfold popD; rw [hS]; rfl
  refine (popC c w p m b M hr hM ok np _ hp ⟨hu.1, hu.2, .inr (.inl rfl)⟩).mono ?_
  rintro e w' ⟨rfl, a1, a2, a3⟩
  rw [hS] at a1
  rw [hMM] at a2
  rw [hD]
  exact ⟨rfl, _, by rw [(ld_f M _).1]; exact a1, a2, (ld_f M _).1, hf.ld _, a3⟩
theorem al3 (h : Stk c M.f t (x :: r)) (ht : t + 1 < 281474976710656) (hp : PopB w p c ⟨sl, em, 2, M.f 3, hd r - 1⟩) : Calls Try.prog 45 #[.pointer (some ⟨p, 0, none⟩), .pointer (some ⟨m, 0, none⟩)] w fun e w' =>
    e = .returned (.bool true) ∧ ∃ M', PopB w' p c ⟨x, em, 3, M.f 3, hd r - 1⟩ ∧ MemB w' m b M' ∧ Stk c M'.f (t + 1) r ∧ Fine M' n (T + 1) ∧ Fr (three p m b) w w' := by
  have ok := ok_ hr hM hf hn hT np
  have h8 := hn8 hr hM hf hn hT np
  have hx := h.lk.1
  have hu := hf.u 3
  have h1 : firstI c.S (M.f 3) = x := by rw [h.first hr]; show x + 1 - 1 = x; omega
  obtain ⟨s1, s2, s3⟩ := sw_yes (M := M) (a := 3) (old := M.f 3) (now := movedV (M.f 3) (hd r - 1)) (by decide) (by rw [hf.n]; omega) rfl
  have hS : popS c ⟨sl, em, 2, M.f 3, hd r - 1⟩ M = ⟨x, em, 3, M.f 3, hd r - 1⟩ := by simp [popS, h1, s1]
  have hMM : popM c ⟨sl, em, 2, M.f 3, hd r - 1⟩ M = M.swS 3 (M.f 3) (movedV (M.f 3) (hd r - 1)) := by simp [popM]
  have hD : popD c ⟨sl, em, 2, M.f 3, hd r - 1⟩ M = true := by unfold popD; rw [hS]; rfl
  have hb := movedV_bd (M.f 3) (hd r - 1) hu.1
  refine (popC c w p m b M hr hM ok np _ hp ⟨hu.1, hu.2, .inr (.inr (.inl rfl))⟩).mono ?_
  rintro e w' ⟨rfl, a1, a2, a3⟩
  rw [hS] at a1
  rw [hMM] at a2
  rw [hD]
  refine ⟨rfl, _, a1, a2, ?_, hf.sw _ _ hb.1 hb.2, a3⟩
  rw [s2]
  exact h.take hr ht
theorem al4 (hp : PopB w p c ⟨sl, em, 3, tp, nx⟩) (t0 : 0 ≤ tp) (t1 : tp < 18446744073709551616) : Calls Try.prog 45 #[.pointer (some ⟨p, 0, none⟩), .pointer (some ⟨m, 0, none⟩)] w fun e w' =>
    e = .returned (.bool true) ∧ PopB w' p c ⟨sl, em, 3, tp, nx⟩ ∧ MemB w' m b M ∧ Fr (three p m b) w w' := by
  have ok := ok_ hr hM hf hn hT np
  refine (popC c w p m b M hr hM ok np _ hp ⟨t0, t1, .inr (.inr (.inr rfl))⟩).mono ?_
  rintro e w' ⟨rfl, a1, a2, a3⟩
  exact ⟨by simp [popD, popS], by simpa [popS] using a1, by simpa [popM] using a2, a3⟩
theorem pl1 (h : Stk c M.f t L) (hp : PushB w p c ⟨sl, 0, tp⟩) (t0 : 0 ≤ tp) (t1 : tp < 18446744073709551616) : Calls Try.prog 47 #[.pointer (some ⟨p, 0, none⟩), .pointer (some ⟨m, 0, none⟩)] w fun e w' =>
    e = .returned (.bool false) ∧ ∃ M', PushB w' p c ⟨sl, 1, M'.f 3⟩ ∧ MemB w' m b M' ∧ M'.f = M.f ∧ Fine M' n (T + 1) ∧ Fr (three p m b) w w' := by
  have ok := ok_ hr hM hf hn hT np
  have e3 := ld3 hr hM hf hn hT np
  have hS : pushS c ⟨sl, 0, tp⟩ M = ⟨sl, 1, M.f 3⟩ := by simp [pushS, e3]
  have hMM : pushM c ⟨sl, 0, tp⟩ M = M.ldS 3 := by simp [pushM]
  have hD : pushD c ⟨sl, 0, tp⟩ M = false := by unfold pushD; rw [hS]; rfl
  refine (pushC c w p m b M hr hM ok np _ hp ⟨t0, t1, .inl rfl⟩).mono ?_
  rintro e w' ⟨rfl, a1, a2, a3⟩
  rw [hS] at a1
  rw [hMM] at a2
  rw [hD]
  exact ⟨rfl, M.ldS 3, by rw [(ld_f M 3).1]; exact a1, a2, (ld_f M 3).1, hf.ld 3, a3⟩
theorem pl2 (h : Stk c M.f t L) (hx : 0 ≤ x ∧ x < c.S) (hnm : x ∉ L) (hp : PushB w p c ⟨x, 1, M.f 3⟩) : Calls Try.prog 47 #[.pointer (some ⟨p, 0, none⟩), .pointer (some ⟨m, 0, none⟩)] w fun e w' =>
    e = .returned (.bool false) ∧ ∃ M', PushB w' p c ⟨x, 2, M'.f 3⟩ ∧ MemB w' m b M' ∧ Stk c M'.f t L ∧ M'.f (c.link x).toNat = hd L ∧ Fine M' n (T + 1) ∧ Fr (three p m b) w w' := by
  have ok := ok_ hr hM hf hn hT np
  have hu := hf.u 3
  have hl := link_lt hr hx.1 hx.2
  have h1 := h.first hr
  have hb := hd_bd h.lk
  have hSb := S_bd hr
  obtain ⟨s1, s2⟩ := st_f (M := M) (a := c.link x) (v := firstI c.S (M.f 3) + 1) (by omega) (by rw [hf.n, hn]; exact hl.2)
  have hS : pushS c ⟨x, 1, M.f 3⟩ M = ⟨x, 2, M.f 3⟩ := by simp [pushS]
  have hMM : pushM c ⟨x, 1, M.f 3⟩ M = M.stS (c.link x) (firstI c.S (M.f 3) + 1) := by simp [pushM]
  have hD : pushD c ⟨x, 1, M.f 3⟩ M = false := by unfold pushD; rw [hS]; rfl
  refine (pushC c w p m b M hr hM ok np _ hp ⟨hu.1, hu.2, .inr (.inl rfl)⟩).mono ?_
  rintro e w' ⟨rfl, a1, a2, a3⟩
  rw [hS] at a1
  rw [hMM] at a2
  rw [hD]
  refine ⟨rfl, _, ?_, a2, ?_, ?_, hf.st _ (by rw [h1]; omega) (by rw [h1]; omega), a3⟩
  · rw [s1, upd_ne (by omega)]; exact a1
  · rw [s1]; exact h.store hr hx hnm _
  · rw [s1, upd_eq, h1]; omega
theorem pl3 (h : Stk c M.f t L) (ht : t + 1 < 281474976710656) (hx : 0 ≤ x ∧ x < c.S) (hnm : x ∉ L) (hl : M.f (c.link x).toNat = hd L) (hp : PushB w p c ⟨x, 2, M.f 3⟩) : Calls Try.prog 47 #[.pointer (some ⟨p, 0, none⟩), .pointer (some ⟨m, 0, none⟩)] w fun e w' =>
    e = .returned (.bool true) ∧ ∃ M', PushB w' p c ⟨x, 3, M.f 3⟩ ∧ MemB w' m b M' ∧ Stk c M'.f (t + 1) (x :: L) ∧ Fine M' n (T + 1) ∧ Fr (three p m b) w w' := by
  have ok := ok_ hr hM hf hn hT np
  have h8 := hn8 hr hM hf hn hT np
  have hu := hf.u 3
  obtain ⟨s1, s2, s3⟩ := sw_yes (M := M) (a := 3) (old := M.f 3) (now := movedV (M.f 3) x) (by decide) (by rw [hf.n]; omega) rfl
  have hS : pushS c ⟨x, 2, M.f 3⟩ M = ⟨x, 3, M.f 3⟩ := by simp [pushS, s1]
  have hMM : pushM c ⟨x, 2, M.f 3⟩ M = M.swS 3 (M.f 3) (movedV (M.f 3) x) := by simp [pushM]
  have hD : pushD c ⟨x, 2, M.f 3⟩ M = true := by unfold pushD; rw [hS]; rfl
  have hb := movedV_bd (M.f 3) x hu.1
  refine (pushC c w p m b M hr hM ok np _ hp ⟨hu.1, hu.2, .inr (.inr (.inl rfl))⟩).mono ?_
  rintro e w' ⟨rfl, a1, a2, a3⟩
  rw [hS] at a1
  rw [hMM] at a2
  rw [hD]
  refine ⟨rfl, _, a1, a2, ?_, hf.sw _ _ hb.1 hb.2, a3⟩
  rw [s2]
  exact h.lay hr ht hx hnm hl
end
end Go.Proofs.Ytijfkpoofpcacaa.StackQ
