/-
  Layer 7 (stack): a Pop's and a Push's step whole, new machines, lists that are compared and searched; condition: a right config, as many touches as fit a number.
-/
import Derived.Test.YtijfkpoofpcacaaStackL
set_option linter.unusedVariables false
set_option linter.unusedSectionVars false
namespace Go.Proofs.Ytijfkpoofpcacaa.StackS
open Go.RowKit Go.Proofs.YtijfkpoofpcacaaW.PrintWords Go.Proofs.Ytijfkpoofpcacaa.Blk Go.Proofs.Ytijfkpoofpcacaa.Core Go.Proofs.Ytijfkpoofpcacaa.MemC Go.Proofs.Ytijfkpoofpcacaa.MemD Go.Proofs.Ytijfkpoofpcacaa.MemT Go.Proofs.Ytijfkpoofpcacaa.PlanC Go.Proofs.Ytijfkpoofpcacaa.PlanD Go.Proofs.Ytijfkpoofpcacaa.StackC Go.Proofs.Ytijfkpoofpcacaa.StackL Go.Proofs.Ytijfkpoofpcacaa.Opens
structure Pop where
  sl : Int
  em : Bool
  a : Int
  tp : Int
  nx : Int
structure Push where
  sl : Int
  a : Int
  tp : Int
def PopB (w : World) (p : Nat) (c : Cf) (q : Pop) : Prop := Blk w p 66 (popA c q.sl q.em q.a q.tp q.nx)
def PushB (w : World) (p : Nat) (c : Cf) (q : Push) : Prop := Blk w p 137 (pushA c q.sl q.a q.tp)
structure PopOk (q : Pop) : Prop where
  t0 : 0 ≤ q.tp
  t1 : q.tp < 18446744073709551616
  a : q.a = 0 ∨ q.a = 1 ∨ q.a = 2 ∨ q.a = 3
structure PushOk (q : Push) : Prop where
  t0 : 0 ≤ q.tp
  t1 : q.tp < 18446744073709551616
  a : q.a = 0 ∨ q.a = 1 ∨ q.a = 2 ∨ q.a = 3
def popS (c : Cf) (q : Pop) (M : Ms) : Pop :=
  if q.a = 0 then (if firstI c.S (M.ldV 3) < 0 then ⟨q.sl, true, 3, M.ldV 3, q.nx⟩ else ⟨q.sl, q.em, 1, M.ldV 3, q.nx⟩)
  else if q.a = 1 then ⟨q.sl, q.em, 2, q.tp, linkedI c.S (M.ldV (c.link (firstI c.S q.tp)))⟩
  else if q.a = 2 then (if M.swV 3 q.tp = true then ⟨firstI c.S q.tp, q.em, 3, q.tp, q.nx⟩ else ⟨q.sl, q.em, 0, q.tp, q.nx⟩)
  else q
def popM (c : Cf) (q : Pop) (M : Ms) : Ms :=
  if q.a = 0 then M.ldS 3 else if q.a = 1 then M.ldS (c.link (firstI c.S q.tp)) else if q.a = 2 then M.swS 3 q.tp (movedV q.tp q.nx) else M
def pushS (c : Cf) (q : Push) (M : Ms) : Push :=
  if q.a = 0 then ⟨q.sl, 1, M.ldV 3⟩ else if q.a = 1 then ⟨q.sl, 2, q.tp⟩
  else if q.a = 2 then (if M.swV 3 q.tp = true then ⟨q.sl, 3, q.tp⟩ else ⟨q.sl, 0, q.tp⟩) else q
def pushM (c : Cf) (q : Push) (M : Ms) : Ms :=
  if q.a = 0 then M.ldS 3 else if q.a = 1 then M.stS (c.link q.sl) (firstI c.S q.tp + 1) else if q.a = 2 then M.swS 3 q.tp (movedV q.tp q.sl) else M
def popD (c : Cf) (q : Pop) (M : Ms) : Bool := (popS c q M).a == 3
def pushD (c : Cf) (q : Push) (M : Ms) : Bool := (pushS c q M).a == 3
theorem PopOk.step {c : Cf} {q : Pop} {M : Ms} (h : PopOk q) (ok : Ok M) : PopOk (popS c q M) := by
  obtain ⟨x0, x1⟩ := ldV_bd ok 3
  have t0 := h.t0
  have t1 := h.t1
  unfold popS
  by_cases e0 : q.a = 0
  · rw [if_pos e0]; split
    · exact ⟨x0, x1, by simp⟩
    · exact ⟨x0, x1, by simp⟩
  · rw [if_neg e0]
    by_cases e1 : q.a = 1
    · rw [if_pos e1]; exact ⟨t0, t1, by simp⟩
    · rw [if_neg e1]
      by_cases e2 : q.a = 2
      · rw [if_pos e2]; split
        · exact ⟨t0, t1, by simp⟩
        · exact ⟨t0, t1, by simp⟩
      · rw [if_neg e2]; exact h
theorem PushOk.step {c : Cf} {q : Push} {M : Ms} (h : PushOk q) (ok : Ok M) : PushOk (pushS c q M) := by
  obtain ⟨x0, x1⟩ := ldV_bd ok 3
  have t0 := h.t0
  have t1 := h.t1
  unfold pushS
  by_cases e0 : q.a = 0
  · rw [if_pos e0]; exact ⟨x0, x1, by simp⟩
  · rw [if_neg e0]
    by_cases e1 : q.a = 1
    · rw [if_pos e1]; exact ⟨t0, t1, by simp⟩
    · rw [if_neg e1]
      by_cases e2 : q.a = 2
      · rw [if_pos e2]; split
        · exact ⟨t0, t1, by simp⟩
        · exact ⟨t0, t1, by simp⟩
      · rw [if_neg e2]; exact h
section
variable (c : Cf) (w : World) (p m b : Nat) (M : Ms) (hc : c.right = true) (hM : MemB w m b M) (ok : Ok M) (np : ¬ two m b p)
include hc hM ok np
theorem popC (q : Pop) (hp : PopB w p c q) (hq : PopOk q) : Calls Try.prog 45 #[.pointer (some ⟨p, 0, none⟩), .pointer (some ⟨m, 0, none⟩)] w fun e w' =>
    e = .returned (.bool (popD c q M)) ∧ PopB w' p c (popS c q M) ∧ MemB w' m b (popM c q M) ∧ Fr (three p m b) w w' := by
  obtain ⟨sl, em, a, tp, nx⟩ := q
  have t0 : 0 ≤ tp := hq.t0
  have t1 : tp < 18446744073709551616 := hq.t1
  have ha : a = 0 ∨ a = 1 ∨ a = 2 ∨ a = 3 := hq.a
  have hp' : Blk w p 66 (popA c sl em a tp nx) := hp
  rcases ha with rfl | rfl | rfl | rfl
  · rcases Int.lt_or_le (firstI c.S (M.ldV 3)) 0 with hx | hx
    · have := pop_0a c w p m b M hc hM ok np sl em tp nx hx hp'
      simpa [popD, popS, popM, PopB, hx] using this
    · have := pop_0b c w p m b M hc hM ok np sl em tp nx hx hp'
      have hx' : ¬ firstI c.S (M.ldV 3) < 0 := by omega
      simpa [popD, popS, popM, PopB, hx'] using this
  · have := pop_1 c w p m b M hc hM ok np sl em tp nx t0 t1 hp'
    simpa [popD, popS, popM, PopB] using this
  · cases hs : M.swV 3 tp with
    | true =>
      have := pop_2a c w p m b M hc hM ok np sl em tp nx t0 t1 hs hp'
      simpa [popD, popS, popM, PopB, hs] using this
    | false =>
      have := pop_2b c w p m b M hc hM ok np sl em tp nx t0 t1 hs hp'
      simpa [popD, popS, popM, PopB, hs] using this
  · have := pop_3 c w p m b M hc hM ok np sl em tp nx hp'
    simpa [popD, popS, popM, PopB] using this
theorem pushC (q : Push) (hp : PushB w p c q) (hq : PushOk q) : Calls Try.prog 47 #[.pointer (some ⟨p, 0, none⟩), .pointer (some ⟨m, 0, none⟩)] w fun e w' =>
    e = .returned (.bool (pushD c q M)) ∧ PushB w' p c (pushS c q M) ∧ MemB w' m b (pushM c q M) ∧ Fr (three p m b) w w' := by
  obtain ⟨sl, a, tp⟩ := q
  have t0 : 0 ≤ tp := hq.t0
  have t1 : tp < 18446744073709551616 := hq.t1
  have ha : a = 0 ∨ a = 1 ∨ a = 2 ∨ a = 3 := hq.a
  have hp' : Blk w p 137 (pushA c sl a tp) := hp
  rcases ha with rfl | rfl | rfl | rfl
  · have := push_0 c w p m b M hc hM ok np sl tp hp'
    simpa [pushD, pushS, pushM, PushB] using this
  · have := push_1 c w p m b M hc hM ok np sl tp t0 t1 hp'
    simpa [pushD, pushS, pushM, PushB] using this
  · cases hs : M.swV 3 tp with
    | true =>
      have := push_2a c w p m b M hc hM ok np sl tp t0 t1 hs hp'
      simpa [pushD, pushS, pushM, PushB, hs] using this
    | false =>
      have := push_2b c w p m b M hc hM ok np sl tp t0 t1 hs hp'
      simpa [pushD, pushS, pushM, PushB, hs] using this
  · have := push_3 c w p m b M hc hM ok np sl tp hp'
    simpa [pushD, pushS, pushM, PushB] using this
end
theorem pop_nil (w : World) (v : Value) : Calls Try.prog 45 #[.pointer none, v] w fun e w' => e = .returned (.bool true) ∧ w = w' := by
  go_enter Try.func45, Try.ntmps45
  go_wp2
  go_ret
  exact ⟨rfl, rfl⟩
theorem push_nil (w : World) (v : Value) : Calls Try.prog 47 #[.pointer none, v] w fun e w' => e = .returned (.bool true) ∧ w = w' := by
  go_enter Try.func47, Try.ntmps47
  go_wp2
  go_ret
  exact ⟨rfl, rfl⟩
section
variable (c : Cf) (w : World)
theorem newPopC (h : c.right = true) : Calls Try.prog 44 #[.agg #[.int .i64 c.S, .int .i64 c.A, .int .i64 c.C, .int .i64 c.H, .int .i64 c.G, .int .i64 c.K]] w fun e w' =>
    ∃ p, e = .returned (.pointer (some ⟨p, 0, none⟩)) ∧ w.heap.size ≤ p ∧ PopB w' p c ⟨-1, false, 0, 0, 0⟩ ∧ Below w.heap.size w w' := by
  have hf := Lib.hid (Blk.new w 23 #[.int .i64 c.S, .int .i64 c.A, .int .i64 c.C, .int .i64 c.H, .int .i64 c.G, .int .i64 c.K])
  replace h := Lib.hid h
  go_enter Try.func44, Try.ntmps44
  go_wp2_with (go_at_call 66; refine (rightC c _).mono ?_; rintro e w1 ⟨rfl, hb⟩; rw [h.out]; have hf1 := hf.out.below hb hf.out.lt; obtain ⟨k0, k1, k2, k3, k4, k5⟩ := cfgs hf1; replace hb := Lib.hid (below_pre hb); clear hf1)
  go_ret
  have hs := hb.out.size
  exact ⟨w1.heap.size, rfl, hs, Blk.new w1 66 _, hb.out.alloc hs _⟩
theorem newPop_no (h : c.right = false) : Calls Try.prog 44 #[.agg #[.int .i64 c.S, .int .i64 c.A, .int .i64 c.C, .int .i64 c.H, .int .i64 c.G, .int .i64 c.K]] w fun e w' =>
    e = .returned (.pointer none) ∧ Below w.heap.size w w' := by
  have hf := Lib.hid (Blk.new w 23 #[.int .i64 c.S, .int .i64 c.A, .int .i64 c.C, .int .i64 c.H, .int .i64 c.G, .int .i64 c.K])
  replace h := Lib.hid h
  go_enter Try.func44, Try.ntmps44
  go_wp2_with (go_at_call 66; refine (rightC c _).mono ?_; rintro e w1 ⟨rfl, hb⟩; rw [h.out]; replace hb := Lib.hid (below_pre hb))
  go_ret
  exact ⟨rfl, hb.out⟩
theorem newPushC (s : Int) (h : c.right = true) (s0 : 0 ≤ s) (s1 : s < c.S) : Calls Try.prog 46 #[.agg #[.int .i64 c.S, .int .i64 c.A, .int .i64 c.C, .int .i64 c.H, .int .i64 c.G, .int .i64 c.K], .int .i64 s] w fun e w' =>
    ∃ p, e = .returned (.pointer (some ⟨p, 0, none⟩)) ∧ w.heap.size ≤ p ∧ PushB w' p c ⟨s, 0, 0⟩ ∧ Below w.heap.size w w' := by
  have hf := Lib.hid (Blk.new w 23 #[.int .i64 c.S, .int .i64 c.A, .int .i64 c.C, .int .i64 c.H, .int .i64 c.G, .int .i64 c.K])
  replace h := Lib.hid h
  go_enter Try.func46, Try.ntmps46
  go_wp2_with (go_at_call 66; refine (rightC c _).mono ?_; rintro e w1 ⟨rfl, hb⟩; rw [h.out]; have hf1 := hf.out.below hb hf.out.lt; obtain ⟨k0, k1, k2, k3, k4, k5⟩ := cfgs hf1; replace hb := Lib.hid (below_pre hb); clear hf1)
  go_ret
  have hs := hb.out.size
  exact ⟨w1.heap.size, rfl, hs, Blk.new w1 137 _, hb.out.alloc hs _⟩
theorem newPush_no (s : Int) (h : ¬ (c.right = true ∧ 0 ≤ s ∧ s < c.S)) : Calls Try.prog 46 #[.agg #[.int .i64 c.S, .int .i64 c.A, .int .i64 c.C, .int .i64 c.H, .int .i64 c.G, .int .i64 c.K], .int .i64 s] w fun e w' =>
    e = .returned (.pointer none) ∧ Below w.heap.size w w' := by
  have hf := Lib.hid (Blk.new w 23 #[.int .i64 c.S, .int .i64 c.A, .int .i64 c.C, .int .i64 c.H, .int .i64 c.G, .int .i64 c.K])
  cases hr : c.right with
  | false =>
    clear h
    replace hr := Lib.hid hr
    go_enter Try.func46, Try.ntmps46
    go_wp2_with (go_at_call 66; refine (rightC c _).mono ?_; rintro e w1 ⟨rfl, hb⟩; rw [hr.out]; replace hb := Lib.hid (below_pre hb))
    go_ret
    exact ⟨rfl, hb.out⟩
  | true =>
    rcases Int.lt_or_le s 0 with s0 | s0
    · clear h
      replace hr := Lib.hid hr
      go_enter Try.func46, Try.ntmps46
      go_wp2_with (go_at_call 66; refine (rightC c _).mono ?_; rintro e w1 ⟨rfl, hb⟩; rw [hr.out]; replace hb := Lib.hid (below_pre hb))
      go_ret
      exact ⟨rfl, hb.out⟩
    · have s1 : c.S ≤ s := by
        rcases Int.lt_or_le s c.S with q | q
        · exact absurd ⟨hr, s0, q⟩ h
        · exact q
      clear h
      replace hr := Lib.hid hr
      go_enter Try.func46, Try.ntmps46
      go_wp2_with (go_at_call 66; refine (rightC c _).mono ?_; rintro e w1 ⟨rfl, hb⟩; rw [hr.out]; have hf1 := hf.out.below hb hf.out.lt; obtain ⟨k0, k1, k2, k3, k4, k5⟩ := cfgs hf1; replace hb := Lib.hid (below_pre hb); clear hf1)
      go_ret
      exact ⟨rfl, hb.out⟩
end
end Go.Proofs.Ytijfkpoofpcacaa.StackS
