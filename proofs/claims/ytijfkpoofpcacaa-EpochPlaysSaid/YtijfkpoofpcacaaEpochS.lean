/-
  Layer 8 (epoch): the machines' steps over words that are told, new machines; condition: a right config, as many touches as fit a number.
-/
import Derived.Test.YtijfkpoofpcacaaEpochC
import Derived.Test.YtijfkpoofpcacaaStackG
set_option linter.unusedVariables false
set_option linter.unusedSectionVars false
namespace Go.Proofs.Ytijfkpoofpcacaa.EpochS
open Go.RowKit Go.Proofs.Ytijfkpoofpcacaa.Blk Go.Proofs.Ytijfkpoofpcacaa.Core Go.Proofs.Ytijfkpoofpcacaa.MemC Go.Proofs.Ytijfkpoofpcacaa.MemT Go.Proofs.Ytijfkpoofpcacaa.Memory Go.Proofs.Ytijfkpoofpcacaa.PlanC Go.Proofs.Ytijfkpoofpcacaa.PlanD Go.Proofs.Ytijfkpoofpcacaa.StackC Go.Proofs.Ytijfkpoofpcacaa.StackF Go.Proofs.Ytijfkpoofpcacaa.StackP Go.Proofs.Ytijfkpoofpcacaa.StackG Go.Proofs.Ytijfkpoofpcacaa.EpochC
def PinB (w : World) (p : Nat) (ee pa nx : Int) : Prop := Blk w p 44 #[.int .u64 ee, .int .i64 pa, .int .i64 nx]
def LevB (w : World) (p : Nat) (pa : Int) (dn : Bool) : Prop := Blk w p 132 #[.int .i64 pa, .bool dn]
def AdvB (w : World) (p : Nat) (c : Cf) (ee nw wh nx : Int) : Prop := Blk w p 54 (advA c ee nw wh nx)
theorem ld_t {M : Ms} {a : Int} (h0 : 0 ≤ a) (h1 : a < M.n) : (M.ldS a).t = M.t + 1 := by unfold Ms.ldS; rw [if_pos (inn_iff.2 ⟨h0, h1⟩)]; rfl
theorem st_t {M : Ms} {a v : Int} (h0 : 0 ≤ a) (h1 : a < M.n) : (M.stS a v).t = M.t + 1 := by unfold Ms.stS; rw [if_pos (inn_iff.2 ⟨h0, h1⟩)]; rfl
theorem sw_t {M : Ms} {a old v : Int} (h0 : 0 ≤ a) (h1 : a < M.n) : (M.swS a old v).t = M.t + 1 := by unfold Ms.swS; rw [if_pos (inn_iff.2 ⟨h0, h1⟩)]; rfl
theorem pin_lt {c : Cf} (hr : c.right = true) {who : Int} (h0 : 0 ≤ who) (h1 : who < c.C) : Cf.pin c who = 4 + who ∧ 4 + who + 5 ≤ c.size := by
  have hb := size_bd hr
  have hr' := right_iff.1 hr
  refine ⟨by unfold Cf.pin; rw [if_pos ⟨hr, h0, h1⟩], ?_⟩
  have : slotsV c.C c.H ≥ 4 + c.C := by
    unfold slotsV
    have := Int.mul_nonneg (show 0 ≤ c.C by omega) (show 0 ≤ c.H + 2 by omega)
    have e : c.C * (1 + c.H + 2) = c.C + c.C * (c.H + 2) := by rw [show 1 + c.H + 2 = 1 + (c.H + 2) by omega, Int.mul_add, Int.mul_one]
    omega
  unfold Cf.size
  omega
section
variable {c : Cf} (hr : c.right = true) {w : World} {p m b n T : Nat} {M : Ms} (hM : MemB w m b M) (hf : Fine M n T) (hn : (n : Int) = c.size) (hT : T ≤ 1000000) (np : ¬ two m b p)
include hr hM hf hn hT np
theorem n8 : 9 ≤ n ∧ n ≤ 800 := by have := size_bd hr; unfold Cf.size at hn; omega
theorem okk : Ok M := hf.ok (by have := n8 hr hM hf hn hT np; omega) (by omega)
theorem in1 : (0 : Int) ≤ 1 ∧ (1 : Int) < M.n := by have := n8 hr hM hf hn hT np; rw [hf.n]; omega
variable {ee pa nx nw wh k : Int}
theorem pnA (hp : PinB w p ee pa 0) : Calls Try.prog 33 #[.pointer (some ⟨p, 0, none⟩), .pointer (some ⟨m, 0, none⟩)] w fun e w' =>
    e = .returned (.bool false) ∧ ∃ M', PinB w' p (M.f 1) pa 1 ∧ MemB w' m b M' ∧ M'.f = M.f ∧ M'.t = M.t + 1 ∧ Fine M' n (T + 1) ∧ Fr (three p m b) w w' := by
  obtain ⟨i0, i1⟩ := in1 hr hM hf hn hT np
  refine (pin_0 c w p m b M hM (okk hr hM hf hn hT np) np ee pa hp).mono ?_
  rintro e w' ⟨rfl, a1, a2, a3⟩
  rw [ld_v i0 i1] at a1
  exact ⟨rfl, _, a1, a2, (ld_f M 1).1, ld_t i0 i1, hf.ld 1, a3⟩
theorem pnB (hk : 0 ≤ k ∧ k < c.C) (hp : PinB w p ee (4 + k) 1) : Calls Try.prog 33 #[.pointer (some ⟨p, 0, none⟩), .pointer (some ⟨m, 0, none⟩)] w fun e w' =>
    e = .returned (.bool false) ∧ ∃ M', PinB w' p ee (4 + k) 2 ∧ MemB w' m b M' ∧ M'.f = upd M.f (4 + k).toNat (pinV ee) ∧ M'.t = M.t + 1 ∧ Fine M' n (T + 1) ∧ Fr (three p m b) w w' := by
  have hv := pinV_bd ee
  have hl := pin_lt hr hk.1 hk.2
  have i0 : 0 ≤ 4 + k := by omega
  have i1 : 4 + k < M.n := by rw [hf.n, hn]; omega
  refine (pin_1 c w p m b M hM (okk hr hM hf hn hT np) np ee (4 + k) hp).mono ?_
  rintro e w' ⟨rfl, a1, a2, a3⟩
  exact ⟨rfl, _, a1, a2, (st_f i0 i1).1, st_t i0 i1, hf.st _ hv.1 hv.2, a3⟩
theorem pnC (he : M.f 1 = ee) (hp : PinB w p ee pa 2) : Calls Try.prog 33 #[.pointer (some ⟨p, 0, none⟩), .pointer (some ⟨m, 0, none⟩)] w fun e w' =>
    e = .returned (.bool true) ∧ ∃ M', PinB w' p ee pa 3 ∧ MemB w' m b M' ∧ M'.f = M.f ∧ M'.t = M.t + 1 ∧ Fine M' n (T + 1) ∧ Fr (three p m b) w w' := by
  obtain ⟨i0, i1⟩ := in1 hr hM hf hn hT np
  refine (pin_2a c w p m b M hM (okk hr hM hf hn hT np) np ee pa (by rw [ld_v i0 i1]; exact he) hp).mono ?_
  rintro e w' ⟨rfl, a1, a2, a3⟩
  exact ⟨rfl, _, a1, a2, (ld_f M 1).1, ld_t i0 i1, hf.ld 1, a3⟩
theorem pnC' (he : M.f 1 ≠ ee) (hp : PinB w p ee pa 2) : Calls Try.prog 33 #[.pointer (some ⟨p, 0, none⟩), .pointer (some ⟨m, 0, none⟩)] w fun e w' =>
    e = .returned (.bool false) ∧ ∃ M', PinB w' p (M.f 1) pa 1 ∧ MemB w' m b M' ∧ M'.f = M.f ∧ M'.t = M.t + 1 ∧ Fine M' n (T + 1) ∧ Fr (three p m b) w w' := by
  obtain ⟨i0, i1⟩ := in1 hr hM hf hn hT np
  refine (pin_2b c w p m b M hM (okk hr hM hf hn hT np) np ee pa (by rw [ld_v i0 i1]; exact he) hp).mono ?_
  rintro e w' ⟨rfl, a1, a2, a3⟩
  rw [ld_v i0 i1] at a1
  exact ⟨rfl, _, a1, a2, (ld_f M 1).1, ld_t i0 i1, hf.ld 1, a3⟩
theorem pnD (hp : PinB w p ee pa 3) : Calls Try.prog 33 #[.pointer (some ⟨p, 0, none⟩), .pointer (some ⟨m, 0, none⟩)] w fun e w' =>
    e = .returned (.bool true) ∧ PinB w' p ee pa 3 ∧ MemB w' m b M ∧ Fr (three p m b) w w' :=
  pin_3 c w p m b M hM (okk hr hM hf hn hT np) np ee pa hp
theorem lvA (hk : 0 ≤ k ∧ k < c.C) (hp : LevB w p (4 + k) false) : Calls Try.prog 40 #[.pointer (some ⟨p, 0, none⟩), .pointer (some ⟨m, 0, none⟩)] w fun e w' =>
    e = .returned (.bool true) ∧ ∃ M', LevB w' p (4 + k) true ∧ MemB w' m b M' ∧ M'.f = upd M.f (4 + k).toNat 0 ∧ M'.t = M.t + 1 ∧ Fine M' n (T + 1) ∧ Fr (three p m b) w w' := by
  have hl := pin_lt hr hk.1 hk.2
  have i0 : 0 ≤ 4 + k := by omega
  have i1 : 4 + k < M.n := by rw [hf.n, hn]; omega
  refine (lev_0 c w p m b M hM (okk hr hM hf hn hT np) np (4 + k) hp).mono ?_
  rintro e w' ⟨rfl, a1, a2, a3⟩
  exact ⟨rfl, _, a1, a2, (st_f i0 i1).1, st_t i0 i1, hf.st _ (by decide) (by decide), a3⟩
theorem lvD (hp : LevB w p pa true) : Calls Try.prog 40 #[.pointer (some ⟨p, 0, none⟩), .pointer (some ⟨m, 0, none⟩)] w fun e w' =>
    e = .returned (.bool true) ∧ LevB w' p pa true ∧ MemB w' m b M ∧ Fr (three p m b) w w' :=
  lev_1 c w p m b M hM (okk hr hM hf hn hT np) np pa hp
theorem adS (hp : AdvB w p c ee nw wh 0) : Calls Try.prog 41 #[.pointer (some ⟨p, 0, none⟩), .pointer (some ⟨m, 0, none⟩)] w fun e w' =>
    e = .returned (.bool false) ∧ ∃ M', AdvB w' p c ee (M.f 1) 0 1 ∧ MemB w' m b M' ∧ M'.f = M.f ∧ M'.t = M.t + 1 ∧ Fine M' n (T + 1) ∧ Fr (three p m b) w w' := by
  obtain ⟨i0, i1⟩ := in1 hr hM hf hn hT np
  refine (adv_0 c w p m b M hM (okk hr hM hf hn hT np) np ee nw wh hp).mono ?_
  rintro e w' ⟨rfl, a1, a2, a3⟩
  rw [ld_v i0 i1] at a1
  exact ⟨rfl, _, a1, a2, (ld_f M 1).1, ld_t i0 i1, hf.ld 1, a3⟩
theorem adN (hk : 0 ≤ wh ∧ wh < c.C) (h : M.f (4 + wh).toNat = 0 ∨ M.f (4 + wh).toNat = pinV nw) (hp : AdvB w p c ee nw wh 1) : Calls Try.prog 41 #[.pointer (some ⟨p, 0, none⟩), .pointer (some ⟨m, 0, none⟩)] w fun e w' =>
    e = .returned (.bool false) ∧ ∃ M', AdvB w' p c ee nw (wh + 1) (if wh + 1 = c.C then 2 else 1) ∧ MemB w' m b M' ∧ M'.f = M.f ∧ M'.t = M.t + 1 ∧ Fine M' n (T + 1) ∧ Fr (three p m b) w w' := by
  have hl := pin_lt hr hk.1 hk.2
  have hC := right_iff.1 hr
  have i0 : 0 ≤ 4 + wh := by omega
  have i1 : 4 + wh < M.n := by rw [hf.n, hn]; omega
  have hv : M.ldV (Cf.pin c wh) = M.f (4 + wh).toNat := by rw [hl.1]; exact ld_v i0 i1
  have key : ∀ {z : Int}, (Calls Try.prog 41 #[.pointer (some ⟨p, 0, none⟩), .pointer (some ⟨m, 0, none⟩)] w fun e w' => e = .returned (.bool false) ∧ Blk w' p 54 (advA c ee nw (wh + 1) z) ∧ MemB w' m b (M.ldS (Cf.pin c wh)) ∧ Fr (three p m b) w w') → z = (if wh + 1 = c.C then 2 else 1) → Calls Try.prog 41 #[.pointer (some ⟨p, 0, none⟩), .pointer (some ⟨m, 0, none⟩)] w fun e w' =>
      e = .returned (.bool false) ∧ ∃ M', AdvB w' p c ee nw (wh + 1) (if wh + 1 = c.C then 2 else 1) ∧ MemB w' m b M' ∧ M'.f = M.f ∧ M'.t = M.t + 1 ∧ Fine M' n (T + 1) ∧ Fr (three p m b) w w' := by
    intro z hc hz
    subst hz
    refine hc.mono ?_
    rintro e w' ⟨rfl, a1, a2, a3⟩
    exact ⟨rfl, _, a1, a2, (ld_f M _).1, by rw [hl.1]; exact ld_t i0 i1, hf.ld _, a3⟩
  have ok := okk hr hM hf hn hT np
  by_cases h0 : M.f (4 + wh).toNat = 0
  · by_cases hz : wh + 1 = c.C
    · exact key (adv_1az c w p m b M hM ok np ee nw wh hk.1 hk.2 (by omega) (by rw [hv]; exact h0) hz hp) (by rw [if_pos hz])
    · exact key (adv_1a c w p m b M hM ok np ee nw wh hk.1 hk.2 (by omega) (by rw [hv]; exact h0) hz hp) (by rw [if_neg hz])
  · have h1 := h.resolve_left h0
    by_cases hz : wh + 1 = c.C
    · exact key (adv_1bz c w p m b M hM ok np ee nw wh hk.1 hk.2 (by omega) (by rw [hv]; exact h0) (by rw [hv]; exact h1) hz hp) (by rw [if_pos hz])
    · exact key (adv_1b c w p m b M hM ok np ee nw wh hk.1 hk.2 (by omega) (by rw [hv]; exact h0) (by rw [hv]; exact h1) hz hp) (by rw [if_neg hz])
theorem adB (hk : 0 ≤ wh ∧ wh < c.C) (h : ¬ (M.f (4 + wh).toNat = 0 ∨ M.f (4 + wh).toNat = pinV nw)) (hp : AdvB w p c ee nw wh 1) : Calls Try.prog 41 #[.pointer (some ⟨p, 0, none⟩), .pointer (some ⟨m, 0, none⟩)] w fun e w' =>
    e = .returned (.bool false) ∧ ∃ M', AdvB w' p c ee nw wh 1 ∧ MemB w' m b M' ∧ M'.f = M.f ∧ M'.t = M.t + 1 ∧ Fine M' n (T + 1) ∧ Fr (three p m b) w w' := by
  have hl := pin_lt hr hk.1 hk.2
  have hC := right_iff.1 hr
  have i0 : 0 ≤ 4 + wh := by omega
  have i1 : 4 + wh < M.n := by rw [hf.n, hn]; omega
  have hv : M.ldV (Cf.pin c wh) = M.f (4 + wh).toNat := by rw [hl.1]; exact ld_v i0 i1
  refine (adv_1c c w p m b M hM (okk hr hM hf hn hT np) np ee nw wh hk.1 hk.2 (by omega) (by rw [hv]; exact fun x => h (.inl x)) (by rw [hv]; exact fun x => h (.inr x)) hp).mono ?_
  rintro e w' ⟨rfl, a1, a2, a3⟩
  exact ⟨rfl, _, a1, a2, (ld_f M _).1, by rw [hl.1]; exact ld_t i0 i1, hf.ld _, a3⟩
theorem adW (h : M.f 1 = nw) (hp : AdvB w p c ee nw wh 2) : Calls Try.prog 41 #[.pointer (some ⟨p, 0, none⟩), .pointer (some ⟨m, 0, none⟩)] w fun e w' =>
    e = .returned (.bool true) ∧ ∃ M', AdvB w' p c ((nw + 1) % 18446744073709551616) nw wh 3 ∧ MemB w' m b M' ∧ M'.f = upd M.f 1 ((nw + 1) % 18446744073709551616) ∧ M'.t = M.t + 1 ∧ Fine M' n (T + 1) ∧ Fr (three p m b) w w' := by
  obtain ⟨i0, i1⟩ := in1 hr hM hf hn hT np
  obtain ⟨s1, s2, s3⟩ := sw_yes (M := M) (a := 1) (old := nw) (now := (nw + 1) % 18446744073709551616) i0 i1 h
  refine (adv_2a c w p m b M hM (okk hr hM hf hn hT np) np ee nw wh s1 hp).mono ?_
  rintro e w' ⟨rfl, a1, a2, a3⟩
  exact ⟨rfl, _, a1, a2, s2, sw_t i0 i1, hf.sw _ _ (by omega) (by omega), a3⟩
theorem adW' (h : M.f 1 ≠ nw) (hp : AdvB w p c ee nw wh 2) : Calls Try.prog 41 #[.pointer (some ⟨p, 0, none⟩), .pointer (some ⟨m, 0, none⟩)] w fun e w' =>
    e = .returned (.bool false) ∧ ∃ M', AdvB w' p c ee nw wh 0 ∧ MemB w' m b M' ∧ M'.f = M.f ∧ M'.t = M.t + 1 ∧ Fine M' n (T + 1) ∧ Fr (three p m b) w w' := by
  obtain ⟨i0, i1⟩ := in1 hr hM hf hn hT np
  obtain ⟨s1, s2, s3⟩ := sw_no (M := M) (a := 1) (old := nw) (now := (nw + 1) % 18446744073709551616) h
  refine (adv_2b c w p m b M hM (okk hr hM hf hn hT np) np ee nw wh s1 hp).mono ?_
  rintro e w' ⟨rfl, a1, a2, a3⟩
  exact ⟨rfl, _, a1, a2, s2, sw_t i0 i1, hf.sw _ _ (by omega) (by omega), a3⟩
theorem adD (hp : AdvB w p c ee nw wh 3) : Calls Try.prog 41 #[.pointer (some ⟨p, 0, none⟩), .pointer (some ⟨m, 0, none⟩)] w fun e w' =>
    e = .returned (.bool true) ∧ AdvB w' p c ee nw wh 3 ∧ MemB w' m b M ∧ Fr (three p m b) w w' :=
  adv_3 c w p m b M hM (okk hr hM hf hn hT np) np ee nw wh hp
end
theorem pin_nil (w : World) (v : Value) : Calls Try.prog 33 #[.pointer none, v] w fun e w' => e = .returned (.bool true) ∧ w = w' := by
  go_enter Try.func33, Try.ntmps33
  go_wp2
  go_ret
  exact ⟨rfl, rfl⟩
theorem lev_nil (w : World) (v : Value) : Calls Try.prog 40 #[.pointer none, v] w fun e w' => e = .returned (.bool true) ∧ w = w' := by
  go_enter Try.func40, Try.ntmps40
  go_wp2
  go_ret
  exact ⟨rfl, rfl⟩
theorem adv_nil (w : World) (v : Value) : Calls Try.prog 41 #[.pointer none, v] w fun e w' => e = .returned (.bool true) ∧ w = w' := by
  go_enter Try.func41, Try.ntmps41
  go_wp2
  go_ret
  exact ⟨rfl, rfl⟩
section
variable (c : Cf) (w : World)
theorem newPinC (h : c.right = true) (k : Int) (h0 : 0 ≤ k) (h1 : k < c.C) : Calls Try.prog 32 #[.agg #[.int .i64 c.S, .int .i64 c.A, .int .i64 c.C, .int .i64 c.H, .int .i64 c.G, .int .i64 c.K], .int .i64 k] w fun e w' =>
    ∃ p, e = .returned (.pointer (some ⟨p, 0, none⟩)) ∧ w.heap.size ≤ p ∧ PinB w' p 0 (4 + k) 0 ∧ Below w.heap.size w w' := by
  have hl := Lib.hid (pin_lt h h0 h1).1
  have hn : ¬ 4 + k < 0 := by omega
  go_enter Try.func32, Try.ntmps32
  go_wp2_with (go_at_call 36; refine (pinAtC c _ k).mono ?_; rintro e w1 ⟨rfl, hb⟩; rw [hl.out]; replace hb := Lib.hid (below_pre hb))
  go_ret
  have hs := hb.out.size
  exact ⟨w1.heap.size, rfl, hs, Blk.new w1 44 _, hb.out.alloc hs _⟩
theorem newPin_no (k : Int) (h : ¬ (c.right = true ∧ 0 ≤ k ∧ k < c.C)) : Calls Try.prog 32 #[.agg #[.int .i64 c.S, .int .i64 c.A, .int .i64 c.C, .int .i64 c.H, .int .i64 c.G, .int .i64 c.K], .int .i64 k] w fun e w' =>
    e = .returned (.pointer none) ∧ Below w.heap.size w w' := by
  have hl : Cf.pin c k = -1 := by unfold Cf.pin; rw [if_neg h]
  replace hl := Lib.hid hl
  clear h
  go_enter Try.func32, Try.ntmps32
  go_wp2_with (go_at_call 36; refine (pinAtC c _ k).mono ?_; rintro e w1 ⟨rfl, hb⟩; rw [hl.out]; replace hb := Lib.hid (below_pre hb))
  go_ret
  exact ⟨rfl, hb.out⟩
theorem newLevC (h : c.right = true) (k : Int) (h0 : 0 ≤ k) (h1 : k < c.C) : Calls Try.prog 38 #[.agg #[.int .i64 c.S, .int .i64 c.A, .int .i64 c.C, .int .i64 c.H, .int .i64 c.G, .int .i64 c.K], .int .i64 k] w fun e w' =>
    ∃ p, e = .returned (.pointer (some ⟨p, 0, none⟩)) ∧ w.heap.size ≤ p ∧ LevB w' p (4 + k) false ∧ Below w.heap.size w w' := by
  have hl := Lib.hid (pin_lt h h0 h1).1
  have hn : ¬ 4 + k < 0 := by omega
  go_enter Try.func38, Try.ntmps38
  go_wp2_with (go_at_call 36; refine (pinAtC c _ k).mono ?_; rintro e w1 ⟨rfl, hb⟩; rw [hl.out]; replace hb := Lib.hid (below_pre hb))
  go_ret
  have hs := hb.out.size
  exact ⟨w1.heap.size, rfl, hs, Blk.new w1 132 _, hb.out.alloc hs _⟩
theorem newLev_no (k : Int) (h : ¬ (c.right = true ∧ 0 ≤ k ∧ k < c.C)) : Calls Try.prog 38 #[.agg #[.int .i64 c.S, .int .i64 c.A, .int .i64 c.C, .int .i64 c.H, .int .i64 c.G, .int .i64 c.K], .int .i64 k] w fun e w' =>
    e = .returned (.pointer none) ∧ Below w.heap.size w w' := by
  have hl : Cf.pin c k = -1 := by unfold Cf.pin; rw [if_neg h]
  replace hl := Lib.hid hl
  clear h
  go_enter Try.func38, Try.ntmps38
  go_wp2_with (go_at_call 36; refine (pinAtC c _ k).mono ?_; rintro e w1 ⟨rfl, hb⟩; rw [hl.out]; replace hb := Lib.hid (below_pre hb))
  go_ret
  exact ⟨rfl, hb.out⟩
theorem newAdvC (h : c.right = true) : Calls Try.prog 39 #[.agg #[.int .i64 c.S, .int .i64 c.A, .int .i64 c.C, .int .i64 c.H, .int .i64 c.G, .int .i64 c.K]] w fun e w' =>
    ∃ p, e = .returned (.pointer (some ⟨p, 0, none⟩)) ∧ w.heap.size ≤ p ∧ AdvB w' p c 0 0 0 0 ∧ Below w.heap.size w w' := by
  have hf := Lib.hid (Blk.new w 23 #[.int .i64 c.S, .int .i64 c.A, .int .i64 c.C, .int .i64 c.H, .int .i64 c.G, .int .i64 c.K])
  replace h := Lib.hid h
  go_enter Try.func39, Try.ntmps39
  go_wp2_with (go_at_call 66; refine (rightC c _).mono ?_; rintro e w1 ⟨rfl, hb⟩; rw [h.out]; have hf1 := hf.out.below hb hf.out.lt; obtain ⟨k0, k1, k2, k3, k4, k5⟩ := cfgs hf1; replace hb := Lib.hid (below_pre hb); clear hf1)
  go_ret
  have hs := hb.out.size
  exact ⟨w1.heap.size, rfl, hs, Blk.new w1 54 _, hb.out.alloc hs _⟩
theorem newAdv_no (h : c.right = false) : Calls Try.prog 39 #[.agg #[.int .i64 c.S, .int .i64 c.A, .int .i64 c.C, .int .i64 c.H, .int .i64 c.G, .int .i64 c.K]] w fun e w' =>
    e = .returned (.pointer none) ∧ Below w.heap.size w w' := by
  have hf := Lib.hid (Blk.new w 23 #[.int .i64 c.S, .int .i64 c.A, .int .i64 c.C, .int .i64 c.H, .int .i64 c.G, .int .i64 c.K])
  replace h := Lib.hid h
  go_enter Try.func39, Try.ntmps39
  go_wp2_with (go_at_call 66; refine (rightC c _).mono ?_; rintro e w1 ⟨rfl, hb⟩; rw [h.out]; replace hb := Lib.hid (below_pre hb))
  go_ret
  exact ⟨rfl, hb.out⟩
end
end Go.Proofs.Ytijfkpoofpcacaa.EpochS
