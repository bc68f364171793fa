/-
  Contracts of layers 5 to 7 by the printed functions (plan.Header, plan.Link of any slot, tag.Moved, stack.first, stack.linked, a config made right); condition: the numbers' kinds.
-/
import Derived.Test.YtijfkpoofpcacaaPlanC
import Derived.Test.YtijfkpoofpcacaaPvArenaPlays
set_option linter.unusedVariables false
namespace Go.Proofs.Ytijfkpoofpcacaa.PlanD
open Go.RowKit Go.Proofs.Ytijfkpoofpcacaa.PArenaPlays Go.Proofs.YtijfkpoofpcacaaW.PrintWords Go.Proofs.Ytijfkpoofpcacaa.Blk Go.Proofs.Ytijfkpoofpcacaa.Core Go.Proofs.Ytijfkpoofpcacaa.PuArenaPlays Go.Proofs.Ytijfkpoofpcacaa.PvArenaPlays Go.Proofs.Ytijfkpoofpcacaa.MemC Go.Proofs.Ytijfkpoofpcacaa.MemT Go.Proofs.Ytijfkpoofpcacaa.PlanC
/-- A config. -/
structure Cf where
  S : Int
  A : Int
  C : Int
  H : Int
  G : Int
  K : Int
def Cf.right (c : Cf) : Bool := rightB c.S c.A c.C c.H c.G c.K
def Cf.link (c : Cf) (s : Int) : Int := if c.right = true ∧ 0 ≤ s ∧ s < c.S then slotsV c.C c.H + s * roomV c.A + 1 else -1
def Cf.header (c : Cf) (s : Int) : Int := if c.right = true ∧ 0 ≤ s ∧ s < c.S then slotsV c.C c.H + s * roomV c.A else -1
def Cf.body (c : Cf) (s i : Int) : Int := if c.right = true ∧ 0 ≤ s ∧ s < c.S ∧ 0 ≤ i ∧ 2 + i < roomV c.A then slotsV c.C c.H + s * roomV c.A + (2 + i) else -1
def Cf.size (c : Cf) : Int := sizeV c.S c.A c.C c.H
def firstI (S x : Int) : Int := if S ≤ x % 65536 - 1 then -1 else x % 65536 - 1
def linkedI (S x : Int) : Int := if S < x then -1 else x - 1
section
variable (c : Cf) (w : World)
theorem rightC : Calls Try.prog 66 #[.agg #[.int .i64 c.S, .int .i64 c.A, .int .i64 c.C, .int .i64 c.H, .int .i64 c.G, .int .i64 c.K]] w fun e w' => e = .returned (.bool c.right) ∧ Below w.heap.size w w' := right_c _ _ _ _ _ _ w
theorem rRightC : Calls Try.prog 21 #[.agg #[.int .i64 c.S, .int .i64 c.A, .int .i64 c.C, .int .i64 c.H, .int .i64 c.G, .int .i64 c.K]] w fun e w' => e = .returned (.bool c.right) ∧ Below w.heap.size w w' := rRight_c _ _ _ _ _ _ w
theorem sizeC (h : c.right = true) : Calls Try.prog 67 #[.agg #[.int .i64 c.S, .int .i64 c.A, .int .i64 c.C, .int .i64 c.H, .int .i64 c.G, .int .i64 c.K]] w fun e w' => e = .returned (.int .i64 c.size) ∧ Below w.heap.size w w' := size_yes _ _ _ _ _ _ w h
theorem linkC (s : Int) : Calls Try.prog 69 #[.agg #[.int .i64 c.S, .int .i64 c.A, .int .i64 c.C, .int .i64 c.H, .int .i64 c.G, .int .i64 c.K], .int .i64 s] w fun e w' => e = .returned (.int .i64 (c.link s)) ∧ Below w.heap.size w w' :=
  plan_Link.calls 1 _ _ _ _ _ _ s _ w (p_pLink 1 c.S c.A c.C c.H c.G c.K s (by decide))
theorem headerC (s : Int) : Calls Try.prog 72 #[.agg #[.int .i64 c.S, .int .i64 c.A, .int .i64 c.C, .int .i64 c.H, .int .i64 c.G, .int .i64 c.K], .int .i64 s] w fun e w' => e = .returned (.int .i64 (c.header s)) ∧ Below w.heap.size w w' :=
  plan_Header.calls 1 _ _ _ _ _ _ s _ w (p_pHeader 1 c.S c.A c.C c.H c.G c.K s (by decide))
theorem bodyC (s i : Int) : Calls Try.prog 85 #[.agg #[.int .i64 c.S, .int .i64 c.A, .int .i64 c.C, .int .i64 c.H, .int .i64 c.G, .int .i64 c.K], .int .i64 s, .int .i64 i] w fun e w' => e = .returned (.int .i64 (c.body s i)) ∧ Below w.heap.size w w' :=
  plan_Body.calls 1 _ _ _ _ _ _ s i _ w (p_pBody 1 c.S c.A c.C c.H c.G c.K s i (by decide))
theorem firstC (x : Int) (x0 : 0 ≤ x) (x1 : x < 18446744073709551616) : Calls Try.prog 75 #[.agg #[.int .i64 c.S, .int .i64 c.A, .int .i64 c.C, .int .i64 c.H, .int .i64 c.G, .int .i64 c.K], .int .u64 x] w fun e w' => e = .returned (.int .i64 (firstI c.S x)) ∧ Below w.heap.size w w' :=
  stack_first.calls _ _ _ _ _ _ x _ w (by
    unfold stack_first.f firstI
    rw [p_TopParts x x0 x1, Option.bind_some]
    show (if x % 65536 - 1 ≥ c.S then some (-1) else some (x % 65536 - 1)) = _
    by_cases h : c.S ≤ x % 65536 - 1
    · rw [if_pos h, if_pos h]
    · rw [if_neg h, if_neg h])
theorem linkedC (h : c.right = true) (x : Int) (x0 : 0 ≤ x) (x1 : x < 18446744073709551616) : Calls Try.prog 76 #[.agg #[.int .i64 c.S, .int .i64 c.A, .int .i64 c.C, .int .i64 c.H, .int .i64 c.G, .int .i64 c.K], .int .u64 x] w fun e w' => e = .returned (.int .i64 (linkedI c.S x)) ∧ Below w.heap.size w w' :=
  stack_linked.calls _ _ _ _ _ _ x _ w (by
    have hr := right_iff.1 h
    unfold stack_linked.f linkedI
    rw [wrap_u64_id c.S (by omega) (by omega)]
    by_cases h : c.S < x
    · rw [if_pos h, if_pos h]
    · rw [if_neg h, if_neg h, wrap64_id x (by omega) (by omega), wrap64_id _ (by omega) (by omega)])
theorem movedC (x s : Int) (x0 : 0 ≤ x) (x1 : x < 18446744073709551616) : Calls Try.prog 83 #[.int .u64 x, .int .i64 s] w fun e w' => e = .returned (.int .u64 (movedV x s)) ∧ Below w.heap.size w w' :=
  tag_Moved.calls 5 x s _ w (p_Moved 5 x s (by decide) x0 x1)
end
theorem movedV_bd (x s : Int) (x0 : 0 ≤ x) : 0 ≤ movedV x s ∧ movedV x s < 18446744073709551616 := by
  unfold movedV
  split <;> omega
theorem firstI_bd (S x : Int) : -1 ≤ firstI S x ∧ (0 ≤ S → firstI S x < S) := by
  unfold firstI
  split <;> omega
/-- What Fit makes. -/
def Cf.small (c : Cf) : Prop := (1 ≤ c.S ∧ c.S ≤ 12) ∧ (0 ≤ c.A ∧ c.A ≤ 4) ∧ (1 ≤ c.C ∧ c.C ≤ 4) ∧ (1 ≤ c.H ∧ c.H ≤ 4) ∧ (1 ≤ c.G ∧ c.G ≤ 40) ∧ (0 ≤ c.K ∧ c.K ≤ 6)
theorem small_right {c : Cf} (h : c.small) : c.right = true := by
  unfold Cf.small at h
  unfold Cf.right
  rw [right_iff]; omega
theorem fit_f (a lo hi : Int) (h0 : 0 ≤ lo) (h1 : lo ≤ hi) (h2 : hi ≤ 100) : ∃ v, withyref06_fit.f a lo hi = some v ∧ lo ≤ v ∧ v ≤ hi := by
  unfold withyref06_fit.f
  have e1 : wrap64 (hi - lo) = hi - lo := wrap64_id _ (by omega) (by omega)
  have e2 : wrap64 (hi - lo + 1) = hi - lo + 1 := wrap64_id _ (by omega) (by omega)
  have e3 : IntKind.u64.wrap (hi - lo + 1) = hi - lo + 1 := wrap_u64_id _ (by omega) (by omega)
  have e4 : 0 ≤ IntKind.u64.wrap a := by rw [Core.wrap_u64]; omega
  rw [e1, e2, e3, if_neg (by omega), Int.tmod_eq_emod_of_nonneg e4]
  have h3 := Int.emod_nonneg (IntKind.u64.wrap a) (show hi - lo + 1 ≠ 0 by omega)
  have h4 := Int.emod_lt_of_pos (IntKind.u64.wrap a) (show 0 < hi - lo + 1 by omega)
  generalize IntKind.u64.wrap a % (hi - lo + 1) = r at *
  rw [wrap64_id r (by omega) (by omega), wrap64_id _ (by omega) (by omega)]
  exact ⟨_, rfl, by omega, by omega⟩
theorem fitC (a : Cf) (w : World) : Calls Try.prog 31 #[.agg #[.int .i64 a.S, .int .i64 a.A, .int .i64 a.C, .int .i64 a.H, .int .i64 a.G, .int .i64 a.K]] w fun e w' => ∃ c : Cf, e = .returned (.agg #[.int .i64 c.S, .int .i64 c.A, .int .i64 c.C, .int .i64 c.H, .int .i64 c.G, .int .i64 c.K]) ∧ c.small ∧ Below w.heap.size w w' := by
  obtain ⟨v0, e0, h0⟩ := fit_f a.S 1 12 (by omega) (by omega) (by omega)
  obtain ⟨v1, e1, h1⟩ := fit_f a.A 0 4 (by omega) (by omega) (by omega)
  obtain ⟨v2, e2, h2⟩ := fit_f a.C 1 4 (by omega) (by omega) (by omega)
  obtain ⟨v3, e3, h3⟩ := fit_f a.H 1 4 (by omega) (by omega) (by omega)
  obtain ⟨v4, e4, h4⟩ := fit_f a.G 1 40 (by omega) (by omega) (by omega)
  obtain ⟨v5, e5, h5⟩ := fit_f a.K 0 6 (by omega) (by omega) (by omega)
  refine (withyref06_Fit.calls a.S a.A a.C a.H a.G a.K v0 v1 v2 v3 v4 v5 w (by unfold withyref06_Fit.f; simp [e0, e1, e2, e3, e4, e5])).mono ?_
  rintro e w' ⟨rfl, hb⟩
  exact ⟨⟨v0, v1, v2, v3, v4, v5⟩, rfl, ⟨h0, h1, h2, h3, h4, h5⟩, hb⟩
end Go.Proofs.Ytijfkpoofpcacaa.PlanD
