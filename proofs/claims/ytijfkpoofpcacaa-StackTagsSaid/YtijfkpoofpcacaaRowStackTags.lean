/-
  Proved here: for every input the law StackTags returns true and leaves its arguments as they were; no condition.
-/
import Derived.Test.YtijfkpoofpcacaaRows
import Derived.Test.YtijfkpoofpcacaaStackJ
import Derived.Test.YtijfkpoofpcacaaOpenB
import Derived.Test.YtijfkpoofpcacaaCoreRow
import Derived.WalkKit
import Derived.ProofKit
import Derived.OpenShut
import Derived.ChangeOld
import Derived.Below
import Derived.SizedLaws
namespace Go.Proofs.Ytijfkpoofpcacaa.StackTagsRow
open Go.ChangeShapes Go.WideShapes Go.ChangeAt Go.RowKit
set_option linter.unusedVariables false
theorem own : ownKnob Try.prog.godebug = none := by kernel_rfl
theorem laidOut : laidOutB Try.prog = true := by kernel_rfl
set_option maxRecDepth 100000 in
theorem lifted (os : Os) (started : os.Started) (H : Type) (enc : TypeId × Value → H) :
    ReturnsInHanded {} Try.checked os 12 .any (Rows.stackTagsSpec.pre6 enc Try.prog Try.f12 Rows.stackTagsRow.domain false) (Rows.stackTagsSpec.post enc Try.prog Try.f12 false true false false) := by
  refine returnsInHanded_of_change_sized (C := Try.checked) own started (by kernel_rfl) Try.func12
    (ChangeSpec.witness6 (enc := enc) (C := Try.checked) false ⟨#[], #[.agg #[.int .i64 0, .int .i64 0, .int .i64 0, .int .i64 0, .int .i64 0, .int .i64 0], .slice none 0 0], []⟩ 8 (by kernel_rfl) (by kernel_rfl) (by kernel_rfl) (by kernel_rfl)) ?_
  intro W base args ds gs before hval0 hW hcnd hsz0 _
  have hsz : (DataW.weightsEach Try.prog (Try.f12.params.toList ++ Rows.stackTagsSpec.plain.varTypes Try.prog) (ds ++ gs)).all (· ≤ reachBytes) = true := hsz0
  have hval : ∀ (j : Nat) t v, Try.f12.params[j]? = some t → args[j]? = some v → Value.okWide Try.prog W .any base t v := hval0
  have hW' := hW
  obtain ⟨p, q, hA0, hV, rfl, hfz, hnd⟩ := hW
  have hA : DataW.TrodAll enc Try.prog W 0 (fun _ => true) true Try.f12.params.toList args.toList ds p := hA0
  rw [Try.params12] at hA hval hsz
  obtain ⟨v0, vs0, d0, ds0, p0, q0, hargs, rfl, rfl, h0, r0⟩ := trodAll_cons hA
  obtain ⟨v1, vs1, d1, ds1, p1, q1, rfl, rfl, rfl, h1, r1⟩ := trodAll_cons r0
  obtain ⟨rfl, rfl, rfl⟩ := trodAll_nil r1
  obtain rfl : args = #[v0, v1] := by cases args; simp_all
  obtain ⟨rfl, rfl⟩ := trodVars_none hV
  have k0 := h0
  have lt0 : ∀ x ∈ p0, x.block < W.heap.size := by obtain ⟨m, hm⟩ := k0; exact DataW.trod_lt m _ _ _ hm
  have k1 := h1
  have lt1 : ∀ x ∈ p1, x.block < W.heap.size := by obtain ⟨m, hm⟩ := k1; exact DataW.trod_lt m _ _ _ hm
  obtain ⟨c0, c1, c2, c3, c4, c5, rfl, cw0, cw1, cw2, cw3, cw4, cw5⟩ := CoreRow.open_ints6 (t := 23) (ti := 3) Try.underlying23 Try.underlying3 (by kernel_rfl) (by kernel_rfl) (by simp) (hval 0 23 v0 rfl rfl) h0
  obtain ⟨a1, n1, s1, rfl⟩ := okWide_slice Try.underlying69 (hval 1 69 v1 rfl rfl)
  obtain ⟨hl1, hz1, f1, hS1⟩ := Opens.open_bools Try.underlying69 Try.underlying4 (by kernel_rfl) hsz (jj := 1) rfl rfl h1
  have hy1 : n1 ≤ 140737488355328 := by
    have hb : Try.prog.bytesOf 4 = 1 := by kernel_rfl
    rw [hb] at hz1
    have : reachBytes = 140737488351232 := by decide
    omega
  refine (StackJ.tagsC ⟨c0, c1, c2, c3, c4, c5⟩ W a1 n1 s1 f1 hl1 hS1 hy1).mono fun e W' ⟨he, bel⟩ => ?_
  subst he
  exact ⟨_, rfl, _, _, _, [], _, [], hW', trodAll_mk1 (shut_bool Try.underlying4 _), (trodAll_cons_mk (Below.trod laidOut (by kernel_rfl) (of_decide_eq_true (by kernel_rfl)) k0 bel lt0) (trodAll_cons_mk (Below.trod laidOut (by kernel_rfl) (of_decide_eq_true (by kernel_rfl)) k1 bel lt1) trodAll_mk0)), rfl, bel.frame _, fun h => by cases h⟩
end Go.Proofs.Ytijfkpoofpcacaa.StackTagsRow
namespace Go.Proofs.Ytijfkpoofpcacaa
theorem stackTags_holds : Rows.StackTagsSaid :=
  OpenClaim.holds_of_wide 12 Try.f12 rfl rfl rfl rfl rfl rfl rfl ⟨rfl, rfl, rfl, rfl, rfl⟩ rfl rfl rfl rfl rfl (by kernel_rfl) Try.func12 (by kernel_rfl)
    (of_decide_eq_true (by kernel_rfl)) (by unfold Func.isWrapper; first | (rw [if_pos (by decide +kernel)]; kernel_rfl) | (rw [if_neg (by decide +kernel)]; exact ⟨rfl, rfl⟩))
    (fun os started H enc _ => StackTagsRow.lifted os started H enc)
#print axioms stackTags_holds
end Go.Proofs.Ytijfkpoofpcacaa
