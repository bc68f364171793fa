/-
  Proved here: for every list of values the law WordPacks returns true and leaves its arguments as they were; no condition.
-/
import Derived.Test.YtfbdkdhpmpeipaaRows
import Derived.Test.YtfbdkdhpmpeipaaWordQ
import Derived.Deep.SlicePairs
import Derived.WalkKit
import Derived.ProofKit
import Derived.OpenShut
import Derived.ChangeOld
import Derived.Below
import Derived.SizedLaws
import Derived.Test.YtfbdkdhpmpeipaaWSized
namespace Go.Proofs.Ytfbdkdhpmpeipaa.WordPacksRow
open Go.ChangeShapes Go.WideShapes Go.ChangeAt Go.RowKit Go.Proofs.YtfbdkdhpmpeipaaW.PrintWords
theorem own : ownKnob Try.prog.godebug = none := by kernel_rfl
theorem laidOut : laidOutB Try.prog = true := by kernel_rfl
open Go.Proofs.Ytfbdkdhpmpeipaa.PTagHandles Go.Deep
instance : Inhabited Int := ⟨0⟩
theorem bits_row {H : Type} {enc : TypeId × Value → H} {W : World} {base : Nat} {spare : Nat → Bool} {held : Bool} {a : Option Addr} {len cap : Nat} {d : DataW H} {ps : List MemPlace} {ts : List TypeId} {ds : List (DataW H)} {j : Nat}
    (hsz : (DataW.weightsEach Try.prog ts ds).all (· ≤ reachBytes) = true) (ht : ts[j]? = some 31) (hd : ds[j]? = some d) (h : DataW.Trod enc Try.prog W base spare held 31 (.slice a len cap) d ps) :
    ∃ l : List S36, len = l.length ∧ Kd.C k36 W a l.length l ∧ l.length ≤ cap ∧ len * 16 ≤ 140737488351232 ∧ ∀ i, i < l.length → 0 ≤ (rd_T36 l (i : Int)).f1 ∧ (rd_T36 l (i : Int)).f1 < 18446744073709551616 := by
  obtain ⟨fuel, hf⟩ := h
  rcases open_slice_pairs Try.underlying31 Try.underlying36 (by kernel_rfl) rfl rfl (by kernel_rfl) (by kernel_rfl) hf with ⟨hcs, _⟩ | ⟨x, l, c, m, n, V0, V1, D0, D1, P0, P1, hcs, _, hl, hm, hmm, hx, hall⟩
  · simp [Value.cells] at hcs
    obtain ⟨rfl, rfl, rfl⟩ := hcs
    exact ⟨[], rfl, ⟨rfl, by decide, fun h => absurd h (by decide)⟩, Nat.le_refl _, by decide, fun i h => absurd h (by simp)⟩
  · simp [Value.cells] at hcs
    obtain ⟨rfl, rfl, rfl⟩ := hcs
    have hlm : len ≤ m := by rw [hmm]; split <;> omega
    have e0 : ∀ i, i < m → ∃ q : Int × Int, V0 i = .int .i64 q.1 ∧ V1 i = .int .u64 q.2 ∧ (Lit.int .u64 q.2).wf = true := by
      intro i hi
      obtain ⟨_, _, t0, t1⟩ := hall i hi
      obtain ⟨n0, h0, _, _⟩ := DataW.trod_int Try.underlying3 t0
      obtain ⟨n1, h1, _, hw⟩ := DataW.trod_int Try.underlying22 t1
      exact ⟨(n0, n1), by simpa using h0, by simpa using h1, hw⟩
    obtain ⟨q, hq⟩ := choose_lt e0
    have hget : ∀ i, i < len → ((List.range len).map (fun i => (⟨(q i).1, (q i).2⟩ : S36)))[i]? = some ⟨(q i).1, (q i).2⟩ := by
      intro i hi
      rw [List.getElem?_map, List.getElem?_range hi]; rfl
    have hll : ((List.range len).map (fun i => (⟨(q i).1, (q i).2⟩ : S36))).length = len := by simp
    refine ⟨(List.range len).map (fun i => ⟨(q i).1, (q i).2⟩), hll.symm, ?_, by omega, ?_, fun i hi => ?_⟩
    · rw [hll]
      refine ⟨hll, ?_, fun _ => ⟨x, rfl, fun i p hp => ?_⟩⟩
      · have : maxLen ≤ 9223372036854775807 := by decide
        omega
      · have hi : i < len := by
          have := (List.getElem?_eq_some_iff.1 hp).1
          rwa [hll] at this
        rw [hget i hi] at hp
        obtain rfl := Option.some.inj hp
        obtain ⟨c0, c1, _, _⟩ := hall i (by omega)
        obtain ⟨v0, v1, _⟩ := hq i (by omega)
        refine ⟨[.int .i64 (q i).1, .int .u64 (q i).2], rfl, ⟨[.int .i64 (q i).1], [.int .u64 (q i).2], rfl, rfl, rfl⟩, fun k u hk => ?_⟩
        match k, hk with
        | 0, hk =>
          obtain rfl := Option.some.inj hk
          rw [← v0]
          exact c0
        | 1, hk =>
          obtain rfl := Option.some.inj hk
          rw [← v1]
          exact c1
    · obtain ⟨hx, _⟩ := Prod.mk.inj hx
      subst hx
      have z := sized_slice hsz ht hd Try.underlying31
      have hb : Try.prog.bytesOf 36 = 16 := by kernel_rfl
      rw [hb] at z
      simp only [List.length_map, List.length_range] at z
      have : reachBytes = 140737488351232 := by decide
      omega
    · rw [hll] at hi
      have e : rd_T36 ((List.range len).map (fun i => (⟨(q i).1, (q i).2⟩ : S36))) (i : Int) = ⟨(q i).1, (q i).2⟩ := by
        unfold rd_T36
        rw [Int.toNat_natCast, List.getD_eq_getElem?_getD, hget i hi]; rfl
      rw [e]
      exact Core.wf_u64 (hq i (by omega)).2.2
set_option maxRecDepth 100000 in
theorem lifted (os : Os) (started : os.Started) (H : Type) (enc : TypeId × Value → H) :
    ReturnsInHanded {} Try.checked os 7 .any (Rows.wordPacksSpec.pre6 enc Try.prog Try.f7 Rows.wordPacksRow.domain false) (Rows.wordPacksSpec.post enc Try.prog Try.f7 false true false false) := by
  refine returnsInHanded_of_change_sized (C := Try.checked) own started (by kernel_rfl) Try.func7
    (ChangeSpec.witness6 (enc := enc) (C := Try.checked) false ⟨#[], #[.slice none 0 0], []⟩ 8 (by kernel_rfl) (by kernel_rfl) (by kernel_rfl) (by kernel_rfl)) ?_
  intro W base args ds gs before hval0 hW hcnd hsz0 _
  have hsz : (DataW.weightsEach Try.prog (Try.f7.params.toList ++ Rows.wordPacksSpec.plain.varTypes Try.prog) (ds ++ gs)).all (· ≤ reachBytes) = true := hsz0
  have hval : ∀ (j : Nat) t v, Try.f7.params[j]? = some t → args[j]? = some v → Value.okWide Try.prog W .any base t v := hval0
  have hW' := hW
  obtain ⟨p, q, hA0, hV, rfl, hfz, hnd⟩ := hW
  have hA : DataW.TrodAll enc Try.prog W 0 (fun _ => true) true Try.f7.params.toList args.toList ds p := hA0
  rw [Try.params7] at hA hval hsz
  obtain ⟨v0, vs0, d0, ds0, p0, q0, hargs, rfl, rfl, h0, r0⟩ := trodAll_cons hA
  obtain ⟨rfl, rfl, rfl⟩ := trodAll_nil r0
  obtain rfl : args = #[v0] := by cases args; simp_all
  obtain ⟨rfl, rfl⟩ := trodVars_none hV
  obtain ⟨a0, len0, cap0, rfl⟩ := okWide_slice Try.underlying31 (hval 0 31 v0 rfl rfl)
  have k0 := h0
  have lt0 : ∀ x ∈ p0, x.block < W.heap.size := by obtain ⟨m, hm⟩ := k0; exact DataW.trod_lt m _ _ _ hm
  obtain ⟨l0, rfl, hC, hc0, hn0, hv0⟩ := bits_row hsz (j := 0) rfl rfl h0
  have hv1 : ∀ b ∈ l0, 0 ≤ b.f1 ∧ b.f1 < 18446744073709551616 := by
    intro b hb
    obtain ⟨i, hi, rfl⟩ := List.getElem_of_mem hb
    have := hv0 i hi
    have e : rd_T36 l0 (i : Int) = l0[i] := by
      unfold rd_T36
      rw [Int.toNat_natCast, List.getD_eq_getElem?_getD, List.getElem?_eq_getElem hi]; rfl
    rwa [e] at this
  clear hA0 hval0 hsz0 hsz
  refine (WordC.packs_c a0 cap0 l0 (by omega) hv0 hv1 W hC hc0).mono fun e W' ⟨he, bel⟩ => ?_
  subst he
  exact ⟨_, rfl, _, _, _, [], _, [], hW', trodAll_mk1 (shut_bool Try.underlying4 _), (trodAll_cons_mk (Below.trod laidOut (by kernel_rfl) (of_decide_eq_true (by kernel_rfl)) k0 bel lt0) trodAll_mk0), rfl, bel.frame _, fun h => by cases h⟩
end Go.Proofs.Ytfbdkdhpmpeipaa.WordPacksRow
namespace Go.Proofs.Ytfbdkdhpmpeipaa
theorem wordPacks_holds : Rows.WordPacksSaid :=
  OpenClaim.holds_of_wide 7 Try.f7 rfl rfl rfl rfl rfl rfl rfl ⟨rfl, rfl, rfl, rfl, rfl⟩ rfl rfl rfl rfl rfl (by kernel_rfl) Try.func7 (by kernel_rfl)
    (of_decide_eq_true (by kernel_rfl)) (by unfold Func.isWrapper; first | (rw [if_pos (by decide +kernel)]; kernel_rfl) | (rw [if_neg (by decide +kernel)]; exact ⟨rfl, rfl⟩))
    (fun os started H enc _ => WordPacksRow.lifted os started H enc)
#print axioms wordPacks_holds
end Go.Proofs.Ytfbdkdhpmpeipaa
