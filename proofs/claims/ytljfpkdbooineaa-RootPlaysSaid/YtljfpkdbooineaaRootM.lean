/-
  The law RootPlays's walk, all ways together; rows of acts that are handed in. No condition beyond the reading's own.
-/
import Derived.Test.YtljfpkdbooineaaRootK
set_option linter.unusedVariables false
namespace Go.Proofs.Ytljfpkdbooineaa.RootM
open Go.ChangeShapes Go.WideShapes Go.Deep Go.RowKit Go.Proofs.Ytljfpkdbooineaa.Core Go.Proofs.Ytljfpkdbooineaa.RootJ Go.Proofs.Ytljfpkdbooineaa.RootK Go.Proofs.Ytljfpkdbooineaa.Opens
theorem plays_c (c0 c1 c2 c3 c4 c5 who tag : Int) (AA : Option Addr) (len cap : Nat) (q : Nat → A3) (w : World) (hq : Acts3 w AA len q) (hc : len ≤ cap) (t0 : 0 ≤ tag) :
    Calls Try.prog 9 #[.agg #[.int .i64 c0, .int .i64 c1, .int .i64 c2, .int .i64 c3, .int .i64 c4, .int .i64 c5], .int .i64 who, .int .u64 tag, .slice AA len cap] w fun e w' => e = .returned (.bool true) ∧ Below w.heap.size w w' := by
  by_cases hl : len ≤ 200
  · by_cases hg : (rightB c0 c1 c2 c3 c4 c5 = true ∧ 0 ≤ who ∧ who < c2) ∧ tag ≤ 4294967295
    · have hr := right_iff.1 hg.1.1
      obtain ⟨n, rfl⟩ := Int.eq_ofNat_of_zero_le (show 0 ≤ c3 by omega)
      exact plays_in c0 c1 c2 c4 c5 who tag n AA len cap q w hq hc t0 hl hg
    · exact plays_bad c0 c1 c2 c3 c4 c5 who tag AA len cap w hc t0 (by omega) hg
  · exact plays_many c0 c1 c2 c3 c4 c5 who tag AA len cap w hc hq.big (by omega)
section
variable {H : Type} {enc : TypeId × Value → H} {W : World} {base : Nat} {spare : Nat → Bool} {held : Bool}
theorem pick_num {t : TypeId} {k : IntKind} {n : Nat} {v : Value} {y : DataW H × List MemPlace} (ht : Try.prog.underlying t = some (.int k)) (h : DataW.trod enc Try.prog W base spare held n t [v] = some y) : ∃ x : Int, v = .int k x ∧ (Lit.int k x).wf = true := by
  obtain ⟨n1, h3, _, hw⟩ := DataW.trod_int ht h
  exact ⟨n1, by simpa using h3, hw⟩
theorem acts_row {A : Option Addr} {len cap : Nat} {d : DataW H} {ps : List MemPlace} {ts : List TypeId} {ds : List (DataW H)} {jj : Nat}
    (hsz : (DataW.weightsEach Try.prog ts ds).all (· ≤ reachBytes) = true) (hts : ts[jj]? = some 57) (hds : ds[jj]? = some d) (h : DataW.Trod enc Try.prog W base spare held 57 (.slice A len cap) d ps) :
    len ≤ cap ∧ ∃ q, Acts3 W A len q := by
  obtain ⟨hl, hz, V, hS, hT⟩ := open_rows Try.underlying57 Try.underlying61 (hone_of (by kernel_rfl)) (by kernel_rfl) (by decide) hsz hts hds h
  have e : ∀ i, i < len → ∃ a : A3, V i 0 = .int .i64 a.k ∧ V i 1 = .int .i64 a.n ∧ V i 2 = .int .u64 a.r ∧ (0 ≤ a.r ∧ a.r < 18446744073709551616) ∧ (-9223372036854775808 ≤ a.n ∧ a.n < 9223372036854775808) := by
    intro i hi
    obtain ⟨n0, y0, h0⟩ := hT i hi 0 _ rfl
    obtain ⟨n1, y1, h1⟩ := hT i hi 1 _ rfl
    obtain ⟨n2, y2, h2⟩ := hT i hi 2 _ rfl
    obtain ⟨x0, e0, _⟩ := pick_num Try.underlying3 h0
    obtain ⟨x1, e1, w1⟩ := pick_num Try.underlying3 h1
    obtain ⟨x2, e2, w2⟩ := pick_num Try.underlying26 h2
    exact ⟨⟨x0, x1, x2⟩, e0, e1, e2, Core.wf_u64 w2, Core.wf_i64 w1⟩
  haveI : Inhabited A3 := ⟨⟨0, 0, 0⟩⟩
  obtain ⟨q, hq⟩ := choose_lt e
  refine ⟨hl, q, ⟨hS.congr fun i hi j hj => ?_, fun i hi => (hq i hi).2.2.2.1, fun i hi => (hq i hi).2.2.2.2, ?_⟩⟩
  · have := hq i hi
    match j, hj with
    | 0, _ => exact this.1
    | 1, _ => exact this.2.1
    | 2, _ => exact this.2.2.1
  · have hb : Try.prog.bytesOf 61 = 24 := by kernel_rfl
    rw [hb] at hz
    have : reachBytes = 140737488351232 := by decide
    omega
end
end Go.Proofs.Ytljfpkdbooineaa.RootM
