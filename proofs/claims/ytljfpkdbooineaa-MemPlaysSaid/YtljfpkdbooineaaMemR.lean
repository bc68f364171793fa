/-
  Rows of acts that are handed in (for the statements of layer 2). No condition beyond the reading's own.
-/
import Derived.Test.YtljfpkdbooineaaMemN
set_option linter.unusedVariables false
namespace Go.Proofs.Ytljfpkdbooineaa.MemR
open Go.ChangeShapes Go.WideShapes Go.Deep Go.RowKit Go.Proofs.Ytljfpkdbooineaa.MemN Go.Proofs.Ytljfpkdbooineaa.Opens
theorem wf64 {n : Int} (h : (Lit.int .u64 n).wf = true) : 0 ≤ n ∧ n < 18446744073709551616 := Core.wf_u64 h
theorem wf8 {n : Int} (h : (Lit.int .u8 n).wf = true) : 0 ≤ n ∧ n < 256 := by
  simp [Lit.wf, IntKind.min, IntKind.max, IntKind.signed, IntKind.bits] at h
  omega
section
variable {H : Type} {enc : TypeId × Value → H} {W : World} {base : Nat} {spare : Nat → Bool} {held : Bool}
theorem pick_num {t : TypeId} {k : IntKind} {n : Nat} {v : Value} {y : DataW H × List MemPlace} (ht : Try.prog.underlying t = some (.int k)) (h : DataW.trod enc Try.prog W base spare held n t [v] = some y) : ∃ x : Int, v = .int k x ∧ (Lit.int k x).wf = true := by
  obtain ⟨n1, h3, _, hw⟩ := DataW.trod_int ht h
  exact ⟨n1, by simpa using h3, hw⟩
theorem acts_row {A : Option Addr} {len cap : Nat} {d : DataW H} {ps : List MemPlace} {ts : List TypeId} {ds : List (DataW H)} {jj : Nat}
    (hsz : (DataW.weightsEach Try.prog ts ds).all (· ≤ reachBytes) = true) (hts : ts[jj]? = some 31) (hds : ds[jj]? = some d) (h : DataW.Trod enc Try.prog W base spare held 31 (.slice A len cap) d ps) :
    len ≤ cap ∧ ∃ q, Acts W A len q := by
  obtain ⟨hl, hz, V, hS, hT⟩ := open_rows Try.underlying31 Try.underlying35 (hone_of (by kernel_rfl)) (by kernel_rfl) (by decide) hsz hts hds h
  have e : ∀ i, i < len → ∃ a : A4, V i 0 = .int .i64 a.k ∧ V i 1 = .int .i64 a.a ∧ V i 2 = .int .u64 a.x ∧ V i 3 = .int .u64 a.y ∧ (0 ≤ a.x ∧ a.x < 18446744073709551616) ∧ (0 ≤ a.y ∧ a.y < 18446744073709551616) := by
    intro i hi
    obtain ⟨n0, y0, h0⟩ := hT i hi 0 _ rfl
    obtain ⟨n1, y1, h1⟩ := hT i hi 1 _ rfl
    obtain ⟨n2, y2, h2⟩ := hT i hi 2 _ rfl
    obtain ⟨n3, y3, h3⟩ := hT i hi 3 _ rfl
    obtain ⟨x0, e0, _⟩ := pick_num Try.underlying3 h0
    obtain ⟨x1, e1, _⟩ := pick_num Try.underlying3 h1
    obtain ⟨x2, e2, w2⟩ := pick_num Try.underlying26 h2
    obtain ⟨x3, e3, w3⟩ := pick_num Try.underlying26 h3
    exact ⟨⟨x0, x1, x2, x3⟩, e0, e1, e2, e3, wf64 w2, wf64 w3⟩
  haveI : Inhabited A4 := ⟨⟨0, 0, 0, 0⟩⟩
  obtain ⟨q, hq⟩ := choose_lt e
  refine ⟨hl, q, ⟨hS.congr fun i hi j hj => ?_, fun i hi => (hq i hi).2.2.2.2.1, fun i hi => (hq i hi).2.2.2.2.2, ?_⟩⟩
  · have := hq i hi
    match j, hj with
    | 0, _ => exact this.1
    | 1, _ => exact this.2.1
    | 2, _ => exact this.2.2.1
    | 3, _ => exact this.2.2.2.1
  · have hb : Try.prog.bytesOf 35 = 32 := by kernel_rfl
    rw [hb] at hz
    have : reachBytes = 140737488351232 := by decide
    omega
theorem words_row {A : Option Addr} {len cap : Nat} {d : DataW H} {ps : List MemPlace} {ts : List TypeId} {ds : List (DataW H)} {jj : Nat}
    (hsz : (DataW.weightsEach Try.prog ts ds).all (· ≤ reachBytes) = true) (hts : ts[jj]? = some 22) (hds : ds[jj]? = some d) (h : DataW.Trod enc Try.prog W base spare held 22 (.slice A len cap) d ps) :
    len ≤ cap ∧ len ≤ 1152921504606846976 ∧ ∃ f : Nat → Int, Sl W A len 1 (fun i _ => .int .u64 (f i)) ∧ ∀ i, i < len → 0 ≤ f i ∧ f i < 18446744073709551616 := by
  obtain ⟨hl, hz, f, hS, hw⟩ := open_nums Try.underlying22 Try.underlying26 (by kernel_rfl) hsz hts hds h
  refine ⟨hl, ?_, f, hS, fun i hi => wf64 (hw i hi)⟩
  have hb : Try.prog.bytesOf 26 = 8 := by kernel_rfl
  rw [hb] at hz
  have : reachBytes = 140737488351232 := by decide
  omega
end
end Go.Proofs.Ytljfpkdbooineaa.MemR
