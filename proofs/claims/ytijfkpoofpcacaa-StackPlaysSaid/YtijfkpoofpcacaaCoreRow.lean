/-
  An argument that is a struct of one-cell fields, by value: its cells, each with its own reading; a struct of six ints; a header.
-/
import Derived.Deep.Fields
import Derived.ChangeSame
import Derived.WideShapes
import Derived.ChangeArms
import Derived.RowKit
namespace Go.Proofs.Ytijfkpoofpcacaa.CoreRow
open Go.ChangeShapes Go.WideShapes Go.RowKit Go.Deep
section
variable {H : Type} {enc : TypeId × Value → H} {P : Program} {w : World} {base : Nat} {spare : Nat → Bool} {held : Bool}
theorem open_cells {r : Reach} {b0 : Nat} {t : TypeId} {fs : Array Field} {v : Value} {d : DataW H} {p : List MemPlace} (hs : P.underlying t = some (.struct fs)) (hone : oneCellFields P fs = true) (hC : P.cellsOf t = fs.size)
    (hv : Value.okWide P w r b0 t v) (h : DataW.Trod enc P w base spare held t v d p) :
    ∃ cs : List Value, v = .agg cs.toArray ∧ cs.length = fs.size ∧ ∀ (j : Nat) (f : Field), fs[j]? = some f → ∃ (n : Nat) (y : DataW H × List MemPlace), DataW.trod enc P w base spare held n f.type [cs.getD j undef] = some y := by
  obtain ⟨⟨cs⟩, rfl, hsz⟩ := okWide_struct hs hv
  obtain ⟨fuel, hf⟩ := h
  obtain ⟨xs, n, _, hx, _, hlen, hg⟩ := DataW.trod_struct hs hf
  have hcl : cs.length = fs.size := hsz.trans hC
  refine ⟨cs, rfl, hcl, fun j f hj => ?_⟩
  obtain ⟨ho, hk⟩ := hone_of hone j f hj
  have hjl : j < fs.size := (Array.getElem?_eq_some_iff.1 hj).1
  have h1 := hg j f hj
  rw [ho, hk] at h1
  have e := take1_drop cs j undef (by omega)
  have h2 : DataW.trod enc P w base spare held n f.type [cs.getD j undef] = xs[j]? := by rw [← e]; exact h1
  exact ⟨n, _, h2.trans (List.getElem?_eq_getElem (by omega))⟩
theorem cell_int {fs : Array Field} {cs : List Value} {k : IntKind} {ti : TypeId} (hi : P.underlying ti = some (.int k)) (hg : ∀ (j : Nat) (f : Field), fs[j]? = some f → ∃ (n : Nat) (y : DataW H × List MemPlace), DataW.trod enc P w base spare held n f.type [cs.getD j undef] = some y)
    (j : Nat) (ht : (fs.map (·.type))[j]? = some ti) : ∃ a : Int, cs.getD j undef = .int k a ∧ (Lit.int k a).wf = true := by
  rw [Array.getElem?_map] at ht
  obtain ⟨f, hf, ht⟩ := Option.map_eq_some_iff.1 ht
  obtain ⟨n, y, hy⟩ := hg j f hf
  rw [ht] at hy
  obtain ⟨a, ha, _, hw⟩ := DataW.trod_int hi hy
  exact ⟨a, (List.cons.inj ha).1, hw⟩
theorem cell_bool {fs : Array Field} {cs : List Value} {ti : TypeId} (hi : P.underlying ti = some .bool) (hg : ∀ (j : Nat) (f : Field), fs[j]? = some f → ∃ (n : Nat) (y : DataW H × List MemPlace), DataW.trod enc P w base spare held n f.type [cs.getD j undef] = some y)
    (j : Nat) (ht : (fs.map (·.type))[j]? = some ti) : ∃ a : Bool, cs.getD j undef = .bool a := by
  rw [Array.getElem?_map] at ht
  obtain ⟨f, hf, ht⟩ := Option.map_eq_some_iff.1 ht
  obtain ⟨n, y, hy⟩ := hg j f hf
  rw [ht] at hy
  obtain ⟨a, ha, _⟩ := DataW.trod_bool hi hy
  exact ⟨a, (List.cons.inj ha).1⟩
/-- A struct of six ints. -/
theorem open_ints6 {r : Reach} {b0 : Nat} {t ti : TypeId} {fs : Array Field} {v : Value} {d : DataW H} {p : List MemPlace} (hs : P.underlying t = some (.struct fs)) (hi : P.underlying ti = some (.int .i64)) (hone : oneCellFields P fs = true) (hC : P.cellsOf t = fs.size) (h6 : fs.map (·.type) = #[ti, ti, ti, ti, ti, ti])
    (hv : Value.okWide P w r b0 t v) (h : DataW.Trod enc P w base spare held t v d p) :
    ∃ a0 a1 a2 a3 a4 a5 : Int, v = .agg #[.int .i64 a0, .int .i64 a1, .int .i64 a2, .int .i64 a3, .int .i64 a4, .int .i64 a5] ∧ (Lit.int .i64 a0).wf = true ∧ (Lit.int .i64 a1).wf = true ∧ (Lit.int .i64 a2).wf = true ∧ (Lit.int .i64 a3).wf = true ∧ (Lit.int .i64 a4).wf = true ∧ (Lit.int .i64 a5).wf = true := by
  obtain ⟨cs, rfl, hl, hg⟩ := open_cells hs hone hC hv h
  have h6' : fs.size = 6 := by have := congrArg Array.size h6; simpa using this
  obtain ⟨a0, e0, w0⟩ := cell_int hi hg 0 (by rw [h6]; rfl)
  obtain ⟨a1, e1, w1⟩ := cell_int hi hg 1 (by rw [h6]; rfl)
  obtain ⟨a2, e2, w2⟩ := cell_int hi hg 2 (by rw [h6]; rfl)
  obtain ⟨a3, e3, w3⟩ := cell_int hi hg 3 (by rw [h6]; rfl)
  obtain ⟨a4, e4, w4⟩ := cell_int hi hg 4 (by rw [h6]; rfl)
  obtain ⟨a5, e5, w5⟩ := cell_int hi hg 5 (by rw [h6]; rfl)
  refine ⟨a0, a1, a2, a3, a4, a5, ?_, w0, w1, w2, w3, w4, w5⟩
  rw [h6'] at hl
  match cs, hl with
  | [c0, c1, c2, c3, c4, c5], _ =>
    simp at e0 e1 e2 e3 e4 e5
    subst e0 e1 e2 e3 e4 e5
    rfl
/-- A header: two ints, a bool, three ints. -/
theorem open_header {r : Reach} {b0 : Nat} {t ti tb : TypeId} {fs : Array Field} {v : Value} {d : DataW H} {p : List MemPlace} (hs : P.underlying t = some (.struct fs)) (hi : P.underlying ti = some (.int .i64)) (hb : P.underlying tb = some .bool) (hone : oneCellFields P fs = true) (hC : P.cellsOf t = fs.size) (h6 : fs.map (·.type) = #[ti, ti, tb, ti, ti, ti])
    (hv : Value.okWide P w r b0 t v) (h : DataW.Trod enc P w base spare held t v d p) :
    ∃ (a0 a1 : Int) (a2 : Bool) (a3 a4 a5 : Int), v = .agg #[.int .i64 a0, .int .i64 a1, .bool a2, .int .i64 a3, .int .i64 a4, .int .i64 a5] ∧ (Lit.int .i64 a0).wf = true ∧ (Lit.int .i64 a1).wf = true ∧ (Lit.int .i64 a3).wf = true ∧ (Lit.int .i64 a4).wf = true ∧ (Lit.int .i64 a5).wf = true := by
  obtain ⟨cs, rfl, hl, hg⟩ := open_cells hs hone hC hv h
  have h6' : fs.size = 6 := by have := congrArg Array.size h6; simpa using this
  obtain ⟨a0, e0, w0⟩ := cell_int hi hg 0 (by rw [h6]; rfl)
  obtain ⟨a1, e1, w1⟩ := cell_int hi hg 1 (by rw [h6]; rfl)
  obtain ⟨a2, e2⟩ := cell_bool hb hg 2 (by rw [h6]; rfl)
  obtain ⟨a3, e3, w3⟩ := cell_int hi hg 3 (by rw [h6]; rfl)
  obtain ⟨a4, e4, w4⟩ := cell_int hi hg 4 (by rw [h6]; rfl)
  obtain ⟨a5, e5, w5⟩ := cell_int hi hg 5 (by rw [h6]; rfl)
  refine ⟨a0, a1, a2, a3, a4, a5, ?_, w0, w1, w3, w4, w5⟩
  rw [h6'] at hl
  match cs, hl with
  | [c0, c1, c2, c3, c4, c5], _ =>
    simp at e0 e1 e2 e3 e4 e5
    subst e0 e1 e2 e3 e4 e5
    rfl
end
end Go.Proofs.Ytijfkpoofpcacaa.CoreRow
