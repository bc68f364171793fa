/-
  A slice of structs, or of numbers, that is handed in: its cells, one by one. No program.
-/
import Derived.Deep.Slices
import Derived.Deep.Fields
import Derived.ChangeSame
import Derived.ChangeShapes
import Derived.SizedLaws
import Derived.Below
import Derived.RowKit
namespace Go.Proofs.Ytijfkpoofpcacaa.Opens
open Go.ChangeShapes Go.WideShapes Go.Deep Go.RowKit
/-- n rows of m cells each. -/
def Sl (w : World) (A : Option Addr) (n m : Nat) (V : Nat → Nat → Value) : Prop := 0 < n → ∃ b off, A = some ⟨b, off, none⟩ ∧ b < w.heap.size ∧ ∀ i, i < n → ∀ j, j < m → w.cell? ⟨b, off + i * m + j, none⟩ = some (V i j)
theorem cell_lt {w : World} {b i : Nat} {v : Value} (h : w.cell? ⟨b, i, none⟩ = some v) : b < w.heap.size := by
  rcases Nat.lt_or_ge b w.heap.size with hl | hl
  · exact hl
  · simp [World.cell?, Array.getElem?_eq_none hl] at h
theorem Sl.below {w w' : World} {A n m V} {N : Nat} (h : Sl w A n m V) (hb : Below N w w') (hN : w.heap.size ≤ N) : Sl w' A n m V := by
  intro hn
  obtain ⟨b, off, e, hl, hc⟩ := h hn
  refine ⟨b, off, e, Nat.lt_of_lt_of_le hl hb.size, fun i hi j hj => ?_⟩
  rw [hb.cell (p := ⟨b, off + i * m + j, none⟩) (Nat.lt_of_lt_of_le hl hN)]
  exact hc i hi j hj
theorem Sl.at_ {w : World} {A n m V} (h : Sl w A n m V) {i : Nat} (hi : i < n) : ∃ b off, A = some ⟨b, off, none⟩ ∧ ∀ j, j < m → w.cell? ⟨b, off + i * m + j, none⟩ = some (V i j) := by
  obtain ⟨b, off, e, _, hc⟩ := h (by omega)
  exact ⟨b, off, e, hc i hi⟩
theorem Sl.num {w : World} {A n} {k : IntKind} {f : Nat → Int} (h : Sl w A n 1 (fun i _ => .int k (f i))) {i : Nat} (hi : i < n) : ∃ b off, A = some ⟨b, off, none⟩ ∧ b < w.heap.size ∧ w.cell? ⟨b, off + i, none⟩ = some (.int k (f i)) := by
  obtain ⟨b, off, e, hl, hc⟩ := h (by omega)
  have := hc i hi 0 (by decide)
  rw [Nat.mul_one] at this
  exact ⟨b, off, e, hl, this⟩
theorem Sl.congr {w : World} {A n m V V'} (h : Sl w A n m V) (he : ∀ i, i < n → ∀ j, j < m → V i j = V' i j) : Sl w A n m V' := by
  intro hn
  obtain ⟨b, off, e, hl, hc⟩ := h hn
  exact ⟨b, off, e, hl, fun i hi j hj => by rw [← he i hi j hj]; exact hc i hi j hj⟩
section
variable {H : Type} {enc : TypeId × Value → H} {P : Program} {W : World} {base : Nat} {spare : Nat → Bool} {held : Bool}
theorem open_rows {t e : TypeId} {fs : Array Field} {A : Option Addr} {len cap : Nat} {d : DataW H} {ps : List MemPlace} {ts : List TypeId} {ds : List (DataW H)} {jj : Nat}
    (ht : P.underlying t = some (.slice e)) (hs : P.underlying e = some (.struct fs)) (hone : ∀ (i : Nat) (f : Field), fs[i]? = some f → f.offset = i ∧ P.cellsOf f.type = 1) (hC : P.cellsOf e = fs.size) (hpos : 0 < fs.size)
    (hsz : (DataW.weightsEach P ts ds).all (· ≤ reachBytes) = true) (hts : ts[jj]? = some t) (hds : ds[jj]? = some d) (h : DataW.Trod enc P W base spare held t (.slice A len cap) d ps) :
    len ≤ cap ∧ len * P.bytesOf e ≤ reachBytes ∧ ∃ V : Nat → Nat → Value, Sl W A len fs.size V ∧ ∀ i, i < len → ∀ j f, fs[j]? = some f → ∃ n y, DataW.trod enc P W base spare held n f.type [V i j] = some y := by
  obtain ⟨fuel, hf⟩ := h
  rcases open_slice ht hf with ⟨hcs, _⟩ | ⟨x, l, c, m, n, D, Pl, hcs, _, hl, hm, hmm, hx, hall⟩
  · simp [Value.cells] at hcs
    obtain ⟨rfl, rfl, rfl⟩ := hcs
    exact ⟨Nat.le_refl _, by simp, fun _ _ => undef, fun h => absurd h (by decide), fun i hi => absurd hi (by omega)⟩
  · simp [Value.cells] at hcs
    obtain ⟨rfl, rfl, rfl⟩ := hcs
    have hlm : len ≤ m := by rw [hmm]; split <;> omega
    obtain ⟨hd, _⟩ := Prod.mk.inj hx
    subst hd
    have z := sized_slice hsz hts hds ht
    simp only [List.length_map, List.length_range] at z
    refine ⟨hl, Nat.le_trans (Nat.mul_le_mul_right _ (by omega)) z, ?_⟩
    have each : ∀ i, i < m → ∃ V : Nat → Value, (∀ j, j < fs.size → W.cell? ((x.add (i * fs.size)).add j) = some (V j)) ∧ ∀ j f, fs[j]? = some f → ∃ n y, DataW.trod enc P W base spare held n f.type [V j] = some y := by
      intro i hi
      obtain ⟨cs', h1, h2⟩ := hall i hi
      rw [hC] at h1
      obtain ⟨_, hlen, hcell⟩ := World.cells?_some h1
      obtain ⟨xs, k, hk, hxy, _, hxl, hff⟩ := DataW.trod_struct hs h2
      refine ⟨fun j => cs'.getD j undef, fun j hj => ?_, fun j f hfj => ?_⟩
      · have := hcell j hj
        rw [this]
        simp [List.getD, List.getElem?_eq_getElem (show j < cs'.length by omega)]
      · have hlt : j < fs.size := (Array.getElem?_eq_some_iff.1 hfj).1
        obtain ⟨ho, hc1⟩ := hone j f hfj
        have g := hff j f hfj
        rw [ho, hc1] at g
        rw [take1_drop cs' j undef (by omega), List.getElem?_eq_getElem (by omega)] at g
        exact ⟨k, _, g⟩
    obtain ⟨V, hV⟩ := choose_lt each
    refine ⟨V, fun hn => ?_, fun i hi => (hV i (by omega)).2⟩
    have c0 := (hV 0 (by omega)).1 0 hpos
    obtain ⟨b, o, spot⟩ := x
    have hspot : spot = none := by simpa [Addr.add] using World.cell?_spot c0
    subst hspot
    refine ⟨b, o, rfl, ?_, fun i hi j hj => ?_⟩
    · rw [add_plain, add_plain] at c0
      exact cell_lt c0
    · have := (hV i (by omega)).1 j hj
      rwa [add_plain, add_plain] at this
theorem open_nums {t e : TypeId} {k : IntKind} {A : Option Addr} {len cap : Nat} {d : DataW H} {ps : List MemPlace} {ts : List TypeId} {ds : List (DataW H)} {jj : Nat}
    (ht : P.underlying t = some (.slice e)) (hs : P.underlying e = some (.int k)) (hC : P.cellsOf e = 1)
    (hsz : (DataW.weightsEach P ts ds).all (· ≤ reachBytes) = true) (hts : ts[jj]? = some t) (hds : ds[jj]? = some d) (h : DataW.Trod enc P W base spare held t (.slice A len cap) d ps) :
    len ≤ cap ∧ len * P.bytesOf e ≤ reachBytes ∧ ∃ q : Nat → Int, Sl W A len 1 (fun i _ => .int k (q i)) ∧ ∀ i, i < len → (Lit.int k (q i)).wf = true := by
  obtain ⟨fuel, hf⟩ := h
  rcases open_slice1 ht hC hf with ⟨hcs, _⟩ | ⟨x, l, c, m, n, V, D, Pl, hcs, _, hl, hm, hmm, hx, hall⟩
  · simp [Value.cells] at hcs
    obtain ⟨rfl, rfl, rfl⟩ := hcs
    exact ⟨Nat.le_refl _, by simp, fun _ => 0, fun h => absurd h (by decide), fun i hi => absurd hi (by omega)⟩
  · simp [Value.cells] at hcs
    obtain ⟨rfl, rfl, rfl⟩ := hcs
    have hlm : len ≤ m := by rw [hmm]; split <;> omega
    obtain ⟨hd, _⟩ := Prod.mk.inj hx
    subst hd
    have z := sized_slice hsz hts hds ht
    simp only [List.length_map, List.length_range] at z
    refine ⟨hl, Nat.le_trans (Nat.mul_le_mul_right _ (by omega)) z, ?_⟩
    have each : ∀ i, i < m → ∃ q : Int, W.cell? (x.add i) = some (.int k q) ∧ (Lit.int k q).wf = true := by
      intro i hi
      obtain ⟨h1, h2⟩ := hall i hi
      obtain ⟨n1, h3, _, hw⟩ := DataW.trod_int hs h2
      refine ⟨n1, ?_, hw⟩
      rw [h1]
      simpa using h3
    obtain ⟨q, hq⟩ := choose_lt each
    refine ⟨q, fun hn => ?_, fun i hi => (hq i (by omega)).2⟩
    have c0 := (hq 0 (by omega)).1
    obtain ⟨b, o, spot⟩ := x
    have hspot : spot = none := by simpa [Addr.add] using World.cell?_spot c0
    subst hspot
    refine ⟨b, o, rfl, ?_, fun i hi j hj => ?_⟩
    · rw [add_plain] at c0
      exact cell_lt c0
    · have := (hq i (by omega)).1
      rw [add_plain] at this
      obtain rfl : j = 0 := by omega
      rw [Nat.mul_one]
      exact this
end
end Go.Proofs.Ytijfkpoofpcacaa.Opens
