/-
  A slice of booleans that is handed in: its cells, one by one. No program.
-/
import Derived.Test.YtijfkpoofpcacaaOpen
import Derived.ChangeArms
namespace Go.Proofs.Ytijfkpoofpcacaa.Opens
open Go.ChangeShapes Go.WideShapes Go.Deep Go.RowKit
section
variable {H : Type} {enc : TypeId × Value → H} {P : Program} {W : World} {base : Nat} {spare : Nat → Bool} {held : Bool}
theorem open_bools {t e : TypeId} {A : Option Addr} {len cap : Nat} {d : DataW H} {ps : List MemPlace} {ts : List TypeId} {ds : List (DataW H)} {jj : Nat}
    (ht : P.underlying t = some (.slice e)) (hs : P.underlying e = some .bool) (hC : P.cellsOf e = 1)
    (hsz : (DataW.weightsEach P ts ds).all (· ≤ reachBytes) = true) (hts : ts[jj]? = some t) (hds : ds[jj]? = some d) (h : DataW.Trod enc P W base spare held t (.slice A len cap) d ps) :
    len ≤ cap ∧ len * P.bytesOf e ≤ reachBytes ∧ ∃ q : Nat → Bool, Sl W A len 1 (fun i _ => .bool (q i)) := by
  obtain ⟨fuel, hf⟩ := h
  rcases open_slice1 ht hC hf with ⟨hcs, _⟩ | ⟨x, l, c, m, n, V, D, Pl, hcs, _, hl, hm, hmm, hx, hall⟩
  · simp [Value.cells] at hcs
    obtain ⟨rfl, rfl, rfl⟩ := hcs
    exact ⟨Nat.le_refl _, by simp, fun _ => false, fun h => absurd h (by decide)⟩
  · simp [Value.cells] at hcs
    obtain ⟨rfl, rfl, rfl⟩ := hcs
    have hlm : len ≤ m := by rw [hmm]; split <;> omega
    obtain ⟨hd, _⟩ := Prod.mk.inj hx
    subst hd
    have z := sized_slice hsz hts hds ht
    simp only [List.length_map, List.length_range] at z
    refine ⟨hl, Nat.le_trans (Nat.mul_le_mul_right _ (by omega)) z, ?_⟩
    have each : ∀ i, i < m → ∃ q : Bool, W.cell? (x.add i) = some (.bool q) := by
      intro i hi
      obtain ⟨h1, h2⟩ := hall i hi
      obtain ⟨n1, h3, _⟩ := DataW.trod_bool hs h2
      refine ⟨n1, ?_⟩
      rw [h1]
      simpa using h3
    obtain ⟨q, hq⟩ := choose_lt each
    refine ⟨q, fun hn => ?_⟩
    have c0 := (hq 0 (by omega))
    obtain ⟨b, o, spot⟩ := x
    have hspot : spot = none := by simpa [Addr.add] using World.cell?_spot c0
    subst hspot
    refine ⟨b, o, rfl, ?_, fun i hi j hj => ?_⟩
    · rw [add_plain] at c0
      exact cell_lt c0
    · have := (hq i (by omega))
      rw [add_plain] at this
      obtain rfl : j = 0 := by omega
      rw [Nat.mul_one]
      exact this
end
end Go.Proofs.Ytijfkpoofpcacaa.Opens
