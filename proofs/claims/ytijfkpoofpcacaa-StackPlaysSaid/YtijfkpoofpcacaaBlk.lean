/-
  Blocks of cells that are a program's own: what a store, a new block, a drawing leave of them. No program.
-/
import Derived.Below
import Derived.RowKit3
import Derived.Deep.Draws
import Derived.Laws.Rows
import Derived.RowKit
namespace Go.Proofs.Ytijfkpoofpcacaa.Blk
open Go.RowKit
/-- Block b has just these cells, of this type, and nobody has frozen it. -/
def Blk (w : World) (b : Nat) (t : TypeId) (cs : Array Value) : Prop := w.heap[b]? = some (.cells cs t (0, 0))
theorem Blk.lt {w : World} {b t cs} (h : Blk w b t cs) : b < w.heap.size := by
  unfold Blk at h
  rcases Nat.lt_or_ge b w.heap.size with hl | hl
  · exact hl
  · rw [Array.getElem?_eq_none hl] at h; cases h
theorem Blk.cell {w : World} {b t cs} (h : Blk w b t cs) {i : Nat} {v : Value} (hv : cs[i]? = some v) : w.cell? ⟨b, i, none⟩ = some v := by
  unfold Blk at h
  simp [World.cell?, h, hv]
theorem Blk.frozen {w : World} {b t cs} (h : Blk w b t cs) (i : Nat) : w.frozen? ⟨b, i, none⟩ = false := by
  unfold Blk at h
  simp [World.frozen?, h]
theorem Blk.set {w : World} {b t cs} (h : Blk w b t cs) (i : Nat) (v : Value) : Blk (w.setCell ⟨b, i, none⟩ v) b t (cs.setIfInBounds i v) := by
  have hl := h.lt
  unfold Blk at h ⊢
  rw [Array.getElem?_eq_getElem hl] at h
  have h' := Option.some.inj h
  have hl' : b < (w.setCell ⟨b, i, none⟩ v).heap.size := by simpa [World.setCell] using hl
  rw [Array.getElem?_eq_getElem hl']
  congr 1
  simp only [World.setCell]
  rw [Array.getElem_modify_self, h']
  rfl
theorem Blk.other {w : World} {b t cs} (h : Blk w b t cs) (p : Addr) (hp : b ≠ p.block) (v : Value) : Blk (w.setCell p v) b t cs := by
  unfold Blk at h ⊢
  rw [Below.heap_setCell w p v b hp, h]
theorem Blk.below {w w' : World} {b t cs} {n : Nat} (h : Blk w b t cs) (hb : Below n w w') (hn : b < n) : Blk w' b t cs := by
  unfold Blk at h ⊢
  rw [hb.block b hn, h]
theorem Blk.drewN {w : World} {b t cs} (h : Blk w b t cs) (n : Nat) : Blk (w.drewN n) b t cs := h
theorem Blk.drew {w : World} {b t cs} (h : Blk w b t cs) : Blk w.drew b t cs := h
theorem Blk.alloc {w : World} {b t cs} (h : Blk w b t cs) (o : Obj) : Blk (w.alloc o) b t cs := by
  have hl := h.lt
  unfold Blk at h ⊢
  rw [Below.heap_alloc w o b hl, h]
theorem Blk.new (w : World) (t : TypeId) (cs : Array Value) : Blk (w.alloc (.cells cs t)) w.heap.size t cs := by
  unfold Blk
  rw [heap_alloc_new]
/-- A row of n numbers. -/
def rowF (k : IntKind) (n : Nat) (f : Nat → Int) : Array Value := (Array.range n).map (fun i => Value.int k (f i))
def upd (f : Nat → Int) (i : Nat) (x : Int) : Nat → Int := fun j => if j = i then x else f j
theorem rowF_get {k : IntKind} {n : Nat} {f : Nat → Int} {i : Nat} (h : i < n) : (rowF k n f)[i]? = some (.int k (f i)) := by
  simp [rowF, h]
theorem rowF_size (k : IntKind) (n : Nat) (f : Nat → Int) : (rowF k n f).size = n := by simp [rowF]
theorem rowF_none {k : IntKind} {n : Nat} {f : Nat → Int} {i : Nat} (h : ¬ i < n) : (rowF k n f)[i]? = none := by
  rw [Array.getElem?_eq_none]; rw [rowF_size]; omega
theorem rowF_set {k : IntKind} {n : Nat} {f : Nat → Int} {i : Nat} {x : Int} : (rowF k n f).setIfInBounds i (.int k x) = rowF k n (upd f i x) := by
  refine Array.ext_getElem? fun j => ?_
  rw [Array.getElem?_setIfInBounds, rowF_size]
  by_cases hj : j < n
  · rw [rowF_get (f := upd f i x) hj]
    by_cases c : i = j
    · subst c; rw [if_pos rfl, if_pos hj]; simp [upd]
    · rw [if_neg c, rowF_get hj]; unfold upd; rw [if_neg (fun h => c h.symm)]
  · rw [rowF_none (f := upd f i x) hj]
    by_cases c : i = j
    · subst c; rw [if_pos rfl, if_neg hj]
    · rw [if_neg c, rowF_none hj]
theorem rowF_congr {k : IntKind} {n : Nat} {f g : Nat → Int} (h : ∀ i, i < n → f i = g i) : rowF k n f = rowF k n g := by
  refine Array.ext (by simp [rowF]) fun j h1 h2 => ?_
  have hj : j < n := by simpa [rowF] using h1
  simp [rowF, h j hj]
/-- What is not in S, of the blocks that were there, is as it was. -/
structure Fr (S : Nat → Prop) (w w' : World) : Prop where
  os : w'.os = w.os
  tape : w'.tape = w.tape
  output : w'.output = w.output
  size : w.heap.size ≤ w'.heap.size
  keep : ∀ k, k < w.heap.size → ¬ S k → w'.heap[k]? = w.heap[k]?
theorem Fr.refl (S : Nat → Prop) (w : World) : Fr S w w := ⟨rfl, rfl, rfl, Nat.le_refl _, fun _ _ _ => rfl⟩
theorem Fr.trans {S : Nat → Prop} {a b c : World} (h : Fr S a b) (k : Fr S b c) : Fr S a c :=
  ⟨k.os.trans h.os, k.tape.trans h.tape, k.output.trans h.output, Nat.le_trans h.size k.size, fun i hi hs => (k.keep i (Nat.lt_of_lt_of_le hi h.size) hs).trans (h.keep i hi hs)⟩
theorem Fr.mono {S S' : Nat → Prop} {w w' : World} (h : Fr S w w') (hS : ∀ k, S k → S' k) : Fr S' w w' := ⟨h.os, h.tape, h.output, h.size, fun i hi hs => h.keep i hi (fun c => hs (hS i c))⟩
theorem Fr.set (S : Nat → Prop) (w : World) {p : Addr} (hp : S p.block) (v : Value) : Fr S w (w.setCell p v) := by
  refine ⟨rfl, rfl, rfl, ?_, fun k hk hs => ?_⟩
  · simp [World.setCell]
  · exact Below.heap_setCell w p v k (fun c => hs (by rw [c]; exact hp))
theorem Fr.alloc (S : Nat → Prop) (w : World) (o : Obj) : Fr S w (w.alloc o) := by
  refine ⟨rfl, rfl, rfl, ?_, fun k hk _ => Below.heap_alloc w o k hk⟩
  simp
theorem Fr.drewN (S : Nat → Prop) (w : World) (n : Nat) : Fr S w (w.drewN n) := ⟨rfl, rfl, rfl, Nat.le_refl _, fun _ _ _ => rfl⟩
theorem Fr.drew (S : Nat → Prop) (w : World) : Fr S w w.drew := ⟨rfl, rfl, rfl, Nat.le_refl _, fun _ _ _ => rfl⟩
theorem Fr.of_below {S : Nat → Prop} {w w' : World} {n : Nat} (h : Below n w w') (hn : ∀ k, k < w.heap.size → ¬ S k → k < n) : Fr S w w' := ⟨h.os, h.tape, h.output, h.size, fun k hk hs => h.block k (hn k hk hs)⟩
theorem Fr.below {S : Nat → Prop} {w w' : World} {n : Nat} (h : Fr S w w') (hn : ∀ k, k < n → k < w.heap.size ∧ ¬ S k) : Below n w w' := ⟨h.os, h.tape, h.output, h.size, fun k hk => h.keep k (hn k hk).1 (hn k hk).2⟩
theorem Blk.fr {S : Nat → Prop} {w w' : World} {b t cs} (h : Blk w b t cs) (hf : Fr S w w') (hb : ¬ S b) : Blk w' b t cs := by
  have hl := h.lt
  unfold Blk at h ⊢
  rw [hf.keep b hl hb, h]
end Go.Proofs.Ytijfkpoofpcacaa.Blk
