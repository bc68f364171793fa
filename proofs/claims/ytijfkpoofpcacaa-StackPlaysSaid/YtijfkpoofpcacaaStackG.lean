/-
  How a law of the layers from 7 on begins: a config made right lies in its block, a memory is made; a machine's blocks beside it. Condition: none beyond what is said.
-/
import Derived.Test.YtijfkpoofpcacaaStackQ
set_option linter.unusedVariables false
namespace Go.Proofs.Ytijfkpoofpcacaa.StackG
open Go.RowKit Go.Proofs.Ytijfkpoofpcacaa.Blk Go.Proofs.Ytijfkpoofpcacaa.Core Go.Proofs.Ytijfkpoofpcacaa.MemC Go.Proofs.Ytijfkpoofpcacaa.MemT Go.Proofs.Ytijfkpoofpcacaa.PlanC Go.Proofs.Ytijfkpoofpcacaa.PlanD Go.Proofs.Ytijfkpoofpcacaa.StackC
/-- A config's cells are written over. -/
def six (w : World) (b : Nat) (c : Cf) : World := (((((w.setCell ⟨b, 0, none⟩ (.int .i64 c.S)).setCell ⟨b, 1, none⟩ (.int .i64 c.A)).setCell ⟨b, 2, none⟩ (.int .i64 c.C)).setCell ⟨b, 3, none⟩ (.int .i64 c.H)).setCell ⟨b, 4, none⟩ (.int .i64 c.G)).setCell ⟨b, 5, none⟩ (.int .i64 c.K)
theorem six_blk {w : World} {b t : Nat} {c a : Cf} (h : Blk w b t #[.int .i64 a.S, .int .i64 a.A, .int .i64 a.C, .int .i64 a.H, .int .i64 a.G, .int .i64 a.K]) : Blk (six w b c) b t #[.int .i64 c.S, .int .i64 c.A, .int .i64 c.C, .int .i64 c.H, .int .i64 c.G, .int .i64 c.K] :=
  (((((h.set 0 _).set 1 _).set 2 _).set 3 _).set 4 _).set 5 _
theorem six_below {w0 w : World} {n b : Nat} {c : Cf} (h : Below n w0 w) (hb : n ≤ b) : Below n w0 (six w b c) :=
  (((((h.setCell (p := ⟨b, 0, none⟩) hb _).setCell (p := ⟨b, 1, none⟩) hb _).setCell (p := ⟨b, 2, none⟩) hb _).setCell (p := ⟨b, 3, none⟩) hb _).setCell (p := ⟨b, 4, none⟩) hb _).setCell (p := ⟨b, 5, none⟩) hb _
theorem below_three {w0 w w' : World} {n p m b : Nat} (h : Below n w0 w) (hF : Fr (three p m b) w w') (hn : n ≤ w.heap.size) (hp : n ≤ p) (hm : n ≤ m) (hb : n ≤ b) : Below n w0 w' :=
  h.trans (hF.below (fun k hk => ⟨by omega, fun c => c.elim (fun e => by omega) (fun c => c.elim (fun e => by omega) (fun e => by omega))⟩))
theorem not_two {p m b : Nat} (h1 : p ≠ m) (h2 : p ≠ b) : ¬ two m b p := fun c => c.elim h1 h2
theorem not_three {k p m b : Nat} (h0 : k ≠ p) (h1 : k ≠ m) (h2 : k ≠ b) : ¬ three p m b k := fun c => c.elim h0 (not_two h1 h2)
end Go.Proofs.Ytijfkpoofpcacaa.StackG
