/-
  A queue of whole numbers: appended at its end, taken at its head; and which slots are in the free list, which in a queue. No program but the numbers' type.
-/
import Derived.Test.YtijfkpoofpcacaaStackI
set_option linter.unusedVariables false
namespace Go.Proofs.Ytijfkpoofpcacaa.QueueI
open Go.RowKit Go.Proofs.YtijfkpoofpcacaaW.PrintWords Go.Proofs.Ytijfkpoofpcacaa.Blk Go.Proofs.Ytijfkpoofpcacaa.StackC Go.Proofs.Ytijfkpoofpcacaa.StackT Go.Proofs.Ytijfkpoofpcacaa.StackP Go.Proofs.Ytijfkpoofpcacaa.PlanC Go.Proofs.Ytijfkpoofpcacaa.PlanD
/-- A queue whose block is not below B, and below D. -/
def QJ (w : World) (B D : Nat) (v : Value) (xs : List Int) : Prop := (Kd.int .i64).Q 3 w B (fun k => k < D) v xs
section
variable {w w' : World} {B D : Nat} {v : Value} {xs : List Int}
theorem QJ.nil (w : World) (B D : Nat) : QJ w B D (.slice none 0 0) [] := Kd.Q_nil _ _ _ _ _
theorem QJ.start (h : QJ w B D v xs) {D' : Nat} (hD : w.heap.size ≤ D') : QJ w B D' v xs := Kd.Q_mono (Kd.Q_bound h) (fun k hk => Nat.lt_of_lt_of_le hk.2.2.1 hD)
theorem QJ.below (h : QJ w B D v xs) (hb : Below w.heap.size w w') : QJ w' B D v xs := Kd.Q_below h hb
theorem QJ.drew (h : QJ w B D v xs) : QJ w.drew B D v xs := Kd.Q_drew h
theorem QJ.fr {P : Nat → Prop} (h : QJ w B D v xs) (hf : Fr P w w') (hP : ∀ k, P k → k < B ∨ D ≤ k) : QJ w' B D v xs :=
  Kd.Q_mono (Kd.Q_move (Kd.Q_bound h) (fun k hk => hf.keep k hk.2.2.1 (fun q => by rcases hP k q with e | e <;> omega))) (fun k hk => hk.1)
theorem QJ.slice (h : QJ w B D v xs) : ∃ A c, v = .slice A xs.length c ∧ xs.length ≤ c := Kd.Q_slice h
theorem QJ.first {A : Option Addr} {n c : Nat} {x : Int} {s : List Int} (h : QJ w B D (.slice A n c) (x :: s)) : n = s.length + 1 ∧ n ≤ c ∧ ∃ b o, A = some ⟨b, o, none⟩ ∧ w.cell? ⟨b, o, none⟩ = some (.int .i64 x) := by
  obtain ⟨e, hc, hC⟩ := Kd.Q_reads' h
  obtain ⟨ad, ha, hcell⟩ := Kd.at_int hC 0 (by omega) (by simp)
  have hc0 : w.cell? (ad.add 0) = some (.int .i64 x) := hcell
  obtain ⟨b, o, spot⟩ := ad
  have hspot : spot = none := by simpa [Addr.add] using World.cell?_spot hc0
  subst hspot
  exact ⟨e, hc, b, o, ha, by simpa [Addr.add] using hc0⟩
theorem QJ.next {A : Option Addr} {n c : Nat} {x : Int} {s : List Int} (h : QJ w B D (.slice A n c) (x :: s)) : QJ w B D (.slice (if c = 1 then A else A.map (·.add 1)) (n - 1) (c - 1)) s := Kd.Q_drop h (k := 1) (by simp)
theorem QJ.next1 {b o n c : Nat} {x : Int} {s : List Int} (h : QJ w B D (.slice (some ⟨b, o, none⟩) n c) (x :: s)) : QJ w B D (.slice (if c = 1 then some ⟨b, o, none⟩ else some ⟨b, o + 1, none⟩) (n - 1) (c - 1)) s := by
  have := h.next
  rwa [show (some (⟨b, o, none⟩ : Addr)).map (·.add 1) = some ⟨b, o + 1, none⟩ from by simp [Addr.add]] at this
theorem QJ.append {P : Program} {ops : Array Oper} {Q' : Exit → Act → World → Prop} {o : Oper} {rest : List Oper} {a : Act} {w0 W : World} {B D : Nat} (hgd : o.guard = none) (s x : Operand) (t : TypeId)
    (ho : o.op = .call { callee := .builtin .append, args := #[s, x], argTypes := #[t, t] })
    (ht : P.underlying t = some (.slice 3)) (hinfo : (P.info? 3).map (fun i => (i.zero, i.size, i.bytes)) = some (some (.int .i64 0), 1, 8))
    (v : Value) (xs : List Int) (y : Int) (hs : a.eval s = v) (hx : a.eval x = .slice (some ⟨W.heap.size, 0, none⟩) 1 1)
    (HO : QJ W B D v xs) (HB : Below B w0 W) (hbase : B ≤ W.heap.size) (hl : (xs.length + 1) * 8 ≤ 140737488355328)
    (h : ∀ v1 w1, QJ w1 B w1.heap.size v1 (xs ++ [y]) → Below B w0 w1 → wpList P ops Q' rest (a.put o.dst v1) w1) :
    wpList P ops Q' (o :: rest) a (W.alloc (.cells #[.int .i64 y] 3)) :=
  Kd.Q_append (Kd.int .i64) B hgd s x t 3 (.int .i64 0) 8 ho ht hinfo rfl (by decide) (by decide) v xs y [.int .i64 y] (fun _ => True) (fun _ => False) hs hx rfl (fun k hk => hk.elim) (fun _ _ => trivial) (Kd.Q_mono HO (fun _ _ => trivial)) HB hbase hl
    (fun v1 w1 h1 h2 _ _ => h v1 w1 (Kd.Q_mono (Kd.Q_bound h1) (fun k hk => hk.2.2.1)) h2)
end
/-- What is in the list L and what is in the queue Q. -/
structure Part (c : Cf) (L Q : List Int) : Prop where
  nd : Q.Nodup
  rg : ∀ x ∈ Q, 0 ≤ x ∧ x < c.S
  ap : ∀ x ∈ Q, x ∉ L
  all : ((L.length + Q.length : Nat) : Int) = c.S
theorem Part.take {c : Cf} {x : Int} {r Q : List Int} (h : Part c (x :: r) Q) (hx : 0 ≤ x ∧ x < c.S) (hn : (x :: r).Nodup) : Part c r (Q ++ [x]) := by
  have hq : x ∉ Q := fun k => h.ap x k (List.mem_cons_self ..)
  refine ⟨?_, ?_, ?_, ?_⟩
  · rw [List.nodup_append]
    exact ⟨h.nd, by simp, fun a ha b hb => by simp at hb; subst hb; exact fun e => hq (e ▸ ha)⟩
  · intro y hy
    rcases List.mem_append.1 hy with q | q
    · exact h.rg y q
    · simp at q; subst q; exact hx
  · intro y hy
    rcases List.mem_append.1 hy with q | q
    · exact fun k => h.ap y q (List.mem_cons_of_mem _ k)
    · simp at q; subst q; exact (List.nodup_cons.1 hn).1
  · have := h.all; simp at this ⊢; omega
theorem Part.lay {c : Cf} {x : Int} {L s : List Int} (h : Part c L (x :: s)) : Part c (x :: L) s := by
  have hn := List.nodup_cons.1 h.nd
  refine ⟨hn.2, fun y hy => h.rg y (List.mem_cons_of_mem _ hy), ?_, ?_⟩
  · intro y hy k
    rcases List.mem_cons.1 k with rfl | k
    · exact hn.1 hy
    · exact h.ap y (List.mem_cons_of_mem _ hy) k
  · have := h.all; simp at this ⊢; omega
end Go.Proofs.Ytijfkpoofpcacaa.QueueI
