/-
  Contracts of slices.Clone and of what copies a memory (layer 2, mem): rows of words of their own; conditions: not more words than a memory may have.
-/
import Derived.Test.YtijfkpoofpcacaaMemC
import Derived.Lib.SliceRun
import Derived.Lib.Walk
import Derived.Laws.AppendOwn
set_option linter.unusedVariables false
namespace Go.Proofs.Ytijfkpoofpcacaa.MemD
open Go.RowKit Go.Lib Go.Proofs.Ytijfkpoofpcacaa.Blk Go.Proofs.Ytijfkpoofpcacaa.Core Go.Proofs.Ytijfkpoofpcacaa.MemC
/-- A row of n words, in block b. -/
structure RowB (w : World) (A : Option Addr) (c b n : Nat) (f : Nat → Int) : Prop where
  cap : n ≤ c
  row : 0 < n → A = some ⟨b, 0, none⟩ ∧ ∃ cs, Blk w b 33 cs ∧ ∀ i, i < n → cs[i]? = some (.int .u64 (f i))
theorem RowB.fr {S : Nat → Prop} {w w' : World} {A c b n f} (h : RowB w A c b n f) (hf : Fr S w w') (hb : ¬ S b) : RowB w' A c b n f := by
  refine ⟨h.cap, fun hn => ?_⟩
  obtain ⟨e, cs, h4, h5⟩ := h.row hn
  exact ⟨e, cs, h4.fr hf hb, h5⟩
theorem RowB.cell {w : World} {A c b n f} (h : RowB w A c b n f) {i : Nat} (hi : i < n) : A = some ⟨b, 0, none⟩ ∧ w.cell? ⟨b, i, none⟩ = some (.int .u64 (f i)) ∧ w.frozen? ⟨b, i, none⟩ = false := by
  obtain ⟨e, cs, h4, h5⟩ := h.row (by omega)
  exact ⟨e, h4.cell (h5 i hi), h4.frozen i⟩
theorem RowB.alloc {w : World} {A c b n f} (h : RowB w A c b n f) (o : Obj) : RowB (w.alloc o) A c b n f := by
  refine ⟨h.cap, fun hn => ?_⟩
  obtain ⟨e, cs, h4, h5⟩ := h.row hn
  exact ⟨e, cs, h4.alloc _, h5⟩
theorem RowB.of_owns {w : World} {base : Nat} {v : Value} {n : Nat} {f : Nat → Int} (h : w.ownsRow base 33 1 v n ((List.range n).map (fun i => Value.int .u64 (f i)))) : ∃ A c b, v = .slice A n c ∧ base ≤ b ∧ RowB w A c b n f := by
  rcases h.2 with ⟨rfl, rfl⟩ | ⟨g, cap, cur, rfl, hb, hg, hn, hc, hs, ht⟩
  · exact ⟨none, 0, base, rfl, Nat.le_refl _, Nat.le_refl _, fun h => absurd h (by decide)⟩
  · refine ⟨_, cap, g, rfl, hb, hn, fun _ => ⟨rfl, cur, hg, fun i hi => ?_⟩⟩
    have := congrArg (fun l => l[i]?) ht
    simp only [List.getElem?_take, Nat.mul_one, hi, if_true] at this
    simpa [hi] using this
set_option maxHeartbeats 2000000 in
set_option maxRecDepth 100000 in
theorem clone_c (w : World) (A : Option Addr) (c b n : Nat) (f : Nat → Int) (h : RowB w A c b n f) (hn : n ≤ 65536) : Calls Try.prog 74 #[.slice A n c] w fun e w' => ∃ A' c' b', e = .returned (.slice A' n c') ∧ w.heap.size ≤ b' ∧ RowB w' A' c' b' n f ∧ Below w.heap.size w w' := by
  obtain ⟨i0, hi, e0⟩ := Option.map_eq_some_iff.1 infoW
  simp only [Prod.mk.injEq] at e0
  obtain ⟨hz0, hz1, hz2⟩ := e0
  have q22 : ∀ (w : World) (a : Option Addr) (n c n' c' : Nat), (binOp .eql 29 (.slice a n c) (.slice none n' c')).run Try.prog w = .ok (.bool a.isNone) w := fun w a n c n' c' => Lib.run_eql_slice_nil w _ _ a n c n' c' Try.underlying29
  cases A with
  | none =>
    have n0 : n = 0 := by
      rcases Nat.eq_zero_or_pos n with e | e
      · exact e
      · exact absurd (h.row e).1 (by simp)
    subst n0
    go_enter Try.func74, Try.ntmps74
    go_wp2
    go_ret
    exact ⟨none, 0, w.heap.size, rfl, Nat.le_refl _, ⟨Nat.le_refl _, fun h => absurd h (by decide)⟩, Below.refl _ _⟩
  | some a =>
    have hA := Lib.hid h
    clear h
    go_enter Try.func74, Try.ntmps74
    go_wp2_with (at_builtin; refine wpList_append_own _ rfl _ _ 29 rfl w.heap.size 33 i0 (.int .u64 0) 1 8 Try.underlying29 hi hz0 hz1 hz2 rfl (by decide) _ _ _ rfl (World.ownsRow_made w #[] 0 (Nat.le_refl _) (Nat.zero_le _) rfl) a n c ((List.range n).map (fun i => Value.int .u64 (f i))) rfl ?qc1 ?qc2 ?qc3 ?qc4 ?qc5 ?qc6 ?_)
    case qc1 => simp
    case qc2 =>
      intro j u hj
      have hjn : j < n := by
        have := (List.getElem?_eq_some_iff.1 hj).1
        simpa using this
      obtain ⟨e, cs, h4, h5⟩ := hA.out.row (by omega)
      cases e
      rw [Addr.add_lit]
      refine Lib.cell?_alloc_some _ ?_
      rw [Nat.zero_add, h4.cell (h5 j hjn)]
      simpa [hjn] using hj
    case qc3 => intro u hu; obtain ⟨x, _, rfl⟩ := List.mem_map.1 hu; rfl
    case qc4 => unfold maxLen; omega
    case qc5 => omega
    case qc6 => simp
    intro v' w1 hown hgrow hnil
    go_wp2
    go_ret
    obtain ⟨A', c', b', rfl, h1, h2⟩ := RowB.of_owns (by simpa using hown)
    exact ⟨A', c', b', rfl, h1, h2, ((Below.refl _ w).alloc (Nat.le_refl _) _).grown hgrow (by simp) (by intro k hk; simp [Value.ownBlock] at hk; omega)⟩
theorem MemB.rowB {w : World} {m b : Nat} {s : Ms} (h : MemB w m b s) : ∃ A c, Blk w m 124 #[.slice A s.n c, .int .i64 s.t, .int .i64 s.k, .int .i64 s.a, .int .u64 s.was, .int .u64 s.now] ∧ RowB w A c b s.n s.f := by
  obtain ⟨A, c, h1, h2, h3⟩ := h.blk
  exact ⟨A, c, h1, h2, h3⟩
theorem RowB.drew {w : World} {A c b n f} (h : RowB w A c b n f) : RowB w.drew A c b n f := ⟨h.cap, h.row⟩
theorem below_undrew {n : Nat} {w w' : World} (h : Below n w.drew w') : Below n w w' := ⟨h.os, h.tape, h.output, h.size, h.block⟩
theorem MemB.six {w : World} {m : Nat} {s : Ms} {A : Option Addr} {c : Nat} (h1 : Blk w m 124 #[.slice A s.n c, .int .i64 s.t, .int .i64 s.k, .int .i64 s.a, .int .u64 s.was, .int .u64 s.now]) :
    w.cell? ⟨m, 0, none⟩ = some (.slice A s.n c) ∧ w.cell? ⟨m, 1, none⟩ = some (.int .i64 s.t) ∧ w.cell? ⟨m, 2, none⟩ = some (.int .i64 s.k) ∧ w.cell? ⟨m, 3, none⟩ = some (.int .i64 s.a) ∧ w.cell? ⟨m, 4, none⟩ = some (.int .u64 s.was) ∧ w.cell? ⟨m, 5, none⟩ = some (.int .u64 s.now) :=
  ⟨h1.cell (i := 0) rfl, h1.cell (i := 1) rfl, h1.cell (i := 2) rfl, h1.cell (i := 3) rfl, h1.cell (i := 4) rfl, h1.cell (i := 5) rfl⟩
theorem words_c (w : World) (m b : Nat) (s : Ms) (h : MemB w m b s) (hn : s.n ≤ 65536) : Calls Try.prog 24 #[.pointer (some ⟨m, 0, none⟩)] w fun e w' => ∃ A c b', e = .returned (.slice A s.n c) ∧ w.heap.size ≤ b' ∧ RowB w' A c b' s.n s.f ∧ Below w.heap.size w w' := by
  obtain ⟨A, c, h1, h2⟩ := MemB.rowB h
  have x0 := h1.cell (i := 0) rfl
  replace h2 := Lib.hid h2
  go_enter Try.func24, Try.ntmps24
  go_wp2_with (go_at_call 74; refine (clone_c _ _ _ _ _ _ h2.out hn).mono ?_; rintro e w' ⟨A', c', b', rfl, g1, g2, g3⟩; replace g2 := Lib.hid g2; replace g3 := Lib.hid g3)
  go_ret
  exact ⟨A', c', b', rfl, g1, g2.out, g3.out⟩
theorem words_nil (w : World) : Calls Try.prog 24 #[.pointer none] w fun e w' => e = .returned (.slice none 0 0) ∧ w = w' := by
  go_enter Try.func24, Try.ntmps24
  go_wp2
  go_ret
  exact ⟨rfl, rfl⟩
def Ms.of (n : Nat) (f : Nat → Int) : Ms := ⟨n, f, 0, 0, 0, 0, 0⟩
theorem RowB.lt {w : World} {A c b n f} (h : RowB w A c b n f) (hn : 0 < n) : b < w.heap.size := by
  obtain ⟨e, cs, h4, h5⟩ := h.row hn
  exact h4.lt
theorem mk_mem (w0 w : World) (A : Option Addr) (c b n : Nat) (f : Nat → Int) (t k a was now : Int) (h : RowB w A c b n f) (hb : w0.heap.size ≤ b) (hw : Below w0.heap.size w0 w) :
    ∃ m' b', (⟨w.heap.size, 0, none⟩ : Addr) = ⟨m', 0, none⟩ ∧ MemB (w.alloc (.cells #[.slice A n c, .int .i64 t, .int .i64 k, .int .i64 a, .int .u64 was, .int .u64 now] 124)) m' b' ⟨n, f, t, k, a, was, now⟩ ∧ w0.heap.size ≤ m' ∧ w0.heap.size ≤ b' ∧ Below w0.heap.size w0 (w.alloc (.cells #[.slice A n c, .int .i64 t, .int .i64 k, .int .i64 a, .int .u64 was, .int .u64 now] 124)) := by
  have lt := hw.size
  rcases Nat.eq_zero_or_pos n with e | e
  · subst e
    exact ⟨w.heap.size, w.heap.size, rfl, ⟨fun h => absurd h (Nat.lt_irrefl 0), by simp, A, c, Blk.new w 124 _, h.cap, fun h => absurd h (Nat.lt_irrefl 0)⟩, lt, lt, hw.alloc lt _⟩
  · have := h.lt e
    refine ⟨w.heap.size, b, rfl, ⟨fun _ => by omega, by simp; omega, A, c, Blk.new w 124 _, h.cap, (h.alloc _).row⟩, lt, hb, hw.alloc lt _⟩
theorem of_c (w : World) (A : Option Addr) (c b n : Nat) (f : Nat → Int) (h : RowB w A c b n f) (hn : n ≤ 65536) : Calls Try.prog 70 #[.slice A n c] w fun e w' => ∃ m b', e = .returned (.pointer (some ⟨m, 0, none⟩)) ∧ MemB w' m b' (Ms.of n f) ∧ w.heap.size ≤ m ∧ w.heap.size ≤ b' ∧ Below w.heap.size w w' := by
  replace h := Lib.hid h
  go_enter Try.func70, Try.ntmps70
  go_wp2_with (go_at_call 74; refine (clone_c _ _ _ _ _ _ h.out hn).mono ?_; rintro e w' ⟨A', c', b', rfl, g1, g2, g3⟩; replace g2 := Lib.hid g2; replace g3 := Lib.hid g3)
  go_ret
  obtain ⟨m', b'', e, r⟩ := mk_mem w w' A' c' b' n f 0 0 0 0 0 g2.out g1 g3.out
  exact ⟨m', b'', by rw [← e]; rfl, r⟩
end Go.Proofs.Ytijfkpoofpcacaa.MemD
